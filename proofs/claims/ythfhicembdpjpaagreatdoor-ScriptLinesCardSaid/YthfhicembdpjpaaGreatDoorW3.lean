/- For each Go function: if its typed Lean form gives some result, the call returns that result (printed by a program of this hand). Condition: the typed form gives some result. -/
import Derived.Test.YthfhicembdpjpaaGreatDoorW2
set_option linter.all false
section
set_option maxRecDepth 100000
set_option maxHeartbeats 0
namespace Go.Abs
open Go Go.Proofs IntKind
variable {mx:MX}
def xH (n:Nat) (r1:((List C4)×Bool)):Nat→(List zh)→(List zi)→Int→Option (Ctl ((List zh)×(List zi)×Int×Int) ((List zh)×(List zi)))
 |0,_,_,_=>none
 | k+1,v230,v231,v232=>
  if(decide (v232<(r1.1.length:Int)))=true then(((xe r1.1 v232).bind fun x314=>
  if(decide ((x314.length:Int)≥10))=true then((xe r1.1 v232).bind fun x315=>
  (ssl x315 0 10).bind fun x316=>
  if(x316==([97,117,116,104,111,114,105,116,121,32]:C4))=true then(some ((v231.length:Int)==0))else(some false))else(some false)).bind fun y318=>
  (if y318=true then((xe r1.1 v232).bind fun x330=>
  (wF n x330).bind fun r331=>
  (jO 80 v230 ([(zh.mk (yq.mk r331.1.pZ.xo) r331.1.XC r331.1.kO r331.1.Yr r331.1.yn)]:List zh)).bind fun x332=>
  some (x332,v231,r331.2))else((xe r1.1 v232).bind fun x333=>
  (xI n x333).bind fun r334=>
  (jO 632 v231 ([(zi.mk r334.1.yA r334.1.bL (zM.mk r334.1.zj.yA r334.1.zj.yH r334.1.zj.xB r334.1.zj.vx (zr.mk r334.1.zj.zb.yk r334.1.zj.zb.jZ r334.1.zj.zb.yw r334.1.zj.zb.yr r334.1.zj.zb.yc r334.1.zj.zb.zH r334.1.zj.zb.yd r334.1.zj.zb.zA r334.1.zj.zb.zD r334.1.zj.zb.zV r334.1.zj.zb.yl r334.1.zj.zb.zz (zv.mk r334.1.zj.zb.zq.ye r334.1.zj.zb.zq.yo) r334.1.zj.zb.zU r334.1.zj.zb.zJ r334.1.zj.zb.yn r334.1.zj.zb.z7 r334.1.zj.zb.yp) r334.1.zj.yZ r334.1.zj.xz r334.1.zj.yX r334.1.zj.w8 r334.1.zj.wa r334.1.zj.w9 r334.1.zj.yV) r334.1.k9 r334.1.ki r334.1.qt r334.1.q8 (yu.mk r334.1.jr.yH r334.1.jr.vV) (zy.mk r334.1.zF.yH r334.1.zF.vJ r334.1.zF.yr r334.1.zF.zH r334.1.zF.vD r334.1.zF.wW r334.1.zF.qK r334.1.zF.yl r334.1.zF.wq r334.1.zF.jL r334.1.zF.vy) r334.1.jB)]:List zi)).bind fun x335=>
  some (v230,x335,r334.2))).bind fun y328=>
  (if(y328.2.2==0)=true then(if(decide ((y328.1.length:Int)>8))=true then(some true)else(some (decide ((y328.2.1.length:Int)>4096))))else(some false)).bind fun y337=>
  (if y337=true then(some 2)else(some y328.2.2)).bind fun y339=>
  if(y339 !=0)=true then(some (.ret (([]:List zh),([]:List zi),wrap .i64 (v232+1),y339)))else(xH n r1 k y328.1 y328.2.1 (wrap .i64 (v232+1))))else(some (.nxt (v230,v231)))
def uq (n:Nat)(a0:C4):Option ((List zh)×(List zi)×Int×Int):=
 if(decide ((a0.length:Int)>1048576))=true then(some (([]:List zh),([]:List zi),0,2))else((ux n a0).bind fun r1=>
 yM (xH n r1 n ([]:List zh) ([]:List zi) 0) (fun r=>some r) (fun y171=>
 if(!r1.2)=true then(some (([]:List zh),([]:List zi),wrap .i64 ((r1.1.length:Int)+1),32))else(some (y171.1,y171.2,0,0))))
theorem Zm {n:Nat} {a0:C4} {r:((List zh)×(List zi)×Int×Int)}:uq n a0=some r→AC mx 8 [qs a0] [] (.tuple [ql 5 zh.cells r.1,ql 50 zi.cells r.2.1,qi r.2.2.1,qi r.2.2.2]) []:=by
 delta uq
 exact fnL Tryz.func8 rfl<|rgL<|rgL<|bFL (rgL<|zg<|rJ J)<|rgL<|rgL<|bEL fun r1 hr1=>rCL (kCL 1 J (Zb hr1) edL)<|rgL<|bcL (fun y171=>⟨95,[(6, .sl 5 (List.map zh.cells y171.1) (.fam 0 (y171.1.length))),(7, .sl 50 (List.map zi.cells y171.2) (.fam 1 (y171.2.length))),(8,ql 1 cS r1.1),(9,qb r1.2)]⟩) (fun y171=>⟨[],[y171.1.length,y171.2.length]⟩) (fun o172 hr173=>w7 (wk (fr':=⟨95,[(6,qn),(7,qn),(8,ql 1 cS r1.1),(9,qb r1.2),(10,qi 0)]⟩) (st':=⟨[],[]⟩) J)<|w7 Wk.nilFam<|w7 Wk.nilFam<|lpL (fun k x=>xH n r1 k x.1 x.2.1 x.2.2) (([]:List zh),([]:List zi),0) Ad (fun x=>⟨95,[(6, .sl 5 (List.map zh.cells x.1) (.fam 0 (x.1.length))),(7, .sl 50 (List.map zi.cells x.2.1) (.fam 1 (x.2.1.length))),(8,ql 1 cS r1.1),(9,qb r1.2),(10,qi x.2.2)]⟩) (fun x=>⟨[],[x.1.length,x.2.1.length]⟩) fun k x=>by obtain⟨v230,v231,v232⟩:=x; rw [xH]; exact rCL (kPL 2 (yg (c:=cS) (l:=r1.1) (e:=9) (sz:=1) (sz':=1) (b:=16) (tok:= .none)) edL)<|bFL (zY<|rgL<|bEL fun y318 hE=>rgF hE ⟨95,[(6, .sl 5 (List.map zh.cells v230) (.fam 0 (v230.length))),(7, .sl 50 (List.map zi.cells v231) (.fam 1 (v231.length))),(8,ql 1 cS r1.1),(9,qb r1.2),(10,qi v232),(46,qb y318)]⟩ ⟨[],[v230.length,v231.length]⟩ (bEL fun x314 hx314=>kPL 2 (zR (c:=cS) (e:=9) (sz:=1) (b:=16) (tok:= .none) hx314)<|gFL 7 34 (bEL fun x315 hx315=>bEL fun x316 hx316=>kPL 9 (zR (c:=cS) (e:=9) (sz:=1) (b:=16) (tok:= .none) hx315)<|kPL 11 (vY (k:= .i64) hx316)<|gFL 15 42 (kPL 16 (yg (c:=zi.cells) (l:=v231) (e:=63) (sz:=50) (sz':=50) (b:=632) (tok:=(.fam 1 (v231.length))))<|eJ Ad)<|eJ Ad)<|eJ Ad)<|cuL (fun y328=>⟨95,[(6, .sl 5 (List.map zh.cells y328.1) (.fam 0 (y328.1.length))),(7, .sl 50 (List.map zi.cells y328.2.1) (.fam 1 (y328.2.1.length))),(8,ql 1 cS r1.1),(9,qb r1.2),(10,qi v232),(11,qi y328.2.2)]⟩) (fun y328=>⟨[],[y328.1.length,y328.2.1.length]⟩) (fun y328=>bFL (rgL<|bEL fun x330 hx330=>bEL fun r331 hr331=>rCL (kPL 2 (zR (c:=cS) (e:=9) (sz:=1) (b:=16) (tok:= .none) hx330)<|kCL 4 Aw (db hr331) edL)<|bEL fun x332 hx332=>xC zI (lfL (fun z=>kA 3 0 zh.cells (e:=44) (e2:=44) (sz:=5) (bytes:=80) (b2:=80) (tok2:= .exact) hx332 z) edL)<|jnL Ax)<|rgL<|bEL fun x333 hx333=>bEL fun r334 hr334=>rCL (kPL 2 (zR (c:=cS) (e:=9) (sz:=1) (b:=16) (tok:= .none) hx333)<|kCL 4 Aw (pi hr334) edL)<|bEL fun x335 hx335=>xC zI (lfL (fun z=>kA 3 1 zi.cells (e:=63) (e2:=63) (sz:=50) (bytes:=632) (b2:=632) (tok2:= .exact) hx335 z) edL)<|jnL Ax) fun y328=>bEL fun y337 hE=>rgF hE ⟨95,[(6, .sl 5 (List.map zh.cells y328.1) (.fam 0 (y328.1.length))),(7, .sl 50 (List.map zi.cells y328.2.1) (.fam 1 (y328.2.1.length))),(8,ql 1 cS r1.1),(9,qb r1.2),(10,qi v232),(11,qi y328.2.2),(82,qb y337)]⟩ ⟨[],[y328.1.length,y328.2.1.length]⟩ (gFL 3 73 (kPL 4 (yg (c:=zh.cells) (l:=y328.1) (e:=44) (sz:=5) (sz':=5) (b:=80) (tok:=(.fam 0 (y328.1.length))))<|gFL 7 77 (eJ Ad)<|kPL 8 (yg (c:=zi.cells) (l:=y328.2.1) (e:=63) (sz:=50) (sz':=50) (b:=632) (tok:=(.fam 1 (y328.2.1.length))))<|eJ Ad)<|eJ Ad)<|cuL (fun y339=>⟨95,[(6, .sl 5 (List.map zh.cells y328.1) (.fam 0 (y328.1.length))),(7, .sl 50 (List.map zi.cells y328.2.1) (.fam 1 (y328.2.1.length))),(8,ql 1 cS r1.1),(9,qb r1.2),(10,qi v232),(11,qi y339)]⟩) (fun y339=>⟨[],[y328.1.length,y328.2.1.length]⟩) (fun y339=>bFL (xi zI<|jnL Ad)<|jnL Ad) fun y339=>rgL<|bFL (rgL<|zg<|yi<|yb<|hvL hr173<|zK<|rJ Ao)<|z8<|xi zI fun h=>⟨(y328.1,y328.2.1,wrap .i64 (v232+1)),h,wk Ad⟩)<|zW<|zS<|zN<|jCL Ad) fun y171=>rgL<|bFL (rCL (kPL 1 (yg (c:=cS) (l:=r1.1) (e:=9) (sz:=1) (sz':=1) (b:=16) (tok:= .none)) edL)<|zg<|rJ Ao)<|rgL<|zg<|rJ Ao
def up (n:Nat)(a0 a1:List zh):Nat→Option (Ctl Bool Unit)
 |0=>none
 | k+1=>
  if(decide ((0:Int)<(a0.length:Int)))=true then(((xe a0 0).bind fun x67=>
  (xe a1 0).bind fun x68=>
  if(!(x67.XC==x68.XC))=true then(some ())else((xe a0 0).bind fun x69=>
  (xe a1 0).bind fun x70=>
  if(x69.kO !=x70.kO)=true then(some ())else((xe a0 0).bind fun x71=>
  (xe a1 0).bind fun x72=>
  if(x71.Yr !=x72.Yr)=true then(some ())else(none)))).bind fun y75=>
  some (.ret false))else(some (.nxt ()))
def vE (n:Nat)(a0 a1:List zh):Option Bool:=
 if((a0.length:Int) !=(a1.length:Int))=true then(some false)else(yM (up n a0 a1 n) (fun r=>some r) (fun y37=>
 some true))
theorem gY {n:Nat} {a0:(List zh)} {a1:(List zh)} {r:Bool}:vE n a0 a1=some r→AC mx 9 [ql 5 zh.cells a0,ql 5 zh.cells a1] [] (qb r) []:=by
 delta vE
 exact fnL Tryz.func9 rfl<|rgL<|rCL (kPL 1 (yg (c:=zh.cells) (l:=a0) (e:=44) (sz:=5) (sz':=5) (b:=80) (tok:= .none))<|kPL 3 (yg (c:=zh.cells) (l:=a1) (e:=44) (sz:=5) (sz':=5) (b:=80) (tok:= .none)) edL)<|bFL (rgL<|zg<|rJ J)<|rgL<|bcL (fun _=>⟨82,[]⟩) (fun _=>⟨[],[]⟩) (fun o38 hr39=>lpL (fun k (_:Unit)=>up n a0 a1 k) () J (fun _=>⟨82,[(0,ql 5 zh.cells a0),(1,ql 5 zh.cells a1),(5,qi 0)]⟩) (fun _=>⟨[],[]⟩) fun k x=>by rw [up]; exact rCL (kPL 2 (yg (c:=zh.cells) (l:=a0) (e:=44) (sz:=5) (sz':=5) (b:=80) (tok:= .none)) edL)<|bFL (zY<|bEL fun y75 hE=>lfL (fun z=>drw [0,1,2,3,4,5,6,7,8,9,10,11,12,13,14,15,16,17,18,19,20,21,22,23,24,25,26,27,28,29,30,31,32,33,34,35,36,37,38,39,40,41,42,43,44,45,46,47,48,49,50,51,52,53,54,55,56,57,58,59,60,61,62,63,64] [48,62] [[],[],[0,1],[0,1,2],[0,1,2,3],[],[],[5,6],[5,6,7],[5,6,7,8],[0,1,2,3,4,5,6,7,8,9],[0,1,2,3,4,5,6,7,8,9,10],[0,1,2,3,4,5,6,7,8,9,10,11],[0,1,2,3,4,5,6,7,8,9,10,11],[0,1,2,3,4,5,6,7,8,9,10,11,12,13],[0,1,2,3,4,5,6,7,8,9,10,11,12,13,14],[0,1,2,3,4,5,6,7,8,9,10,11,12,13,14,15],[0,1,2,3,4,5,6,7,8,9,10,11],[0,1,2,3,4,5,6,7,8,9,10,11],[0,1,2,3,4,5,6,7,8,9,10,11,17,18],[0,1,2,3,4,5,6,7,8,9,10,11,17,18,19],[0,1,2,3,4,5,6,7,8,9,10,11,17,18,19,20],[0,1,2,3,4,5,6,7,8,9,10,11,12,13,14,15,16,17,18,19,20,21],[0,1,2,3,4,5,6,7,8,9,10,11,12,13,14,15,16,17,18,19,20,21,22],[0,1,2,3,4,5,6,7,8,9,10,11,12,13,14,15,16,17,18,19,20,21,22,23],[0,1,2,3,4,5,6,7,8,9,10,11,12,13,14,15,16,17,18,19,20,21,22,23,24],[0,1,2,3,4,5,6,7,8,9,10,11,12,13,14,15,16,17,18,19,20,21,22,23,24],[0,1,2,3,4,5,6,7,8,9,10,11,12,13,14,15,16,17,18,19,20,21,22,23,24,25,26],[0,1,2,3,4,5,6,7,8,9,10,11,12,13,14,15,16,17,18,19,20,21,22,23,24,25,26,27],[0,1,2,3,4,5,6,7,8,9,10,11,12,13,14,15,16,17,18,19,20,21,22,23,24,25,26,27,28],[0,1,2,3,4,5,6,7,8,9,10,11,12,13,14,15,16,17,18,19,20,21,22,23,24],[0,1,2,3,4,5,6,7,8,9,10,11,12,13,14,15,16,17,18,19,20,21,22,23,24],[0,1,2,3,4,5,6,7,8,9,10,11,12,13,14,15,16,17,18,19,20,21,22,23,24,30,31],[0,1,2,3,4,5,6,7,8,9,10,11,12,13,14,15,16,17,18,19,20,21,22,23,24,30,31,32],[0,1,2,3,4,5,6,7,8,9,10,11,12,13,14,15,16,17,18,19,20,21,22,23,24,30,31,32,33],[0,1,2,3,4,5,6,7,8,9,10,11,12,13,14,15,16,17,18,19,20,21,22,23,24,25,26,27,28,29,30,31,32,33,34],[0,1,2,3,4,5,6,7,8,9,10,11,12,13,14,15,16,17,18,19,20,21,22,23,24,25,26,27,28,29,30,31,32,33,34,35],[0,1,2,3,4,5,6,7,8,9,10,11,12,13,14,15,16,17,18,19,20,21,22,23,24,25,26,27,28,29,30,31,32,33,34,35,36],[0,1,2,3,4,5,6,7,8,9,10,11,12,13,14,15,16,17,18,19,20,21,22,23,24,25,26,27,28,29,30,31,32,33,34,35,36,37],[0,1,2,3,4,5,6,7,8,9,10,11,12,13,14,15,16,17,18,19,20,21,22,23,24,25,26,27,28,29,30,31,32,33,34,35,36,37],[0,1,2,3,4,5,6,7,8,9,10,11,12,13,14,15,16,17,18,19,20,21,22,23,24,25,26,27,28,29,30,31,32,33,34,35,36,37,38,39],[0,1,2,3,4,5,6,7,8,9,10,11,12,13,14,15,16,17,18,19,20,21,22,23,24,25,26,27,28,29,30,31,32,33,34,35,36,37,38,39,40],[0,1,2,3,4,5,6,7,8,9,10,11,12,13,14,15,16,17,18,19,20,21,22,23,24,25,26,27,28,29,30,31,32,33,34,35,36,37,38,39,40,41],[0,1,2,3,4,5,6,7,8,9,10,11,12,13,14,15,16,17,18,19,20,21,22,23,24,25,26,27,28,29,30,31,32,33,34,35,36,37],[0,1,2,3,4,5,6,7,8,9,10,11,12,13,14,15,16,17,18,19,20,21,22,23,24,25,26,27,28,29,30,31,32,33,34,35,36,37],[0,1,2,3,4,5,6,7,8,9,10,11,12,13,14,15,16,17,18,19,20,21,22,23,24,25,26,27,28,29,30,31,32,33,34,35,36,37,43,44],[0,1,2,3,4,5,6,7,8,9,10,11,12,13,14,15,16,17,18,19,20,21,22,23,24,25,26,27,28,29,30,31,32,33,34,35,36,37,43,44,45],[0,1,2,3,4,5,6,7,8,9,10,11,12,13,14,15,16,17,18,19,20,21,22,23,24,25,26,27,28,29,30,31,32,33,34,35,36,37,43,44,45,46],[0,1,2,3,4,5,6,7,8,9,10,11,12,13,14,15,16,17,18,19,20,21,22,23,24,25,26,27,28,29,30,31,32,33,34,35,36,37,38,39,40,41,42,43,44,45,46,47],[0,1,2,3,4,5,6,7,8,9,10,11,12,13,14,15,16,17,18,19,20,21,22,23,24,25,26,27,28,29,30,31,32,33,34,35,36,37,38,39,40,41,42,43,44,45,46,47,48],[0,1,2,3,4,5,6,7,8,9,10,11,12,13,14,15,16,17,18,19,20,21,22,23,24,25,26,27,28,29,30,31,32,33,34,35,36,37,38,39,40,41,42,43,44,45,46,47,48,49],[0,1,2,3,4,5,6,7,8,9,10,11,12,13,14,15,16,17,18,19,20,21,22,23,24,25,26,27,28,29,30,31,32,33,34,35,36,37,38,39,40,41,42,43,44,45,46,47,48,49,50],[0,1,2,3,4,5,6,7,8,9,10,11,12,13,14,15,16,17,18,19,20,21,22,23,24,25,26,27,28,29,30,31,32,33,34,35,36,37,38,39,40,41,42,43,44,45,46,47,48,49,50,51],[0,1,2,3,4,5,6,7,8,9,10,11,12,13,14,15,16,17,18,19,20,21,22,23,24,25,26,27,28,29,30,31,32,33,34,35,36,37,38,39,40,41,42,43,44,45,46,47,48,49,50,51],[0,1,2,3,4,5,6,7,8,9,10,11,12,13,14,15,16,17,18,19,20,21,22,23,24,25,26,27,28,29,30,31,32,33,34,35,36,37,38,39,40,41,42,43,44,45,46,47,48,49,50,51,52,53],[0,1,2,3,4,5,6,7,8,9,10,11,12,13,14,15,16,17,18,19,20,21,22,23,24,25,26,27,28,29,30,31,32,33,34,35,36,37,38,39,40,41,42,43,44,45,46,47,48,49,50,51,52,53,54],[0,1,2,3,4,5,6,7,8,9,10,11,12,13,14,15,16,17,18,19,20,21,22,23,24,25,26,27,28,29,30,31,32,33,34,35,36,37,38,39,40,41,42,43,44,45,46,47,48,49,50,51,52,53,54,55],[0,1,2,3,4,5,6,7,8,9,10,11,12,13,14,15,16,17,18,19,20,21,22,23,24,25,26,27,28,29,30,31,32,33,34,35,36,37,38,39,40,41,42,43,44,45,46,47,48,49,50,51],[0,1,2,3,4,5,6,7,8,9,10,11,12,13,14,15,16,17,18,19,20,21,22,23,24,25,26,27,28,29,30,31,32,33,34,35,36,37,38,39,40,41,42,43,44,45,46,47,48,49,50,51],[0,1,2,3,4,5,6,7,8,9,10,11,12,13,14,15,16,17,18,19,20,21,22,23,24,25,26,27,28,29,30,31,32,33,34,35,36,37,38,39,40,41,42,43,44,45,46,47,48,49,50,51,57,58],[0,1,2,3,4,5,6,7,8,9,10,11,12,13,14,15,16,17,18,19,20,21,22,23,24,25,26,27,28,29,30,31,32,33,34,35,36,37,38,39,40,41,42,43,44,45,46,47,48,49,50,51,57,58,59],[0,1,2,3,4,5,6,7,8,9,10,11,12,13,14,15,16,17,18,19,20,21,22,23,24,25,26,27,28,29,30,31,32,33,34,35,36,37,38,39,40,41,42,43,44,45,46,47,48,49,50,51,57,58,59,60],[0,1,2,3,4,5,6,7,8,9,10,11,12,13,14,15,16,17,18,19,20,21,22,23,24,25,26,27,28,29,30,31,32,33,34,35,36,37,38,39,40,41,42,43,44,45,46,47,48,49,50,51,52,53,54,55,56,57,58,59,60,61],[0,1,2,3,4,5,6,7,8,9,10,11,12,13,14,15,16,17,18,19,20,21,22,23,24,25,26,27,28,29,30,31,32,33,34,35,36,37,38,39,40,41,42,43,44,45,46,47,48,49,50,51,52,53,54,55,56,57,58,59,60,61,62],[0,1,2,3,4,5,6,7,8,9,10,11,12,13,14,15,16,17,18,19,20,21,22,23,24,25,26,27,28,29,30,31,32,33,34,35,36,37,38,39,40,41,42,43,44,45,46,47,48,49,50,51,52,53,54,55,56,57,58,59,60,61,62,63]] ⟨82,[(0,ql 5 zh.cells a0),(1,ql 5 zh.cells a1),(5,qi 0),(81,qb true)]⟩ ⟨[],[]⟩ (have h:=hE; bE h fun x67 hx67 h=>bE h fun x68 hx68 h=>dS [0,1]<|dP (zR (c:=zh.cells) (e:=44) (sz:=5) (b:=80) (tok:= .none) hx67)<|dS [3,4,5,6]<|dP (zR (c:=zh.cells) (e:=44) (sz:=5) (b:=80) (tok:= .none) hx68)<|dS [8,9,10,11]<|hF 28 h (fun h=>dS [12,13,14,15,16,17,18,19,20,21,22,23,24,25,26,27,28,29,30,31,32,33,34,35,36,37,38,39,40,41,42,43,44,45,46,47]<|dF (zL 7 (zR (c:=zh.cells) (e:=44) (sz:=5) (b:=80) (tok:= .none) hx68) (zL 2 (zR (c:=zh.cells) (e:=44) (sz:=5) (b:=80) (tok:= .none) hx67) yU))<|dS [49,50,51,52,53,54,55,56,57,58,59,60,61]<|dF (zL 7 (zR (c:=zh.cells) (e:=44) (sz:=5) (b:=80) (tok:= .none) hx68) (zL 2 (zR (c:=zh.cells) (e:=44) (sz:=5) (b:=80) (tok:= .none) hx67) yU))<|dS [63,64]<|by cases h; exact dE J) fun h=>bE h fun x69 hx69 h=>bE h fun x70 hx70 h=>dS [12,13]<|dP (zR (c:=zh.cells) (e:=44) (sz:=5) (b:=80) (tok:= .none) hx69)<|dS [15,16,17,18]<|dP (zR (c:=zh.cells) (e:=44) (sz:=5) (b:=80) (tok:= .none) hx70)<|dS [20,21,22,23,24]<|hF 41 h (fun h=>dS [25,26,27,28,29,30,31,32,33,34,35,36,37,38,39,40,41,42,43,44,45,46,47]<|dF (zL 19 (zR (c:=zh.cells) (e:=44) (sz:=5) (b:=80) (tok:= .none) hx70) (zL 14 (zR (c:=zh.cells) (e:=44) (sz:=5) (b:=80) (tok:= .none) hx69) (zL 7 (zR (c:=zh.cells) (e:=44) (sz:=5) (b:=80) (tok:= .none) hx68) (zL 2 (zR (c:=zh.cells) (e:=44) (sz:=5) (b:=80) (tok:= .none) hx67) yU))))<|dS [49,50,51,52,53,54,55,56,57,58,59,60,61]<|dF (zL 19 (zR (c:=zh.cells) (e:=44) (sz:=5) (b:=80) (tok:= .none) hx70) (zL 14 (zR (c:=zh.cells) (e:=44) (sz:=5) (b:=80) (tok:= .none) hx69) (zL 7 (zR (c:=zh.cells) (e:=44) (sz:=5) (b:=80) (tok:= .none) hx68) (zL 2 (zR (c:=zh.cells) (e:=44) (sz:=5) (b:=80) (tok:= .none) hx67) yU))))<|dS [63,64]<|by cases h; exact dE J) fun h=>bE h fun x71 hx71 h=>bE h fun x72 hx72 h=>dS [25,26]<|dP (zR (c:=zh.cells) (e:=44) (sz:=5) (b:=80) (tok:= .none) hx71)<|dS [28,29,30,31]<|dP (zR (c:=zh.cells) (e:=44) (sz:=5) (b:=80) (tok:= .none) hx72)<|dS [33,34,35,36,37]<|hF 54 h (fun h=>dS [38,39,40,41,42,43,44,45,46,47]<|dF (zL 32 (zR (c:=zh.cells) (e:=44) (sz:=5) (b:=80) (tok:= .none) hx72) (zL 27 (zR (c:=zh.cells) (e:=44) (sz:=5) (b:=80) (tok:= .none) hx71) (zL 19 (zR (c:=zh.cells) (e:=44) (sz:=5) (b:=80) (tok:= .none) hx70) (zL 14 (zR (c:=zh.cells) (e:=44) (sz:=5) (b:=80) (tok:= .none) hx69) (zL 7 (zR (c:=zh.cells) (e:=44) (sz:=5) (b:=80) (tok:= .none) hx68) (zL 2 (zR (c:=zh.cells) (e:=44) (sz:=5) (b:=80) (tok:= .none) hx67) yU))))))<|dS [49,50,51,52,53,54,55,56,57,58,59,60,61]<|dF (zL 32 (zR (c:=zh.cells) (e:=44) (sz:=5) (b:=80) (tok:= .none) hx72) (zL 27 (zR (c:=zh.cells) (e:=44) (sz:=5) (b:=80) (tok:= .none) hx71) (zL 19 (zR (c:=zh.cells) (e:=44) (sz:=5) (b:=80) (tok:= .none) hx70) (zL 14 (zR (c:=zh.cells) (e:=44) (sz:=5) (b:=80) (tok:= .none) hx69) (zL 7 (zR (c:=zh.cells) (e:=44) (sz:=5) (b:=80) (tok:= .none) hx68) (zL 2 (zR (c:=zh.cells) (e:=44) (sz:=5) (b:=80) (tok:= .none) hx67) yU))))))<|dS [63,64]<|by cases h; exact dE J) fun h=>nE h) z)<|bTL<|rgL<|zg<|yi<|yb<|hvL hr39<|zK<|rJ J)<|zW<|zS<|zN<|jCL J) fun y37=>rgL<|zg<|rJ J
def vK (n:Nat)(a0:Int):Option Bool:=
 (if(decide (a0≥(-1)))=true then(some (decide (a0≤64)))else(some false)).bind fun y2=>
 some y2
theorem jc {n:Nat} {a0:Int} {r:Bool}:vK n a0=some r→AC mx 261 [qi a0] [] (qb r) []:=by
 delta vK
 exact fnL Tryz.func261 rfl<|rgL<|bEL fun y2 hE=>rgF hE ⟨9,[(2,qb y2)]⟩ ⟨[],[]⟩ (gFL 3 5 (eJ J)<|eJ J)<|zg<|rJ J
def vF (n:Nat)(v149:Int)(a0:List C4)(x245:C4):Nat→Int→Option (Ctl Int Unit)
 |0,_=>none
 | k+1,v259=>
  if(decide (v259<v149))=true then((xe a0 v259).bind fun x263=>
  if(x263==x245)=true then(some (.ret 10))else(vF n v149 a0 x245 k (wrap .i64 (v259+1))))else(some (.nxt ()))
def vG (n:Nat)(a0:List C4):Nat→Int→Option (Ctl Int Unit)
 |0,_=>none
 | k+1,v149=>
  if(decide (v149<(a0.length:Int)))=true then((xe a0 v149).bind fun x245=>
  (yJ n x245).bind fun r246=>
  if(!r246)=true then(some (.ret 11))else(yM (vF n v149 a0 x245 n 0) (fun r=>some (.ret r)) (fun y254=>
  vG n a0 k (wrap .i64 (v149+1)))))else(some (.nxt ()))
def uu (n:Nat)(a0:List C4)(a1:Int):Option Int:=
 if(decide ((a0.length:Int)>a1))=true then(some 2)else(yM (vG n a0 n 0) (fun r=>some r) (fun y131=>
 some 0))
theorem kc {n:Nat} {a0:(List C4)} {a1:Int} {r:Int}:uu n a0 a1=some r→AC mx 262 [ql 1 cS a0,qi a1] [] (qi r) []:=by
 delta uu
 exact fnL Tryz.func262 rfl<|rgL<|rCL (kPL 1 (yg (c:=cS) (l:=a0) (e:=9) (sz:=1) (sz':=1) (b:=16) (tok:= .none)) edL)<|bFL (rgL<|zg<|rJ J)<|rCL (kPL 1 (yg (c:=cS) (l:=a0) (e:=9) (sz:=1) (sz':=1) (b:=16) (tok:= .none)) edL)<|bcL (fun _=>⟨34,[]⟩) (fun _=>⟨[],[]⟩) (fun o132 hr133=>lpL (fun k x=>vG n a0 k x) 0 J (fun x=>⟨34,[(0,ql 1 cS a0),(12,ql 1 cS a0),(13,qi (a0.length:Int)),(14,qi x)]⟩) (fun x=>⟨[],[]⟩) fun k v149=>by rw [vG]; exact rgL<|bFL (zY<|bEL fun x245 hx245=>rCL (kPL 1 (zR (c:=cS) (e:=9) (sz:=1) (b:=16) (tok:= .none) hx245) edL)<|bEL fun r246 hr246=>rCL (kCL 1 J (xG hr246) edL)<|bFL (rgL<|zg<|yi<|yb<|hvL hr133<|zK<|rJ J)<|rgL<|Gw yF (fun _=>⟨34,[(0,ql 1 cS a0),(12,ql 1 cS a0),(13,qi (a0.length:Int)),(14,qi v149)]⟩) (fun _=>⟨[],[]⟩) (fun o255 hr256=>lpL (fun k x=>vF n v149 a0 x245 k x) 0 J (fun x=>⟨34,[(0,ql 1 cS a0),(5,qi v149),(6,qs x245),(7,qi x),(12,ql 1 cS a0),(13,qi (a0.length:Int)),(14,qi v149)]⟩) (fun x=>⟨[],[]⟩) fun k v259=>by rw [vF]; exact rgL<|bFL (zY<|bEL fun x263 hx263=>rCL (kPL 2 (zR (c:=cS) (e:=9) (sz:=1) (b:=16) (tok:= .none) hx263) edL)<|bFL (rgL<|zg<|yi<|yb<|hvL hr256<|zK<|yi<|yb<|hvL hr133<|zK<|rJ J)<|z8<|xi zI fun h=>⟨wrap .i64 (v259+1),h,wk J⟩)<|zW<|zS<|zN<|jCL J) fun y254=>z8<|xi zI fun h=>⟨wrap .i64 (v149+1),h,wk J⟩)<|zW<|zS<|zN<|jCL J) fun y131=>rgL<|zg<|rJ J
def wP (n:Nat)(v185:Int)(a0:List zw)(x296:zw):Nat→Int→Option (Ctl Int Unit)
 |0,_=>none
 | k+1,v313=>
  if(decide (v313<v185))=true then((xe a0 v313).bind fun x317=>
  if(x317.uX==x296.uX&&(x317.dt==x296.dt&&true))=true then(some (.ret 10))else(wP n v185 a0 x296 k (wrap .i64 (v313+1))))else(some (.nxt ()))
def wQ (n:Nat)(a0:List zw):Nat→Int→Option (Ctl Int Unit)
 |0,_=>none
 | k+1,v185=>
  if(decide (v185<(a0.length:Int)))=true then((xe a0 v185).bind fun x296=>
  ((yJ n x296.uX).bind fun r297=>
  if(!r297)=true then(some true)else((yJ n x296.dt).bind fun r298=>
  some (!r298))).bind fun y300=>
  if y300=true then(some (.ret 11))else(yM (wP n v185 a0 x296 n 0) (fun r=>some (.ret r)) (fun y308=>
  wQ n a0 k (wrap .i64 (v185+1)))))else(some (.nxt ()))
def u7 (n:Nat)(a0:List zw):Option Int:=
 if(decide ((a0.length:Int)>8))=true then(some 2)else(yM (wQ n a0 n 0) (fun r=>some r) (fun y158=>
 some 0))
theorem gH {n:Nat} {a0:(List zw)} {r:Int}:u7 n a0=some r→AC mx 263 [ql 2 zw.cells a0] [] (qi r) []:=by
 delta u7
 exact fnL Tryz.func263 rfl<|rgL<|rCL (kPL 1 (yg (c:=zw.cells) (l:=a0) (e:=220) (sz:=2) (sz':=2) (b:=32) (tok:= .none)) edL)<|bFL (rgL<|zg<|rJ J)<|rCL (kPL 1 (yg (c:=zw.cells) (l:=a0) (e:=220) (sz:=2) (sz':=2) (b:=32) (tok:= .none)) edL)<|bcL (fun _=>⟨38,[]⟩) (fun _=>⟨[],[]⟩) (fun o159 hr160=>lpL (fun k x=>wQ n a0 k x) 0 J (fun x=>⟨38,[(0,ql 2 zw.cells a0),(9,ql 2 zw.cells a0),(10,qi (a0.length:Int)),(11,qi x)]⟩) (fun x=>⟨[],[]⟩) fun k v185=>by rw [wQ]; exact rgL<|bFL (zY<|bEL fun x296 hx296=>rCL (kPL 1 (zR (c:=zw.cells) (e:=220) (sz:=2) (b:=32) (tok:= .none) hx296) edL)<|bEL fun y300 hE=>rgF hE ⟨38,[(0,ql 2 zw.cells a0),(3,qi v185),(4,qp 0),(9,ql 2 zw.cells a0),(10,qi (a0.length:Int)),(11,qi v185),(25,qb y300)]⟩ ⟨[zw.cells x296],[]⟩ (bEL fun r297 hr297=>kCL 2 A0 (xG hr297)<|gFL 5 20 (eJ O)<|bEL fun r298 hr298=>kCL 7 A0 (xG hr298)<|eJ O)<|bFL (rgL<|zg<|yi<|yb<|hvL hr160<|zK<|rJ A0)<|rgL<|Gw yF (fun _=>⟨38,[(0,ql 2 zw.cells a0),(9,ql 2 zw.cells a0),(10,qi (a0.length:Int)),(11,qi v185)]⟩) (fun _=>⟨[],[]⟩) (fun o309 hr310=>lpL (fun k x=>wP n v185 a0 x296 k x) 0 O (fun x=>⟨38,[(0,ql 2 zw.cells a0),(3,qi v185),(4,qp 0),(5,qi x),(9,ql 2 zw.cells a0),(10,qi (a0.length:Int)),(11,qi v185)]⟩) (fun x=>⟨[zw.cells x296],[]⟩) fun k v313=>by rw [wP]; exact rgL<|bFL (zY<|bEL fun x317 hx317=>lfL (fun z=>zs [0,1,2,3,4,5] [] [[],[],[0,1],[0,1,2],[],[0,1,2,3,4]] [0,3,5,9,10,11] [(4,qp 0),(36,qb (x317.uX==x296.uX&&(x317.dt==x296.dt&&true)))] (dS [0,1]<|dP (zR (c:=zw.cells) (e:=220) (sz:=2) (b:=32) (tok:= .none) hx317)<|dS [3,4,5]<|dE O) z)<|bFL (rgL<|zg<|yi<|yb<|hvL hr310<|zK<|yi<|yb<|hvL hr160<|zK<|rJ A0)<|z8<|xi zI fun h=>⟨wrap .i64 (v313+1),h,wk O⟩)<|zW<|zS<|zN<|jCL A0) fun y308=>z8<|xi zI fun h=>⟨wrap .i64 (v185+1),h,wk J⟩)<|zW<|zS<|zN<|jCL J) fun y158=>rgL<|zg<|rJ J
def u6 (n:Nat)(a0:List za):Nat→Option (Ctl Int Unit)
 |0=>none
 | k+1=>
  if(decide ((0:Int)<(a0.length:Int)))=true then(none)else(some (.nxt ()))
def ud (n:Nat)(a0:List za):Option Int:=
 if(decide ((a0.length:Int)>16))=true then(some 2)else(yM (u6 n a0 n) (fun r=>some r) (fun y3=>
 some 0))
theorem qP {n:Nat} {a0:(List za)} {r:Int}:ud n a0=some r→AC mx 243 [ql 3 za.cells a0] [] (qi r) []:=by
 delta ud
 exact fnL Tryz.func243 rfl<|rgL<|rCL (kPL 1 (yg (c:=za.cells) (l:=a0) (e:=213) (sz:=3) (sz':=3) (b:=48) (tok:= .none)) edL)<|bFL (rgL<|zg<|rJ J)<|rCL (kPL 1 (yg (c:=za.cells) (l:=a0) (e:=213) (sz:=3) (sz':=3) (b:=48) (tok:= .none)) edL)<|bcL (fun _=>⟨21,[]⟩) (fun _=>⟨[],[]⟩) (fun o4 hr5=>lpL (fun k (_:Unit)=>u6 n a0 k) () J (fun _=>⟨21,[(9,ql 3 za.cells a0),(10,qi (a0.length:Int)),(11,qi 0)]⟩) (fun _=>⟨[],[]⟩) fun k x=>by rw [u6]; exact rgL<|bFL nEL<|zW<|zS<|zN<|jCL J) fun y3=>rgL<|zg<|rJ J
def vg (n:Nat)(a0:List zn):Nat→Int→Option (Ctl Int Unit)
 |0,_=>none
 | k+1,v77=>
  if(decide (v77<(a0.length:Int)))=true then(yM ((xe a0 v77).bind fun x109=>
  (if((x109.yl.length:Int)==0)=true then(if(!x109.bj)=true then(some true)else(if(!x109.bj)=true then(some (decide ((x109.uX.xo.length:Int)>0)))else(some false)))else(if(!x109.bj)=true then(some (decide ((x109.uX.xo.length:Int)>0)))else(some false))).bind fun y111=>
  if y111=true then(some (.ret 7))else(if((cM .i64 x109.Y5 510) !=0)=true then(some (.ret 1))else((ud n x109.yl).bind fun r112=>
  if(r112 !=0)=true then(some (.ret r112))else(if x109.bj=true then(if((x109.uX.xo.length:Int)==0)=true then(some (.ret 14))else((wx n (yq.mk x109.uX.xo)).bind fun r113=>
  if(r113 !=0)=true then(some (.ret r113))else(some (.nxt ()))))else(some (.nxt ())))))) (fun r=>some (.ret r)) (fun y106=>
  vg n a0 k (wrap .i64 (v77+1))))else(some (.nxt ()))
def vT (n:Nat)(a0:List zn):Option Int:=
 if(decide ((a0.length:Int)>4))=true then(some 2)else(yM (vg n a0 n 0) (fun r=>some r) (fun y56=>
 some 0))
theorem qI {n:Nat} {a0:(List zn)} {r:Int}:vT n a0=some r→AC mx 118 [ql 4 zn.cells a0] [] (qi r) []:=by
 delta vT
 exact fnL Tryz.func118 rfl<|rgL<|rCL (kPL 1 (yg (c:=zn.cells) (l:=a0) (e:=118) (sz:=4) (sz':=4) (b:=64) (tok:= .none)) edL)<|bFL (rgL<|zg<|rJ J)<|rCL (kPL 1 (yg (c:=zn.cells) (l:=a0) (e:=118) (sz:=4) (sz':=4) (b:=64) (tok:= .none)) edL)<|bcL (fun _=>⟨61,[]⟩) (fun _=>⟨[],[]⟩) (fun o57 hr58=>lpL (fun k x=>vg n a0 k x) 0 J (fun x=>⟨61,[(10,ql 4 zn.cells a0),(11,qi (a0.length:Int)),(12,qi x)]⟩) (fun x=>⟨[],[]⟩) fun k v77=>by rw [vg]; exact rgL<|bFL (bcL (fun _=>⟨61,[(10,ql 4 zn.cells a0),(11,qi (a0.length:Int)),(12,qi v77)]⟩) (fun _=>⟨[],[]⟩) (fun o107 hr108=>bEL fun x109 hx109=>rCL (kPL 0 (zR (c:=zn.cells) (e:=118) (sz:=4) (b:=64) (tok:= .none) hx109) edL)<|bEL fun y111 hE=>rgF hE ⟨61,[(4,qp 0),(10,ql 4 zn.cells a0),(11,qi (a0.length:Int)),(12,qi v77),(36,qb y111)]⟩ ⟨[zn.cells x109],[]⟩ (kPL 2 (yg (c:=za.cells) (l:=x109.yl) (e:=213) (sz:=3) (sz':=3) (b:=48) (tok:= .none))<|gFL 5 20 (gFL 10 25 (eJ O)<|gFL 14 29 (kPL 17 (yg (c:=(cL 3 zc.cells)) (l:=x109.uX.xo) (e:=83) (sz:=1) (sz':=1) (b:=24) (tok:= .none))<|eJ O)<|eJ O)<|gFL 14 29 (kPL 17 (yg (c:=(cL 3 zc.cells)) (l:=x109.uX.xo) (e:=83) (sz:=1) (sz':=1) (b:=24) (tok:= .none))<|eJ O)<|eJ O)<|bFL (rgL<|zg<|hvL hr108<|zK<|yb<|hvL hr58<|zK<|rJ A0)<|rgL<|bFL (rgL<|zg<|hvL hr108<|zK<|yb<|hvL hr58<|zK<|rJ A0)<|bEL fun r112 hr112=>rCL (kCL 2 A0 (qP hr112) edL)<|rgL<|bFL (rgL<|zg<|hvL hr108<|zK<|yb<|hvL hr58<|zK<|rJ A0)<|rgL<|bFL (rCL (kPL 3 (yg (c:=(cL 3 zc.cells)) (l:=x109.uX.xo) (e:=83) (sz:=1) (sz':=1) (b:=24) (tok:= .none)) edL)<|bFL (rgL<|zg<|hvL hr108<|zK<|yb<|hvL hr58<|zK<|rJ A0)<|bEL fun r113 hr113=>rCL (kCL 2 A0 (ke hr113) edL)<|rgL<|bFL (rgL<|zg<|hvL hr108<|zK<|yb<|hvL hr58<|zK<|rJ A0)<|jCL A0)<|jCL A0) fun y106=>xi zI fun h=>⟨wrap .i64 (v77+1),h,wk J⟩)<|zW<|zS<|zN<|jCL J) fun y56=>rgL<|zg<|rJ J
def uR (n:Nat) (y3:((List Bool)×Int)):Nat→Int→Int→Option Int
 |0,_,_=>none
 | k+1,v33,v34=>
  if(decide (v34<y3.2))=true then(((xe y3.1 v34).bind fun x46=>
  if x46=true then(some (wrap .i64 (v33+1)))else(some v33)).bind fun y44=>
  uR n y3 k y44 (wrap .i64 (v34+1)))else(some v33)
def kD (n:Nat)(a0:zr):Option Int:=
 (if(decide (a0.zA≥0))=true then(some (([a0.yk,a0.yr !=0,decide ((a0.yc.length:Int)>0),decide ((a0.zH.length:Int)>0),decide ((a0.yd.length:Int)>0),true,decide (a0.zV≥0),decide ((a0.yl.length:Int)>0),a0.zz, !(a0.zU==([]:C4)), !(a0.zJ==([]:C4)),decide ((a0.yn.length:Int)>0),decide ((a0.z7.length:Int)>0)]:List Bool),(List.length ([a0.yk,a0.yr !=0,decide ((a0.yc.length:Int)>0),decide ((a0.zH.length:Int)>0),decide ((a0.yd.length:Int)>0),true,decide (a0.zV≥0),decide ((a0.yl.length:Int)>0),a0.zz, !(a0.zU==([]:C4)), !(a0.zJ==([]:C4)),decide ((a0.yn.length:Int)>0),decide ((a0.z7.length:Int)>0)]:List Bool):Int)))else(some (([a0.yk,a0.yr !=0,decide ((a0.yc.length:Int)>0),decide ((a0.zH.length:Int)>0),decide ((a0.yd.length:Int)>0),decide (a0.zD≥0),decide (a0.zV≥0),decide ((a0.yl.length:Int)>0),a0.zz, !(a0.zU==([]:C4)), !(a0.zJ==([]:C4)),decide ((a0.yn.length:Int)>0),decide ((a0.z7.length:Int)>0)]:List Bool),(List.length ([a0.yk,a0.yr !=0,decide ((a0.yc.length:Int)>0),decide ((a0.zH.length:Int)>0),decide ((a0.yd.length:Int)>0),decide (a0.zD≥0),decide (a0.zV≥0),decide ((a0.yl.length:Int)>0),a0.zz, !(a0.zU==([]:C4)), !(a0.zJ==([]:C4)),decide ((a0.yn.length:Int)>0),decide ((a0.z7.length:Int)>0)]:List Bool):Int)))).bind fun y3=>
 (uR n y3 n (a0.yp.length:Int) 0).bind fun y25=>
 some y25
theorem Zj {n:Nat} {a0:zr} {r:Int}:kD n a0=some r→AC mx 265 [.agg (zr.cells a0)] [] (qi r) []:=by
 delta kD
 exact fnL Tryz.func265 rfl<|rgL<|rCL (kPL 2 (yg (c:=zf.cells) (l:=a0.yp) (e:=123) (sz:=3) (sz':=3) (b:=40) (tok:= .none)) edL)<|bEL fun y3 hE=>rgF hE ⟨68,[(3,qi (a0.yp.length:Int)),(57,ql 1 cB y3.1),(58,qi y3.2),(59,qi 0)]⟩ ⟨[],[]⟩ (kPL 7 (yg (c:=cS) (l:=a0.yc) (e:=9) (sz:=1) (sz':=1) (b:=16) (tok:= .none))<|kPL 11 (yg (c:=cS) (l:=a0.zH) (e:=9) (sz:=1) (sz':=1) (b:=16) (tok:= .none))<|kPL 15 (yg (c:=zw.cells) (l:=a0.yd) (e:=220) (sz:=2) (sz':=2) (b:=32) (tok:= .none))<|gFL 21 29 (kPL 30 (yg (c:=za.cells) (l:=a0.yl) (e:=213) (sz:=3) (sz':=3) (b:=48) (tok:= .none))<|kPL 42 (yg (c:=zn.cells) (l:=a0.yn) (e:=118) (sz:=4) (sz':=4) (b:=64) (tok:= .none))<|kPL 46 (yg (c:=zn.cells) (l:=a0.z7) (e:=118) (sz:=4) (sz':=4) (b:=64) (tok:= .none))<|kPL 49 (yg (c:=cB) (l:=([a0.yk,a0.yr !=0,decide ((a0.yc.length:Int)>0),decide ((a0.zH.length:Int)>0),decide ((a0.yd.length:Int)>0),true,decide (a0.zV≥0),decide ((a0.yl.length:Int)>0),a0.zz, !(a0.zU==([]:C4)), !(a0.zJ==([]:C4)),decide ((a0.yn.length:Int)>0),decide ((a0.z7.length:Int)>0)]:List Bool)) (e:=4) (sz:=1) (sz':=1) (b:=1) (tok:= .exact))<|eJ A0)<|kPL 30 (yg (c:=za.cells) (l:=a0.yl) (e:=213) (sz:=3) (sz':=3) (b:=48) (tok:= .none))<|kPL 42 (yg (c:=zn.cells) (l:=a0.yn) (e:=118) (sz:=4) (sz':=4) (b:=64) (tok:= .none))<|kPL 46 (yg (c:=zn.cells) (l:=a0.z7) (e:=118) (sz:=4) (sz':=4) (b:=64) (tok:= .none))<|kPL 49 (yg (c:=cB) (l:=([a0.yk,a0.yr !=0,decide ((a0.yc.length:Int)>0),decide ((a0.zH.length:Int)>0),decide ((a0.yd.length:Int)>0),decide (a0.zD≥0),decide (a0.zV≥0),decide ((a0.yl.length:Int)>0),a0.zz, !(a0.zU==([]:C4)), !(a0.zJ==([]:C4)),decide ((a0.yn.length:Int)>0),decide ((a0.z7.length:Int)>0)]:List Bool)) (e:=4) (sz:=1) (sz':=1) (b:=1) (tok:= .exact))<|eJ A0)<|blL (fun y25=>⟨68,[(3,qi y25)]⟩) (fun y25=>⟨[],[]⟩) (fun y25=>lpL (fun k x=>uR n y3 k x.1 x.2) ((a0.yp.length:Int),0) J (fun x=>⟨68,[(3,qi x.1),(57,ql 1 cB y3.1),(58,qi y3.2),(59,qi x.2)]⟩) (fun x=>⟨[],[]⟩) fun k x=>by obtain⟨v33,v34⟩:=x; rw [uR]; exact rgL<|bFL (blL (fun y44=>⟨68,[(3,qi y44),(57,ql 1 cB y3.1),(58,qi y3.2),(59,qi v34)]⟩) (fun y44=>⟨[],[]⟩) (fun y44=>bEL fun x46 hx46=>rCL (kPL 0 (zR (c:=cB) (e:=4) (sz:=1) (b:=1) (tok:= .none) hx46) edL)<|rgL<|bFL (xi ya<|jnL J)<|jnL J) fun y44=>xi zI fun h=>⟨(y44,wrap .i64 (v34+1)),h,wk J⟩)<|zW<|zS<|zN<|jnL J) fun y25=>rgL<|zg<|rJ J
def jk (n:Nat)(a0:zr):Nat→Option (Ctl Int Unit)
 |0=>none
 | k+1=>
  if(decide ((0:Int)<(a0.yp.length:Int)))=true then((xe a0.yp 0).bind fun x39=>
  (yJ n x39.Uv).bind fun r40=>
  if(!r40)=true then(some (.ret 11))else(none))else(some (.nxt ()))
def j8 (n:Nat)(a0:zr):Option Int:=
 (if a0.jZ=true then(if(!a0.yk)=true then(some true)else(if(a0.yw !=(-1))=true then(some (!a0.jZ))else(some false)))else(if(a0.yw !=(-1))=true then(some (!a0.jZ))else(some false))).bind fun y2=>
 if y2=true then(some 7)else(((vK n a0.yw).bind fun r3=>
 if(!r3)=true then(some true)else((vK n a0.zA).bind fun r4=>
 if(!r4)=true then(some true)else((vK n a0.zD).bind fun r5=>
 if(!r5)=true then(some true)else((vK n a0.zV).bind fun r6=>
 if(!r6)=true then(some true)else(if(decide (a0.yr<0))=true then(some true)else(some (decide (a0.yr>511)))))))).bind fun y8=>
 if y8=true then(some 1)else((uu n a0.yc 8).bind fun r9=>
 if(r9 !=0)=true then(some r9)else((uu n a0.zH 8).bind fun r10=>
 if(r10 !=0)=true then(some r10)else((u7 n a0.yd).bind fun r11=>
 if(r11 !=0)=true then(some r11)else((ud n a0.yl).bind fun r12=>
 if(r12 !=0)=true then(some r12)else(if a0.zz=true then(none)else((if(decide ((a0.zq.ye.length:Int)>0))=true then(some true)else(some (decide ((a0.zq.yo.length:Int)>0)))).bind fun y16=>
 if y16=true then(some 7)else((if(decide ((a0.zU.length:Int)>32))=true then(some true)else(some (decide ((a0.zJ.length:Int)>32)))).bind fun y18=>
 if y18=true then(some 2)else((vT n a0.yn).bind fun r19=>
 if(r19 !=0)=true then(some r19)else((vT n a0.z7).bind fun r20=>
 if(r20 !=0)=true then(some r20)else((kD n (zr.mk a0.yk a0.jZ a0.yw a0.yr a0.yc a0.zH a0.yd a0.zA a0.zD a0.zV a0.yl a0.zz (zv.mk a0.zq.ye a0.zq.yo) a0.zU a0.zJ a0.yn a0.z7 a0.yp)).bind fun r21=>
 if(decide (r21>24))=true then(some 2)else(yM (jk n a0 n) (fun r=>some r) (fun y30=>
 some 0)))))))))))))
theorem pa {n:Nat} {a0:zr} {r:Int}:j8 n a0=some r→AC mx 136 [.agg (zr.cells a0)] [] (qi r) []:=by
 delta j8
 exact fnL Tryz.func136 rfl<|rgL<|bEL fun y2 hE=>rgF hE ⟨166,[(1,qp 0),(31,qb y2)]⟩ ⟨[zr.cells a0],[]⟩ (gFL 3 17 (gFL 8 22 (eJ O)<|gFL 12 26 (eJ O)<|eJ O)<|gFL 12 26 (eJ O)<|eJ O)<|bFL (rgL<|zg<|rJ A0)<|bEL fun y8 hE=>rgF hE ⟨166,[(1,qp 0),(63,qb y8)]⟩ ⟨[zr.cells a0],[]⟩ (bEL fun r3 hr3=>kCL 2 A0 (jc hr3)<|gFL 5 36 (eJ O)<|bEL fun r4 hr4=>kCL 7 A0 (jc hr4)<|gFL 11 42 (eJ O)<|bEL fun r5 hr5=>kCL 13 A0 (jc hr5)<|gFL 17 48 (eJ O)<|bEL fun r6 hr6=>kCL 19 A0 (jc hr6)<|gFL 23 54 (eJ O)<|gFL 28 59 (eJ O)<|eJ O)<|bFL (rgL<|zg<|rJ A0)<|bEL fun r9 hr9=>rCL (kCL 2 A0 (kc hr9) edL)<|rgL<|bFL (rgL<|zg<|rJ A0)<|bEL fun r10 hr10=>rCL (kCL 2 A0 (kc hr10) edL)<|rgL<|bFL (rgL<|zg<|rJ A0)<|bEL fun r11 hr11=>rCL (kCL 2 A0 (gH hr11) edL)<|rgL<|bFL (rgL<|zg<|rJ A0)<|bEL fun r12 hr12=>rCL (kCL 2 A0 (qP hr12) edL)<|rgL<|bFL (rgL<|zg<|rJ A0)<|rgL<|bFL nEL<|bEL fun y16 hE=>rgF hE ⟨166,[(1,qp 0),(107,qb y16)]⟩ ⟨[zr.cells a0],[]⟩ (kPL 3 (yg (c:=za.cells) (l:=a0.zq.ye) (e:=213) (sz:=3) (sz':=3) (b:=48) (tok:= .none))<|gFL 6 101 (eJ O)<|kPL 9 (yg (c:=za.cells) (l:=a0.zq.yo) (e:=213) (sz:=3) (sz':=3) (b:=48) (tok:= .none))<|eJ O)<|bFL (rgL<|zg<|rJ A0)<|bEL fun y18 hE=>rgF hE ⟨166,[(1,qp 0),(117,qb y18)]⟩ ⟨[zr.cells a0],[]⟩ (gFL 5 112 (eJ O)<|eJ O)<|bFL (rgL<|zg<|rJ A0)<|bEL fun r19 hr19=>rCL (kCL 2 A0 (qI hr19) edL)<|rgL<|bFL (rgL<|zg<|rJ A0)<|bEL fun r20 hr20=>rCL (kCL 2 A0 (qI hr20) edL)<|rgL<|bFL (rgL<|zg<|rJ A0)<|bEL fun r21 hr21=>rCL (kCL 1 A0 (Zj hr21) edL)<|bFL (rgL<|zg<|rJ A0)<|rCL (kPL 2 (yg (c:=zf.cells) (l:=a0.yp) (e:=123) (sz:=3) (sz':=3) (b:=40) (tok:= .none)) edL)<|bcL (fun _=>⟨166,[]⟩) (fun _=>⟨[],[]⟩) (fun o31 hr32=>lpL (fun k (_:Unit)=>jk n a0 k) () O (fun _=>⟨166,[(1,qp 0),(134,ql 3 zf.cells a0.yp),(135,qi (a0.yp.length:Int)),(136,qi 0)]⟩) (fun _=>⟨[zr.cells a0],[]⟩) fun k x=>by rw [jk]; exact rgL<|bFL (zY<|bEL fun x39 hx39=>rCL (kPL 1 (zR (c:=zf.cells) (e:=123) (sz:=3) (b:=40) (tok:= .none) hx39) edL)<|bEL fun r40 hr40=>rCL (kCL 2 A1 (xG hr40) edL)<|bFL (rgL<|zg<|yi<|yb<|hvL hr32<|zK<|rJ A1) nEL)<|zW<|zS<|zN<|jCL A0) fun y30=>rgL<|zg<|rJ J
def vw (n:Nat)(a0:zr):Nat→Int→Option (Ctl ((List zf)×Int) Unit)
 |0,_=>none
 | k+1,v52=>
  if(decide (v52<(List.length ([a0.yn,a0.z7]:List (List zn)):Int)))=true then((xe ([a0.yn,a0.z7]:List (List zn)) v52).bind fun x56=>
  if((x56.length:Int)==0)=true then(vw n a0 k (wrap .i64 (v52+1)))else(none))else(some (.nxt ()))
def xK (n:Nat)(a0:zr):Option ((List zf)×Int):=
 (j8 n (zr.mk a0.yk a0.jZ a0.yw a0.yr a0.yc a0.zH a0.yd a0.zA a0.zD a0.zV a0.yl a0.zz (zv.mk a0.zq.ye a0.zq.yo) a0.zU a0.zJ a0.yn a0.z7 a0.yp)).bind fun r1=>
 if(r1 !=0)=true then(some (([]:List zf),r1))else(if a0.yk=true then(none)else(if(a0.yr !=0)=true then(none)else(if(decide ((a0.yc.length:Int)>0))=true then(none)else(if(decide ((a0.zH.length:Int)>0))=true then(none)else(if(decide ((a0.yd.length:Int)>0))=true then(none)else((if(decide (a0.zA≥0))=true then(some true)else(some (decide (a0.zD≥0)))).bind fun y39=>
 if y39=true then(none)else(if(decide (a0.zV≥0))=true then(none)else(if(decide ((a0.yl.length:Int)>0))=true then(none)else(if a0.zz=true then(none)else(if(!(a0.zU==([]:C4)))=true then(none)else(if(!(a0.zJ==([]:C4)))=true then(none)else(yM (vw n a0 n 0) (fun r=>some r) (fun y47=>
 (jO 40 [] a0.yp).bind fun x57=>
 some (x57,0))))))))))))))
theorem qT {n:Nat} {a0:zr} {r:((List zf)×Int)}:xK n a0=some r→AC mx 63 [.agg (zr.cells a0)] [] (.tuple [ql 3 zf.cells r.1,qi r.2]) []:=by
 delta xK
 exact fnL Tryz.func63 rfl<|rgL<|bEL fun r1 hr1=>rCL (kCL 1 A0 (pa hr1) edL)<|rgL<|bFL (rgL<|zg<|rJ A0)<|rgL<|rgL<|bFL nEL<|rgL<|bFL nEL<|rCL (kPL 2 (yg (c:=cS) (l:=a0.yc) (e:=9) (sz:=1) (sz':=1) (b:=16) (tok:= .none)) edL)<|bFL nEL<|rCL (kPL 2 (yg (c:=cS) (l:=a0.zH) (e:=9) (sz:=1) (sz':=1) (b:=16) (tok:= .none)) edL)<|bFL nEL<|rCL (kPL 2 (yg (c:=zw.cells) (l:=a0.yd) (e:=220) (sz:=2) (sz':=2) (b:=32) (tok:= .none)) edL)<|bFL nEL<|bEL fun y39 hE=>rgF hE ⟨269,[(1,qp 0),(5,qn),(144,qb y39)]⟩ ⟨[zr.cells a0],[]⟩ (gFL 4 140 (eJ O)<|eJ O)<|bFL nEL<|rgL<|bFL nEL<|rCL (kPL 2 (yg (c:=za.cells) (l:=a0.yl) (e:=213) (sz:=3) (sz':=3) (b:=48) (tok:= .none)) edL)<|bFL nEL<|rgL<|bFL nEL<|rgL<|bFL nEL<|rgL<|bFL nEL<|rCL (kPL 5 (yg (c:=(cL 4 zn.cells)) (l:=([a0.yn,a0.z7]:List (List zn))) (e:=42) (sz:=1) (sz':=1) (b:=24) (tok:= .exact)) edL)<|bcL (fun _=>⟨269,[(1,qp 0),(5,qn)]⟩) (fun _=>⟨[zr.cells a0],[]⟩) (fun o48 hr49=>lpL (fun k x=>vw n a0 k x) 0 O (fun x=>⟨269,[(1,qp 0),(5,qn),(237, .sl 1 (List.map (cL 4 zn.cells) ([a0.yn,a0.z7]:List (List zn))) .exact),(238,qi (List.length ([a0.yn,a0.z7]:List (List zn)):Int)),(239,qi x)]⟩) (fun x=>⟨[zr.cells a0],[]⟩) fun k v52=>by rw [vw]; exact rgL<|bFL (zY<|bEL fun x56 hx56=>rCL (kPL 1 (zR (c:=(cL 4 zn.cells)) (e:=42) (sz:=1) (b:=24) (tok:= .exact) hx56) edL)<|rCL (kPL 1 (yg (c:=zn.cells) (l:=x56) (e:=118) (sz:=4) (sz':=4) (b:=64) (tok:= .none)) edL)<|bFL (zW<|XZ<|xi zI fun h=>⟨wrap .i64 (v52+1),h,wk O⟩) nEL)<|zW<|zS<|zN<|jCL O) fun y47=>bEL fun x57 hx57=>rCL (lfL (fun z=>kN 3 zf.cells (e:=123) (e2:=123) (sz:=3) (bytes:=40) (b2:=40) (tok2:= .none) hx57 z) edL)<|zg<|rJ Aq
def xJ (n:Nat) (r3:((List zf)×Int)) (r4:((List zf)×Int)):Nat→Int→Option (Ctl Bool Unit)
 |0,_=>none
 | k+1,v59=>
  if(decide (v59<(r3.1.length:Int)))=true then(((xe r3.1 v59).bind fun x78=>
  (xe r4.1 v59).bind fun x79=>
  if(!(x78.Uv==x79.Uv))=true then(some true)else((xe r3.1 v59).bind fun x80=>
  (xe r4.1 v59).bind fun x81=>
  some (!(x80.uy==x81.uy)))).bind fun y83=>
  if y83=true then(some (.ret false))else(xJ n r3 r4 k (wrap .i64 (v59+1))))else(some (.nxt ()))
def wT (n:Nat)(a0 a1:zM):Option Bool:=
 (if(a0.yA !=a1.yA)=true then(some true)else(if(a0.yH !=a1.yH)=true then(some true)else(if(a0.xB !=a1.xB)=true then(some true)else(if(!(a0.vx==a1.vx))=true then(some true)else(if(a0.yZ !=a1.yZ)=true then(some true)else(if(a0.xz !=a1.xz)=true then(some true)else(if(a0.yX !=a1.yX)=true then(some true)else(if(a0.w8 !=a1.w8)=true then(some true)else(if(a0.wa !=a1.wa)=true then(some true)else(if(a0.w9 !=a1.w9)=true then(some true)else(some (!(a0.yV==a1.yV))))))))))))).bind fun y2=>
 if y2=true then(some false)else((xK n (zr.mk a0.zb.yk a0.zb.jZ a0.zb.yw a0.zb.yr a0.zb.yc a0.zb.zH a0.zb.yd a0.zb.zA a0.zb.zD a0.zb.zV a0.zb.yl a0.zb.zz (zv.mk a0.zb.zq.ye a0.zb.zq.yo) a0.zb.zU a0.zb.zJ a0.zb.yn a0.zb.z7 a0.zb.yp)).bind fun r3=>
 (xK n (zr.mk a1.zb.yk a1.zb.jZ a1.zb.yw a1.zb.yr a1.zb.yc a1.zb.zH a1.zb.yd a1.zb.zA a1.zb.zD a1.zb.zV a1.zb.yl a1.zb.zz (zv.mk a1.zb.zq.ye a1.zb.zq.yo) a1.zb.zU a1.zb.zJ a1.zb.yn a1.zb.z7 a1.zb.yp)).bind fun r4=>
 (if(r3.2 !=r4.2)=true then(some true)else(some ((r3.1.length:Int) !=(r4.1.length:Int)))).bind fun y6=>
 if y6=true then(some false)else(yM (xJ n r3 r4 n 0) (fun r=>some r) (fun y44=>
 some true)))
theorem px {n:Nat} {a0:zM} {a1:zM} {r:Bool}:wT n a0 a1=some r→AC mx 25 [.agg (zM.cells a0), .agg (zM.cells a1)] [] (qb r) []:=by
 delta wT
 exact fnL Tryz.func25 rfl<|rgL<|bEL fun y2 hE=>rgF hE ⟨137,[(2,qp 0),(3,qp 1),(84,qb y2)]⟩ ⟨[zM.cells a0,zM.cells a1],[]⟩ (gFL 6 15 (eJ A3)<|gFL 13 22 (eJ A3)<|gFL 20 29 (eJ A3)<|gFL 27 36 (eJ A3)<|gFL 34 43 (eJ A3)<|gFL 41 50 (eJ A3)<|gFL 48 57 (eJ A3)<|gFL 55 64 (eJ A3)<|gFL 62 71 (eJ A3)<|gFL 69 78 (eJ A3)<|eJ A3)<|bFL (rgL<|zg<|rJ A1)<|bEL fun r3 hr3=>rCL (kCL 2 A1 (qT hr3) edL)<|bEL fun r4 hr4=>rCL (kCL 2 A1 (qT hr4) edL)<|bEL fun y6 hE=>rgF hE ⟨137,[(5,ql 3 zf.cells r3.1),(7,ql 3 zf.cells r4.1),(106,qb y6)]⟩ ⟨[],[]⟩ (gFL 4 100 (eJ A1)<|kPL 5 (yg (c:=zf.cells) (l:=r3.1) (e:=123) (sz:=3) (sz':=3) (b:=40) (tok:= .none))<|kPL 7 (yg (c:=zf.cells) (l:=r4.1) (e:=123) (sz:=3) (sz':=3) (b:=40) (tok:= .none))<|eJ A1)<|bFL (rgL<|zg<|rJ J)<|rgL<|bcL (fun _=>⟨137,[]⟩) (fun _=>⟨[],[]⟩) (fun o45 hr46=>lpL (fun k x=>xJ n r3 r4 k x) 0 J (fun x=>⟨137,[(5,ql 3 zf.cells r3.1),(7,ql 3 zf.cells r4.1),(9,qi x)]⟩) (fun x=>⟨[],[]⟩) fun k v59=>by rw [xJ]; exact rCL (kPL 2 (yg (c:=zf.cells) (l:=r3.1) (e:=123) (sz:=3) (sz':=3) (b:=40) (tok:= .none)) edL)<|bFL (zY<|bEL fun y83 hE=>lfL (fun z=>drw [0,1,2,3,4,5,6,7,8,9,10,11,12,13,14,15,16,17,18,19,20,21,22,23] [] [[],[],[0,1],[0,1,2],[0,1,2,3],[],[],[5,6],[5,6,7],[5,6,7,8],[0,1,2,3,4,5,6,7,8,9],[0,1,2,3,4,5,6,7,8,9,10],[0,1,2,3,4,5,6,7,8,9,10,11],[0,1,2,3,4,5,6,7,8,9,10,11],[0,1,2,3,4,5,6,7,8,9,10,11,12,13],[0,1,2,3,4,5,6,7,8,9,10,11,12,13,14],[0,1,2,3,4,5,6,7,8,9,10,11,12,13,14,15],[0,1,2,3,4,5,6,7,8,9,10,11],[0,1,2,3,4,5,6,7,8,9,10,11],[0,1,2,3,4,5,6,7,8,9,10,11,17,18],[0,1,2,3,4,5,6,7,8,9,10,11,17,18,19],[0,1,2,3,4,5,6,7,8,9,10,11,17,18,19,20],[0,1,2,3,4,5,6,7,8,9,10,11,12,13,14,15,16,17,18,19,20,21],[0,1,2,3,4,5,6,7,8,9,10,11,12,13,14,15,16,17,18,19,20,21,22]] ⟨137,[(5,ql 3 zf.cells r3.1),(7,ql 3 zf.cells r4.1),(9,qi v59),(136,qb y83)]⟩ ⟨[],[]⟩ (have h:=hE; bE h fun x78 hx78 h=>bE h fun x79 hx79 h=>dS [0,1]<|dP (zR (c:=zf.cells) (e:=123) (sz:=3) (b:=40) (tok:= .none) hx78)<|dS [3,4,5,6]<|dP (zR (c:=zf.cells) (e:=123) (sz:=3) (b:=40) (tok:= .none) hx79)<|dS [8,9,10,11]<|hF 124 h (fun h=>dS [12,13,14,15,16,17,18,19,20,21,22,23]<|by cases h; exact dE J) fun h=>bE h fun x80 hx80 h=>bE h fun x81 hx81 h=>dS [12,13]<|dP (zR (c:=zf.cells) (e:=123) (sz:=3) (b:=40) (tok:= .none) hx80)<|dS [15,16,17,18]<|dP (zR (c:=zf.cells) (e:=123) (sz:=3) (b:=40) (tok:= .none) hx81)<|dS [20,21,22,23]<|by cases h; exact dE J) z)<|bFL (rgL<|zg<|yi<|yb<|hvL hr46<|zK<|rJ J)<|z8<|xi zI fun h=>⟨wrap .i64 (v59+1),h,wk J⟩)<|zW<|zS<|zN<|jCL J) fun y44=>rgL<|zg<|rJ J
def ji (n:Nat)(a0 a1:List C4):Nat→Int→Option (Ctl Bool Unit)
 |0,_=>none
 | k+1,v21=>
  if(decide (v21<(a0.length:Int)))=true then((xe a0 v21).bind fun x28=>
  (xe a1 v21).bind fun x29=>
  if(!(x28==x29))=true then(some (.ret false))else(ji n a0 a1 k (wrap .i64 (v21+1))))else(some (.nxt ()))
def qf (n:Nat)(a0 a1:List C4):Option Bool:=
 if((a0.length:Int) !=(a1.length:Int))=true then(some false)else(yM (ji n a0 a1 n 0) (fun r=>some r) (fun y14=>
 some true))
theorem b9 {n:Nat} {a0:(List C4)} {a1:(List C4)} {r:Bool}:qf n a0 a1=some r→AC mx 65 [ql 1 cS a0,ql 1 cS a1] [] (qb r) []:=by
 delta qf
 exact fnL Tryz.func65 rfl<|rgL<|rCL (kPL 1 (yg (c:=cS) (l:=a0) (e:=9) (sz:=1) (sz':=1) (b:=16) (tok:= .none))<|kPL 3 (yg (c:=cS) (l:=a1) (e:=9) (sz:=1) (sz':=1) (b:=16) (tok:= .none)) edL)<|bFL (rgL<|zg<|rJ J)<|rgL<|bcL (fun _=>⟨26,[]⟩) (fun _=>⟨[],[]⟩) (fun o15 hr16=>lpL (fun k x=>ji n a0 a1 k x) 0 J (fun x=>⟨26,[(0,ql 1 cS a0),(1,ql 1 cS a1),(5,qi x)]⟩) (fun x=>⟨[],[]⟩) fun k v21=>by rw [ji]; exact rCL (kPL 2 (yg (c:=cS) (l:=a0) (e:=9) (sz:=1) (sz':=1) (b:=16) (tok:= .none)) edL)<|bFL (zY<|bEL fun x28 hx28=>bEL fun x29 hx29=>lfL (fun z=>zs [0,1,2,3,4,5,6,7,8] [] [[],[],[0,1],[0,1,2],[],[],[4,5],[4,5,6],[0,1,2,3,4,5,6,7]] [0,1] [(5,qi v21),(25,qb (!(x28==x29)))] (dS [0,1]<|dP (zR (c:=cS) (e:=9) (sz:=1) (b:=16) (tok:= .none) hx28)<|dS [3,4,5]<|dP (zR (c:=cS) (e:=9) (sz:=1) (b:=16) (tok:= .none) hx29)<|dS [7,8]<|dE J) z)<|bFL (rgL<|zg<|yi<|yb<|hvL hr16<|zK<|rJ J)<|z8<|xi zI fun h=>⟨wrap .i64 (v21+1),h,wk J⟩)<|zW<|zS<|zN<|jCL J) fun y14=>rgL<|zg<|rJ J
def uf (n:Nat)(a0 a1:xL):Option Bool:=
 (if(a0.Xd==a1.Xd)=true then(if(a0.dy==a1.dy)=true then((qf n a0.zH a1.zH).bind fun r1=>
 some r1)else(some false))else(some false)).bind fun y3=>
 some y3
theorem dB {n:Nat} {a0:xL} {a1:xL} {r:Bool}:uf n a0 a1=some r→AC mx 144 [.agg (xL.cells a0), .agg (xL.cells a1)] [] (qb r) []:=by
 delta uf
 exact fnL Tryz.func144 rfl<|rgL<|bEL fun y3 hE=>rgF hE ⟨24,[(4,qb y3)]⟩ ⟨[],[]⟩ (gFL 6 10 (gFL 13 17 (bEL fun r1 hr1=>kCL 17 A1 (b9 hr1)<|eJ A1)<|eJ A1)<|eJ A1)<|zg<|rJ J
def xW (n:Nat)(a0 a1:wV):Nat→Int→Option (Ctl Bool Unit)
 |0,_=>none
 | k+1,v24=>
  if(decide (v24<(a0.Yj.length:Int)))=true then((xe a0.Yj v24).bind fun x31=>
  (xe a1.Yj v24).bind fun x32=>
  if(x31 !=x32)=true then(some (.ret false))else(xW n a0 a1 k (wrap .i64 (v24+1))))else(some (.nxt ()))
def uw (n:Nat)(a0 a1:wV):Option Bool:=
 (if(a0.VP !=a1.VP)=true then(some true)else(if((a0.Yj.length:Int) !=(a1.Yj.length:Int))=true then(some true)else((uf n (xL.mk a0.gQ.Xd a0.gQ.dy a0.gQ.zH) (xL.mk a1.gQ.Xd a1.gQ.dy a1.gQ.zH)).bind fun r1=>
 some (!r1)))).bind fun y3=>
 if y3=true then(some false)else(yM (xW n a0 a1 n 0) (fun r=>some r) (fun y17=>
 some true))
theorem d7 {n:Nat} {a0:wV} {a1:wV} {r:Bool}:uw n a0 a1=some r→AC mx 64 [.agg (wV.cells a0), .agg (wV.cells a1)] [] (qb r) []:=by
 delta uw
 exact fnL Tryz.func64 rfl<|rgL<|bEL fun y3 hE=>rgF hE ⟨46,[(2,qp 0),(3,qp 1),(27,qb y3)]⟩ ⟨[wV.cells a0,wV.cells a1],[]⟩ (gFL 6 11 (eJ A3)<|kPL 8 (yg (c:=(cI .i64)) (l:=a0.Yj) (e:=3) (sz:=1) (sz':=1) (b:=8) (tok:= .none))<|kPL 11 (yg (c:=(cI .i64)) (l:=a1.Yj) (e:=3) (sz:=1) (sz':=1) (b:=8) (tok:= .none))<|gFL 15 20 (eJ A3)<|bEL fun r1 hr1=>kCL 19 A1 (dB hr1)<|eJ A3)<|bFL (rgL<|zg<|rJ A1)<|rgL<|bcL (fun _=>⟨46,[]⟩) (fun _=>⟨[],[]⟩) (fun o18 hr19=>lpL (fun k x=>xW n a0 a1 k x) 0 A3 (fun x=>⟨46,[(2,qp 0),(3,qp 1),(5,qi x)]⟩) (fun x=>⟨[wV.cells a0,wV.cells a1],[]⟩) fun k v24=>by rw [xW]; exact rCL (kPL 3 (yg (c:=(cI .i64)) (l:=a0.Yj) (e:=3) (sz:=1) (sz':=1) (b:=8) (tok:= .none)) edL)<|bFL (zY<|bEL fun x31 hx31=>bEL fun x32 hx32=>lfL (fun z=>zs [0,1,2,3,4,5,6,7,8,9,10] [] [[],[0],[],[0,1,2],[0,1,2,3],[],[5],[],[5,6,7],[5,6,7,8],[0,1,2,3,4,5,6,7,8,9]] [] [(2,qp 0),(3,qp 1),(5,qi v24),(45,qb (x31 !=x32))] (dS [0,1,2]<|dP (zR (c:=(cI .i64)) (e:=3) (sz:=1) (b:=8) (tok:= .none) hx31)<|dS [4,5,6,7]<|dP (zR (c:=(cI .i64)) (e:=3) (sz:=1) (b:=8) (tok:= .none) hx32)<|dS [9,10]<|dE A3) z)<|bFL (rgL<|zg<|yi<|yb<|hvL hr19<|zK<|rJ A1)<|z8<|xi zI fun h=>⟨wrap .i64 (v24+1),h,wk A3⟩)<|zW<|zS<|zN<|jCL A1) fun y17=>rgL<|zg<|rJ J
def wt (n:Nat)(a0 a1:List Int):Option Bool:=
 (uw n (wV.mk 0 a0 (xL.mk 0 0 ([]:List C4))) (wV.mk 0 a1 (xL.mk 0 0 ([]:List C4)))).bind fun r1=>
 some r1
theorem gi {n:Nat} {a0:(List Int)} {a1:(List Int)} {r:Bool}:wt n a0 a1=some r→AC mx 26 [ql 1 (cI .i64) a0,ql 1 (cI .i64) a1] [] (qb r) []:=by
 delta wt
 exact fnL Tryz.func26 rfl<|rgL<|bEL fun r1 hr1=>rCL (kCL 4 J (d7 hr1) edL)<|zg<|rJ J
def ur (n:Nat)(a0 a1:List za):Nat→Option (Ctl Bool Unit)
 |0=>none
 | k+1=>
  if(decide ((0:Int)<(a0.length:Int)))=true then(((xe a0 0).bind fun x53=>
  (xe a1 0).bind fun x54=>
  if(x53.yA !=x54.yA)=true then(some ())else((xe a0 0).bind fun x55=>
  (xe a1 0).bind fun x56=>
  if(!(x55.V0==x56.V0))=true then(some ())else(none))).bind fun y59=>
  some (.ret false))else(some (.nxt ()))
def jm (n:Nat)(a0 a1:List za):Option Bool:=
 if((a0.length:Int) !=(a1.length:Int))=true then(some false)else(yM (ur n a0 a1 n) (fun r=>some r) (fun y29=>
 some true))
theorem gK {n:Nat} {a0:(List za)} {a1:(List za)} {r:Bool}:jm n a0 a1=some r→AC mx 61 [ql 3 za.cells a0,ql 3 za.cells a1] [] (qb r) []:=by
 delta jm
 exact fnL Tryz.func61 rfl<|rgL<|rCL (kPL 1 (yg (c:=za.cells) (l:=a0) (e:=213) (sz:=3) (sz':=3) (b:=48) (tok:= .none))<|kPL 3 (yg (c:=za.cells) (l:=a1) (e:=213) (sz:=3) (sz':=3) (b:=48) (tok:= .none)) edL)<|bFL (rgL<|zg<|rJ J)<|rCL (kPL 1 (yg (c:=za.cells) (l:=a0) (e:=213) (sz:=3) (sz':=3) (b:=48) (tok:= .none)) edL)<|bcL (fun _=>⟨55,[]⟩) (fun _=>⟨[],[]⟩) (fun o30 hr31=>lpL (fun k (_:Unit)=>ur n a0 a1 k) () J (fun _=>⟨55,[(0,ql 3 za.cells a0),(1,ql 3 za.cells a1),(12,qi (a0.length:Int)),(13,qi 0)]⟩) (fun _=>⟨[],[]⟩) fun k x=>by rw [ur]; exact rgL<|bFL (zY<|rgL<|bEL fun y59 hE=>lfL (fun z=>drw [0,1,2,3,4,5,6,7,8,9,10,11,12,13,14,15,16,17,18,19,20,21,22,23,24,25,26,27,28,29,30,31,32,33,34,35,36,37] [35] [[],[],[0,1],[0,1,2],[0,1,2,3],[],[],[5,6],[5,6,7],[5,6,7,8],[0,1,2,3,4,5,6,7,8,9],[0,1,2,3,4,5,6,7,8,9,10],[0,1,2,3,4,5,6,7,8,9,10,11],[0,1,2,3,4,5,6,7,8,9,10,11],[0,1,2,3,4,5,6,7,8,9,10,11,12,13],[0,1,2,3,4,5,6,7,8,9,10,11,12,13,14],[0,1,2,3,4,5,6,7,8,9,10,11,12,13,14,15],[0,1,2,3,4,5,6,7,8,9,10,11],[0,1,2,3,4,5,6,7,8,9,10,11],[0,1,2,3,4,5,6,7,8,9,10,11,17,18],[0,1,2,3,4,5,6,7,8,9,10,11,17,18,19],[0,1,2,3,4,5,6,7,8,9,10,11,17,18,19,20],[0,1,2,3,4,5,6,7,8,9,10,11,12,13,14,15,16,17,18,19,20,21],[0,1,2,3,4,5,6,7,8,9,10,11,12,13,14,15,16,17,18,19,20,21,22],[0,1,2,3,4,5,6,7,8,9,10,11,12,13,14,15,16,17,18,19,20,21,22,23],[0,1,2,3,4,5,6,7,8,9,10,11,12,13,14,15,16,17,18,19,20,21,22,23,24],[0,1,2,3,4,5,6,7,8,9,10,11,12,13,14,15,16,17,18,19,20,21,22,23,24],[0,1,2,3,4,5,6,7,8,9,10,11,12,13,14,15,16,17,18,19,20,21,22,23,24,25,26],[0,1,2,3,4,5,6,7,8,9,10,11,12,13,14,15,16,17,18,19,20,21,22,23,24,25,26,27],[0,1,2,3,4,5,6,7,8,9,10,11,12,13,14,15,16,17,18,19,20,21,22,23,24,25,26,27,28],[0,1,2,3,4,5,6,7,8,9,10,11,12,13,14,15,16,17,18,19,20,21,22,23,24],[0,1,2,3,4,5,6,7,8,9,10,11,12,13,14,15,16,17,18,19,20,21,22,23,24],[0,1,2,3,4,5,6,7,8,9,10,11,12,13,14,15,16,17,18,19,20,21,22,23,24,30,31],[0,1,2,3,4,5,6,7,8,9,10,11,12,13,14,15,16,17,18,19,20,21,22,23,24,30,31,32],[0,1,2,3,4,5,6,7,8,9,10,11,12,13,14,15,16,17,18,19,20,21,22,23,24,30,31,32,33],[0,1,2,3,4,5,6,7,8,9,10,11,12,13,14,15,16,17,18,19,20,21,22,23,24,25,26,27,28,29,30,31,32,33,34],[0,1,2,3,4,5,6,7,8,9,10,11,12,13,14,15,16,17,18,19,20,21,22,23,24,25,26,27,28,29,30,31,32,33,34,35],[0,1,2,3,4,5,6,7,8,9,10,11,12,13,14,15,16,17,18,19,20,21,22,23,24,25,26,27,28,29,30,31,32,33,34,35,36]] ⟨55,[(0,ql 3 za.cells a0),(1,ql 3 za.cells a1),(12,qi (a0.length:Int)),(13,qi 0),(53,qb true)]⟩ ⟨[],[]⟩ (have h:=hE; bE h fun x53 hx53 h=>bE h fun x54 hx54 h=>dS [0,1]<|dP (zR (c:=za.cells) (e:=213) (sz:=3) (b:=48) (tok:= .none) hx53)<|dS [3,4,5,6]<|dP (zR (c:=za.cells) (e:=213) (sz:=3) (b:=48) (tok:= .none) hx54)<|dS [8,9,10,11]<|hF 27 h (fun h=>dS [12,13,14,15,16,17,18,19,20,21,22,23,24,25,26,27,28,29,30,31,32,33,34]<|dF (zL 7 (zR (c:=za.cells) (e:=213) (sz:=3) (b:=48) (tok:= .none) hx54) (zL 2 (zR (c:=za.cells) (e:=213) (sz:=3) (b:=48) (tok:= .none) hx53) yU))<|dS [36,37]<|by cases h; exact dE J) fun h=>bE h fun x55 hx55 h=>bE h fun x56 hx56 h=>dS [12,13]<|dP (zR (c:=za.cells) (e:=213) (sz:=3) (b:=48) (tok:= .none) hx55)<|dS [15,16,17,18]<|dP (zR (c:=za.cells) (e:=213) (sz:=3) (b:=48) (tok:= .none) hx56)<|dS [20,21,22,23,24]<|hF 40 h (fun h=>dS [25,26,27,28,29,30,31,32,33,34]<|dF (zL 19 (zR (c:=za.cells) (e:=213) (sz:=3) (b:=48) (tok:= .none) hx56) (zL 14 (zR (c:=za.cells) (e:=213) (sz:=3) (b:=48) (tok:= .none) hx55) (zL 7 (zR (c:=za.cells) (e:=213) (sz:=3) (b:=48) (tok:= .none) hx54) (zL 2 (zR (c:=za.cells) (e:=213) (sz:=3) (b:=48) (tok:= .none) hx53) yU))))<|dS [36,37]<|by cases h; exact dE J) fun h=>nE h) z)<|bTL<|rgL<|zg<|yi<|yb<|hvL hr31<|zK<|rJ J)<|zW<|zS<|zN<|jCL J) fun y29=>rgL<|zg<|rJ J
def uK (n:Nat)(a0 a1:List zB):Nat→Option (Ctl Bool Unit)
 |0=>none
 | k+1=>
  if(decide ((0:Int)<(a0.length:Int)))=true then(((xe a0 0).bind fun x39=>
  (xe a1 0).bind fun x40=>
  if(!(x39.Wl.kO==x40.Wl.kO&&(x39.Wl.Uv==x40.Wl.Uv&&(x39.Wl.UU==x40.Wl.UU&&true))))=true then(some ())else(none)).bind fun y43=>
  some (.ret false))else(some (.nxt ()))
def jE (n:Nat)(a0 a1:List zB):Option Bool:=
 if((a0.length:Int) !=(a1.length:Int))=true then(some false)else(yM (uK n a0 a1 n) (fun r=>some r) (fun y21=>
 some true))
theorem df {n:Nat} {a0:(List zB)} {a1:(List zB)} {r:Bool}:jE n a0 a1=some r→AC mx 66 [ql 4 zB.cells a0,ql 4 zB.cells a1] [] (qb r) []:=by
 delta jE
 exact fnL Tryz.func66 rfl<|rgL<|rCL (kPL 1 (yg (c:=zB.cells) (l:=a0) (e:=228) (sz:=4) (sz':=4) (b:=64) (tok:= .none))<|kPL 3 (yg (c:=zB.cells) (l:=a1) (e:=228) (sz:=4) (sz':=4) (b:=64) (tok:= .none)) edL)<|bFL (rgL<|zg<|rJ J)<|rgL<|bcL (fun _=>⟨42,[]⟩) (fun _=>⟨[],[]⟩) (fun o22 hr23=>lpL (fun k (_:Unit)=>uK n a0 a1 k) () J (fun _=>⟨42,[(0,ql 4 zB.cells a0),(1,ql 4 zB.cells a1),(5,qi 0)]⟩) (fun _=>⟨[],[]⟩) fun k x=>by rw [uK]; exact rCL (kPL 2 (yg (c:=zB.cells) (l:=a0) (e:=228) (sz:=4) (sz':=4) (b:=64) (tok:= .none)) edL)<|bFL (zY<|bEL fun y43 hE=>lfL (fun z=>drw [0,1,2,3,4,5,6,7,8,9,10,11,12,13,14,15,16,17,18,19,20,21,22,23,24] [22] [[],[],[0,1],[0,1,2],[0,1,2,3],[],[],[5,6],[5,6,7],[5,6,7,8],[0,1,2,3,4,5,6,7,8,9],[0,1,2,3,4,5,6,7,8,9,10],[0,1,2,3,4,5,6,7,8,9,10,11],[0,1,2,3,4,5,6,7,8,9,10,11],[0,1,2,3,4,5,6,7,8,9,10,11,12,13],[0,1,2,3,4,5,6,7,8,9,10,11,12,13,14],[0,1,2,3,4,5,6,7,8,9,10,11,12,13,14,15],[0,1,2,3,4,5,6,7,8,9,10,11],[0,1,2,3,4,5,6,7,8,9,10,11],[0,1,2,3,4,5,6,7,8,9,10,11,17,18],[0,1,2,3,4,5,6,7,8,9,10,11,17,18,19],[0,1,2,3,4,5,6,7,8,9,10,11,17,18,19,20],[0,1,2,3,4,5,6,7,8,9,10,11,12,13,14,15,16,17,18,19,20,21],[0,1,2,3,4,5,6,7,8,9,10,11,12,13,14,15,16,17,18,19,20,21,22],[0,1,2,3,4,5,6,7,8,9,10,11,12,13,14,15,16,17,18,19,20,21,22,23]] ⟨42,[(0,ql 4 zB.cells a0),(1,ql 4 zB.cells a1),(5,qi 0),(41,qb true)]⟩ ⟨[],[]⟩ (have h:=hE; bE h fun x39 hx39 h=>bE h fun x40 hx40 h=>dS [0,1]<|dP (zR (c:=zB.cells) (e:=228) (sz:=4) (b:=64) (tok:= .none) hx39)<|dS [3,4,5,6]<|dP (zR (c:=zB.cells) (e:=228) (sz:=4) (b:=64) (tok:= .none) hx40)<|dS [8,9,10,11]<|hF 28 h (fun h=>dS [12,13,14,15,16,17,18,19,20,21]<|dF (zL 7 (zR (c:=zB.cells) (e:=228) (sz:=4) (b:=64) (tok:= .none) hx40) (zL 2 (zR (c:=zB.cells) (e:=228) (sz:=4) (b:=64) (tok:= .none) hx39) yU))<|dS [23,24]<|by cases h; exact dE J) fun h=>nE h) z)<|bTL<|rgL<|zg<|yi<|yb<|hvL hr23<|zK<|rJ J)<|zW<|zS<|zN<|jCL J) fun y21=>rgL<|zg<|rJ J
def xO (n:Nat)(a0 a1:zy):Option Bool:=
 (if(a0.yH==a1.yH)=true then(if(a0.vJ==a1.vJ)=true then(if(a0.yr==a1.yr)=true then((qf n a0.zH a1.zH).bind fun r1=>
 if r1=true then(if(a0.vD==a1.vD)=true then(if(a0.wW==a1.wW)=true then(if(a0.qK==a1.qK)=true then((jm n a0.yl a1.yl).bind fun r2=>
 if r2=true then(if(a0.wq==a1.wq)=true then(if(a0.jL==a1.jL)=true then((jE n a0.vy a1.vy).bind fun r3=>
 some r3)else(some false))else(some false))else(some false))else(some false))else(some false))else(some false))else(some false))else(some false))else(some false))else(some false)).bind fun y5=>
 some y5
theorem dQ {n:Nat} {a0:zy} {a1:zy} {r:Bool}:xO n a0 a1=some r→AC mx 27 [.agg (zy.cells a0), .agg (zy.cells a1)] [] (qb r) []:=by
 delta xO
 exact fnL Tryz.func27 rfl<|rgL<|bEL fun y5 hE=>rgF hE ⟨80,[(4,qb y5)]⟩ ⟨[],[]⟩ (gFL 6 10 (gFL 13 17 (gFL 20 24 (bEL fun r1 hr1=>kCL 24 A1 (b9 hr1)<|gFL 27 31 (gFL 34 38 (gFL 41 45 (gFL 48 52 (bEL fun r2 hr2=>kCL 52 A1 (gK hr2)<|gFL 55 59 (gFL 62 66 (gFL 69 73 (bEL fun r3 hr3=>kCL 73 A1 (df hr3)<|eJ A1)<|eJ A1)<|eJ A1)<|eJ A1)<|eJ A1)<|eJ A1)<|eJ A1)<|eJ A1)<|eJ A1)<|eJ A1)<|eJ A1)<|zg<|rJ J
def xX (n:Nat)(a0 a1:List zi):Nat→Int→Option (Ctl Bool Unit)
 |0,_=>none
 | k+1,v85=>
  if(decide (v85<(a0.length:Int)))=true then((xe a0 v85).bind fun x116=>
  (xe a1 v85).bind fun x117=>
  (if(x116.yA !=x117.yA)=true then(some true)else(if(x116.bL !=x117.bL)=true then(some true)else((wT n (zM.mk x116.zj.yA x116.zj.yH x116.zj.xB x116.zj.vx (zr.mk x116.zj.zb.yk x116.zj.zb.jZ x116.zj.zb.yw x116.zj.zb.yr x116.zj.zb.yc x116.zj.zb.zH x116.zj.zb.yd x116.zj.zb.zA x116.zj.zb.zD x116.zj.zb.zV x116.zj.zb.yl x116.zj.zb.zz (zv.mk x116.zj.zb.zq.ye x116.zj.zb.zq.yo) x116.zj.zb.zU x116.zj.zb.zJ x116.zj.zb.yn x116.zj.zb.z7 x116.zj.zb.yp) x116.zj.yZ x116.zj.xz x116.zj.yX x116.zj.w8 x116.zj.wa x116.zj.w9 x116.zj.yV) (zM.mk x117.zj.yA x117.zj.yH x117.zj.xB x117.zj.vx (zr.mk x117.zj.zb.yk x117.zj.zb.jZ x117.zj.zb.yw x117.zj.zb.yr x117.zj.zb.yc x117.zj.zb.zH x117.zj.zb.yd x117.zj.zb.zA x117.zj.zb.zD x117.zj.zb.zV x117.zj.zb.yl x117.zj.zb.zz (zv.mk x117.zj.zb.zq.ye x117.zj.zb.zq.yo) x117.zj.zb.zU x117.zj.zb.zJ x117.zj.zb.yn x117.zj.zb.z7 x117.zj.zb.yp) x117.zj.yZ x117.zj.xz x117.zj.yX x117.zj.w8 x117.zj.wa x117.zj.w9 x117.zj.yV)).bind fun r120=>
  if(!r120)=true then(some true)else(if(!(x116.k9==x117.k9))=true then(some true)else(if(x116.ki !=x117.ki)=true then(some true)else(if(x116.qt !=x117.qt)=true then(some true)else(if(x116.q8 !=x117.q8)=true then(some true)else(if(x116.jr.yH !=x117.jr.yH)=true then(some true)else((wt n x116.jr.vV x117.jr.vV).bind fun r121=>
  if(!r121)=true then(some true)else((xO n (zy.mk x116.zF.yH x116.zF.vJ x116.zF.yr x116.zF.zH x116.zF.vD x116.zF.wW x116.zF.qK x116.zF.yl x116.zF.wq x116.zF.jL x116.zF.vy) (zy.mk x117.zF.yH x117.zF.vJ x117.zF.yr x117.zF.zH x117.zF.vD x117.zF.wW x117.zF.qK x117.zF.yl x117.zF.wq x117.zF.jL x117.zF.vy)).bind fun r122=>
  if(!r122)=true then(some true)else((wt n x116.jB x117.jB).bind fun r123=>
  some (!r123)))))))))))).bind fun y125=>
  if y125=true then(some (.ret false))else(xX n a0 a1 k (wrap .i64 (v85+1))))else(some (.nxt ()))
def vk (n:Nat)(a0 a1:List zi):Option Bool:=
 if((a0.length:Int) !=(a1.length:Int))=true then(some false)else(yM (xX n a0 a1 n 0) (fun r=>some r) (fun y62=>
 some true))
theorem dZ {n:Nat} {a0:(List zi)} {a1:(List zi)} {r:Bool}:vk n a0 a1=some r→AC mx 10 [ql 50 zi.cells a0,ql 50 zi.cells a1] [] (qb r) []:=by
 delta vk
 exact fnL Tryz.func10 rfl<|rgL<|rCL (kPL 1 (yg (c:=zi.cells) (l:=a0) (e:=63) (sz:=50) (sz':=50) (b:=632) (tok:= .none))<|kPL 3 (yg (c:=zi.cells) (l:=a1) (e:=63) (sz:=50) (sz':=50) (b:=632) (tok:= .none)) edL)<|bFL (rgL<|zg<|rJ J)<|rgL<|bcL (fun _=>⟨110,[]⟩) (fun _=>⟨[],[]⟩) (fun o63 hr64=>lpL (fun k x=>xX n a0 a1 k x) 0 J (fun x=>⟨110,[(0,ql 50 zi.cells a0),(1,ql 50 zi.cells a1),(5,qi x)]⟩) (fun x=>⟨[],[]⟩) fun k v85=>by rw [xX]; exact rCL (kPL 2 (yg (c:=zi.cells) (l:=a0) (e:=63) (sz:=50) (sz':=50) (b:=632) (tok:= .none)) edL)<|bFL (zY<|bEL fun x116 hx116=>bEL fun x117 hx117=>lfL (fun z=>zt 8 9 [0,1,2,3,4,5,6,7,8,9,10,11] [8,9,10,11] [[],[],[0,1],[0,1,2],[],[],[4,5],[4,5,6],[],[8],[0,1,2,3,8,9],[0,1,2,3,4,5,6,7,8,9,10]] [0,1,2,3,4,5,6,7,9,8,10,11] [9,8,10,11] [[],[],[0,1],[0,1,2],[],[],[4,5],[4,5,6],[9],[],[0,1,2,3,8,9],[0,1,2,3,4,5,6,7,8,9,10]] [0,1] [(5,qi v85),(6,qp 0),(7,qp 1)] ⟨[zi.cells x116,zi.cells x117],[]⟩ (dS [0,1]<|dP (zR (c:=zi.cells) (e:=63) (sz:=50) (b:=632) (tok:= .none) hx116)<|dS [3,4,5]<|dP (zR (c:=zi.cells) (e:=63) (sz:=50) (b:=632) (tok:= .none) hx117)<|dS [7]<|dF (zL 6 (zR (c:=zi.cells) (e:=63) (sz:=50) (b:=632) (tok:= .none) hx117) (zL 2 (zR (c:=zi.cells) (e:=63) (sz:=50) (b:=632) (tok:= .none) hx116) yU))<|dF (zL 6 (zR (c:=zi.cells) (e:=63) (sz:=50) (b:=632) (tok:= .none) hx117) (zL 2 (zR (c:=zi.cells) (e:=63) (sz:=50) (b:=632) (tok:= .none) hx116) yU))<|dF (zL 6 (zR (c:=zi.cells) (e:=63) (sz:=50) (b:=632) (tok:= .none) hx117) (zL 2 (zR (c:=zi.cells) (e:=63) (sz:=50) (b:=632) (tok:= .none) hx116) yU))<|dF (zL 6 (zR (c:=zi.cells) (e:=63) (sz:=50) (b:=632) (tok:= .none) hx117) (zL 2 (zR (c:=zi.cells) (e:=63) (sz:=50) (b:=632) (tok:= .none) hx116) yU))<|dE ⟨[1,0],2,[],0⟩) (dS [0,1]<|dP (zR (c:=zi.cells) (e:=63) (sz:=50) (b:=632) (tok:= .none) hx116)<|dS [3,4,5]<|dP (zR (c:=zi.cells) (e:=63) (sz:=50) (b:=632) (tok:= .none) hx117)<|dS [7]<|dF (zL 6 (zR (c:=zi.cells) (e:=63) (sz:=50) (b:=632) (tok:= .none) hx117) (zL 2 (zR (c:=zi.cells) (e:=63) (sz:=50) (b:=632) (tok:= .none) hx116) yU))<|dF (zL 6 (zR (c:=zi.cells) (e:=63) (sz:=50) (b:=632) (tok:= .none) hx117) (zL 2 (zR (c:=zi.cells) (e:=63) (sz:=50) (b:=632) (tok:= .none) hx116) yU))<|dF (zL 6 (zR (c:=zi.cells) (e:=63) (sz:=50) (b:=632) (tok:= .none) hx117) (zL 2 (zR (c:=zi.cells) (e:=63) (sz:=50) (b:=632) (tok:= .none) hx116) yU))<|dF (zL 6 (zR (c:=zi.cells) (e:=63) (sz:=50) (b:=632) (tok:= .none) hx117) (zL 2 (zR (c:=zi.cells) (e:=63) (sz:=50) (b:=632) (tok:= .none) hx116) yU))<|dE A3) z)<|bEL fun y125 hE=>rgF hE ⟨110,[(0,ql 50 zi.cells a0),(1,ql 50 zi.cells a1),(5,qi v85),(109,qb y125)]⟩ ⟨[],[]⟩ (gFL 6 32 (eJ A1)<|gFL 13 39 (eJ A1)<|bEL fun r120 hr120=>kCL 17 A1 (px hr120)<|gFL 21 47 (eJ A1)<|gFL 28 54 (eJ A1)<|gFL 35 61 (eJ A1)<|gFL 42 68 (eJ A1)<|gFL 49 75 (eJ A1)<|gFL 58 84 (eJ A1)<|bEL fun r121 hr121=>kCL 64 A1 (gi hr121)<|gFL 68 94 (eJ A1)<|bEL fun r122 hr122=>kCL 72 A1 (dQ hr122)<|gFL 76 102 (eJ A1)<|bEL fun r123 hr123=>kCL 80 A1 (gi hr123)<|eJ A1)<|bFL (rgL<|zg<|yi<|yb<|hvL hr64<|zK<|rJ J)<|z8<|xi zI fun h=>⟨wrap .i64 (v85+1),h,wk J⟩)<|zW<|zS<|zN<|jCL J) fun y62=>rgL<|zg<|rJ J
def ym (n:Nat)(a1:C4)(m0:zx):Option zx:=
 if(!(m0.jV==([]:C4)))=true then((pb m0.jV ([32]:C4)).bind fun x1=>
 (pb x1 a1).bind fun x2=>
 some (zx.mk x2 m0.f_e))else((pb m0.jV a1).bind fun x3=>
 some (zx.mk x3 m0.f_e))
theorem yf {n:Nat} {a1:C4} {m0:zx} {r:zx}:ym n a1 m0=some r→AC mx 78 [qp 0,qs a1] [zx.cells m0] (.tuple []) [zx.cells r]:=by
 delta ym
 exact fnL Tryz.func78 rfl<|rgL<|bFL (bEL fun x1 hx1=>rCL (kPL 4 (bR (d:=(tyT 9).d) hx1) edL)<|bEL fun x2 hx2=>xC vi (kPL 5 (bR (d:=(tyT 9).d) hx2) edL)<|nJ O)<|bEL fun x3 hx3=>xC vi (kPL 5 (bR (d:=(tyT 9).d) hx3) edL)<|nJ O
def vz (n:Nat)(a1:Int)(m0:zx):Option zx:=
 if(m0.f_e==0)=true then(some (zx.mk m0.jV a1))else(some m0)
theorem uV {n:Nat} {a1:Int} {m0:zx} {r:zx}:vz n a1 m0=some r→AC mx 82 [qp 0,qi a1] [zx.cells m0] (.tuple []) [zx.cells r]:=by
 delta vz
 exact fnL Tryz.func82 rfl<|rgL<|bFL (xi vi<|nJ O)<|nJ O
def uc (n:Nat)(a1:List Int):Nat→Int→C4→Int→Option (C4×Int)
 |0,_,_,_=>none
 | k+1,v120,v121,v122=>
  if(decide (v120<(a1.length:Int)))=true then(((xe a1 v120).bind fun x171=>
  (if(decide (x171<0))=true then(some true)else(some (decide (x171>4611686018427387904)))).bind fun y173=>
  if y173=true then((vz n 1 (zx.mk v121 v122)).bind fun r174=>
  (Yh n x171).bind fun r175=>
  (ym n r175 r174).bind fun r176=>
  some (r176.jV,r176.f_e))else((Yh n x171).bind fun r177=>
  (ym n r177 (zx.mk v121 v122)).bind fun r178=>
  some (r178.jV,r178.f_e))).bind fun y169=>
  uc n a1 k (wrap .i64 (v120+1)) y169.1 y169.2)else(some (v121,v122))
def yB (n:Nat)(a1:List Int)(m0:zx):Option zx:=
 (uc n a1 n 0 m0.jV m0.f_e).bind fun y90=>
 some (zx.mk y90.1 y90.2)
theorem yC {n:Nat} {a1:(List Int)} {m0:zx} {r:zx}:yB n a1 m0=some r→AC mx 79 [qp 0,ql 1 (cI .i64) a1] [zx.cells m0] (.tuple []) [zx.cells r]:=by
 delta yB
 exact fnL Tryz.func79 rfl<|rCL (kPL 1 (yg (c:=(cI .i64)) (l:=a1) (e:=3) (sz:=1) (sz':=1) (b:=8) (tok:= .none)) edL)<|Jg vi (fun y90=>⟨25,[]⟩) (fun y90=>⟨[[qs y90.1,qi y90.2]],[]⟩) (fun y90=>lpL (fun k x=>uc n a1 k x.1 x.2.1 x.2.2) (0,m0.jV,m0.f_e) O (fun x=>⟨25,[(0,qp 0),(6,ql 1 (cI .i64) a1),(7,qi (a1.length:Int)),(8,qi x.1)]⟩) (fun x=>⟨[[qs x.2.1,qi x.2.2]],[]⟩) fun k x=>by obtain⟨v120,v121,v122⟩:=x; rw [uc]; exact rgL<|bFL (blL (fun y169=>⟨25,[(0,qp 0),(6,ql 1 (cI .i64) a1),(7,qi (a1.length:Int)),(8,qi v120)]⟩) (fun y169=>⟨[[qs y169.1,qi y169.2]],[]⟩) (fun y169=>bEL fun x171 hx171=>rCL (kPL 0 (zR (c:=(cI .i64)) (e:=3) (sz:=1) (b:=8) (tok:= .none) hx171) edL)<|bEL fun y173 hE=>rgF hE ⟨25,[(0,qp 0),(5,qi x171),(6,ql 1 (cI .i64) a1),(7,qi (a1.length:Int)),(8,qi v120),(17,qb y173)]⟩ ⟨[[qs v121,qi v122]],[]⟩ (gFL 3 14 (eJ O)<|eJ O)<|bFL (bEL fun r174 hr174=>rCL (kCL 1 O (uV hr174) edL)<|bEL fun r175 hr175=>bEL fun r176 hr176=>xC ya (kCL 2 A0 (XN hr175)<|kCL 3 O (yf hr176) edL)<|jnL O)<|bEL fun r177 hr177=>bEL fun r178 hr178=>xC ya (kCL 2 A0 (XN hr177)<|kCL 3 O (yf hr178) edL)<|jnL O) fun y169=>xi zI fun h=>⟨(wrap .i64 (v120+1),y169.1,y169.2),h,wk O⟩)<|zW<|zS<|zN<|jnL O) fun y90=>nJ O
def gJ (n:Nat)(a0:C4):Nat→(List Int)→Int→Option (List Int)
 |0,_,_=>none
 | k+1,v48,v49=>
  if(decide (v49<(a0.length:Int)))=true then((xD a0 v49).bind fun x65=>
  (xD ([48,49,50,51,52,53,54,55,56,57,97,98,99,100,101,102]:C4) (Int.fdiv x65 16)).bind fun x66=>
  (xD a0 v49).bind fun x67=>
  (xD ([48,49,50,51,52,53,54,55,56,57,97,98,99,100,101,102]:C4) (va .u8 x67 15)).bind fun x68=>
  (jO 1 v48 ([x66,x68]:List Int)).bind fun x69=>
  gJ n a0 k x69 (wrap .i64 (v49+1)))else(some v48)
def YQ (n:Nat)(a0:C4):Option C4:=
 (gJ n a0 n ([]:List Int) 0).bind fun y35=>
 some (b2s y35)
theorem VU {n:Nat} {a0:C4} {r:C4}:YQ n a0=some r→AC mx 173 [qs a0] [] (qs r) []:=by
 delta YQ
 exact fnL Tryz.func173 rfl<|rgL<|rgL<|rgL<|blL (fun y35=>⟨26,[(3, .sl 1 (List.map (cI .u8) y35) (.fam 0 (y35.length)))]⟩) (fun y35=>⟨[],[y35.length]⟩) (fun y35=>w7 (wk (fr':=⟨26,[(0,qs a0),(3,qn),(4,qi 0)]⟩) (st':=⟨[],[]⟩) J)<|w7 Wk.nilFam<|lpL (fun k x=>gJ n a0 k x.1 x.2) (([]:List Int),0) A2 (fun x=>⟨26,[(0,qs a0),(3, .sl 1 (List.map (cI .u8) x.1) (.fam 0 (x.1.length))),(4,qi x.2)]⟩) (fun x=>⟨[],[x.1.length]⟩) fun k x=>by obtain⟨v48,v49⟩:=x; rw [gJ]; exact rgL<|bFL (zY<|bEL fun x65 hx65=>bEL fun x66 hx66=>bEL fun x67 hx67=>bEL fun x68 hx68=>bEL fun x69 hx69=>lfL (fun z=>zmN yF [0,1,2,3,4,5,6,7,8,9,10,11,12,13] [12,13] [[],[],[],[1,2],[1,2,3],[1,2,3,4],[],[],[6,7],[6,7,8],[6,7,8,9],[1,2,3,4,5,6,7,8,9,10],[0,1,2,3,4,5,6,7,8,9,10,11],[0,1,2,3,4,5,6,7,8,9,10,11,12]] [] [(0,qs a0),(3, .sl 1 (List.map (cI .u8) x69) (.fam 0 (x69.length))),(4,qi v49)] ⟨[],[x69.length]⟩ (dS [0,1,2]<|dP (zZ hx65)<|dS [4]<|dP (zZ hx66)<|dS [6,7]<|dP (zZ hx67)<|dS [9]<|dP (zZ hx68)<|dS [11]<|dA (zL 10 (zZ hx68) (zL 8 (zZ hx67) (zL 5 (zZ hx66) (zL 3 (zZ hx65) yU)))) 0 (cI .u8) (e:=5) (e2:=5) (sz:=1) (bytes:=1) (b2:=1) (tok2:= .exact) hx69<|dF (zL 10 (zZ hx68) (zL 8 (zZ hx67) (zL 5 (zZ hx66) (zL 3 (zZ hx65) yU))))<|dE A2) z)<|z8<|xi zI fun h=>⟨(x69,wrap .i64 (v49+1)),h,wk A2⟩)<|zW<|zS<|zN<|jnL A2) fun y35=>rCL (lfL (fun z=>kB 1 y35 z) edL)<|zg<|rJ A8
def bx (n:Nat)(a1:C4)(m0:zx):Option zx:=
 if(a1==([]:C4))=true then((ym n ([45]:C4) m0).bind fun r1=>
 some r1)else((YQ n a1).bind fun r2=>
 (ym n r2 m0).bind fun r3=>
 some r3)
theorem ZV {n:Nat} {a1:C4} {m0:zx} {r:zx}:bx n a1 m0=some r→AC mx 80 [qp 0,qs a1] [zx.cells m0] (.tuple []) [zx.cells r]:=by
 delta bx
 exact fnL Tryz.func80 rfl<|rgL<|bFL (bEL fun r1 hr1=>xC vi (kCL 1 O (yf hr1) edL)<|nJ O)<|bEL fun r2 hr2=>bEL fun r3 hr3=>xC vi (kCL 2 A0 (VU hr2)<|kCL 3 O (yf hr3) edL)<|nJ O
def vC (n:Nat)(a1:Int)(m0:zx):Option zx:=
 if(a1==(-1))=true then((ym n ([45]:C4) m0).bind fun r1=>
 some r1)else((yB n ([a1]:List Int) m0).bind fun r2=>
 some r2)
theorem jI {n:Nat} {a1:Int} {m0:zx} {r:zx}:vC n a1 m0=some r→AC mx 183 [qp 0,qi a1] [zx.cells m0] (.tuple []) [zx.cells r]:=by
 delta vC
 exact fnL Tryz.func183 rfl<|rgL<|bFL (bEL fun r1 hr1=>xC vi (kCL 1 O (yf hr1) edL)<|nJ O)<|bEL fun r2 hr2=>xC vi (kCL 3 O (yC hr2) edL)<|nJ O
def qz (n:Nat)(a1:zM)(m0:zx):Option (zM×zx):=
 (if(a1.yA==1)=true then(none)else(if(a1.yA==2)=true then((ym n ([114,101,110,101,119]:C4) m0).bind fun r63=>
 (yB n ([a1.yH,a1.xB,a1.yZ]:List Int) r63).bind fun r64=>
 some (r64.jV,r64.f_e,a1.xB,([]:C4),a1.yZ,0,0,0,0,0,false))else(if(a1.yA==3)=true then((ym n ([114,101,107,101,121]:C4) m0).bind fun r65=>
 (yB n ([a1.yH,a1.xB]:List Int) r65).bind fun r66=>
 some (r66.jV,r66.f_e,a1.xB,([]:C4),0,0,0,0,0,0,false))else(if(a1.yA==4)=true then((ym n ([114,101,118,111,107,101]:C4) m0).bind fun r67=>
 (yB n ([a1.yH,a1.yZ,a1.xz]:List Int) r67).bind fun r68=>
 (vC n a1.yX r68).bind fun r69=>
 some (r69.jV,r69.f_e,0,([]:C4),a1.yZ,a1.xz,a1.yX,0,0,0,false))else(if(a1.yA==5)=true then((ym n ([114,101,108,101,97,115,101]:C4) m0).bind fun r70=>
 (yB n ([a1.yH,a1.yZ]:List Int) r70).bind fun r71=>
 some (r71.jV,r71.f_e,0,([]:C4),a1.yZ,0,0,0,0,0,false))else(if(a1.yA==6)=true then((ym n ([112,117,98,108,105,115,104]:C4) m0).bind fun r72=>
 (yB n ([a1.yH,a1.xB]:List Int) r72).bind fun r73=>
 (vC n a1.w8 r73).bind fun r74=>
 (yB n ([a1.wa]:List Int) r74).bind fun r75=>
 (vC n a1.w9 r75).bind fun r76=>
 if a1.yV=true then((ym n ([102,111,114,101,105,103,110]:C4) r76).bind fun r77=>
 some (r77.jV,r77.f_e,a1.xB,([]:C4),0,0,0,a1.w8,a1.wa,a1.w9,a1.yV))else((ym n ([111,119,110]:C4) r76).bind fun r78=>
 some (r78.jV,r78.f_e,a1.xB,([]:C4),0,0,0,a1.w8,a1.wa,a1.w9,a1.yV)))else(if(a1.yA==7)=true then((ym n ([97,100,111,112,116]:C4) m0).bind fun r79=>
 (yB n ([a1.yH]:List Int) r79).bind fun r80=>
 (bx n a1.vx r80).bind fun r81=>
 some (r81.jV,r81.f_e,0,a1.vx,0,0,0,0,0,0,false))else((vz n 1 m0).bind fun r82=>
 some (r82.jV,r82.f_e,0,([]:C4),0,0,0,0,0,0,false))))))))).bind fun y58=>
 some ((zM.mk a1.yA a1.yH y58.2.2.1 y58.2.2.2.1 (zr.mk false false 0 0 ([]:List C4) ([]:List C4) ([]:List zw) 0 0 0 ([]:List za) false (zv.mk ([]:List za) ([]:List za)) ([]:C4) ([]:C4) ([]:List zn) ([]:List zn) ([]:List zf)) y58.2.2.2.2.1 y58.2.2.2.2.2.1 y58.2.2.2.2.2.2.1 y58.2.2.2.2.2.2.2.1 y58.2.2.2.2.2.2.2.2.1 y58.2.2.2.2.2.2.2.2.2.1 y58.2.2.2.2.2.2.2.2.2.2),(zx.mk y58.1 y58.2.1))
theorem gD {n:Nat} {a1:zM} {m0:zx} {r:(zM×zx)}:qz n a1 m0=some r→AC mx 85 [qp 0, .agg (zM.cells a1)] [zx.cells m0] (.agg (zM.cells r.1)) [zx.cells r.2]:=by
 delta qz
 exact fnL Tryz.func85 rfl<|rgL<|rgL<|rgL<|blL (fun y58=>⟨188,[(4,qp 1),(5,qp 2)]⟩) (fun y58=>⟨[[qs y58.1,qi y58.2.1],[qi 0,qi 0,qi 0,qs [],qb false,qb false,qi 0,qi 0,qn,qn,qn,qi 0,qi 0,qi 0,qn,qb false,qn,qn,qs [],qs [],qn,qn,qn,qi 0,qi 0,qi 0,qi 0,qi 0,qi 0,qb false],[qi a1.yA,qi a1.yH,qi y58.2.2.1,qs y58.2.2.2.1,qb false,qb false,qi 0,qi 0,qn,qn,qn,qi 0,qi 0,qi 0,qn,qb false,qn,qn,qs [],qs [],qn,qn,qn,qi y58.2.2.2.2.1,qi y58.2.2.2.2.2.1,qi y58.2.2.2.2.2.2.1,qi y58.2.2.2.2.2.2.2.1,qi y58.2.2.2.2.2.2.2.2.1,qi y58.2.2.2.2.2.2.2.2.2.1,qb y58.2.2.2.2.2.2.2.2.2.2]],[]⟩) (fun y58=>rgL<|bFL nEL<|rgL<|bFL (lfL (fun z=>zm [0,1,2,3,4,5,6,7] [5,7] [[],[0],[],[2],[0,1],[0,1,4],[0,1,2,3,4,5],[0,1,2,3,4,5,6]] [] [(0,qp 0),(3,qp 1),(4,qp 2),(5,qp 3)] ⟨[zx.cells m0,zM.cells a1,[qi 0,qi 0,qi 0,qs [],qb false,qb false,qi 0,qi 0,qn,qn,qn,qi 0,qi 0,qi 0,qn,qb false,qn,qn,qs [],qs [],qn,qn,qn,qi 0,qi 0,qi 0,qi 0,qi 0,qi 0,qb false],[qi a1.yA,qi a1.yH,qi a1.xB,qs [],qb false,qb false,qi 0,qi 0,qn,qn,qn,qi 0,qi 0,qi 0,qn,qb false,qn,qn,qs [],qs [],qn,qn,qn,qi a1.yZ,qi 0,qi 0,qi 0,qi 0,qi 0,qb false]],[]⟩ (dS [0,1,2,3,4]<|dF yU<|dS [6]<|dF yU<|dE C3) z)<|bEL fun r63 hr63=>rCL (kCL 1 Ac (yf hr63) edL)<|bEL fun r64 hr64=>xC ya (kCL 8 Ac (yC hr64) edL)<|jnL Al)<|rgL<|bFL (rgL<|bEL fun r65 hr65=>rCL (kCL 1 Ac (yf hr65) edL)<|bEL fun r66 hr66=>xC ya (kCL 6 Ac (yC hr66) edL)<|jnL Al)<|rgL<|bFL (lfL (fun z=>zm [0,1,2,3,4,5,6,7,8,9,10,11] [7,9,11] [[],[0],[],[2],[],[4],[0,1],[0,1,6],[0,1,2,3,6,7],[0,1,2,3,6,7,8],[0,1,2,3,4,5,6,7,8,9],[0,1,2,3,4,5,6,7,8,9,10]] [] [(0,qp 0),(3,qp 1),(4,qp 2),(5,qp 3)] ⟨[zx.cells m0,zM.cells a1,[qi 0,qi 0,qi 0,qs [],qb false,qb false,qi 0,qi 0,qn,qn,qn,qi 0,qi 0,qi 0,qn,qb false,qn,qn,qs [],qs [],qn,qn,qn,qi 0,qi 0,qi 0,qi 0,qi 0,qi 0,qb false],[qi a1.yA,qi a1.yH,qi 0,qs [],qb false,qb false,qi 0,qi 0,qn,qn,qn,qi 0,qi 0,qi 0,qn,qb false,qn,qn,qs [],qs [],qn,qn,qn,qi a1.yZ,qi a1.xz,qi a1.yX,qi 0,qi 0,qi 0,qb false]],[]⟩ (dS [0,1,2,3,4,5,6]<|dF yU<|dS [8]<|dF yU<|dS [10]<|dF yU<|dE C3) z)<|bEL fun r67 hr67=>rCL (kCL 1 Ac (yf hr67) edL)<|bEL fun r68 hr68=>rCL (kCL 8 Ac (yC hr68) edL)<|bEL fun r69 hr69=>xC ya (kCL 3 Ac (jI hr69) edL)<|jnL Al)<|rgL<|bFL (rgL<|bEL fun r70 hr70=>rCL (kCL 1 Ac (yf hr70) edL)<|bEL fun r71 hr71=>xC ya (kCL 6 Ac (yC hr71) edL)<|jnL Al)<|rgL<|bFL (lfL (fun z=>zm [0,1,2,3,4,5,6,7,8,9,10,11,12,13,14,15,16,17,18,19] [11,13,15,17,19] [[],[0],[],[2],[],[4],[],[6],[],[8],[0,1],[0,1,10],[0,1,2,3,10,11],[0,1,2,3,10,11,12],[0,1,2,3,4,5,10,11,12,13],[0,1,2,3,4,5,10,11,12,13,14],[0,1,2,3,4,5,6,7,10,11,12,13,14,15],[0,1,2,3,4,5,6,7,10,11,12,13,14,15,16],[0,1,2,3,4,5,6,7,8,9,10,11,12,13,14,15,16,17],[0,1,2,3,4,5,6,7,8,9,10,11,12,13,14,15,16,17,18]] [] [(0,qp 0),(3,qp 1),(4,qp 2),(5,qp 3)] ⟨[zx.cells m0,zM.cells a1,[qi 0,qi 0,qi 0,qs [],qb false,qb false,qi 0,qi 0,qn,qn,qn,qi 0,qi 0,qi 0,qn,qb false,qn,qn,qs [],qs [],qn,qn,qn,qi 0,qi 0,qi 0,qi 0,qi 0,qi 0,qb false],[qi a1.yA,qi a1.yH,qi a1.xB,qs [],qb false,qb false,qi 0,qi 0,qn,qn,qn,qi 0,qi 0,qi 0,qn,qb false,qn,qn,qs [],qs [],qn,qn,qn,qi 0,qi 0,qi 0,qi a1.w8,qi a1.wa,qi a1.w9,qb a1.yV]],[]⟩ (dS [0,1,2,3,4,5,6,7,8,9,10]<|dF yU<|dS [12]<|dF yU<|dS [14]<|dF yU<|dS [16]<|dF yU<|dS [18]<|dF yU<|dE C3) z)<|bEL fun r72 hr72=>rCL (kCL 1 Ac (yf hr72) edL)<|bEL fun r73 hr73=>rCL (kCL 6 Ac (yC hr73) edL)<|bEL fun r74 hr74=>rCL (kCL 3 Ac (jI hr74) edL)<|bEL fun r75 hr75=>rCL (kCL 4 Ac (yC hr75) edL)<|bEL fun r76 hr76=>rCL (kCL 3 Ac (jI hr76) edL)<|rgL<|bFL (bEL fun r77 hr77=>xC ya (kCL 1 Ac (yf hr77) edL)<|jnL Al)<|bEL fun r78 hr78=>xC ya (kCL 1 Ac (yf hr78) edL)<|jnL Al)<|rgL<|bFL (rgL<|bEL fun r79 hr79=>rCL (kCL 1 Ac (yf hr79) edL)<|bEL fun r80 hr80=>rCL (kCL 4 Ac (yC hr80) edL)<|bEL fun r81 hr81=>xC ya (kCL 3 Ac (ZV hr81) edL)<|jnL Al)<|bEL fun r82 hr82=>xC ya (kCL 1 Ac (uV hr82) edL)<|jnL Al) fun y58=>rgL<|zg<|rJ A5
def jC (n:Nat):Nat→Int→(List Int)→Option (Int×(List Int))
 |0,_,_=>none
 | k+1,v18,v19=>
  if(decide (v18≥128))=true then((jO 1 v19 ([ior .u8 (wrap .u8 v18) 128]:List Int)).bind fun x23=>
  jC n k (Int.fdiv v18 128) x23)else(some (v18,v19))
def yI (n:Nat)(a1:Int)(m0:zl):Option zl:=
 (if(decide (a1<0))=true then(some (mf .u64 18446744073709551615 (wrap .u64 ((wrap .u64 a1)*2))))else(some (wrap .u64 ((wrap .u64 a1)*2)))).bind fun y2=>
 (jC n  n y2 m0.f_b).bind fun y14=>
 (jO 1 y14.2 ([wrap .u8 y14.1]:List Int)).bind fun x24=>
 some (zl.mk x24)
theorem yE {n:Nat} {a1:Int} {m0:zl} {r:zl}:yI n a1 m0=some r→ACg mx 528 [qp 0,qi a1] [[.sl 1 (List.map (cI .u8) m0.f_b) (.fam 0 (m0.f_b.length))]] [m0.f_b.length] (.tuple []) [[.sl 1 (List.map (cI .u8) r.f_b) (.fam 0 (r.f_b.length))]] [r.f_b.length]:=by
 delta yI
 exact fnL Tryz.func528 rfl<|rgL<|rgL<|cuL (fun y2=>⟨39,[(0,qp 0),(4, .int .u64 y2)]⟩) (fun y2=>⟨[[.sl 1 (List.map (cI .u8) m0.f_b) (.fam 0 (m0.f_b.length))]],[m0.f_b.length]⟩) (fun y2=>bFL (xi zI<|jnL A7)<|jnL A7) fun y2=>blL (fun y14=>⟨39,[(0,qp 0),(4, .int .u64 y14.1)]⟩) (fun y14=>⟨[[.sl 1 (List.map (cI .u8) y14.2) (.fam 0 (y14.2.length))]],[y14.2.length]⟩) (fun y14=>lpL (fun k x=>jC n  k x.1 x.2) (y2,m0.f_b) A7 (fun x=>⟨39,[(0,qp 0),(4, .int .u64 x.1)]⟩) (fun x=>⟨[[.sl 1 (List.map (cI .u8) x.2) (.fam 0 (x.2.length))]],[x.2.length]⟩) fun k x=>by obtain⟨v18,v19⟩:=x; rw [jC]; exact rgL<|bFL (zY<|bEL fun x23 hx23=>xC yF (lfL (fun z=>kA 9 0 (cI .u8) (e:=5) (e2:=5) (sz:=1) (bytes:=1) (b2:=1) (tok2:= .exact) hx23 z) edL)<|z8<|xi zI fun h=>⟨(Int.fdiv v18 128,x23),h,wk A7⟩)<|zW<|zS<|zN<|jnL A7) fun y14=>bEL fun x24 hx24=>xC vi (lfL (fun z=>kA 8 0 (cI .u8) (e:=5) (e2:=5) (sz:=1) (bytes:=1) (b2:=1) (tok2:= .exact) hx24 z) edL)<|nJ A7
def wX (n:Nat)(a1:Bool)(m0:zl):Option zl:=
 if a1=true then((yI n 1 m0).bind fun r1=>
 some r1)else((yI n 0 m0).bind fun r2=>
 some r2)
theorem vM {n:Nat} {a1:Bool} {m0:zl} {r:zl}:wX n a1 m0=some r→ACg mx 484 [qp 0,qb a1] [[.sl 1 (List.map (cI .u8) m0.f_b) (.fam 0 (m0.f_b.length))]] [m0.f_b.length] (.tuple []) [[.sl 1 (List.map (cI .u8) r.f_b) (.fam 0 (r.f_b.length))]] [r.f_b.length]:=by
 delta wX
 exact fnL Tryz.func484 rfl<|rgL<|bFL (bEL fun r1 hr1=>xC vi (kCL 1 A7 (yE hr1) edL)<|nJ A7)<|bEL fun r2 hr2=>xC vi (kCL 1 A7 (yE hr2) edL)<|nJ A7
def jd (n:Nat)(a1:List Int):Nat→Int→(List Int)→Option (List Int)
 |0,_,_=>none
 | k+1,v22,v23=>
  if(decide (v22<(a1.length:Int)))=true then((xe a1 v22).bind fun x30=>
  (yI n x30 (zl.mk v23)).bind fun r31=>
  jd n a1 k (wrap .i64 (v22+1)) r31.f_b)else(some v23)
def qj (n:Nat)(a1:List Int)(m0:zl):Option zl:=
 (jd n a1 n 0 m0.f_b).bind fun y16=>
 some (zl.mk y16)
theorem b6 {n:Nat} {a1:(List Int)} {m0:zl} {r:zl}:qj n a1 m0=some r→ACg mx 485 [qp 0,ql 1 (cI .i64) a1] [[.sl 1 (List.map (cI .u8) m0.f_b) (.fam 0 (m0.f_b.length))]] [m0.f_b.length] (.tuple []) [[.sl 1 (List.map (cI .u8) r.f_b) (.fam 0 (r.f_b.length))]] [r.f_b.length]:=by
 delta qj
 exact fnL Tryz.func485 rfl<|rCL (kPL 1 (yg (c:=(cI .i64)) (l:=a1) (e:=3) (sz:=1) (sz':=1) (b:=8) (tok:= .none)) edL)<|Jg vi (fun y16=>⟨16,[]⟩) (fun y16=>⟨[[.sl 1 (List.map (cI .u8) y16) (.fam 0 (y16.length))]],[y16.length]⟩) (fun y16=>lpL (fun k x=>jd n a1 k x.1 x.2) (0,m0.f_b) A7 (fun x=>⟨16,[(0,qp 0),(6,ql 1 (cI .i64) a1),(7,qi (a1.length:Int)),(8,qi x.1)]⟩) (fun x=>⟨[[.sl 1 (List.map (cI .u8) x.2) (.fam 0 (x.2.length))]],[x.2.length]⟩) fun k x=>by obtain⟨v22,v23⟩:=x; rw [jd]; exact rgL<|bFL (zY<|bEL fun x30 hx30=>rCL (kPL 0 (zR (c:=(cI .i64)) (e:=3) (sz:=1) (b:=8) (tok:= .none) hx30) edL)<|bEL fun r31 hr31=>xC yF (kCL 2 A7 (yE hr31) edL)<|z8<|xi zI fun h=>⟨(wrap .i64 (v22+1),r31.f_b),h,wk A7⟩)<|zW<|zS<|zN<|jnL A7) fun y16=>nJ A7
def yN (n:Nat)(a1:C4)(m0:zl):Option zl:=
 (yI n (a1.length:Int) m0).bind fun r1=>
 (B8 1 r1.f_b a1).bind fun x2=>
 some (zl.mk x2)
theorem yQ {n:Nat} {a1:C4} {m0:zl} {r:zl}:yN n a1 m0=some r→ACg mx 489 [qp 0,qs a1] [[.sl 1 (List.map (cI .u8) m0.f_b) (.fam 0 (m0.f_b.length))]] [m0.f_b.length] (.tuple []) [[.sl 1 (List.map (cI .u8) r.f_b) (.fam 0 (r.f_b.length))]] [r.f_b.length]:=by
 delta yN
 exact fnL Tryz.func489 rfl<|bEL fun r1 hr1=>rCL (kCL 3 A7 (yE hr1) edL)<|bEL fun x2 hx2=>xC vi (lfL (fun z=>kT 6 1 1 0 (Pt (T:=tyT) (l:=r1.f_b) (s:=a1) (e:=5) (bytes:=1) O5 hx2) z) edL)<|nJ A7
def uQ (n:Nat)(a1:List C4):Nat→Int→(List Int)→Option (List Int)
 |0,_,_=>none
 | k+1,v23,v24=>
  if(decide (v23<(a1.length:Int)))=true then((xe a1 v23).bind fun x31=>
  (yN n x31 (zl.mk v24)).bind fun r32=>
  uQ n a1 k (wrap .i64 (v23+1)) r32.f_b)else(some v24)
def ku (n:Nat)(a1:List C4)(m0:zl):Option zl:=
 (yI n (a1.length:Int) m0).bind fun r1=>
 (uQ n a1 n 0 r1.f_b).bind fun y17=>
 some (zl.mk y17)
theorem Zi {n:Nat} {a1:(List C4)} {m0:zl} {r:zl}:ku n a1 m0=some r→ACg mx 529 [qp 0,ql 1 cS a1, .func (.func 489) [qp 0] []] [[.sl 1 (List.map (cI .u8) m0.f_b) (.fam 0 (m0.f_b.length))]] [m0.f_b.length] (.tuple []) [[.sl 1 (List.map (cI .u8) r.f_b) (.fam 0 (r.f_b.length))]] [r.f_b.length]:=by
 delta ku
 exact fnL Tryz.func529 rfl<|bEL fun r1 hr1=>rCL (kPL 2 (yg (c:=cS) (l:=a1) (e:=9) (sz:=1) (sz':=1) (b:=16) (tok:= .none))<|kCL 3 A7 (yE hr1) edL)<|rCL (kPL 1 (yg (c:=cS) (l:=a1) (e:=9) (sz:=1) (sz':=1) (b:=16) (tok:= .none)) edL)<|Jg vi (fun y17=>⟨22,[]⟩) (fun y17=>⟨[[.sl 1 (List.map (cI .u8) y17) (.fam 0 (y17.length))]],[y17.length]⟩) (fun y17=>lpL (fun k x=>uQ n a1 k x.1 x.2) (0,r1.f_b) A7 (fun x=>⟨22,[(2, .func (.func 489) [qp 0] []),(12,ql 1 cS a1),(13,qi (a1.length:Int)),(14,qi x.1)]⟩) (fun x=>⟨[[.sl 1 (List.map (cI .u8) x.2) (.fam 0 (x.2.length))]],[x.2.length]⟩) fun k x=>by obtain⟨v23,v24⟩:=x; rw [uQ]; exact rgL<|bFL (zY<|bEL fun x31 hx31=>rCL (kPL 0 (zR (c:=cS) (e:=9) (sz:=1) (b:=16) (tok:= .none) hx31) edL)<|bEL fun r32 hr32=>xC yF (kCL 2 A7 (yQ hr32) edL)<|z8<|xi zI fun h=>⟨(wrap .i64 (v23+1),r32.f_b),h,wk A7⟩)<|zW<|zS<|zN<|jnL A7) fun y17=>nJ A7
def jh (n:Nat)(a1:List C4)(m0:zl):Option zl:=
 (ku n a1 m0).bind fun r1=>
 some r1
theorem bd {n:Nat} {a1:(List C4)} {m0:zl} {r:zl}:jh n a1 m0=some r→ACg mx 486 [qp 0,ql 1 cS a1] [[.sl 1 (List.map (cI .u8) m0.f_b) (.fam 0 (m0.f_b.length))]] [m0.f_b.length] (.tuple []) [[.sl 1 (List.map (cI .u8) r.f_b) (.fam 0 (r.f_b.length))]] [r.f_b.length]:=by
 delta jh
 exact fnL Tryz.func486 rfl<|bEL fun r1 hr1=>xC vi (kCL 4 A7 (Zi hr1) edL)<|nJ A7
def qS (n:Nat)(a0:zw)(m1:zl):Option zl:=
 (yN n a0.uX m1).bind fun r1=>
 (yN n a0.dt r1).bind fun r2=>
 some r2
theorem pO {n:Nat} {a0:zw} {m1:zl} {r:zl}:qS n a0 m1=some r→ACg mx 488 [.agg (zw.cells a0),qp 0] [[qp 1],[.sl 1 (List.map (cI .u8) m1.f_b) (.fam 0 (m1.f_b.length))]] [m1.f_b.length] (.tuple []) [[qp 1],[.sl 1 (List.map (cI .u8) r.f_b) (.fam 0 (r.f_b.length))]] [r.f_b.length]:=by
 delta qS
 exact fnL Tryz.func488 rfl<|rgL<|bEL fun r1 hr1=>rCL (kCL 3 Ah (yQ hr1) edL)<|bEL fun r2 hr2=>xC vi (kCL 3 Ah (yQ hr2) edL)<|nJ Am
def vu (n:Nat)(a1:List zw):Nat→Int→(List Int)→Option (List Int)
 |0,_,_=>none
 | k+1,v23,v24=>
  if(decide (v23<(a1.length:Int)))=true then((xe a1 v23).bind fun x31=>
  (qS n x31 (zl.mk v24)).bind fun r32=>
  vu n a1 k (wrap .i64 (v23+1)) r32.f_b)else(some v24)
def jU (n:Nat)(a1:List zw)(m0:zl):Option zl:=
 (yI n (a1.length:Int) m0).bind fun r1=>
 (vu n a1 n 0 r1.f_b).bind fun y17=>
 some (zl.mk y17)
theorem dw {n:Nat} {a1:(List zw)} {m0:zl} {r:zl}:jU n a1 m0=some r→ACg mx 487 [qp 0,ql 2 zw.cells a1, .func (.func 488) [] [qp 1]] [[.sl 1 (List.map (cI .u8) m0.f_b) (.fam 0 (m0.f_b.length))],[qp 0]] [m0.f_b.length] (.tuple []) [[.sl 1 (List.map (cI .u8) r.f_b) (.fam 0 (r.f_b.length))],[qp 0]] [r.f_b.length]:=by
 delta jU
 exact fnL Tryz.func487 rfl<|bEL fun r1 hr1=>rCL (kPL 2 (yg (c:=zw.cells) (l:=a1) (e:=220) (sz:=2) (sz':=2) (b:=32) (tok:= .none))<|kCL 3 Ai (yE hr1) edL)<|rCL (kPL 1 (yg (c:=zw.cells) (l:=a1) (e:=220) (sz:=2) (sz':=2) (b:=32) (tok:= .none)) edL)<|Jg vi (fun y17=>⟨22,[]⟩) (fun y17=>⟨[[.sl 1 (List.map (cI .u8) y17) (.fam 0 (y17.length))],[qp 0]],[y17.length]⟩) (fun y17=>lpL (fun k x=>vu n a1 k x.1 x.2) (0,r1.f_b) Ae (fun x=>⟨22,[(2, .func (.func 488) [] [qp 1]),(12,ql 2 zw.cells a1),(13,qi (a1.length:Int)),(14,qi x.1)]⟩) (fun x=>⟨[[.sl 1 (List.map (cI .u8) x.2) (.fam 0 (x.2.length))],[qp 0]],[x.2.length]⟩) fun k x=>by obtain⟨v23,v24⟩:=x; rw [vu]; exact rgL<|bFL (zY<|bEL fun x31 hx31=>rCL (kPL 0 (zR (c:=zw.cells) (e:=220) (sz:=2) (b:=32) (tok:= .none) hx31) edL)<|bEL fun r32 hr32=>xC yF (kCL 2 Ay (pO hr32) edL)<|z8<|xi zI fun h=>⟨(wrap .i64 (v23+1),r32.f_b),h,wk Am⟩)<|zW<|zS<|zN<|jnL Ae) fun y17=>nJ Ae
def ja (n:Nat)(x978:List zc):Nat→Int→(List Int)→Option (List Int)
 |0,_,_=>none
 | k+1,v1017,v1018=>
  if(decide (v1017<(x978.length:Int)))=true then((xe x978 v1017).bind fun x1031=>
  (yN n x1031.uH (zl.mk v1018)).bind fun r1032=>
  (yI n x1031.yA r1032).bind fun r1033=>
  (yN n x1031.uy r1033).bind fun r1034=>
  ja n x978 k (wrap .i64 (v1017+1)) r1034.f_b)else(some v1018)
def jb (n:Nat)(a1:yq):Nat→Int→(List Int)→Option (List Int)
 |0,_,_=>none
 | k+1,v691,v692=>
  if(decide (v691<(a1.xo.length:Int)))=true then((xe a1.xo v691).bind fun x978=>
  (yI n (x978.length:Int) (zl.mk v692)).bind fun r979=>
  (ja n x978 n 0 r979.f_b).bind fun y1007=>
  jb n a1 k (wrap .i64 (v691+1)) y1007)else(some v692)
def qg (n:Nat)(a1:yq)(m0:zl):Option zl:=
 (yI n (a1.xo.length:Int) m0).bind fun r1=>
 (jb n a1 n 0 r1.f_b).bind fun y518=>
 some (zl.mk y518)
theorem bY {n:Nat} {a1:yq} {m0:zl} {r:zl}:qg n a1 m0=some r→ACg mx 532 [qp 0, .agg [ql 1 (cL 3 zc.cells) a1.xo]] [[.sl 1 (List.map (cI .u8) m0.f_b) (.fam 0 (m0.f_b.length))]] [m0.f_b.length] (.tuple []) [[.sl 1 (List.map (cI .u8) r.f_b) (.fam 0 (r.f_b.length))]] [r.f_b.length]:=by
 delta qg
 exact fnL Tryz.func532 rfl<|rgL<|bEL fun r1 hr1=>rCL (kPL 3 (yg (c:=(cL 3 zc.cells)) (l:=a1.xo) (e:=83) (sz:=1) (sz':=1) (b:=24) (tok:= .none))<|kCL 4 Ai (yE hr1) edL)<|rCL (kPL 2 (yg (c:=(cL 3 zc.cells)) (l:=a1.xo) (e:=83) (sz:=1) (sz':=1) (b:=24) (tok:= .none)) edL)<|Jg vi (fun y518=>⟨44,[]⟩) (fun y518=>⟨[[.sl 1 (List.map (cI .u8) y518) (.fam 0 (y518.length))]],[y518.length]⟩) (fun y518=>lpL (fun k x=>jb n a1 k x.1 x.2) (0,r1.f_b) Ai (fun x=>⟨44,[(0,qp 0),(14,ql 1 (cL 3 zc.cells) a1.xo),(15,qi (a1.xo.length:Int)),(16,qi x.1)]⟩) (fun x=>⟨[[.sl 1 (List.map (cI .u8) x.2) (.fam 0 (x.2.length))]],[x.2.length]⟩) fun k x=>by obtain⟨v691,v692⟩:=x; rw [jb]; exact rgL<|bFL (zY<|bEL fun x978 hx978=>rCL (kPL 0 (zR (c:=(cL 3 zc.cells)) (e:=83) (sz:=1) (b:=24) (tok:= .none) hx978) edL)<|bEL fun r979 hr979=>rCL (kPL 2 (yg (c:=zc.cells) (l:=x978) (e:=82) (sz:=3) (sz':=3) (b:=40) (tok:= .none))<|kCL 3 A7 (yE hr979) edL)<|rCL (kPL 1 (yg (c:=zc.cells) (l:=x978) (e:=82) (sz:=3) (sz':=3) (b:=40) (tok:= .none)) edL)<|Jg yF (fun y1007=>⟨44,[(0,qp 0),(14,ql 1 (cL 3 zc.cells) a1.xo),(15,qi (a1.xo.length:Int)),(16,qi v691)]⟩) (fun y1007=>⟨[[.sl 1 (List.map (cI .u8) y1007) (.fam 0 (y1007.length))]],[y1007.length]⟩) (fun y1007=>lpL (fun k x=>ja n x978 k x.1 x.2) (0,r979.f_b) A7 (fun x=>⟨44,[(0,qp 0),(14,ql 1 (cL 3 zc.cells) a1.xo),(15,qi (a1.xo.length:Int)),(16,qi v691),(24,ql 3 zc.cells x978),(25,qi (x978.length:Int)),(26,qi x.1)]⟩) (fun x=>⟨[[.sl 1 (List.map (cI .u8) x.2) (.fam 0 (x.2.length))]],[x.2.length]⟩) fun k x=>by obtain⟨v1017,v1018⟩:=x; rw [ja]; exact rgL<|bFL (zY<|bEL fun x1031 hx1031=>rCL (kPL 0 (zR (c:=zc.cells) (e:=82) (sz:=3) (b:=40) (tok:= .none) hx1031) edL)<|bEL fun r1032 hr1032=>rCL (kCL 3 Ai (yQ hr1032) edL)<|bEL fun r1033 hr1033=>rCL (kCL 3 Ai (yE hr1033) edL)<|bEL fun r1034 hr1034=>xC yF (kCL 3 Ai (yQ hr1034) edL)<|z8<|xi zI fun h=>⟨(wrap .i64 (v1017+1),r1034.f_b),h,wk Ai⟩)<|zW<|zS<|zN<|jnL A7) fun y1007=>z8<|xi zI fun h=>⟨(wrap .i64 (v691+1),y1007),h,wk A7⟩)<|zW<|zS<|zN<|jnL A7) fun y518=>nJ A7
def qD (n:Nat)(a0:za)(m1:zl):Option zl:=
 (yI n a0.yA m1).bind fun r1=>
 (yN n a0.V0 r1).bind fun r2=>
 (qg n (yq.mk a0.pZ.xo) r2).bind fun r3=>
 some r3
theorem pp {n:Nat} {a0:za} {m1:zl} {r:zl}:qD n a0 m1=some r→ACg mx 531 [.agg (za.cells a0),qp 0] [[qp 1],[.sl 1 (List.map (cI .u8) m1.f_b) (.fam 0 (m1.f_b.length))]] [m1.f_b.length] (.tuple []) [[qp 1],[.sl 1 (List.map (cI .u8) r.f_b) (.fam 0 (r.f_b.length))]] [r.f_b.length]:=by
 delta qD
 exact fnL Tryz.func531 rfl<|rgL<|bEL fun r1 hr1=>rCL (kCL 3 Ah (yE hr1) edL)<|bEL fun r2 hr2=>rCL (kCL 3 Ah (yQ hr2) edL)<|bEL fun r3 hr3=>xC vi (kCL 3 Ah (bY hr3) edL)<|nJ Am
def wM (n:Nat)(a1:List za):Nat→Int→(List Int)→Option (List Int)
 |0,_,_=>none
 | k+1,v23,v24=>
  if(decide (v23<(a1.length:Int)))=true then((xe a1 v23).bind fun x31=>
  (qD n (za.mk x31.yA x31.V0 (yq.mk x31.pZ.xo)) (zl.mk v24)).bind fun r32=>
  wM n a1 k (wrap .i64 (v23+1)) r32.f_b)else(some v24)
def uJ (n:Nat)(a1:List za)(m0:zl):Option zl:=
 (yI n (a1.length:Int) m0).bind fun r1=>
 (wM n a1 n 0 r1.f_b).bind fun y17=>
 some (zl.mk y17)
theorem gv {n:Nat} {a1:(List za)} {m0:zl} {r:zl}:uJ n a1 m0=some r→ACg mx 530 [qp 0,ql 3 za.cells a1, .func (.func 531) [] [qp 1]] [[.sl 1 (List.map (cI .u8) m0.f_b) (.fam 0 (m0.f_b.length))],[qp 0]] [m0.f_b.length] (.tuple []) [[.sl 1 (List.map (cI .u8) r.f_b) (.fam 0 (r.f_b.length))],[qp 0]] [r.f_b.length]:=by
 delta uJ
 exact fnL Tryz.func530 rfl<|bEL fun r1 hr1=>rCL (kPL 2 (yg (c:=za.cells) (l:=a1) (e:=213) (sz:=3) (sz':=3) (b:=48) (tok:= .none))<|kCL 3 Ai (yE hr1) edL)<|rCL (kPL 1 (yg (c:=za.cells) (l:=a1) (e:=213) (sz:=3) (sz':=3) (b:=48) (tok:= .none)) edL)<|Jg vi (fun y17=>⟨22,[]⟩) (fun y17=>⟨[[.sl 1 (List.map (cI .u8) y17) (.fam 0 (y17.length))],[qp 0]],[y17.length]⟩) (fun y17=>lpL (fun k x=>wM n a1 k x.1 x.2) (0,r1.f_b) Ae (fun x=>⟨22,[(2, .func (.func 531) [] [qp 1]),(12,ql 3 za.cells a1),(13,qi (a1.length:Int)),(14,qi x.1)]⟩) (fun x=>⟨[[.sl 1 (List.map (cI .u8) x.2) (.fam 0 (x.2.length))],[qp 0]],[x.2.length]⟩) fun k x=>by obtain⟨v23,v24⟩:=x; rw [wM]; exact rgL<|bFL (zY<|bEL fun x31 hx31=>rCL (kPL 0 (zR (c:=za.cells) (e:=213) (sz:=3) (b:=48) (tok:= .none) hx31) edL)<|bEL fun r32 hr32=>xC yF (kCL 2 Ay (pp hr32) edL)<|z8<|xi zI fun h=>⟨(wrap .i64 (v23+1),r32.f_b),h,wk Am⟩)<|zW<|zS<|zN<|jnL Ae) fun y17=>nJ Ae
def vt (n:Nat)(a1:List za)(m0:zl):Option zl:=
 (uJ n a1 m0).bind fun r1=>
 some r1
theorem uO {n:Nat} {a1:(List za)} {m0:zl} {r:zl}:vt n a1 m0=some r→ACg mx 490 [qp 0,ql 3 za.cells a1] [[.sl 1 (List.map (cI .u8) m0.f_b) (.fam 0 (m0.f_b.length))]] [m0.f_b.length] (.tuple []) [[.sl 1 (List.map (cI .u8) r.f_b) (.fam 0 (r.f_b.length))]] [r.f_b.length]:=by
 delta vt
 exact fnL Tryz.func490 rfl<|rgL<|bEL fun r1 hr1=>xC vi (kCL 3 Ae (gv hr1) edL)<|nJ Ai
def qk (n:Nat)(a0:zn)(m1:zl):Option zl:=
 (vt n a0.yl m1).bind fun r1=>
 (yI n a0.Y5 r1).bind fun r2=>
 (wX n a0.bj r2).bind fun r3=>
 (qg n (yq.mk a0.uX.xo) r3).bind fun r4=>
 some r4
theorem pc {n:Nat} {a0:zn} {m1:zl} {r:zl}:qk n a0 m1=some r→ACg mx 534 [.agg (zn.cells a0),qp 0] [[qp 1],[.sl 1 (List.map (cI .u8) m1.f_b) (.fam 0 (m1.f_b.length))]] [m1.f_b.length] (.tuple []) [[qp 1],[.sl 1 (List.map (cI .u8) r.f_b) (.fam 0 (r.f_b.length))]] [r.f_b.length]:=by
 delta qk
 exact fnL Tryz.func534 rfl<|rgL<|bEL fun r1 hr1=>rCL (kCL 3 Ah (uO hr1) edL)<|bEL fun r2 hr2=>rCL (kCL 3 Ah (yE hr2) edL)<|bEL fun r3 hr3=>rCL (kCL 3 Ah (vM hr3) edL)<|bEL fun r4 hr4=>xC vi (kCL 3 Ah (bY hr4) edL)<|nJ Am
def vR (n:Nat)(a1:List zn):Nat→Int→(List Int)→Option (List Int)
 |0,_,_=>none
 | k+1,v23,v24=>
  if(decide (v23<(a1.length:Int)))=true then((xe a1 v23).bind fun x31=>
  (qk n (zn.mk x31.yl x31.Y5 x31.bj (yq.mk x31.uX.xo)) (zl.mk v24)).bind fun r32=>
  vR n a1 k (wrap .i64 (v23+1)) r32.f_b)else(some v24)
def qo (n:Nat)(a1:List zn)(m0:zl):Option zl:=
 (yI n (a1.length:Int) m0).bind fun r1=>
 (vR n a1 n 0 r1.f_b).bind fun y17=>
 some (zl.mk y17)
theorem ph {n:Nat} {a1:(List zn)} {m0:zl} {r:zl}:qo n a1 m0=some r→ACg mx 533 [qp 0,ql 4 zn.cells a1, .func (.func 534) [] [qp 1]] [[.sl 1 (List.map (cI .u8) m0.f_b) (.fam 0 (m0.f_b.length))],[qp 0]] [m0.f_b.length] (.tuple []) [[.sl 1 (List.map (cI .u8) r.f_b) (.fam 0 (r.f_b.length))],[qp 0]] [r.f_b.length]:=by
 delta qo
 exact fnL Tryz.func533 rfl<|bEL fun r1 hr1=>rCL (kPL 2 (yg (c:=zn.cells) (l:=a1) (e:=118) (sz:=4) (sz':=4) (b:=64) (tok:= .none))<|kCL 3 Ai (yE hr1) edL)<|rCL (kPL 1 (yg (c:=zn.cells) (l:=a1) (e:=118) (sz:=4) (sz':=4) (b:=64) (tok:= .none)) edL)<|Jg vi (fun y17=>⟨22,[]⟩) (fun y17=>⟨[[.sl 1 (List.map (cI .u8) y17) (.fam 0 (y17.length))],[qp 0]],[y17.length]⟩) (fun y17=>lpL (fun k x=>vR n a1 k x.1 x.2) (0,r1.f_b) Ae (fun x=>⟨22,[(2, .func (.func 534) [] [qp 1]),(12,ql 4 zn.cells a1),(13,qi (a1.length:Int)),(14,qi x.1)]⟩) (fun x=>⟨[[.sl 1 (List.map (cI .u8) x.2) (.fam 0 (x.2.length))],[qp 0]],[x.2.length]⟩) fun k x=>by obtain⟨v23,v24⟩:=x; rw [vR]; exact rgL<|bFL (zY<|bEL fun x31 hx31=>rCL (kPL 0 (zR (c:=zn.cells) (e:=118) (sz:=4) (b:=64) (tok:= .none) hx31) edL)<|bEL fun r32 hr32=>xC yF (kCL 2 Ay (pc hr32) edL)<|z8<|xi zI fun h=>⟨(wrap .i64 (v23+1),r32.f_b),h,wk Am⟩)<|zW<|zS<|zN<|jnL Ae) fun y17=>nJ Ae
def jw (n:Nat)(a1:List zn)(m0:zl):Option zl:=
 (qo n a1 m0).bind fun r1=>
 some r1
theorem bu {n:Nat} {a1:(List zn)} {m0:zl} {r:zl}:jw n a1 m0=some r→ACg mx 491 [qp 0,ql 4 zn.cells a1] [[.sl 1 (List.map (cI .u8) m0.f_b) (.fam 0 (m0.f_b.length))]] [m0.f_b.length] (.tuple []) [[.sl 1 (List.map (cI .u8) r.f_b) (.fam 0 (r.f_b.length))]] [r.f_b.length]:=by
 delta jw
 exact fnL Tryz.func491 rfl<|rgL<|bEL fun r1 hr1=>xC vi (kCL 3 Ae (ph hr1) edL)<|nJ Ai
def qZ (n:Nat)(a0:zf)(m1:zl):Option zl:=
 (yN n a0.Uv m1).bind fun r1=>
 (wX n a0.Vx r1).bind fun r2=>
 (yN n a0.uy r2).bind fun r3=>
 some r3
theorem pI {n:Nat} {a0:zf} {m1:zl} {r:zl}:qZ n a0 m1=some r→ACg mx 493 [.agg (zf.cells a0),qp 0] [[qp 1],[.sl 1 (List.map (cI .u8) m1.f_b) (.fam 0 (m1.f_b.length))]] [m1.f_b.length] (.tuple []) [[qp 1],[.sl 1 (List.map (cI .u8) r.f_b) (.fam 0 (r.f_b.length))]] [r.f_b.length]:=by
 delta qZ
 exact fnL Tryz.func493 rfl<|rgL<|bEL fun r1 hr1=>rCL (kCL 3 Ah (yQ hr1) edL)<|bEL fun r2 hr2=>rCL (kCL 3 Ah (vM hr2) edL)<|bEL fun r3 hr3=>xC vi (kCL 3 Ah (yQ hr3) edL)<|nJ Am
def wZ (n:Nat)(a1:List zf):Nat→Int→(List Int)→Option (List Int)
 |0,_,_=>none
 | k+1,v23,v24=>
  if(decide (v23<(a1.length:Int)))=true then((xe a1 v23).bind fun x31=>
  (qZ n x31 (zl.mk v24)).bind fun r32=>
  wZ n a1 k (wrap .i64 (v23+1)) r32.f_b)else(some v24)
def jn (n:Nat)(a1:List zf)(m0:zl):Option zl:=
 (yI n (a1.length:Int) m0).bind fun r1=>
 (wZ n a1 n 0 r1.f_b).bind fun y17=>
 some (zl.mk y17)
theorem gW {n:Nat} {a1:(List zf)} {m0:zl} {r:zl}:jn n a1 m0=some r→ACg mx 492 [qp 0,ql 3 zf.cells a1, .func (.func 493) [] [qp 1]] [[.sl 1 (List.map (cI .u8) m0.f_b) (.fam 0 (m0.f_b.length))],[qp 0]] [m0.f_b.length] (.tuple []) [[.sl 1 (List.map (cI .u8) r.f_b) (.fam 0 (r.f_b.length))],[qp 0]] [r.f_b.length]:=by
 delta jn
 exact fnL Tryz.func492 rfl<|bEL fun r1 hr1=>rCL (kPL 2 (yg (c:=zf.cells) (l:=a1) (e:=123) (sz:=3) (sz':=3) (b:=40) (tok:= .none))<|kCL 3 Ai (yE hr1) edL)<|rCL (kPL 1 (yg (c:=zf.cells) (l:=a1) (e:=123) (sz:=3) (sz':=3) (b:=40) (tok:= .none)) edL)<|Jg vi (fun y17=>⟨22,[]⟩) (fun y17=>⟨[[.sl 1 (List.map (cI .u8) y17) (.fam 0 (y17.length))],[qp 0]],[y17.length]⟩) (fun y17=>lpL (fun k x=>wZ n a1 k x.1 x.2) (0,r1.f_b) Ae (fun x=>⟨22,[(2, .func (.func 493) [] [qp 1]),(12,ql 3 zf.cells a1),(13,qi (a1.length:Int)),(14,qi x.1)]⟩) (fun x=>⟨[[.sl 1 (List.map (cI .u8) x.2) (.fam 0 (x.2.length))],[qp 0]],[x.2.length]⟩) fun k x=>by obtain⟨v23,v24⟩:=x; rw [wZ]; exact rgL<|bFL (zY<|bEL fun x31 hx31=>rCL (kPL 0 (zR (c:=zf.cells) (e:=123) (sz:=3) (b:=40) (tok:= .none) hx31) edL)<|bEL fun r32 hr32=>xC yF (kCL 2 Ay (pI hr32) edL)<|z8<|xi zI fun h=>⟨(wrap .i64 (v23+1),r32.f_b),h,wk Am⟩)<|zW<|zS<|zN<|jnL Ae) fun y17=>nJ Ae
def qa (n:Nat)(a1:zr)(m0:zl):Option zl:=
 (wX n a1.yk m0).bind fun r1=>
 (wX n a1.jZ r1).bind fun r2=>
 (qj n ([a1.yw,a1.yr]:List Int) r2).bind fun r3=>
 (jh n a1.yc r3).bind fun r4=>
 (jh n a1.zH r4).bind fun r5=>
 (jU n a1.yd r5).bind fun r6=>
 (qj n ([a1.zA,a1.zD,a1.zV]:List Int) r6).bind fun r7=>
 (vt n a1.yl r7).bind fun r8=>
 (wX n a1.zz r8).bind fun r9=>
 (vt n a1.zq.ye r9).bind fun r10=>
 (vt n a1.zq.yo r10).bind fun r11=>
 (yN n a1.zU r11).bind fun r12=>
 (yN n a1.zJ r12).bind fun r13=>
 (jw n a1.yn r13).bind fun r14=>
 (jw n a1.z7 r14).bind fun r15=>
 (jn n a1.yp r15).bind fun r16=>
 some r16
theorem gf {n:Nat} {a1:zr} {m0:zl} {r:zl}:qa n a1 m0=some r→ACg mx 397 [qp 0, .agg (zr.cells a1)] [[.sl 1 (List.map (cI .u8) m0.f_b) (.fam 0 (m0.f_b.length))]] [m0.f_b.length] (.tuple []) [[.sl 1 (List.map (cI .u8) r.f_b) (.fam 0 (r.f_b.length))]] [r.f_b.length]:=by
 delta qa
 exact fnL Tryz.func397 rfl<|rgL<|bEL fun r1 hr1=>rCL (kCL 3 Af (vM hr1) edL)<|bEL fun r2 hr2=>rCL (kCL 3 Af (vM hr2) edL)<|bEL fun r3 hr3=>rCL (kCL 6 Af (b6 hr3) edL)<|bEL fun r4 hr4=>rCL (kCL 3 Af (bd hr4) edL)<|bEL fun r5 hr5=>rCL (kCL 3 Af (bd hr5) edL)<|bEL fun r6 hr6=>rCL (kCL 4 Am (dw hr6) edL)<|bEL fun r7 hr7=>rCL (kCL 8 Af (b6 hr7) edL)<|bEL fun r8 hr8=>rCL (kCL 3 Af (uO hr8) edL)<|bEL fun r9 hr9=>rCL (kCL 3 Af (vM hr9) edL)<|bEL fun r10 hr10=>rCL (kCL 4 Af (uO hr10) edL)<|bEL fun r11 hr11=>rCL (kCL 4 Af (uO hr11) edL)<|bEL fun r12 hr12=>rCL (kCL 3 Af (yQ hr12) edL)<|bEL fun r13 hr13=>rCL (kCL 3 Af (yQ hr13) edL)<|bEL fun r14 hr14=>rCL (kCL 3 Af (bu hr14) edL)<|bEL fun r15 hr15=>rCL (kCL 3 Af (bu hr15) edL)<|bEL fun r16 hr16=>xC vi (kCL 4 Am (gW hr16) edL)<|nJ Af
def jS (n:Nat)(m0:zl):Option (C4×zl):=
 some (b2s m0.f_b,m0)
theorem bM {n:Nat} {m0:zl} {r:(C4×zl)}:jS n m0=some r→ACg mx 398 [qp 0] [[.sl 1 (List.map (cI .u8) m0.f_b) (.fam 0 (m0.f_b.length))]] [m0.f_b.length] (qs r.1) [[.sl 1 (List.map (cI .u8) r.2.f_b) (.fam 0 (r.2.f_b.length))]] [r.2.f_b.length]:=by
 delta jS
 exact fnL Tryz.func398 rfl<|rgL<|rCL (lfL (fun z=>kB 4 m0.f_b z) edL)<|zg<|rJ A7
def gt (n:Nat)(a0 a1:zr):Option Bool:=
 (qa n (zr.mk a0.yk a0.jZ a0.yw a0.yr a0.yc a0.zH a0.yd a0.zA a0.zD a0.zV a0.yl a0.zz (zv.mk a0.zq.ye a0.zq.yo) a0.zU a0.zJ a0.yn a0.z7 a0.yp) (zl.mk ([]:List Int))).bind fun r1=>
 (qa n (zr.mk a1.yk a1.jZ a1.yw a1.yr a1.yc a1.zH a1.yd a1.zA a1.zD a1.zV a1.yl a1.zz (zv.mk a1.zq.ye a1.zq.yo) a1.zU a1.zJ a1.yn a1.z7 a1.yp) (zl.mk ([]:List Int))).bind fun r2=>
 (jS n r1).bind fun r3=>
 (jS n r2).bind fun r4=>
 some (r3.1==r4.1)
theorem YF {n:Nat} {a0:zr} {a1:zr} {r:Bool}:gt n a0 a1=some r→AC mx 304 [.agg (zr.cells a0), .agg (zr.cells a1)] [] (qb r) []:=by
 delta gt
 exact fnL Tryz.func304 rfl<|rgL<|rgL<|w7 Wk.nilFam<|w7 (wk (fr':=⟨14,[(0, .agg (zr.cells a0)),(1, .agg (zr.cells a1)),(2,qp 0),(3,qp 1),(4,qb false),(5,qp 2),(6,qp 3)]⟩) (st':=⟨[zr.cells a0,zr.cells a1,[.sl 1 (List.map (cI .u8) ([]:List Int)) (.fam 0 (List.length ([]:List Int)))],[qn]],[List.length ([]:List Int)]⟩) ⟨[0,1,2,3],4,[0],1⟩)<|w7 Wk.nilFam<|w7 (wk (fr':=⟨14,[(0, .agg (zr.cells a0)),(1, .agg (zr.cells a1)),(2,qp 0),(3,qp 1),(4,qb false),(5,qp 2),(6,qp 3)]⟩) (st':=⟨[zr.cells a0,zr.cells a1,[.sl 1 (List.map (cI .u8) ([]:List Int)) (.fam 0 (List.length ([]:List Int)))],[.sl 1 (List.map (cI .u8) ([]:List Int)) (.fam 1 (List.length ([]:List Int)))]],[List.length ([]:List Int),List.length ([]:List Int)]⟩) ⟨[0,1,2,3],4,[0,1],2⟩)<|bEL fun r1 hr1=>rCL (kCL 1 ⟨[2],4,[0],2⟩ (gf hr1) edL)<|bEL fun r2 hr2=>rCL (kCL 1 ⟨[3],4,[1],2⟩ (gf hr2) edL)<|bEL fun r3 hr3=>bEL fun r4 hr4=>rCL (kCL 0 ⟨[2],4,[0],2⟩ (bM hr3)<|kCL 1 ⟨[3],4,[1],2⟩ (bM hr4) edL)<|zg<|rJ ⟨[],4,[],2⟩
def da (n:Nat)(a0 a1:zM):Option Bool:=
 (if(a0.yA==a1.yA)=true then(if(a0.yH==a1.yH)=true then(if(a0.xB==a1.xB)=true then(if(a0.vx==a1.vx)=true then((gt n (zr.mk a0.zb.yk a0.zb.jZ a0.zb.yw a0.zb.yr a0.zb.yc a0.zb.zH a0.zb.yd a0.zb.zA a0.zb.zD a0.zb.zV a0.zb.yl a0.zb.zz (zv.mk a0.zb.zq.ye a0.zb.zq.yo) a0.zb.zU a0.zb.zJ a0.zb.yn a0.zb.z7 a0.zb.yp) (zr.mk a1.zb.yk a1.zb.jZ a1.zb.yw a1.zb.yr a1.zb.yc a1.zb.zH a1.zb.yd a1.zb.zA a1.zb.zD a1.zb.zV a1.zb.yl a1.zb.zz (zv.mk a1.zb.zq.ye a1.zb.zq.yo) a1.zb.zU a1.zb.zJ a1.zb.yn a1.zb.z7 a1.zb.yp)).bind fun r1=>
 if r1=true then(if(a0.yZ==a1.yZ)=true then(if(a0.xz==a1.xz)=true then(if(a0.yX==a1.yX)=true then(if(a0.w8==a1.w8)=true then(if(a0.wa==a1.wa)=true then(if(a0.w9==a1.w9)=true then(some (a0.yV==a1.yV))else(some false))else(some false))else(some false))else(some false))else(some false))else(some false))else(some false))else(some false))else(some false))else(some false))else(some false)).bind fun y3=>
 some y3
theorem YX {n:Nat} {a0:zM} {a1:zM} {r:Bool}:da n a0 a1=some r→AC mx 197 [.agg (zM.cells a0), .agg (zM.cells a1)] [] (qb r) []:=by
 delta da
 exact fnL Tryz.func197 rfl<|rgL<|bEL fun y3 hE=>rgF hE ⟨87,[(4,qb y3)]⟩ ⟨[],[]⟩ (gFL 6 10 (gFL 13 17 (gFL 20 24 (gFL 27 31 (bEL fun r1 hr1=>kCL 31 A1 (YF hr1)<|gFL 34 38 (gFL 41 45 (gFL 48 52 (gFL 55 59 (gFL 62 66 (gFL 69 73 (gFL 76 80 (eJ A1)<|eJ A1)<|eJ A1)<|eJ A1)<|eJ A1)<|eJ A1)<|eJ A1)<|eJ A1)<|eJ A1)<|eJ A1)<|eJ A1)<|eJ A1)<|zg<|rJ J
def gU (n:Nat)(a0:zy):Option Bool:=
 (if(a0.yH==0)=true then(if(a0.vJ==([]:C4))=true then(if(a0.yr==0)=true then(if((a0.zH.length:Int)==0)=true then(if(!a0.vD)=true then(if(!a0.wW)=true then(if(!a0.qK)=true then(if((a0.yl.length:Int)==0)=true then(if(a0.wq==0)=true then(if(!a0.jL)=true then(some ((a0.vy.length:Int)==0))else(some false))else(some false))else(some false))else(some false))else(some false))else(some false))else(some false))else(some false))else(some false))else(some false)).bind fun y2=>
 some y2
theorem Y2 {n:Nat} {a0:zy} {r:Bool}:gU n a0=some r→AC mx 198 [.agg (zy.cells a0)] [] (qb r) []:=by
 delta gU
 exact fnL Tryz.func198 rfl<|rgL<|bEL fun y2 hE=>rgF hE ⟨59,[(2,qb y2)]⟩ ⟨[],[]⟩ (gFL 4 6 (gFL 9 11 (gFL 14 16 (kPL 16 (yg (c:=cS) (l:=a0.zH) (e:=9) (sz:=1) (sz':=1) (b:=16) (tok:= .none))<|gFL 20 22 (gFL 25 27 (gFL 30 32 (gFL 35 37 (kPL 37 (yg (c:=za.cells) (l:=a0.yl) (e:=213) (sz:=3) (sz':=3) (b:=48) (tok:= .none))<|gFL 41 43 (gFL 46 48 (gFL 51 53 (kPL 53 (yg (c:=zB.cells) (l:=a0.vy) (e:=228) (sz:=4) (sz':=4) (b:=64) (tok:= .none))<|eJ A0)<|eJ A0)<|eJ A0)<|eJ A0)<|eJ A0)<|eJ A0)<|eJ A0)<|eJ A0)<|eJ A0)<|eJ A0)<|eJ A0)<|zg<|rJ J
def gn (n:Nat)(a0 a1:zi):Option Bool:=
 (if(a0.bL !=a1.bL)=true then(some true)else((da n (zM.mk a0.zj.yA a0.zj.yH a0.zj.xB a0.zj.vx (zr.mk a0.zj.zb.yk a0.zj.zb.jZ a0.zj.zb.yw a0.zj.zb.yr a0.zj.zb.yc a0.zj.zb.zH a0.zj.zb.yd a0.zj.zb.zA a0.zj.zb.zD a0.zj.zb.zV a0.zj.zb.yl a0.zj.zb.zz (zv.mk a0.zj.zb.zq.ye a0.zj.zb.zq.yo) a0.zj.zb.zU a0.zj.zb.zJ a0.zj.zb.yn a0.zj.zb.z7 a0.zj.zb.yp) a0.zj.yZ a0.zj.xz a0.zj.yX a0.zj.w8 a0.zj.wa a0.zj.w9 a0.zj.yV) (zM.mk a1.zj.yA a1.zj.yH a1.zj.xB a1.zj.vx (zr.mk a1.zj.zb.yk a1.zj.zb.jZ a1.zj.zb.yw a1.zj.zb.yr a1.zj.zb.yc a1.zj.zb.zH a1.zj.zb.yd a1.zj.zb.zA a1.zj.zb.zD a1.zj.zb.zV a1.zj.zb.yl a1.zj.zb.zz (zv.mk a1.zj.zb.zq.ye a1.zj.zb.zq.yo) a1.zj.zb.zU a1.zj.zb.zJ a1.zj.zb.yn a1.zj.zb.z7 a1.zj.zb.yp) a1.zj.yZ a1.zj.xz a1.zj.yX a1.zj.w8 a1.zj.wa a1.zj.w9 a1.zj.yV)).bind fun r1=>
 if(!r1)=true then(some true)else(if(!(a0.k9==a1.k9))=true then(some true)else(if(a0.ki !=a1.ki)=true then(some true)else(if(a0.qt !=a1.qt)=true then(some true)else(some (a0.q8 !=a1.q8))))))).bind fun y3=>
 if y3=true then(some false)else((if(a0.yA==5)=true then(some true)else(if(a0.jr.yH==0)=true then(if((a0.jr.vV.length:Int)==0)=true then((gU n (zy.mk a0.zF.yH a0.zF.vJ a0.zF.yr a0.zF.zH a0.zF.vD a0.zF.wW a0.zF.qK a0.zF.yl a0.zF.wq a0.zF.jL a0.zF.vy)).bind fun r4=>
 if r4=true then(some ((a0.jB.length:Int)==0))else(some false))else(some false))else(some false))).bind fun y6=>
 some y6)
theorem YH {n:Nat} {a0:zi} {a1:zi} {r:Bool}:gn n a0 a1=some r→AC mx 88 [.agg (zi.cells a0), .agg (zi.cells a1)] [] (qb r) []:=by
 delta gn
 exact fnL Tryz.func88 rfl<|rgL<|bEL fun y3 hE=>rgF hE ⟨73,[(2,qp 0),(45,qb y3)]⟩ ⟨[zi.cells a0],[]⟩ (gFL 6 10 (eJ A9)<|bEL fun r1 hr1=>kCL 10 A1 (YX hr1)<|gFL 14 18 (eJ A9)<|gFL 21 25 (eJ A9)<|gFL 28 32 (eJ A9)<|gFL 35 39 (eJ A9)<|eJ A9)<|bFL (rgL<|zg<|rJ A0)<|bEL fun y6 hE=>rgF hE ⟨73,[(4,qb y6)]⟩ ⟨[],[]⟩ (gFL 4 49 (eJ A0)<|gFL 9 54 (kPL 12 (yg (c:=(cI .i64)) (l:=a0.jr.vV) (e:=3) (sz:=1) (sz':=1) (b:=8) (tok:= .none))<|gFL 16 61 (bEL fun r4 hr4=>kCL 18 A0 (Y2 hr4)<|gFL 21 66 (kPL 23 (yg (c:=(cI .i64)) (l:=a0.jB) (e:=3) (sz:=1) (sz':=1) (b:=8) (tok:= .none))<|eJ A0)<|eJ A0)<|eJ A0)<|eJ A0)<|zg<|rJ J
def qy (n:Nat)(m0:zx):Option (C4×Int×zx):=
 if(m0.f_e !=0)=true then(some (([]:C4),m0.f_e,m0))else((pb m0.jV ([10]:C4)).bind fun x1=>
 some (x1,0,m0))
theorem gB {n:Nat} {m0:zx} {r:(C4×Int×zx)}:qy n m0=some r→AC mx 83 [qp 0] [zx.cells m0] (.tuple [qs r.1,qi r.2.1]) [zx.cells r.2.2]:=by
 delta qy
 exact fnL Tryz.func83 rfl<|rgL<|rgL<|bFL (lfL (fun z=>zs [0,1,2,3,4,5] [] [[],[0],[0,1],[0,1,2],[],[0,1,2,3,4]] [2] [(3,qi m0.f_e)] (dS [0,1,2,3,4,5]<|dE O) z)<|zg<|rJ O)<|bEL fun x1 hx1=>rCL (kPL 4 (bR (d:=(tyT 9).d) hx1) edL)<|zg<|rJ O
def p9 (n:Nat)(a0:zi):Option (C4×Int):=
 (if(a0.yA==1)=true then((ym n ([97,99,116]:C4) (zx.mk ([]:C4) 0)).bind fun r68=>
 (yB n ([a0.bL]:List Int) r68).bind fun r69=>
 if a0.k9=true then((ym n ([104,105,100,101]:C4) r69).bind fun r70=>
 (qz n (zM.mk a0.zj.yA a0.zj.yH a0.zj.xB a0.zj.vx (zr.mk a0.zj.zb.yk a0.zj.zb.jZ a0.zj.zb.yw a0.zj.zb.yr a0.zj.zb.yc a0.zj.zb.zH a0.zj.zb.yd a0.zj.zb.zA a0.zj.zb.zD a0.zj.zb.zV a0.zj.zb.yl a0.zj.zb.zz (zv.mk a0.zj.zb.zq.ye a0.zj.zb.zq.yo) a0.zj.zb.zU a0.zj.zb.zJ a0.zj.zb.yn a0.zj.zb.z7 a0.zj.zb.yp) a0.zj.yZ a0.zj.xz a0.zj.yX a0.zj.w8 a0.zj.wa a0.zj.w9 a0.zj.yV) r70).bind fun r71=>
 some (r71.2.jV,r71.2.f_e,r71.1.yA,r71.1.yH,r71.1.xB,r71.1.vx,r71.1.zb.yk,r71.1.zb.jZ,r71.1.zb.yw,r71.1.zb.yr,r71.1.zb.yc,r71.1.zb.zH,r71.1.zb.yd,r71.1.zb.zA,r71.1.zb.zD,r71.1.zb.zV,r71.1.zb.yl,r71.1.zb.zz,r71.1.zb.zq.ye,r71.1.zb.zq.yo,r71.1.zb.zU,r71.1.zb.zJ,r71.1.zb.yn,r71.1.zb.z7,r71.1.zb.yp,r71.1.yZ,r71.1.xz,r71.1.yX,r71.1.w8,r71.1.wa,r71.1.w9,r71.1.yV,a0.k9,0,0))else((ym n ([112,111,115,116]:C4) r69).bind fun r72=>
 (qz n (zM.mk a0.zj.yA a0.zj.yH a0.zj.xB a0.zj.vx (zr.mk a0.zj.zb.yk a0.zj.zb.jZ a0.zj.zb.yw a0.zj.zb.yr a0.zj.zb.yc a0.zj.zb.zH a0.zj.zb.yd a0.zj.zb.zA a0.zj.zb.zD a0.zj.zb.zV a0.zj.zb.yl a0.zj.zb.zz (zv.mk a0.zj.zb.zq.ye a0.zj.zb.zq.yo) a0.zj.zb.zU a0.zj.zb.zJ a0.zj.zb.yn a0.zj.zb.z7 a0.zj.zb.yp) a0.zj.yZ a0.zj.xz a0.zj.yX a0.zj.w8 a0.zj.wa a0.zj.w9 a0.zj.yV) r72).bind fun r73=>
 some (r73.2.jV,r73.2.f_e,r73.1.yA,r73.1.yH,r73.1.xB,r73.1.vx,r73.1.zb.yk,r73.1.zb.jZ,r73.1.zb.yw,r73.1.zb.yr,r73.1.zb.yc,r73.1.zb.zH,r73.1.zb.yd,r73.1.zb.zA,r73.1.zb.zD,r73.1.zb.zV,r73.1.zb.yl,r73.1.zb.zz,r73.1.zb.zq.ye,r73.1.zb.zq.yo,r73.1.zb.zU,r73.1.zb.zJ,r73.1.zb.yn,r73.1.zb.z7,r73.1.zb.yp,r73.1.yZ,r73.1.xz,r73.1.yX,r73.1.w8,r73.1.wa,r73.1.w9,r73.1.yV,a0.k9,0,0)))else(if(a0.yA==2)=true then((ym n ([99,114,97,115,104]:C4) (zx.mk ([]:C4) 0)).bind fun r74=>
 (yB n ([a0.bL,a0.ki,a0.qt]:List Int) r74).bind fun r75=>
 some (r75.jV,r75.f_e,0,0,0,([]:C4),false,false,0,0,([]:List C4),([]:List C4),([]:List zw),0,0,0,([]:List za),false,([]:List za),([]:List za),([]:C4),([]:C4),([]:List zn),([]:List zn),([]:List zf),0,0,0,0,0,0,false,false,a0.ki,a0.qt))else(if(a0.yA==3)=true then((ym n ([102,117,115,101]:C4) (zx.mk ([]:C4) 0)).bind fun r76=>
 (yB n ([a0.bL,a0.ki]:List Int) r76).bind fun r77=>
 some (r77.jV,r77.f_e,0,0,0,([]:C4),false,false,0,0,([]:List C4),([]:List C4),([]:List zw),0,0,0,([]:List za),false,([]:List za),([]:List za),([]:C4),([]:C4),([]:List zn),([]:List zn),([]:List zf),0,0,0,0,0,0,false,false,a0.ki,0))else(if(a0.yA==4)=true then((ym n ([99,111,109,112,97,99,116]:C4) (zx.mk ([]:C4) 0)).bind fun r78=>
 (yB n ([a0.bL]:List Int) r78).bind fun r79=>
 some (r79.jV,r79.f_e,0,0,0,([]:C4),false,false,0,0,([]:List C4),([]:List C4),([]:List zw),0,0,0,([]:List za),false,([]:List za),([]:List za),([]:C4),([]:C4),([]:List zn),([]:List zn),([]:List zf),0,0,0,0,0,0,false,false,0,0))else(if(a0.yA==5)=true then(none)else((vz n 1 (zx.mk ([]:C4) 0)).bind fun r82=>
 some (r82.jV,r82.f_e,0,0,0,([]:C4),false,false,0,0,([]:List C4),([]:List C4),([]:List zw),0,0,0,([]:List za),false,([]:List za),([]:List za),([]:C4),([]:C4),([]:List zn),([]:List zn),([]:List zf),0,0,0,0,0,0,false,false,0,0))))))).bind fun y66=>
 (gn n (zi.mk a0.yA a0.bL (zM.mk a0.zj.yA a0.zj.yH a0.zj.xB a0.zj.vx (zr.mk a0.zj.zb.yk a0.zj.zb.jZ a0.zj.zb.yw a0.zj.zb.yr a0.zj.zb.yc a0.zj.zb.zH a0.zj.zb.yd a0.zj.zb.zA a0.zj.zb.zD a0.zj.zb.zV a0.zj.zb.yl a0.zj.zb.zz (zv.mk a0.zj.zb.zq.ye a0.zj.zb.zq.yo) a0.zj.zb.zU a0.zj.zb.zJ a0.zj.zb.yn a0.zj.zb.z7 a0.zj.zb.yp) a0.zj.yZ a0.zj.xz a0.zj.yX a0.zj.w8 a0.zj.wa a0.zj.w9 a0.zj.yV) a0.k9 a0.ki a0.qt a0.q8 (yu.mk a0.jr.yH a0.jr.vV) (zy.mk a0.zF.yH a0.zF.vJ a0.zF.yr a0.zF.zH a0.zF.vD a0.zF.wW a0.zF.qK a0.zF.yl a0.zF.wq a0.zF.jL a0.zF.vy) a0.jB) (zi.mk a0.yA a0.bL (zM.mk y66.2.2.1 y66.2.2.2.1 y66.2.2.2.2.1 y66.2.2.2.2.2.1 (zr.mk y66.2.2.2.2.2.2.1 y66.2.2.2.2.2.2.2.1 y66.2.2.2.2.2.2.2.2.1 y66.2.2.2.2.2.2.2.2.2.1 y66.2.2.2.2.2.2.2.2.2.2.1 y66.2.2.2.2.2.2.2.2.2.2.2.1 y66.2.2.2.2.2.2.2.2.2.2.2.2.1 y66.2.2.2.2.2.2.2.2.2.2.2.2.2.1 y66.2.2.2.2.2.2.2.2.2.2.2.2.2.2.1 y66.2.2.2.2.2.2.2.2.2.2.2.2.2.2.2.1 y66.2.2.2.2.2.2.2.2.2.2.2.2.2.2.2.2.1 y66.2.2.2.2.2.2.2.2.2.2.2.2.2.2.2.2.2.1 (zv.mk y66.2.2.2.2.2.2.2.2.2.2.2.2.2.2.2.2.2.2.1 y66.2.2.2.2.2.2.2.2.2.2.2.2.2.2.2.2.2.2.2.1) y66.2.2.2.2.2.2.2.2.2.2.2.2.2.2.2.2.2.2.2.2.1 y66.2.2.2.2.2.2.2.2.2.2.2.2.2.2.2.2.2.2.2.2.2.1 y66.2.2.2.2.2.2.2.2.2.2.2.2.2.2.2.2.2.2.2.2.2.2.1 y66.2.2.2.2.2.2.2.2.2.2.2.2.2.2.2.2.2.2.2.2.2.2.2.1 y66.2.2.2.2.2.2.2.2.2.2.2.2.2.2.2.2.2.2.2.2.2.2.2.2.1) y66.2.2.2.2.2.2.2.2.2.2.2.2.2.2.2.2.2.2.2.2.2.2.2.2.2.1 y66.2.2.2.2.2.2.2.2.2.2.2.2.2.2.2.2.2.2.2.2.2.2.2.2.2.2.1 y66.2.2.2.2.2.2.2.2.2.2.2.2.2.2.2.2.2.2.2.2.2.2.2.2.2.2.2.1 y66.2.2.2.2.2.2.2.2.2.2.2.2.2.2.2.2.2.2.2.2.2.2.2.2.2.2.2.2.1 y66.2.2.2.2.2.2.2.2.2.2.2.2.2.2.2.2.2.2.2.2.2.2.2.2.2.2.2.2.2.1 y66.2.2.2.2.2.2.2.2.2.2.2.2.2.2.2.2.2.2.2.2.2.2.2.2.2.2.2.2.2.2.1 y66.2.2.2.2.2.2.2.2.2.2.2.2.2.2.2.2.2.2.2.2.2.2.2.2.2.2.2.2.2.2.2.1) y66.2.2.2.2.2.2.2.2.2.2.2.2.2.2.2.2.2.2.2.2.2.2.2.2.2.2.2.2.2.2.2.2.1 y66.2.2.2.2.2.2.2.2.2.2.2.2.2.2.2.2.2.2.2.2.2.2.2.2.2.2.2.2.2.2.2.2.2.1 y66.2.2.2.2.2.2.2.2.2.2.2.2.2.2.2.2.2.2.2.2.2.2.2.2.2.2.2.2.2.2.2.2.2.2 0 (yu.mk 0 ([]:List Int)) (zy.mk 0 ([]:C4) 0 ([]:List C4) false false false ([]:List za) 0 false ([]:List zB)) ([]:List Int))).bind fun r83=>
 if(!r83)=true then((vz n 7 (zx.mk y66.1 y66.2.1)).bind fun r84=>
 (qy n r84).bind fun r85=>
 some (r85.1,r85.2.1))else((qy n (zx.mk y66.1 y66.2.1)).bind fun r86=>
 some (r86.1,r86.2.1))
theorem Wn {n:Nat} {a0:zi} {r:(C4×Int)}:p9 n a0=some r→AC mx 35 [.agg (zi.cells a0)] [] (.tuple [qs r.1,qi r.2]) []:=by
 delta p9
 exact fnL Tryz.func35 rfl<|rgL<|rgL<|rgL<|rgL<|blL (fun y66=>⟨112,[(1,qp 0),(4,qp 1),(5,qp 2)]⟩) (fun y66=>⟨[zi.cells a0,[qs y66.1,qi y66.2.1],[qi a0.yA,qi a0.bL,qi y66.2.2.1,qi y66.2.2.2.1,qi y66.2.2.2.2.1,qs y66.2.2.2.2.2.1,qb y66.2.2.2.2.2.2.1,qb y66.2.2.2.2.2.2.2.1,qi y66.2.2.2.2.2.2.2.2.1,qi y66.2.2.2.2.2.2.2.2.2.1,ql 1 cS y66.2.2.2.2.2.2.2.2.2.2.1,ql 1 cS y66.2.2.2.2.2.2.2.2.2.2.2.1,ql 2 zw.cells y66.2.2.2.2.2.2.2.2.2.2.2.2.1,qi y66.2.2.2.2.2.2.2.2.2.2.2.2.2.1,qi y66.2.2.2.2.2.2.2.2.2.2.2.2.2.2.1,qi y66.2.2.2.2.2.2.2.2.2.2.2.2.2.2.2.1,ql 3 za.cells y66.2.2.2.2.2.2.2.2.2.2.2.2.2.2.2.2.1,qb y66.2.2.2.2.2.2.2.2.2.2.2.2.2.2.2.2.2.1,ql 3 za.cells y66.2.2.2.2.2.2.2.2.2.2.2.2.2.2.2.2.2.2.1,ql 3 za.cells y66.2.2.2.2.2.2.2.2.2.2.2.2.2.2.2.2.2.2.2.1,qs y66.2.2.2.2.2.2.2.2.2.2.2.2.2.2.2.2.2.2.2.2.1,qs y66.2.2.2.2.2.2.2.2.2.2.2.2.2.2.2.2.2.2.2.2.2.1,ql 4 zn.cells y66.2.2.2.2.2.2.2.2.2.2.2.2.2.2.2.2.2.2.2.2.2.2.1,ql 4 zn.cells y66.2.2.2.2.2.2.2.2.2.2.2.2.2.2.2.2.2.2.2.2.2.2.2.1,ql 3 zf.cells y66.2.2.2.2.2.2.2.2.2.2.2.2.2.2.2.2.2.2.2.2.2.2.2.2.1,qi y66.2.2.2.2.2.2.2.2.2.2.2.2.2.2.2.2.2.2.2.2.2.2.2.2.2.1,qi y66.2.2.2.2.2.2.2.2.2.2.2.2.2.2.2.2.2.2.2.2.2.2.2.2.2.2.1,qi y66.2.2.2.2.2.2.2.2.2.2.2.2.2.2.2.2.2.2.2.2.2.2.2.2.2.2.2.1,qi y66.2.2.2.2.2.2.2.2.2.2.2.2.2.2.2.2.2.2.2.2.2.2.2.2.2.2.2.2.1,qi y66.2.2.2.2.2.2.2.2.2.2.2.2.2.2.2.2.2.2.2.2.2.2.2.2.2.2.2.2.2.1,qi y66.2.2.2.2.2.2.2.2.2.2.2.2.2.2.2.2.2.2.2.2.2.2.2.2.2.2.2.2.2.2.1,qb y66.2.2.2.2.2.2.2.2.2.2.2.2.2.2.2.2.2.2.2.2.2.2.2.2.2.2.2.2.2.2.2.1,qb y66.2.2.2.2.2.2.2.2.2.2.2.2.2.2.2.2.2.2.2.2.2.2.2.2.2.2.2.2.2.2.2.2.1,qi y66.2.2.2.2.2.2.2.2.2.2.2.2.2.2.2.2.2.2.2.2.2.2.2.2.2.2.2.2.2.2.2.2.2.1,qi y66.2.2.2.2.2.2.2.2.2.2.2.2.2.2.2.2.2.2.2.2.2.2.2.2.2.2.2.2.2.2.2.2.2.2,qi 0,qi 0,qn,qi 0,qs [],qi 0,qn,qb false,qb false,qb false,qn,qi 0,qb false,qn,qn]],[]⟩) (fun y66=>rgL<|bFL (bEL fun r68 hr68=>rCL (kCL 0 A6 (yf hr68) edL)<|bEL fun r69 hr69=>rCL (kCL 3 A6 (yC hr69) edL)<|rgL<|bFL (bEL fun r70 hr70=>rCL (kCL 0 A6 (yf hr70) edL)<|bEL fun r71 hr71=>lfL (fun z=>zmN ya [0,1,2,3,5,4,6,7,8] [4,6,8] [[],[0],[],[2],[2,3],[0,1],[0,1,2,3,4,5],[0,1,2,3,4,5,6],[0,1,2,3,4,5,6,7]] [] [(1,qp 0),(4,qp 1),(5,qp 2)] ⟨[zi.cells a0,zx.cells r71.2,[qi a0.yA,qi a0.bL,qi r71.1.yA,qi r71.1.yH,qi r71.1.xB,qs r71.1.vx,qb r71.1.zb.yk,qb r71.1.zb.jZ,qi r71.1.zb.yw,qi r71.1.zb.yr,ql 1 cS r71.1.zb.yc,ql 1 cS r71.1.zb.zH,ql 2 zw.cells r71.1.zb.yd,qi r71.1.zb.zA,qi r71.1.zb.zD,qi r71.1.zb.zV,ql 3 za.cells r71.1.zb.yl,qb r71.1.zb.zz,ql 3 za.cells r71.1.zb.zq.ye,ql 3 za.cells r71.1.zb.zq.yo,qs r71.1.zb.zU,qs r71.1.zb.zJ,ql 4 zn.cells r71.1.zb.yn,ql 4 zn.cells r71.1.zb.z7,ql 3 zf.cells r71.1.zb.yp,qi r71.1.yZ,qi r71.1.xz,qi r71.1.yX,qi r71.1.w8,qi r71.1.wa,qi r71.1.w9,qb r71.1.yV,qb a0.k9,qi 0,qi 0,qi 0,qi 0,qn,qi 0,qs [],qi 0,qn,qb false,qb false,qb false,qn,qi 0,qb false,qn,qn]],[]⟩ (dS [0,1,2,3,5]<|dC yU A6 (gD hr71)<|dF yU<|dS [7]<|dF yU<|dE A4) z)<|jnL A4)<|bEL fun r72 hr72=>rCL (kCL 0 A6 (yf hr72) edL)<|bEL fun r73 hr73=>lfL (fun z=>zmN ya [0,1,2,3,5,4,6,7,8] [4,6,8] [[],[0],[],[2],[2,3],[0,1],[0,1,2,3,4,5],[0,1,2,3,4,5,6],[0,1,2,3,4,5,6,7]] [] [(1,qp 0),(4,qp 1),(5,qp 2)] ⟨[zi.cells a0,zx.cells r73.2,[qi a0.yA,qi a0.bL,qi r73.1.yA,qi r73.1.yH,qi r73.1.xB,qs r73.1.vx,qb r73.1.zb.yk,qb r73.1.zb.jZ,qi r73.1.zb.yw,qi r73.1.zb.yr,ql 1 cS r73.1.zb.yc,ql 1 cS r73.1.zb.zH,ql 2 zw.cells r73.1.zb.yd,qi r73.1.zb.zA,qi r73.1.zb.zD,qi r73.1.zb.zV,ql 3 za.cells r73.1.zb.yl,qb r73.1.zb.zz,ql 3 za.cells r73.1.zb.zq.ye,ql 3 za.cells r73.1.zb.zq.yo,qs r73.1.zb.zU,qs r73.1.zb.zJ,ql 4 zn.cells r73.1.zb.yn,ql 4 zn.cells r73.1.zb.z7,ql 3 zf.cells r73.1.zb.yp,qi r73.1.yZ,qi r73.1.xz,qi r73.1.yX,qi r73.1.w8,qi r73.1.wa,qi r73.1.w9,qb r73.1.yV,qb a0.k9,qi 0,qi 0,qi 0,qi 0,qn,qi 0,qs [],qi 0,qn,qb false,qb false,qb false,qn,qi 0,qb false,qn,qn]],[]⟩ (dS [0,1,2,3,5]<|dC yU A6 (gD hr73)<|dF yU<|dS [7]<|dF yU<|dE A4) z)<|jnL A4)<|rgL<|bFL (lfL (fun z=>zm [0,1,2,3,4,5,6,7] [5,7] [[],[0],[],[2],[0,1],[0,1,4],[0,1,2,3,4,5],[0,1,2,3,4,5,6]] [] [(1,qp 0),(4,qp 1),(5,qp 2)] ⟨[zi.cells a0,[qs ([]:C4),qi 0],[qi a0.yA,qi a0.bL,qi 0,qi 0,qi 0,qs [],qb false,qb false,qi 0,qi 0,qn,qn,qn,qi 0,qi 0,qi 0,qn,qb false,qn,qn,qs [],qs [],qn,qn,qn,qi 0,qi 0,qi 0,qi 0,qi 0,qi 0,qb false,qb false,qi a0.ki,qi a0.qt,qi 0,qi 0,qn,qi 0,qs [],qi 0,qn,qb false,qb false,qb false,qn,qi 0,qb false,qn,qn]],[]⟩ (dS [0,1,2,3,4]<|dF yU<|dS [6]<|dF yU<|dE A4) z)<|bEL fun r74 hr74=>rCL (kCL 0 A6 (yf hr74) edL)<|bEL fun r75 hr75=>xC ya (kCL 7 A6 (yC hr75) edL)<|jnL A4)<|rgL<|bFL (rgL<|bEL fun r76 hr76=>rCL (kCL 0 A6 (yf hr76) edL)<|bEL fun r77 hr77=>xC ya (kCL 5 A6 (yC hr77) edL)<|jnL A4)<|rgL<|bFL (bEL fun r78 hr78=>rCL (kCL 0 A6 (yf hr78) edL)<|bEL fun r79 hr79=>xC ya (kCL 3 A6 (yC hr79) edL)<|jnL A4)<|rgL<|bFL nEL<|bEL fun r82 hr82=>xC ya (kCL 0 A6 (uV hr82) edL)<|jnL A4) fun y66=>bEL fun r83 hr83=>rCL (kCL 2 Aa (YH hr83) edL)<|bFL (bEL fun r84 hr84=>rCL (kCL 0 A6 (uV hr84) edL)<|bEL fun r85 hr85=>rCL (kCL 0 A6 (gB hr85) edL)<|zg<|rJ Aa)<|bEL fun r86 hr86=>rCL (kCL 0 A6 (gB hr86) edL)<|zg<|rJ Aa
def bS (n:Nat)(a0:List zh):Nat→Option (Ctl (C4×Int) Unit)
 |0=>none
 | k+1=>
  if(decide ((0:Int)<(a0.length:Int)))=true then(none)else(some (.nxt ()))
def qJ (n:Nat)(a1:List zi):Nat→Int→C4→C4→Option (Ctl (C4×Int) (C4×C4))
 |0,_,_,_=>none
 | k+1,v42,v43,v44=>
  if(decide (v42<(a1.length:Int)))=true then((xe a1 v42).bind fun x54=>
  (p9 n (zi.mk x54.yA x54.bL (zM.mk x54.zj.yA x54.zj.yH x54.zj.xB x54.zj.vx (zr.mk x54.zj.zb.yk x54.zj.zb.jZ x54.zj.zb.yw x54.zj.zb.yr x54.zj.zb.yc x54.zj.zb.zH x54.zj.zb.yd x54.zj.zb.zA x54.zj.zb.zD x54.zj.zb.zV x54.zj.zb.yl x54.zj.zb.zz (zv.mk x54.zj.zb.zq.ye x54.zj.zb.zq.yo) x54.zj.zb.zU x54.zj.zb.zJ x54.zj.zb.yn x54.zj.zb.z7 x54.zj.zb.yp) x54.zj.yZ x54.zj.xz x54.zj.yX x54.zj.w8 x54.zj.wa x54.zj.w9 x54.zj.yV) x54.k9 x54.ki x54.qt x54.q8 (yu.mk x54.jr.yH x54.jr.vV) (zy.mk x54.zF.yH x54.zF.vJ x54.zF.yr x54.zF.zH x54.zF.vD x54.zF.wW x54.zF.qK x54.zF.yl x54.zF.wq x54.zF.jL x54.zF.vy) x54.jB)).bind fun r55=>
  if(r55.2 !=0)=true then(some (.ret (([]:C4),r55.2)))else((Gy v43 v44 r55.1).bind fun r56=>
  qJ n a1 k (wrap .i64 (v42+1)) r56 r56))else(some (.nxt (v43,v44)))
def dG (n:Nat)(a0:List zh)(a1:List zi):Option (C4×Int):=
 (if(decide ((a0.length:Int)>8))=true then(some true)else(some (decide ((a1.length:Int)>4096)))).bind fun y2=>
 if y2=true then(some (([]:C4),2))else(yM (bS n a0 n) (fun r=>some r) (fun y5=>
 yM (qJ n a1 n 0 [] []) (fun r=>some r) (fun y33=>
 (Kk y33.1 y33.2).bind fun r57=>
 some (r57,0))))
theorem Xh {n:Nat} {a0:(List zh)} {a1:(List zi)} {r:(C4×Int)}:dG n a0 a1=some r→AC mx 15 [ql 5 zh.cells a0,ql 50 zi.cells a1] [] (.tuple [qs r.1,qi r.2]) []:=by
 delta dG
 exact fnL Tryz.func15 rfl<|rgL<|bEL fun y2 hE=>rgF hE ⟨58,[(0,ql 5 zh.cells a0),(1,ql 50 zi.cells a1),(22,qb y2)]⟩ ⟨[],[]⟩ (kPL 1 (yg (c:=zh.cells) (l:=a0) (e:=44) (sz:=5) (sz':=5) (b:=80) (tok:= .none))<|gFL 4 18 (eJ J)<|kPL 5 (yg (c:=zi.cells) (l:=a1) (e:=63) (sz:=50) (sz':=50) (b:=632) (tok:= .none))<|eJ J)<|bFL (rgL<|zg<|rJ J)<|rCL (lfL (fun z=>ef qq 0 5 (e:=89) (n:=0) O5 O5 Db z) edL)<|rCL (kPL 1 (yg (c:=zh.cells) (l:=a0) (e:=44) (sz:=5) (sz':=5) (b:=80) (tok:= .none)) edL)<|bcL (fun _=>⟨58,[(1,ql 50 zi.cells a1),(6,qp 0)]⟩) (fun _=>⟨[[.bobj 0 1 89 []],[.bbuf 5 []]],[]⟩) (fun o6 hr7=>lpL (fun k (_:Unit)=>bS n a0 k) () ⟨[1,0],2,[],0⟩ (fun _=>⟨58,[(1,ql 50 zi.cells a1),(6,qp 0),(23,ql 5 zh.cells a0),(24,qi (a0.length:Int)),(25,qi 0)]⟩) (fun _=>⟨[[.bobj 0 1 89 []],[.bbuf 5 []]],[]⟩) fun k x=>by rw [bS]; exact rgL<|bFL nEL<|zW<|zS<|zN<|jCL A3) fun y5=>rCL (kPL 1 (yg (c:=zi.cells) (l:=a1) (e:=63) (sz:=50) (sz':=50) (b:=632) (tok:= .none)) edL)<|bcL (fun y33=>⟨58,[(6,qp 0)]⟩) (fun y33=>⟨[[.bobj 0 1 89 y33.1],[.bbuf 5 y33.2]],[]⟩) (fun o34 hr35=>lpL (fun k x=>qJ n a1 k x.1 x.2.1 x.2.2) (0,[],[]) A3 (fun x=>⟨58,[(6,qp 0),(40,ql 50 zi.cells a1),(41,qi (a1.length:Int)),(42,qi x.1)]⟩) (fun x=>⟨[[.bobj 0 1 89 x.2.1],[.bbuf 5 x.2.2]],[]⟩) fun k x=>by obtain⟨v42,v43,v44⟩:=x; rw [qJ]; exact rgL<|bFL (zY<|bEL fun x54 hx54=>rCL (kPL 0 (zR (c:=zi.cells) (e:=63) (sz:=50) (b:=632) (tok:= .none) hx54) edL)<|bEL fun r55 hr55=>rCL (kCL 1 Aa (Wn hr55) edL)<|rgL<|bFL (rgL<|zg<|yi<|yb<|hvL hr35<|zK<|rJ Aa)<|bEL fun r56 hr56=>xC yF (kCL 1 ⟨[0,1],3,[],0⟩ (BP hr56) edL)<|z8<|xi zI fun h=>⟨(wrap .i64 (v42+1),r56,r56),h,wk ⟨[0,3],4,[],0⟩⟩)<|zW<|zS<|zN<|jCL A3) fun y33=>bEL fun r57 hr57=>rCL (kCL 0 A3 (Bu hr57) edL)<|zg<|rJ A1
def jT (n:Nat):Option Bool:=
 (jD n ([97,99,116,32,48,32,112,111,115,116,32,114,101,107,101,121,32,49,48,48,32,50,48,48,48,10,99,114,97,115,104,32,49,32,50,32,51,10]:C4)).bind fun r1=>
 (jD n ([102,117,115,101,32,48,32,48,49,10]:C4)).bind fun r2=>
 (dG n ([]:List zh) r1.2.1).bind fun r3=>
 (if(r1.2.2.2==0)=true then(if(r1.2.2.1==0)=true then(if((r1.2.1.length:Int)==2)=true then((xe r1.2.1 0).bind fun x4=>
 if(x4.zj.yA==3)=true then((xe r1.2.1 0).bind fun x5=>
 if(x5.zj.xB==2000)=true then((xe r1.2.1 1).bind fun x6=>
 if(x6.ki==2)=true then((xe r1.2.1 1).bind fun x7=>
 if(x7.qt==3)=true then(if(r2.2.2.1==1)=true then(if(r2.2.2.2==32)=true then(if(r3.2==0)=true then(some (r3.1==([97,99,116,32,48,32,112,111,115,116,32,114,101,107,101,121,32,49,48,48,32,50,48,48,48,10,99,114,97,115,104,32,49,32,50,32,51,10]:C4)))else(some false))else(some false))else(some false))else(some false))else(some false))else(some false))else(some false))else(some false))else(some false))else(some false)).bind fun y9=>
 some y9
theorem Zk {n:Nat} {r:Bool}:jT n  =some r→AC mx 11 [] [] (qb r) []:=by
 delta jT
 exact fnL Tryz.func11 rfl<|rgL<|bEL fun r1 hr1=>rCL (kCL 0 J (gw hr1) edL)<|bEL fun r2 hr2=>rCL (kCL 0 J (gw hr2) edL)<|bEL fun r3 hr3=>rCL (kCL 1 J (Xh hr3) edL)<|bEL fun y9 hE=>rgF hE ⟨85,[(0,qb y9)]⟩ ⟨[],[]⟩ (gFL 3 30 (gFL 7 34 (kPL 8 (yg (c:=zi.cells) (l:=r1.2.1) (e:=63) (sz:=50) (sz':=50) (b:=632) (tok:= .none))<|gFL 12 39 (bEL fun x4 hx4=>kPL 13 (zR (c:=zi.cells) (e:=63) (sz:=50) (b:=632) (tok:= .none) hx4)<|gFL 20 47 (bEL fun x5 hx5=>kPL 21 (zR (c:=zi.cells) (e:=63) (sz:=50) (b:=632) (tok:= .none) hx5)<|gFL 28 55 (bEL fun x6 hx6=>kPL 29 (zR (c:=zi.cells) (e:=63) (sz:=50) (b:=632) (tok:= .none) hx6)<|gFL 35 62 (bEL fun x7 hx7=>kPL 36 (zR (c:=zi.cells) (e:=63) (sz:=50) (b:=632) (tok:= .none) hx7)<|gFL 42 69 (gFL 46 73 (gFL 50 77 (gFL 54 81 (eJ J)<|eJ J)<|eJ J)<|eJ J)<|eJ J)<|eJ J)<|eJ J)<|eJ J)<|eJ J)<|eJ J)<|eJ J)<|zg<|rJ J
end Go.Abs
end
