/- For each Go function: if its typed Lean form gives some result, the call returns that result (printed by a program of this hand). Condition: the typed form gives some result. -/
import Derived.Test.YthfhicembdpjpaaGreatDoorW1
set_option linter.all false
section
set_option maxRecDepth 100000
set_option maxHeartbeats 0
namespace Go.Abs
open Go Go.Proofs IntKind
variable {mx:MX}
def yG (n:Nat)(m0:ze):Option (C4×ze):=
 (zT n m0).bind fun r1=>
 if(r1.1==([45]:C4))=true then(some (([]:C4),r1.2))else((vv n r1.1).bind fun r2=>
 (if r1.2.zG=true then(some true)else(if(!r2.2)=true then(some true)else(some (r2.1==([]:C4))))).bind fun y4=>
 some (r2.1,(ze.mk r1.2.f_l r1.2.wB y4)))
theorem wC {n:Nat} {m0:ze} {r:(C4×ze)}:yG n m0=some r→AC mx 52 [qp 0] [ze.cells m0] (qs r.1) [ze.cells r.2]:=by
 delta yG
 exact fnL Tryz.func52 rfl<|rgL<|bEL fun r1 hr1=>rCL (kCL 1 O (yL hr1) edL)<|rgL<|bFL (rgL<|zg<|rJ O)<|bEL fun r2 hr2=>rCL (kCL 1 A0 (bK hr2) edL)<|bEL fun y4 hE=>rgF hE ⟨31,[(4,qs r2.1)]⟩ ⟨[[ql 1 cS r1.2.f_l,qi r1.2.wB,qb y4]],[]⟩ (gFL 6 20 (eJ O)<|gFL 10 24 (eJ O)<|eJ O)<|rgL<|zg<|rJ O
def uv (n:Nat):Option (List C4):=
 some ([([67,78]:C4),([50,46,53,46,52,46,51]:C4),([67]:C4),([50,46,53,46,52,46,54]:C4),([76]:C4),([50,46,53,46,52,46,55]:C4),([79]:C4),([50,46,53,46,52,46,49,48]:C4),([79,85]:C4),([50,46,53,46,52,46,49,49]:C4),([68,67]:C4),([48,46,57,46,50,51,52,50,46,49,57,50,48,48,51,48,48,46,49,48,48,46,49,46,50,53]:C4),([69]:C4),([49,46,50,46,56,52,48,46,49,49,51,53,52,57,46,49,46,57,46,49]:C4)]:List C4)
theorem Zh {n:Nat} {r:(List C4)}:uv n  =some r→AC mx 106 [] [] (ql 1 cS r) []:=by
 delta uv
 exact fnL Tryz.func106 rfl<|rgL<|rgL<|zg<|rJ J
def wO (n:Nat)(a0:Int):Option Bool:=
 (if(decide (a0≥65))=true then(if(decide (a0≤90))=true then(some true)else(if(decide (a0≥97))=true then(if(decide (a0≤122))=true then(some true)else(if(decide (a0≥48))=true then(some (decide (a0≤57)))else(some false)))else(if(decide (a0≥48))=true then(some (decide (a0≤57)))else(some false))))else(if(decide (a0≥97))=true then(if(decide (a0≤122))=true then(some true)else(if(decide (a0≥48))=true then(some (decide (a0≤57)))else(some false)))else(if(decide (a0≥48))=true then(some (decide (a0≤57)))else(some false)))).bind fun y2=>
 some y2
theorem qm {n:Nat} {a0:Int} {r:Bool}:wO n a0=some r→AC mx 238 [qu a0] [] (qb r) []:=by
 delta wO
 exact fnL Tryz.func238 rfl<|rgL<|bEL fun y2 hE=>rgF hE ⟨25,[(2,qb y2)]⟩ ⟨[],[]⟩ (gFL 3 5 (gFL 7 9 (eJ J)<|gFL 10 12 (gFL 15 17 (eJ J)<|gFL 18 20 (eJ J)<|eJ J)<|gFL 18 20 (eJ J)<|eJ J)<|gFL 10 12 (gFL 15 17 (eJ J)<|gFL 18 20 (eJ J)<|eJ J)<|gFL 18 20 (eJ J)<|eJ J)<|zg<|rJ J
def uT (n:Nat)(a1:C4)(a0:Int):Nat→Int→Option (Ctl Bool Unit)
 |0,_=>none
 | k+1,v13=>
  if(decide (v13<(a1.length:Int)))=true then((xD a1 v13).bind fun x17=>
  if(x17==a0)=true then(some (.ret true))else(uT n a1 a0 k (wrap .i64 (v13+1))))else(some (.nxt ()))
def wN (n:Nat)(a0:Int)(a1:C4):Option Bool:=
 yM (uT n a1 a0 n 0) (fun r=>some r) (fun y8=>
 some false)
theorem qr {n:Nat} {a0:Int} {a1:C4} {r:Bool}:wN n a0 a1=some r→AC mx 239 [qu a0,qs a1] [] (qb r) []:=by
 delta wN
 exact fnL Tryz.func239 rfl<|rgL<|rgL<|bcL (fun _=>⟨17,[]⟩) (fun _=>⟨[],[]⟩) (fun o9 hr10=>lpL (fun k x=>uT n a1 a0 k x) 0 J (fun x=>⟨17,[(0,qu a0),(1,qs a1),(5,qi x)]⟩) (fun x=>⟨[],[]⟩) fun k v13=>by rw [uT]; exact rgL<|bFL (zY<|bEL fun x17 hx17=>rCL (kPL 2 (zZ hx17) edL)<|bFL (rgL<|zg<|yi<|yb<|hvL hr10<|zK<|rJ J)<|z8<|xi zI fun h=>⟨wrap .i64 (v13+1),h,wk J⟩)<|zW<|zS<|zN<|jCL J) fun y8=>rgL<|zg<|rJ J
def um (n:Nat)(a0:Int):Option Bool:=
 ((wO n a0).bind fun r1=>
 if r1=true then(some true)else((wN n a0 ([32,39,40,41,45,46,47,58,63,64,95]:C4)).bind fun r2=>
 some r2)).bind fun y4=>
 some y4
theorem Zc {n:Nat} {a0:Int} {r:Bool}:um n a0=some r→AC mx 271 [qu a0] [] (qb r) []:=by
 delta um
 exact fnL Tryz.func271 rfl<|rgL<|bEL fun y4 hE=>rgF hE ⟨9,[(2,qb y4)]⟩ ⟨[],[]⟩ (bEL fun r1 hr1=>kCL 1 J (qm hr1)<|gFL 3 5 (eJ J)<|bEL fun r2 hr2=>kCL 4 J (qr hr2)<|eJ J)<|zg<|rJ J
def ju (n:Nat)(a0:C4):Nat→(List Int)→Int→Option (List Int)
 |0,_,_=>none
 | k+1,v47,v48=>
  if(decide (v48<(a0.length:Int)))=true then((xD a0 v48).bind fun x64=>
  (xD ([48,49,50,51,52,53,54,55,56,57,97,98,99,100,101,102]:C4) (wrap .u8 (Int.tdiv x64 16))).bind fun x65=>
  (xD a0 v48).bind fun x66=>
  (xD ([48,49,50,51,52,53,54,55,56,57,97,98,99,100,101,102]:C4) (Int.tmod x66 16)).bind fun x67=>
  (jO 1 v47 ([x65,x67]:List Int)).bind fun x68=>
  ju n a0 k x68 (wrap .i64 (v48+1)))else(some v47)
def jt (n:Nat)(a0:C4):Option C4:=
 (QP 1 (wrap .i64 ((2:Int)*(a0.length:Int)))).bind fun x1=>
 (ju n a0 n ([]:List Int) 0).bind fun y35=>
 some (b2s y35)
theorem Z9 {n:Nat} {a0:C4} {r:C4}:jt n a0=some r→AC mx 151 [qs a0] [] (qs r) []:=by
 delta jt
 exact fnL Tryz.func151 rfl<|rgL<|bEL fun x1 hx1=>rCL (lfL (fun z=>kV 3 0 0 0 (Gv (T:=tyT) (e:=5) (k1:= .i64) (k2:= .i64) (bytes:=1) (cell:=none) (c:=(vI .u8)) (uI .u8) 0 ⟨O5,O5⟩ hx1) z) edL)<|rgL<|blL (fun y35=>⟨30,[(3, .sl 1 (List.map (cI .u8) y35) (.fam 0 (y35.length)))]⟩) (fun y35=>⟨[],[y35.length]⟩) (fun y35=>lpL (fun k x=>ju n a0 k x.1 x.2) (([]:List Int),0) A2 (fun x=>⟨30,[(0,qs a0),(3, .sl 1 (List.map (cI .u8) x.1) (.fam 0 (x.1.length))),(4,qi x.2)]⟩) (fun x=>⟨[],[x.1.length]⟩) fun k x=>by obtain⟨v47,v48⟩:=x; rw [ju]; exact rgL<|bFL (zY<|bEL fun x64 hx64=>bEL fun x65 hx65=>bEL fun x66 hx66=>bEL fun x67 hx67=>bEL fun x68 hx68=>lfL (fun z=>zmN yF [0,1,2,3,4,5,6,7,8,9,10,11,12,13] [12,13] [[],[],[],[1,2],[1,2,3],[1,2,3,4],[],[],[6,7],[6,7,8],[6,7,8,9],[1,2,3,4,5,6,7,8,9,10],[0,1,2,3,4,5,6,7,8,9,10,11],[0,1,2,3,4,5,6,7,8,9,10,11,12]] [] [(0,qs a0),(3, .sl 1 (List.map (cI .u8) x68) (.fam 0 (x68.length))),(4,qi v48)] ⟨[],[x68.length]⟩ (dS [0,1,2]<|dP (zZ hx64)<|dS [4]<|dP (zZ hx65)<|dS [6,7]<|dP (zZ hx66)<|dS [9]<|dP (zZ hx67)<|dS [11]<|dA (zL 10 (zZ hx67) (zL 8 (zZ hx66) (zL 5 (zZ hx65) (zL 3 (zZ hx64) yU)))) 0 (cI .u8) (e:=5) (e2:=5) (sz:=1) (bytes:=1) (b2:=1) (tok2:= .exact) hx68<|dF (zL 10 (zZ hx67) (zL 8 (zZ hx66) (zL 5 (zZ hx65) (zL 3 (zZ hx64) yU))))<|dE A2) z)<|z8<|xi zI fun h=>⟨(x68,wrap .i64 (v48+1)),h,wk A2⟩)<|zW<|zS<|zN<|jnL A2) fun y35=>rCL (lfL (fun z=>kB 1 y35 z) edL)<|zg<|rJ A8
def wy (n:Nat)(a0:C4):Nat→C4→Int→Option C4
 |0,_,_=>none
 | k+1,v114,v115=>
  if(decide (v115<(a0.length:Int)))=true then(((xD a0 v115).bind fun x162=>
  (um n x162).bind fun r163=>
  if r163=true then((ssl a0 v115 (wrap .i64 (v115+1))).bind fun x164=>
  (pb v114 x164).bind fun x165=>
  some x165)else((ssl a0 v115 (wrap .i64 (v115+1))).bind fun x166=>
  (jt n x166).bind fun r167=>
  (pb ([92]:C4) r167).bind fun x168=>
  (pb v114 x168).bind fun x169=>
  some x169)).bind fun y160=>
  wy n a0 k y160 (wrap .i64 (v115+1)))else(some v114)
def ua (n:Nat)(a0:C4):Option C4:=
 (wy n a0 n ([]:C4) 0).bind fun y85=>
 some y85
theorem Za {n:Nat} {a0:C4} {r:C4}:ua n a0=some r→AC mx 146 [qs a0] [] (qs r) []:=by
 delta ua
 exact fnL Tryz.func146 rfl<|rgL<|rgL<|rgL<|blL (fun y85=>⟨32,[(3,qs y85)]⟩) (fun y85=>⟨[],[]⟩) (fun y85=>lpL (fun k x=>wy n a0 k x.1 x.2) (([]:C4),0) J (fun x=>⟨32,[(0,qs a0),(3,qs x.1),(4,qi x.2)]⟩) (fun x=>⟨[],[]⟩) fun k x=>by obtain⟨v114,v115⟩:=x; rw [wy]; exact rgL<|bFL (blL (fun y160=>⟨32,[(0,qs a0),(3,qs y160),(4,qi v115)]⟩) (fun y160=>⟨[],[]⟩) (fun y160=>bEL fun x162 hx162=>bEL fun r163 hr163=>rCL (kPL 2 (zZ hx162)<|kCL 3 J (Zc hr163) edL)<|bFL (bEL fun x164 hx164=>bEL fun x165 hx165=>xC ya (kPL 5 (xm (k:= .i64) (k':= .i64) hx164)<|kPL 6 (bR (d:=(tyT 9).d) hx165) edL)<|jnL J)<|bEL fun x166 hx166=>bEL fun r167 hr167=>bEL fun x168 hx168=>bEL fun x169 hx169=>xC ya (kPL 5 (xm (k:= .i64) (k':= .i64) hx166)<|kCL 6 J (Z9 hr167)<|kPL 7 (bR (d:=(tyT 9).d) hx168)<|kPL 8 (bR (d:=(tyT 9).d) hx169) edL)<|jnL J) fun y160=>xi zI fun h=>⟨(y160,wrap .i64 (v115+1)),h,wk J⟩)<|zW<|zS<|zN<|jnL J) fun y85=>rgL<|zg<|rJ J
def wi (n:Nat)(a0:C4):Nat→C4→Int→Option (Ctl (C4×Bool) C4)
 |0,_,_=>none
 | k+1,v99,v100=>
  if(decide (v100<(a0.length:Int)))=true then(yM ((xD a0 v100).bind fun x141=>
  if(x141 !=92)=true then((ssl a0 v100 (wrap .i64 (v100+1))).bind fun x142=>
  (pb v99 x142).bind fun x143=>
  some (.nxt (x143,v100)))else(if(decide ((wrap .i64 ((a0.length:Int)-v100))<3))=true then(some (.ret (([]:C4),false)))else((ssl a0 (wrap .i64 (v100+1)) (wrap .i64 (v100+3))).bind fun x144=>
  (vv n x144).bind fun r145=>
  if(!r145.2)=true then(some (.ret (([]:C4),false)))else((pb v99 r145.1).bind fun x146=>
  some (.nxt (x146,wrap .i64 (v100+2))))))) (fun r=>some (.ret r)) (fun y138=>
  wi n a0 k y138.1 (wrap .i64 (y138.2+1))))else(some (.nxt v99))
def wL (n:Nat)(a0:C4):Option (C4×Bool):=
 yM (wi n a0 n ([]:C4) 0) (fun r=>some r) (fun y73=>
 (ua n y73).bind fun r147=>
 if(!(r147==a0))=true then(some (([]:C4),false))else(some (y73,true)))
theorem pk {n:Nat} {a0:C4} {r:(C4×Bool)}:wL n a0=some r→AC mx 107 [qs a0] [] (.tuple [qs r.1,qb r.2]) []:=by
 delta wL
 exact fnL Tryz.func107 rfl<|rgL<|rgL<|rgL<|bcL (fun y73=>⟨52,[(0,qs a0),(4,qs y73)]⟩) (fun y73=>⟨[],[]⟩) (fun o74 hr75=>lpL (fun k x=>wi n a0 k x.1 x.2) (([]:C4),0) J (fun x=>⟨52,[(0,qs a0),(4,qs x.1),(5,qi x.2)]⟩) (fun x=>⟨[],[]⟩) fun k x=>by obtain⟨v99,v100⟩:=x; rw [wi]; exact rgL<|bFL (bcL (fun y138=>⟨52,[(0,qs a0),(4,qs y138.1),(5,qi y138.2)]⟩) (fun y138=>⟨[],[]⟩) (fun o139 hr140=>bEL fun x141 hx141=>rCL (kPL 2 (zZ hx141) edL)<|bFL (bEL fun x142 hx142=>bEL fun x143 hx143=>rCL (kPL 5 (xm (k:= .i64) (k':= .i64) hx142)<|kPL 6 (bR (d:=(tyT 9).d) hx143) edL)<|zW<|zN<|jCL J)<|rgL<|bFL (rgL<|zg<|hvL hr140<|zK<|yb<|hvL hr75<|zK<|rJ J)<|bEL fun x144 hx144=>bEL fun r145 hr145=>rCL (kPL 5 (xm (k:= .i64) (k':= .i64) hx144)<|kCL 6 J (bK hr145) edL)<|rgL<|bFL (rgL<|zg<|hvL hr140<|zK<|yb<|hvL hr75<|zK<|rJ J)<|bEL fun x146 hx146=>xC ya (kPL 2 (bR (d:=(tyT 9).d) hx146) edL)<|jCL J) fun y138=>xi zI fun h=>⟨(y138.1,wrap .i64 (y138.2+1)),h,wk J⟩)<|zW<|zS<|zN<|jCL J) fun y73=>bEL fun r147 hr147=>rCL (kCL 1 J (Za hr147) edL)<|bFL (rgL<|zg<|rJ J)<|rgL<|zg<|rJ J
def wo (n:Nat)(x577:C4):Nat→Int→Int→Option Int
 |0,_,_=>none
 | k+1,v594,v595=>
  if(decide (v595<(x577.length:Int)))=true then((xD x577 v595).bind fun x599=>
  wo n x577 k (wrap .i64 ((wrap .i64 ((10:Int)*v594))+(wrap .i64 (wrap .u8 (x599-48))))) (wrap .i64 (v595+1)))else(some v594)
def xf (n:Nat)(a0:C4):Nat→(List Int)→Int→Int→Option (Ctl ((List Int)×Bool) (List Int))
 |0,_,_,_=>none
 | k+1,v402,v403,v404=>
  if(decide (v404≤(a0.length:Int)))=true then(yM ((if(decide (v404<(a0.length:Int)))=true then((xD a0 v404).bind fun x570=>
  some (x570 !=46))else(some false)).bind fun y572=>
  if y572=true then(((xD a0 v404).bind fun x573=>
  if(decide (x573<48))=true then(some true)else((xD a0 v404).bind fun x574=>
  some (decide (x574>57)))).bind fun y576=>
  if y576=true then(some (.ret (([]:List Int),false)))else(some (.nxt (v402,v403))))else((ssl a0 v403 v404).bind fun x577=>
  (if((x577.length:Int)==0)=true then(some true)else(if(decide ((x577.length:Int)>10))=true then(some true)else(if(decide ((x577.length:Int)>1))=true then((xD x577 0).bind fun x578=>
  if(x578==48)=true then(some true)else(some ((v402.length:Int)==12)))else(some ((v402.length:Int)==12))))).bind fun y580=>
  if y580=true then(some (.ret (([]:List Int),false)))else((wo n x577 n 0 0).bind fun y590=>
  if(decide (y590>2147483647))=true then(some (.ret (([]:List Int),false)))else((jO 8 v402 ([y590]:List Int)).bind fun x600=>
  some (.nxt (x600,wrap .i64 (v404+1))))))) (fun r=>some (.ret r)) (fun y567=>
  xf n a0 k y567.1 y567.2 (wrap .i64 (v404+1))))else(some (.nxt v402))
def uW (n:Nat)(a0:C4):Option ((List Int)×Bool):=
 yM (xf n a0 n ([]:List Int) 0 0) (fun r=>some r) (fun y300=>
 (if(decide ((y300.length:Int)<2))=true then(some true)else((xe y300 0).bind fun x601=>
 if(decide (x601>2))=true then(some true)else((xe y300 0).bind fun x602=>
 if(decide (x602<2))=true then((xe y300 1).bind fun x603=>
 some (decide (x603>39)))else(some false)))).bind fun y605=>
 if y605=true then(some (([]:List Int),false))else(some (y300,true)))
theorem ZR {n:Nat} {a0:C4} {r:((List Int)×Bool)}:uW n a0=some r→AC mx 236 [qs a0] [] (.tuple [ql 1 (cI .i64) r.1,qb r.2]) []:=by
 delta uW
 exact fnL Tryz.func236 rfl<|rgL<|rgL<|rgL<|rgL<|bcL (fun y300=>⟨107,[(4, .sl 1 (List.map (cI .i64) y300) (.fam 0 (y300.length)))]⟩) (fun y300=>⟨[],[y300.length]⟩) (fun o301 hr302=>w7 (wk (fr':=⟨107,[(0,qs a0),(4,qn),(5,qi 0),(6,qi 0)]⟩) (st':=⟨[],[]⟩) J)<|w7 Wk.nilFam<|lpL (fun k x=>xf n a0 k x.1 x.2.1 x.2.2) (([]:List Int),0,0) A2 (fun x=>⟨107,[(0,qs a0),(4, .sl 1 (List.map (cI .i64) x.1) (.fam 0 (x.1.length))),(5,qi x.2.1),(6,qi x.2.2)]⟩) (fun x=>⟨[],[x.1.length]⟩) fun k x=>by obtain⟨v402,v403,v404⟩:=x; rw [xf]; exact rgL<|bFL (bcL (fun y567=>⟨107,[(0,qs a0),(4, .sl 1 (List.map (cI .i64) y567.1) (.fam 0 (y567.1.length))),(5,qi y567.2),(6,qi v404)]⟩) (fun y567=>⟨[],[y567.1.length]⟩) (fun o568 hr569=>bEL fun y572 hE=>rgF hE ⟨107,[(0,qs a0),(4, .sl 1 (List.map (cI .i64) v402) (.fam 0 (v402.length))),(5,qi v403),(6,qi v404),(25,qb y572)]⟩ ⟨[],[v402.length]⟩ (gFL 5 20 (bEL fun x570 hx570=>kPL 7 (zZ hx570)<|eJ A2)<|eJ A2)<|bFL (bEL fun y576 hE=>rgF hE ⟨107,[(0,qs a0),(4, .sl 1 (List.map (cI .i64) v402) (.fam 0 (v402.length))),(5,qi v403),(6,qi v404),(35,qb y576)]⟩ ⟨[],[v402.length]⟩ (bEL fun x573 hx573=>kPL 2 (zZ hx573)<|gFL 5 30 (eJ A2)<|bEL fun x574 hx574=>kPL 7 (zZ hx574)<|eJ A2)<|bFL (rgL<|zg<|hvL hr569<|zK<|yb<|hvL hr302<|zK<|rJ A8)<|zW<|zN<|jCL A2)<|bEL fun x577 hx577=>rCL (kPL 3 (xm (k:= .i64) (k':= .i64) hx577) edL)<|bEL fun y580 hE=>rgF hE ⟨107,[(0,qs a0),(4, .sl 1 (List.map (cI .i64) v402) (.fam 0 (v402.length))),(6,qi v404),(7,qs x577),(62,qb y580)]⟩ ⟨[],[v402.length]⟩ (gFL 4 43 (eJ A2)<|gFL 9 48 (eJ A2)<|gFL 13 52 (bEL fun x578 hx578=>kPL 14 (zZ hx578)<|gFL 19 58 (eJ A2)<|kPL 20 (yg (c:=(cI .i64)) (l:=v402) (e:=3) (sz:=1) (sz':=1) (b:=8) (tok:=(.fam 0 (v402.length))))<|eJ A2)<|kPL 20 (yg (c:=(cI .i64)) (l:=v402) (e:=3) (sz:=1) (sz':=1) (b:=8) (tok:=(.fam 0 (v402.length))))<|eJ A2)<|bFL (rgL<|zg<|hvL hr569<|zK<|yb<|hvL hr302<|zK<|rJ A8)<|rgL<|rgL<|blL (fun y590=>⟨107,[(0,qs a0),(4, .sl 1 (List.map (cI .i64) v402) (.fam 0 (v402.length))),(6,qi v404),(8,qi y590)]⟩) (fun y590=>⟨[],[v402.length]⟩) (fun y590=>lpL (fun k x=>wo n x577 k x.1 x.2) (0,0) A2 (fun x=>⟨107,[(0,qs a0),(4, .sl 1 (List.map (cI .i64) v402) (.fam 0 (v402.length))),(6,qi v404),(7,qs x577),(8,qi x.1),(9,qi x.2)]⟩) (fun x=>⟨[],[v402.length]⟩) fun k x=>by obtain⟨v594,v595⟩:=x; rw [wo]; exact rgL<|bFL (zY<|bEL fun x599 hx599=>xC yF (kPL 4 (zZ hx599) edL)<|z8<|xi zI fun h=>⟨(wrap .i64 ((wrap .i64 ((10:Int)*v594))+(wrap .i64 (wrap .u8 (x599-48)))),wrap .i64 (v595+1)),h,wk A2⟩)<|zW<|zS<|zN<|jnL A2) fun y590=>rgL<|bFL (rgL<|zg<|hvL hr569<|zK<|yb<|hvL hr302<|zK<|rJ A8)<|bEL fun x600 hx600=>xC ya (lfL (fun z=>kA 3 0 (cI .i64) (e:=3) (e2:=3) (sz:=1) (bytes:=8) (b2:=8) (tok2:= .exact) hx600 z) edL)<|jCL A2) fun y567=>xi zI fun h=>⟨(y567.1,y567.2,wrap .i64 (v404+1)),h,wk A2⟩)<|zW<|zS<|zN<|jCL A2) fun y300=>bEL fun y605 hE=>rgF hE ⟨107,[(4, .sl 1 (List.map (cI .i64) y300) (.fam 0 (y300.length))),(105,qb y605)]⟩ ⟨[],[y300.length]⟩ (kPL 1 (yg (c:=(cI .i64)) (l:=y300) (e:=3) (sz:=1) (sz':=1) (b:=8) (tok:=(.fam 0 (y300.length))))<|gFL 4 88 (eJ A2)<|bEL fun x601 hx601=>kPL 5 (zR (c:=(cI .i64)) (e:=3) (sz:=1) (b:=8) (tok:=(.fam 0 (y300.length))) hx601)<|gFL 10 94 (eJ A2)<|bEL fun x602 hx602=>kPL 11 (zR (c:=(cI .i64)) (e:=3) (sz:=1) (b:=8) (tok:=(.fam 0 (y300.length))) hx602)<|gFL 15 99 (bEL fun x603 hx603=>kPL 16 (zR (c:=(cI .i64)) (e:=3) (sz:=1) (b:=8) (tok:=(.fam 0 (y300.length))) hx603)<|eJ A2)<|eJ A2)<|bFL (rgL<|zg<|rJ A8)<|rgL<|zg<|rJ A8
def yJ (n:Nat)(a0:C4):Option Bool:=
 (uW n a0).bind fun r1=>
 some r1.2
theorem xG {n:Nat} {a0:C4} {r:Bool}:yJ n a0=some r→AC mx 108 [qs a0] [] (qb r) []:=by
 delta yJ
 exact fnL Tryz.func108 rfl<|rgL<|bEL fun r1 hr1=>rCL (kCL 1 J (ZR hr1) edL)<|rgL<|zg<|rJ J
def xr (n:Nat)(a0:C4)(v1353:Int):Nat→Int→Int→Option (Ctl Bool Int)
 |0,_,_=>none
 | k+1,v1944,v1945=>
  if(decide (v1945≤1))=true then((xD a0 (wrap .i64 (v1353+v1945))).bind fun x1952=>
  if((wrap .u8 (Int.tdiv x1952 64)) !=2)=true then(some (.ret false))else((xD a0 (wrap .i64 (v1353+v1945))).bind fun x1953=>
  xr n a0 v1353 k (wrap .i64 ((wrap .i64 ((64:Int)*v1944))+(wrap .i64 (Int.tmod x1953 64)))) (wrap .i64 (v1945+1))))else(some (.nxt v1944))
def xu (n:Nat)(a0:C4)(v1353:Int):Nat→Int→Int→Option (Ctl Bool Int)
 |0,_,_=>none
 | k+1,v1980,v1981=>
  if(decide (v1981≤2))=true then((xD a0 (wrap .i64 (v1353+v1981))).bind fun x1988=>
  if((wrap .u8 (Int.tdiv x1988 64)) !=2)=true then(some (.ret false))else((xD a0 (wrap .i64 (v1353+v1981))).bind fun x1989=>
  xu n a0 v1353 k (wrap .i64 ((wrap .i64 ((64:Int)*v1980))+(wrap .i64 (Int.tmod x1989 64)))) (wrap .i64 (v1981+1))))else(some (.nxt v1980))
def xw (n:Nat)(a0:C4)(v1353:Int):Nat→Int→Int→Option (Ctl Bool Int)
 |0,_,_=>none
 | k+1,v2016,v2017=>
  if(decide (v2017≤3))=true then((xD a0 (wrap .i64 (v1353+v2017))).bind fun x2024=>
  if((wrap .u8 (Int.tdiv x2024 64)) !=2)=true then(some (.ret false))else((xD a0 (wrap .i64 (v1353+v2017))).bind fun x2025=>
  xw n a0 v1353 k (wrap .i64 ((wrap .i64 ((64:Int)*v2016))+(wrap .i64 (Int.tmod x2025 64)))) (wrap .i64 (v2017+1))))else(some (.nxt v2016))
def xq (n:Nat)(a0:C4):Nat→Int→Option (Ctl Bool Unit)
 |0,_=>none
 | k+1,v1353=>
  if(decide (v1353<(a0.length:Int)))=true then(yM ((xD a0 v1353).bind fun x1917=>
  (if(decide (x1917<32))=true then(some true)else(some (x1917==127))).bind fun y1919=>
  if y1919=true then(some (.ret false))else(if(decide (x1917<128))=true then(some (.nxt (wrap .i64 (v1353+1))))else((if(decide (x1917≥192))=true then(some (decide (x1917<224)))else(some false)).bind fun y1921=>
  if y1921=true then(if(decide ((wrap .i64 ((a0.length:Int)-v1353))≤1))=true then(some (.ret false))else(yM (xr n a0 v1353 n (va .i64 (wrap .i64 x1917) (wrap .i64 ((wrap .i64 ((1:Int)*32))-1))) 1) (fun r=>some (.ret r)) (fun y1937=>
  (if(decide (y1937<128))=true then(some true)else(if(decide (y1937>1114111))=true then(some true)else(if(decide (y1937≥55296))=true then(some (decide (y1937<57344)))else(some false)))).bind fun y1955=>
  if y1955=true then(some (.ret false))else(some (.nxt (wrap .i64 (v1353+2)))))))else((if(decide (x1917≥224))=true then(some (decide (x1917<240)))else(some false)).bind fun y1957=>
  if y1957=true then(if(decide ((wrap .i64 ((a0.length:Int)-v1353))≤2))=true then(some (.ret false))else(yM (xu n a0 v1353 n (va .i64 (wrap .i64 x1917) (wrap .i64 ((wrap .i64 ((1:Int)*16))-1))) 1) (fun r=>some (.ret r)) (fun y1973=>
  (if(decide (y1973<2048))=true then(some true)else(if(decide (y1973>1114111))=true then(some true)else(if(decide (y1973≥55296))=true then(some (decide (y1973<57344)))else(some false)))).bind fun y1991=>
  if y1991=true then(some (.ret false))else(some (.nxt (wrap .i64 (v1353+3)))))))else((if(decide (x1917≥240))=true then(some (decide (x1917<248)))else(some false)).bind fun y1993=>
  if y1993=true then(if(decide ((wrap .i64 ((a0.length:Int)-v1353))≤3))=true then(some (.ret false))else(yM (xw n a0 v1353 n (va .i64 (wrap .i64 x1917) (wrap .i64 ((wrap .i64 ((1:Int)*8))-1))) 1) (fun r=>some (.ret r)) (fun y2009=>
  (if(decide (y2009<65536))=true then(some true)else(if(decide (y2009>1114111))=true then(some true)else(if(decide (y2009≥55296))=true then(some (decide (y2009<57344)))else(some false)))).bind fun y2027=>
  if y2027=true then(some (.ret false))else(some (.nxt (wrap .i64 (v1353+4)))))))else(some (.ret false))))))) (fun r=>some (.ret r)) (fun y1914=>
  xq n a0 k y1914))else(some (.nxt ()))
def qd (n:Nat)(a0:C4):Option Bool:=
 yM (xq n a0 n 0) (fun r=>some r) (fun y1013=>
 some true)
theorem ZG {n:Nat} {a0:C4} {r:Bool}:qd n a0=some r→AC mx 237 [qs a0] [] (qb r) []:=by
 delta qd
 exact fnL Tryz.func237 rfl<|rgL<|rgL<|bcL (fun _=>⟨103,[]⟩) (fun _=>⟨[],[]⟩) (fun o1014 hr1015=>lpL (fun k x=>xq n a0 k x) 0 J (fun x=>⟨103,[(0,qs a0),(3,qi x)]⟩) (fun x=>⟨[],[]⟩) fun k v1353=>by rw [xq]; exact rgL<|bFL (Gw zI (fun y1914=>⟨103,[(0,qs a0),(3,qi y1914)]⟩) (fun y1914=>⟨[],[]⟩) (fun o1915 hr1916=>bEL fun x1917 hx1917=>rCL (kPL 2 (zZ hx1917) edL)<|rgL<|zY<|bEL fun y1919 hE=>rgF hE ⟨103,[(0,qs a0),(3,qi v1353),(4,qu x1917),(16,qb y1919)]⟩ ⟨[],[]⟩ (gFL 3 19 (eJ J)<|eJ J)<|bFL (rgL<|zg<|yi<|hvL hr1916<|zK<|yb<|hvL hr1015<|zK<|rJ J)<|rgL<|bFL (rgL<|zW<|pD<|zN<|jCL J)<|bEL fun y1921 hE=>rgF hE ⟨103,[(0,qs a0),(3,qi v1353),(4,qu x1917),(28,qb y1921)]⟩ ⟨[],[]⟩ (gFL 3 31 (eJ J)<|eJ J)<|bFL (xi yF<|z8<|rgL<|bFL (rgL<|zg<|hvL hr1916<|zK<|yb<|hvL hr1015<|zK<|rJ J)<|rgL<|rgL<|bcL (fun y1937=>⟨103,[(0,qs a0),(3,qi v1353),(5,qi 1),(6,qi 128),(7,qi y1937)]⟩) (fun y1937=>⟨[],[]⟩) (fun o1938 hr1939=>lpL (fun k x=>xr n a0 v1353 k x.1 x.2) (va .i64 (wrap .i64 x1917) (wrap .i64 ((wrap .i64 ((1:Int)*32))-1)),1) J (fun x=>⟨103,[(0,qs a0),(3,qi v1353),(5,qi 1),(6,qi 128),(7,qi x.1),(8,qi x.2)]⟩) (fun x=>⟨[],[]⟩) fun k x=>by obtain⟨v1944,v1945⟩:=x; rw [xr]; exact rgL<|bFL (zY<|bEL fun x1952 hx1952=>rCL (kPL 4 (zZ hx1952) edL)<|bFL (rgL<|zg<|yi<|yb<|hvL hr1939<|zK<|hvL hr1916<|zK<|yb<|hvL hr1015<|zK<|rJ J)<|bEL fun x1953 hx1953=>xC yF (kPL 6 (zZ hx1953) edL)<|z8<|xi zI fun h=>⟨(wrap .i64 ((wrap .i64 ((64:Int)*v1944))+(wrap .i64 (Int.tmod x1953 64))),wrap .i64 (v1945+1)),h,wk J⟩)<|zW<|zS<|zN<|jCL J) fun y1937=>bEL fun y1955 hE=>rgF hE ⟨103,[(0,qs a0),(3,qi v1353),(5,qi 1),(98,qb y1955)]⟩ ⟨[],[]⟩ (gFL 4 87 (eJ J)<|gFL 8 91 (eJ J)<|gFL 11 94 (eJ J)<|eJ J)<|bFL (rgL<|zg<|hvL hr1916<|zK<|yb<|hvL hr1015<|zK<|rJ J)<|xi ya<|jCL J)<|bEL fun y1957 hE=>rgF hE ⟨103,[(0,qs a0),(3,qi v1353),(4,qu x1917),(35,qb y1957)]⟩ ⟨[],[]⟩ (gFL 3 38 (eJ J)<|eJ J)<|bFL (xi yF<|z8<|rgL<|bFL (rgL<|zg<|hvL hr1916<|zK<|yb<|hvL hr1015<|zK<|rJ J)<|rgL<|rgL<|bcL (fun y1973=>⟨103,[(0,qs a0),(3,qi v1353),(5,qi 2),(6,qi 2048),(7,qi y1973)]⟩) (fun y1973=>⟨[],[]⟩) (fun o1974 hr1975=>lpL (fun k x=>xu n a0 v1353 k x.1 x.2) (va .i64 (wrap .i64 x1917) (wrap .i64 ((wrap .i64 ((1:Int)*16))-1)),1) J (fun x=>⟨103,[(0,qs a0),(3,qi v1353),(5,qi 2),(6,qi 2048),(7,qi x.1),(8,qi x.2)]⟩) (fun x=>⟨[],[]⟩) fun k x=>by obtain⟨v1980,v1981⟩:=x; rw [xu]; exact rgL<|bFL (zY<|bEL fun x1988 hx1988=>rCL (kPL 4 (zZ hx1988) edL)<|bFL (rgL<|zg<|yi<|yb<|hvL hr1975<|zK<|hvL hr1916<|zK<|yb<|hvL hr1015<|zK<|rJ J)<|bEL fun x1989 hx1989=>xC yF (kPL 6 (zZ hx1989) edL)<|z8<|xi zI fun h=>⟨(wrap .i64 ((wrap .i64 ((64:Int)*v1980))+(wrap .i64 (Int.tmod x1989 64))),wrap .i64 (v1981+1)),h,wk J⟩)<|zW<|zS<|zN<|jCL J) fun y1973=>bEL fun y1991 hE=>rgF hE ⟨103,[(0,qs a0),(3,qi v1353),(5,qi 2),(98,qb y1991)]⟩ ⟨[],[]⟩ (gFL 4 87 (eJ J)<|gFL 8 91 (eJ J)<|gFL 11 94 (eJ J)<|eJ J)<|bFL (rgL<|zg<|hvL hr1916<|zK<|yb<|hvL hr1015<|zK<|rJ J)<|xi ya<|jCL J)<|bEL fun y1993 hE=>rgF hE ⟨103,[(0,qs a0),(3,qi v1353),(4,qu x1917),(42,qb y1993)]⟩ ⟨[],[]⟩ (gFL 3 45 (eJ J)<|eJ J)<|bFL (xi yF<|z8<|rgL<|bFL (rgL<|zg<|hvL hr1916<|zK<|yb<|hvL hr1015<|zK<|rJ J)<|rgL<|rgL<|bcL (fun y2009=>⟨103,[(0,qs a0),(3,qi v1353),(5,qi 3),(6,qi 65536),(7,qi y2009)]⟩) (fun y2009=>⟨[],[]⟩) (fun o2010 hr2011=>lpL (fun k x=>xw n a0 v1353 k x.1 x.2) (va .i64 (wrap .i64 x1917) (wrap .i64 ((wrap .i64 ((1:Int)*8))-1)),1) J (fun x=>⟨103,[(0,qs a0),(3,qi v1353),(5,qi 3),(6,qi 65536),(7,qi x.1),(8,qi x.2)]⟩) (fun x=>⟨[],[]⟩) fun k x=>by obtain⟨v2016,v2017⟩:=x; rw [xw]; exact rgL<|bFL (zY<|bEL fun x2024 hx2024=>rCL (kPL 4 (zZ hx2024) edL)<|bFL (rgL<|zg<|yi<|yb<|hvL hr2011<|zK<|hvL hr1916<|zK<|yb<|hvL hr1015<|zK<|rJ J)<|bEL fun x2025 hx2025=>xC yF (kPL 6 (zZ hx2025) edL)<|z8<|xi zI fun h=>⟨(wrap .i64 ((wrap .i64 ((64:Int)*v2016))+(wrap .i64 (Int.tmod x2025 64))),wrap .i64 (v2017+1)),h,wk J⟩)<|zW<|zS<|zN<|jCL J) fun y2009=>bEL fun y2027 hE=>rgF hE ⟨103,[(0,qs a0),(3,qi v1353),(5,qi 3),(98,qb y2027)]⟩ ⟨[],[]⟩ (gFL 4 87 (eJ J)<|gFL 8 91 (eJ J)<|gFL 11 94 (eJ J)<|eJ J)<|bFL (rgL<|zg<|hvL hr1916<|zK<|yb<|hvL hr1015<|zK<|rJ J)<|xi ya<|jCL J)<|rgL<|zg<|yi<|hvL hr1916<|zK<|yb<|hvL hr1015<|zK<|rJ J) fun y1914=>fun h=>⟨y1914,h,wk J⟩)<|zW<|zS<|zN<|jCL J) fun y1013=>rgL<|zg<|rJ J
def xa (n:Nat)(a1:C4)(a0:Int):Nat→Int→Option (Ctl Bool Unit)
 |0,_=>none
 | k+1,v411=>
  if(decide (v411<(a1.length:Int)))=true then((if(a0==22)=true then((xD a1 v411).bind fun x448=>
  if(decide (x448<32))=true then(some true)else((xD a1 v411).bind fun x449=>
  if(decide (x449>126))=true then(some true)else(if(a0==19)=true then((xD a1 v411).bind fun x450=>
  (wO n x450).bind fun r451=>
  if(!r451)=true then((xD a1 v411).bind fun x452=>
  (wN n x452 ([32,39,40,41,43,44,45,46,47,58,61,63]:C4)).bind fun r453=>
  some (!r453))else(some false))else(some false))))else(if(a0==19)=true then((xD a1 v411).bind fun x454=>
  (wO n x454).bind fun r455=>
  if(!r455)=true then((xD a1 v411).bind fun x456=>
  (wN n x456 ([32,39,40,41,43,44,45,46,47,58,61,63]:C4)).bind fun r457=>
  some (!r457))else(some false))else(some false))).bind fun y459=>
  if y459=true then(some (.ret false))else(xa n a1 a0 k (wrap .i64 (v411+1))))else(some (.nxt ()))
def xR (n:Nat)(a0:Int)(a1:C4):Option Bool:=
 if(a0==12)=true then((qd n a1).bind fun r307=>
 some r307)else((if(a0==19)=true then(some (a0==19))else(some (a0==22))).bind fun y309=>
 if y309=true then(yM (xa n a1 a0 n 0) (fun r=>some r) (fun y384=>
 some true))else(some false))
theorem kd {n:Nat} {a0:Int} {a1:C4} {r:Bool}:xR n a0 a1=some r→AC mx 109 [qi a0,qs a1] [] (qb r) []:=by
 delta xR
 exact fnL Tryz.func109 rfl<|rgL<|rgL<|zY<|rgL<|bFL (bEL fun r307 hr307=>rCL (kCL 1 J (ZG hr307) edL)<|zg<|yi<|rJ J)<|rgL<|cuL (fun y309=>⟨52,[(0,qi a0),(1,qs a1),(11,qb y309)]⟩) (fun y309=>⟨[],[]⟩) (fun y309=>bFL (jnL J)<|xi zI<|jnL J) fun y309=>bFL (rgL<|bcL (fun _=>⟨52,[]⟩) (fun _=>⟨[],[]⟩) (fun o385 hr386=>lpL (fun k x=>xa n a1 a0 k x) 0 J (fun x=>⟨52,[(0,qi a0),(1,qs a1),(5,qi x)]⟩) (fun x=>⟨[],[]⟩) fun k v411=>by rw [xa]; exact rgL<|bFL (zY<|bEL fun y459 hE=>rgF hE ⟨52,[(0,qi a0),(1,qs a1),(5,qi v411),(51,qb y459)]⟩ ⟨[],[]⟩ (gFL 3 22 (bEL fun x448 hx448=>kPL 5 (zZ hx448)<|gFL 8 27 (eJ J)<|bEL fun x449 hx449=>kPL 10 (zZ hx449)<|gFL 15 34 (eJ J)<|gFL 18 37 (bEL fun x450 hx450=>bEL fun r451 hr451=>kPL 20 (zZ hx450)<|kCL 21 J (qm hr451)<|gFL 25 44 (bEL fun x452 hx452=>bEL fun r453 hr453=>kPL 27 (zZ hx452)<|kCL 28 J (qr hr453)<|eJ J)<|eJ J)<|eJ J)<|gFL 18 37 (bEL fun x454 hx454=>bEL fun r455 hr455=>kPL 20 (zZ hx454)<|kCL 21 J (qm hr455)<|gFL 25 44 (bEL fun x456 hx456=>bEL fun r457 hr457=>kPL 27 (zZ hx456)<|kCL 28 J (qr hr457)<|eJ J)<|eJ J)<|eJ J)<|bFL (rgL<|zg<|yi<|yb<|hvL hr386<|zK<|yi<|rJ J)<|z8<|xi zI fun h=>⟨wrap .i64 (v411+1),h,wk J⟩)<|zW<|zS<|zN<|jCL J) fun y384=>rgL<|zg<|yi<|rJ J)<|z8<|rgL<|zg<|rJ J
def xk (n:Nat)(v185:Int)(a0:List zc)(x296:zc):Nat→Int→Option (Ctl Int Unit)
 |0,_=>none
 | k+1,v313=>
  if(decide (v313<v185))=true then((xe a0 v313).bind fun x317=>
  if(x317.uH==x296.uH)=true then(some (.ret 10))else(xk n v185 a0 x296 k (wrap .i64 (v313+1))))else(some (.nxt ()))
def yP (n:Nat)(a0:List zc):Nat→Int→Option (Ctl Int Unit)
 |0,_=>none
 | k+1,v185=>
  if(decide (v185<(a0.length:Int)))=true then((xe a0 v185).bind fun x296=>
  (yJ n x296.uH).bind fun r297=>
  if(!r297)=true then(some (.ret 11))else((if((x296.uy.length:Int)==0)=true then(some true)else((xR n x296.yA x296.uy).bind fun r298=>
  some (!r298))).bind fun y300=>
  if y300=true then(some (.ret 13))else(if(decide ((x296.uy.length:Int)>64))=true then(some (.ret 2))else(yM (xk n v185 a0 x296 n 0) (fun r=>some (.ret r)) (fun y308=>
  yP n a0 k (wrap .i64 (v185+1)))))))else(some (.nxt ()))
def wm (n:Nat)(a0:List zc):Option Int:=
 yM (yP n a0 n 0) (fun r=>some r) (fun y158=>
 some 0)
theorem gg {n:Nat} {a0:(List zc)} {r:Int}:wm n a0=some r→AC mx 240 [ql 3 zc.cells a0] [] (qi r) []:=by
 delta wm
 exact fnL Tryz.func240 rfl<|rgL<|rCL (kPL 1 (yg (c:=zc.cells) (l:=a0) (e:=82) (sz:=3) (sz':=3) (b:=40) (tok:= .none)) edL)<|bcL (fun _=>⟨47,[]⟩) (fun _=>⟨[],[]⟩) (fun o159 hr160=>lpL (fun k x=>yP n a0 k x) 0 J (fun x=>⟨47,[(0,ql 3 zc.cells a0),(6,ql 3 zc.cells a0),(7,qi (a0.length:Int)),(8,qi x)]⟩) (fun x=>⟨[],[]⟩) fun k v185=>by rw [yP]; exact rgL<|bFL (zY<|bEL fun x296 hx296=>rCL (kPL 1 (zR (c:=zc.cells) (e:=82) (sz:=3) (b:=40) (tok:= .none) hx296) edL)<|bEL fun r297 hr297=>rCL (kCL 2 A0 (xG hr297) edL)<|bFL (rgL<|zg<|yi<|yb<|hvL hr160<|zK<|rJ A0)<|bEL fun y300 hE=>rgF hE ⟨47,[(0,ql 3 zc.cells a0),(3,qi v185),(4,qp 0),(6,ql 3 zc.cells a0),(7,qi (a0.length:Int)),(8,qi v185),(28,qb y300)]⟩ ⟨[zc.cells x296],[]⟩ (gFL 5 21 (eJ O)<|bEL fun r298 hr298=>kCL 9 A0 (kd hr298)<|eJ O)<|bFL (rgL<|zg<|yi<|yb<|hvL hr160<|zK<|rJ A0)<|rgL<|bFL (rgL<|zg<|yi<|yb<|hvL hr160<|zK<|rJ A0)<|rgL<|Gw yF (fun _=>⟨47,[(0,ql 3 zc.cells a0),(6,ql 3 zc.cells a0),(7,qi (a0.length:Int)),(8,qi v185)]⟩) (fun _=>⟨[],[]⟩) (fun o309 hr310=>lpL (fun k x=>xk n v185 a0 x296 k x) 0 O (fun x=>⟨47,[(0,ql 3 zc.cells a0),(3,qi v185),(4,qp 0),(5,qi x),(6,ql 3 zc.cells a0),(7,qi (a0.length:Int)),(8,qi v185)]⟩) (fun x=>⟨[zc.cells x296],[]⟩) fun k v313=>by rw [xk]; exact rgL<|bFL (zY<|bEL fun x317 hx317=>lfL (fun z=>zs [0,1,2,3,4,5,6,7] [] [[],[],[0,1],[0,1,2],[0,1,2,3],[],[5],[0,1,2,3,4,5,6]] [0,3,5,6,7,8] [(4,qp 0),(45,qb (x317.uH==x296.uH))] (dS [0,1]<|dP (zR (c:=zc.cells) (e:=82) (sz:=3) (b:=40) (tok:= .none) hx317)<|dS [3,4,5,6,7]<|dE O) z)<|bFL (rgL<|zg<|yi<|yb<|hvL hr310<|zK<|yi<|yb<|hvL hr160<|zK<|rJ A0)<|z8<|xi zI fun h=>⟨wrap .i64 (v313+1),h,wk O⟩)<|zW<|zS<|zN<|jCL A0) fun y308=>z8<|xi zI fun h=>⟨wrap .i64 (v185+1),h,wk J⟩)<|zW<|zS<|zN<|jCL J) fun y158=>rgL<|zg<|rJ J
def xV (n:Nat)(a0:yq):Nat→Int→Option (Ctl Int Unit)
 |0,_=>none
 | k+1,v21=>
  if(decide (v21<(a0.xo.length:Int)))=true then((xe a0.xo v21).bind fun x28=>
  if((x28.length:Int)==0)=true then(some (.ret 14))else(if(decide ((x28.length:Int)>4))=true then(some (.ret 2))else((wm n x28).bind fun r29=>
  if(r29 !=0)=true then(some (.ret r29))else(xV n a0 k (wrap .i64 (v21+1))))))else(some (.nxt ()))
def wx (n:Nat)(a0:yq):Option Int:=
 if(decide ((a0.xo.length:Int)>8))=true then(some 2)else(yM (xV n a0 n 0) (fun r=>some r) (fun y14=>
 some 0))
theorem ke {n:Nat} {a0:yq} {r:Int}:wx n a0=some r→AC mx 110 [.agg [ql 1 (cL 3 zc.cells) a0.xo]] [] (qi r) []:=by
 delta wx
 exact fnL Tryz.func110 rfl<|rgL<|rCL (kPL 2 (yg (c:=(cL 3 zc.cells)) (l:=a0.xo) (e:=83) (sz:=1) (sz':=1) (b:=24) (tok:= .none)) edL)<|bFL (rgL<|zg<|rJ A0)<|rCL (kPL 2 (yg (c:=(cL 3 zc.cells)) (l:=a0.xo) (e:=83) (sz:=1) (sz':=1) (b:=24) (tok:= .none)) edL)<|bcL (fun _=>⟨29,[]⟩) (fun _=>⟨[],[]⟩) (fun o15 hr16=>lpL (fun k x=>xV n a0 k x) 0 A0 (fun x=>⟨29,[(11,ql 1 (cL 3 zc.cells) a0.xo),(12,qi (a0.xo.length:Int)),(13,qi x)]⟩) (fun x=>⟨[],[]⟩) fun k v21=>by rw [xV]; exact rgL<|bFL (zY<|bEL fun x28 hx28=>rCL (kPL 0 (zR (c:=(cL 3 zc.cells)) (e:=83) (sz:=1) (b:=24) (tok:= .none) hx28) edL)<|rCL (kPL 1 (yg (c:=zc.cells) (l:=x28) (e:=82) (sz:=3) (sz':=3) (b:=40) (tok:= .none)) edL)<|bFL (rgL<|zg<|yi<|yb<|hvL hr16<|zK<|rJ J)<|rCL (kPL 1 (yg (c:=zc.cells) (l:=x28) (e:=82) (sz:=3) (sz':=3) (b:=40) (tok:= .none)) edL)<|bFL (rgL<|zg<|yi<|yb<|hvL hr16<|zK<|rJ J)<|bEL fun r29 hr29=>rCL (kCL 1 J (gg hr29) edL)<|rgL<|bFL (rgL<|zg<|yi<|yb<|hvL hr16<|zK<|rJ J)<|z8<|xi zI fun h=>⟨wrap .i64 (v21+1),h,wk J⟩)<|zW<|zS<|zN<|jCL J) fun y14=>rgL<|zg<|rJ J
def xc (n:Nat)(x32977:C4):Nat→Int→Option Int
 |0,_=>none
 | k+1,v32994=>
  (if(decide (v32994<(x32977.length:Int)))=true then((xD x32977 v32994).bind fun x32998=>
  some (x32998 !=61))else(some false)).bind fun y33000=>
  if y33000=true then(xc n x32977 k (wrap .i64 (v32994+1)))else(some v32994)
def xd (n:Nat)(r33002:List C4):Nat→Int→C4→Option C4
 |0,_,_=>none
 | k+1,v33044,v33045=>
  if(decide (v33044<(r33002.length:Int)))=true then(((xe r33002 v33044).bind fun x33062=>
  if(x33062==v33045)=true then((xe r33002 (wrap .i64 (v33044+1))).bind fun x33063=>
  some x33063)else(some v33045)).bind fun y33060=>
  xd n r33002 k (wrap .i64 (v33044+2)) y33060)else(some v33045)
def xb (n:Nat)(r31242:List C4):Nat→(List zc)→Int→Option (Ctl (yq×Int) (List zc))
 |0,_,_=>none
 | k+1,v32467,v32468=>
  if(decide (v32468<(r31242.length:Int)))=true then(yM ((xe r31242 v32468).bind fun x32977=>
  (xc n x32977 n 0).bind fun y32989=>
  if(y32989==(x32977.length:Int))=true then(some (.ret ((yq.mk ([]:List (List zc))),32)))else((ssl x32977 0 y32989).bind fun x33001=>
  (uv n).bind fun r33002=>
  (xd n r33002 n 0 x33001).bind fun y33033=>
  (ssl x32977 (wrap .i64 (y32989+1)) (x32977.length)).bind fun x33064=>
  (wL n x33064).bind fun r33065=>
  (if(!r33065.2)=true then(some true)else((yJ n y33033).bind fun r33066=>
  some (!r33066))).bind fun y33068=>
  if y33068=true then(some (.ret ((yq.mk ([]:List (List zc))),32)))else((xR n 19 r33065.1).bind fun r33069=>
  (if r33069=true then(some 19)else(some 12)).bind fun y33071=>
  (if(y33033==([48,46,57,46,50,51,52,50,46,49,57,50,48,48,51,48,48,46,49,48,48,46,49,46,50,53]:C4))=true then(some true)else(some (y33033==([49,46,50,46,56,52,48,46,49,49,51,53,52,57,46,49,46,57,46,49]:C4)))).bind fun y33074=>
  if y33074=true then((jO 40 v32467 ([(zc.mk y33033 22 r33065.1)]:List zc)).bind fun x33075=>
  some (.nxt x33075))else((jO 40 v32467 ([(zc.mk y33033 y33071 r33065.1)]:List zc)).bind fun x33076=>
  some (.nxt x33076))))) (fun r=>some (.ret r)) (fun y32974=>
  xb n r31242 k y32974 (wrap .i64 (v32468+1))))else(some (.nxt v32467))
def xU (n:Nat)(r1:List C4):Nat→Int→(List (List zc))→Option (Ctl (yq×Int) (List (List zc)))
 |0,_,_=>none
 | k+1,v22054,v22055=>
  if(decide (v22054<(r1.length:Int)))=true then((xe r1 v22054).bind fun x31241=>
  (xh n x31241 43).bind fun r31242=>
  yM (xb n r31242 n ([]:List zc) 0) (fun r=>some (.ret r)) (fun y32159=>
  (jO 24 v22055 ([y32159]:List (List zc))).bind fun x33077=>
  xU n r1 k (wrap .i64 (v22054+1)) x33077))else(some (.nxt v22055))
def vn (n:Nat)(a0:C4):Option (yq×Int):=
 if(a0==([]:C4))=true then(some ((yq.mk ([]:List (List zc))),0))else((xh n a0 44).bind fun r1=>
 yM (xU n r1 n 0 ([]:List (List zc))) (fun r=>some r) (fun y16539=>
 (wx n (yq.mk y16539)).bind fun r33078=>
 if(r33078 !=0)=true then(some ((yq.mk ([]:List (List zc))),r33078))else(some ((yq.mk y16539),0))))
theorem dX {n:Nat} {a0:C4} {r:(yq×Int)}:vn n a0=some r→AC mx 54 [qs a0] [] (.tuple [.agg [ql 1 (cL 3 zc.cells) r.1.xo],qi r.2]) []:=by
 delta vn
 exact fnL Tryz.func54 rfl<|rgL<|rgL<|rgL<|bFL (rgL<|zg<|rJ A1)<|bEL fun r1 hr1=>rCL (kCL 1 A1 (vB hr1)<|kPL 2 (yg (c:=cS) (l:=r1) (e:=9) (sz:=1) (sz':=1) (b:=16) (tok:= .none)) edL)<|bcL (fun y16539=>⟨126,[(2,qp 0),(4,qp 1)]⟩) (fun y16539=>⟨[[qn],[.sl 1 (List.map (cL 3 zc.cells) y16539) (.fam 0 (y16539.length))]],[y16539.length]⟩) (fun o16540 hr16541=>w7 (wk (fr':=⟨126,[(2,qp 0),(4,qp 1),(22,ql 1 cS r1),(23,qi (r1.length:Int)),(24,qi 0)]⟩) (st':=⟨[[qn],[qn]],[]⟩) A3)<|w7 Wk.nilFam<|lpL (fun k x=>xU n r1 k x.1 x.2) (0,([]:List (List zc))) Ae (fun x=>⟨126,[(2,qp 0),(4,qp 1),(22,ql 1 cS r1),(23,qi (r1.length:Int)),(24,qi x.1)]⟩) (fun x=>⟨[[qn],[.sl 1 (List.map (cL 3 zc.cells) x.2) (.fam 0 (x.2.length))]],[x.2.length]⟩) fun k x=>by obtain⟨v22054,v22055⟩:=x; rw [xU]; exact rgL<|bFL (zY<|bEL fun x31241 hx31241=>rCL (kPL 0 (zR (c:=cS) (e:=9) (sz:=1) (b:=16) (tok:= .none) hx31241) edL)<|rgL<|bEL fun r31242 hr31242=>rCL (kCL 1 Aj (vB hr31242)<|kPL 2 (yg (c:=cS) (l:=r31242) (e:=9) (sz:=1) (sz':=1) (b:=16) (tok:= .none)) edL)<|bcL (fun y32159=>⟨126,[(2,qp 0),(4,qp 1),(7, .sl 3 (List.map zc.cells y32159) (.fam 1 (y32159.length))),(22,ql 1 cS r1),(23,qi (r1.length:Int)),(24,qi v22054)]⟩) (fun y32159=>⟨[[qn],[.sl 1 (List.map (cL 3 zc.cells) v22055) (.fam 0 (v22055.length))]],[v22055.length,y32159.length]⟩) (fun o32160 hr32161=>w7 (wk (fr':=⟨126,[(2,qp 0),(4,qp 1),(7,qn),(22,ql 1 cS r1),(23,qi (r1.length:Int)),(24,qi v22054),(29,ql 1 cS r31242),(30,qi (r31242.length:Int)),(31,qi 0)]⟩) (st':=⟨[[qn],[.sl 1 (List.map (cL 3 zc.cells) v22055) (.fam 0 (v22055.length))]],[v22055.length]⟩) Ae)<|w7 Wk.nilFam<|lpL (fun k x=>xb n r31242 k x.1 x.2) (([]:List zc),0) Ak (fun x=>⟨126,[(2,qp 0),(4,qp 1),(7, .sl 3 (List.map zc.cells x.1) (.fam 1 (x.1.length))),(22,ql 1 cS r1),(23,qi (r1.length:Int)),(24,qi v22054),(29,ql 1 cS r31242),(30,qi (r31242.length:Int)),(31,qi x.2)]⟩) (fun x=>⟨[[qn],[.sl 1 (List.map (cL 3 zc.cells) v22055) (.fam 0 (v22055.length))]],[v22055.length,x.1.length]⟩) fun k x=>by obtain⟨v32467,v32468⟩:=x; rw [xb]; exact rgL<|bFL (bcL (fun y32974=>⟨126,[(2,qp 0),(4,qp 1),(7, .sl 3 (List.map zc.cells y32974) (.fam 1 (y32974.length))),(22,ql 1 cS r1),(23,qi (r1.length:Int)),(24,qi v22054),(29,ql 1 cS r31242),(30,qi (r31242.length:Int)),(31,qi v32468)]⟩) (fun y32974=>⟨[[qn],[.sl 1 (List.map (cL 3 zc.cells) v22055) (.fam 0 (v22055.length))]],[v22055.length,y32974.length]⟩) (fun o32975 hr32976=>bEL fun x32977 hx32977=>rCL (kPL 0 (zR (c:=cS) (e:=9) (sz:=1) (b:=16) (tok:= .none) hx32977) edL)<|rgL<|blL (fun y32989=>⟨126,[(2,qp 0),(4,qp 1),(7, .sl 3 (List.map zc.cells v32467) (.fam 1 (v32467.length))),(9,qs x32977),(10,qi y32989),(22,ql 1 cS r1),(23,qi (r1.length:Int)),(24,qi v22054),(29,ql 1 cS r31242),(30,qi (r31242.length:Int)),(31,qi v32468)]⟩) (fun y32989=>⟨[[qn],[.sl 1 (List.map (cL 3 zc.cells) v22055) (.fam 0 (v22055.length))]],[v22055.length,v32467.length]⟩) (fun y32989=>lpL (fun k x=>xc n x32977 k x) 0 Ak (fun x=>⟨126,[(2,qp 0),(4,qp 1),(7, .sl 3 (List.map zc.cells v32467) (.fam 1 (v32467.length))),(9,qs x32977),(10,qi x),(22,ql 1 cS r1),(23,qi (r1.length:Int)),(24,qi v22054),(29,ql 1 cS r31242),(30,qi (r31242.length:Int)),(31,qi v32468)]⟩) (fun x=>⟨[[qn],[.sl 1 (List.map (cL 3 zc.cells) v22055) (.fam 0 (v22055.length))]],[v22055.length,v32467.length]⟩) fun k v32994=>by rw [xc]; exact bEL fun y33000 hE=>rgF hE ⟨126,[(2,qp 0),(4,qp 1),(7, .sl 3 (List.map zc.cells v32467) (.fam 1 (v32467.length))),(9,qs x32977),(10,qi v32994),(22,ql 1 cS r1),(23,qi (r1.length:Int)),(24,qi v22054),(29,ql 1 cS r31242),(30,qi (r31242.length:Int)),(31,qi v32468),(44,qb y33000)]⟩ ⟨[[qn],[.sl 1 (List.map (cL 3 zc.cells) v22055) (.fam 0 (v22055.length))]],[v22055.length,v32467.length]⟩ (gFL 5 39 (bEL fun x32998 hx32998=>kPL 7 (zZ hx32998)<|eJ Ak)<|eJ Ak)<|bFL (zY<|xi (dq (P:=Tryz.prog) (gl:=gl0 mx) zI)<|z8 fun h=>⟨wrap .i64 (v32994+1),h,wk Ak⟩)<|zW<|zS<|zN<|jnL Ak) fun y32989=>rgL<|bFL (rgL<|zg<|hvL hr32976<|zK<|yb<|hvL hr32161<|zK<|yi<|yb<|hvL hr16541<|zK<|rJ ⟨[],2,[],2⟩)<|bEL fun x33001 hx33001=>rCL (kPL 2 (vY (k:= .i64) hx33001) edL)<|bEL fun r33002 hr33002=>rCL (kCL 0 Ap (Zh hr33002) edL)<|rgL<|blL (fun y33033=>⟨126,[(2,qp 0),(4,qp 1),(7, .sl 3 (List.map zc.cells v32467) (.fam 1 (v32467.length))),(9,qs x32977),(10,qi y32989),(11,qp 2),(22,ql 1 cS r1),(23,qi (r1.length:Int)),(24,qi v22054),(29,ql 1 cS r31242),(30,qi (r31242.length:Int)),(31,qi v32468)]⟩) (fun y33033=>⟨[[qn],[.sl 1 (List.map (cL 3 zc.cells) v22055) (.fam 0 (v22055.length))],[qs y33033,qi 12,qs []]],[v22055.length,v32467.length]⟩) (fun y33033=>lpL (fun k x=>xd n r33002 k x.1 x.2) (0,x33001) Ag (fun x=>⟨126,[(2,qp 0),(4,qp 1),(7, .sl 3 (List.map zc.cells v32467) (.fam 1 (v32467.length))),(9,qs x32977),(10,qi y32989),(11,qp 2),(12,ql 1 cS r33002),(13,qi x.1),(22,ql 1 cS r1),(23,qi (r1.length:Int)),(24,qi v22054),(29,ql 1 cS r31242),(30,qi (r31242.length:Int)),(31,qi v32468)]⟩) (fun x=>⟨[[qn],[.sl 1 (List.map (cL 3 zc.cells) v22055) (.fam 0 (v22055.length))],[qs x.2,qi 12,qs []]],[v22055.length,v32467.length]⟩) fun k x=>by obtain⟨v33044,v33045⟩:=x; rw [xd]; exact rCL (kPL 2 (yg (c:=cS) (l:=r33002) (e:=9) (sz:=1) (sz':=1) (b:=16) (tok:= .none)) edL)<|bFL (blL (fun y33060=>⟨126,[(2,qp 0),(4,qp 1),(7, .sl 3 (List.map zc.cells v32467) (.fam 1 (v32467.length))),(9,qs x32977),(10,qi y32989),(11,qp 2),(12,ql 1 cS r33002),(13,qi v33044),(22,ql 1 cS r1),(23,qi (r1.length:Int)),(24,qi v22054),(29,ql 1 cS r31242),(30,qi (r31242.length:Int)),(31,qi v32468)]⟩) (fun y33060=>⟨[[qn],[.sl 1 (List.map (cL 3 zc.cells) v22055) (.fam 0 (v22055.length))],[qs y33060,qi 12,qs []]],[v22055.length,v32467.length]⟩) (fun y33060=>bEL fun x33062 hx33062=>lfL (fun z=>zs [0,1,2,3,4,5,6] [] [[],[],[0,1],[0,1,2],[],[4],[0,1,2,3,4,5]] [7,9,10,12,13,22,23,24,29,30,31] [(2,qp 0),(4,qp 1),(11,qp 2),(69,qb (x33062==v33045))] (dS [0,1]<|dP (zR (c:=cS) (e:=9) (sz:=1) (b:=16) (tok:= .none) hx33062)<|dS [3,4,5,6]<|dE Ag) z)<|bFL (bEL fun x33063 hx33063=>xC ya (kPL 3 (zR (c:=cS) (e:=9) (sz:=1) (b:=16) (tok:= .none) hx33063) edL)<|jnL Ag)<|jnL Ag) fun y33060=>xi zI fun h=>⟨(wrap .i64 (v33044+2),y33060),h,wk Ag⟩)<|zW<|zS<|zN<|jnL Ag) fun y33033=>bEL fun x33064 hx33064=>bEL fun r33065 hr33065=>rCL (kPL 3 (qw (k:= .i64) hx33064)<|kCL 4 Ap (pk hr33065) edL)<|bEL fun y33068 hE=>rgF hE ⟨126,[(2,qp 0),(4,qp 1),(7, .sl 3 (List.map zc.cells v32467) (.fam 1 (v32467.length))),(11,qp 2),(14,qs r33065.1),(22,ql 1 cS r1),(23,qi (r1.length:Int)),(24,qi v22054),(29,ql 1 cS r31242),(30,qi (r31242.length:Int)),(31,qi v32468),(91,qb y33068)]⟩ ⟨[[qn],[.sl 1 (List.map (cL 3 zc.cells) v22055) (.fam 0 (v22055.length))],[qs y33033,qi 12,qs []]],[v22055.length,v32467.length]⟩ (gFL 3 86 (eJ Ag)<|bEL fun r33066 hr33066=>kCL 5 Ap (xG hr33066)<|eJ Ag)<|bFL (rgL<|zg<|hvL hr32976<|zK<|yb<|hvL hr32161<|zK<|yi<|yb<|hvL hr16541<|zK<|rJ Ap)<|rgL<|bEL fun r33069 hr33069=>rCL (kCL 1 Ap (kd hr33069) edL)<|cuL (fun y33071=>⟨126,[(2,qp 0),(4,qp 1),(7, .sl 3 (List.map zc.cells v32467) (.fam 1 (v32467.length))),(11,qp 2),(22,ql 1 cS r1),(23,qi (r1.length:Int)),(24,qi v22054),(29,ql 1 cS r31242),(30,qi (r31242.length:Int)),(31,qi v32468)]⟩) (fun y33071=>⟨[[qn],[.sl 1 (List.map (cL 3 zc.cells) v22055) (.fam 0 (v22055.length))],[qs y33033,qi y33071,qs r33065.1]],[v22055.length,v32467.length]⟩) (fun y33071=>bFL (xi zI<|jnL Ag)<|jnL Ag) fun y33071=>bEL fun y33074 hE=>rgF hE ⟨126,[(2,qp 0),(4,qp 1),(7, .sl 3 (List.map zc.cells v32467) (.fam 1 (v32467.length))),(11,qp 2),(22,ql 1 cS r1),(23,qi (r1.length:Int)),(24,qi v22054),(29,ql 1 cS r31242),(30,qi (r31242.length:Int)),(31,qi v32468),(105,qb y33074)]⟩ ⟨[[qn],[.sl 1 (List.map (cL 3 zc.cells) v22055) (.fam 0 (v22055.length))],[qs y33033,qi y33071,qs r33065.1]],[v22055.length,v32467.length]⟩ (gFL 4 101 (eJ Ag)<|eJ Ag)<|bFL (rgL<|bEL fun x33075 hx33075=>xC ya (lfL (fun z=>kA 3 1 zc.cells (e:=82) (e2:=82) (sz:=3) (bytes:=40) (b2:=40) (tok2:= .exact) hx33075 z) edL)<|jCL Az)<|bEL fun x33076 hx33076=>xC ya (lfL (fun z=>kA 3 1 zc.cells (e:=82) (e2:=82) (sz:=3) (bytes:=40) (b2:=40) (tok2:= .exact) hx33076 z) edL)<|jCL Az) fun y32974=>xi zI fun h=>⟨(y32974,wrap .i64 (v32468+1)),h,wk Ak⟩)<|zW<|zS<|zN<|jCL Ak) fun y32159=>bEL fun x33077 hx33077=>xC yF (lfL (fun z=>kA 4 0 (cL 3 zc.cells) (e:=83) (e2:=83) (sz:=1) (bytes:=24) (b2:=24) (tok2:= .exact) hx33077 z) edL)<|z8<|xi zI fun h=>⟨(wrap .i64 (v22054+1),x33077),h,wk ⟨[0,1],2,[0],2⟩⟩)<|zW<|zS<|zN<|jCL Ae) fun y16539=>bEL fun r33078 hr33078=>rCL (kCL 1 Aj (ke hr33078) edL)<|rgL<|bFL (rgL<|zg<|rJ Aj)<|rgL<|zg<|rJ Aj
def xF (n:Nat):Nat→C4→(List C4)→Int→Bool→Option C4
 |0,_,_,_,_=>none
 | k+1,v40,v41,v42,v43=>
  if(decide (v42<(v41.length:Int)))=true then((zT n (ze.mk v41 v42 v43)).bind fun r53=>
  (pb ([32]:C4) r53.1).bind fun x54=>
  (pb v40 x54).bind fun x55=>
  xF n k x55 r53.2.f_l r53.2.wB r53.2.zG)else(some v40)
def wF (n:Nat)(a0:C4):Option (zh×Int):=
 (xh n a0 32).bind fun r1=>
 (zo n false (ze.mk r1 1 false)).bind fun r2=>
 (zo n false r2.2).bind fun r3=>
 (yG n r3.2).bind fun r4=>
 (yG n r4.2).bind fun r5=>
 (if r5.2.zG=true then(some true)else(some (decide (r5.2.wB≥(r5.2.f_l.length:Int))))).bind fun y7=>
 if y7=true then(some ((zh.mk (yq.mk ([]:List (List zc))) r4.1 r2.1 r3.1 ([]:List zn)),32))else((zT n r5.2).bind fun r8=>
 (xF n  n r8.1 r8.2.f_l r8.2.wB r8.2.zG).bind fun y32=>
 (vn n y32).bind fun r56=>
 if(r56.2 !=0)=true then(some ((zh.mk (yq.mk ([]:List (List zc))) r4.1 r2.1 r3.1 ([]:List zn)),r56.2))else(if((r56.1.xo.length:Int)==0)=true then(some ((zh.mk r56.1 r4.1 r2.1 r3.1 ([]:List zn)),14))else(if((r4.1.length:Int) !=32)=true then(some ((zh.mk r56.1 r4.1 r2.1 r3.1 ([]:List zn)),18))else(if(!(r5.1==([]:C4)))=true then(none)else(some ((zh.mk r56.1 r4.1 r2.1 r3.1 ([]:List zn)),r56.2))))))
theorem db {n:Nat} {a0:C4} {r:(zh×Int)}:wF n a0=some r→AC mx 21 [qs a0] [] (.tuple [.agg [ql 1 (cL 3 zc.cells) r.1.pZ.xo,qs r.1.XC,qi r.1.kO,qi r.1.Yr,ql 4 zn.cells r.1.yn],qi r.2]) []:=by
 delta wF
 exact fnL Tryz.func21 rfl<|rgL<|bEL fun r1 hr1=>rCL (kCL 1 A0 (vB hr1) edL)<|bEL fun r2 hr2=>bEL fun r3 hr3=>bEL fun r4 hr4=>rCL (kCL 1 Ab (zP hr2)<|kCL 3 Ab (zP hr3)<|kCL 5 Ab (wC hr4) edL)<|bEL fun r5 hr5=>rCL (kCL 1 A6 (wC hr5) edL)<|bEL fun y7 hE=>lfL (fun z=>drw [0,1,2,3,4,5,6,7,8,9,10,11,12,13,14,15] [] [[],[0],[0,1],[0,1,2],[0,1,2,3],[0,1,2,3,4],[0,1,2,3,4,5],[0,1,2,3,4,5,6],[0,1,2,3,4,5,6,7],[0,1,2,3,4],[0,1,2,3,4,9],[0,1,2,3,4,9,10],[0,1,2,3,4,9,10,11],[0,1,2,3,4,9,10,11,12],[0,1,2,3,4,5,6,7,8,9,10,11,12,13],[0,1,2,3,4,5,6,7,8,9,10,11,12,13,14]] ⟨88,[(2,qp 0),(4,qp 1),(5,qp 2),(6,qs r5.1),(38,qb y7)]⟩ ⟨[[qn,qs [],qi 0,qi 0,qn],ze.cells r5.2,[qn,qs r4.1,qi r2.1,qi r3.1,qn]],[]⟩ (have h:=hE; dS [0,1,2,3,4]<|hF 27 h (fun h=>dS [5,6,7,8,9,10,11,12,13,14,15]<|by cases h; exact dE A4) fun h=>dS [5,6,7,8,9,10,11,12]<|dP (yg (c:=cS) (l:=r5.2.f_l) (e:=9) (sz:=1) (sz':=1) (b:=16) (tok:= .none))<|dS [14,15]<|by cases h; exact dE A4) z)<|bFL (rgL<|zg<|rJ Aa)<|bEL fun r8 hr8=>rCL (kCL 1 A6 (yL hr8) edL)<|blL (fun y32=>⟨88,[(2,qp 0),(5,qp 1),(6,qs r5.1),(7,qs y32)]⟩) (fun y32=>⟨[[qn,qs [],qi 0,qi 0,qn],[qn,qs r4.1,qi r2.1,qi r3.1,qn]],[]⟩) (fun y32=>lpL (fun k x=>xF n  k x.1 x.2.1 x.2.2.1 x.2.2.2) (r8.1,r8.2.f_l,r8.2.wB,r8.2.zG) A4 (fun x=>⟨88,[(2,qp 0),(4,qp 1),(5,qp 2),(6,qs r5.1),(7,qs x.1)]⟩) (fun x=>⟨[[qn,qs [],qi 0,qi 0,qn],[ql 1 cS x.2.1,qi x.2.2.1,qb x.2.2.2],[qn,qs r4.1,qi r2.1,qi r3.1,qn]],[]⟩) fun k x=>by obtain⟨v40,v41,v42,v43⟩:=x; rw [xF]; exact lfL (fun z=>zs [0,1,2,3,4,5,6,7,8,9] [] [[],[0],[0,1],[0,1,2],[],[4],[4,5],[4,5,6],[4,5,6,7],[0,1,2,3,4,5,6,7,8]] [6] [(2,qp 0),(4,qp 1),(5,qp 2),(7,qs v40),(51,qb (decide (v42<(v41.length:Int))))] (dS [0,1,2,3,4,5,6,7]<|dP (yg (c:=cS) (l:=v41) (e:=9) (sz:=1) (sz':=1) (b:=16) (tok:= .none))<|dS [9]<|dE A4) z)<|bFL (zY<|bEL fun r53 hr53=>bEL fun x54 hx54=>bEL fun x55 hx55=>xC (dq (P:=Tryz.prog) (gl:=gl0 mx) zI) (kCL 2 A6 (yL hr53)<|kPL 3 (bR (d:=(tyT 9).d) hx54)<|kPL 4 (bR (d:=(tyT 9).d) hx55) edL)<|z8 fun h=>⟨(x55,r53.2.f_l,r53.2.wB,r53.2.zG),h,wk A4⟩)<|zW<|zS<|zN<|jnL As) fun y32=>bEL fun r56 hr56=>rCL (kCL 1 A1 (dX hr56) edL)<|rgL<|bFL (rgL<|zg<|rJ Aa)<|rgL<|rCL (kPL 2 (yg (c:=(cL 3 zc.cells)) (l:=r56.1.xo) (e:=83) (sz:=1) (sz':=1) (b:=24) (tok:= .none)) edL)<|bFL (rgL<|zg<|rJ Aa)<|rgL<|bFL (rgL<|zg<|rJ Aa)<|rgL<|bFL nEL<|rgL<|zg<|rJ Aa
def xl (n:Nat)(a0:Int):Option Int:=
 (xe ([0,7,9,1,24,8,33,2]:List Int) a0).bind fun x1=>
 some x1
theorem ZD {n:Nat} {a0:Int} {r:Int}:xl n a0=some r→AC mx 119 [qi a0] [] (qi r) []:=by
 delta xl
 exact fnL Tryz.func119 rfl<|rgL<|bEL fun x1 hx1=>rCL (kPL 2 (zR (c:=(cI .i64)) (e:=3) (sz:=1) (b:=8) (tok:= .exact) hx1) edL)<|zg<|rJ J
def yS (n:Nat)(m0:ze):Option (Bool×ze):=
 (if(!m0.zG)=true then(some (m0.wB==(m0.f_l.length:Int)))else(some false)).bind fun y2=>
 some (y2,m0)
theorem jo {n:Nat} {m0:ze} {r:(Bool×ze)}:yS n m0=some r→AC mx 58 [qp 0] [ze.cells m0] (qb r.1) [ze.cells r.2]:=by
 delta yS
 exact fnL Tryz.func58 rfl<|rgL<|bEL fun y2 hE=>lfL (fun z=>drw [0,1,2,3,4,5,6,7,8,9,10,11,12,13,14,15,16,17] [] [[],[0],[0,1],[0,1,2],[0,1,2,3],[0,1,2,3,4],[0,1,2,3,4,5],[0,1,2,3,4,5,6],[0,1,2,3,4,5,6,7],[0,1,2,3,4,5,6,7,8],[0,1,2,3,4,5],[0,1,2,3,4,5,10],[0,1,2,3,4,5,10,11],[0,1,2,3,4,5,10,11,12],[0,1,2,3,4,5,10,11,12,13],[0,1,2,3,4,5,6,7,8,9,10,11,12,13,14],[0,1,2,3,4,5,6,7,8,9,10,11,12,13,14,15],[0,1,2,3,4,5,6,7,8,9,10,11,12,13,14,15,16]] ⟨20,[(2,qb y2)]⟩ ⟨[ze.cells m0],[]⟩ (have h:=hE; dS [0,1,2,3,4,5]<|hF 8 h (fun h=>dS [6,7,8,9,10,11,12,13]<|dP (yg (c:=cS) (l:=m0.f_l) (e:=9) (sz:=1) (sz':=1) (b:=16) (tok:= .none))<|dS [15,16,17]<|by cases h; exact dE O) fun h=>dS [6,7,8,9,10,11,12,13,14,15,16,17]<|by cases h; exact dE O) z)<|zg<|rJ O
def u0 (n:Nat):Option zr:=
 some (zr.mk false false (-1) 0 ([]:List C4) ([]:List C4) ([]:List zw) (-1) (-1) (-1) ([]:List za) false (zv.mk ([]:List za) ([]:List za)) ([]:C4) ([]:C4) ([]:List zn) ([]:List zn) ([]:List zf))
theorem ZQ {n:Nat} {r:zr}:u0 n  =some r→AC mx 120 [] [] (.agg (zr.cells r)) []:=by
 delta u0
 exact fnL Tryz.func120 rfl<|rgL<|rgL<|zg<|rJ A0
def je (n:Nat)(x2:Int)(a0:C4):Nat→Int→Int→Option Int
 |0,_,_=>none
 | k+1,v45,v46=>
  if(decide (v46<(wrap .i64 ((wrap .i64 x2)-128))))=true then((xD a0 (wrap .i64 ((2:Int)+v46))).bind fun x50=>
  je n x2 a0 k (wrap .i64 ((wrap .i64 ((256:Int)*v45))+(wrap .i64 x50))) (wrap .i64 (v46+1)))else(some v45)
def uZ (n:Nat)(a0:C4):Option (zd×C4×Int):=
 if((a0.length:Int)==0)=true then(some ((zd.mk 0 ([]:C4) ([]:C4)),([]:C4),3))else((xD a0 0).bind fun x1=>
 if((Int.tmod x1 32)==31)=true then(some ((zd.mk 0 ([]:C4) ([]:C4)),([]:C4),5))else(if((a0.length:Int)==1)=true then(some ((zd.mk 0 ([]:C4) ([]:C4)),([]:C4),3))else((xD a0 1).bind fun x2=>
 (if((wrap .i64 x2)==128)=true then(some true)else(some (decide ((wrap .i64 x2)>131)))).bind fun y4=>
 if y4=true then(some ((zd.mk 0 ([]:C4) ([]:C4)),([]:C4),6))else(yM (if(decide ((wrap .i64 x2)>128))=true then(if(decide ((a0.length:Int)<(wrap .i64 ((2:Int)+(wrap .i64 ((wrap .i64 x2)-128))))))=true then(some (.ret ((zd.mk 0 ([]:C4) ([]:C4)),([]:C4),3)))else((je n x2 a0 n 0 0).bind fun y41=>
 (xe ([0,128,256,65536]:List Int) (wrap .i64 ((wrap .i64 x2)-128))).bind fun x51=>
 (if(decide (y41<x51))=true then(some true)else(some (decide (y41>131072)))).bind fun y53=>
 if y53=true then(some (.ret ((zd.mk 0 ([]:C4) ([]:C4)),([]:C4),6)))else(some (.nxt (y41,wrap .i64 ((2:Int)+(wrap .i64 ((wrap .i64 x2)-128))))))))else(some (.nxt (wrap .i64 x2,2)))) (fun r=>some r) (fun y29=>
 if(decide ((wrap .i64 ((a0.length:Int)-y29.2))<y29.1))=true then(some ((zd.mk 0 ([]:C4) ([]:C4)),([]:C4),3))else((xD a0 0).bind fun x54=>
 (ssl a0 y29.2 (wrap .i64 (y29.2+y29.1))).bind fun x55=>
 (ssl a0 0 (wrap .i64 (y29.2+y29.1))).bind fun x56=>
 (ssl a0 (wrap .i64 (y29.2+y29.1)) (a0.length)).bind fun x57=>
 some ((zd.mk (wrap .i64 x54) x55 x56),x57,0)))))))
theorem qE {n:Nat} {a0:C4} {r:(zd×C4×Int)}:uZ n a0=some r→AC mx 257 [qs a0] [] (.tuple [.agg (zd.cells r.1),qs r.2.1,qi r.2.2]) []:=by
 delta uZ
 exact fnL Tryz.func257 rfl<|rgL<|rgL<|rgL<|bFL (rgL<|zg<|rJ A1)<|bEL fun x1 hx1=>rCL (kPL 1 (zZ hx1) edL)<|bFL (rgL<|zg<|rJ A1)<|rgL<|bFL (rgL<|zg<|rJ A1)<|bEL fun x2 hx2=>rCL (kPL 1 (zZ hx2) edL)<|bEL fun y4 hE=>rgF hE ⟨99,[(0,qs a0),(2,qp 0),(5,qp 1),(6,qi (wrap .i64 x2)),(7,qi 2),(33,qb y4)]⟩ ⟨[[qi 0,qs [],qs []],[qi 0,qs [],qs []]],[]⟩ (gFL 3 30 (eJ A3)<|eJ A3)<|bFL (rgL<|zg<|rJ A1)<|rgL<|ccL (fun y29=>⟨99,[(0,qs a0),(2,qp 0),(5,qp 1),(6,qi y29.1),(7,qi y29.2)]⟩) (fun y29=>⟨[[qi 0,qs [],qs []],[qi 0,qs [],qs []]],[]⟩) (fun o30 hr31=>bFL (rgL<|rgL<|bFL (rgL<|zg<|hvL hr31<|yb<|rJ A1)<|rgL<|rgL<|blL (fun y41=>⟨99,[(0,qs a0),(2,qp 0),(5,qp 1),(6,qi y41),(8,qi (wrap .i64 ((wrap .i64 x2)-128)))]⟩) (fun y41=>⟨[[qi 0,qs [],qs []],[qi 0,qs [],qs []]],[]⟩) (fun y41=>lpL (fun k x=>je n x2 a0 k x.1 x.2) (0,0) A3 (fun x=>⟨99,[(0,qs a0),(2,qp 0),(5,qp 1),(6,qi x.1),(8,qi (wrap .i64 ((wrap .i64 x2)-128))),(9,qi x.2)]⟩) (fun x=>⟨[[qi 0,qs [],qs []],[qi 0,qs [],qs []]],[]⟩) fun k x=>by obtain⟨v45,v46⟩:=x; rw [je]; exact rgL<|bFL (zY<|bEL fun x50 hx50=>xC yF (kPL 5 (zZ hx50) edL)<|z8<|xi zI fun h=>⟨(wrap .i64 ((wrap .i64 ((256:Int)*v45))+(wrap .i64 x50)),wrap .i64 (v46+1)),h,wk A3⟩)<|zW<|zS<|zN<|jnL A3) fun y41=>rgL<|bEL fun x51 hx51=>rCL (kPL 2 (zR (c:=(cI .i64)) (e:=3) (sz:=1) (b:=8) (tok:= .exact) hx51) edL)<|bEL fun y53 hE=>rgF hE ⟨99,[(0,qs a0),(2,qp 0),(5,qp 1),(6,qi y41),(7,qi (wrap .i64 ((2:Int)+(wrap .i64 ((wrap .i64 x2)-128))))),(70,qb y53)]⟩ ⟨[[qi 0,qs [],qs []],[qi 0,qs [],qs []]],[]⟩ (gFL 4 67 (eJ A3)<|eJ A3)<|bFL (rgL<|zg<|hvL hr31<|yb<|rJ A1)<|jCL A3)<|jCL A3) fun y29=>rgL<|bFL (rgL<|zg<|rJ A1)<|bEL fun x54 hx54=>bEL fun x55 hx55=>bEL fun x56 hx56=>bEL fun x57 hx57=>lfL (fun z=>zm [0,1,2,3,4,5,6,7,8,9,10,11,12,13,14,15,16,17,18,19,20,21,22] [20] [[],[0],[0,1],[],[],[],[],[5,6],[3,4,5,6,7],[],[],[],[10,11],[9,10,11,12],[0,1,2,3,4,5,6,7,8,9,10,11,12,13],[],[],[],[16,17],[15,16,17,18],[0,1,2,3,4,5,6,7,8,9,10,11,12,13,14],[0,1,2,3,4,5,6,7,8,9,10,11,12,13,14,15,16,17,18,19,20],[0,1,2,3,4,5,6,7,8,9,10,11,12,13,14,15,16,17,18,19,20,21]] [] [(2,qp 0),(3,qs x57),(4,qi 0)] ⟨[[qi (wrap .i64 x54),qs x55,qs x56]],[]⟩ (dS [0]<|dP (zZ hx54)<|dS [2,3,4,5,6,7]<|dP (xm (k:= .i64) (k':= .i64) hx55)<|dS [9,10,11,12]<|dP (vY (k:= .i64) hx56)<|dS [14,15,16,17,18]<|dP (qw (k:= .i64) hx57)<|dF (zL 19 (qw (k:= .i64) hx57) (zL 13 (vY (k:= .i64) hx56) (zL 8 (xm (k:= .i64) (k':= .i64) hx55) (zL 1 (zZ hx54) yU))))<|dS [21,22]<|dE A9) z)<|zg<|rJ A0
def js (n:Nat)(a0:C4):Option (zd×Int):=
 (uZ n a0).bind fun r1=>
 if(r1.2.2 !=0)=true then(some ((zd.mk 0 ([]:C4) ([]:C4)),r1.2.2))else(if(decide ((r1.2.1.length:Int)>0))=true then(some ((zd.mk 0 ([]:C4) ([]:C4)),4))else(some (r1.1,0)))
theorem qR {n:Nat} {a0:C4} {r:(zd×Int)}:js n a0=some r→AC mx 244 [qs a0] [] (.tuple [.agg (zd.cells r.1),qi r.2]) []:=by
 delta js
 exact fnL Tryz.func244 rfl<|rgL<|bEL fun r1 hr1=>rCL (kCL 1 A0 (qE hr1) edL)<|rgL<|bFL (rgL<|zg<|rJ A1)<|rgL<|bFL (rgL<|zg<|rJ A1)<|rgL<|zg<|rJ A1
def jf (n:Nat):Nat→C4→(List zd)→Option (Ctl ((List zd)×Int) (List zd))
 |0,_,_=>none
 | k+1,v25,v26=>
  if(decide ((v25.length:Int)>0))=true then((uZ n v25).bind fun r33=>
  if(r33.2.2 !=0)=true then(some (.ret (([]:List zd),r33.2.2)))else((jO 40 v26 ([r33.1]:List zd)).bind fun x34=>
  jf n k r33.2.1 x34))else(some (.nxt v26))
def vH (n:Nat)(a0:C4):Option ((List zd)×Int):=
 yM (jf n  n a0 ([]:List zd)) (fun r=>some r) (fun y17=>
 some (y17,0))
theorem jj {n:Nat} {a0:C4} {r:((List zd)×Int)}:vH n a0=some r→AC mx 133 [qs a0] [] (.tuple [ql 3 zd.cells r.1,qi r.2]) []:=by
 delta vH
 exact fnL Tryz.func133 rfl<|rgL<|rgL<|bcL (fun y17=>⟨26,[(4, .sl 3 (List.map zd.cells y17) (.fam 0 (y17.length)))]⟩) (fun y17=>⟨[],[y17.length]⟩) (fun o18 hr19=>w7 (wk (fr':=⟨26,[(0,qs a0),(4,qn)]⟩) (st':=⟨[],[]⟩) J)<|w7 Wk.nilFam<|lpL (fun k x=>jf n  k x.1 x.2) (a0,([]:List zd)) A2 (fun x=>⟨26,[(0,qs x.1),(4, .sl 3 (List.map zd.cells x.2) (.fam 0 (x.2.length)))]⟩) (fun x=>⟨[],[x.2.length]⟩) fun k x=>by obtain⟨v25,v26⟩:=x; rw [jf]; exact rgL<|bFL (zY<|bEL fun r33 hr33=>rCL (kCL 1 A8 (qE hr33) edL)<|rgL<|bFL (rgL<|zg<|yi<|yb<|hvL hr19<|zK<|rJ Aq)<|bEL fun x34 hx34=>xC (dq (P:=Tryz.prog) (gl:=gl0 mx) zI) (lfL (fun z=>kA 3 0 zd.cells (e:=184) (e2:=184) (sz:=3) (bytes:=40) (b2:=40) (tok2:= .exact) hx34 z) edL)<|z8 fun h=>⟨(r33.2.1,x34),h,wk ⟨[],1,[0],1⟩⟩)<|zW<|zS<|zN<|jCL A2) fun y17=>rgL<|zg<|rJ A8
def qc (n:Nat)(a0:zd)(a1:Int):Option (yv×Int):=
 if(a0.p0 !=a1)=true then(some ((yv.mk ([]:List zd) 0),5))else((vH n a0.wJ).bind fun r1=>
 some ((yv.mk r1.1 0),r1.2))
theorem gc {n:Nat} {a0:zd} {a1:Int} {r:(yv×Int)}:qc n a0 a1=some r→AC mx 112 [.agg (zd.cells a0),qi a1] [] (.tuple [.agg (yv.cells r.1),qi r.2]) []:=by
 delta qc
 exact fnL Tryz.func112 rfl<|rgL<|rgL<|bFL (rgL<|zg<|rJ A1)<|bEL fun r1 hr1=>rCL (kCL 2 A1 (jj hr1) edL)<|rgL<|zg<|rJ A1
def jJ (n:Nat)(a1:Int)(m0:yv):Option (zd×Int×yv):=
 if(decide (m0.kH≥(m0.f_L.length:Int)))=true then(some ((zd.mk 0 ([]:C4) ([]:C4)),3,m0))else((xe m0.f_L m0.kH).bind fun x1=>
 (if(decide (a1≥0))=true then(some (x1.p0 !=a1))else(some false)).bind fun y3=>
 if y3=true then(some ((zd.mk 0 ([]:C4) ([]:C4)),5,m0))else(some (x1,0,(yv.mk m0.f_L (wrap .i64 (m0.kH+1))))))
theorem de {n:Nat} {a1:Int} {m0:yv} {r:(zd×Int×yv)}:jJ n a1 m0=some r→AC mx 339 [qp 0,qi a1] [yv.cells m0] (.tuple [.agg (zd.cells r.1),qi r.2.1]) [yv.cells r.2.2]:=by
 delta jJ
 exact fnL Tryz.func339 rfl<|rgL<|lfL (fun z=>zs [0,1,2,3,4,5,6,7,8,9] [] [[],[0],[0,1],[0,1,2],[],[4],[4,5],[4,5,6],[4,5,6,7],[0,1,2,3,4,5,6,7,8]] [] [(0,qp 0),(1,qi a1),(4,qp 1),(16,qb (decide (m0.kH≥(m0.f_L.length:Int))))] (dS [0,1,2,3,4,5,6,7]<|dP (yg (c:=zd.cells) (l:=m0.f_L) (e:=184) (sz:=3) (sz':=3) (b:=40) (tok:= .none))<|dS [9]<|dE A3) z)<|bFL (rgL<|zg<|rJ A9)<|bEL fun x1 hx1=>lfL (fun z=>zm [0,1,2,3,4,5,6,7,8,9,10,11] [10,11] [[],[0],[0,1],[0,1,2],[],[4],[4,5],[4,5,6],[0,1,2,3,4,5,6,7],[0,1,2,3,4,5,6,7,8],[],[0,1,2,3,4,5,6,7,8,9,10]] [] [(0,qp 0),(1,qi a1),(4,qp 1),(6,qp 2)] ⟨[yv.cells m0,[qi 0,qs [],qs []],zd.cells x1],[]⟩ (dS [0,1,2,3,4,5,6,7]<|dP (zR (c:=zd.cells) (e:=184) (sz:=3) (b:=40) (tok:= .none) hx1)<|dS [9]<|dF (zL 8 (zR (c:=zd.cells) (e:=184) (sz:=3) (b:=40) (tok:= .none) hx1) yU)<|dF (zL 8 (zR (c:=zd.cells) (e:=184) (sz:=3) (b:=40) (tok:= .none) hx1) yU)<|dE A4) z)<|bEL fun y3 hE=>rgF hE ⟨45,[(0,qp 0),(4,qp 1),(6,qp 2),(35,qb y3)]⟩ ⟨[yv.cells m0,[qi 0,qs [],qs []],zd.cells x1],[]⟩ (gFL 3 30 (eJ A4)<|eJ A4)<|bFL (rgL<|zg<|rJ A5)<|rgL<|rgL<|zg<|rJ A5
def j4 (n:Nat)(a0:zd):Option (zf×Int):=
 (qc n a0 48).bind fun r1=>
 if(r1.2 !=0)=true then(some ((zf.mk ([]:C4) false ([]:C4)),r1.2))else((jJ n 6 r1.1).bind fun r2=>
 if(r2.2.1 !=0)=true then(some ((zf.mk ([]:C4) false ([]:C4)),r2.2.1))else(none))
theorem dV {n:Nat} {a0:zd} {r:(zf×Int)}:j4 n a0=some r→AC mx 245 [.agg (zd.cells a0)] [] (.tuple [.agg (zf.cells r.1),qi r.2]) []:=by
 delta j4
 exact fnL Tryz.func245 rfl<|rgL<|rgL<|bEL fun r1 hr1=>rCL (kCL 1 Aa (gc hr1) edL)<|rgL<|bFL (rgL<|zg<|rJ An)<|bEL fun r2 hr2=>rCL (kCL 0 ⟨[3],4,[],0⟩ (de hr2) edL)<|rgL<|bFL (rgL<|zg<|rJ Av) nEL
def ul (n:Nat)(a0:List zf):Option Int:=
 if((a0.length:Int)==0)=true then(some 7)else(if(decide ((a0.length:Int)>24))=true then(some 2)else(none))
theorem ge {n:Nat} {a0:(List zf)} {r:Int}:ul n a0=some r→AC mx 246 [ql 3 zf.cells a0] [] (qi r) []:=by
 delta ul
 exact fnL Tryz.func246 rfl<|rgL<|rCL (kPL 1 (yg (c:=zf.cells) (l:=a0) (e:=123) (sz:=3) (sz':=3) (b:=40) (tok:= .none)) edL)<|bFL (rgL<|zg<|rJ J)<|rCL (kPL 1 (yg (c:=zf.cells) (l:=a0) (e:=123) (sz:=3) (sz':=3) (b:=40) (tok:= .none)) edL)<|bFL (rgL<|zg<|rJ J) nEL
def wu (n:Nat)(r2:(yv×Int)):Nat→(List zf)→Int→Option (Ctl ((List zf)×Int) (List zf))
 |0,_,_=>none
 | k+1,v35,v36=>
  if(decide (v36<(r2.1.f_L.length:Int)))=true then((xe r2.1.f_L v36).bind fun x46=>
  (j4 n x46).bind fun r47=>
  if(r47.2 !=0)=true then(some (.ret (([]:List zf),r47.2)))else((jO 40 v35 ([r47.1]:List zf)).bind fun x48=>
  wu n r2 k x48 (wrap .i64 (v36+1))))else(some (.nxt v35))
def xy (n:Nat)(a0:C4):Option ((List zf)×Int):=
 (js n a0).bind fun r1=>
 if(r1.2 !=0)=true then(some (([]:List zf),r1.2))else((qc n r1.1 48).bind fun r2=>
 if(r2.2 !=0)=true then(some (([]:List zf),r2.2))else(yM (wu n r2 n ([]:List zf) 0) (fun r=>some r) (fun y25=>
 (ul n y25).bind fun r49=>
 if(r49 !=0)=true then(some (([]:List zf),r49))else(some (y25,0)))))
theorem bQ {n:Nat} {a0:C4} {r:((List zf)×Int)}:xy n a0=some r→AC mx 121 [qs a0] [] (.tuple [ql 3 zf.cells r.1,qi r.2]) []:=by
 delta xy
 exact fnL Tryz.func121 rfl<|rgL<|bEL fun r1 hr1=>rCL (kCL 1 J (qR hr1) edL)<|rgL<|bFL (rgL<|zg<|rJ A0)<|bEL fun r2 hr2=>rCL (kCL 1 A0 (gc hr2) edL)<|rgL<|bFL (rgL<|zg<|rJ A1)<|rgL<|rCL (kPL 2 (yg (c:=zd.cells) (l:=r2.1.f_L) (e:=184) (sz:=3) (sz':=3) (b:=40) (tok:= .none)) edL)<|bcL (fun y25=>⟨55,[(7, .sl 3 (List.map zf.cells y25) (.fam 0 (y25.length)))]⟩) (fun y25=>⟨[],[y25.length]⟩) (fun o26 hr27=>w7 (wk (fr':=⟨55,[(7,qn),(30,ql 3 zd.cells r2.1.f_L),(31,qi (r2.1.f_L.length:Int)),(32,qi 0)]⟩) (st':=⟨[],[]⟩) A1)<|w7 Wk.nilFam<|lpL (fun k x=>wu n r2 k x.1 x.2) (([]:List zf),0) A2 (fun x=>⟨55,[(7, .sl 3 (List.map zf.cells x.1) (.fam 0 (x.1.length))),(30,ql 3 zd.cells r2.1.f_L),(31,qi (r2.1.f_L.length:Int)),(32,qi x.2)]⟩) (fun x=>⟨[],[x.1.length]⟩) fun k x=>by obtain⟨v35,v36⟩:=x; rw [wu]; exact rgL<|bFL (zY<|bEL fun x46 hx46=>rCL (kPL 0 (zR (c:=zd.cells) (e:=184) (sz:=3) (b:=40) (tok:= .none) hx46) edL)<|bEL fun r47 hr47=>rCL (kCL 1 Aq (dV hr47) edL)<|rgL<|bFL (rgL<|zg<|yi<|yb<|hvL hr27<|zK<|rJ Aj)<|bEL fun x48 hx48=>xC yF (lfL (fun z=>kA 3 0 zf.cells (e:=123) (e2:=123) (sz:=3) (bytes:=40) (b2:=40) (tok2:= .exact) hx48 z) edL)<|z8<|xi zI fun h=>⟨(x48,wrap .i64 (v36+1)),h,wk ⟨[],2,[0],1⟩⟩)<|zW<|zS<|zN<|jCL A2) fun y25=>bEL fun r49 hr49=>rCL (kCL 1 A8 (ge hr49) edL)<|rgL<|bFL (rgL<|zg<|rJ A8)<|rgL<|zg<|rJ A8
def zO (n:Nat)(r5:(C4×ze)):Nat→Int→Int→Option Int
 |0,_,_=>none
 | k+1,v35,v36=>
  if(decide (v35≤7))=true then(((xe ([([]:C4),([105,115,115,117,101]:C4),([114,101,110,101,119]:C4),([114,101,107,101,121]:C4),([114,101,118,111,107,101]:C4),([114,101,108,101,97,115,101]:C4),([112,117,98,108,105,115,104]:C4),([97,100,111,112,116]:C4)]:List C4) v35).bind fun x48=>
  if(r5.1==x48)=true then(some v35)else(some v36)).bind fun y46=>
  zO n r5 k (wrap .i64 (v35+1)) y46)else(some v36)
def wS (n:Nat)(m0:ze):Option (zi×Int×ze):=
 (zo n false m0).bind fun r1=>
 (zT n r1.2).bind fun r2=>
 (if r2.2.zG=true then(some true)else(if(!(r2.1==([104,105,100,101]:C4)))=true then(some (!(r2.1==([112,111,115,116]:C4))))else(some false))).bind fun y4=>
 (zT n (ze.mk r2.2.f_l r2.2.wB y4)).bind fun r5=>
 (zO n r5 n 1 0).bind fun y27=>
 if(y27==0)=true then(some ((zi.mk 1 r1.1 (zM.mk y27 0 0 ([]:C4) (zr.mk false false 0 0 ([]:List C4) ([]:List C4) ([]:List zw) 0 0 0 ([]:List za) false (zv.mk ([]:List za) ([]:List za)) ([]:C4) ([]:C4) ([]:List zn) ([]:List zn) ([]:List zf)) 0 0 0 0 0 0 false) (r2.1==([104,105,100,101]:C4)) 0 0 0 (yu.mk 0 ([]:List Int)) (zy.mk 0 ([]:C4) 0 ([]:List C4) false false false ([]:List za) 0 false ([]:List zB)) ([]:List Int)),32,r5.2))else((xl n y27).bind fun r49=>
 (zo n false r5.2).bind fun r50=>
 (if((va .i64 r49 1) !=0)=true then((zo n false r50.2).bind fun r58=>
 some (r58.2.f_l,r58.2.wB,r58.2.zG,r58.1))else(some (r50.2.f_l,r50.2.wB,r50.2.zG,0))).bind fun y56=>
 (if((va .i64 r49 8) !=0)=true then((zo n false (ze.mk y56.1 y56.2.1 y56.2.2.1)).bind fun r66=>
 some (r66.2.f_l,r66.2.wB,r66.2.zG,r66.1))else(some (y56.1,y56.2.1,y56.2.2.1,0))).bind fun y64=>
 (if((va .i64 r49 16) !=0)=true then((zo n false (ze.mk y64.1 y64.2.1 y64.2.2.1)).bind fun r76=>
 (zo n true r76.2).bind fun r77=>
 some (r77.2.f_l,r77.2.wB,r77.2.zG,r76.1,r77.1))else(some (y64.1,y64.2.1,y64.2.2.1,0,0))).bind fun y74=>
 (if((va .i64 r49 32) !=0)=true then((zo n true (ze.mk y74.1 y74.2.1 y74.2.2.1)).bind fun r93=>
 (zo n false r93.2).bind fun r94=>
 (zo n true r94.2).bind fun r95=>
 (zT n r95.2).bind fun r96=>
 (if r96.2.zG=true then(some true)else(if(!(r96.1==([102,111,114,101,105,103,110]:C4)))=true then(some (!(r96.1==([111,119,110]:C4))))else(some false))).bind fun y98=>
 some (r96.2.f_l,r96.2.wB,y98,r93.1,r94.1,r95.1,r96.1==([102,111,114,101,105,103,110]:C4)))else(some (y74.1,y74.2.1,y74.2.2.1,0,0,0,false))).bind fun y91=>
 (if((va .i64 r49 2) !=0)=true then((yG n (ze.mk y91.1 y91.2.1 y91.2.2.1)).bind fun r106=>
 some (r106.2.f_l,r106.2.wB,r106.2.zG,r106.1))else(some (y91.1,y91.2.1,y91.2.2.1,([]:C4)))).bind fun y104=>
 (if((va .i64 r49 4) !=0)=true then((yG n (ze.mk y104.1 y104.2.1 y104.2.2.1)).bind fun r114=>
 some (r114.1,r114.2.f_l,r114.2.wB,r114.2.zG))else(some (([]:C4),y104.1,y104.2.1,y104.2.2.1))).bind fun y112=>
 (yS n (ze.mk y112.2.1 y112.2.2.1 y112.2.2.2)).bind fun r115=>
 if(!r115.1)=true then(some ((zi.mk 1 r1.1 (zM.mk y27 r50.1 y56.2.2.2 y104.2.2.2 (zr.mk false false 0 0 ([]:List C4) ([]:List C4) ([]:List zw) 0 0 0 ([]:List za) false (zv.mk ([]:List za) ([]:List za)) ([]:C4) ([]:C4) ([]:List zn) ([]:List zn) ([]:List zf)) y64.2.2.2 y74.2.2.2.1 y74.2.2.2.2 y91.2.2.2.1 y91.2.2.2.2.1 y91.2.2.2.2.2.1 y91.2.2.2.2.2.2) (r2.1==([104,105,100,101]:C4)) 0 0 0 (yu.mk 0 ([]:List Int)) (zy.mk 0 ([]:C4) 0 ([]:List C4) false false false ([]:List za) 0 false ([]:List zB)) ([]:List Int)),32,r115.2))else(if((va .i64 r49 4)==0)=true then(some ((zi.mk 1 r1.1 (zM.mk y27 r50.1 y56.2.2.2 y104.2.2.2 (zr.mk false false 0 0 ([]:List C4) ([]:List C4) ([]:List zw) 0 0 0 ([]:List za) false (zv.mk ([]:List za) ([]:List za)) ([]:C4) ([]:C4) ([]:List zn) ([]:List zn) ([]:List zf)) y64.2.2.2 y74.2.2.2.1 y74.2.2.2.2 y91.2.2.2.1 y91.2.2.2.2.1 y91.2.2.2.2.2.1 y91.2.2.2.2.2.2) (r2.1==([104,105,100,101]:C4)) 0 0 0 (yu.mk 0 ([]:List Int)) (zy.mk 0 ([]:C4) 0 ([]:List C4) false false false ([]:List za) 0 false ([]:List zB)) ([]:List Int)),0,r115.2))else((u0 n).bind fun r116=>
 if(y112.1==([]:C4))=true then(some ((zi.mk 1 r1.1 (zM.mk y27 r50.1 y56.2.2.2 y104.2.2.2 (zr.mk r116.yk r116.jZ r116.yw r116.yr r116.yc r116.zH r116.yd r116.zA r116.zD r116.zV r116.yl r116.zz (zv.mk r116.zq.ye r116.zq.yo) r116.zU r116.zJ r116.yn r116.z7 r116.yp) y64.2.2.2 y74.2.2.2.1 y74.2.2.2.2 y91.2.2.2.1 y91.2.2.2.2.1 y91.2.2.2.2.2.1 y91.2.2.2.2.2.2) (r2.1==([104,105,100,101]:C4)) 0 0 0 (yu.mk 0 ([]:List Int)) (zy.mk 0 ([]:C4) 0 ([]:List C4) false false false ([]:List za) 0 false ([]:List zB)) ([]:List Int)),0,r115.2))else((xy n y112.1).bind fun r117=>
 if(r117.2 !=0)=true then(some ((zi.mk 1 r1.1 (zM.mk y27 r50.1 y56.2.2.2 y104.2.2.2 (zr.mk r116.yk r116.jZ r116.yw r116.yr r116.yc r116.zH r116.yd r116.zA r116.zD r116.zV r116.yl r116.zz (zv.mk r116.zq.ye r116.zq.yo) r116.zU r116.zJ r116.yn r116.z7 r116.yp) y64.2.2.2 y74.2.2.2.1 y74.2.2.2.2 y91.2.2.2.1 y91.2.2.2.2.1 y91.2.2.2.2.2.1 y91.2.2.2.2.2.2) (r2.1==([104,105,100,101]:C4)) 0 0 0 (yu.mk 0 ([]:List Int)) (zy.mk 0 ([]:C4) 0 ([]:List C4) false false false ([]:List za) 0 false ([]:List zB)) ([]:List Int)),r117.2,r115.2))else(none)))))
theorem po {n:Nat} {m0:ze} {r:(zi×Int×ze)}:wS n m0=some r→AC mx 56 [qp 0] [ze.cells m0] (.tuple [.agg (zi.cells r.1),qi r.2.1]) [ze.cells r.2.2]:=by
 delta wS
 exact fnL Tryz.func56 rfl<|rgL<|bEL fun r1 hr1=>rCL (kCL 1 A9 (zP hr1) edL)<|bEL fun r2 hr2=>rCL (kCL 1 A5 (yL hr2) edL)<|rgL<|bEL fun y4 hE=>rgF hE ⟨186,[(0,qp 0),(2,qp 1),(4,qp 2)]⟩ ⟨[[ql 1 cS r2.2.f_l,qi r2.2.wB,qb y4],[qi 0,qi 0,qi 0,qi 0,qi 0,qs [],qb false,qb false,qi 0,qi 0,qn,qn,qn,qi 0,qi 0,qi 0,qn,qb false,qn,qn,qs [],qs [],qn,qn,qn,qi 0,qi 0,qi 0,qi 0,qi 0,qi 0,qb false,qb false,qi 0,qi 0,qi 0,qi 0,qn,qi 0,qs [],qi 0,qn,qb false,qb false,qb false,qn,qi 0,qb false,qn,qn],[qi 1,qi r1.1,qi 0,qi 0,qi 0,qs [],qb false,qb false,qi 0,qi 0,qn,qn,qn,qi 0,qi 0,qi 0,qn,qb false,qn,qn,qs [],qs [],qn,qn,qn,qi 0,qi 0,qi 0,qi 0,qi 0,qi 0,qb false,qb (r2.1==([104,105,100,101]:C4)),qi 0,qi 0,qi 0,qi 0,qn,qi 0,qs [],qi 0,qn,qb false,qb false,qb false,qn,qi 0,qb false,qn,qn]],[]⟩ (gFL 6 27 (eJ A4)<|gFL 9 30 (eJ A4)<|eJ A4)<|rgL<|bEL fun r5 hr5=>rCL (kCL 1 A5 (yL hr5) edL)<|rgL<|blL (fun y27=>⟨186,[(0,qp 0),(2,qp 1),(4,qp 2),(6, .ptr 2 2)]⟩) (fun y27=>⟨[ze.cells r5.2,[qi 0,qi 0,qi 0,qi 0,qi 0,qs [],qb false,qb false,qi 0,qi 0,qn,qn,qn,qi 0,qi 0,qi 0,qn,qb false,qn,qn,qs [],qs [],qn,qn,qn,qi 0,qi 0,qi 0,qi 0,qi 0,qi 0,qb false,qb false,qi 0,qi 0,qi 0,qi 0,qn,qi 0,qs [],qi 0,qn,qb false,qb false,qb false,qn,qi 0,qb false,qn,qn],[qi 1,qi r1.1,qi y27,qi 0,qi 0,qs [],qb false,qb false,qi 0,qi 0,qn,qn,qn,qi 0,qi 0,qi 0,qn,qb false,qn,qn,qs [],qs [],qn,qn,qn,qi 0,qi 0,qi 0,qi 0,qi 0,qi 0,qb false,qb (r2.1==([104,105,100,101]:C4)),qi 0,qi 0,qi 0,qi 0,qn,qi 0,qs [],qi 0,qn,qb false,qb false,qb false,qn,qi 0,qb false,qn,qn]],[]⟩) (fun y27=>lpL (fun k x=>zO n r5 k x.1 x.2) (1,0) A4 (fun x=>⟨186,[(0,qp 0),(2,qp 1),(4,qp 2),(6, .ptr 2 2),(7,qs r5.1),(8,qi x.1)]⟩) (fun x=>⟨[ze.cells r5.2,[qi 0,qi 0,qi 0,qi 0,qi 0,qs [],qb false,qb false,qi 0,qi 0,qn,qn,qn,qi 0,qi 0,qi 0,qn,qb false,qn,qn,qs [],qs [],qn,qn,qn,qi 0,qi 0,qi 0,qi 0,qi 0,qi 0,qb false,qb false,qi 0,qi 0,qi 0,qi 0,qn,qi 0,qs [],qi 0,qn,qb false,qb false,qb false,qn,qi 0,qb false,qn,qn],[qi 1,qi r1.1,qi x.2,qi 0,qi 0,qs [],qb false,qb false,qi 0,qi 0,qn,qn,qn,qi 0,qi 0,qi 0,qn,qb false,qn,qn,qs [],qs [],qn,qn,qn,qi 0,qi 0,qi 0,qi 0,qi 0,qi 0,qb false,qb (r2.1==([104,105,100,101]:C4)),qi 0,qi 0,qi 0,qi 0,qn,qi 0,qs [],qi 0,qn,qb false,qb false,qb false,qn,qi 0,qb false,qn,qn]],[]⟩) fun k x=>by obtain⟨v35,v36⟩:=x; rw [zO]; exact rgL<|bFL (blL (fun y46=>⟨186,[(0,qp 0),(2,qp 1),(4,qp 2),(6, .ptr 2 2),(7,qs r5.1),(8,qi v35)]⟩) (fun y46=>⟨[ze.cells r5.2,[qi 0,qi 0,qi 0,qi 0,qi 0,qs [],qb false,qb false,qi 0,qi 0,qn,qn,qn,qi 0,qi 0,qi 0,qn,qb false,qn,qn,qs [],qs [],qn,qn,qn,qi 0,qi 0,qi 0,qi 0,qi 0,qi 0,qb false,qb false,qi 0,qi 0,qi 0,qi 0,qn,qi 0,qs [],qi 0,qn,qb false,qb false,qb false,qn,qi 0,qb false,qn,qn],[qi 1,qi r1.1,qi y46,qi 0,qi 0,qs [],qb false,qb false,qi 0,qi 0,qn,qn,qn,qi 0,qi 0,qi 0,qn,qb false,qn,qn,qs [],qs [],qn,qn,qn,qi 0,qi 0,qi 0,qi 0,qi 0,qi 0,qb false,qb (r2.1==([104,105,100,101]:C4)),qi 0,qi 0,qi 0,qi 0,qn,qi 0,qs [],qi 0,qn,qb false,qb false,qb false,qn,qi 0,qb false,qn,qn]],[]⟩) (fun y46=>bEL fun x48 hx48=>rCL (kPL 3 (zR (c:=cS) (e:=9) (sz:=1) (b:=16) (tok:= .exact) hx48) edL)<|bFL (xi ya<|jnL A4)<|jnL A4) fun y46=>xi zI fun h=>⟨(wrap .i64 (v35+1),y46),h,wk A4⟩)<|zW<|zS<|zN<|jnL A4) fun y27=>rgL<|bFL (rgL<|zg<|rJ A5)<|bEL fun r49 hr49=>rCL (kCL 4 Aa (ZD hr49) edL)<|bEL fun r50 hr50=>rCL (kCL 2 A5 (zP hr50) edL)<|rgL<|cuL (fun y56=>⟨186,[(0,qp 0),(2,qp 1),(4,qp 2),(6, .ptr 2 2),(9,qi r49)]⟩) (fun y56=>⟨[[ql 1 cS y56.1,qi y56.2.1,qb y56.2.2.1],[qi 0,qi 0,qi 0,qi 0,qi 0,qs [],qb false,qb false,qi 0,qi 0,qn,qn,qn,qi 0,qi 0,qi 0,qn,qb false,qn,qn,qs [],qs [],qn,qn,qn,qi 0,qi 0,qi 0,qi 0,qi 0,qi 0,qb false,qb false,qi 0,qi 0,qi 0,qi 0,qn,qi 0,qs [],qi 0,qn,qb false,qb false,qb false,qn,qi 0,qb false,qn,qn],[qi 1,qi r1.1,qi y27,qi r50.1,qi y56.2.2.2,qs [],qb false,qb false,qi 0,qi 0,qn,qn,qn,qi 0,qi 0,qi 0,qn,qb false,qn,qn,qs [],qs [],qn,qn,qn,qi 0,qi 0,qi 0,qi 0,qi 0,qi 0,qb false,qb (r2.1==([104,105,100,101]:C4)),qi 0,qi 0,qi 0,qi 0,qn,qi 0,qs [],qi 0,qn,qb false,qb false,qb false,qn,qi 0,qb false,qn,qn]],[]⟩) (fun y56=>bFL (bEL fun r58 hr58=>xC zI (kCL 2 A5 (zP hr58) edL)<|jnL A4)<|jnL A4) fun y56=>rgL<|cuL (fun y64=>⟨186,[(0,qp 0),(2,qp 1),(4,qp 2),(6, .ptr 2 2),(9,qi r49)]⟩) (fun y64=>⟨[[ql 1 cS y64.1,qi y64.2.1,qb y64.2.2.1],[qi 0,qi 0,qi 0,qi 0,qi 0,qs [],qb false,qb false,qi 0,qi 0,qn,qn,qn,qi 0,qi 0,qi 0,qn,qb false,qn,qn,qs [],qs [],qn,qn,qn,qi 0,qi 0,qi 0,qi 0,qi 0,qi 0,qb false,qb false,qi 0,qi 0,qi 0,qi 0,qn,qi 0,qs [],qi 0,qn,qb false,qb false,qb false,qn,qi 0,qb false,qn,qn],[qi 1,qi r1.1,qi y27,qi r50.1,qi y56.2.2.2,qs [],qb false,qb false,qi 0,qi 0,qn,qn,qn,qi 0,qi 0,qi 0,qn,qb false,qn,qn,qs [],qs [],qn,qn,qn,qi y64.2.2.2,qi 0,qi 0,qi 0,qi 0,qi 0,qb false,qb (r2.1==([104,105,100,101]:C4)),qi 0,qi 0,qi 0,qi 0,qn,qi 0,qs [],qi 0,qn,qb false,qb false,qb false,qn,qi 0,qb false,qn,qn]],[]⟩) (fun y64=>bFL (bEL fun r66 hr66=>xC zI (kCL 2 A5 (zP hr66) edL)<|jnL A4)<|jnL A4) fun y64=>rgL<|cuL (fun y74=>⟨186,[(0,qp 0),(2,qp 1),(4,qp 2),(6, .ptr 2 2),(9,qi r49)]⟩) (fun y74=>⟨[[ql 1 cS y74.1,qi y74.2.1,qb y74.2.2.1],[qi 0,qi 0,qi 0,qi 0,qi 0,qs [],qb false,qb false,qi 0,qi 0,qn,qn,qn,qi 0,qi 0,qi 0,qn,qb false,qn,qn,qs [],qs [],qn,qn,qn,qi 0,qi 0,qi 0,qi 0,qi 0,qi 0,qb false,qb false,qi 0,qi 0,qi 0,qi 0,qn,qi 0,qs [],qi 0,qn,qb false,qb false,qb false,qn,qi 0,qb false,qn,qn],[qi 1,qi r1.1,qi y27,qi r50.1,qi y56.2.2.2,qs [],qb false,qb false,qi 0,qi 0,qn,qn,qn,qi 0,qi 0,qi 0,qn,qb false,qn,qn,qs [],qs [],qn,qn,qn,qi y64.2.2.2,qi y74.2.2.2.1,qi y74.2.2.2.2,qi 0,qi 0,qi 0,qb false,qb (r2.1==([104,105,100,101]:C4)),qi 0,qi 0,qi 0,qi 0,qn,qi 0,qs [],qi 0,qn,qb false,qb false,qb false,qn,qi 0,qb false,qn,qn]],[]⟩) (fun y74=>bFL (bEL fun r76 hr76=>bEL fun r77 hr77=>xC zI (kCL 3 A5 (zP hr76)<|kCL 5 A5 (zP hr77) edL)<|jnL A4)<|jnL A4) fun y74=>rgL<|cuL (fun y91=>⟨186,[(0,qp 0),(2,qp 1),(4,qp 2),(6, .ptr 2 2),(9,qi r49)]⟩) (fun y91=>⟨[[ql 1 cS y91.1,qi y91.2.1,qb y91.2.2.1],[qi 0,qi 0,qi 0,qi 0,qi 0,qs [],qb false,qb false,qi 0,qi 0,qn,qn,qn,qi 0,qi 0,qi 0,qn,qb false,qn,qn,qs [],qs [],qn,qn,qn,qi 0,qi 0,qi 0,qi 0,qi 0,qi 0,qb false,qb false,qi 0,qi 0,qi 0,qi 0,qn,qi 0,qs [],qi 0,qn,qb false,qb false,qb false,qn,qi 0,qb false,qn,qn],[qi 1,qi r1.1,qi y27,qi r50.1,qi y56.2.2.2,qs [],qb false,qb false,qi 0,qi 0,qn,qn,qn,qi 0,qi 0,qi 0,qn,qb false,qn,qn,qs [],qs [],qn,qn,qn,qi y64.2.2.2,qi y74.2.2.2.1,qi y74.2.2.2.2,qi y91.2.2.2.1,qi y91.2.2.2.2.1,qi y91.2.2.2.2.2.1,qb y91.2.2.2.2.2.2,qb (r2.1==([104,105,100,101]:C4)),qi 0,qi 0,qi 0,qi 0,qn,qi 0,qs [],qi 0,qn,qb false,qb false,qb false,qn,qi 0,qb false,qn,qn]],[]⟩) (fun y91=>bFL (bEL fun r93 hr93=>bEL fun r94 hr94=>bEL fun r95 hr95=>rCL (kCL 4 A5 (zP hr93)<|kCL 6 A5 (zP hr94)<|kCL 8 A5 (zP hr95) edL)<|bEL fun r96 hr96=>rCL (kCL 1 A5 (yL hr96) edL)<|rgL<|bEL fun y98 hE=>Gn hE zI ⟨186,[(0,qp 0),(2,qp 1),(4,qp 2),(6, .ptr 2 2),(9,qi r49)]⟩ ⟨[[ql 1 cS r96.2.f_l,qi r96.2.wB,qb y98],[qi 0,qi 0,qi 0,qi 0,qi 0,qs [],qb false,qb false,qi 0,qi 0,qn,qn,qn,qi 0,qi 0,qi 0,qn,qb false,qn,qn,qs [],qs [],qn,qn,qn,qi 0,qi 0,qi 0,qi 0,qi 0,qi 0,qb false,qb false,qi 0,qi 0,qi 0,qi 0,qn,qi 0,qs [],qi 0,qn,qb false,qb false,qb false,qn,qi 0,qb false,qn,qn],[qi 1,qi r1.1,qi y27,qi r50.1,qi y56.2.2.2,qs [],qb false,qb false,qi 0,qi 0,qn,qn,qn,qi 0,qi 0,qi 0,qn,qb false,qn,qn,qs [],qs [],qn,qn,qn,qi y64.2.2.2,qi y74.2.2.2.1,qi y74.2.2.2.2,qi r93.1,qi r94.1,qi r95.1,qb (r96.1==([102,111,114,101,105,103,110]:C4)),qb (r2.1==([104,105,100,101]:C4)),qi 0,qi 0,qi 0,qi 0,qn,qi 0,qs [],qi 0,qn,qb false,qb false,qb false,qn,qi 0,qb false,qn,qn]],[]⟩ (gFL 6 129 (eJ A4)<|gFL 9 132 (eJ A4)<|eJ A4)<|jnL A4)<|jnL A4) fun y91=>rgL<|cuL (fun y104=>⟨186,[(0,qp 0),(2,qp 1),(4,qp 2),(6, .ptr 2 2),(9,qi r49)]⟩) (fun y104=>⟨[[ql 1 cS y104.1,qi y104.2.1,qb y104.2.2.1],[qi 0,qi 0,qi 0,qi 0,qi 0,qs [],qb false,qb false,qi 0,qi 0,qn,qn,qn,qi 0,qi 0,qi 0,qn,qb false,qn,qn,qs [],qs [],qn,qn,qn,qi 0,qi 0,qi 0,qi 0,qi 0,qi 0,qb false,qb false,qi 0,qi 0,qi 0,qi 0,qn,qi 0,qs [],qi 0,qn,qb false,qb false,qb false,qn,qi 0,qb false,qn,qn],[qi 1,qi r1.1,qi y27,qi r50.1,qi y56.2.2.2,qs y104.2.2.2,qb false,qb false,qi 0,qi 0,qn,qn,qn,qi 0,qi 0,qi 0,qn,qb false,qn,qn,qs [],qs [],qn,qn,qn,qi y64.2.2.2,qi y74.2.2.2.1,qi y74.2.2.2.2,qi y91.2.2.2.1,qi y91.2.2.2.2.1,qi y91.2.2.2.2.2.1,qb y91.2.2.2.2.2.2,qb (r2.1==([104,105,100,101]:C4)),qi 0,qi 0,qi 0,qi 0,qn,qi 0,qs [],qi 0,qn,qb false,qb false,qb false,qn,qi 0,qb false,qn,qn]],[]⟩) (fun y104=>bFL (bEL fun r106 hr106=>xC zI (kCL 2 A5 (wC hr106) edL)<|jnL A4)<|jnL A4) fun y104=>rgL<|rgL<|cuL (fun y112=>⟨186,[(0,qp 0),(2,qp 1),(4,qp 2),(6, .ptr 2 2),(9,qi r49),(11,qs y112.1)]⟩) (fun y112=>⟨[[ql 1 cS y112.2.1,qi y112.2.2.1,qb y112.2.2.2],[qi 0,qi 0,qi 0,qi 0,qi 0,qs [],qb false,qb false,qi 0,qi 0,qn,qn,qn,qi 0,qi 0,qi 0,qn,qb false,qn,qn,qs [],qs [],qn,qn,qn,qi 0,qi 0,qi 0,qi 0,qi 0,qi 0,qb false,qb false,qi 0,qi 0,qi 0,qi 0,qn,qi 0,qs [],qi 0,qn,qb false,qb false,qb false,qn,qi 0,qb false,qn,qn],[qi 1,qi r1.1,qi y27,qi r50.1,qi y56.2.2.2,qs y104.2.2.2,qb false,qb false,qi 0,qi 0,qn,qn,qn,qi 0,qi 0,qi 0,qn,qb false,qn,qn,qs [],qs [],qn,qn,qn,qi y64.2.2.2,qi y74.2.2.2.1,qi y74.2.2.2.2,qi y91.2.2.2.1,qi y91.2.2.2.2.1,qi y91.2.2.2.2.2.1,qb y91.2.2.2.2.2.2,qb (r2.1==([104,105,100,101]:C4)),qi 0,qi 0,qi 0,qi 0,qn,qi 0,qs [],qi 0,qn,qb false,qb false,qb false,qn,qi 0,qb false,qn,qn]],[]⟩) (fun y112=>bFL (bEL fun r114 hr114=>xC zI (kCL 1 A5 (wC hr114) edL)<|jnL A4)<|jnL A4) fun y112=>bEL fun r115 hr115=>rCL (kCL 1 A5 (jo hr115) edL)<|bFL (rgL<|zg<|rJ A5)<|rgL<|bFL (rgL<|zg<|rJ A5)<|bEL fun r116 hr116=>rCL (kCL 1 Aa (ZQ hr116) edL)<|rgL<|bFL (rgL<|zg<|rJ A5)<|bEL fun r117 hr117=>rCL (kCL 1 Aa (bQ hr117) edL)<|rgL<|bFL (rgL<|zg<|rJ A5) nEL
def xN (n:Nat)(r2:List C4):Nat→(List Int)→Int→Bool→Option ((List Int)×Bool)
 |0,_,_,_=>none
 | k+1,v52,v53,v54=>
  if(decide (v53<(r2.length:Int)))=true then((xe r2 v53).bind fun x70=>
  (vd n x70 false).bind fun r71=>
  (if v54=true then(some true)else(if(!r71.2)=true then(some true)else(some (decide (r71.1>4611686018427387904))))).bind fun y73=>
  (jO 8 v52 ([r71.1]:List Int)).bind fun x74=>
  xN n r2 k x74 (wrap .i64 (v53+1)) y73)else(some (v52,v54))
def xn (n:Nat)(m0:ze):Option ((List Int)×ze):=
 (zT n m0).bind fun r1=>
 if(r1.1==([45]:C4))=true then(some (([]:List Int),r1.2))else((xh n r1.1 44).bind fun r2=>
 (xN n r2 n ([]:List Int) 0 r1.2.zG).bind fun y39=>
 some (y39.1,(ze.mk r1.2.f_l r1.2.wB y39.2)))
theorem qX {n:Nat} {m0:ze} {r:((List Int)×ze)}:xn n m0=some r→AC mx 57 [qp 0] [ze.cells m0] (ql 1 (cI .i64) r.1) [ze.cells r.2]:=by
 delta xn
 exact fnL Tryz.func57 rfl<|rgL<|bEL fun r1 hr1=>rCL (kCL 1 O (yL hr1) edL)<|rgL<|bFL (rgL<|zg<|rJ O)<|rgL<|bEL fun r2 hr2=>rCL (kCL 1 A0 (vB hr2) edL)<|rgL<|blL (fun y39=>⟨49,[(4, .sl 1 (List.map (cI .i64) y39.1) (.fam 0 (y39.1.length)))]⟩) (fun y39=>⟨[[ql 1 cS r1.2.f_l,qi r1.2.wB,qb y39.2]],[y39.1.length]⟩) (fun y39=>w7 (wk (fr':=⟨49,[(0,qp 0),(4,qn),(5,ql 1 cS r2),(6,qi 0)]⟩) (st':=⟨[ze.cells r1.2],[]⟩) O)<|w7 Wk.nilFam<|lpL (fun k x=>xN n r2 k x.1 x.2.1 x.2.2) (([]:List Int),0,r1.2.zG) A7 (fun x=>⟨49,[(0,qp 0),(4, .sl 1 (List.map (cI .i64) x.1) (.fam 0 (x.1.length))),(5,ql 1 cS r2),(6,qi x.2.1)]⟩) (fun x=>⟨[[ql 1 cS r1.2.f_l,qi r1.2.wB,qb x.2.2]],[x.1.length]⟩) fun k x=>by obtain⟨v52,v53,v54⟩:=x; rw [xN]; exact rCL (kPL 2 (yg (c:=cS) (l:=r2) (e:=9) (sz:=1) (sz':=1) (b:=16) (tok:= .none)) edL)<|bFL (zY<|bEL fun x70 hx70=>bEL fun r71 hr71=>rCL (kPL 2 (zR (c:=cS) (e:=9) (sz:=1) (b:=16) (tok:= .none) hx70)<|kCL 4 Aq (bk hr71) edL)<|bEL fun y73 hE=>rgF hE ⟨49,[(0,qp 0),(4, .sl 1 (List.map (cI .i64) v52) (.fam 0 (v52.length))),(5,ql 1 cS r2),(6,qi v53),(7,qi r71.1)]⟩ ⟨[[ql 1 cS r1.2.f_l,qi r1.2.wB,qb y73]],[v52.length]⟩ (gFL 6 34 (eJ A7)<|gFL 10 38 (eJ A7)<|eJ A7)<|bEL fun x74 hx74=>xC yF (lfL (fun z=>kA 3 0 (cI .i64) (e:=3) (e2:=3) (sz:=1) (bytes:=8) (b2:=8) (tok2:= .exact) hx74 z) edL)<|z8<|xi zI fun h=>⟨(x74,wrap .i64 (v53+1),y73),h,wk A7⟩)<|zW<|zS<|zN<|jnL A7) fun y39=>rgL<|zg<|rJ C1
def uU (n:Nat)(rc:zd→Int→Option Int)(a1:Int):Nat→C4→Option (Ctl Int Unit)
 |0,_=>none
 | k+1,v21=>
  if(decide ((v21.length:Int)>0))=true then((uZ n v21).bind fun r28=>
  if(r28.2.2 !=0)=true then(some (.ret r28.2.2))else(if(decide ((wrap .i64 (a1+1))≥16))=true then(some (.ret 8))else((rc r28.1 (wrap .i64 (a1+1))).bind fun r29=>
  if(r29 !=0)=true then(some (.ret r29))else(uU n rc a1 k r28.2.1))))else(some (.nxt ()))
def vq (n:Nat):Nat→zd→Int→Option Int
 |0,_,_=>none
 | kk+1,a0,a1=>
  if((Int.tmod (wrap .i64 (Int.tdiv a0.p0 32)) 2)==0)=true then(some 0)else(yM (uU n (vq n kk) a1 n a0.wJ) (fun r=>some r) (fun y14=>
  some 0))
theorem Zl {n:Nat}:∀(kk:Nat) {a0:zd} {a1:Int} {r:Int} (_:vq n kk a0 a1=some r),AC mx 348 [.agg (zd.cells a0),qi a1] [] (qi r) []:=by
 intro kk
 induction kk with
 |zero=>intro a0 a1 r h; simp [vq]at h
 | succ kk ih=>
  intro a0 a1 r h
  rw [vq]at h
  exact imA h<|fnL Tryz.func348 rfl<|rgL<|rgL<|bFL (rgL<|zg<|rJ A0)<|rgL<|bcL (fun _=>⟨40,[]⟩) (fun _=>⟨[],[]⟩) (fun o15 hr16=>lpL (fun k x=>uU n (vq n kk) a1 k x) a0.wJ A0 (fun x=>⟨40,[(1,qi a1),(5,qs x)]⟩) (fun x=>⟨[],[]⟩) fun k v21=>by rw [uU]; exact rgL<|bFL (zY<|bEL fun r28 hr28=>rCL (kCL 1 J (qE hr28) edL)<|rgL<|bFL (rgL<|zg<|yi<|yb<|hvL hr16<|zK<|rJ A0)<|rgL<|bFL (rgL<|zg<|yi<|yb<|hvL hr16<|zK<|rJ A0)<|bEL fun r29 hr29=>rCL (kCL 3 A0 (ih hr29) edL)<|rgL<|bFL (rgL<|zg<|yi<|yb<|hvL hr16<|zK<|rJ A0)<|xi (dq (P:=Tryz.prog) (gl:=gl0 mx) zI)<|z8 fun h=>⟨r28.2.1,h,wk A0⟩)<|zW<|zS<|zN<|jCL J) fun y14=>rgL<|zg<|rJ J
def kn (n:Nat)(a0:C4):Option Int:=
 (js n a0).bind fun r1=>
 if(r1.2 !=0)=true then(some r1.2)else((vq n n r1.1 0).bind fun r2=>
 some r2)
theorem Ze {n:Nat} {a0:C4} {r:Int}:kn n a0=some r→AC mx 250 [qs a0] [] (qi r) []:=by
 delta kn
 exact fnL Tryz.func250 rfl<|rgL<|bEL fun r1 hr1=>rCL (kCL 1 J (qR hr1) edL)<|rgL<|bFL (rgL<|zg<|rJ A0)<|bEL fun r2 hr2=>rCL (kCL 1 A0 (Zl _ hr2) edL)<|zg<|rJ A0
def kq (n:Nat)(a0:C4):Option (zd×Int):=
 (kn n a0).bind fun r1=>
 if(r1 !=0)=true then(some ((zd.mk 0 ([]:C4) ([]:C4)),r1))else((js n a0).bind fun r2=>
 some (r2.1,r2.2))
theorem Zn {n:Nat} {a0:C4} {r:(zd×Int)}:kq n a0=some r→AC mx 123 [qs a0] [] (.tuple [.agg (zd.cells r.1),qi r.2]) []:=by
 delta kq
 exact fnL Tryz.func123 rfl<|rgL<|bEL fun r1 hr1=>rCL (kCL 1 A0 (Ze hr1) edL)<|rgL<|bFL (rgL<|zg<|rJ A0)<|bEL fun r2 hr2=>rCL (kCL 1 A0 (qR hr2) edL)<|zg<|rJ A0
def bc (n:Nat)(a0:zd)(a1:Int):Option zp:=
 (vH n a0.wJ).bind fun r1=>
 (if(a0.p0 !=a1)=true then(some true)else(some (r1.2 !=0))).bind fun y3=>
 some (zp.mk r1.1 0 y3)
theorem ZH {n:Nat} {a0:zd} {a1:Int} {r:zp}:bc n a0 a1=some r→AC mx 124 [.agg (zd.cells a0),qi a1] [] (qp 0) [zp.cells r]:=by
 delta bc
 exact fnL Tryz.func124 rfl<|rgL<|rgL<|bEL fun r1 hr1=>rCL (kCL 2 A1 (jj hr1) edL)<|rgL<|bEL fun y3 hE=>rgF hE ⟨36,[(5,qp 0)]⟩ ⟨[[ql 3 zd.cells r1.1,qi 0,qb y3]],[]⟩ (gFL 6 29 (eJ Ab)<|eJ Ab)<|rgL<|zg<|rJ O
def uz (n:Nat)(a0:C4):Nat→Int→Int→Option (Ctl Int Int)
 |0,_,_=>none
 | k+1,v47,v48=>
  if(decide (v48<(a0.length:Int)))=true then(((xD a0 v48).bind fun x64=>
  if(decide (x64<48))=true then(some true)else((xD a0 v48).bind fun x65=>
  some (decide (x65>57)))).bind fun y67=>
  if y67=true then(some (.ret (-1)))else((xD a0 v48).bind fun x68=>
  uz n a0 k (wrap .i64 ((wrap .i64 ((10:Int)*v47))+(wrap .i64 (wrap .u8 (x68-48))))) (wrap .i64 (v48+1))))else(some (.nxt v47))
def xE (n:Nat)(a0:C4):Option Int:=
 yM (uz n a0 n 0 0) (fun r=>some r) (fun y34=>
 some y34)
theorem xP {n:Nat} {a0:C4} {r:Int}:xE n a0=some r→AC mx 251 [qs a0] [] (qi r) []:=by
 delta xE
 exact fnL Tryz.func251 rfl<|rgL<|rgL<|rgL<|bcL (fun y34=>⟨30,[(3,qi y34)]⟩) (fun y34=>⟨[],[]⟩) (fun o35 hr36=>lpL (fun k x=>uz n a0 k x.1 x.2) (0,0) J (fun x=>⟨30,[(0,qs a0),(3,qi x.1),(4,qi x.2)]⟩) (fun x=>⟨[],[]⟩) fun k x=>by obtain⟨v47,v48⟩:=x; rw [uz]; exact rgL<|bFL (zY<|bEL fun y67 hE=>rgF hE ⟨30,[(0,qs a0),(3,qi v47),(4,qi v48),(20,qb y67)]⟩ ⟨[],[]⟩ (bEL fun x64 hx64=>kPL 2 (zZ hx64)<|gFL 5 15 (eJ J)<|bEL fun x65 hx65=>kPL 7 (zZ hx65)<|eJ J)<|bFL (rgL<|zg<|yi<|yb<|hvL hr36<|zK<|rJ J)<|bEL fun x68 hx68=>xC yF (kPL 4 (zZ hx68) edL)<|z8<|xi zI fun h=>⟨(wrap .i64 ((wrap .i64 ((10:Int)*v47))+(wrap .i64 (wrap .u8 (x68-48)))),wrap .i64 (v48+1)),h,wk J⟩)<|zW<|zS<|zN<|jCL J) fun y34=>rgL<|zg<|rJ J
def qh (n:Nat)(a0 a1:Int):Option Int:=
 (if(a1==2)=true then(if((Int.tmod a0 4)==0)=true then(if((Int.tmod a0 100) !=0)=true then(some true)else(some ((Int.tmod a0 400)==0)))else(some false))else(some false)).bind fun y2=>
 if y2=true then(some 29)else((xe ([31,28,31,30,31,30,31,31,30,31,30,31]:List Int) (wrap .i64 (a1-1))).bind fun x3=>
 some x3)
theorem b7 {n:Nat} {a0:Int} {a1:Int} {r:Int}:qh n a0 a1=some r→AC mx 349 [qi a0,qi a1] [] (qi r) []:=by
 delta qh
 exact fnL Tryz.func349 rfl<|rgL<|bEL fun y2 hE=>rgF hE ⟨27,[(1,qi a1),(21,qb y2)]⟩ ⟨[],[]⟩ (gFL 3 7 (gFL 8 12 (gFL 12 16 (eJ J)<|eJ J)<|eJ J)<|eJ J)<|bFL (rgL<|zg<|rJ J)<|bEL fun x3 hx3=>rCL (kPL 3 (zR (c:=(cI .i64)) (e:=3) (sz:=1) (b:=8) (tok:= .exact) hx3) edL)<|zg<|rJ J
def q7 (n:Nat)(a0:Int):Option Int:=
 some (wrap .i64 ((wrap .i64 ((wrap .i64 ((365:Int)*(wrap .i64 (a0-1950))))+(wrap .i64 ((wrap .i64 ((wrap .i64 (Int.tdiv (wrap .i64 (a0-1)) 4))-(wrap .i64 (Int.tdiv (wrap .i64 (a0-1)) 100))))+(wrap .i64 (Int.tdiv (wrap .i64 (a0-1)) 400))))))-472))
theorem pN {n:Nat} {a0:Int} {r:Int}:q7 n a0=some r→AC mx 350 [qi a0] [] (qi r) []:=by
 delta q7
 exact fnL Tryz.func350 rfl<|rgL<|rgL<|rgL<|zg<|rJ J
def ue (n:Nat)(a0:wd):Nat→Int→Int→Option Int
 |0,_,_=>none
 | k+1,v18,v19=>
  if(decide (v19<a0.pr))=true then((qh n a0.pP v19).bind fun r23=>
  ue n a0 k (wrap .i64 (v18+r23)) (wrap .i64 (v19+1)))else(some v18)
def qF (n:Nat)(a0:wd):Option (Int×Int):=
 (if(decide (a0.pP<1950))=true then(some true)else(if(decide (a0.pP>9999))=true then(some true)else(if(decide (a0.pr<1))=true then(some true)else(if(decide (a0.pr>12))=true then(some true)else(if(decide (a0.YO<1))=true then(some true)else((qh n a0.pP a0.pr).bind fun r1=>
 if(decide (a0.YO>r1))=true then(some true)else(if(decide (a0.XE<0))=true then(some true)else(if(decide (a0.XE>23))=true then(some true)else(if(decide (a0.pK<0))=true then(some true)else(if(decide (a0.pK>59))=true then(some true)else(if(decide (a0.pY<0))=true then(some true)else(some (decide (a0.pY>59)))))))))))))).bind fun y3=>
 if y3=true then(some (0,12))else((q7 n a0.pP).bind fun r4=>
 (ue n a0 n (wrap .i64 ((wrap .i64 (r4+a0.YO))-1)) 1).bind fun y14=>
 some (wrap .i64 ((wrap .i64 ((wrap .i64 ((wrap .i64 ((86400:Int)*y14))+(wrap .i64 ((3600:Int)*a0.XE))))+(wrap .i64 ((60:Int)*a0.pK))))+a0.pY),0))
theorem py {n:Nat} {a0:wd} {r:(Int×Int)}:qF n a0=some r→AC mx 252 [.agg (wd.cells a0)] [] (.tuple [qi r.1,qi r.2]) []:=by
 delta qF
 exact fnL Tryz.func252 rfl<|rgL<|bEL fun y3 hE=>lfL (fun z=>drw [0,1,2,3,4,5,6,7,8,9,10,11,12,13,14,15,16,17,18,19,20,21,22,23,24,25,26,27,28,29,30,31,32,33,34,35,36,37,38,39,40,41,42,43,44,45,46,47,48,49,50,51,52,53,54,55,56,57,58,59,60,61,62] [30] [[],[0],[0,1],[0,1,2],[0,1,2,3],[0,1,2,3,4],[0,1,2,3,4,5],[0,1,2,3,4,5,6],[0,1,2,3,4,5,6,7],[0,1,2,3,4,5,6,7,8],[0,1,2,3,4,5,6,7,8,9],[0,1,2,3,4,5,6,7,8,9,10],[0,1,2,3,4,5,6,7,8,9,10,11],[0,1,2,3,4,5,6,7,8,9,10,11,12],[0,1,2,3,4,5,6,7,8,9,10,11,12,13],[0,1,2,3,4,5,6,7,8,9,10,11,12,13,14],[0,1,2,3,4,5,6,7,8,9,10,11,12,13,14,15],[0,1,2,3,4,5,6,7,8,9,10,11,12,13,14,15,16],[0,1,2,3,4,5,6,7,8,9,10,11,12,13,14,15,16,17],[0,1,2,3,4,5,6,7,8,9,10,11,12,13,14,15,16,17,18],[0,1,2,3,4,5,6,7,8,9,10,11,12,13,14,15,16,17,18,19],[0,1,2,3,4,5,6,7,8,9,10,11,12,13,14,15,16,17,18,19,20],[0,1,2,3,4,5,6,7,8,9,10,11,12,13,14,15,16,17,18,19,20,21],[0,1,2,3,4,5,6,7,8,9,10,11,12,13,14,15,16,17,18,19,20,21,22],[0,1,2,3,4,5,6,7,8,9,10,11,12,13,14,15,16,17,18,19,20,21,22,23],[0,1,2,3,4,5,6,7,8,9,10,11,12,13,14,15,16,17,18,19,20,21,22,23,24],[0,1,2,3,4,5,6,7,8,9,10,11,12,13,14,15,16,17,18,19,20,21,22,23],[0,1,2,3,4,5,6,7,8,9,10,11,12,13,14,15,16,17,18,19,20,21,22,23,26],[0,1,2,3,4,5,6,7,8,9,10,11,12,13,14,15,16,17,18,19,20,21,22,23],[0,1,2,3,4,5,6,7,8,9,10,11,12,13,14,15,16,17,18,19,20,21,22,23,28],[0,1,2,3,4,5,6,7,8,9,10,11,12,13,14,15,16,17,18,19,20,21,22,23,26,27,28,29],[0,1,2,3,4,5,6,7,8,9,10,11,12,13,14,15,16,17,18,19,20,21,22,23,24,25,26,27,28,29,30],[0,1,2,3,4,5,6,7,8,9,10,11,12,13,14,15,16,17,18,19,20,21,22,23,24,25,26,27,28,29,30,31],[0,1,2,3,4,5,6,7,8,9,10,11,12,13,14,15,16,17,18,19,20,21,22,23,24,25,26,27,28,29,30,31,32],[0,1,2,3,4,5,6,7,8,9,10,11,12,13,14,15,16,17,18,19,20,21,22,23,24,25,26,27,28,29,30,31,32,33],[0,1,2,3,4,5,6,7,8,9,10,11,12,13,14,15,16,17,18,19,20,21,22,23,24,25,26,27,28,29,30,31,32,33,34],[0,1,2,3,4,5,6,7,8,9,10,11,12,13,14,15,16,17,18,19,20,21,22,23,24,25,26,27,28,29,30,31,32,33,34,35],[0,1,2,3,4,5,6,7,8,9,10,11,12,13,14,15,16,17,18,19,20,21,22,23,24,25,26,27,28,29,30,31,32,33,34,35,36],[0,1,2,3,4,5,6,7,8,9,10,11,12,13,14,15,16,17,18,19,20,21,22,23,24,25,26,27,28,29,30,31,32,33,34,35,36,37],[0,1,2,3,4,5,6,7,8,9,10,11,12,13,14,15,16,17,18,19,20,21,22,23,24,25,26,27,28,29,30,31,32,33,34,35,36,37,38],[0,1,2,3,4,5,6,7,8,9,10,11,12,13,14,15,16,17,18,19,20,21,22,23,24,25,26,27,28,29,30,31,32,33,34,35,36,37,38,39],[0,1,2,3,4,5,6,7,8,9,10,11,12,13,14,15,16,17,18,19,20,21,22,23,24,25,26,27,28,29,30,31,32,33,34,35,36,37,38,39,40],[0,1,2,3,4,5,6,7,8,9,10,11,12,13,14,15,16,17,18,19,20,21,22,23,24,25,26,27,28,29,30,31,32,33,34,35,36,37,38,39,40,41],[0,1,2,3,4,5,6,7,8,9,10,11,12,13,14,15,16,17,18,19,20,21,22,23,24,25,26,27,28,29,30,31,32,33,34,35,36,37,38,39,40,41,42],[0,1,2,3,4,5,6,7,8,9,10,11,12,13,14,15,16,17,18,19,20,21,22,23,24,25,26,27,28,29,30,31,32,33,34,35,36,37,38,39,40,41,42,43],[0,1,2,3,4,5,6,7,8,9,10,11,12,13,14,15,16,17,18,19,20,21,22,23,24,25,26,27,28,29,30,31,32,33,34,35,36,37,38,39,40,41,42,43,44],[0,1,2,3,4,5,6,7,8,9,10,11,12,13,14,15,16,17,18,19,20,21,22,23,24,25,26,27,28,29,30,31,32,33,34,35,36,37,38,39,40,41,42,43,44,45],[0,1,2,3,4,5,6,7,8,9,10,11,12,13,14,15,16,17,18,19,20,21,22,23,24,25,26,27,28,29,30,31,32,33,34,35,36,37,38,39,40,41,42,43,44,45,46],[0,1,2,3,4,5,6,7,8,9,10,11,12,13,14,15,16,17,18,19,20,21,22,23,24,25,26,27,28,29,30,31,32,33,34,35,36,37,38,39,40,41,42,43,44,45,46,47],[0,1,2,3,4,5,6,7,8,9,10,11,12,13,14,15,16,17,18,19,20,21,22,23,24,25,26,27,28,29,30,31,32,33,34,35,36,37,38,39,40,41,42,43,44,45,46,47,48],[0,1,2,3,4,5,6,7,8,9,10,11,12,13,14,15,16,17,18,19,20,21,22,23,24,25,26,27,28,29,30,31,32,33,34,35,36,37,38,39,40,41,42,43,44,45,46,47,48,49],[0,1,2,3,4,5,6,7,8,9,10,11,12,13,14,15,16,17,18,19,20,21,22,23,24,25,26,27,28,29,30,31,32,33,34,35,36,37,38,39,40,41,42,43,44,45,46,47,48,49,50],[0,1,2,3,4,5,6,7,8,9,10,11,12,13,14,15,16,17,18,19,20,21,22,23,24,25,26,27,28,29,30,31,32,33,34,35,36,37,38,39,40,41,42,43,44,45,46,47,48,49,50,51],[0,1,2,3,4,5,6,7,8,9,10,11,12,13,14,15,16,17,18,19,20,21,22,23,24,25,26,27,28,29,30,31,32,33,34,35,36,37,38,39,40,41,42,43,44,45,46,47,48,49,50,51,52],[0,1,2,3,4,5,6,7,8,9,10,11,12,13,14,15,16,17,18,19,20,21,22,23,24,25,26,27,28,29,30,31,32,33,34,35,36,37,38,39,40,41,42,43,44,45,46,47,48,49,50,51,52,53],[0,1,2,3,4,5,6,7,8,9,10,11,12,13,14,15,16,17,18,19,20,21,22,23,24,25,26,27,28,29,30,31,32,33,34,35,36,37,38,39,40,41,42,43,44,45,46,47,48,49,50,51,52,53,54],[0,1,2,3,4,5,6,7,8,9,10,11,12,13,14,15,16,17,18,19,20,21,22,23,24,25,26,27,28,29,30,31,32,33,34,35,36,37,38,39,40,41,42,43,44,45,46,47,48,49,50,51,52,53,54,55],[0,1,2,3,4,5,6,7,8,9,10,11,12,13,14,15,16,17,18,19,20,21,22,23,24,25,26,27,28,29,30,31,32,33,34,35,36,37,38,39,40,41,42,43,44,45,46,47,48,49,50,51,52,53,54,55,56],[0,1,2,3,4,5,6,7,8,9,10,11,12,13,14,15,16,17,18,19,20,21,22,23,24,25,26,27,28,29,30,31,32,33,34,35,36,37,38,39,40,41,42,43,44,45,46,47,48,49,50,51,52,53,54,55,56,57],[0,1,2,3,4,5,6,7,8,9,10,11,12,13,14,15,16,17,18,19,20,21,22,23,24,25,26,27,28,29,30,31,32,33,34,35,36,37,38,39,40,41,42,43,44,45,46,47,48,49,50,51,52,53,54,55,56,57,58],[0,1,2,3,4,5,6,7,8,9,10,11,12,13,14,15,16,17,18,19,20,21,22,23,24,25,26,27,28,29,30,31,32,33,34,35,36,37,38,39,40,41,42,43,44,45,46,47,48,49,50,51,52,53,54,55,56,57,58,59],[0,1,2,3,4,5,6,7,8,9,10,11,12,13,14,15,16,17,18,19,20,21,22,23,24,25,26,27,28,29,30,31,32,33,34,35,36,37,38,39,40,41,42,43,44,45,46,47,48,49,50,51,52,53,54,55,56,57,58,59,60],[0,1,2,3,4,5,6,7,8,9,10,11,12,13,14,15,16,17,18,19,20,21,22,23,24,25,26,27,28,29,30,31,32,33,34,35,36,37,38,39,40,41,42,43,44,45,46,47,48,49,50,51,52,53,54,55,56,57,58,59,60,61]] ⟨101,[(1,qp 0),(68,qb y3)]⟩ ⟨[wd.cells a0],[]⟩ (have h:=hE; dS [0,1,2,3]<|hF 9 h (fun h=>dS [4,5,6,7,8,9,10,11,12,13,14,15,16,17,18,19,20,21,22,23,24,25,26,27,28,29]<|dF yU<|dS [31,32,33,34,35,36,37,38,39,40,41,42,43,44,45,46,47,48,49,50,51,52,53,54,55,56,57,58,59,60,61,62]<|by cases h; exact dE O) fun h=>dS [4,5,6,7,8]<|hF 14 h (fun h=>dS [9,10,11,12,13,14,15,16,17,18,19,20,21,22,23,24,25,26,27,28,29]<|dF yU<|dS [31,32,33,34,35,36,37,38,39,40,41,42,43,44,45,46,47,48,49,50,51,52,53,54,55,56,57,58,59,60,61,62]<|by cases h; exact dE O) fun h=>dS [9,10,11,12,13]<|hF 19 h (fun h=>dS [14,15,16,17,18,19,20,21,22,23,24,25,26,27,28,29]<|dF yU<|dS [31,32,33,34,35,36,37,38,39,40,41,42,43,44,45,46,47,48,49,50,51,52,53,54,55,56,57,58,59,60,61,62]<|by cases h; exact dE O) fun h=>dS [14,15,16,17,18]<|hF 24 h (fun h=>dS [19,20,21,22,23,24,25,26,27,28,29]<|dF yU<|dS [31,32,33,34,35,36,37,38,39,40,41,42,43,44,45,46,47,48,49,50,51,52,53,54,55,56,57,58,59,60,61,62]<|by cases h; exact dE O) fun h=>dS [19,20,21,22,23]<|hF 29 h (fun h=>dS [24,25,26,27,28,29]<|dF yU<|dS [31,32,33,34,35,36,37,38,39,40,41,42,43,44,45,46,47,48,49,50,51,52,53,54,55,56,57,58,59,60,61,62]<|by cases h; exact dE O) fun h=>bE h fun r1 hr1 h=>dS [24,25,26,27,28,29]<|dC yU A0 (b7 hr1)<|dS [31,32,33]<|hF 39 h (fun h=>dS [34,35,36,37,38,39,40,41,42,43,44,45,46,47,48,49,50,51,52,53,54,55,56,57,58,59,60,61,62]<|by cases h; exact dE O) fun h=>dS [34,35,36,37,38]<|hF 44 h (fun h=>dS [39,40,41,42,43,44,45,46,47,48,49,50,51,52,53,54,55,56,57,58,59,60,61,62]<|by cases h; exact dE O) fun h=>dS [39,40,41,42,43]<|hF 49 h (fun h=>dS [44,45,46,47,48,49,50,51,52,53,54,55,56,57,58,59,60,61,62]<|by cases h; exact dE O) fun h=>dS [44,45,46,47,48]<|hF 54 h (fun h=>dS [49,50,51,52,53,54,55,56,57,58,59,60,61,62]<|by cases h; exact dE O) fun h=>dS [49,50,51,52,53]<|hF 59 h (fun h=>dS [54,55,56,57,58,59,60,61,62]<|by cases h; exact dE O) fun h=>dS [54,55,56,57,58]<|hF 64 h (fun h=>dS [59,60,61,62]<|by cases h; exact dE O) fun h=>dS [59,60,61,62]<|by cases h; exact dE O) z)<|bFL (rgL<|zg<|rJ A0)<|bEL fun r4 hr4=>lfL (fun z=>zs [0,1,3,4,2,5,6,7] [2] [[],[0],[0,1],[],[3],[0,1,2,3,4],[0,1,2,3,4,5],[0,1,2,3,4,5,6]] [] [(1,qp 0),(4,qi (wrap .i64 ((wrap .i64 (r4+a0.YO))-1)))] (dS [0,1,3,4]<|dC yU A0 (pN hr4)<|dS [5,6,7]<|dE O) z)<|rgL<|blL (fun y14=>⟨101,[(1,qp 0),(4,qi y14)]⟩) (fun y14=>⟨[wd.cells a0],[]⟩) (fun y14=>lpL (fun k x=>ue n a0 k x.1 x.2) (wrap .i64 ((wrap .i64 (r4+a0.YO))-1),1) O (fun x=>⟨101,[(1,qp 0),(4,qi x.1),(5,qi x.2)]⟩) (fun x=>⟨[wd.cells a0],[]⟩) fun k x=>by obtain⟨v18,v19⟩:=x; rw [ue]; exact rgL<|bFL (zY<|bEL fun r23 hr23=>xC yF (kCL 4 A0 (b7 hr23) edL)<|z8<|xi zI fun h=>⟨(wrap .i64 (v18+r23),wrap .i64 (v19+1)),h,wk O⟩)<|zW<|zS<|zN<|jnL O) fun y14=>rgL<|zg<|rJ A0
def jP (n:Nat)(a0:Int)(a1:C4):Option (Int×Int):=
 (if(a0 !=23)=true then(some (a0 !=24))else(some false)).bind fun y2=>
 if y2=true then(some (0,5))else((if(a0==24)=true then(some 4)else(some 2)).bind fun y4=>
 (if((a1.length:Int) !=(wrap .i64 (y4+11)))=true then(some true)else((xD a1 (wrap .i64 ((a1.length:Int)-1))).bind fun x6=>
 if(x6 !=90)=true then(some true)else((ssl a1 0 (wrap .i64 ((a1.length:Int)-1))).bind fun x7=>
 (xE n x7).bind fun r8=>
 some (decide (r8<0))))).bind fun y10=>
 if y10=true then(some (0,12))else((ssl a1 0 y4).bind fun x11=>
 (xE n x11).bind fun r12=>
 yM ((if(a0==24)=true then(some (decide (r12<2050)))else(some false)).bind fun y26=>
 if y26=true then(some (.ret (0,12)))else((if(a0==23)=true then(some (decide (r12≥50)))else(some false)).bind fun y28=>
 if y28=true then(some (.nxt (wrap .i64 (r12+1900))))else(if(a0==23)=true then(some (.nxt (wrap .i64 (r12+2000))))else(some (.nxt r12))))) (fun r=>some r) (fun y22=>
 (ssl a1 y4 (wrap .i64 (y4+2))).bind fun x29=>
 (ssl a1 (wrap .i64 (y4+2)) (wrap .i64 (y4+4))).bind fun x30=>
 (ssl a1 (wrap .i64 (y4+4)) (wrap .i64 (y4+6))).bind fun x31=>
 (ssl a1 (wrap .i64 (y4+6)) (wrap .i64 (y4+8))).bind fun x32=>
 (ssl a1 (wrap .i64 (y4+8)) (wrap .i64 (y4+10))).bind fun x33=>
 (xE n x29).bind fun r34=>
 (xE n x30).bind fun r35=>
 (xE n x31).bind fun r36=>
 (xE n x32).bind fun r37=>
 (xE n x33).bind fun r38=>
 (qF n (wd.mk y22 r34 r35 r36 r37 r38)).bind fun r39=>
 some (r39.1,r39.2))))
theorem dm {n:Nat} {a0:Int} {a1:C4} {r:(Int×Int)}:jP n a0 a1=some r→AC mx 125 [qi a0,qs a1] [] (.tuple [qi r.1,qi r.2]) []:=by
 delta jP
 exact fnL Tryz.func125 rfl<|rgL<|bEL fun y2 hE=>rgF hE ⟨102,[(0,qi a0),(1,qs a1),(13,qb y2)]⟩ ⟨[],[]⟩ (gFL 3 10 (eJ J)<|eJ J)<|bFL (rgL<|zg<|rJ J)<|rgL<|rgL<|cuL (fun y4=>⟨102,[(0,qi a0),(1,qs a1),(6,qi y4)]⟩) (fun y4=>⟨[],[]⟩) (fun y4=>bFL (xi zI<|jnL J)<|jnL J) fun y4=>bEL fun y10 hE=>rgF hE ⟨102,[(0,qi a0),(1,qs a1),(6,qi y4),(37,qb y10)]⟩ ⟨[],[]⟩ (gFL 6 21 (eJ J)<|bEL fun x6 hx6=>kPL 10 (zZ hx6)<|gFL 14 29 (eJ J)<|bEL fun x7 hx7=>bEL fun r8 hr8=>kPL 18 (vY (k:= .i64) hx7)<|kCL 19 J (xP hr8)<|eJ J)<|bFL (rgL<|zg<|rJ J)<|bEL fun x11 hx11=>bEL fun r12 hr12=>rCL (kPL 2 (vY (k:= .i64) hx11)<|kCL 3 J (xP hr12) edL)<|bcL (fun y22=>⟨102,[(1,qs a1),(6,qi y4),(7,qi y22)]⟩) (fun y22=>⟨[],[]⟩) (fun o23 hr24=>bEL fun y26 hE=>rgF hE ⟨102,[(0,qi a0),(1,qs a1),(6,qi y4),(7,qi r12),(42,qb y26)]⟩ ⟨[],[]⟩ (gFL 3 45 (eJ J)<|eJ J)<|bFL (rgL<|zg<|hvL hr24<|zK<|rJ J)<|bEL fun y28 hE=>rgF hE ⟨102,[(0,qi a0),(1,qs a1),(6,qi y4),(7,qi r12),(49,qb y28)]⟩ ⟨[],[]⟩ (gFL 3 52 (eJ J)<|eJ J)<|bFL (xi ya<|jCL J)<|rgL<|bFL (xi ya<|jCL J)<|jCL J) fun y22=>bEL fun x29 hx29=>bEL fun x30 hx30=>bEL fun x31 hx31=>bEL fun x32 hx32=>bEL fun x33 hx33=>bEL fun r34 hr34=>bEL fun r35 hr35=>bEL fun r36 hr36=>bEL fun r37 hr37=>bEL fun r38 hr38=>bEL fun r39 hr39=>lfL (fun z=>zs [0,1,2,3,4,5,7,8,9,10,11,12,14,15,16,17,18,19,21,22,23,24,25,26,28,29,30,31,32,33,6,13,20,27,34,35,36,37,38,39,40] [6,13,20,27,34,36] [[],[],[],[],[3],[1,2,3,4],[1,2,3,4,5],[],[],[8],[],[10],[7,8,9,10,11],[1,2,3,4,5,6,7,8,9,10,11,12],[],[],[15],[],[17],[14,15,16,17,18],[1,2,3,4,5,6,7,8,9,10,11,12,13,14,15,16,17,18,19],[],[],[22],[],[24],[21,22,23,24,25],[1,2,3,4,5,6,7,8,9,10,11,12,13,14,15,16,17,18,19,20,21,22,23,24,25,26],[],[],[29],[],[31],[28,29,30,31,32],[1,2,3,4,5,6,7,8,9,10,11,12,13,14,15,16,17,18,19,20,21,22,23,24,25,26,27,28,29,30,31,32,33],[0,1,2,3,4,5,6,7,8,9,10,11,12,13,14,15,16,17,18,19,20,21,22,23,24,25,26,27,28,29,30,31,32,33,34],[0,1,2,3,4,5,6,7,8,9,10,11,12,13,14,15,16,17,18,19,20,21,22,23,24,25,26,27,28,29,30,31,32,33,34,35],[0,1,2,3,4,5,6,7,8,9,10,11,12,13,14,15,16,17,18,19,20,21,22,23,24,25,26,27,28,29,30,31,32,33,34,35,36],[0,1,2,3,4,5,6,7,8,9,10,11,12,13,14,15,16,17,18,19,20,21,22,23,24,25,26,27,28,29,30,31,32,33,34,35,36],[0,1,2,3,4,5,6,7,8,9,10,11,12,13,14,15,16,17,18,19,20,21,22,23,24,25,26,27,28,29,30,31,32,33,34,35,36,37,38],[0,1,2,3,4,5,6,7,8,9,10,11,12,13,14,15,16,17,18,19,20,21,22,23,24,25,26,27,28,29,30,31,32,33,34,35,36,37,38,39]] [] [(4,qi r39.1),(5,qi r39.2)] (dS [0,1,2,3,4]<|dP (xm (k:= .i64) (k':= .i64) hx29)<|dS [7,8,9,10,11]<|dP (xm (k:= .i64) (k':= .i64) hx30)<|dS [14,15,16,17,18]<|dP (xm (k:= .i64) (k':= .i64) hx31)<|dS [21,22,23,24,25]<|dP (xm (k:= .i64) (k':= .i64) hx32)<|dS [28,29,30,31,32]<|dP (xm (k:= .i64) (k':= .i64) hx33)<|dC (zL 33 (xm (k:= .i64) (k':= .i64) hx33) (zL 26 (xm (k:= .i64) (k':= .i64) hx32) (zL 19 (xm (k:= .i64) (k':= .i64) hx31) (zL 12 (xm (k:= .i64) (k':= .i64) hx30) (zL 5 (xm (k:= .i64) (k':= .i64) hx29) yU))))) J (xP hr34)<|dC (zL 33 (xm (k:= .i64) (k':= .i64) hx33) (zL 26 (xm (k:= .i64) (k':= .i64) hx32) (zL 19 (xm (k:= .i64) (k':= .i64) hx31) (zL 12 (xm (k:= .i64) (k':= .i64) hx30) (zL 5 (xm (k:= .i64) (k':= .i64) hx29) yU))))) J (xP hr35)<|dC (zL 33 (xm (k:= .i64) (k':= .i64) hx33) (zL 26 (xm (k:= .i64) (k':= .i64) hx32) (zL 19 (xm (k:= .i64) (k':= .i64) hx31) (zL 12 (xm (k:= .i64) (k':= .i64) hx30) (zL 5 (xm (k:= .i64) (k':= .i64) hx29) yU))))) J (xP hr36)<|dC (zL 33 (xm (k:= .i64) (k':= .i64) hx33) (zL 26 (xm (k:= .i64) (k':= .i64) hx32) (zL 19 (xm (k:= .i64) (k':= .i64) hx31) (zL 12 (xm (k:= .i64) (k':= .i64) hx30) (zL 5 (xm (k:= .i64) (k':= .i64) hx29) yU))))) J (xP hr37)<|dC (zL 33 (xm (k:= .i64) (k':= .i64) hx33) (zL 26 (xm (k:= .i64) (k':= .i64) hx32) (zL 19 (xm (k:= .i64) (k':= .i64) hx31) (zL 12 (xm (k:= .i64) (k':= .i64) hx30) (zL 5 (xm (k:= .i64) (k':= .i64) hx29) yU))))) J (xP hr38)<|dS [35]<|dC (zL 33 (xm (k:= .i64) (k':= .i64) hx33) (zL 26 (xm (k:= .i64) (k':= .i64) hx32) (zL 19 (xm (k:= .i64) (k':= .i64) hx31) (zL 12 (xm (k:= .i64) (k':= .i64) hx30) (zL 5 (xm (k:= .i64) (k':= .i64) hx29) yU))))) J (py hr39)<|dS [37,38,39,40]<|dE J) z)<|zg<|rJ J
def yY (n:Nat)(a1:Int)(m0:zp):Option (zd×Bool×zp):=
 (if m0.zG=true then(some true)else(if(decide (m0.wB≥(m0.f_l.length:Int)))=true then(some true)else((xe m0.f_l m0.wB).bind fun x1=>
 some (x1.p0 !=a1)))).bind fun y3=>
 if y3=true then(some ((zd.mk 0 ([]:C4) ([]:C4)),false,m0))else((xe m0.f_l (wrap .i64 ((wrap .i64 (m0.wB+1))-1))).bind fun x4=>
 some (x4,true,(zp.mk m0.f_l (wrap .i64 (m0.wB+1)) m0.zG)))
theorem xp {n:Nat} {a1:Int} {m0:zp} {r:(zd×Bool×zp)}:yY n a1 m0=some r→AC mx 126 [qp 0,qi a1] [zp.cells m0] (.tuple [.agg (zd.cells r.1),qb r.2.1]) [zp.cells r.2.2]:=by
 delta yY
 exact fnL Tryz.func126 rfl<|rgL<|bEL fun y3 hE=>lfL (fun z=>drw [0,1,2,3,4,5,6,7,8,9,10,11,12,13,14,15,16,17,18,19,20,21,22,23,24,25,26,27,28,29,30] [] [[],[0],[0,1],[0,1,2],[0,1,2,3],[0,1,2,3,4],[0,1,2,3,4,5],[0,1,2,3,4,5,6],[0,1,2,3,4,5,6,7],[0,1,2,3,4],[0,1,2,3,4,9],[0,1,2,3,4,9,10],[0,1,2,3,4,9,10,11],[0,1,2,3,4,9,10,11,12],[0,1,2,3,4,5,6,7,8,9,10,11,12,13],[0,1,2,3,4,5,6,7,8,9,10,11,12,13,14],[0,1,2,3,4,5,6,7,8,9,10,11,12,13,14,15],[0,1,2,3,4,5,6,7,8,9,10,11,12,13,14,15,16],[0,1,2,3,4,5,6,7,8,9,10,11,12,13,14,15,16,17],[0,1,2,3,4,5,6,7,8,9,10,11,12,13,14,15,16,17,18],[0,1,2,3,4,5,6,7,8,9,10,11,12,13,14,15,16,17,18,19],[0,1,2,3,4,5,6,7,8,9,10,11,12,13,14,15,16],[0,1,2,3,4,5,6,7,8,9,10,11,12,13,14,15,16,21],[0,1,2,3,4,5,6,7,8,9,10,11,12,13,14,15,16,21,22],[0,1,2,3,4,5,6,7,8,9,10,11,12,13,14,15,16,21,22,23],[0,1,2,3,4,5,6,7,8,9,10,11,12,13,14,15,16,17,18,19,20,21,22,23,24],[0,1,2,3,4,5,6,7,8,9,10,11,12,13,14,15,16,17,18,19,20,21,22,23,24,25],[0,1,2,3,4,5,6,7,8,9,10,11,12,13,14,15,16,17,18,19,20,21,22,23,24,25,26],[0,1,2,3,4,5,6,7,8,9,10,11,12,13,14,15,16],[0,1,2,3,4,5,6,7,8,9,10,11,12,13,14,15,16,17,18,19,20,21,22,23,24,25,26,27,28],[0,1,2,3,4,5,6,7,8,9,10,11,12,13,14,15,16,17,18,19,20,21,22,23,24,25,26,27,28,29]] ⟨56,[(0,qp 0),(4,qp 1),(36,qb y3)]⟩ ⟨[zp.cells m0,[qi 0,qs [],qs []]],[]⟩ (have h:=hE; dS [0,1,2,3,4]<|hF 10 h (fun h=>dS [5,6,7,8,9,10,11,12,13,14,15,16,17,18,19,20,21,22,23,24,25,26,27,28,29,30]<|by cases h; exact dE A3) fun h=>dS [5,6,7,8,9,10,11,12]<|dP (yg (c:=zd.cells) (l:=m0.f_l) (e:=184) (sz:=3) (sz':=3) (b:=40) (tok:= .none))<|dS [14,15,16]<|hF 22 h (fun h=>dS [17,18,19,20,21,22,23,24,25,26,27,28,29,30]<|by cases h; exact dE A3) fun h=>bE h fun x1 hx1 h=>dS [17,18,19,20,21,22,23,24]<|dP (zR (c:=zd.cells) (e:=184) (sz:=3) (b:=40) (tok:= .none) hx1)<|dS [26,27,28,29,30]<|by cases h; exact dE A3) z)<|bFL (rgL<|zg<|rJ A9)<|rgL<|bEL fun x4 hx4=>lfL (fun z=>zm [0,1,2,3,4,5,6,7,8,9,10,11,12] [11] [[],[0],[0,1],[0,1,2],[],[4],[4,5],[4,5,6],[4,5,6,7],[0,1,2,3,4,5,6,7,8],[0,1,2,3,4,5,6,7,8,9],[0,1,2,3,4,5,6,7,8,9,10],[0,1,2,3,4,5,6,7,8,9,10,11]] [] [(4,qp 1),(5,qb true)] ⟨[[ql 3 zd.cells m0.f_l,qi (wrap .i64 (m0.wB+1)),qb m0.zG],zd.cells x4],[]⟩ (dS [0,1,2,3,4,5,6,7,8]<|dP (zR (c:=zd.cells) (e:=184) (sz:=3) (b:=40) (tok:= .none) hx4)<|dS [10]<|dF (zL 9 (zR (c:=zd.cells) (e:=184) (sz:=3) (b:=40) (tok:= .none) hx4) yU)<|dS [12]<|dE A3) z)<|zg<|rJ A9
def k8 (n:Nat)(a0:C4):Option (C4×Int×Int):=
 (if((a0.length:Int)==0)=true then(some true)else((xD a0 0).bind fun x1=>
 if(decide (x1>7))=true then(some true)else((xD a0 0).bind fun x2=>
 if(decide (x2>0))=true then(if((a0.length:Int)==1)=true then(some true)else((xD a0 (wrap .i64 ((a0.length:Int)-1))).bind fun x3=>
 (xD a0 0).bind fun x4=>
 (Q6 .i64 1 x4).bind fun x5=>
 (Bp (wrap .i64 x3) x5).bind fun x6=>
 some (x6 !=0)))else(some false)))).bind fun y8=>
 if y8=true then(some (([]:C4),0,7))else((ssl a0 1 (a0.length)).bind fun x9=>
 (xD a0 0).bind fun x10=>
 some (x9,wrap .i64 x10,0))
theorem ZK {n:Nat} {a0:C4} {r:(C4×Int×Int)}:k8 n a0=some r→AC mx 253 [qs a0] [] (.tuple [qs r.1,qi r.2.1,qi r.2.2]) []:=by
 delta k8
 exact fnL Tryz.func253 rfl<|rgL<|bEL fun y8 hE=>lfL (fun z=>drw [0,1,2,3,4,5,6,7,8,9,10,11,12,13,14,15,16,17,18,19,20,21,22,23,24,25,26,27,28,29,30] [] [[],[0],[0,1],[0,1,2],[0,1,2,3],[0,1,2,3,4],[0,1,2,3,4,5],[0,1,2,3,4,5,6],[0,1,2,3,4,5,6,7],[0,1,2,3,4,5,6,7,8],[0,1,2,3,4,5,6,7,8,9],[0,1,2,3,4,5,6,7,8,9,10],[0,1,2,3,4,5,6,7,8,9,10,11],[0,1,2,3,4,5,6,7,8,9,10,11,12],[0,1,2,3,4,5,6,7,8,9,10,11,12,13],[0,1,2,3,4,5,6,7,8,9,10,11,12,13,14],[0,1,2,3,4,5,6,7,8,9,10,11,12,13,14,15],[0,1,2,3,4,5,6,7,8,9,10,11,12,13,14,15,16],[0,1,2,3,4,5,6,7,8,9,10,11,12,13,14,15,16],[0,1,2,3,4,5,6,7,8,9,10,11,12,13,14,15,16,18],[0,1,2,3,4,5,6,7,8,9,10,11,12,13,14,15,16,18,19],[0,1,2,3,4,5,6,7,8,9,10,11,12,13,14,15,16,17,18,19,20],[0,1,2,3,4,5,6,7,8,9,10,11,12,13,14,15,16,17,18,19,20,21],[0,1,2,3,4,5,6,7,8,9,10,11,12,13,14,15,16],[0,1,2,3,4,5,6,7,8,9,10,11,12,13,14,15,16,23],[0,1,2,3,4,5,6,7,8,9,10,11,12,13,14,15,16,23,24],[0,1,2,3,4,5,6,7,8,9,10,11,12,13,14,15,16,17,18,19,20,21,22,23,24,25],[0,1,2,3,4,5,6,7,8,9,10,11,12,13,14,15,16,17,18,19,20,21,22,23,24,25,26],[0,1,2,3,4,5,6,7,8,9,10,11,12,13,14,15,16,17,18,19,20,21,22,23,24,25,26,27],[0,1,2,3,4,5,6,7,8,9,10,11,12,13,14,15,16,17,18,19,20,21,22,23,24,25,26,27,28],[0,1,2,3,4,5,6,7,8,9,10,11,12,13,14,15,16,17,18,19,20,21,22,23,24,25,26,27,28,29]] ⟨41,[(0,qs a0),(35,qb y8)]⟩ ⟨[],[]⟩ (have h:=hE; dS [0,1,2,3]<|hF 8 h (fun h=>dS [4,5,6,7,8,9,10,11,12,13,14,15,16,17,18,19,20,21,22,23,24,25,26,27,28,29,30]<|by cases h; exact dE J) fun h=>bE h fun x1 hx1 h=>dS [4]<|dP (zZ hx1)<|dS [6,7,8]<|hF 13 h (fun h=>dS [9,10,11,12,13,14,15,16,17,18,19,20,21,22,23,24,25,26,27,28,29,30]<|by cases h; exact dE J) fun h=>bE h fun x2 hx2 h=>dS [9]<|dP (zZ hx2)<|dS [11,12]<|hF 17 h (fun h=>dS [13,14,15,16]<|hF 21 h (fun h=>dS [17,18,19,20,21,22,23,24,25,26,27,28,29,30]<|by cases h; exact dE J) fun h=>bE h fun x3 hx3 h=>bE h fun x4 hx4 h=>bE h fun x5 hx5 h=>bE h fun x6 hx6 h=>dS [17,18,19,20]<|dP (zZ hx3)<|dS [22,23]<|dP (zZ hx4)<|dP (V9 (k:= .i64) (d:=(tyT 3).d) (k':= .u8) hx5)<|dP (QL (k:= .i64) (d:=(tyT 3).d) hx6)<|dS [27,28,29,30]<|by cases h; exact dE J) fun h=>dS [13,14,15,16,17,18,19,20,21,22,23,24,25,26,27,28,29,30]<|by cases h; exact dE J) z)<|bFL (rgL<|zg<|rJ J)<|bEL fun x9 hx9=>bEL fun x10 hx10=>lfL (fun z=>zs [0,1,2,3,4,5,6,7] [] [[],[0],[],[2],[2,3],[0,1],[0,1,2,3,4,5],[0,1,2,3,4,5,6]] [] [(2,qs x9),(3,qi (wrap .i64 x10)),(4,qi 0)] (dS [0]<|dP (qw (k:= .i64) hx9)<|dS [2]<|dP (zZ hx10)<|dS [4,5,6,7]<|dE J) z)<|zg<|rJ J
def uP (n:Nat)(r1:(C4×Int×Int)):Nat→Int→Int→Option Int
 |0,_,_=>none
 | k+1,v53,v54=>
  if(decide (v54<(wrap .i64 ((wrap .i64 ((8:Int)*(r1.1.length:Int)))-r1.2.1))))=true then(((xD r1.1 (wrap .i64 (Int.tdiv v54 8))).bind fun x76=>
  (GH .u8 x76 (wrap .i64 ((7:Int)-(Int.tmod v54 8)))).bind fun x77=>
  if((Int.tmod x77 2)==1)=true then((Q6 .i64 1 v54).bind fun x78=>
  some (ior .i64 v53 x78))else(some v53)).bind fun y74=>
  uP n r1 k y74 (wrap .i64 (v54+1)))else(some v53)
def kl (n:Nat)(a0:C4):Option (Int×Int):=
 (k8 n a0).bind fun r1=>
 if(r1.2.2 !=0)=true then(some (0,r1.2.2))else((if(decide ((wrap .i64 ((wrap .i64 ((8:Int)*(r1.1.length:Int)))-r1.2.1))>0))=true then((xD r1.1 (wrap .i64 ((r1.1.length:Int)-1))).bind fun x2=>
 (GH .u8 x2 r1.2.1).bind fun x3=>
 some ((Int.tmod x3 2)==0))else(some false)).bind fun y5=>
 if y5=true then(some (0,7))else(if(decide ((wrap .i64 ((wrap .i64 ((8:Int)*(r1.1.length:Int)))-r1.2.1))>16))=true then(some (0,1))else((uP n r1 n 0 0).bind fun y42=>
 some (y42,0))))
theorem Zf {n:Nat} {a0:C4} {r:(Int×Int)}:kl n a0=some r→AC mx 128 [qs a0] [] (.tuple [qi r.1,qi r.2]) []:=by
 delta kl
 exact fnL Tryz.func128 rfl<|rgL<|bEL fun r1 hr1=>rCL (kCL 1 J (ZK hr1) edL)<|rgL<|bFL (rgL<|zg<|rJ J)<|rgL<|bEL fun y5 hE=>rgF hE ⟨59,[(4,qs r1.1),(7,qi (wrap .i64 ((wrap .i64 ((8:Int)*(r1.1.length:Int)))-r1.2.1))),(36,qb y5)]⟩ ⟨[],[]⟩ (gFL 3 26 (bEL fun x2 hx2=>bEL fun x3 hx3=>kPL 7 (zZ hx2)<|kPL 9 (QG (k:= .u8) (d:=(tyT 5).d) (k':= .i64) hx3)<|eJ J)<|eJ J)<|bFL (rgL<|zg<|rJ J)<|rgL<|bFL (rgL<|zg<|rJ J)<|rgL<|rgL<|blL (fun y42=>⟨59,[(8,qi y42)]⟩) (fun y42=>⟨[],[]⟩) (fun y42=>lpL (fun k x=>uP n r1 k x.1 x.2) (0,0) J (fun x=>⟨59,[(4,qs r1.1),(7,qi (wrap .i64 ((wrap .i64 ((8:Int)*(r1.1.length:Int)))-r1.2.1))),(8,qi x.1),(9,qi x.2)]⟩) (fun x=>⟨[],[]⟩) fun k x=>by obtain⟨v53,v54⟩:=x; rw [uP]; exact rgL<|bFL (blL (fun y74=>⟨59,[(4,qs r1.1),(7,qi (wrap .i64 ((wrap .i64 ((8:Int)*(r1.1.length:Int)))-r1.2.1))),(8,qi y74),(9,qi v54)]⟩) (fun y74=>⟨[],[]⟩) (fun y74=>bEL fun x76 hx76=>bEL fun x77 hx77=>rCL (kPL 3 (zZ hx76)<|kPL 7 (QG (k:= .u8) (d:=(tyT 5).d) (k':= .i64) hx77) edL)<|bFL (bEL fun x78 hx78=>xC ya (kPL 2 (V9 (k:= .i64) (d:=(tyT 3).d) (k':= .i64) hx78) edL)<|jnL J)<|jnL J) fun y74=>xi zI fun h=>⟨(y74,wrap .i64 (v54+1)),h,wk J⟩)<|zW<|zS<|zN<|jnL J) fun y42=>rgL<|zg<|rJ J
def vP (n:Nat) (r1:((List zd)×Int)):Nat→Option Unit
 |0=>none
 | k+1=>
  if(decide ((0:Int)<(r1.1.length:Int)))=true then(none)else(some ())
def uk (n:Nat)(a1:zd)(m0:zp):Option ((List C4)×zp):=
 (vH n a1.wJ).bind fun r1=>
 (if m0.zG=true then(some true)else(some (r1.2 !=0))).bind fun y3=>
 (vP n r1 n).bind fun y6=>
 some (([]:List C4),(zp.mk m0.f_l m0.wB y3))
theorem b8 {n:Nat} {a1:zd} {m0:zp} {r:((List C4)×zp)}:uk n a1 m0=some r→AC mx 129 [qp 0, .agg (zd.cells a1)] [zp.cells m0] (ql 1 cS r.1) [zp.cells r.2]:=by
 delta uk
 exact fnL Tryz.func129 rfl<|rgL<|rgL<|bEL fun r1 hr1=>rCL (kCL 2 A1 (jj hr1) edL)<|bEL fun y3 hE=>rgF hE ⟨59,[(0,qp 0),(5,qn),(6,ql 3 zd.cells r1.1)]⟩ ⟨[[ql 3 zd.cells m0.f_l,qi m0.wB,qb y3]],[]⟩ (gFL 6 22 (eJ A9)<|eJ A9)<|rgL<|blL (fun _=>⟨59,[(5,qn)]⟩) (fun _=>⟨[[ql 3 zd.cells m0.f_l,qi m0.wB,qb y3]],[]⟩) (fun y6=>lpL (fun k (_:Unit)=>vP n r1 k) () O (fun _=>⟨59,[(0,qp 0),(5,qn),(6,ql 3 zd.cells r1.1),(8,qi 0)]⟩) (fun _=>⟨[[ql 3 zd.cells m0.f_l,qi m0.wB,qb y3]],[]⟩) fun k x=>by rw [vP]; exact rCL (kPL 2 (yg (c:=zd.cells) (l:=r1.1) (e:=184) (sz:=3) (sz':=3) (b:=40) (tok:= .none)) edL)<|bFL nEL<|zW<|zS<|zN<|jnL O) fun y6=>rgL<|zg<|rJ O
def wg (n:Nat)(a1:Int)(m0:zp):Option (Bool×zp):=
 (yY n a1 m0).bind fun r1=>
 some (r1.2.1,r1.2.2)
theorem vf {n:Nat} {a1:Int} {m0:zp} {r:(Bool×zp)}:wg n a1 m0=some r→AC mx 130 [qp 0,qi a1] [zp.cells m0] (qb r.1) [zp.cells r.2]:=by
 delta wg
 exact fnL Tryz.func130 rfl<|rgL<|bEL fun r1 hr1=>rCL (kCL 2 O (xp hr1) edL)<|rgL<|zg<|rJ A9
def jG (n:Nat)(a1:Int)(m0:zp):Option (zd×zp):=
 (yY n a1 m0).bind fun r1=>
 (if r1.2.2.zG=true then(some true)else(some (!r1.2.1))).bind fun y3=>
 some (r1.1,(zp.mk r1.2.2.f_l r1.2.2.wB y3))
theorem dk {n:Nat} {a1:Int} {m0:zp} {r:(zd×zp)}:jG n a1 m0=some r→AC mx 256 [qp 0,qi a1] [zp.cells m0] (.agg (zd.cells r.1)) [zp.cells r.2]:=by
 delta jG
 exact fnL Tryz.func256 rfl<|rgL<|bEL fun r1 hr1=>rCL (kCL 2 A9 (xp hr1) edL)<|bEL fun y3 hE=>rgF hE ⟨25,[(4,qp 1),(5,qp 2)]⟩ ⟨[[ql 3 zd.cells r1.2.2.f_l,qi r1.2.2.wB,qb y3],[qi 0,qs [],qs []],zd.cells r1.1],[]⟩ (gFL 6 18 (eJ A4)<|eJ A4)<|rgL<|zg<|rJ A5
def ug (n:Nat)(a0:C4):Nat→Int→Int→Option Int
 |0,_,_=>none
 | k+1,v26,v27=>
  if(decide (v27<(a0.length:Int)))=true then((xD a0 v27).bind fun x31=>
  ug n a0 k (ior .u64 (wrap .u64 (v26*256)) (wrap .u64 x31)) (wrap .i64 (v27+1)))else(some v26)
def qH (n:Nat)(a0:C4):Option (Int×Int):=
 (if((a0.length:Int)==0)=true then(some true)else(if(decide ((a0.length:Int)>1))=true then((xD a0 0).bind fun x1=>
 if(x1==0)=true then((xD a0 1).bind fun x2=>
 if(decide (x2<128))=true then(some true)else((xD a0 0).bind fun x3=>
 if(x3==255)=true then((xD a0 1).bind fun x4=>
 some (decide (x4≥128)))else(some false)))else((xD a0 0).bind fun x5=>
 if(x5==255)=true then((xD a0 1).bind fun x6=>
 some (decide (x6≥128)))else(some false)))else(some false))).bind fun y8=>
 if y8=true then(some (0,7))else(if(decide ((a0.length:Int)>8))=true then(some (0,1))else((xD a0 0).bind fun x9=>
 (if(decide (x9≥128))=true then(some 18446744073709551615)else(some 0)).bind fun y11=>
 (ug n a0 n y11 0).bind fun y22=>
 some (wrap .i64 y22,0)))
theorem pq {n:Nat} {a0:C4} {r:(Int×Int)}:qH n a0=some r→AC mx 255 [qs a0] [] (.tuple [qi r.1,qi r.2]) []:=by
 delta qH
 exact fnL Tryz.func255 rfl<|rgL<|bEL fun y8 hE=>rgF hE ⟨55,[(0,qs a0),(33,qb y8)]⟩ ⟨[],[]⟩ (gFL 4 9 (eJ J)<|gFL 8 13 (bEL fun x1 hx1=>kPL 9 (zZ hx1)<|gFL 12 17 (bEL fun x2 hx2=>kPL 13 (zZ hx2)<|gFL 17 22 (eJ J)<|bEL fun x3 hx3=>kPL 18 (zZ hx3)<|gFL 21 26 (bEL fun x4 hx4=>kPL 22 (zZ hx4)<|eJ J)<|eJ J)<|bEL fun x5 hx5=>kPL 18 (zZ hx5)<|gFL 21 26 (bEL fun x6 hx6=>kPL 22 (zZ hx6)<|eJ J)<|eJ J)<|eJ J)<|bFL (rgL<|zg<|rJ J)<|rgL<|bFL (rgL<|zg<|rJ J)<|rgL<|bEL fun x9 hx9=>rCL (kPL 1 (zZ hx9) edL)<|cuL (fun y11=>⟨55,[(0,qs a0),(4, .int .u64 y11)]⟩) (fun y11=>⟨[],[]⟩) (fun y11=>bFL (xi zI<|jnL J)<|jnL J) fun y11=>rgL<|blL (fun y22=>⟨55,[(4, .int .u64 y22)]⟩) (fun y22=>⟨[],[]⟩) (fun y22=>lpL (fun k x=>ug n a0 k x.1 x.2) (y11,0) J (fun x=>⟨55,[(0,qs a0),(4, .int .u64 x.1),(5,qi x.2)]⟩) (fun x=>⟨[],[]⟩) fun k x=>by obtain⟨v26,v27⟩:=x; rw [ug]; exact rgL<|bFL (zY<|bEL fun x31 hx31=>xC yF (kPL 4 (zZ hx31) edL)<|z8<|xi zI fun h=>⟨(ior .u64 (wrap .u64 (v26*256)) (wrap .u64 x31),wrap .i64 (v27+1)),h,wk J⟩)<|zW<|zS<|zN<|jnL J) fun y22=>rgL<|zg<|rJ J
def uL (n:Nat)(a1:Int)(m0:zp):Option (Int×zp):=
 (jG n a1 m0).bind fun r1=>
 (qH n r1.1.wJ).bind fun r2=>
 (if r1.2.zG=true then(some true)else(some (r2.2 !=0))).bind fun y4=>
 some (r2.1,(zp.mk r1.2.f_l r1.2.wB y4))
theorem gq {n:Nat} {a1:Int} {m0:zp} {r:(Int×zp)}:uL n a1 m0=some r→AC mx 132 [qp 0,qi a1] [zp.cells m0] (qi r.1) [zp.cells r.2]:=by
 delta uL
 exact fnL Tryz.func132 rfl<|rgL<|bEL fun r1 hr1=>bEL fun r2 hr2=>rCL (kCL 2 O (dk hr1)<|kCL 4 A0 (pq hr2) edL)<|bEL fun y4 hE=>rgF hE ⟨27,[(5,qi r2.1)]⟩ ⟨[[ql 3 zd.cells r1.2.f_l,qi r1.2.wB,qb y4]],[]⟩ (gFL 6 20 (eJ O)<|eJ O)<|rgL<|zg<|rJ O
def vU (n:Nat)(a1:List zd):Nat→Option Unit
 |0=>none
 | k+1=>
  if(decide ((0:Int)<(a1.length:Int)))=true then(none)else(some ())
def uG (n:Nat)(a1:List zd)(m0:zp):Option ((List zB)×zp):=
 (vU n a1 n).bind fun y7=>
 some (([]:List zB),m0)
theorem gr {n:Nat} {a1:(List zd)} {m0:zp} {r:((List zB)×zp)}:uG n a1 m0=some r→AC mx 134 [qp 0,ql 3 zd.cells a1] [zp.cells m0] (ql 4 zB.cells r.1) [zp.cells r.2]:=by
 delta uG
 exact fnL Tryz.func134 rfl<|rgL<|rgL<|rgL<|blL (fun _=>⟨65,[(5,qn)]⟩) (fun _=>⟨[zp.cells m0],[]⟩) (fun y7=>lpL (fun k (_:Unit)=>vU n a1 k) () O (fun _=>⟨65,[(0,qp 0),(1,ql 3 zd.cells a1),(5,qn),(6,qi 0)]⟩) (fun _=>⟨[zp.cells m0],[]⟩) fun k x=>by rw [vU]; exact rCL (kPL 2 (yg (c:=zd.cells) (l:=a1) (e:=184) (sz:=3) (sz':=3) (b:=40) (tok:= .none)) edL)<|bFL nEL<|zW<|zS<|zN<|jnL O) fun y7=>rgL<|zg<|rJ O
def kz (n:Nat)(a0:zy):Option Int:=
 (if(decide (a0.yH<0))=true then(some true)else(some (decide (a0.yH>254033452799)))).bind fun y11=>
 if y11=true then(some 12)else((if(!(a0.vJ==([]:C4)))=true then((yJ n a0.vJ).bind fun r12=>
 some (!r12))else(some false)).bind fun y14=>
 if y14=true then(some 11)else((if(decide (a0.yr<0))=true then(some true)else(if(decide (a0.yr>511))=true then(some true)else(if(decide (a0.wq<1))=true then(some true)else(some (decide (a0.wq>8)))))).bind fun y16=>
 if y16=true then(some 1)else((if(decide ((a0.zH.length:Int)>8))=true then(some true)else(if(decide ((a0.yl.length:Int)>16))=true then(some true)else(some (decide ((a0.vy.length:Int)>64))))).bind fun y18=>
 if y18=true then(some 2)else(none))))
theorem Zg {n:Nat} {a0:zy} {r:Int}:kz n a0=some r→AC mx 156 [.agg (zy.cells a0)] [] (qi r) []:=by
 delta kz
 exact fnL Tryz.func156 rfl<|rgL<|zY<|bEL fun y11 hE=>rgF hE ⟨128,[(1,qp 0),(9,qb y11)]⟩ ⟨[zy.cells a0],[]⟩ (gFL 4 13 (eJ O)<|eJ O)<|bFL (rgL<|zg<|yi<|rJ A0)<|bEL fun y14 hE=>rgF hE ⟨128,[(1,qp 0),(18,qb y14)]⟩ ⟨[zy.cells a0],[]⟩ (gFL 4 22 (bEL fun r12 hr12=>kCL 6 A0 (xG hr12)<|eJ O)<|eJ O)<|bFL (rgL<|zg<|yi<|rJ A0)<|bEL fun y16 hE=>rgF hE ⟨128,[(1,qp 0),(28,qb y16)]⟩ ⟨[zy.cells a0],[]⟩ (gFL 4 32 (eJ O)<|gFL 9 37 (eJ O)<|gFL 14 42 (eJ O)<|eJ O)<|bFL (rgL<|zg<|yi<|rJ A0)<|bEL fun y18 hE=>rgF hE ⟨128,[(1,qp 0),(47,qb y18)]⟩ ⟨[zy.cells a0],[]⟩ (kPL 2 (yg (c:=cS) (l:=a0.zH) (e:=9) (sz:=1) (sz':=1) (b:=16) (tok:= .none))<|gFL 5 52 (eJ O)<|kPL 7 (yg (c:=za.cells) (l:=a0.yl) (e:=213) (sz:=3) (sz':=3) (b:=48) (tok:= .none))<|gFL 11 58 (eJ O)<|kPL 13 (yg (c:=zB.cells) (l:=a0.vy) (e:=228) (sz:=4) (sz':=4) (b:=64) (tok:= .none))<|eJ O)<|bFL (rgL<|zg<|yi<|rJ A0) nEL
def jH (n:Nat)(a0:zy):Option (C4×Int):=
 (kz n a0).bind fun r1=>
 if(r1 !=0)=true then(some (([]:C4),r1))else(none)
theorem dl {n:Nat} {a0:zy} {r:(C4×Int)}:jH n a0=some r→AC mx 75 [.agg (zy.cells a0)] [] (.tuple [qs r.1,qi r.2]) []:=by
 delta jH
 exact fnL Tryz.func75 rfl<|rgL<|bEL fun r1 hr1=>rCL (kCL 1 A0 (Zg hr1) edL)<|rgL<|bFL (rgL<|zg<|rJ A0) nEL
def wf (n:Nat)(a0:C4):Option (zy×Int):=
 (kq n a0).bind fun r1=>
 if(r1.2 !=0)=true then(some ((zy.mk 0 ([]:C4) 0 ([]:List C4) false false false ([]:List za) 0 false ([]:List zB)),r1.2))else((bc n r1.1 48).bind fun r2=>
 (if(decide ((r2.f_l.length:Int)>0))=true then((xe r2.f_l 0).bind fun x13=>
 (xe r2.f_l 0).bind fun x14=>
 (jP n x13.p0 x14.wJ).bind fun r15=>
 (if r2.zG=true then(some true)else(some (r15.2 !=0))).bind fun y17=>
 some (1,y17,r15.1))else(some (r2.wB,r2.zG,0))).bind fun y11=>
 (yY n 128 (zp.mk r2.f_l y11.1 y11.2.1)).bind fun r18=>
 if r18.2.1=true then(none)else((yY n 129 r18.2.2).bind fun r19=>
 (if r19.2.1=true then((kl n r19.1.wJ).bind fun r27=>
 (if r19.2.2.zG=true then(some true)else(some (r27.2 !=0))).bind fun y29=>
 some (y29,r27.1))else(some (r19.2.2.zG,0))).bind fun y25=>
 (yY n 162 (zp.mk r19.2.2.f_l r19.2.2.wB y25.1)).bind fun r30=>
 (if r30.2.1=true then((uk n r30.1 r30.2.2).bind fun r38=>
 some (r38.2.f_l,r38.2.wB,r38.2.zG,r38.1))else(some (r30.2.2.f_l,r30.2.2.wB,r30.2.2.zG,([]:List C4)))).bind fun y36=>
 (wg n 131 (zp.mk y36.1 y36.2.1 y36.2.2.1)).bind fun r39=>
 (wg n 132 r39.2).bind fun r40=>
 (wg n 133 r40.2).bind fun r41=>
 (yY n 166 r41.2).bind fun r42=>
 if r42.2.1=true then(none)else((uL n 2 r42.2.2).bind fun r43=>
 (wg n 135 r43.2).bind fun r44=>
 (yY n 168 r44.2).bind fun r45=>
 (if r45.2.1=true then((vH n r45.1.wJ).bind fun r56=>
 (if r45.2.2.zG=true then(some true)else(some (r56.2 !=0))).bind fun y58=>
 (uG n r56.1 (zp.mk r45.2.2.f_l r45.2.2.wB y58)).bind fun r59=>
 some (r59.2.f_l,r59.2.wB,r59.2.zG,r59.1))else(some (r45.2.2.f_l,r45.2.2.wB,r45.2.2.zG,([]:List zB)))).bind fun y54=>
 (jH n (zy.mk y11.2.2 ([]:C4) y25.2 y36.2.2.2 r39.1 r40.1 r41.1 ([]:List za) r43.1 r44.1 y54.2.2.2)).bind fun r60=>
 (if y54.2.2.1=true then(some true)else(if(r60.2 !=0)=true then(some true)else(some (!(r60.1==a0))))).bind fun y62=>
 if y62=true then(some ((zy.mk 0 ([]:C4) 0 ([]:List C4) false false false ([]:List za) 0 false ([]:List zB)),7))else(some ((zy.mk y11.2.2 ([]:C4) y25.2 y36.2.2.2 r39.1 r40.1 r41.1 ([]:List za) r43.1 r44.1 y54.2.2.2),0)))))
theorem dg {n:Nat} {a0:C4} {r:(zy×Int)}:wf n a0=some r→AC mx 59 [qs a0] [] (.tuple [.agg (zy.cells r.1),qi r.2]) []:=by
 delta wf
 exact fnL Tryz.func59 rfl<|rgL<|bEL fun r1 hr1=>rCL (kCL 1 A0 (Zn hr1) edL)<|rgL<|bFL (rgL<|zg<|rJ A1)<|bEL fun r2 hr2=>rCL (kCL 1 A1 (ZH hr2) edL)<|rgL<|rCL (kPL 4 (yg (c:=zd.cells) (l:=r2.f_l) (e:=184) (sz:=3) (sz':=3) (b:=40) (tok:= .none)) edL)<|cuL (fun y11=>⟨228,[(0,qs a0),(2,qp 0),(6,qp 1),(7,qp 2)]⟩) (fun y11=>⟨[[qi 0,qs [],qi 0,qn,qb false,qb false,qb false,qn,qi 0,qb false,qn],[ql 3 zd.cells r2.f_l,qi y11.1,qb y11.2.1],[qi y11.2.2,qs [],qi 0,qn,qb false,qb false,qb false,qn,qi 0,qb false,qn]],[]⟩) (fun y11=>bFL (bEL fun x13 hx13=>bEL fun x14 hx14=>bEL fun r15 hr15=>lfL (fun z=>zm [0,1,2,3,4,5,6,7,8,9,10,11,12,13,14,15,16,17,18,19] [14] [[],[0],[0,1],[0,1,2],[0,1,2,3],[0,1,2,3,4],[0,1,2,3,4,5],[],[7],[7,8],[7,8,9],[7,8,9,10],[7,8,9,10,11],[7,8,9,10,11,12],[0,1,2,3,4,5,6,7,8,9,10,11,12,13],[0,1,2,3,4,5,6,7,8,9,10,11,12,13,14],[0,1,2,3,4,5,6,7,8,9,10,11,12,13,14,15],[0,1,2,3,4,5,6,7,8,9,10,11,12,13,14,15],[0,1,2,3,4,5,6,7,8,9,10,11,12,13,14,15,16],[0,1,2,3,4,5,6,7,8,9,10,11,12,13,14,15,16,17,18]] [] [(0,qs a0),(2,qp 0),(6,qp 1),(7,qp 2),(8,qi r15.1),(9,qi r15.2)] ⟨[[qi 0,qs [],qi 0,qn,qb false,qb false,qb false,qn,qi 0,qb false,qn],zp.cells r2,[qi 0,qs [],qi 0,qn,qb false,qb false,qb false,qn,qi 0,qb false,qn]],[]⟩ (dS [0,1,2,3]<|dP (zR (c:=zd.cells) (e:=184) (sz:=3) (b:=40) (tok:= .none) hx13)<|dS [5,6,7,8,9,10]<|dP (zR (c:=zd.cells) (e:=184) (sz:=3) (b:=40) (tok:= .none) hx14)<|dS [12,13]<|dC (zL 11 (zR (c:=zd.cells) (e:=184) (sz:=3) (b:=40) (tok:= .none) hx14) (zL 4 (zR (c:=zd.cells) (e:=184) (sz:=3) (b:=40) (tok:= .none) hx13) yU)) An (dm hr15)<|dS [15,16,17,18,19]<|dE Al) z)<|bEL fun y17 hE=>Gn hE zI ⟨228,[(0,qs a0),(2,qp 0),(6,qp 1),(7,qp 2)]⟩ ⟨[[qi 0,qs [],qi 0,qn,qb false,qb false,qb false,qn,qi 0,qb false,qn],[ql 3 zd.cells r2.f_l,qi 1,qb y17],[qi r15.1,qs [],qi 0,qn,qb false,qb false,qb false,qn,qi 0,qb false,qn]],[]⟩ (gFL 8 72 (eJ A4)<|eJ A4)<|jnL A4)<|jnL Al) fun y11=>bEL fun r18 hr18=>rCL (kCL 1 A6 (xp hr18) edL)<|rgL<|bFL nEL<|bEL fun r19 hr19=>rCL (kCL 1 At (xp hr19) edL)<|rgL<|cuL (fun y25=>⟨228,[(0,qs a0),(2,qp 0),(6,qp 1),(7,qp 2)]⟩) (fun y25=>⟨[[qi 0,qs [],qi 0,qn,qb false,qb false,qb false,qn,qi 0,qb false,qn],[ql 3 zd.cells r19.2.2.f_l,qi r19.2.2.wB,qb y25.1],[qi y11.2.2,qs [],qi y25.2,qn,qb false,qb false,qb false,qn,qi 0,qb false,qn]],[]⟩) (fun y25=>bFL (bEL fun r27 hr27=>rCL (kCL 2 Av (Zf hr27) edL)<|bEL fun y29 hE=>Gn hE zI ⟨228,[(0,qs a0),(2,qp 0),(6,qp 1),(7,qp 2)]⟩ ⟨[[qi 0,qs [],qi 0,qn,qb false,qb false,qb false,qn,qi 0,qb false,qn],[ql 3 zd.cells r19.2.2.f_l,qi r19.2.2.wB,qb y29],[qi y11.2.2,qs [],qi r27.1,qn,qb false,qb false,qb false,qn,qi 0,qb false,qn]],[]⟩ (gFL 7 124 (eJ Ar)<|eJ Ar)<|jnL A4)<|jnL Ar) fun y25=>bEL fun r30 hr30=>rCL (kCL 1 A6 (xp hr30) edL)<|rgL<|cuL (fun y36=>⟨228,[(0,qs a0),(2,qp 0),(6,qp 1),(7,qp 2)]⟩) (fun y36=>⟨[[qi 0,qs [],qi 0,qn,qb false,qb false,qb false,qn,qi 0,qb false,qn],[ql 3 zd.cells y36.1,qi y36.2.1,qb y36.2.2.1],[qi y11.2.2,qs [],qi y25.2,ql 1 cS y36.2.2.2,qb false,qb false,qb false,qn,qi 0,qb false,qn]],[]⟩) (fun y36=>bFL (bEL fun r38 hr38=>xC zI (kCL 2 At (b8 hr38) edL)<|jnL Au)<|jnL Au) fun y36=>bEL fun r39 hr39=>bEL fun r40 hr40=>bEL fun r41 hr41=>rCL (kCL 1 A6 (vf hr39)<|kCL 3 A6 (vf hr40)<|kCL 5 A6 (vf hr41) edL)<|bEL fun r42 hr42=>rCL (kCL 1 A6 (xp hr42) edL)<|rgL<|bFL nEL<|bEL fun r43 hr43=>rCL (kCL 1 At (gq hr43) edL)<|bEL fun r44 hr44=>rCL (kCL 1 At (vf hr44) edL)<|bEL fun r45 hr45=>rCL (kCL 1 At (xp hr45) edL)<|rgL<|cuL (fun y54=>⟨228,[(0,qs a0),(2,qp 0),(6,qp 1),(7,qp 2)]⟩) (fun y54=>⟨[[qi 0,qs [],qi 0,qn,qb false,qb false,qb false,qn,qi 0,qb false,qn],[ql 3 zd.cells y54.1,qi y54.2.1,qb y54.2.2.1],[qi y11.2.2,qs [],qi y25.2,ql 1 cS y36.2.2.2,qb r39.1,qb r40.1,qb r41.1,qn,qi r43.1,qb r44.1,ql 4 zB.cells y54.2.2.2]],[]⟩) (fun y54=>bFL (bEL fun r56 hr56=>rCL (kCL 2 Av (jj hr56) edL)<|bEL fun y58 hE=>rgF hE ⟨228,[(0,qs a0),(2,qp 0),(6,qp 1),(7,qp 2),(26,ql 3 zd.cells r56.1)]⟩ ⟨[[qi 0,qs [],qi 0,qn,qb false,qb false,qb false,qn,qi 0,qb false,qn],[ql 3 zd.cells r45.2.2.f_l,qi r45.2.2.wB,qb y58],[qi y11.2.2,qs [],qi y25.2,ql 1 cS y36.2.2.2,qb r39.1,qb r40.1,qb r41.1,qn,qi r43.1,qb r44.1,qn]],[]⟩ (gFL 6 198 (eJ Ar)<|eJ Ar)<|bEL fun r59 hr59=>xC zI (kCL 2 A6 (gr hr59) edL)<|jnL A4)<|jnL Ar) fun y54=>bEL fun r60 hr60=>rCL (kCL 1 Aa (dl hr60) edL)<|bEL fun y62 hE=>rgF hE ⟨228,[(2,qp 0),(7,qp 1),(225,qb y62)]⟩ ⟨[[qi 0,qs [],qi 0,qn,qb false,qb false,qb false,qn,qi 0,qb false,qn],[qi y11.2.2,qs [],qi y25.2,ql 1 cS y36.2.2.2,qb r39.1,qb r40.1,qb r41.1,qn,qi r43.1,qb r44.1,ql 4 zB.cells y54.2.2.2]],[]⟩ (gFL 5 217 (eJ As)<|gFL 9 221 (eJ As)<|eJ As)<|bFL (rgL<|zg<|rJ A1)<|rgL<|zg<|rJ A1
def xI (n:Nat)(a0:C4):Option (zi×Int):=
 (xh n a0 32).bind fun r1=>
 (zT n (ze.mk r1 0 false)).bind fun r2=>
 yM (if(r2.1==([97,99,116]:C4))=true then((wS n r2.2).bind fun r41=>
 some (.ret ((zi.mk r41.1.yA r41.1.bL (zM.mk r41.1.zj.yA r41.1.zj.yH r41.1.zj.xB r41.1.zj.vx (zr.mk r41.1.zj.zb.yk r41.1.zj.zb.jZ r41.1.zj.zb.yw r41.1.zj.zb.yr r41.1.zj.zb.yc r41.1.zj.zb.zH r41.1.zj.zb.yd r41.1.zj.zb.zA r41.1.zj.zb.zD r41.1.zj.zb.zV r41.1.zj.zb.yl r41.1.zj.zb.zz (zv.mk r41.1.zj.zb.zq.ye r41.1.zj.zb.zq.yo) r41.1.zj.zb.zU r41.1.zj.zb.zJ r41.1.zj.zb.yn r41.1.zj.zb.z7 r41.1.zj.zb.yp) r41.1.zj.yZ r41.1.zj.xz r41.1.zj.yX r41.1.zj.w8 r41.1.zj.wa r41.1.zj.w9 r41.1.zj.yV) r41.1.k9 r41.1.ki r41.1.qt r41.1.q8 (yu.mk r41.1.jr.yH r41.1.jr.vV) (zy.mk r41.1.zF.yH r41.1.zF.vJ r41.1.zF.yr r41.1.zF.zH r41.1.zF.vD r41.1.zF.wW r41.1.zF.qK r41.1.zF.yl r41.1.zF.wq r41.1.zF.jL r41.1.zF.vy) r41.1.jB),r41.2.1)))else(if(r2.1==([99,114,97,115,104]:C4))=true then((zo n false r2.2).bind fun r42=>
 (zo n false r42.2).bind fun r43=>
 (zo n false r43.2).bind fun r44=>
 some (.nxt (r44.2.f_l,r44.2.wB,r44.2.zG,2,r42.1,r43.1,r44.1)))else(if(r2.1==([102,117,115,101]:C4))=true then((zo n false r2.2).bind fun r45=>
 (zo n false r45.2).bind fun r46=>
 some (.nxt (r46.2.f_l,r46.2.wB,r46.2.zG,3,r45.1,r46.1,0)))else(if(r2.1==([99,111,109,112,97,99,116]:C4))=true then((zo n false r2.2).bind fun r47=>
 some (.nxt (r47.2.f_l,r47.2.wB,r47.2.zG,4,r47.1,0,0)))else(if(r2.1==([97,115,107]:C4))=true then((zo n false r2.2).bind fun r48=>
 (xn n r48.2).bind fun r49=>
 (zo n false r49.2).bind fun r50=>
 (xn n r50.2).bind fun r51=>
 (yG n r51.2).bind fun r52=>
 (yS n r52.2).bind fun r53=>
 if(!r53.1)=true then(some (.ret ((zi.mk 5 0 (zM.mk 0 0 0 ([]:C4) (zr.mk false false 0 0 ([]:List C4) ([]:List C4) ([]:List zw) 0 0 0 ([]:List za) false (zv.mk ([]:List za) ([]:List za)) ([]:C4) ([]:C4) ([]:List zn) ([]:List zn) ([]:List zf)) 0 0 0 0 0 0 false) false 0 0 r48.1 (yu.mk r50.1 r51.1) (zy.mk 0 ([]:C4) 0 ([]:List C4) false false false ([]:List za) 0 false ([]:List zB)) r49.1),32)))else((wf n r52.1).bind fun r54=>
 some (.ret ((zi.mk 5 0 (zM.mk 0 0 0 ([]:C4) (zr.mk false false 0 0 ([]:List C4) ([]:List C4) ([]:List zw) 0 0 0 ([]:List za) false (zv.mk ([]:List za) ([]:List za)) ([]:C4) ([]:C4) ([]:List zn) ([]:List zn) ([]:List zf)) 0 0 0 0 0 0 false) false 0 0 r48.1 (yu.mk r50.1 r51.1) r54.1 r49.1),r54.2))))else(some (.ret ((zi.mk 0 0 (zM.mk 0 0 0 ([]:C4) (zr.mk false false 0 0 ([]:List C4) ([]:List C4) ([]:List zw) 0 0 0 ([]:List za) false (zv.mk ([]:List za) ([]:List za)) ([]:C4) ([]:C4) ([]:List zn) ([]:List zn) ([]:List zf)) 0 0 0 0 0 0 false) false 0 0 0 (yu.mk 0 ([]:List Int)) (zy.mk 0 ([]:C4) 0 ([]:List C4) false false false ([]:List za) 0 false ([]:List zB)) ([]:List Int)),32)))))))) (fun r=>some r) (fun y38=>
 (yS n (ze.mk y38.1 y38.2.1 y38.2.2.1)).bind fun r55=>
 if(!r55.1)=true then(some ((zi.mk y38.2.2.2.1 y38.2.2.2.2.1 (zM.mk 0 0 0 ([]:C4) (zr.mk false false 0 0 ([]:List C4) ([]:List C4) ([]:List zw) 0 0 0 ([]:List za) false (zv.mk ([]:List za) ([]:List za)) ([]:C4) ([]:C4) ([]:List zn) ([]:List zn) ([]:List zf)) 0 0 0 0 0 0 false) false y38.2.2.2.2.2.1 y38.2.2.2.2.2.2 0 (yu.mk 0 ([]:List Int)) (zy.mk 0 ([]:C4) 0 ([]:List C4) false false false ([]:List za) 0 false ([]:List zB)) ([]:List Int)),32))else(some ((zi.mk y38.2.2.2.1 y38.2.2.2.2.1 (zM.mk 0 0 0 ([]:C4) (zr.mk false false 0 0 ([]:List C4) ([]:List C4) ([]:List zw) 0 0 0 ([]:List za) false (zv.mk ([]:List za) ([]:List za)) ([]:C4) ([]:C4) ([]:List zn) ([]:List zn) ([]:List zf)) 0 0 0 0 0 0 false) false y38.2.2.2.2.2.1 y38.2.2.2.2.2.2 0 (yu.mk 0 ([]:List Int)) (zy.mk 0 ([]:C4) 0 ([]:List C4) false false false ([]:List za) 0 false ([]:List zB)) ([]:List Int)),0)))
theorem pi {n:Nat} {a0:C4} {r:(zi×Int)}:xI n a0=some r→AC mx 22 [qs a0] [] (.tuple [.agg (zi.cells r.1),qi r.2]) []:=by
 delta xI
 exact fnL Tryz.func22 rfl<|rgL<|bEL fun r1 hr1=>rCL (kCL 1 A0 (vB hr1) edL)<|rgL<|bEL fun r2 hr2=>rCL (kCL 1 A6 (yL hr2) edL)<|bcL (fun y38=>⟨78,[(2,qp 0),(4,qp 1),(5,qp 2)]⟩) (fun y38=>⟨[[qi 0,qi 0,qi 0,qi 0,qi 0,qs [],qb false,qb false,qi 0,qi 0,qn,qn,qn,qi 0,qi 0,qi 0,qn,qb false,qn,qn,qs [],qs [],qn,qn,qn,qi 0,qi 0,qi 0,qi 0,qi 0,qi 0,qb false,qb false,qi 0,qi 0,qi 0,qi 0,qn,qi 0,qs [],qi 0,qn,qb false,qb false,qb false,qn,qi 0,qb false,qn,qn],[ql 1 cS y38.1,qi y38.2.1,qb y38.2.2.1],[qi y38.2.2.2.1,qi y38.2.2.2.2.1,qi 0,qi 0,qi 0,qs [],qb false,qb false,qi 0,qi 0,qn,qn,qn,qi 0,qi 0,qi 0,qn,qb false,qn,qn,qs [],qs [],qn,qn,qn,qi 0,qi 0,qi 0,qi 0,qi 0,qi 0,qb false,qb false,qi y38.2.2.2.2.2.1,qi y38.2.2.2.2.2.2,qi 0,qi 0,qn,qi 0,qs [],qi 0,qn,qb false,qb false,qb false,qn,qi 0,qb false,qn,qn]],[]⟩) (fun o39 hr40=>rgL<|bFL (bEL fun r41 hr41=>rCL (kCL 1 A6 (po hr41) edL)<|zg<|hvL hr40<|zK<|rJ Aa)<|rgL<|bFL (bEL fun r42 hr42=>bEL fun r43 hr43=>bEL fun r44 hr44=>xC ya (kCL 1 A6 (zP hr42)<|kCL 3 A6 (zP hr43)<|kCL 5 A6 (zP hr44) edL)<|jCL A4)<|rgL<|bFL (bEL fun r45 hr45=>bEL fun r46 hr46=>xC ya (kCL 1 A6 (zP hr45)<|kCL 3 A6 (zP hr46) edL)<|jCL A4)<|rgL<|bFL (bEL fun r47 hr47=>xC ya (kCL 1 A6 (zP hr47) edL)<|jCL A4)<|rgL<|bFL (bEL fun r48 hr48=>bEL fun r49 hr49=>rCL (kCL 1 A6 (zP hr48)<|kCL 3 A6 (qX hr49) edL)<|bEL fun r50 hr50=>bEL fun r51 hr51=>rCL (kCL 1 A6 (zP hr50)<|kCL 3 A6 (qX hr51) edL)<|bEL fun r52 hr52=>rCL (kCL 1 A6 (wC hr52) edL)<|bEL fun r53 hr53=>rCL (kCL 1 A6 (jo hr53) edL)<|bFL (rgL<|zg<|hvL hr40<|zK<|rJ Aa)<|bEL fun r54 hr54=>rCL (kCL 1 Aa (dg hr54) edL)<|rgL<|rgL<|zg<|hvL hr40<|zK<|rJ An)<|rgL<|zg<|hvL hr40<|zK<|rJ Aa) fun y38=>bEL fun r55 hr55=>rCL (kCL 1 A6 (jo hr55) edL)<|bFL (rgL<|zg<|rJ Aa)<|rgL<|zg<|rJ Aa
end Go.Abs
end
