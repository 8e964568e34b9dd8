/- For each Go function: if its typed Lean form gives some result, the call returns that result (printed by a program of this hand). Condition: the typed form gives some result. -/
import Derived.Test.YthfhicembdpjpaaGreatDoorT2
set_option linter.all false
section
set_option maxRecDepth 100000
set_option maxHeartbeats 0
namespace Go.Abs
open Go Go.Proofs IntKind
abbrev J:Ren:=⟨[],0,[],0⟩
abbrev O:Ren:=⟨[0],1,[],0⟩
abbrev A0:Ren:=⟨[],1,[],0⟩
abbrev A1:Ren:=⟨[],2,[],0⟩
abbrev A2:Ren:=⟨[],0,[0],1⟩
abbrev A3:Ren:=⟨[0,1],2,[],0⟩
abbrev A4:Ren:=⟨[0,1,2],3,[],0⟩
abbrev A5:Ren:=⟨[0],3,[],0⟩
abbrev A6:Ren:=⟨[1],3,[],0⟩
abbrev A7:Ren:=⟨[0],1,[0],1⟩
abbrev A8:Ren:=⟨[],0,[],1⟩
abbrev A9:Ren:=⟨[0],2,[],0⟩
abbrev Aa:Ren:=⟨[],3,[],0⟩
abbrev Ab:Ren:=⟨[1],2,[],0⟩
abbrev Ac:Ren:=⟨[0],4,[],0⟩
abbrev Ad:Ren:=⟨[],0,[0,1],2⟩
abbrev Ae:Ren:=⟨[0,1],2,[0],1⟩
abbrev Af:Ren:=⟨[0],3,[0],1⟩
abbrev Ag:Ren:=⟨[0,1,2],3,[0,1],2⟩
abbrev Ah:Ren:=⟨[1],3,[0],1⟩
abbrev Ai:Ren:=⟨[0],2,[0],1⟩
abbrev Aj:Ren:=⟨[],2,[],1⟩
abbrev Ak:Ren:=⟨[0,1],2,[0,1],2⟩
abbrev Al:Ren:=⟨[0,2,3],4,[],0⟩
abbrev Am:Ren:=⟨[0,1],3,[0],1⟩
abbrev An:Ren:=⟨[],4,[],0⟩
abbrev Ao:Ren:=⟨[],0,[],2⟩
abbrev Ap:Ren:=⟨[],3,[],2⟩
abbrev Aq:Ren:=⟨[],1,[],1⟩
abbrev Ar:Ren:=⟨[0,1,2],5,[],0⟩
abbrev As:Ren:=⟨[0,2],3,[],0⟩
abbrev At:Ren:=⟨[1],4,[],0⟩
abbrev Au:Ren:=⟨[0,1,2],4,[],0⟩
abbrev Av:Ren:=⟨[],5,[],0⟩
abbrev Aw:Ren:=⟨[],1,[],2⟩
abbrev Ax:Ren:=⟨[],1,[0,1],2⟩
abbrev Ay:Ren:=⟨[1,0],3,[0],1⟩
abbrev Az:Ren:=⟨[0,1],3,[0,1],2⟩
abbrev C1:Ren:=⟨[0],1,[],1⟩
abbrev C3:Ren:=⟨[0,1,2,3],4,[],0⟩
abbrev C4:=List UInt8
variable {mx:MX}
def qL (n:Nat)(a0:List Int):Option yy:=
 some (yy.mk a0 0)
theorem Ym {n:Nat} {a0:(List Int)} {r:yy}:qL n a0=some r→AC mx 5 [ql 1 (cI .i64) a0] [] (qp 0) [[ql 1 (cI .i64) r.f_L,qi r.kH]]:=by
 delta qL
 exact fnL Tryz.func5 rfl<|rgL<|rgL<|zg<|rJ O
def z6 (n:Nat)(a1:Int)(m0:yy):Option (Int×yy):=
 if(decide (m0.kH≥(m0.f_L.length:Int)))=true then(some (0,m0))else((xe m0.f_L (wrap .i64 ((wrap .i64 (m0.kH+1))-1))).bind fun x1=>
 (Bp x1 a1).bind fun x2=>
 (Bp (wrap .i64 (x2+a1)) a1).bind fun x3=>
 some (x3,(yy.mk m0.f_L (wrap .i64 (m0.kH+1)))))
theorem xj {n:Nat} {a1:Int} {m0:yy} {r:(Int×yy)}:z6 n a1 m0=some r→AC mx 6 [qp 0,qi a1] [[ql 1 (cI .i64) m0.f_L,qi m0.kH]] (qi r.1) [[ql 1 (cI .i64) r.2.f_L,qi r.2.kH]]:=by
 delta z6
 exact fnL Tryz.func6 rfl<|rgL<|lfL (fun z=>zs [0,1,2,3,4,5,6,7,8,9] [] [[],[0],[0,1],[0,1,2],[],[4],[4,5],[4,5,6],[4,5,6,7],[0,1,2,3,4,5,6,7,8]] [] [(0,qp 0),(1,qi a1),(14,qb (decide (m0.kH≥(m0.f_L.length:Int))))] (dS [0,1,2,3,4,5,6,7]<|dP (yg (c:=(cI .i64)) (l:=m0.f_L) (e:=3) (sz:=1) (sz':=1) (b:=8) (tok:= .none))<|dS [9]<|dE O) z)<|bFL (rgL<|zg<|rJ O)<|rgL<|bEL fun x1 hx1=>bEL fun x2 hx2=>bEL fun x3 hx3=>lfL (fun z=>zs [0,1,2,3,4,5,6,7,8,9,10,11,12,13,14,15,16,17] [] [[],[0],[0,1],[0,1,2],[],[4],[4,5],[4,5,6],[4,5,6,7],[0,1,2,3,4,5,6,7,8],[0,1,2,3,4,5,6,7,8,9],[],[0,1,2,3,4,5,6,7,8,9,10,11],[],[0,1,2,3,4,5,6,7,8,9,10,11,12,13],[],[0,1,2,3,4,5,6,7,8,9,10,11,12,13,14,15],[0,1,2,3,4,5,6,7,8,9,10,11,12,13,14,15,16]] [] [(4,qi x3)] (dS [0,1,2,3,4,5,6,7,8]<|dP (zR (c:=(cI .i64)) (e:=3) (sz:=1) (b:=8) (tok:= .none) hx1)<|dS [10,11]<|dP (QL (k:= .i64) (d:=(tyT 3).d) hx2)<|dS [13,14,15]<|dP (QL (k:= .i64) (d:=(tyT 3).d) hx3)<|dS [17]<|dE O) z)<|zg<|rJ O
def wY (n:Nat)(a0 a1:C4):Option (C4×C4×Bool):=
 (ZU n a0 a1).bind fun r1=>
 if(decide (r1≥0))=true then((ssl a0 0 r1).bind fun x2=>
 (ssl a0 (wrap .i64 (r1+(a1.length:Int))) (a0.length)).bind fun x3=>
 some (x2,x3,true))else(some (a0,([]:C4),false))
theorem dn {n:Nat} {a0:C4} {a1:C4} {r:(C4×C4×Bool)}:wY n a0 a1=some r→AC mx 37 [qs a0,qs a1] [] (.tuple [qs r.1,qs r.2.1,qb r.2.2]) []:=by
 delta wY
 exact fnL Tryz.func37 rfl<|rgL<|bEL fun r1 hr1=>rCL (kCL 2 J (Ja hr1) edL)<|rgL<|bFL (bEL fun x2 hx2=>bEL fun x3 hx3=>lfL (fun z=>zs [0,1,2,3,4,5,6,7,8,9,10,11] [] [[],[],[0,1],[],[],[],[5],[4,5,6],[3,4,5,6,7],[0,1,2],[0,1,2,3,4,5,6,7,8,9],[0,1,2,3,4,5,6,7,8,9,10]] [] [(4,qs x2),(5,qs x3),(6,qb true)] (dS [0,1]<|dP (vY (k:= .i64) hx2)<|dS [3,4,5,6,7]<|dP (qw (k:= .i64) hx3)<|dS [9,10,11]<|dE J) z)<|zg<|rJ J)<|rgL<|zg<|rJ J
def vN (n:Nat)(a0 a1:C4):Option (C4×C4×Bool):=
 (wY n a0 a1).bind fun r1=>
 some (r1.1,r1.2.1,r1.2.2)
theorem ZA {n:Nat} {a0:C4} {a1:C4} {r:(C4×C4×Bool)}:vN n a0 a1=some r→AC mx 16 [qs a0,qs a1] [] (.tuple [qs r.1,qs r.2.1,qb r.2.2]) []:=by
 delta vN
 exact fnL Tryz.func16 rfl<|rgL<|bEL fun r1 hr1=>rCL (kCL 2 J (dn hr1) edL)<|zg<|rJ J
def xZ (n:Nat)(a0 a1:C4):Option Bool:=
 (if(decide ((a0.length:Int)≥(a1.length:Int)))=true then((ssl a0 0 (a1.length:Int)).bind fun x1=>
 some (x1==a1))else(some false)).bind fun y3=>
 some y3
theorem bX {n:Nat} {a0:C4} {a1:C4} {r:Bool}:xZ n a0 a1=some r→AC mx 38 [qs a0,qs a1] [] (qb r) []:=by
 delta xZ
 exact fnL Tryz.func38 rfl<|rgL<|bEL fun y3 hE=>rgF hE ⟨18,[(4,qb y3)]⟩ ⟨[],[]⟩ (gFL 6 10 (bEL fun x1 hx1=>kPL 9 (vY (k:= .i64) hx1)<|eJ J)<|eJ J)<|zg<|rJ J
def wG (n:Nat)(a0 a1:C4):Option Bool:=
 (xZ n a0 a1).bind fun r1=>
 some r1
theorem gE {n:Nat} {a0:C4} {a1:C4} {r:Bool}:wG n a0 a1=some r→AC mx 17 [qs a0,qs a1] [] (qb r) []:=by
 delta wG
 exact fnL Tryz.func17 rfl<|rgL<|bEL fun r1 hr1=>rCL (kCL 2 J (bX hr1) edL)<|zg<|rJ J
def wv (n:Nat)(a0:C4):Nat→Int→Nat→Option Int
 |0,_,_=>none
 | k+1,v6,v7=>
  if(Nat.blt v7 (a0.length))=true then(wv n a0 k (wrap .i64 (v6+1)) (v7+(YI a0 v7).2))else(some v6)
def ui (n:Nat)(a0:C4):Option Int:=
 (wv n a0 n 0 0).bind fun y4=>
 some y4
theorem bP {n:Nat} {a0:C4} {r:Int}:ui n a0=some r→AC mx 307 [qs a0] [] (qi r) []:=by
 delta ui
 exact fnL Tryz.func307 rfl<|rgL<|rgL<|blL (fun y4=>⟨10,[(2,qi y4)]⟩) (fun y4=>⟨[],[]⟩) (fun y4=>lpL (fun k x=>wv n a0 k x.1 x.2) (0,0) O (fun x=>⟨10,[(2,qi x.1),(4, .iter 0)]⟩) (fun x=>⟨[[.sit a0 x.2]],[]⟩) fun k x=>by obtain⟨v6,v7⟩:=x; rw [wv]; exact lfL (fun z=>Kn z)<|kFL (fun hb=>lfL (fun z=>kV 0 1 0 0 (JZ hb) z)<|lfL (fun z=>Uh (⟨10,[(2,qi v6),(4, .iter 0),(6,qb true)]⟩) (⟨[[.sit a0 (v7+(YI a0 v7).2)]],[]⟩) yF (kE O) z)<|bTL<|zY<|xi (dq (P:=Tryz.prog) (gl:=gl0 mx) zI)<|z8 fun h=>⟨(wrap .i64 (v6+1),v7+(YI a0 v7).2),h,wk O⟩) fun hb=>lfL (fun z=>kV 0 1 0 0 (Qb hb) z)<|lfL (fun z=>Uh (⟨10,[(2,qi v6),(4, .iter 0),(6,qb false)]⟩) (⟨[[.sit a0 v7]],[]⟩) yF (kE O) z)<|bNL<|zW<|zS<|zN<|jnL A0) fun y4=>rgL<|zg<|rJ J
def vp (n:Nat)(a0:C4):Option (Int×Int):=
 if(decide ((a0.length:Int)<1))=true then(some (65533,0))else(none)
theorem kK {n:Nat} {a0:C4} {r:(Int×Int)}:vp n a0=some r→AC mx 399 [qs a0] [] (.tuple [.int .i32 r.1,qi r.2]) []:=by
 delta vp
 exact fnL Tryz.func399 rfl<|rgL<|rgL<|rgL<|bFL (rgL<|zg<|rJ J) nEL
def vW (n:Nat)(a0:C4):Option (Int×Int):=
 (if(!(a0==([]:C4)))=true then((xD a0 0).bind fun x1=>
 some (decide (x1<128)))else(some false)).bind fun y3=>
 if y3=true then((xD a0 0).bind fun x4=>
 some (wrap .i32 x4,1))else((vp n a0).bind fun r5=>
 some (r5.1,r5.2))
theorem bJ {n:Nat} {a0:C4} {r:(Int×Int)}:vW n a0=some r→AC mx 308 [qs a0] [] (.tuple [.int .i32 r.1,qi r.2]) []:=by
 delta vW
 exact fnL Tryz.func308 rfl<|rgL<|bEL fun y3 hE=>rgF hE ⟨19,[(0,qs a0),(10,qb y3)]⟩ ⟨[],[]⟩ (gFL 3 6 (bEL fun x1 hx1=>kPL 4 (zZ hx1)<|eJ J)<|eJ J)<|bFL (bEL fun x4 hx4=>rCL (kPL 1 (zZ hx4) edL)<|zg<|rJ J)<|bEL fun r5 hr5=>rCL (kCL 1 J (kK hr5) edL)<|zg<|rJ J
def qe (n:Nat)(y5:Int)(x7:Nat):Nat→C4→Int→(List C4)→Option (C4×(List C4))
 |0,_,_,_=>none
 | k+1,v55,v56,v57=>
  if(decide (v56<(wrap .i64 (y5-1))))=true then((vW n v55).bind fun r73=>
  (ssl v55 0 r73.2).bind fun x74=>
  (pJ x7 v56).bind fun x75=>
  (VT v57 (x75*1) x74).bind fun x76=>
  (ssl v55 r73.2 (v55.length)).bind fun x77=>
  qe n y5 x7 k x77 (wrap .i64 (v56+1)) x76)else(some (v55,v57))
def gp (n:Nat)(a0:C4)(a1:Int):Option (List C4):=
 (ui n a0).bind fun r1=>
 (if(decide (a1<0))=true then(some true)else(some (decide (a1>r1)))).bind fun y3=>
 (if y3=true then(some r1)else(some a1)).bind fun y5=>
 (Un 16 y5 y5).bind fun x7=>
 (qe n y5 x7 n a0 0 (List.replicate x7 (([]:C4):C4))).bind fun y43=>
 if(decide (y5>0))=true then((pJ x7 (wrap .i64 (y5-1))).bind fun x78=>
 (VT y43.2 (x78*1) y43.1).bind fun x79=>
 (Jj x7 x79).bind fun x80=>
 some x80)else((Jj x7 y43.2).bind fun x81=>
 some x81)
theorem YG {n:Nat} {a0:C4} {a1:Int} {r:(List C4)}:gp n a0 a1=some r→AC mx 203 [qs a0,qi a1] [] (ql 1 cS r) []:=by
 delta gp
 exact fnL Tryz.func203 rfl<|rgL<|bEL fun r1 hr1=>rCL (kCL 1 J (bP hr1) edL)<|bEL fun y3 hE=>rgF hE ⟨50,[(0,qs a0),(1,qi a1),(5,qi r1),(18,qb y3)]⟩ ⟨[],[]⟩ (gFL 3 14 (eJ J)<|eJ J)<|cuL (fun y5=>⟨50,[(0,qs a0),(1,qi y5)]⟩) (fun y5=>⟨[],[]⟩) (fun y5=>bFL (xi zI<|jnL J)<|jnL J) fun y5=>bEL fun x7 hx7=>rCL (lfL (fun z=>kV 1 0 0 0 (K8 (T:=tyT) (e:=9) (k1:= .i64) (k2:= .i64) (bytes:=16) (cell:=none) (c:=vS) uS ([]:C4) ⟨O5,O5⟩ hx7) z) edL)<|rgL<|blL (fun y43=>⟨50,[(0,qs y43.1),(1,qi y5),(6, .own 0 x7 1)]⟩) (fun y43=>⟨[[.buf (List.map vS y43.2)]],[]⟩) (fun y43=>lpL (fun k x=>qe n y5 x7 k x.1 x.2.1 x.2.2) (a0,0,List.replicate x7 (([]:C4):C4)) O (fun x=>⟨50,[(0,qs x.1),(1,qi y5),(6, .own 0 x7 1),(7,qi x.2.1)]⟩) (fun x=>⟨[[.buf (List.map vS x.2.2)]],[]⟩) fun k x=>by obtain⟨v55,v56,v57⟩:=x; rw [qe]; exact rgL<|bFL (zY<|bEL fun r73 hr73=>rCL (kCL 1 A0 (bJ hr73) edL)<|bEL fun x74 hx74=>bEL fun x75 hx75=>bEL fun x76 hx76=>rCL (kPL 4 (vY (k:= .i64) hx74)<|kPL 5 (XF (id:=0) (e:=9) (sz:=1) (b:=16) hx75)<|lfL (fun z=>kV 6 1 0 0 (YZ (T:=tyT) (t:=9) (c:=vS) (l:=v57) (off:=(x75*1)) (x:=x74) uS O5 hx76) z) edL)<|bEL fun x77 hx77=>xC yF (kPL 2 (qw (k:= .i64) hx77) edL)<|z8<|xi zI fun h=>⟨(x77,wrap .i64 (v56+1),x76),h,wk O⟩)<|zW<|zS<|zN<|jnL O) fun y43=>rgL<|bFL (bEL fun x78 hx78=>bEL fun x79 hx79=>rCL (kPL 4 (XF (id:=0) (e:=9) (sz:=1) (b:=16) hx78)<|lfL (fun z=>kV 5 1 0 0 (YZ (T:=tyT) (t:=9) (c:=vS) (l:=y43.2) (off:=(x78*1)) (x:=y43.1) uS O5 hx79) z) edL)<|rgL<|bEL fun x80 hx80=>w7 (Wk.frz (c:=vS) (l:=x79) 4 0 x7 hx80 O5)<|zg<|rJ A0)<|rgL<|bEL fun x81 hx81=>w7 (Wk.frz (c:=vS) (l:=y43.2) 4 0 x7 hx81 O5)<|zg<|rJ A0
def wj (n:Nat)(a0:C4)(y4:Int)(a1:C4)(a2:Int)(x7:Nat):Nat→C4→Int→(List C4)→Option (C4×Int×(List C4))
 |0,_,_,_=>none
 | k+1,v36,v37,v38=>
  if(decide (v37<(wrap .i64 ((if(wrap .i64 ((a0.length:Int)+1))<y4 then wrap .i64 ((a0.length:Int)+1)else y4)-1))))=true then((pL n v36 a1).bind fun r44=>
  if(decide (r44<0))=true then(some (v36,v37,v38))else((ssl v36 0 (wrap .i64 (r44+a2))).bind fun x45=>
  (pJ x7 v37).bind fun x46=>
  (VT v38 (x46*1) x45).bind fun x47=>
  (ssl v36 (wrap .i64 (r44+(a1.length:Int))) (v36.length)).bind fun x48=>
  wj n a0 y4 a1 a2 x7 k x48 (wrap .i64 (v37+1)) x47))else(some (v36,v37,v38))
def uD (n:Nat)(a0 a1:C4)(a2 a3:Int):Option (List C4):=
 if(a3==0)=true then(some ([]:List C4))else(if(a1==([]:C4))=true then((gp n a0 a3).bind fun r1=>
 some r1)else((if(decide (a3<0))=true then((X0 n a0 a1).bind fun r6=>
 some (wrap .i64 (r6+1)))else(some a3)).bind fun y4=>
 (Un 16 (if(wrap .i64 ((a0.length:Int)+1))<y4 then wrap .i64 ((a0.length:Int)+1)else y4) (if(wrap .i64 ((a0.length:Int)+1))<y4 then wrap .i64 ((a0.length:Int)+1)else y4)).bind fun x7=>
 (wj n a0 y4 a1 a2 x7 n a0 0 (List.replicate x7 (([]:C4):C4))).bind fun y29=>
 (pJ x7 y29.2.1).bind fun x49=>
 (VT y29.2.2 (x49*1) y29.1).bind fun x50=>
 (osl x7 (wrap .i64 (y29.2.1+1))).bind fun x51=>
 (Jj x51 x50).bind fun x52=>
 some x52))
theorem g9 {n:Nat} {a0:C4} {a1:C4} {a2:Int} {a3:Int} {r:(List C4)}:uD n a0 a1 a2 a3=some r→AC mx 90 [qs a0,qs a1,qi a2,qi a3] [] (ql 1 cS r) []:=by
 delta uD
 exact fnL Tryz.func90 rfl<|rgL<|rgL<|bFL (rgL<|zg<|rJ J)<|rgL<|bFL (bEL fun r1 hr1=>rCL (kCL 2 J (YG hr1) edL)<|zg<|rJ J)<|rgL<|cuL (fun y4=>⟨66,[(0,qs a0),(1,qs a1),(2,qi a2),(3,qi y4)]⟩) (fun y4=>⟨[],[]⟩) (fun y4=>bFL (bEL fun r6 hr6=>xC zI (kCL 2 J (Qe hr6) edL)<|jnL J)<|jnL J) fun y4=>rgL<|bEL fun x7 hx7=>rCL (lfL (fun z=>kV 1 0 0 0 (K8 (T:=tyT) (e:=9) (k1:= .i64) (k2:= .i64) (bytes:=16) (cell:=none) (c:=vS) uS ([]:C4) ⟨O5,O5⟩ hx7) z) edL)<|rgL<|rgL<|blL (fun y29=>⟨66,[(0,qs y29.1),(9, .own 0 x7 1),(10,qi y29.2.1)]⟩) (fun y29=>⟨[[.buf (List.map vS y29.2.2)]],[]⟩) (fun y29=>lpL (fun k x=>wj n a0 y4 a1 a2 x7 k x.1 x.2.1 x.2.2) (a0,0,List.replicate x7 (([]:C4):C4)) O (fun x=>⟨66,[(0,qs x.1),(1,qs a1),(2,qi a2),(3,qi (wrap .i64 ((if(wrap .i64 ((a0.length:Int)+1))<y4 then wrap .i64 ((a0.length:Int)+1)else y4)-1))),(9, .own 0 x7 1),(10,qi x.2.1)]⟩) (fun x=>⟨[[.buf (List.map vS x.2.2)]],[]⟩) fun k x=>by obtain⟨v36,v37,v38⟩:=x; rw [wj]; exact rgL<|bFL (zY<|bEL fun r44 hr44=>rCL (kCL 2 A0 (J4 hr44) edL)<|rgL<|bFL (zW<|pD<|zS<|zN<|jnL O)<|bEL fun x45 hx45=>bEL fun x46 hx46=>bEL fun x47 hx47=>rCL (kPL 6 (vY (k:= .i64) hx45)<|kPL 7 (XF (id:=0) (e:=9) (sz:=1) (b:=16) hx46)<|lfL (fun z=>kV 8 1 0 0 (YZ (T:=tyT) (t:=9) (c:=vS) (l:=v38) (off:=(x46*1)) (x:=x45) uS O5 hx47) z) edL)<|bEL fun x48 hx48=>rCL (kPL 5 (qw (k:= .i64) hx48) edL)<|xi (dq (P:=Tryz.prog) (gl:=gl0 mx) zI)<|z8 fun h=>⟨(x48,wrap .i64 (v37+1),x47),h,wk O⟩)<|zW<|zS<|zN<|jnL O) fun y29=>bEL fun x49 hx49=>bEL fun x50 hx50=>rCL (kPL 3 (XF (id:=0) (e:=9) (sz:=1) (b:=16) hx49)<|lfL (fun z=>kV 4 1 0 0 (YZ (T:=tyT) (t:=9) (c:=vS) (l:=y29.2.2) (off:=(x49*1)) (x:=y29.1) uS O5 hx50) z) edL)<|bEL fun x51 hx51=>rCL (kPL 3 (Qm (id:=0) (k:= .i64) (e:=9) (sz:=1) (b:=16) hx51) edL)<|bEL fun x52 hx52=>w7 (Wk.frz (c:=vS) (l:=x50) 8 0 x51 hx52 O5)<|zg<|rJ A0
def qx (n:Nat)(a0 a1:C4)(a2:Int):Option (List C4):=
 (uD n a0 a1 0 a2).bind fun r1=>
 some r1
theorem Y4 {n:Nat} {a0:C4} {a1:C4} {a2:Int} {r:(List C4)}:qx n a0 a1 a2=some r→AC mx 39 [qs a0,qs a1,qi a2] [] (ql 1 cS r) []:=by
 delta qx
 exact fnL Tryz.func39 rfl<|rgL<|bEL fun r1 hr1=>rCL (kCL 3 J (g9 hr1) edL)<|zg<|rJ J
def yh (n:Nat)(m0:zk):Option (C4×zk):=
 if((m0.yz.length:Int)==0)=true then(some (([]:C4),(zk.mk m0.yz true)))else((xe m0.yz 0).bind fun x1=>
 (lsl m0.yz 1 (m0.yz.length)).bind fun x2=>
 some (x1,(zk.mk x2 m0.zG)))
theorem xg {n:Nat} {m0:zk} {r:(C4×zk)}:yh n m0=some r→AC mx 40 [qp 0] [zk.cells m0] (qs r.1) [zk.cells r.2]:=by
 delta yh
 exact fnL Tryz.func40 rfl<|rgL<|rCL (kPL 4 (yg (c:=cS) (l:=m0.yz) (e:=9) (sz:=1) (sz':=1) (b:=16) (tok:= .none)) edL)<|bFL (rgL<|rgL<|zg<|rJ O)<|bEL fun x1 hx1=>rCL (kPL 4 (zR (c:=cS) (e:=9) (sz:=1) (b:=16) (tok:= .none) hx1) edL)<|bEL fun x2 hx2=>rCL (kPL 5 (Qi (k:= .i64) (c:=cS) (e:=9) (sz:=1) (b:=16) (tok:= .none) hx2) edL)<|rgL<|zg<|rJ O
def wA (n:Nat)(a1:C4)(m0:zk):Option (Int×zk):=
 ((Vu n a1).bind fun r1=>
 onE r1.2 (some (r1.1,(none:Option Unit))) (fun l2=>some (r1.1,(some ())))).bind fun y5=>
 (onE y5.2 (if(decide (y5.1<0))=true then(some true)else(if(decide (y5.1>4611686018427387904))=true then(some true)else((Yh n y5.1).bind fun r7=>
 some (!(r7==a1))))) (fun l6=>some true)).bind fun y9=>
 if y9=true then(some (0,(zk.mk m0.yz true)))else(some (y5.1,m0))
theorem j9 {n:Nat} {a1:C4} {m0:zk} {r:(Int×zk)}:wA n a1 m0=some r→AC mx 91 [qp 0,qs a1] [zk.cells m0] (qi r.1) [zk.cells r.2]:=by
 delta wA
 exact fnL Tryz.func91 rfl<|rgL<|bEL fun y5 hE=>rgF hE ⟨32,[(0,qp 0),(1,qs a1),(5,qi y5.1),(6,oer 405 y5.2)]⟩ ⟨[zk.cells m0],[]⟩ (bEL fun r1 hr1=>kCL 1 A0 (QK hr1)<|by cases __:r1.2 with|none=>exact fun h=>imA (onN h) (eJ O)|some l2=>exact fun h=>imA (onS h) (eJ O))<|bEL fun y9 hE=>rgF hE ⟨32,[(0,qp 0),(5,qi y5.1),(27,qb y9)]⟩ ⟨[zk.cells m0],[]⟩ (by cases __:y5.2 with|none=>exact fun h=>imA (onN h) (gFL 7 18 (eJ O)<|gFL 11 22 (eJ O)<|bEL fun r7 hr7=>kCL 12 A0 (XN hr7)<|eJ O)|some l6=>exact fun h=>imA (onS h) (eJ O))<|bFL (rgL<|rgL<|zg<|rJ O)<|rgL<|zg<|rJ O
def zu (n:Nat)(m0:zk):Option (Int×zk):=
 (yh n m0).bind fun r1=>
 (wA n r1.1 r1.2).bind fun r2=>
 some (r2.1,r2.2)
theorem z1 {n:Nat} {m0:zk} {r:(Int×zk)}:zu n m0=some r→AC mx 41 [qp 0] [zk.cells m0] (qi r.1) [zk.cells r.2]:=by
 delta zu
 exact fnL Tryz.func41 rfl<|rgL<|bEL fun r1 hr1=>bEL fun r2 hr2=>rCL (kCL 2 O (xg hr1)<|kCL 3 O (j9 hr2) edL)<|zg<|rJ O
def bv (n:Nat)(a0:Int):Option Int:=
 (if(decide (a0≥48))=true then(some (decide (a0≤57)))else(some false)).bind fun y6=>
 if y6=true then(some (wrap .i64 (wrap .u8 (a0-48))))else((if(decide (a0≥97))=true then(some (decide (a0≤102)))else(some false)).bind fun y8=>
 if y8=true then(some (wrap .i64 ((wrap .i64 (wrap .u8 (a0-97)))+10)))else(some (-1)))
theorem Zp {n:Nat} {a0:Int} {r:Int}:bv n a0=some r→AC mx 207 [qu a0] [] (qi r) []:=by
 delta bv
 exact fnL Tryz.func207 rfl<|rgL<|zY<|bEL fun y6 hE=>rgF hE ⟨24,[(0,qu a0),(3,qb y6)]⟩ ⟨[],[]⟩ (gFL 3 6 (eJ J)<|eJ J)<|bFL (rgL<|zg<|yi<|rJ J)<|bEL fun y8 hE=>rgF hE ⟨24,[(0,qu a0),(13,qb y8)]⟩ ⟨[],[]⟩ (gFL 3 16 (eJ J)<|eJ J)<|bFL (rgL<|zg<|yi<|rJ J)<|z8<|rgL<|zg<|rJ J
def vA (n:Nat)(a0:C4):Nat→(List Int)→Int→Option (Ctl (C4×Bool) (List Int))
 |0,_,_=>none
 | k+1,v65,v66=>
  if(decide (v66<(a0.length:Int)))=true then((xD a0 v66).bind fun x88=>
  (xD a0 (wrap .i64 (v66+1))).bind fun x89=>
  (bv n x88).bind fun r90=>
  (bv n x89).bind fun r91=>
  (if(decide (r90<0))=true then(some true)else(some (decide (r91<0)))).bind fun y93=>
  if y93=true then(some (.ret (([]:C4),false)))else((jO 1 v65 ([wrap .u8 (ior .i64 (wrap .i64 (r90*16)) r91)]:List Int)).bind fun x94=>
  vA n a0 k x94 (wrap .i64 (v66+2))))else(some (.nxt v65))
def jg (n:Nat)(a0:C4):Option (C4×Bool):=
 if((Int.tmod (a0.length:Int) 2) !=0)=true then(some (([]:C4),false))else(yM (vA n a0 n ([]:List Int) 0) (fun r=>some r) (fun y47=>
 some (b2s y47,true)))
theorem WM {n:Nat} {a0:C4} {r:(C4×Bool)}:jg n a0=some r→AC mx 92 [qs a0] [] (.tuple [qs r.1,qb r.2]) []:=by
 delta jg
 exact fnL Tryz.func92 rfl<|rgL<|rgL<|bFL (rgL<|zg<|rJ J)<|rgL<|rgL<|bcL (fun y47=>⟨43,[(4, .sl 1 (List.map (cI .u8) y47) (.fam 0 (y47.length)))]⟩) (fun y47=>⟨[],[y47.length]⟩) (fun o48 hr49=>w7 (wk (fr':=⟨43,[(0,qs a0),(4,qn),(5,qi 0)]⟩) (st':=⟨[],[]⟩) J)<|w7 Wk.nilFam<|lpL (fun k x=>vA n a0 k x.1 x.2) (([]:List Int),0) A2 (fun x=>⟨43,[(0,qs a0),(4, .sl 1 (List.map (cI .u8) x.1) (.fam 0 (x.1.length))),(5,qi x.2)]⟩) (fun x=>⟨[],[x.1.length]⟩) fun k x=>by obtain⟨v65,v66⟩:=x; rw [vA]; exact rgL<|bFL (zY<|bEL fun x88 hx88=>bEL fun x89 hx89=>bEL fun r90 hr90=>bEL fun r91 hr91=>lfL (fun z=>zs [0,1,2,4,5,6,7,3,8,9,10] [3,8] [[],[],[0,1],[0,1,2],[],[],[5],[4,5,6],[0,1,2,3,4,5,6,7],[0,1,2,3,4,5,6,7,8],[0,1,2,3,4,5,6,7,8,9]] [4] [(0,qs a0),(5,qi v66),(6,qi r90),(7,qi r91)] (dS [0,1]<|dP (zZ hx88)<|dS [4,5,6]<|dP (zZ hx89)<|dC (zL 7 (zZ hx89) (zL 2 (zZ hx88) yU)) A8 (Zp hr90)<|dC (zL 7 (zZ hx89) (zL 2 (zZ hx88) yU)) A8 (Zp hr91)<|dS [9,10]<|dE A2) z)<|bEL fun y93 hE=>rgF hE ⟨43,[(0,qs a0),(4, .sl 1 (List.map (cI .u8) v65) (.fam 0 (v65.length))),(5,qi v66),(6,qi r90),(7,qi r91),(32,qb y93)]⟩ ⟨[],[v65.length]⟩ (gFL 3 29 (eJ A2)<|eJ A2)<|bFL (rgL<|zg<|yi<|yb<|hvL hr49<|zK<|rJ A8)<|bEL fun x94 hx94=>xC yF (lfL (fun z=>kA 7 0 (cI .u8) (e:=5) (e2:=5) (sz:=1) (bytes:=1) (b2:=1) (tok2:= .exact) hx94 z) edL)<|z8<|xi zI fun h=>⟨(x94,wrap .i64 (v66+2)),h,wk A2⟩)<|zW<|zS<|zN<|jCL A2) fun y47=>rCL (lfL (fun z=>kB 1 y47 z) edL)<|zg<|rJ A8
def yx (n:Nat)(m0:zk):Option (C4×zk):=
 (yh n m0).bind fun r1=>
 if(r1.1==([45]:C4))=true then(some (([]:C4),r1.2))else((jg n r1.1).bind fun r2=>
 (if r1.2.zG=true then(some true)else(if(!r2.2)=true then(some true)else(some (r2.1==([]:C4))))).bind fun y4=>
 some (r2.1,(zk.mk r1.2.yz y4)))
theorem vb {n:Nat} {m0:zk} {r:(C4×zk)}:yx n m0=some r→AC mx 42 [qp 0] [zk.cells m0] (qs r.1) [zk.cells r.2]:=by
 delta yx
 exact fnL Tryz.func42 rfl<|rgL<|bEL fun r1 hr1=>rCL (kCL 1 O (xg hr1) edL)<|rgL<|bFL (rgL<|zg<|rJ O)<|bEL fun r2 hr2=>rCL (kCL 1 A0 (WM hr2) edL)<|bEL fun y4 hE=>rgF hE ⟨31,[(4,qs r2.1)]⟩ ⟨[[ql 1 cS r1.2.yz,qb y4]],[]⟩ (gFL 6 20 (eJ O)<|gFL 10 24 (eJ O)<|eJ O)<|rgL<|zg<|rJ O
def yO (n:Nat)(m0:zk):Option (Int×zk):=
 (if m0.zG=true then(some true)else(some (decide ((m0.yz.length:Int)>0)))).bind fun y2=>
 if y2=true then(some (32,m0))else(some (0,m0))
theorem v8 {n:Nat} {m0:zk} {r:(Int×zk)}:yO n m0=some r→AC mx 43 [qp 0] [zk.cells m0] (qi r.1) [zk.cells r.2]:=by
 delta yO
 exact fnL Tryz.func43 rfl<|rgL<|bEL fun y2 hE=>rgF hE ⟨15,[(14,qb y2)]⟩ ⟨[zk.cells m0],[]⟩ (gFL 5 7 (eJ O)<|kPL 9 (yg (c:=cS) (l:=m0.yz) (e:=9) (sz:=1) (sz':=1) (b:=16) (tok:= .none))<|eJ O)<|bFL (rgL<|zg<|rJ O)<|rgL<|zg<|rJ O
def wU (n:Nat)(a0 a1:C4):Option (List C4):=
 (uD n a0 a1 0 (-1)).bind fun r1=>
 some r1
theorem jM {n:Nat} {a0:C4} {a1:C4} {r:(List C4)}:wU n a0 a1=some r→AC mx 46 [qs a0,qs a1] [] (ql 1 cS r) []:=by
 delta wU
 exact fnL Tryz.func46 rfl<|rgL<|bEL fun r1 hr1=>rCL (kCL 2 J (g9 hr1) edL)<|zg<|rJ J
def gj (n:Nat):Option (List yR):=
 some ([(yR.mk ([67,78]:C4) ([50,46,53,46,52,46,51]:C4)),(yR.mk ([67]:C4) ([50,46,53,46,52,46,54]:C4)),(yR.mk ([76]:C4) ([50,46,53,46,52,46,55]:C4)),(yR.mk ([79]:C4) ([50,46,53,46,52,46,49,48]:C4)),(yR.mk ([79,85]:C4) ([50,46,53,46,52,46,49,49]:C4)),(yR.mk ([68,67]:C4) ([48,46,57,46,50,51,52,50,46,49,57,50,48,48,51,48,48,46,49,48,48,46,49,46,50,53]:C4)),(yR.mk ([69]:C4) ([49,46,50,46,56,52,48,46,49,49,51,53,52,57,46,49,46,57,46,49]:C4))]:List yR)
theorem XL {n:Nat} {r:(List yR)}:gj n  =some r→AC mx 167 [] [] (ql 2 yR.cells r) []:=by
 delta gj
 exact fnL Tryz.func167 rfl<|rgL<|rgL<|zg<|rJ J
def gZ (n:Nat)(a0:Int):Option Bool:=
 (if(decide (a0≥97))=true then(if(decide (a0≤122))=true then(some true)else(if(decide (a0≥65))=true then(if(decide (a0≤90))=true then(some true)else(if(decide (a0≥48))=true then(some (decide (a0≤57)))else(some false)))else(if(decide (a0≥48))=true then(some (decide (a0≤57)))else(some false))))else(if(decide (a0≥65))=true then(if(decide (a0≤90))=true then(some true)else(if(decide (a0≥48))=true then(some (decide (a0≤57)))else(some false)))else(if(decide (a0≥48))=true then(some (decide (a0≤57)))else(some false)))).bind fun y2=>
 some y2
theorem Zq {n:Nat} {a0:Int} {r:Bool}:gZ n a0=some r→AC mx 316 [qu a0] [] (qb r) []:=by
 delta gZ
 exact fnL Tryz.func316 rfl<|rgL<|bEL fun y2 hE=>rgF hE ⟨25,[(2,qb y2)]⟩ ⟨[],[]⟩ (gFL 3 5 (gFL 7 9 (eJ J)<|gFL 10 12 (gFL 15 17 (eJ J)<|gFL 18 20 (eJ J)<|eJ J)<|gFL 18 20 (eJ J)<|eJ J)<|gFL 10 12 (gFL 15 17 (eJ J)<|gFL 18 20 (eJ J)<|eJ J)<|gFL 18 20 (eJ J)<|eJ J)<|zg<|rJ J
def jW (n:Nat)(a0:Int):Option Bool:=
 ((gZ n a0).bind fun r1=>
 if r1=true then(some true)else((gN n ([32,39,40,41,45,46,47,58,63,64,95]:C4) a0).bind fun r2=>
 some (decide (r2≥0)))).bind fun y4=>
 some y4
theorem ZY {n:Nat} {a0:Int} {r:Bool}:jW n a0=some r→AC mx 281 [qu a0] [] (qb r) []:=by
 delta jW
 exact fnL Tryz.func281 rfl<|rgL<|bEL fun y4 hE=>rgF hE ⟨10,[(2,qb y4)]⟩ ⟨[],[]⟩ (bEL fun r1 hr1=>kCL 1 J (Zq hr1)<|gFL 3 5 (eJ J)<|bEL fun r2 hr2=>kCL 4 J (gm hr2)<|eJ J)<|zg<|rJ J
def uA (n:Nat)(a0:C4):Nat→(List Int)→Int→Option (Ctl (C4×Bool) (List Int))
 |0,_,_=>none
 | k+1,v209,v210=>
  if(decide (v210<(a0.length:Int)))=true then(yM ((xD a0 v210).bind fun x296=>
  (jW n x296).bind fun r297=>
  if r297=true then((xD a0 v210).bind fun x298=>
  (jO 1 v209 ([x298]:List Int)).bind fun x299=>
  some (.nxt (x299,v210)))else(((xD a0 v210).bind fun x300=>
  if(x300 !=92)=true then(some true)else(some (decide ((wrap .i64 ((a0.length:Int)-v210))<3)))).bind fun y302=>
  if y302=true then(some (.ret (([]:C4),false)))else((xD a0 (wrap .i64 (v210+1))).bind fun x303=>
  (xD a0 (wrap .i64 (v210+2))).bind fun x304=>
  (gN n ([48,49,50,51,52,53,54,55,56,57,97,98,99,100,101,102]:C4) x303).bind fun r305=>
  (gN n ([48,49,50,51,52,53,54,55,56,57,97,98,99,100,101,102]:C4) x304).bind fun r306=>
  (if(decide (r305<0))=true then(some true)else(if(decide (r306<0))=true then(some true)else((jW n (wrap .u8 (ior .i64 (wrap .i64 (r305*16)) r306))).bind fun r307=>
  some r307))).bind fun y309=>
  if y309=true then(some (.ret (([]:C4),false)))else((jO 1 v209 ([wrap .u8 (ior .i64 (wrap .i64 (r305*16)) r306)]:List Int)).bind fun x310=>
  some (.nxt (x310,wrap .i64 (v210+2))))))) (fun r=>some (.ret r)) (fun y293=>
  uA n a0 k y293.1 (wrap .i64 (y293.2+1))))else(some (.nxt v209))
def qY (n:Nat)(a0:C4):Option (C4×Bool):=
 yM (uA n a0 n ([]:List Int) 0) (fun r=>some r) (fun y155=>
 some (b2s y155,true))
theorem Xm {n:Nat} {a0:C4} {r:(C4×Bool)}:qY n a0=some r→AC mx 208 [qs a0] [] (.tuple [qs r.1,qb r.2]) []:=by
 delta qY
 exact fnL Tryz.func208 rfl<|rgL<|rgL<|rgL<|bcL (fun y155=>⟨71,[(4, .sl 1 (List.map (cI .u8) y155) (.fam 0 (y155.length)))]⟩) (fun y155=>⟨[],[y155.length]⟩) (fun o156 hr157=>w7 (wk (fr':=⟨71,[(0,qs a0),(4,qn),(5,qi 0)]⟩) (st':=⟨[],[]⟩) J)<|w7 Wk.nilFam<|lpL (fun k x=>uA n a0 k x.1 x.2) (([]:List Int),0) A2 (fun x=>⟨71,[(0,qs a0),(4, .sl 1 (List.map (cI .u8) x.1) (.fam 0 (x.1.length))),(5,qi x.2)]⟩) (fun x=>⟨[],[x.1.length]⟩) fun k x=>by obtain⟨v209,v210⟩:=x; rw [uA]; exact rgL<|bFL (bcL (fun y293=>⟨71,[(0,qs a0),(4, .sl 1 (List.map (cI .u8) y293.1) (.fam 0 (y293.1.length))),(5,qi y293.2)]⟩) (fun y293=>⟨[],[y293.1.length]⟩) (fun o294 hr295=>bEL fun x296 hx296=>bEL fun r297 hr297=>rCL (kPL 2 (zZ hx296)<|kCL 3 A8 (ZY hr297) edL)<|bFL (bEL fun x298 hx298=>bEL fun x299 hx299=>rCL (kPL 3 (zZ hx298)<|lfL (fun z=>kA 5 0 (cI .u8) (e:=5) (e2:=5) (sz:=1) (bytes:=1) (b2:=1) (tok2:= .exact) hx299 z) edL)<|zW<|zN<|jCL A2)<|bEL fun y302 hE=>rgF hE ⟨71,[(0,qs a0),(4, .sl 1 (List.map (cI .u8) v209) (.fam 0 (v209.length))),(5,qi v210),(34,qb y302)]⟩ ⟨[],[v209.length]⟩ (bEL fun x300 hx300=>kPL 2 (zZ hx300)<|gFL 5 28 (eJ A2)<|eJ A2)<|bFL (rgL<|zg<|hvL hr295<|zK<|yb<|hvL hr157<|zK<|rJ A8)<|bEL fun x303 hx303=>bEL fun x304 hx304=>bEL fun r305 hr305=>bEL fun r306 hr306=>lfL (fun z=>zs [0,1,2,3,5,6,7,8,4,9,10,11] [4,9] [[],[],[1],[0,1,2],[0,1,2,3],[],[],[6],[5,6,7],[0,1,2,3,4,5,6,7,8],[0,1,2,3,4,5,6,7,8,9],[0,1,2,3,4,5,6,7,8,9,10]] [4,5] [(0,qs a0),(6,qi r305),(7,qi r306)] (dS [0,1,2]<|dP (zZ hx303)<|dS [5,6,7]<|dP (zZ hx304)<|dC (zL 8 (zZ hx304) (zL 3 (zZ hx303) yU)) A8 (gm hr305)<|dC (zL 8 (zZ hx304) (zL 3 (zZ hx303) yU)) A8 (gm hr306)<|dS [10,11]<|dE A2) z)<|bEL fun y309 hE=>rgF hE ⟨71,[(0,qs a0),(4, .sl 1 (List.map (cI .u8) v209) (.fam 0 (v209.length))),(5,qi v210),(6,qi r305),(7,qi r306),(58,qb y309)]⟩ ⟨[],[v209.length]⟩ (gFL 3 47 (eJ A2)<|gFL 7 51 (eJ A2)<|bEL fun r307 hr307=>kCL 12 A8 (ZY hr307)<|eJ A2)<|bFL (rgL<|zg<|hvL hr295<|zK<|yb<|hvL hr157<|zK<|rJ A8)<|bEL fun x310 hx310=>rCL (lfL (fun z=>kA 7 0 (cI .u8) (e:=5) (e2:=5) (sz:=1) (bytes:=1) (b2:=1) (tok2:= .exact) hx310 z) edL)<|xi ya<|jCL A2) fun y293=>xi zI fun h=>⟨(y293.1,wrap .i64 (y293.2+1)),h,wk A2⟩)<|zW<|zS<|zN<|jCL A2) fun y155=>rCL (lfL (fun z=>kB 1 y155 z) edL)<|zg<|rJ A8
def kR (n:Nat)(a0:C4):Nat→Int→Int→Option (Ctl Int Int)
 |0,_,_=>none
 | k+1,v50,v51=>
  if(decide (v51<(a0.length:Int)))=true then(((xD a0 v51).bind fun x67=>
  if(decide (x67<48))=true then(some true)else((xD a0 v51).bind fun x68=>
  some (decide (x68>57)))).bind fun y70=>
  if y70=true then(some (.ret (-1)))else((xD a0 v51).bind fun x71=>
  kR n a0 k (wrap .i64 ((wrap .i64 ((10:Int)*v50))+(wrap .i64 (wrap .u8 (x71-48))))) (wrap .i64 (v51+1))))else(some (.nxt v50))
def pH (n:Nat)(a0:C4):Option Int:=
 (if(a0==([]:C4))=true then(some true)else(if(decide ((a0.length:Int)>10))=true then(some true)else((xD a0 0).bind fun x1=>
 if(x1==48)=true then(some (decide ((a0.length:Int)>1)))else(some false)))).bind fun y3=>
 if y3=true then(some (-1))else(yM (kR n a0 n 0 0) (fun r=>some r) (fun y37=>
 if(decide (y37>2147483647))=true then(some (-1))else(some y37)))
theorem Uw {n:Nat} {a0:C4} {r:Int}:pH n a0=some r→AC mx 393 [qs a0] [] (qi r) []:=by
 delta pH
 exact fnL Tryz.func393 rfl<|rgL<|bEL fun y3 hE=>rgF hE ⟨49,[(0,qs a0),(21,qb y3)]⟩ ⟨[],[]⟩ (gFL 3 7 (eJ J)<|gFL 8 12 (eJ J)<|bEL fun x1 hx1=>kPL 9 (zZ hx1)<|gFL 12 16 (eJ J)<|eJ J)<|bFL (rgL<|zg<|rJ J)<|rgL<|rgL<|bcL (fun y37=>⟨49,[(3,qi y37)]⟩) (fun y37=>⟨[],[]⟩) (fun o38 hr39=>lpL (fun k x=>kR n a0 k x.1 x.2) (0,0) J (fun x=>⟨49,[(0,qs a0),(3,qi x.1),(4,qi x.2)]⟩) (fun x=>⟨[],[]⟩) fun k x=>by obtain⟨v50,v51⟩:=x; rw [kR]; exact rgL<|bFL (zY<|bEL fun y70 hE=>rgF hE ⟨49,[(0,qs a0),(3,qi v50),(4,qi v51),(37,qb y70)]⟩ ⟨[],[]⟩ (bEL fun x67 hx67=>kPL 2 (zZ hx67)<|gFL 5 32 (eJ J)<|bEL fun x68 hx68=>kPL 7 (zZ hx68)<|eJ J)<|bFL (rgL<|zg<|yi<|yb<|hvL hr39<|zK<|rJ J)<|bEL fun x71 hx71=>xC yF (kPL 4 (zZ hx71) edL)<|z8<|xi zI fun h=>⟨(wrap .i64 ((wrap .i64 ((10:Int)*v50))+(wrap .i64 (wrap .u8 (x71-48)))),wrap .i64 (v51+1)),h,wk J⟩)<|zW<|zS<|zN<|jCL J) fun y37=>rgL<|bFL (rgL<|zg<|rJ J)<|rgL<|zg<|rJ J
def dY (n:Nat)(a0 a1:Int):Option Bool:=
 (if(decide (a0≤1))=true then(if(decide (a1≤39))=true then(some true)else(some (a0==2)))else(some (a0==2))).bind fun y2=>
 some y2
theorem VY {n:Nat} {a0:Int} {a1:Int} {r:Bool}:dY n a0 a1=some r→AC mx 394 [qi a0,qi a1] [] (qb r) []:=by
 delta dY
 exact fnL Tryz.func394 rfl<|rgL<|bEL fun y2 hE=>rgF hE ⟨15,[(4,qb y2)]⟩ ⟨[],[]⟩ (gFL 3 7 (gFL 7 11 (eJ J)<|eJ J)<|eJ J)<|zg<|rJ J
def j3 (n:Nat)(r1:List C4):Nat→(List Int)→Int→Option (Ctl (Option (List Int)) (List Int))
 |0,_,_=>none
 | k+1,v36,v37=>
  if(decide (v37<(r1.length:Int)))=true then((xe r1 v37).bind fun x47=>
  (pH n x47).bind fun r48=>
  if(decide (r48<0))=true then(some (.ret none))else((jO 8 v36 ([r48]:List Int)).bind fun x49=>
  j3 n r1 k x49 (wrap .i64 (v37+1))))else(some (.nxt v36))
def d6 (n:Nat)(a0:C4):Option (Option (List Int)):=
 (wU n a0 ([46]:C4)).bind fun r1=>
 (if(decide ((r1.length:Int)<2))=true then(some true)else(some (decide ((r1.length:Int)>12)))).bind fun y3=>
 if y3=true then(some none)else(yM (j3 n r1 n ([]:List Int) 0) (fun r=>some r) (fun y26=>
 (xe y26 0).bind fun x50=>
 (xe y26 1).bind fun x51=>
 (dY n x50 x51).bind fun r52=>
 if(!r52)=true then(some none)else((lne y26).bind fun x53=>
 some (some y26))))
theorem Up {n:Nat} {a0:C4} {r:(Option (List Int))}:d6 n a0=some r→AC mx 298 [qs a0] [] (onl 1 (cI .i64) r) []:=by
 delta d6
 exact fnL Tryz.func298 rfl<|rgL<|bEL fun r1 hr1=>rCL (kCL 1 J (jM hr1) edL)<|bEL fun y3 hE=>rgF hE ⟨42,[(3,ql 1 cS r1),(17,qb y3)]⟩ ⟨[],[]⟩ (kPL 1 (yg (c:=cS) (l:=r1) (e:=9) (sz:=1) (sz':=1) (b:=16) (tok:= .none))<|gFL 4 13 (eJ J)<|kPL 5 (yg (c:=cS) (l:=r1) (e:=9) (sz:=1) (sz':=1) (b:=16) (tok:= .none))<|eJ J)<|bFL (rgL<|zg<|rJ J)<|rgL<|rCL (kPL 1 (yg (c:=cS) (l:=r1) (e:=9) (sz:=1) (sz':=1) (b:=16) (tok:= .none)) edL)<|bcL (fun y26=>⟨42,[(4, .sl 1 (List.map (cI .i64) y26) (.fam 0 (y26.length)))]⟩) (fun y26=>⟨[],[y26.length]⟩) (fun o27 hr28=>w7 (wk (fr':=⟨42,[(4,qn),(18,ql 1 cS r1),(19,qi (r1.length:Int)),(20,qi 0)]⟩) (st':=⟨[],[]⟩) J)<|w7 Wk.nilFam<|lpL (fun k x=>j3 n r1 k x.1 x.2) (([]:List Int),0) A2 (fun x=>⟨42,[(4, .sl 1 (List.map (cI .i64) x.1) (.fam 0 (x.1.length))),(18,ql 1 cS r1),(19,qi (r1.length:Int)),(20,qi x.2)]⟩) (fun x=>⟨[],[x.1.length]⟩) fun k x=>by obtain⟨v36,v37⟩:=x; rw [j3]; exact rgL<|bFL (zY<|bEL fun x47 hx47=>rCL (kPL 0 (zR (c:=cS) (e:=9) (sz:=1) (b:=16) (tok:= .none) hx47) edL)<|bEL fun r48 hr48=>rCL (kCL 1 A8 (Uw hr48) edL)<|rgL<|bFL (rgL<|zg<|yi<|yb<|hvL hr28<|zK<|rJ A8)<|bEL fun x49 hx49=>xC yF (lfL (fun z=>kA 3 0 (cI .i64) (e:=3) (e2:=3) (sz:=1) (bytes:=8) (b2:=8) (tok2:= .exact) hx49 z) edL)<|z8<|xi zI fun h=>⟨(x49,wrap .i64 (v37+1)),h,wk A2⟩)<|zW<|zS<|zN<|jCL A2) fun y26=>bEL fun x50 hx50=>bEL fun x51 hx51=>bEL fun r52 hr52=>lfL (fun z=>zs [0,1,2,3,4,5,6,7] [6] [[],[0],[0,1],[],[3],[3,4],[0,1,2,3,4,5],[0,1,2,3,4,5,6]] [4] [(40,qb (!r52))] (dS [0]<|dP (zR (c:=(cI .i64)) (e:=3) (sz:=1) (b:=8) (tok:=(.fam 0 (y26.length))) hx50)<|dS [2,3]<|dP (zR (c:=(cI .i64)) (e:=3) (sz:=1) (b:=8) (tok:=(.fam 0 (y26.length))) hx51)<|dS [5]<|dC (zL 4 (zR (c:=(cI .i64)) (e:=3) (sz:=1) (b:=8) (tok:=(.fam 0 (y26.length))) hx51) (zL 1 (zR (c:=(cI .i64)) (e:=3) (sz:=1) (b:=8) (tok:=(.fam 0 (y26.length))) hx50) yU)) A8 (VY hr52)<|dS [7]<|dE A2) z)<|bFL (rgL<|zg<|rJ A8)<|rgL<|bEL fun x53 hx53=>zg<|rJ A8
def bH (n:Nat)(a0:C4):Option Bool:=
 ((d6 n a0).bind fun r1=>
 onE r1 (some false) (fun l2=>(lne l2).bind fun x3=>
 some true)).bind fun y5=>
 some y5
theorem Yz {n:Nat} {a0:C4} {r:Bool}:bH n a0=some r→AC mx 209 [qs a0] [] (qb r) []:=by
 delta bH
 exact fnL Tryz.func209 rfl<|rgL<|bEL fun y5 hE=>rgF hE ⟨6,[(2,qb y5)]⟩ ⟨[],[]⟩ (bEL fun r1 hr1=>kCL 1 J (Up hr1) fun h=>by cases r1 with|none=>exact imA (onN h) (eJ J)|some l2=>exact imA (onS h) (bEL fun x3 hx3=>kPL 2 (Bk (c:=(cI .i64)) (e:=3) (sz:=1) (b:=8) (tok:= .none) hx3)<|eJ J))<|zg<|rJ J
def ut (n:Nat)(a0:C4):Nat→Nat→Option (Ctl Bool Unit)
 |0,_=>none
 | k+1,v53=>
  if(Nat.blt v53 (a0.length))=true then((if(decide ((((YI a0 v53).1:Nat):Int)<32))=true then(some true)else(some ((((YI a0 v53).1:Nat):Int)==127))).bind fun y73=>
  if y73=true then(some (.ret false))else((if((((YI a0 v53).1:Nat):Int)==65533)=true then((ssl a0 ((v53:Nat):Int) (a0.length)).bind fun x74=>
  (wG n x74 ([239,191,189]:C4)).bind fun r75=>
  some (!r75))else(some false)).bind fun y77=>
  if y77=true then(some (.ret false))else(ut n a0 k (v53+(YI a0 v53).2))))else(some (.nxt ()))
def Zv (n:Nat)(a0:C4):Option Bool:=
 yM (ut n a0 n 0) (fun r=>some r) (fun y38=>
 some true)
theorem Ud {n:Nat} {a0:C4} {r:Bool}:Zv n a0=some r→AC mx 313 [qs a0] [] (qb r) []:=by
 delta Zv
 exact fnL Tryz.func313 rfl<|rgL<|rgL<|bcL (fun _=>⟨26,[]⟩) (fun _=>⟨[],[]⟩) (fun o39 hr40=>lpL (fun k x=>ut n a0 k x) 0 O (fun x=>⟨26,[(0,qs a0),(6, .iter 0)]⟩) (fun x=>⟨[[.sit a0 x]],[]⟩) fun k v53=>by rw [ut]; exact lfL (fun z=>Kn z)<|kFL (fun hb=>lfL (fun z=>kV 0 1 0 0 (JZ hb) z)<|lfL (fun z=>Uh (⟨26,[(0,qs a0),(6, .iter 0),(7, .tuple [qb true,qi ((v53:Nat):Int), .int .i32 (((YI a0 v53).1:Nat):Int)]),(8,qb true)]⟩) (⟨[[.sit a0 (v53+(YI a0 v53).2)]],[]⟩) yF (kE O) z)<|bTL<|zY<|rgL<|bEL fun y73 hE=>rgF hE ⟨26,[(0,qs a0),(3,qi ((v53:Nat):Int)),(4, .int .i32 (((YI a0 v53).1:Nat):Int)),(6, .iter 0),(16,qb y73)]⟩ ⟨[[.sit a0 (v53+(YI a0 v53).2)]],[]⟩ (gFL 3 13 (eJ O)<|eJ O)<|bFL (rgL<|zg<|yi<|yb<|hvL hr40<|zK<|rJ A0)<|bEL fun y77 hE=>rgF hE ⟨26,[(0,qs a0),(6, .iter 0),(25,qb y77)]⟩ ⟨[[.sit a0 (v53+(YI a0 v53).2)]],[]⟩ (gFL 3 19 (bEL fun x74 hx74=>bEL fun r75 hr75=>kPL 5 (qw (k:= .i64) hx74)<|kCL 6 A0 (gE hr75)<|eJ O)<|eJ O)<|bFL (rgL<|zg<|yi<|yb<|hvL hr40<|zK<|rJ A0)<|z8 fun h=>⟨v53+(YI a0 v53).2,h,wk O⟩) fun hb=>lfL (fun z=>kV 0 1 0 0 (Qb hb) z)<|lfL (fun z=>Uh (⟨26,[(0,qs a0),(6, .iter 0),(7, .tuple [qb false]),(8,qb false)]⟩) (⟨[[.sit a0 v53]],[]⟩) yF (kE O) z)<|bNL<|zW<|zS<|zN<|jCL A0) fun y38=>rgL<|zg<|rJ J
def kM (n:Nat)(a0:Int):Option Bool:=
 ((gZ n a0).bind fun r1=>
 if r1=true then(some true)else((gN n ([32,39,40,41,43,44,45,46,47,58,61,63]:C4) a0).bind fun r2=>
 some (decide (r2≥0)))).bind fun y4=>
 some y4
theorem XR {n:Nat} {a0:Int} {r:Bool}:kM n a0=some r→AC mx 315 [qu a0] [] (qb r) []:=by
 delta kM
 exact fnL Tryz.func315 rfl<|rgL<|bEL fun y4 hE=>rgF hE ⟨10,[(2,qb y4)]⟩ ⟨[],[]⟩ (bEL fun r1 hr1=>kCL 1 J (Zq hr1)<|gFL 3 5 (eJ J)<|bEL fun r2 hr2=>kCL 4 J (gm hr2)<|eJ J)<|zg<|rJ J
def qW (n:Nat)(a0:C4):Nat→Int→Option (Ctl Bool Unit)
 |0,_=>none
 | k+1,v21=>
  if(decide (v21<(a0.length:Int)))=true then((xD a0 v21).bind fun x28=>
  (kM n x28).bind fun r29=>
  if(!r29)=true then(some (.ret false))else(qW n a0 k (wrap .i64 (v21+1))))else(some (.nxt ()))
def Zx (n:Nat)(a0:C4):Option Bool:=
 yM (qW n a0 n 0) (fun r=>some r) (fun y14=>
 some true)
theorem V1 {n:Nat} {a0:C4} {r:Bool}:Zx n a0=some r→AC mx 314 [qs a0, .func (.func 315) [] []] [] (qb r) []:=by
 delta Zx
 exact fnL Tryz.func314 rfl<|rgL<|rgL<|bcL (fun _=>⟨18,[]⟩) (fun _=>⟨[],[]⟩) (fun o15 hr16=>lpL (fun k x=>qW n a0 k x) 0 J (fun x=>⟨18,[(0,qs a0),(1, .func (.func 315) [] []),(5,qi x)]⟩) (fun x=>⟨[],[]⟩) fun k v21=>by rw [qW]; exact rgL<|bFL (zY<|bEL fun x28 hx28=>bEL fun r29 hr29=>rCL (kPL 3 (zZ hx28)<|kCL 4 J (XR hr29) edL)<|bFL (rgL<|zg<|yi<|yb<|hvL hr16<|zK<|rJ J)<|z8<|xi zI fun h=>⟨wrap .i64 (v21+1),h,wk J⟩)<|zW<|zS<|zN<|jCL J) fun y14=>rgL<|zg<|rJ J
def kI (n:Nat)(a0:Int):Option Bool:=
 (if(decide (a0≥32))=true then(some (decide (a0≤126)))else(some false)).bind fun y2=>
 some y2
theorem Xz {n:Nat} {a0:Int} {r:Bool}:kI n a0=some r→AC mx 317 [qu a0] [] (qb r) []:=by
 delta kI
 exact fnL Tryz.func317 rfl<|rgL<|bEL fun y2 hE=>rgF hE ⟨9,[(2,qb y2)]⟩ ⟨[],[]⟩ (gFL 3 5 (eJ J)<|eJ J)<|zg<|rJ J
def jY (n:Nat)(a0:C4):Nat→Int→Option (Ctl Bool Unit)
 |0,_=>none
 | k+1,v21=>
  if(decide (v21<(a0.length:Int)))=true then((xD a0 v21).bind fun x28=>
  (kI n x28).bind fun r29=>
  if(!r29)=true then(some (.ret false))else(jY n a0 k (wrap .i64 (v21+1))))else(some (.nxt ()))
def dI (n:Nat)(a0:C4):Option Bool:=
 yM (jY n a0 n 0) (fun r=>some r) (fun y14=>
 some true)
theorem WJ {n:Nat} {a0:C4} {r:Bool}:dI n a0=some r→AC mx 314 [qs a0, .func (.func 317) [] []] [] (qb r) []:=by
 delta dI
 exact fnL Tryz.func314 rfl<|rgL<|rgL<|bcL (fun _=>⟨18,[]⟩) (fun _=>⟨[],[]⟩) (fun o15 hr16=>lpL (fun k x=>jY n a0 k x) 0 J (fun x=>⟨18,[(0,qs a0),(1, .func (.func 317) [] []),(5,qi x)]⟩) (fun x=>⟨[],[]⟩) fun k v21=>by rw [jY]; exact rgL<|bFL (zY<|bEL fun x28 hx28=>bEL fun r29 hr29=>rCL (kPL 3 (zZ hx28)<|kCL 4 J (Xz hr29) edL)<|bFL (rgL<|zg<|yi<|yb<|hvL hr16<|zK<|rJ J)<|z8<|xi zI fun h=>⟨wrap .i64 (v21+1),h,wk J⟩)<|zW<|zS<|zN<|jCL J) fun y14=>rgL<|zg<|rJ J
def kQ (n:Nat)(a0:Int)(a1:C4):Option Bool:=
 if(a0==12)=true then((Zv n a1).bind fun r4=>
 some r4)else(if(a0==19)=true then((Zx n a1).bind fun r5=>
 some r5)else(if(a0==22)=true then((dI n a1).bind fun r6=>
 some r6)else(some false)))
theorem Z7 {n:Nat} {a0:Int} {a1:C4} {r:Bool}:kQ n a0 a1=some r→AC mx 210 [qi a0,qs a1] [] (qb r) []:=by
 delta kQ
 exact fnL Tryz.func210 rfl<|rgL<|rgL<|zY<|rgL<|bFL (bEL fun r4 hr4=>rCL (kCL 1 J (Ud hr4) edL)<|zg<|yi<|rJ J)<|rgL<|bFL (bEL fun r5 hr5=>rCL (kCL 1 J (V1 hr5) edL)<|zg<|yi<|rJ J)<|rgL<|bFL (bEL fun r6 hr6=>rCL (kCL 1 J (WJ hr6) edL)<|zg<|yi<|rJ J)<|z8<|rgL<|zg<|rJ J
def xQ (n:Nat)(r2:List yR)(r1:(C4×C4×Bool)):Nat→Int→Option C4
 |0,_=>none
 | k+1,v11=>
  if(decide (v11<(r2.length:Int)))=true then((xe r2 v11).bind fun x13=>
  if(x13.Ws==r1.1)=true then(some x13.PI)else(xQ n r2 r1 k (wrap .i64 (v11+1))))else(some r1.1)
def ww (n:Nat)(a0:C4):Option (zc×Bool):=
 (vN n a0 ([61]:C4)).bind fun r1=>
 if(!r1.2.2)=true then(some ((zc.mk ([]:C4) 0 ([]:C4)),false))else((gj n).bind fun r2=>
 (xQ n r2 r1 n 0).bind fun y8=>
 (qY n r1.2.1).bind fun r14=>
 (if(!r14.2)=true then(some true)else((bH n y8).bind fun r15=>
 some (!r15))).bind fun y17=>
 if y17=true then(some ((zc.mk ([]:C4) 0 ([]:C4)),false))else(((if(y8==([48,46,57,46,50,51,52,50,46,49,57,50,48,48,51,48,48,46,49,48,48,46,49,46,50,53]:C4))=true then(some true)else(some (y8==([49,46,50,46,56,52,48,46,49,49,51,53,52,57,46,49,46,57,46,49]:C4)))).bind fun y28=>
 if y28=true then(some 22)else((kQ n 19 r14.1).bind fun r29=>
 if r29=true then(some 19)else(some 12))).bind fun y25=>
 some ((zc.mk y8 y25 r14.1),true)))
theorem pG {n:Nat} {a0:C4} {r:(zc×Bool)}:ww n a0=some r→AC mx 93 [qs a0] [] (.tuple [.agg (zc.cells r.1),qb r.2]) []:=by
 delta ww
 exact fnL Tryz.func93 rfl<|rgL<|bEL fun r1 hr1=>rCL (kCL 1 A0 (ZA hr1) edL)<|rgL<|bFL (rgL<|zg<|rJ A0)<|bEL fun r2 hr2=>rCL (kCL 0 A0 (XL hr2)<|kPL 1 (yg (c:=yR.cells) (l:=r2) (e:=246) (sz:=2) (sz':=2) (b:=32) (tok:= .none)) edL)<|blL (fun y8=>⟨60,[(2,qp 0),(4,qs y8),(5,qs r1.2.1)]⟩) (fun y8=>⟨[[qs ([]:C4),qi 0,qs []]],[]⟩) (fun y8=>lpL (fun k x=>xQ n r2 r1 k x) 0 O (fun x=>⟨60,[(2,qp 0),(4,qs r1.1),(5,qs r1.2.1),(20,ql 2 yR.cells r2),(21,qi (r2.length:Int)),(22,qi x)]⟩) (fun x=>⟨[[qs ([]:C4),qi 0,qs []]],[]⟩) fun k v11=>by rw [xQ]; exact rgL<|bFL (zY<|bEL fun x13 hx13=>rCL (kPL 0 (zR (c:=yR.cells) (e:=246) (sz:=2) (b:=32) (tok:= .none) hx13) edL)<|rgL<|bFL (rgL<|zW<|pD<|zS<|zN<|jnL A9)<|z8<|xi zI fun h=>⟨wrap .i64 (v11+1),h,wk A9⟩)<|zW<|zS<|zN<|jnL O) fun y8=>bEL fun r14 hr14=>rCL (kCL 1 A0 (Xm hr14) edL)<|bEL fun y17 hE=>rgF hE ⟨60,[(2,qp 0),(4,qs y8),(9,qs r14.1),(44,qb y17)]⟩ ⟨[[qs ([]:C4),qi 0,qs []]],[]⟩ (gFL 3 40 (eJ O)<|bEL fun r15 hr15=>kCL 4 A0 (Yz hr15)<|eJ O)<|bFL (rgL<|zg<|rJ A0)<|rgL<|blL (fun y25=>⟨60,[(2,qp 0),(4,qs y8),(9,qs r14.1),(10,qi y25)]⟩) (fun y25=>⟨[[qs ([]:C4),qi 0,qs []]],[]⟩) (fun y25=>bEL fun y28 hE=>rgF hE ⟨60,[(2,qp 0),(4,qs y8),(9,qs r14.1),(10,qi 12),(46,qb y28)]⟩ ⟨[[qs ([]:C4),qi 0,qs []]],[]⟩ (gFL 3 49 (eJ O)<|eJ O)<|bFL (xi ya<|jnL O)<|bEL fun r29 hr29=>rCL (kCL 1 A0 (Z7 hr29) edL)<|bFL (xi ya<|jnL O)<|jnL O) fun y25=>rgL<|zg<|rJ A0
def wI (n:Nat)(x402:List zc)(x397:zc):Nat→Int→Option (Ctl Int Unit)
 |0,_=>none
 | k+1,v415=>
  if(decide (v415<(x402.length:Int)))=true then((xe x402 v415).bind fun x419=>
  if(x419.uH==x397.uH)=true then(some (.ret 10))else(wI n x402 x397 k (wrap .i64 (v415+1))))else(some (.nxt ()))
def wb (n:Nat)(a0:List zc):Nat→Int→Option (Ctl Int Unit)
 |0,_=>none
 | k+1,v281=>
  if(decide (v281<(a0.length:Int)))=true then((xe a0 v281).bind fun x397=>
  (bH n x397.uH).bind fun r398=>
  if(!r398)=true then(some (.ret 11))else((if(x397.uy==([]:C4))=true then(some true)else((kQ n x397.yA x397.uy).bind fun r399=>
  some (!r399))).bind fun y401=>
  if y401=true then(some (.ret 13))else(if(decide ((x397.uy.length:Int)>64))=true then(some (.ret 2))else((lsl a0 0 v281).bind fun x402=>
  yM (wI n x402 x397 n 0) (fun r=>some (.ret r)) (fun y410=>
  wb n a0 k (wrap .i64 (v281+1)))))))else(some (.nxt ()))
def uo (n:Nat)(a0:List zc):Option Int:=
 if((a0.length:Int)==0)=true then(some 14)else(if(decide ((a0.length:Int)>4))=true then(some 2)else(yM (wb n a0 n 0) (fun r=>some r) (fun y209=>
 some 0)))
theorem Zd {n:Nat} {a0:(List zc)} {r:Int}:uo n a0=some r→AC mx 211 [ql 3 zc.cells a0] [] (qi r) []:=by
 delta uo
 exact fnL Tryz.func211 rfl<|rgL<|rCL (kPL 1 (yg (c:=zc.cells) (l:=a0) (e:=82) (sz:=3) (sz':=3) (b:=40) (tok:= .none)) edL)<|bFL (rgL<|zg<|rJ J)<|rCL (kPL 1 (yg (c:=zc.cells) (l:=a0) (e:=82) (sz:=3) (sz':=3) (b:=40) (tok:= .none)) edL)<|bFL (rgL<|zg<|rJ J)<|rCL (kPL 1 (yg (c:=zc.cells) (l:=a0) (e:=82) (sz:=3) (sz':=3) (b:=40) (tok:= .none)) edL)<|bcL (fun _=>⟨54,[]⟩) (fun _=>⟨[],[]⟩) (fun o210 hr211=>lpL (fun k x=>wb n a0 k x) 0 J (fun x=>⟨54,[(0,ql 3 zc.cells a0),(13,ql 3 zc.cells a0),(14,qi (a0.length:Int)),(15,qi x)]⟩) (fun x=>⟨[],[]⟩) fun k v281=>by rw [wb]; exact rgL<|bFL (zY<|bEL fun x397 hx397=>rCL (kPL 1 (zR (c:=zc.cells) (e:=82) (sz:=3) (b:=40) (tok:= .none) hx397) edL)<|bEL fun r398 hr398=>rCL (kCL 2 A0 (Yz hr398) edL)<|bFL (rgL<|zg<|yi<|yb<|hvL hr211<|zK<|rJ A0)<|bEL fun y401 hE=>rgF hE ⟨54,[(0,ql 3 zc.cells a0),(3,qi v281),(4,qp 0),(13,ql 3 zc.cells a0),(14,qi (a0.length:Int)),(15,qi v281),(34,qb y401)]⟩ ⟨[zc.cells x397],[]⟩ (gFL 4 27 (eJ O)<|bEL fun r399 hr399=>kCL 8 A0 (Z7 hr399)<|eJ O)<|bFL (rgL<|zg<|yi<|yb<|hvL hr211<|zK<|rJ A0)<|rgL<|bFL (rgL<|zg<|yi<|yb<|hvL hr211<|zK<|rJ A0)<|bEL fun x402 hx402=>rCL (kPL 2 (GI (k:= .i64) (c:=zc.cells) (e:=82) (sz:=3) (b:=40) (tok:= .none) hx402)<|kPL 3 (yg (c:=zc.cells) (l:=x402) (e:=82) (sz:=3) (sz':=3) (b:=40) (tok:= .none)) edL)<|Gw yF (fun _=>⟨54,[(0,ql 3 zc.cells a0),(13,ql 3 zc.cells a0),(14,qi (a0.length:Int)),(15,qi v281)]⟩) (fun _=>⟨[],[]⟩) (fun o411 hr412=>lpL (fun k x=>wI n x402 x397 k x) 0 O (fun x=>⟨54,[(0,ql 3 zc.cells a0),(4,qp 0),(13,ql 3 zc.cells a0),(14,qi (a0.length:Int)),(15,qi v281),(41,ql 3 zc.cells x402),(42,qi (x402.length:Int)),(43,qi x)]⟩) (fun x=>⟨[zc.cells x397],[]⟩) fun k v415=>by rw [wI]; exact rgL<|bFL (zY<|bEL fun x419 hx419=>rCL (kPL 0 (zR (c:=zc.cells) (e:=82) (sz:=3) (b:=40) (tok:= .none) hx419) edL)<|rgL<|bFL (rgL<|zg<|yi<|yb<|hvL hr412<|zK<|yi<|yb<|hvL hr211<|zK<|rJ A1)<|z8<|xi zI fun h=>⟨wrap .i64 (v415+1),h,wk A9⟩)<|zW<|zS<|zN<|jCL A0) fun y410=>z8<|xi zI fun h=>⟨wrap .i64 (v281+1),h,wk J⟩)<|zW<|zS<|zN<|jCL J) fun y209=>rgL<|zg<|rJ J
def jA (n:Nat)(a0:yq):Nat→Int→Option (Ctl Int Unit)
 |0,_=>none
 | k+1,v21=>
  if(decide (v21<(a0.xo.length:Int)))=true then((xe a0.xo v21).bind fun x28=>
  (uo n x28).bind fun r29=>
  if(r29 !=0)=true then(some (.ret r29))else(jA n a0 k (wrap .i64 (v21+1))))else(some (.nxt ()))
def bn (n:Nat)(a0:yq):Option Int:=
 if(decide ((a0.xo.length:Int)>8))=true then(some 2)else(yM (jA n a0 n 0) (fun r=>some r) (fun y14=>
 some 0))
theorem X5 {n:Nat} {a0:yq} {r:Int}:bn n a0=some r→AC mx 94 [.agg [ql 1 (cL 3 zc.cells) a0.xo]] [] (qi r) []:=by
 delta bn
 exact fnL Tryz.func94 rfl<|rgL<|rCL (kPL 2 (yg (c:=(cL 3 zc.cells)) (l:=a0.xo) (e:=83) (sz:=1) (sz':=1) (b:=24) (tok:= .none)) edL)<|bFL (rgL<|zg<|rJ A0)<|rCL (kPL 2 (yg (c:=(cL 3 zc.cells)) (l:=a0.xo) (e:=83) (sz:=1) (sz':=1) (b:=24) (tok:= .none)) edL)<|bcL (fun _=>⟨23,[]⟩) (fun _=>⟨[],[]⟩) (fun o15 hr16=>lpL (fun k x=>jA n a0 k x) 0 A0 (fun x=>⟨23,[(11,ql 1 (cL 3 zc.cells) a0.xo),(12,qi (a0.xo.length:Int)),(13,qi x)]⟩) (fun x=>⟨[],[]⟩) fun k v21=>by rw [jA]; exact rgL<|bFL (zY<|bEL fun x28 hx28=>rCL (kPL 0 (zR (c:=(cL 3 zc.cells)) (e:=83) (sz:=1) (b:=24) (tok:= .none) hx28) edL)<|bEL fun r29 hr29=>rCL (kCL 1 J (Zd hr29) edL)<|rgL<|bFL (rgL<|zg<|yi<|yb<|hvL hr16<|zK<|rJ J)<|z8<|xi zI fun h=>⟨wrap .i64 (v21+1),h,wk J⟩)<|zW<|zS<|zN<|jCL J) fun y14=>rgL<|zg<|rJ J
def jv (n:Nat)(r846:List C4):Nat→(List zc)→Int→Option (Ctl (yq×Int) (List zc))
 |0,_,_=>none
 | k+1,v879,v880=>
  if(decide (v880<(r846.length:Int)))=true then((xe r846 v880).bind fun x890=>
  (ww n x890).bind fun r891=>
  if(!r891.2)=true then(some (.ret ((yq.mk ([]:List (List zc))),32)))else((jO 40 v879 ([r891.1]:List zc)).bind fun x892=>
  jv n r846 k x892 (wrap .i64 (v880+1))))else(some (.nxt v879))
def jy (n:Nat)(r1:List C4):Nat→Int→(List (List zc))→Option (Ctl (yq×Int) (List (List zc)))
 |0,_,_=>none
 | k+1,v598,v599=>
  if(decide (v598<(r1.length:Int)))=true then((xe r1 v598).bind fun x845=>
  (wU n x845 ([43]:C4)).bind fun r846=>
  yM (jv n r846 n ([]:List zc) 0) (fun r=>some (.ret r)) (fun y869=>
  (jO 24 v599 ([y869]:List (List zc))).bind fun x893=>
  jy n r1 k (wrap .i64 (v598+1)) x893))else(some (.nxt v599))
def bp (n:Nat)(a0:C4):Option (yq×Int):=
 if(a0==([]:C4))=true then(some ((yq.mk ([]:List (List zc))),0))else((wU n a0 ([44]:C4)).bind fun r1=>
 yM (jy n r1 n 0 ([]:List (List zc))) (fun r=>some r) (fun y447=>
 (bn n (yq.mk y447)).bind fun r894=>
 if(r894 !=0)=true then(some ((yq.mk ([]:List (List zc))),r894))else(some ((yq.mk y447),0))))
theorem Wj {n:Nat} {a0:C4} {r:(yq×Int)}:bp n a0=some r→AC mx 44 [qs a0] [] (.tuple [.agg [ql 1 (cL 3 zc.cells) r.1.xo],qi r.2]) []:=by
 delta bp
 exact fnL Tryz.func44 rfl<|rgL<|rgL<|rgL<|bFL (rgL<|zg<|rJ A1)<|bEL fun r1 hr1=>rCL (kCL 1 A1 (jM hr1)<|kPL 2 (yg (c:=cS) (l:=r1) (e:=9) (sz:=1) (sz':=1) (b:=16) (tok:= .none)) edL)<|bcL (fun y447=>⟨57,[(2,qp 0),(4,qp 1)]⟩) (fun y447=>⟨[[qn],[.sl 1 (List.map (cL 3 zc.cells) y447) (.fam 0 (y447.length))]],[y447.length]⟩) (fun o448 hr449=>w7 (wk (fr':=⟨57,[(2,qp 0),(4,qp 1),(17,ql 1 cS r1),(18,qi (r1.length:Int)),(19,qi 0)]⟩) (st':=⟨[[qn],[qn]],[]⟩) A3)<|w7 Wk.nilFam<|lpL (fun k x=>jy n r1 k x.1 x.2) (0,([]:List (List zc))) Ae (fun x=>⟨57,[(2,qp 0),(4,qp 1),(17,ql 1 cS r1),(18,qi (r1.length:Int)),(19,qi x.1)]⟩) (fun x=>⟨[[qn],[.sl 1 (List.map (cL 3 zc.cells) x.2) (.fam 0 (x.2.length))]],[x.2.length]⟩) fun k x=>by obtain⟨v598,v599⟩:=x; rw [jy]; exact rgL<|bFL (zY<|bEL fun x845 hx845=>rCL (kPL 0 (zR (c:=cS) (e:=9) (sz:=1) (b:=16) (tok:= .none) hx845) edL)<|rgL<|bEL fun r846 hr846=>rCL (kCL 1 Aj (jM hr846)<|kPL 2 (yg (c:=cS) (l:=r846) (e:=9) (sz:=1) (sz':=1) (b:=16) (tok:= .none)) edL)<|bcL (fun y869=>⟨57,[(2,qp 0),(4,qp 1),(7, .sl 3 (List.map zc.cells y869) (.fam 1 (y869.length))),(17,ql 1 cS r1),(18,qi (r1.length:Int)),(19,qi v598)]⟩) (fun y869=>⟨[[qn],[.sl 1 (List.map (cL 3 zc.cells) v599) (.fam 0 (v599.length))]],[v599.length,y869.length]⟩) (fun o870 hr871=>w7 (wk (fr':=⟨57,[(2,qp 0),(4,qp 1),(7,qn),(17,ql 1 cS r1),(18,qi (r1.length:Int)),(19,qi v598),(24,ql 1 cS r846),(25,qi (r846.length:Int)),(26,qi 0)]⟩) (st':=⟨[[qn],[.sl 1 (List.map (cL 3 zc.cells) v599) (.fam 0 (v599.length))]],[v599.length]⟩) Ae)<|w7 Wk.nilFam<|lpL (fun k x=>jv n r846 k x.1 x.2) (([]:List zc),0) Ak (fun x=>⟨57,[(2,qp 0),(4,qp 1),(7, .sl 3 (List.map zc.cells x.1) (.fam 1 (x.1.length))),(17,ql 1 cS r1),(18,qi (r1.length:Int)),(19,qi v598),(24,ql 1 cS r846),(25,qi (r846.length:Int)),(26,qi x.2)]⟩) (fun x=>⟨[[qn],[.sl 1 (List.map (cL 3 zc.cells) v599) (.fam 0 (v599.length))]],[v599.length,x.1.length]⟩) fun k x=>by obtain⟨v879,v880⟩:=x; rw [jv]; exact rgL<|bFL (zY<|bEL fun x890 hx890=>rCL (kPL 0 (zR (c:=cS) (e:=9) (sz:=1) (b:=16) (tok:= .none) hx890) edL)<|bEL fun r891 hr891=>rCL (kCL 1 ⟨[],2,[],2⟩ (pG hr891) edL)<|rgL<|bFL (rgL<|zg<|yi<|yb<|hvL hr871<|zK<|yi<|yb<|hvL hr449<|zK<|rJ Ap)<|bEL fun x892 hx892=>xC yF (lfL (fun z=>kA 3 1 zc.cells (e:=82) (e2:=82) (sz:=3) (bytes:=40) (b2:=40) (tok2:= .exact) hx892 z) edL)<|z8<|xi zI fun h=>⟨(x892,wrap .i64 (v880+1)),h,wk Az⟩)<|zW<|zS<|zN<|jCL Ak) fun y869=>bEL fun x893 hx893=>xC yF (lfL (fun z=>kA 4 0 (cL 3 zc.cells) (e:=83) (e2:=83) (sz:=1) (bytes:=24) (b2:=24) (tok2:= .exact) hx893 z) edL)<|z8<|xi zI fun h=>⟨(wrap .i64 (v598+1),x893),h,wk ⟨[0,1],2,[0],2⟩⟩)<|zW<|zS<|zN<|jCL Ae) fun y447=>bEL fun r894 hr894=>rCL (kCL 1 Aj (X5 hr894) edL)<|rgL<|bFL (rgL<|zg<|rJ Aj)<|rgL<|zg<|rJ Aj
def vZ (n:Nat)(a0:C4):Option (zh×Int):=
 (qx n a0 ([32]:C4) 6).bind fun r1=>
 (yh n (zk.mk r1 false)).bind fun r2=>
 (zu n r2.2).bind fun r3=>
 (zu n r3.2).bind fun r4=>
 (yx n r4.2).bind fun r5=>
 (yx n r5.2).bind fun r6=>
 (yh n r6.2).bind fun r7=>
 (yO n r7.2).bind fun r8=>
 if(r8.1 !=0)=true then(some ((zh.mk (yq.mk ([]:List (List zc))) r5.1 r3.1 r4.1 ([]:List zn)),r8.1))else((bp n r7.1).bind fun r9=>
 if(r9.2 !=0)=true then(some ((zh.mk r9.1 r5.1 r3.1 r4.1 ([]:List zn)),r9.2))else(if((r9.1.xo.length:Int)==0)=true then(some ((zh.mk r9.1 r5.1 r3.1 r4.1 ([]:List zn)),14))else(if((r5.1.length:Int) !=32)=true then(some ((zh.mk r9.1 r5.1 r3.1 r4.1 ([]:List zn)),18))else(if(!(r6.1==([]:C4)))=true then(none)else(some ((zh.mk r9.1 r5.1 r3.1 r4.1 ([]:List zn)),r9.2))))))
theorem pM {n:Nat} {a0:C4} {r:(zh×Int)}:vZ n a0=some r→AC mx 18 [qs a0] [] (.tuple [.agg [ql 1 (cL 3 zc.cells) r.1.pZ.xo,qs r.1.XC,qi r.1.kO,qi r.1.Yr,ql 4 zn.cells r.1.yn],qi r.2]) []:=by
 delta vZ
 exact fnL Tryz.func18 rfl<|rgL<|bEL fun r1 hr1=>rCL (kCL 1 A0 (Y4 hr1) edL)<|bEL fun r2 hr2=>rCL (kCL 1 Ab (xg hr2) edL)<|rgL<|bEL fun r3 hr3=>rCL (kCL 1 A6 (z1 hr3) edL)<|bEL fun r4 hr4=>rCL (kCL 1 A6 (z1 hr4) edL)<|bEL fun r5 hr5=>rCL (kCL 1 A6 (vb hr5) edL)<|bEL fun r6 hr6=>rCL (kCL 1 A6 (vb hr6) edL)<|bEL fun r7 hr7=>rCL (kCL 1 A6 (xg hr7) edL)<|bEL fun r8 hr8=>rCL (kCL 1 A6 (v8 hr8) edL)<|rgL<|bFL (rgL<|zg<|rJ Aa)<|rgL<|bEL fun r9 hr9=>rCL (kCL 1 Aa (Wj hr9) edL)<|zY<|rgL<|bFL (rgL<|zg<|yi<|rJ Aa)<|rCL (kPL 3 (yg (c:=(cL 3 zc.cells)) (l:=r9.1.xo) (e:=83) (sz:=1) (sz':=1) (b:=24) (tok:= .none)) edL)<|bFL (rgL<|zg<|yi<|rJ Aa)<|rgL<|bFL (rgL<|zg<|yi<|rJ Aa)<|rgL<|bFL nEL<|z8<|rgL<|zg<|rJ Aa
def kL (n:Nat):Option zr:=
 some (zr.mk false false (-1) 0 ([]:List C4) ([]:List C4) ([]:List zw) (-1) (-1) (-1) ([]:List za) false (zv.mk ([]:List za) ([]:List za)) ([]:C4) ([]:C4) ([]:List zn) ([]:List zn) ([]:List zf))
theorem XG {n:Nat} {r:zr}:kL n  =some r→AC mx 220 [] [] (.agg (zr.cells r)) []:=by
 delta kL
 exact fnL Tryz.func220 rfl<|rgL<|rgL<|zg<|rJ A0
def Yo (n:Nat)(a0:Int):Option Int:=
 if(a0==1)=true then(some 128)else((Q6 .i64 1 (wrap .u64 ((8:Int)*(wrap .u64 (wrap .i64 (a0-1)))))).bind fun x1=>
 some x1)
theorem Vl {n:Nat} {a0:Int} {r:Int}:Yo n a0=some r→AC mx 413 [qi a0] [] (qi r) []:=by
 delta Yo
 exact fnL Tryz.func413 rfl<|rgL<|rgL<|bFL (rgL<|zg<|rJ J)<|bEL fun x1 hx1=>rCL (kPL 4 (V9 (k:= .i64) (d:=(tyT 3).d) (k':= .u64) hx1) edL)<|zg<|rJ J
def gX (n:Nat)(x33:C4):Nat→Int→Int→Option Int
 |0,_,_=>none
 | k+1,v47,v48=>
  if(decide (v48<(List.length (s2b x33):Int)))=true then((xe (s2b x33) v48).bind fun x52=>
  gX n x33 k (ior .i64 (wrap .i64 (v47*256)) (wrap .i64 x52)) (wrap .i64 (v48+1)))else(some v47)
def dW (n:Nat)(a0:C4):Option (zd×C4×Int):=
 if(a0==([]:C4))=true then(some ((zd.mk 0 ([]:C4) ([]:C4)),([]:C4),3))else((xD a0 0).bind fun x1=>
 if((va .i64 (wrap .i64 x1) 31)==31)=true then(some ((zd.mk 0 ([]:C4) ([]:C4)),([]:C4),5))else(if(decide ((a0.length:Int)<2))=true then(some ((zd.mk 0 ([]:C4) ([]:C4)),([]:C4),3))else((xD a0 1).bind fun x2=>
 (if((wrap .i64 x2)==128)=true then(some true)else(some (decide ((wrap .i64 x2)>131)))).bind fun y4=>
 if y4=true then(some ((zd.mk 0 ([]:C4) ([]:C4)),([]:C4),6))else(yM (if(decide ((wrap .i64 x2)>128))=true then(if(decide ((a0.length:Int)<(wrap .i64 ((2:Int)+(wrap .i64 ((wrap .i64 x2)-128))))))=true then(some (.ret ((zd.mk 0 ([]:C4) ([]:C4)),([]:C4),3)))else((ssl a0 2 (wrap .i64 ((2:Int)+(wrap .i64 ((wrap .i64 x2)-128))))).bind fun x33=>
 (gX n x33 n 0 0).bind fun y43=>
 ((Yo n (wrap .i64 ((wrap .i64 x2)-128))).bind fun r53=>
 if(decide (y43<r53))=true then(some true)else(some (decide (y43>131072)))).bind fun y55=>
 if y55=true then(some (.ret ((zd.mk 0 ([]:C4) ([]:C4)),([]:C4),6)))else(some (.nxt (y43,wrap .i64 ((2:Int)+(wrap .i64 ((wrap .i64 x2)-128))))))))else(some (.nxt (wrap .i64 x2,2)))) (fun r=>some r) (fun y30=>
 if(decide ((wrap .i64 ((a0.length:Int)-y30.2))<y30.1))=true then(some ((zd.mk 0 ([]:C4) ([]:C4)),([]:C4),3))else((ssl a0 y30.2 (wrap .i64 (y30.2+y30.1))).bind fun x56=>
 (ssl a0 0 (wrap .i64 (y30.2+y30.1))).bind fun x57=>
 (ssl a0 (wrap .i64 (y30.2+y30.1)) (a0.length)).bind fun x58=>
 some ((zd.mk (wrap .i64 x1) x56 x57),x58,0)))))))
theorem pS {n:Nat} {a0:C4} {r:(zd×C4×Int)}:dW n a0=some r→AC mx 329 [qs a0] [] (.tuple [.agg (zd.cells r.1),qs r.2.1,qi r.2.2]) []:=by
 delta dW
 exact fnL Tryz.func329 rfl<|rgL<|rgL<|rgL<|bFL (rgL<|zg<|rJ A1)<|bEL fun x1 hx1=>rCL (kPL 1 (zZ hx1) edL)<|rgL<|bFL (rgL<|zg<|rJ A1)<|rgL<|bFL (rgL<|zg<|rJ A1)<|bEL fun x2 hx2=>rCL (kPL 1 (zZ hx2) edL)<|bEL fun y4 hE=>rgF hE ⟨99,[(0,qs a0),(2,qp 0),(5,qp 1),(6,qi (wrap .i64 x1)),(7,qi (wrap .i64 x2)),(8,qi 2),(34,qb y4)]⟩ ⟨[[qi 0,qs [],qs []],[qi 0,qs [],qs []]],[]⟩ (gFL 3 31 (eJ A3)<|eJ A3)<|bFL (rgL<|zg<|rJ A1)<|rgL<|ccL (fun y30=>⟨99,[(0,qs a0),(2,qp 0),(5,qp 1),(6,qi (wrap .i64 x1)),(7,qi y30.1),(8,qi y30.2)]⟩) (fun y30=>⟨[[qi 0,qs [],qs []],[qi 0,qs [],qs []]],[]⟩) (fun o31 hr32=>bFL (rgL<|rgL<|bFL (rgL<|zg<|hvL hr32<|yb<|rJ A1)<|rgL<|bEL fun x33 hx33=>rCL (kPL 3 (xm (k:= .i64) (k':= .i64) hx33)<|lfL (fun z=>kS 4 x33 z)<|kPL 5 (yg (c:=(cI .u8)) (l:=s2b x33) (e:=5) (sz:=1) (sz':=1) (b:=1) (tok:= .none)) edL)<|blL (fun y43=>⟨99,[(0,qs a0),(2,qp 0),(5,qp 1),(6,qi (wrap .i64 x1)),(7,qi y43),(8,qi 2),(9,qi (wrap .i64 ((wrap .i64 x2)-128)))]⟩) (fun y43=>⟨[[qi 0,qs [],qs []],[qi 0,qs [],qs []]],[]⟩) (fun y43=>lpL (fun k x=>gX n x33 k x.1 x.2) (0,0) A3 (fun x=>⟨99,[(0,qs a0),(2,qp 0),(5,qp 1),(6,qi (wrap .i64 x1)),(7,qi x.1),(8,qi 2),(9,qi (wrap .i64 ((wrap .i64 x2)-128))),(50,ql 1 (cI .u8) (s2b x33)),(51,qi (List.length (s2b x33):Int)),(52,qi x.2)]⟩) (fun x=>⟨[[qi 0,qs [],qs []],[qi 0,qs [],qs []]],[]⟩) fun k x=>by obtain⟨v47,v48⟩:=x; rw [gX]; exact rgL<|bFL (zY<|bEL fun x52 hx52=>rCL (kPL 0 (zR (c:=(cI .u8)) (e:=5) (sz:=1) (b:=1) (tok:= .none) hx52) edL)<|xi yF<|z8<|xi zI fun h=>⟨(ior .i64 (wrap .i64 (v47*256)) (wrap .i64 x52),wrap .i64 (v48+1)),h,wk A3⟩)<|zW<|zS<|zN<|jnL A3) fun y43=>rgL<|bEL fun y55 hE=>rgF hE ⟨99,[(0,qs a0),(2,qp 0),(5,qp 1),(6,qi (wrap .i64 x1)),(7,qi y43),(8,qi (wrap .i64 ((2:Int)+(wrap .i64 ((wrap .i64 x2)-128))))),(72,qb y55)]⟩ ⟨[[qi 0,qs [],qs []],[qi 0,qs [],qs []]],[]⟩ (bEL fun r53 hr53=>kCL 2 A1 (Vl hr53)<|gFL 5 69 (eJ A3)<|eJ A3)<|bFL (rgL<|zg<|hvL hr32<|yb<|rJ A1)<|jCL A3)<|jCL A3) fun y30=>rgL<|bFL (rgL<|zg<|rJ A1)<|bEL fun x56 hx56=>bEL fun x57 hx57=>bEL fun x58 hx58=>lfL (fun z=>zm [0,1,2,3,4,5,6,7,8,9,10,11,12,13,14,15,16,17,18,19,20] [18] [[],[],[],[],[],[3,4],[1,2,3,4,5],[],[],[],[8,9],[7,8,9,10],[0,1,2,3,4,5,6,7,8,9,10,11],[],[],[],[14,15],[13,14,15,16],[0,1,2,3,4,5,6,7,8,9,10,11,12],[0,1,2,3,4,5,6,7,8,9,10,11,12,13,14,15,16,17,18],[0,1,2,3,4,5,6,7,8,9,10,11,12,13,14,15,16,17,18,19]] [] [(2,qp 0),(3,qs x58),(4,qi 0)] ⟨[[qi (wrap .i64 x1),qs x56,qs x57]],[]⟩ (dS [0,1,2,3,4,5]<|dP (xm (k:= .i64) (k':= .i64) hx56)<|dS [7,8,9,10]<|dP (vY (k:= .i64) hx57)<|dS [12,13,14,15,16]<|dP (qw (k:= .i64) hx58)<|dF (zL 17 (qw (k:= .i64) hx58) (zL 11 (vY (k:= .i64) hx57) (zL 6 (xm (k:= .i64) (k':= .i64) hx56) yU)))<|dS [19,20]<|dE A9) z)<|zg<|rJ A0
def pV (n:Nat)(a0:C4):Option (zd×Int):=
 (dW n a0).bind fun r1=>
 if(r1.2.2 !=0)=true then(some ((zd.mk 0 ([]:C4) ([]:C4)),r1.2.2))else(if(!(r1.2.1==([]:C4)))=true then(some ((zd.mk 0 ([]:C4) ([]:C4)),4))else(some (r1.1,0)))
theorem ZM {n:Nat} {a0:C4} {r:(zd×Int)}:pV n a0=some r→AC mx 224 [qs a0] [] (.tuple [.agg (zd.cells r.1),qi r.2]) []:=by
 delta pV
 exact fnL Tryz.func224 rfl<|rgL<|bEL fun r1 hr1=>rCL (kCL 1 A0 (pS hr1) edL)<|rgL<|bFL (rgL<|zg<|rJ A1)<|rgL<|bFL (rgL<|zg<|rJ A1)<|rgL<|zg<|rJ A1
def gO (n:Nat):Nat→C4→(List zd)→Option (Ctl ((List zd)×Int) (List zd))
 |0,_,_=>none
 | k+1,v25,v26=>
  if(!(v25==([]:C4)))=true then((dW n v25).bind fun r33=>
  if(r33.2.2 !=0)=true then(some (.ret (([]:List zd),r33.2.2)))else((jO 40 v26 ([r33.1]:List zd)).bind fun x34=>
  gO n k r33.2.1 x34))else(some (.nxt v26))
def d9 (n:Nat)(a0:C4):Option ((List zd)×Int):=
 yM (gO n  n a0 ([]:List zd)) (fun r=>some r) (fun y17=>
 some (y17,0))
theorem pF {n:Nat} {a0:C4} {r:((List zd)×Int)}:d9 n a0=some r→AC mx 318 [qs a0] [] (.tuple [ql 3 zd.cells r.1,qi r.2]) []:=by
 delta d9
 exact fnL Tryz.func318 rfl<|rgL<|rgL<|bcL (fun y17=>⟨25,[(4, .sl 3 (List.map zd.cells y17) (.fam 0 (y17.length)))]⟩) (fun y17=>⟨[],[y17.length]⟩) (fun o18 hr19=>w7 (wk (fr':=⟨25,[(0,qs a0),(4,qn)]⟩) (st':=⟨[],[]⟩) J)<|w7 Wk.nilFam<|lpL (fun k x=>gO n  k x.1 x.2) (a0,([]:List zd)) A2 (fun x=>⟨25,[(0,qs x.1),(4, .sl 3 (List.map zd.cells x.2) (.fam 0 (x.2.length)))]⟩) (fun x=>⟨[],[x.2.length]⟩) fun k x=>by obtain⟨v25,v26⟩:=x; rw [gO]; exact rgL<|bFL (zY<|bEL fun r33 hr33=>rCL (kCL 1 A8 (pS hr33) edL)<|rgL<|bFL (rgL<|zg<|yi<|yb<|hvL hr19<|zK<|rJ Aq)<|bEL fun x34 hx34=>rCL (lfL (fun z=>kA 3 0 zd.cells (e:=184) (e2:=184) (sz:=3) (bytes:=40) (b2:=40) (tok2:= .exact) hx34 z) edL)<|xi (dq (P:=Tryz.prog) (gl:=gl0 mx) zI)<|z8 fun h=>⟨(r33.2.1,x34),h,wk ⟨[],1,[0],1⟩⟩)<|zW<|zS<|zN<|jCL A2) fun y17=>rgL<|zg<|rJ A8
def dr (n:Nat)(a0:zd):Option (zf×Int):=
 if(a0.p0 !=48)=true then(some ((zf.mk ([]:C4) false ([]:C4)),5))else((d9 n a0.wJ).bind fun r1=>
 if(r1.2 !=0)=true then(some ((zf.mk ([]:C4) false ([]:C4)),r1.2))else(if((r1.1.length:Int)==0)=true then(some ((zf.mk ([]:C4) false ([]:C4)),3))else((xe r1.1 0).bind fun x2=>
 if(x2.p0 !=6)=true then(some ((zf.mk ([]:C4) false ([]:C4)),5))else(none))))
theorem Xk {n:Nat} {a0:zd} {r:(zf×Int)}:dr n a0=some r→AC mx 324 [.agg (zd.cells a0)] [] (.tuple [.agg (zf.cells r.1),qi r.2]) []:=by
 delta dr
 exact fnL Tryz.func324 rfl<|rgL<|rgL<|rgL<|bFL (rgL<|zg<|rJ An)<|bEL fun r1 hr1=>rCL (kCL 2 An (pF hr1) edL)<|rgL<|bFL (rgL<|zg<|rJ An)<|rCL (kPL 1 (yg (c:=zd.cells) (l:=r1.1) (e:=184) (sz:=3) (sz':=3) (b:=40) (tok:= .none)) edL)<|bFL (rgL<|zg<|rJ An)<|bEL fun x2 hx2=>rCL (kPL 1 (zR (c:=zd.cells) (e:=184) (sz:=3) (b:=40) (tok:= .none) hx2) edL)<|bFL (rgL<|zg<|rJ An) nEL
def Yl (n:Nat)(a0:List zf):Option Int:=
 if((a0.length:Int)==0)=true then(some 7)else(if(decide ((a0.length:Int)>24))=true then(some 2)else(none))
theorem Vh {n:Nat} {a0:(List zf)} {r:Int}:Yl n a0=some r→AC mx 325 [ql 3 zf.cells a0] [] (qi r) []:=by
 delta Yl
 exact fnL Tryz.func325 rfl<|rgL<|rCL (kPL 1 (yg (c:=zf.cells) (l:=a0) (e:=123) (sz:=3) (sz':=3) (b:=40) (tok:= .none)) edL)<|bFL (rgL<|zg<|rJ J)<|rCL (kPL 1 (yg (c:=zf.cells) (l:=a0) (e:=123) (sz:=3) (sz':=3) (b:=40) (tok:= .none)) edL)<|bFL (rgL<|zg<|rJ J) nEL
def bG (n:Nat) (r2:((List zd)×Int)):Nat→(List zf)→Int→Option (Ctl ((List zf)×Int) (List zf))
 |0,_,_=>none
 | k+1,v35,v36=>
  if(decide (v36<(r2.1.length:Int)))=true then((xe r2.1 v36).bind fun x46=>
  (dr n x46).bind fun r47=>
  if(r47.2 !=0)=true then(some (.ret (([]:List zf),r47.2)))else((jO 40 v35 ([r47.1]:List zf)).bind fun x48=>
  bG n r2 k x48 (wrap .i64 (v36+1))))else(some (.nxt v35))
def gd (n:Nat)(a0:C4):Option ((List zf)×Int):=
 (pV n a0).bind fun r1=>
 if(r1.2 !=0)=true then(some (([]:List zf),r1.2))else(if(r1.1.p0 !=48)=true then(some (([]:List zf),5))else((d9 n r1.1.wJ).bind fun r2=>
 if(r2.2 !=0)=true then(some (([]:List zf),r2.2))else(yM (bG n r2 n ([]:List zf) 0) (fun r=>some r) (fun y25=>
 (Yl n y25).bind fun r49=>
 if(r49 !=0)=true then(some (([]:List zf),r49))else(some (y25,0))))))
theorem WX {n:Nat} {a0:C4} {r:((List zf)×Int)}:gd n a0=some r→AC mx 221 [qs a0] [] (.tuple [ql 3 zf.cells r.1,qi r.2]) []:=by
 delta gd
 exact fnL Tryz.func221 rfl<|rgL<|bEL fun r1 hr1=>rCL (kCL 1 J (ZM hr1) edL)<|rgL<|bFL (rgL<|zg<|rJ A0)<|rgL<|bFL (rgL<|zg<|rJ A0)<|bEL fun r2 hr2=>rCL (kCL 2 A0 (pF hr2) edL)<|rgL<|bFL (rgL<|zg<|rJ A0)<|rgL<|rCL (kPL 1 (yg (c:=zd.cells) (l:=r2.1) (e:=184) (sz:=3) (sz':=3) (b:=40) (tok:= .none)) edL)<|bcL (fun y25=>⟨58,[(7, .sl 3 (List.map zf.cells y25) (.fam 0 (y25.length)))]⟩) (fun y25=>⟨[],[y25.length]⟩) (fun o26 hr27=>w7 (wk (fr':=⟨58,[(7,qn),(33,ql 3 zd.cells r2.1),(34,qi (r2.1.length:Int)),(35,qi 0)]⟩) (st':=⟨[],[]⟩) A0)<|w7 Wk.nilFam<|lpL (fun k x=>bG n r2 k x.1 x.2) (([]:List zf),0) A2 (fun x=>⟨58,[(7, .sl 3 (List.map zf.cells x.1) (.fam 0 (x.1.length))),(33,ql 3 zd.cells r2.1),(34,qi (r2.1.length:Int)),(35,qi x.2)]⟩) (fun x=>⟨[],[x.1.length]⟩) fun k x=>by obtain⟨v35,v36⟩:=x; rw [bG]; exact rgL<|bFL (zY<|bEL fun x46 hx46=>rCL (kPL 0 (zR (c:=zd.cells) (e:=184) (sz:=3) (b:=40) (tok:= .none) hx46) edL)<|bEL fun r47 hr47=>rCL (kCL 1 Aq (Xk hr47) edL)<|rgL<|bFL (rgL<|zg<|yi<|yb<|hvL hr27<|zK<|rJ Aj)<|bEL fun x48 hx48=>xC yF (lfL (fun z=>kA 3 0 zf.cells (e:=123) (e2:=123) (sz:=3) (bytes:=40) (b2:=40) (tok2:= .exact) hx48 z) edL)<|z8<|xi zI fun h=>⟨(x48,wrap .i64 (v36+1)),h,wk ⟨[],2,[0],1⟩⟩)<|zW<|zS<|zN<|jCL A2) fun y25=>bEL fun r49 hr49=>rCL (kCL 1 A8 (Vh hr49) edL)<|rgL<|bFL (rgL<|zg<|rJ A8)<|rgL<|zg<|rJ A8
def jK (n:Nat)(a0:C4):Option (zr×Int):=
 if(a0==([]:C4))=true then((kL n).bind fun r1=>
 some ((zr.mk r1.yk r1.jZ r1.yw r1.yr r1.yc r1.zH r1.yd r1.zA r1.zD r1.zV r1.yl r1.zz (zv.mk r1.zq.ye r1.zq.yo) r1.zU r1.zJ r1.yn r1.z7 r1.yp),0))else((gd n a0).bind fun r2=>
 if(r2.2 !=0)=true then(some ((zr.mk false false 0 0 ([]:List C4) ([]:List C4) ([]:List zw) 0 0 0 ([]:List za) false (zv.mk ([]:List za) ([]:List za)) ([]:C4) ([]:C4) ([]:List zn) ([]:List zn) ([]:List zf)),r2.2))else(none))
theorem Yd {n:Nat} {a0:C4} {r:(zr×Int)}:jK n a0=some r→AC mx 100 [qs a0] [] (.tuple [.agg (zr.cells r.1),qi r.2]) []:=by
 delta jK
 exact fnL Tryz.func100 rfl<|rgL<|rgL<|bFL (bEL fun r1 hr1=>rCL (kCL 0 A0 (XG hr1) edL)<|zg<|rJ A0)<|bEL fun r2 hr2=>rCL (kCL 1 A0 (WX hr2) edL)<|rgL<|bFL (rgL<|zg<|rJ A0) nEL
def yW (n:Nat)(m0:zk):Option (Int×zk):=
 (yh n m0).bind fun r1=>
 if(r1.1==([45]:C4))=true then(some ((-1),r1.2))else((wA n r1.1 r1.2).bind fun r2=>
 some (r2.1,r2.2))
theorem jF {n:Nat} {m0:zk} {r:(Int×zk)}:yW n m0=some r→AC mx 101 [qp 0] [zk.cells m0] (qi r.1) [zk.cells r.2]:=by
 delta yW
 exact fnL Tryz.func101 rfl<|rgL<|bEL fun r1 hr1=>rCL (kCL 1 O (xg hr1) edL)<|rgL<|bFL (rgL<|zg<|rJ O)<|bEL fun r2 hr2=>rCL (kCL 2 O (j9 hr2) edL)<|zg<|rJ O
def wD (n:Nat)(m0:zk):Option (zM×Int×zk):=
 (yh n m0).bind fun r1=>
 (zu n r1.2).bind fun r2=>
 yM (if(r1.1==([105,115,115,117,101]:C4))=true then((zu n r2.2).bind fun r58=>
 (yx n r58.2).bind fun r59=>
 (yx n r59.2).bind fun r60=>
 (yO n r60.2).bind fun r61=>
 if(r61.1 !=0)=true then(some (.ret ((zM.mk 1 r2.1 r58.1 r59.1 (zr.mk false false 0 0 ([]:List C4) ([]:List C4) ([]:List zw) 0 0 0 ([]:List za) false (zv.mk ([]:List za) ([]:List za)) ([]:C4) ([]:C4) ([]:List zn) ([]:List zn) ([]:List zf)) 0 0 0 0 0 0 false),r61.1,r61.2)))else((jK n r60.1).bind fun r62=>
 some (.ret ((zM.mk 1 r2.1 r58.1 r59.1 (zr.mk r62.1.yk r62.1.jZ r62.1.yw r62.1.yr r62.1.yc r62.1.zH r62.1.yd r62.1.zA r62.1.zD r62.1.zV r62.1.yl r62.1.zz (zv.mk r62.1.zq.ye r62.1.zq.yo) r62.1.zU r62.1.zJ r62.1.yn r62.1.z7 r62.1.yp) 0 0 0 0 0 0 false),r62.2,r61.2))))else(if(r1.1==([114,101,110,101,119]:C4))=true then((zu n r2.2).bind fun r63=>
 (zu n r63.2).bind fun r64=>
 some (.nxt (r64.2.yz,r64.2.zG,2,r63.1,([]:C4),r64.1,0,0,0,0,0,false)))else(if(r1.1==([114,101,107,101,121]:C4))=true then((zu n r2.2).bind fun r65=>
 some (.nxt (r65.2.yz,r65.2.zG,3,r65.1,([]:C4),0,0,0,0,0,0,false)))else(if(r1.1==([114,101,118,111,107,101]:C4))=true then((zu n r2.2).bind fun r66=>
 (zu n r66.2).bind fun r67=>
 (yW n r67.2).bind fun r68=>
 some (.nxt (r68.2.yz,r68.2.zG,4,0,([]:C4),r66.1,r67.1,r68.1,0,0,0,false)))else(if(r1.1==([114,101,108,101,97,115,101]:C4))=true then((zu n r2.2).bind fun r69=>
 some (.nxt (r69.2.yz,r69.2.zG,5,0,([]:C4),r69.1,0,0,0,0,0,false)))else(if(r1.1==([112,117,98,108,105,115,104]:C4))=true then((zu n r2.2).bind fun r70=>
 (yW n r70.2).bind fun r71=>
 (zu n r71.2).bind fun r72=>
 (yW n r72.2).bind fun r73=>
 (yh n r73.2).bind fun r74=>
 (if r74.2.zG=true then(some true)else(if(!(r74.1==([102,111,114,101,105,103,110]:C4)))=true then(some (!(r74.1==([111,119,110]:C4))))else(some false))).bind fun y76=>
 some (.nxt (r74.2.yz,y76,6,r70.1,([]:C4),0,0,0,r71.1,r72.1,r73.1,r74.1==([102,111,114,101,105,103,110]:C4))))else(if(r1.1==([97,100,111,112,116]:C4))=true then((yx n r2.2).bind fun r77=>
 some (.nxt (r77.2.yz,r77.2.zG,7,0,r77.1,0,0,0,0,0,0,false)))else(some (.nxt (r2.2.yz,true,0,0,([]:C4),0,0,0,0,0,0,false)))))))))) (fun r=>some r) (fun y55=>
 (yO n (zk.mk y55.1 y55.2.1)).bind fun r78=>
 some ((zM.mk y55.2.2.1 r2.1 y55.2.2.2.1 y55.2.2.2.2.1 (zr.mk false false 0 0 ([]:List C4) ([]:List C4) ([]:List zw) 0 0 0 ([]:List za) false (zv.mk ([]:List za) ([]:List za)) ([]:C4) ([]:C4) ([]:List zn) ([]:List zn) ([]:List zf)) y55.2.2.2.2.2.1 y55.2.2.2.2.2.2.1 y55.2.2.2.2.2.2.2.1 y55.2.2.2.2.2.2.2.2.1 y55.2.2.2.2.2.2.2.2.2.1 y55.2.2.2.2.2.2.2.2.2.2.1 y55.2.2.2.2.2.2.2.2.2.2.2),r78.1,r78.2))
theorem gA {n:Nat} {m0:zk} {r:(zM×Int×zk)}:wD n m0=some r→AC mx 47 [qp 0] [zk.cells m0] (.tuple [.agg (zM.cells r.1),qi r.2.1]) [zk.cells r.2.2]:=by
 delta wD
 exact fnL Tryz.func47 rfl<|rgL<|rgL<|bEL fun r1 hr1=>rCL (kCL 1 A5 (xg hr1) edL)<|bEL fun r2 hr2=>rCL (kCL 1 A5 (z1 hr2) edL)<|rgL<|bcL (fun y55=>⟨121,[(0,qp 0),(2,qp 1),(4,qp 2)]⟩) (fun y55=>⟨[[ql 1 cS y55.1,qb y55.2.1],[qi 0,qi 0,qi 0,qs [],qb false,qb false,qi 0,qi 0,qn,qn,qn,qi 0,qi 0,qi 0,qn,qb false,qn,qn,qs [],qs [],qn,qn,qn,qi 0,qi 0,qi 0,qi 0,qi 0,qi 0,qb false],[qi y55.2.2.1,qi r2.1,qi y55.2.2.2.1,qs y55.2.2.2.2.1,qb false,qb false,qi 0,qi 0,qn,qn,qn,qi 0,qi 0,qi 0,qn,qb false,qn,qn,qs [],qs [],qn,qn,qn,qi y55.2.2.2.2.2.1,qi y55.2.2.2.2.2.2.1,qi y55.2.2.2.2.2.2.2.1,qi y55.2.2.2.2.2.2.2.2.1,qi y55.2.2.2.2.2.2.2.2.2.1,qi y55.2.2.2.2.2.2.2.2.2.2.1,qb y55.2.2.2.2.2.2.2.2.2.2.2]],[]⟩) (fun o56 hr57=>rgL<|bFL (rgL<|bEL fun r58 hr58=>rCL (kCL 1 A5 (z1 hr58) edL)<|bEL fun r59 hr59=>rCL (kCL 1 A5 (vb hr59) edL)<|bEL fun r60 hr60=>rCL (kCL 1 A5 (vb hr60) edL)<|bEL fun r61 hr61=>rCL (kCL 1 A5 (v8 hr61) edL)<|rgL<|bFL (rgL<|zg<|hvL hr57<|zK<|rJ A5)<|rgL<|bEL fun r62 hr62=>rCL (kCL 1 Aa (Yd hr62) edL)<|rgL<|zg<|hvL hr57<|zK<|rJ A5)<|rgL<|bFL (rgL<|bEL fun r63 hr63=>rCL (kCL 1 A5 (z1 hr63) edL)<|bEL fun r64 hr64=>xC ya (kCL 1 A5 (z1 hr64) edL)<|jCL A4)<|rgL<|bFL (rgL<|bEL fun r65 hr65=>xC ya (kCL 1 A5 (z1 hr65) edL)<|jCL A4)<|rgL<|bFL (rgL<|bEL fun r66 hr66=>rCL (kCL 1 A5 (z1 hr66) edL)<|bEL fun r67 hr67=>rCL (kCL 1 A5 (z1 hr67) edL)<|bEL fun r68 hr68=>xC ya (kCL 1 A5 (jF hr68) edL)<|jCL A4)<|rgL<|bFL (rgL<|bEL fun r69 hr69=>xC ya (kCL 1 A5 (z1 hr69) edL)<|jCL A4)<|rgL<|bFL (rgL<|bEL fun r70 hr70=>rCL (kCL 1 A5 (z1 hr70) edL)<|bEL fun r71 hr71=>rCL (kCL 1 A5 (jF hr71) edL)<|bEL fun r72 hr72=>rCL (kCL 1 A5 (z1 hr72) edL)<|bEL fun r73 hr73=>rCL (kCL 1 A5 (jF hr73) edL)<|bEL fun r74 hr74=>rCL (kCL 1 A5 (xg hr74) edL)<|rgL<|bEL fun y76 hE=>Gn hE ya ⟨121,[(0,qp 0),(2,qp 1),(4,qp 2)]⟩ ⟨[[ql 1 cS r74.2.yz,qb y76],[qi 0,qi 0,qi 0,qs [],qb false,qb false,qi 0,qi 0,qn,qn,qn,qi 0,qi 0,qi 0,qn,qb false,qn,qn,qs [],qs [],qn,qn,qn,qi 0,qi 0,qi 0,qi 0,qi 0,qi 0,qb false],[qi 6,qi r2.1,qi r70.1,qs [],qb false,qb false,qi 0,qi 0,qn,qn,qn,qi 0,qi 0,qi 0,qn,qb false,qn,qn,qs [],qs [],qn,qn,qn,qi 0,qi 0,qi 0,qi r71.1,qi r72.1,qi r73.1,qb (r74.1==([102,111,114,101,105,103,110]:C4))]],[]⟩ (gFL 6 102 (eJ A4)<|gFL 9 105 (eJ A4)<|eJ A4)<|jCL A4)<|rgL<|bFL (rgL<|bEL fun r77 hr77=>xC ya (kCL 1 A5 (vb hr77) edL)<|jCL A4)<|xi ya<|jCL A4) fun y55=>bEL fun r78 hr78=>lfL (fun z=>zm [0,1,2,3,4] [2,3] [[],[],[1],[0,1,2],[0,1,2,3]] [] [(2,qp 1),(3,qi r78.1)] ⟨[zk.cells r78.2,[qi y55.2.2.1,qi r2.1,qi y55.2.2.2.1,qs y55.2.2.2.2.1,qb false,qb false,qi 0,qi 0,qn,qn,qn,qi 0,qi 0,qi 0,qn,qb false,qn,qn,qs [],qs [],qn,qn,qn,qi y55.2.2.2.2.2.1,qi y55.2.2.2.2.2.2.1,qi y55.2.2.2.2.2.2.2.1,qi y55.2.2.2.2.2.2.2.2.1,qi y55.2.2.2.2.2.2.2.2.2.1,qi y55.2.2.2.2.2.2.2.2.2.2.1,qb y55.2.2.2.2.2.2.2.2.2.2.2]],[]⟩ (dS [0,1]<|dC yU A5 (v8 hr78)<|dF yU<|dS [4]<|dE ⟨[0,1],3,[],0⟩) z)<|zg<|rJ A9
def wR (n:Nat)(r2:List C4):Nat→(List Int)→Int→(List C4)→Bool→Option ((List Int)×(List C4)×Bool)
 |0,_,_,_,_=>none
 | k+1,v38,v39,v40,v41=>
  if(decide (v39<(r2.length:Int)))=true then((xe r2 v39).bind fun x51=>
  (wA n x51 (zk.mk v40 v41)).bind fun r52=>
  (jO 8 v38 ([r52.1]:List Int)).bind fun x53=>
  wR n r2 k x53 (wrap .i64 (v39+1)) r52.2.yz r52.2.zG)else(some (v38,v40,v41))
def wr (n:Nat)(m0:zk):Option ((List Int)×zk):=
 (yh n m0).bind fun r1=>
 if(r1.1==([45]:C4))=true then(some (([]:List Int),r1.2))else((wU n r1.1 ([44]:C4)).bind fun r2=>
 (wR n r2 n ([]:List Int) 0 r1.2.yz r1.2.zG).bind fun y29=>
 some (y29.1,(zk.mk y29.2.1 y29.2.2)))
theorem bZ {n:Nat} {m0:zk} {r:((List Int)×zk)}:wr n m0=some r→AC mx 48 [qp 0] [zk.cells m0] (ql 1 (cI .i64) r.1) [zk.cells r.2]:=by
 delta wr
 exact fnL Tryz.func48 rfl<|rgL<|bEL fun r1 hr1=>rCL (kCL 1 O (xg hr1) edL)<|rgL<|bFL (rgL<|zg<|rJ O)<|rgL<|bEL fun r2 hr2=>rCL (kCL 1 A0 (jM hr2)<|kPL 2 (yg (c:=cS) (l:=r2) (e:=9) (sz:=1) (sz':=1) (b:=16) (tok:= .none)) edL)<|blL (fun y29=>⟨26,[(4, .sl 1 (List.map (cI .i64) y29.1) (.fam 0 (y29.1.length)))]⟩) (fun y29=>⟨[[ql 1 cS y29.2.1,qb y29.2.2]],[y29.1.length]⟩) (fun y29=>w7 (wk (fr':=⟨26,[(0,qp 0),(4,qn),(12,ql 1 cS r2),(13,qi (r2.length:Int)),(14,qi 0)]⟩) (st':=⟨[zk.cells r1.2],[]⟩) O)<|w7 Wk.nilFam<|lpL (fun k x=>wR n r2 k x.1 x.2.1 x.2.2.1 x.2.2.2) (([]:List Int),0,r1.2.yz,r1.2.zG) A7 (fun x=>⟨26,[(0,qp 0),(4, .sl 1 (List.map (cI .i64) x.1) (.fam 0 (x.1.length))),(12,ql 1 cS r2),(13,qi (r2.length:Int)),(14,qi x.2.1)]⟩) (fun x=>⟨[[ql 1 cS x.2.2.1,qb x.2.2.2]],[x.1.length]⟩) fun k x=>by obtain⟨v38,v39,v40,v41⟩:=x; rw [wR]; exact rgL<|bFL (zY<|bEL fun x51 hx51=>rCL (kPL 0 (zR (c:=cS) (e:=9) (sz:=1) (b:=16) (tok:= .none) hx51) edL)<|bEL fun r52 hr52=>bEL fun x53 hx53=>xC yF (kCL 3 C1 (j9 hr52)<|lfL (fun z=>kA 5 0 (cI .i64) (e:=3) (e2:=3) (sz:=1) (bytes:=8) (b2:=8) (tok2:= .exact) hx53 z) edL)<|z8<|xi zI fun h=>⟨(x53,wrap .i64 (v39+1),r52.2.yz,r52.2.zG),h,wk A7⟩)<|zW<|zS<|zN<|jnL A7) fun y29=>rgL<|zg<|rJ C1
def bA (n:Nat)(rc:zd→Int→Option Int)(a1:Int):Nat→C4→Option (Ctl Int Unit)
 |0,_=>none
 | k+1,v21=>
  if(!(v21==([]:C4)))=true then((dW n v21).bind fun r28=>
  if(r28.2.2 !=0)=true then(some (.ret r28.2.2))else(if(decide (a1≥16))=true then(some (.ret 8))else((rc r28.1 (wrap .i64 (a1+1))).bind fun r29=>
  if(r29 !=0)=true then(some (.ret r29))else(bA n rc a1 k r28.2.1))))else(some (.nxt ()))
def kY (n:Nat):Nat→zd→Int→Option Int
 |0,_,_=>none
 | kk+1,a0,a1=>
  if((va .i64 a0.p0 32)==0)=true then(some 0)else(yM (bA n (kY n kk) a1 n a0.wJ) (fun r=>some r) (fun y14=>
  some 0))
theorem WP {n:Nat}:∀(kk:Nat) {a0:zd} {a1:Int} {r:Int} (_:kY n kk a0 a1=some r),AC mx 328 [.agg (zd.cells a0),qi a1] [] (qi r) []:=by
 intro kk
 induction kk with
 |zero=>intro a0 a1 r h; simp [kY]at h
 | succ kk ih=>
  intro a0 a1 r h
  rw [kY]at h
  exact imA h<|fnL Tryz.func328 rfl<|rgL<|rgL<|bFL (rgL<|zg<|rJ A0)<|rgL<|bcL (fun _=>⟨37,[]⟩) (fun _=>⟨[],[]⟩) (fun o15 hr16=>lpL (fun k x=>bA n (kY n kk) a1 k x) a0.wJ A0 (fun x=>⟨37,[(1,qi a1),(5,qs x)]⟩) (fun x=>⟨[],[]⟩) fun k v21=>by rw [bA]; exact rgL<|bFL (zY<|bEL fun r28 hr28=>rCL (kCL 1 J (pS hr28) edL)<|rgL<|bFL (rgL<|zg<|yi<|yb<|hvL hr16<|zK<|rJ A0)<|rgL<|bFL (rgL<|zg<|yi<|yb<|hvL hr16<|zK<|rJ A0)<|bEL fun r29 hr29=>rCL (kCL 3 A0 (ih hr29) edL)<|rgL<|bFL (rgL<|zg<|yi<|yb<|hvL hr16<|zK<|rJ A0)<|xi (dq (P:=Tryz.prog) (gl:=gl0 mx) zI)<|z8 fun h=>⟨r28.2.1,h,wk A0⟩)<|zW<|zS<|zN<|jCL J) fun y14=>rgL<|zg<|rJ J
def Yx (n:Nat)(a0:C4):Option Int:=
 (pV n a0).bind fun r1=>
 if(r1.2 !=0)=true then(some r1.2)else((kY n n r1.1 1).bind fun r2=>
 some r2)
theorem Vg {n:Nat} {a0:C4} {r:Int}:Yx n a0=some r→AC mx 223 [qs a0] [] (qi r) []:=by
 delta Yx
 exact fnL Tryz.func223 rfl<|rgL<|bEL fun r1 hr1=>rCL (kCL 1 J (ZM hr1) edL)<|rgL<|bFL (rgL<|zg<|rJ A0)<|bEL fun r2 hr2=>rCL (kCL 1 A0 (WP _ hr2) edL)<|zg<|rJ A0
def bC (n:Nat)(a0:C4):Option zC:=
 (d9 n a0).bind fun r1=>
 some (zC.mk r1.1 (r1.2 !=0))
theorem pm {n:Nat} {a0:C4} {r:zC}:bC n a0=some r→AC mx 330 [qs a0] [] (qp 0) [zC.cells r]:=by
 delta bC
 exact fnL Tryz.func330 rfl<|rgL<|bEL fun r1 hr1=>rCL (kCL 1 J (pF hr1) edL)<|rgL<|zg<|rJ O
def du (n:Nat)(a0:zd):Option zC:=
 (bC n a0.wJ).bind fun r1=>
 (if r1.kG=true then(some true)else(some (a0.p0 !=48))).bind fun y3=>
 some (zC.mk r1.f_l y3)
theorem Xj {n:Nat} {a0:zd} {r:zC}:du n a0=some r→AC mx 225 [.agg (zd.cells a0)] [] (qp 0) [zC.cells r]:=by
 delta du
 exact fnL Tryz.func225 rfl<|rgL<|bEL fun r1 hr1=>rCL (kCL 2 A0 (pm hr1) edL)<|bEL fun y3 hE=>rgF hE ⟨20,[(3,qp 0)]⟩ ⟨[[ql 3 zd.cells r1.f_l,qb y3]],[]⟩ (gFL 6 12 (eJ Ab)<|eJ Ab)<|rgL<|zg<|rJ O
def jN (n:Nat)(m0:zC):Option (zd×zC):=
 if((m0.f_l.length:Int)==0)=true then(some ((zd.mk 0 ([]:C4) ([]:C4)),(zC.mk m0.f_l true)))else((xe m0.f_l 0).bind fun x1=>
 (lsl m0.f_l 1 (m0.f_l.length)).bind fun x2=>
 some (x1,(zC.mk x2 m0.kG)))
theorem kj {n:Nat} {m0:zC} {r:(zd×zC)}:jN n m0=some r→AC mx 226 [qp 0] [zC.cells m0] (.agg (zd.cells r.1)) [zC.cells r.2]:=by
 delta jN
 exact fnL Tryz.func226 rfl<|rgL<|rCL (kPL 4 (yg (c:=zd.cells) (l:=m0.f_l) (e:=184) (sz:=3) (sz':=3) (b:=40) (tok:= .none)) edL)<|bFL (rgL<|rgL<|zg<|rJ A9)<|bEL fun x1 hx1=>rCL (kPL 4 (zR (c:=zd.cells) (e:=184) (sz:=3) (b:=40) (tok:= .none) hx1) edL)<|bEL fun x2 hx2=>rCL (kPL 5 (Qi (k:= .i64) (c:=zd.cells) (e:=184) (sz:=3) (b:=40) (tok:= .none) hx2) edL)<|rgL<|zg<|rJ A5
def bf (n:Nat)(a0:C4):Nat→Int→Int→Option (Ctl Int Int)
 |0,_,_=>none
 | k+1,v31,v32=>
  if(decide (v32<(List.length (s2b a0):Int)))=true then((xe (s2b a0) v32).bind fun x42=>
  (if(decide (x42<48))=true then(some true)else(some (decide (x42>57)))).bind fun y44=>
  if y44=true then(some (.ret (-1)))else(bf n a0 k (wrap .i64 ((wrap .i64 ((10:Int)*v31))+(wrap .i64 (wrap .u8 (x42-48))))) (wrap .i64 (v32+1))))else(some (.nxt v31))
def jq (n:Nat)(a0:C4):Option Int:=
 yM (bf n a0 n 0 0) (fun r=>some r) (fun y22=>
 some y22)
theorem jx {n:Nat} {a0:C4} {r:Int}:jq n a0=some r→AC mx 331 [qs a0] [] (qi r) []:=by
 delta jq
 exact fnL Tryz.func331 rfl<|rgL<|rgL<|rCL (lfL (fun z=>kS 1 a0 z)<|kPL 2 (yg (c:=(cI .u8)) (l:=s2b a0) (e:=5) (sz:=1) (sz':=1) (b:=1) (tok:= .none)) edL)<|bcL (fun y22=>⟨27,[(3,qi y22)]⟩) (fun y22=>⟨[],[]⟩) (fun o23 hr24=>lpL (fun k x=>bf n a0 k x.1 x.2) (0,0) J (fun x=>⟨27,[(3,qi x.1),(7,ql 1 (cI .u8) (s2b a0)),(8,qi (List.length (s2b a0):Int)),(9,qi x.2)]⟩) (fun x=>⟨[],[]⟩) fun k x=>by obtain⟨v31,v32⟩:=x; rw [bf]; exact rgL<|bFL (zY<|bEL fun x42 hx42=>rCL (kPL 0 (zR (c:=(cI .u8)) (e:=5) (sz:=1) (b:=1) (tok:= .none) hx42) edL)<|bEL fun y44 hE=>rgF hE ⟨27,[(3,qi v31),(5,qu x42),(7,ql 1 (cI .u8) (s2b a0)),(8,qi (List.length (s2b a0):Int)),(9,qi v32),(18,qb y44)]⟩ ⟨[],[]⟩ (gFL 3 15 (eJ J)<|eJ J)<|bFL (rgL<|zg<|yi<|yb<|hvL hr24<|zK<|rJ J)<|xi yF<|z8<|xi zI fun h=>⟨(wrap .i64 ((wrap .i64 ((10:Int)*v31))+(wrap .i64 (wrap .u8 (x42-48)))),wrap .i64 (v32+1)),h,wk J⟩)<|zW<|zS<|zN<|jCL J) fun y22=>rgL<|zg<|rJ J
def ZJ (n:Nat)(a0:Int)(a1:C4):Option wd:=
 (ssl a1 0 2).bind fun x1=>
 (ssl a1 2 4).bind fun x2=>
 (ssl a1 4 6).bind fun x3=>
 (ssl a1 6 8).bind fun x4=>
 (ssl a1 8 10).bind fun x5=>
 (jq n x1).bind fun r6=>
 (jq n x2).bind fun r7=>
 (jq n x3).bind fun r8=>
 (jq n x4).bind fun r9=>
 (jq n x5).bind fun r10=>
 some (wd.mk a0 r6 r7 r8 r9 r10)
theorem Wv {n:Nat} {a0:Int} {a1:C4} {r:wd}:ZJ n a0 a1=some r→AC mx 333 [qi a0,qs a1] [] (.agg (wd.cells r)) []:=by
 delta ZJ
 exact fnL Tryz.func333 rfl<|rgL<|bEL fun x1 hx1=>bEL fun x2 hx2=>bEL fun x3 hx3=>bEL fun x4 hx4=>bEL fun x5 hx5=>bEL fun r6 hr6=>bEL fun r7 hr7=>bEL fun r8 hr8=>bEL fun r9 hr9=>bEL fun r10 hr10=>lfL (fun z=>zm [0,1,2,4,5,7,8,10,11,13,14,3,6,9,12,15,16,17] [3,6,9,12,15,17] [[],[],[1],[1,2],[],[4],[1,2,3,4,5],[],[7],[1,2,3,4,5,6,7,8],[],[10],[1,2,3,4,5,6,7,8,9,10,11],[],[13],[1,2,3,4,5,6,7,8,9,10,11,12,13,14],[0,1,2,3,4,5,6,7,8,9,10,11,12,13,14,15],[0,1,2,3,4,5,6,7,8,9,10,11,12,13,14,15,16]] [] [(4,qp 0)] ⟨[[qi a0,qi r6,qi r7,qi r8,qi r9,qi r10]],[]⟩ (dS [0,1]<|dP (vY (k:= .i64) hx1)<|dS [4]<|dP (xm (k:= .i64) (k':= .i64) hx2)<|dS [7]<|dP (xm (k:= .i64) (k':= .i64) hx3)<|dS [10]<|dP (xm (k:= .i64) (k':= .i64) hx4)<|dS [13]<|dP (xm (k:= .i64) (k':= .i64) hx5)<|dC (zL 14 (xm (k:= .i64) (k':= .i64) hx5) (zL 11 (xm (k:= .i64) (k':= .i64) hx4) (zL 8 (xm (k:= .i64) (k':= .i64) hx3) (zL 5 (xm (k:= .i64) (k':= .i64) hx2) (zL 2 (vY (k:= .i64) hx1) yU))))) A0 (jx hr6)<|dC (zL 14 (xm (k:= .i64) (k':= .i64) hx5) (zL 11 (xm (k:= .i64) (k':= .i64) hx4) (zL 8 (xm (k:= .i64) (k':= .i64) hx3) (zL 5 (xm (k:= .i64) (k':= .i64) hx2) (zL 2 (vY (k:= .i64) hx1) yU))))) A0 (jx hr7)<|dC (zL 14 (xm (k:= .i64) (k':= .i64) hx5) (zL 11 (xm (k:= .i64) (k':= .i64) hx4) (zL 8 (xm (k:= .i64) (k':= .i64) hx3) (zL 5 (xm (k:= .i64) (k':= .i64) hx2) (zL 2 (vY (k:= .i64) hx1) yU))))) A0 (jx hr8)<|dC (zL 14 (xm (k:= .i64) (k':= .i64) hx5) (zL 11 (xm (k:= .i64) (k':= .i64) hx4) (zL 8 (xm (k:= .i64) (k':= .i64) hx3) (zL 5 (xm (k:= .i64) (k':= .i64) hx2) (zL 2 (vY (k:= .i64) hx1) yU))))) A0 (jx hr9)<|dC (zL 14 (xm (k:= .i64) (k':= .i64) hx5) (zL 11 (xm (k:= .i64) (k':= .i64) hx4) (zL 8 (xm (k:= .i64) (k':= .i64) hx3) (zL 5 (xm (k:= .i64) (k':= .i64) hx2) (zL 2 (vY (k:= .i64) hx1) yU))))) A0 (jx hr10)<|dS [16]<|dF (zL 14 (xm (k:= .i64) (k':= .i64) hx5) (zL 11 (xm (k:= .i64) (k':= .i64) hx4) (zL 8 (xm (k:= .i64) (k':= .i64) hx3) (zL 5 (xm (k:= .i64) (k':= .i64) hx2) (zL 2 (vY (k:= .i64) hx1) yU)))))<|dE O) z)<|zg<|rJ A0
def Yf (n:Nat)(a0:Int):Option Bool:=
 (if((Int.tmod a0 4)==0)=true then(if((Int.tmod a0 100) !=0)=true then(some true)else(some ((Int.tmod a0 400)==0)))else(some false)).bind fun y2=>
 some y2
theorem Vf {n:Nat} {a0:Int} {r:Bool}:Yf n a0=some r→AC mx 480 [qi a0] [] (qb r) []:=by
 delta Yf
 exact fnL Tryz.func480 rfl<|rgL<|bEL fun y2 hE=>rgF hE ⟨16,[(2,qb y2)]⟩ ⟨[],[]⟩ (gFL 4 6 (gFL 8 10 (eJ J)<|eJ J)<|eJ J)<|zg<|rJ J
def gL (n:Nat)(a0 a1:Int):Option Int:=
 (if(a1==2)=true then((Yf n a0).bind fun r1=>
 some r1)else(some false)).bind fun y3=>
 if y3=true then(some 29)else(none)
theorem Zz {n:Nat} {a0:Int} {a1:Int} {r:Int}:gL n a0 a1=some r→AC mx 392 [qi a0,qi a1] [] (qi r) []:=by
 delta gL
 exact fnL Tryz.func392 rfl<|rgL<|bEL fun y3 hE=>rgF hE ⟨15,[(1,qi a1),(10,qb y3)]⟩ ⟨[],[]⟩ (gFL 3 7 (bEL fun r1 hr1=>kCL 4 J (Vf hr1)<|eJ J)<|eJ J)<|bFL (rgL<|zg<|rJ J) nEL
def bI (n:Nat)(a0:Int):Option Int:=
 some (wrap .i64 ((wrap .i64 ((wrap .i64 (Int.tdiv a0 4))-(wrap .i64 (Int.tdiv a0 100))))+(wrap .i64 (Int.tdiv a0 400))))
theorem pn {n:Nat} {a0:Int} {r:Int}:bI n a0=some r→AC mx 479 [qi a0] [] (qi r) []:=by
 delta bI
 exact fnL Tryz.func479 rfl<|rgL<|rgL<|zg<|rJ J
def p8 (n:Nat)(a0:Int):Option Int:=
 (bI n (wrap .i64 (a0-1))).bind fun r1=>
 (bI n 1949).bind fun r2=>
 some (wrap .i64 ((wrap .i64 ((wrap .i64 ((365:Int)*(wrap .i64 (a0-1950))))+r1))-r2))
theorem XT {n:Nat} {a0:Int} {r:Int}:p8 n a0=some r→AC mx 391 [qi a0] [] (qi r) []:=by
 delta p8
 exact fnL Tryz.func391 rfl<|rgL<|rgL<|bEL fun r1 hr1=>bEL fun r2 hr2=>rCL (kCL 6 J (pn hr1)<|kCL 9 J (pn hr2) edL)<|zg<|rJ J
def ko (n:Nat)(a0:wd):Nat→Int→Int→Option Int
 |0,_,_=>none
 | k+1,v20,v21=>
  if(decide (v21<a0.pr))=true then((gL n a0.pP v21).bind fun r25=>
  ko n a0 k (wrap .i64 (v20+r25)) (wrap .i64 (v21+1)))else(some v20)
def pd (n:Nat)(a0:wd):Option (Int×Int):=
 (if(decide (a0.pP<1950))=true then(some true)else(if(decide (a0.pP>9999))=true then(some true)else(if(decide (a0.pr<1))=true then(some true)else(if(decide (a0.pr>12))=true then(some true)else(if(decide (a0.YO<1))=true then(some true)else((gL n a0.pP a0.pr).bind fun r1=>
 some (decide (a0.YO>r1)))))))).bind fun y3=>
 if y3=true then(some (0,12))else((if(decide (a0.XE<0))=true then(some true)else(if(decide (a0.XE>23))=true then(some true)else(if(decide (a0.pK<0))=true then(some true)else(if(decide (a0.pK>59))=true then(some true)else(if(decide (a0.pY<0))=true then(some true)else(some (decide (a0.pY>59)))))))).bind fun y5=>
 if y5=true then(some (0,12))else((p8 n a0.pP).bind fun r6=>
 (ko n a0 n (wrap .i64 ((wrap .i64 (r6+a0.YO))-1)) 1).bind fun y16=>
 some (wrap .i64 ((wrap .i64 ((wrap .i64 ((wrap .i64 ((86400:Int)*y16))+(wrap .i64 ((3600:Int)*a0.XE))))+(wrap .i64 ((60:Int)*a0.pK))))+a0.pY),0)))
theorem XB {n:Nat} {a0:wd} {r:(Int×Int)}:pd n a0=some r→AC mx 332 [.agg (wd.cells a0)] [] (.tuple [qi r.1,qi r.2]) []:=by
 delta pd
 exact fnL Tryz.func332 rfl<|rgL<|bEL fun y3 hE=>lfL (fun z=>drw [0,1,2,3,4,5,6,7,8,9,10,11,12,13,14,15,16,17,18,19,20,21,22,23,24,25,26,27,28,29,30,31,32] [30] [[],[0],[0,1],[0,1,2],[0,1,2,3],[0,1,2,3,4],[0,1,2,3,4,5],[0,1,2,3,4,5,6],[0,1,2,3,4,5,6,7],[0,1,2,3,4,5,6,7,8],[0,1,2,3,4,5,6,7,8,9],[0,1,2,3,4,5,6,7,8,9,10],[0,1,2,3,4,5,6,7,8,9,10,11],[0,1,2,3,4,5,6,7,8,9,10,11,12],[0,1,2,3,4,5,6,7,8,9,10,11,12,13],[0,1,2,3,4,5,6,7,8,9,10,11,12,13,14],[0,1,2,3,4,5,6,7,8,9,10,11,12,13,14,15],[0,1,2,3,4,5,6,7,8,9,10,11,12,13,14,15,16],[0,1,2,3,4,5,6,7,8,9,10,11,12,13,14,15,16,17],[0,1,2,3,4,5,6,7,8,9,10,11,12,13,14,15,16,17,18],[0,1,2,3,4,5,6,7,8,9,10,11,12,13,14,15,16,17,18,19],[0,1,2,3,4,5,6,7,8,9,10,11,12,13,14,15,16,17,18,19,20],[0,1,2,3,4,5,6,7,8,9,10,11,12,13,14,15,16,17,18,19,20,21],[0,1,2,3,4,5,6,7,8,9,10,11,12,13,14,15,16,17,18,19,20,21,22],[0,1,2,3,4,5,6,7,8,9,10,11,12,13,14,15,16,17,18,19,20,21,22,23],[0,1,2,3,4,5,6,7,8,9,10,11,12,13,14,15,16,17,18,19,20,21,22,23,24],[0,1,2,3,4,5,6,7,8,9,10,11,12,13,14,15,16,17,18,19,20,21,22,23],[0,1,2,3,4,5,6,7,8,9,10,11,12,13,14,15,16,17,18,19,20,21,22,23,26],[0,1,2,3,4,5,6,7,8,9,10,11,12,13,14,15,16,17,18,19,20,21,22,23],[0,1,2,3,4,5,6,7,8,9,10,11,12,13,14,15,16,17,18,19,20,21,22,23,28],[0,1,2,3,4,5,6,7,8,9,10,11,12,13,14,15,16,17,18,19,20,21,22,23,26,27,28,29],[0,1,2,3,4,5,6,7,8,9,10,11,12,13,14,15,16,17,18,19,20,21,22,23,24,25,26,27,28,29,30],[0,1,2,3,4,5,6,7,8,9,10,11,12,13,14,15,16,17,18,19,20,21,22,23,24,25,26,27,28,29,30,31]] ⟨99,[(1,qp 0),(38,qb y3)]⟩ ⟨[wd.cells a0],[]⟩ (have h:=hE; dS [0,1,2,3]<|hF 9 h (fun h=>dS [4,5,6,7,8,9,10,11,12,13,14,15,16,17,18,19,20,21,22,23,24,25,26,27,28,29]<|dF yU<|dS [31,32]<|by cases h; exact dE O) fun h=>dS [4,5,6,7,8]<|hF 14 h (fun h=>dS [9,10,11,12,13,14,15,16,17,18,19,20,21,22,23,24,25,26,27,28,29]<|dF yU<|dS [31,32]<|by cases h; exact dE O) fun h=>dS [9,10,11,12,13]<|hF 19 h (fun h=>dS [14,15,16,17,18,19,20,21,22,23,24,25,26,27,28,29]<|dF yU<|dS [31,32]<|by cases h; exact dE O) fun h=>dS [14,15,16,17,18]<|hF 24 h (fun h=>dS [19,20,21,22,23,24,25,26,27,28,29]<|dF yU<|dS [31,32]<|by cases h; exact dE O) fun h=>dS [19,20,21,22,23]<|hF 29 h (fun h=>dS [24,25,26,27,28,29]<|dF yU<|dS [31,32]<|by cases h; exact dE O) fun h=>bE h fun r1 hr1 h=>dS [24,25,26,27,28,29]<|dC yU A0 (Zz hr1)<|dS [31,32]<|by cases h; exact dE O) z)<|bFL (rgL<|zg<|rJ A0)<|bEL fun y5 hE=>rgF hE ⟨99,[(1,qp 0),(66,qb y5)]⟩ ⟨[wd.cells a0],[]⟩ (gFL 4 42 (eJ O)<|gFL 9 47 (eJ O)<|gFL 14 52 (eJ O)<|gFL 19 57 (eJ O)<|gFL 24 62 (eJ O)<|eJ O)<|bFL (rgL<|zg<|rJ A0)<|bEL fun r6 hr6=>lfL (fun z=>zs [0,1,3,4,2,5,6,7] [2] [[],[0],[0,1],[],[3],[0,1,2,3,4],[0,1,2,3,4,5],[0,1,2,3,4,5,6]] [] [(1,qp 0),(4,qi (wrap .i64 ((wrap .i64 (r6+a0.YO))-1)))] (dS [0,1,3,4]<|dC yU A0 (XT hr6)<|dS [5,6,7]<|dE O) z)<|rgL<|blL (fun y16=>⟨99,[(1,qp 0),(4,qi y16)]⟩) (fun y16=>⟨[wd.cells a0],[]⟩) (fun y16=>lpL (fun k x=>ko n a0 k x.1 x.2) (wrap .i64 ((wrap .i64 (r6+a0.YO))-1),1) O (fun x=>⟨99,[(1,qp 0),(4,qi x.1),(5,qi x.2)]⟩) (fun x=>⟨[wd.cells a0],[]⟩) fun k x=>by obtain⟨v20,v21⟩:=x; rw [ko]; exact rgL<|bFL (zY<|bEL fun r25 hr25=>xC yF (kCL 4 A0 (Zz hr25) edL)<|z8<|xi zI fun h=>⟨(wrap .i64 (v20+r25),wrap .i64 (v21+1)),h,wk O⟩)<|zW<|zS<|zN<|jnL O) fun y16=>rgL<|zg<|rJ A0
def pQ (n:Nat)(a0:Int)(a1:C4):Option (Int×Int):=
 yM (if(a0==23)=true then(some (.nxt 2))else(if(a0==24)=true then(some (.nxt 4))else(some (.ret (0,5))))) (fun r=>some r) (fun y2=>
 (if((a1.length:Int) !=(wrap .i64 (y2+11)))=true then(some true)else((xD a1 (wrap .i64 (y2+10))).bind fun x5=>
 some (x5 !=90))).bind fun y7=>
 if y7=true then(some (0,12))else((ssl a1 0 y2).bind fun x8=>
 (jq n x8).bind fun r9=>
 yM ((if(decide (r9<0))=true then(some true)else(if(y2==4)=true then(some (decide (r9<2050)))else(some false))).bind fun y23=>
 if y23=true then(some (.ret (0,12)))else((if(y2==2)=true then(some (decide (r9≥50)))else(some false)).bind fun y25=>
 if y25=true then(some (.nxt (wrap .i64 (r9+1900))))else(if(y2==2)=true then(some (.nxt (wrap .i64 (r9+2000))))else(some (.nxt r9))))) (fun r=>some r) (fun y19=>
 (ssl a1 y2 (a1.length)).bind fun x26=>
 (ZJ n y19 x26).bind fun r27=>
 (pd n r27).bind fun r28=>
 some (r28.1,r28.2))))
theorem Wm {n:Nat} {a0:Int} {a1:C4} {r:(Int×Int)}:pQ n a0 a1=some r→AC mx 227 [qi a0,qs a1] [] (.tuple [qi r.1,qi r.2]) []:=by
 delta pQ
 exact fnL Tryz.func227 rfl<|rgL<|rgL<|rgL<|bcL (fun y2=>⟨62,[(1,qs a1),(6,qi y2)]⟩) (fun y2=>⟨[],[]⟩) (fun o3 hr4=>rgL<|bFL (xi ya<|jCL J)<|rgL<|bFL (xi ya<|jCL J)<|rgL<|zg<|hvL hr4<|zK<|rJ J) fun y2=>bEL fun y7 hE=>rgF hE ⟨62,[(1,qs a1),(6,qi y2),(24,qb y7)]⟩ ⟨[],[]⟩ (gFL 6 18 (eJ J)<|bEL fun x5 hx5=>kPL 9 (zZ hx5)<|eJ J)<|bFL (rgL<|zg<|rJ J)<|bEL fun x8 hx8=>bEL fun r9 hr9=>rCL (kPL 2 (vY (k:= .i64) hx8)<|kCL 3 J (jx hr9) edL)<|bcL (fun y19=>⟨62,[(1,qs a1),(6,qi y2),(7,qi y19)]⟩) (fun y19=>⟨[],[]⟩) (fun o20 hr21=>bEL fun y23 hE=>rgF hE ⟨62,[(1,qs a1),(6,qi y2),(7,qi r9),(29,qb y23)]⟩ ⟨[],[]⟩ (gFL 3 32 (eJ J)<|gFL 6 35 (eJ J)<|eJ J)<|bFL (rgL<|zg<|hvL hr21<|zK<|rJ J)<|bEL fun y25 hE=>rgF hE ⟨62,[(1,qs a1),(6,qi y2),(7,qi r9),(40,qb y25)]⟩ ⟨[],[]⟩ (gFL 3 43 (eJ J)<|eJ J)<|bFL (xi ya<|jCL J)<|rgL<|bFL (xi ya<|jCL J)<|jCL J) fun y19=>bEL fun x26 hx26=>bEL fun r27 hr27=>bEL fun r28 hr28=>rCL (kPL 3 (qw (k:= .i64) hx26)<|kCL 4 J (Wv hr27)<|kCL 5 J (XB hr28) edL)<|zg<|rJ J
def ub (n:Nat)(a1:Int)(m0:zC):Option zC:=
 (if m0.kG=true then(some true)else(some (a1 !=0))).bind fun y2=>
 some (zC.mk m0.f_l y2)
theorem jz {n:Nat} {a1:Int} {m0:zC} {r:zC}:ub n a1 m0=some r→AC mx 228 [qp 0,qi a1] [zC.cells m0] (.tuple []) [zC.cells r]:=by
 delta ub
 exact fnL Tryz.func228 rfl<|bEL fun y2 hE=>Gn hE vi ⟨15,[]⟩ ⟨[[ql 3 zd.cells m0.f_l,qb y2]],[]⟩ (gFL 6 9 (eJ O)<|eJ O)<|nJ O
def xT (n:Nat)(a1:Int)(m0:zC):Option (zd×Bool×zC):=
 (if((m0.f_l.length:Int)==0)=true then(some true)else((xe m0.f_l 0).bind fun x1=>
 some (x1.p0 !=a1))).bind fun y3=>
 if y3=true then(some ((zd.mk 0 ([]:C4) ([]:C4)),false,m0))else((jN n m0).bind fun r4=>
 some (r4.1,true,r4.2))
theorem wz {n:Nat} {a1:Int} {m0:zC} {r:(zd×Bool×zC)}:xT n a1 m0=some r→AC mx 229 [qp 0,qi a1] [zC.cells m0] (.tuple [.agg (zd.cells r.1),qb r.2.1]) [zC.cells r.2.2]:=by
 delta xT
 exact fnL Tryz.func229 rfl<|rgL<|bEL fun y3 hE=>rgF hE ⟨26,[(0,qp 0),(4,qp 1),(22,qb y3)]⟩ ⟨[zC.cells m0,[qi 0,qs [],qs []]],[]⟩ (kPL 4 (yg (c:=zd.cells) (l:=m0.f_l) (e:=184) (sz:=3) (sz':=3) (b:=40) (tok:= .none))<|gFL 7 12 (eJ A3)<|bEL fun x1 hx1=>kPL 11 (zR (c:=zd.cells) (e:=184) (sz:=3) (b:=40) (tok:= .none) hx1)<|eJ A3)<|bFL (rgL<|zg<|rJ A9)<|bEL fun r4 hr4=>rCL (kCL 1 A9 (kj hr4) edL)<|zg<|rJ A9
def ZP (n:Nat)(a0:C4)(a1:Int):Option Bool:=
 if(a1==0)=true then(some true)else((if(!(a0==([]:C4)))=true then((xD a0 (wrap .i64 ((a0.length:Int)-1))).bind fun x1=>
 (Q6 .u8 1 (wrap .u64 a1)).bind fun x2=>
 some ((va .u8 x1 (wrap .u8 (x2-1)))==0))else(some false)).bind fun y4=>
 some y4)
theorem Wx {n:Nat} {a0:C4} {a1:Int} {r:Bool}:ZP n a0 a1=some r→AC mx 405 [qs a0,qi a1] [] (qb r) []:=by
 delta ZP
 exact fnL Tryz.func405 rfl<|rgL<|rgL<|bFL (rgL<|zg<|rJ J)<|bEL fun y4 hE=>rgF hE ⟨22,[(4,qb y4)]⟩ ⟨[],[]⟩ (gFL 3 9 (bEL fun x1 hx1=>bEL fun x2 hx2=>kPL 7 (zZ hx1)<|kPL 10 (V9 (k:= .u8) (d:=(tyT 5).d) (k':= .u64) hx2)<|eJ J)<|eJ J)<|zg<|rJ J
def Yg (n:Nat)(a0:C4):Option (C4×Int×Int):=
 (if(a0==([]:C4))=true then(some true)else((xD a0 0).bind fun x1=>
 if(decide (x1>7))=true then(some true)else((ssl a0 1 (a0.length)).bind fun x2=>
 (xD a0 0).bind fun x3=>
 (ZP n x2 (wrap .i64 x3)).bind fun r4=>
 some (!r4)))).bind fun y6=>
 if y6=true then(some (([]:C4),0,7))else((ssl a0 1 (a0.length)).bind fun x7=>
 (xD a0 0).bind fun x8=>
 some (x7,wrap .i64 x8,0))
theorem Vc {n:Nat} {a0:C4} {r:(C4×Int×Int)}:Yg n a0=some r→AC mx 321 [qs a0] [] (.tuple [qs r.1,qi r.2.1,qi r.2.2]) []:=by
 delta Yg
 exact fnL Tryz.func321 rfl<|rgL<|bEL fun y6 hE=>lfL (fun z=>drw [0,1,2,3,4,5,6,7,8,9,10,11,12,13,14,15] [13] [[],[0],[0,1],[0,1,2],[0,1,2,3],[0,1,2,3,4],[0,1,2,3,4,5],[0,1,2,3,4,5,6],[0,1,2,3,4,5,6,7],[0,1,2,3,4,5,6,7,8],[0,1,2,3,4,5,6,7],[0,1,2,3,4,5,6,7,10],[0,1,2,3,4,5,6,7,10,11],[0,1,2,3,4,5,6,7,8,9,10,11,12],[0,1,2,3,4,5,6,7,8,9,10,11,12,13],[0,1,2,3,4,5,6,7,8,9,10,11,12,13,14]] ⟨26,[(0,qs a0),(20,qb y6)]⟩ ⟨[],[]⟩ (have h:=hE; dS [0,1,2]<|hF 7 h (fun h=>dS [3,4,5,6,7,8,9,10,11,12]<|dF yU<|dS [14,15]<|by cases h; exact dE J) fun h=>bE h fun x1 hx1 h=>dS [3]<|dP (zZ hx1)<|dS [5,6,7]<|hF 12 h (fun h=>dS [8,9,10,11,12]<|dF (zL 4 (zZ hx1) yU)<|dS [14,15]<|by cases h; exact dE J) fun h=>bE h fun x2 hx2 h=>bE h fun x3 hx3 h=>bE h fun r4 hr4 h=>dS [8]<|dP (qw (k:= .i64) hx2)<|dS [10]<|dP (zZ hx3)<|dS [12]<|dC (zL 11 (zZ hx3) (zL 9 (qw (k:= .i64) hx2) (zL 4 (zZ hx1) yU))) J (Wx hr4)<|dS [14,15]<|by cases h; exact dE J) z)<|bFL (rgL<|zg<|rJ J)<|bEL fun x7 hx7=>bEL fun x8 hx8=>lfL (fun z=>zs [0,1,2,3,4,5,6,7] [] [[],[0],[],[2],[2,3],[0,1],[0,1,2,3,4,5],[0,1,2,3,4,5,6]] [] [(2,qs x7),(3,qi (wrap .i64 x8)),(4,qi 0)] (dS [0]<|dP (qw (k:= .i64) hx7)<|dS [2]<|dP (zZ hx8)<|dS [4,5,6,7]<|dE J) z)<|zg<|rJ J
def ZC (n:Nat)(a0:C4)(a1:Int):Option Bool:=
 (xD a0 (wrap .i64 (Int.tdiv a1 8))).bind fun x1=>
 (GH .u8 x1 (wrap .u64 ((7:Int)-(wrap .u64 (Int.tmod a1 8))))).bind fun x2=>
 some ((va .u8 x2 1)==1)
theorem Y3 {n:Nat} {a0:C4} {a1:Int} {r:Bool}:ZC n a0 a1=some r→AC mx 322 [qs a0,qi a1] [] (qb r) []:=by
 delta ZC
 exact fnL Tryz.func322 rfl<|rgL<|bEL fun x1 hx1=>bEL fun x2 hx2=>rCL (kPL 3 (zZ hx1)<|kPL 8 (QG (k:= .u8) (d:=(tyT 5).d) (k':= .u64) hx2) edL)<|zg<|rJ J
def bz (n:Nat)(r1:(C4×Int×Int)):Nat→Int→Int→Option Int
 |0,_,_=>none
 | k+1,v40,v41=>
  if(decide (v41<(wrap .i64 ((wrap .i64 ((8:Int)*(r1.1.length:Int)))-r1.2.1))))=true then(((ZC n r1.1 v41).bind fun r58=>
  if r58=true then((Q6 .i64 1 (wrap .u64 v41)).bind fun x59=>
  some (ior .i64 v40 x59))else(some v40)).bind fun y56=>
  bz n r1 k y56 (wrap .i64 (v41+1)))else(some v40)
def ZL (n:Nat)(a0:C4):Option (Int×Int):=
 (Yg n a0).bind fun r1=>
 if(r1.2.2 !=0)=true then(some (0,r1.2.2))else((if(decide ((wrap .i64 ((wrap .i64 ((8:Int)*(r1.1.length:Int)))-r1.2.1))>0))=true then((ZC n r1.1 (wrap .i64 ((wrap .i64 ((wrap .i64 ((8:Int)*(r1.1.length:Int)))-r1.2.1))-1))).bind fun r2=>
 some (!r2))else(some false)).bind fun y4=>
 if y4=true then(some (0,7))else(if(decide ((wrap .i64 ((wrap .i64 ((8:Int)*(r1.1.length:Int)))-r1.2.1))>16))=true then(some (0,1))else((bz n r1 n 0 0).bind fun y32=>
 some (y32,0))))
theorem WW {n:Nat} {a0:C4} {r:(Int×Int)}:ZL n a0=some r→AC mx 217 [qs a0] [] (.tuple [qi r.1,qi r.2]) []:=by
 delta ZL
 exact fnL Tryz.func217 rfl<|rgL<|bEL fun r1 hr1=>rCL (kCL 1 J (Vc hr1) edL)<|rgL<|bFL (rgL<|zg<|rJ J)<|rgL<|bEL fun y4 hE=>rgF hE ⟨49,[(4,qs r1.1),(7,qi (wrap .i64 ((wrap .i64 ((8:Int)*(r1.1.length:Int)))-r1.2.1))),(32,qb y4)]⟩ ⟨[],[]⟩ (gFL 3 26 (bEL fun r2 hr2=>kCL 6 J (Y3 hr2)<|eJ J)<|eJ J)<|bFL (rgL<|zg<|rJ J)<|rgL<|bFL (rgL<|zg<|rJ J)<|rgL<|rgL<|blL (fun y32=>⟨49,[(8,qi y32)]⟩) (fun y32=>⟨[],[]⟩) (fun y32=>lpL (fun k x=>bz n r1 k x.1 x.2) (0,0) J (fun x=>⟨49,[(4,qs r1.1),(8,qi x.1),(35,qi (wrap .i64 ((wrap .i64 ((8:Int)*(r1.1.length:Int)))-r1.2.1))),(36,qi x.2)]⟩) (fun x=>⟨[],[]⟩) fun k x=>by obtain⟨v40,v41⟩:=x; rw [bz]; exact rgL<|bFL (blL (fun y56=>⟨49,[(4,qs r1.1),(8,qi y56),(35,qi (wrap .i64 ((wrap .i64 ((8:Int)*(r1.1.length:Int)))-r1.2.1))),(36,qi v41)]⟩) (fun y56=>⟨[],[]⟩) (fun y56=>rgL<|bEL fun r58 hr58=>rCL (kCL 2 J (Y3 hr58) edL)<|bFL (bEL fun x59 hx59=>xC ya (kPL 3 (V9 (k:= .i64) (d:=(tyT 3).d) (k':= .u64) hx59) edL)<|jnL J)<|jnL J) fun y56=>xi zI fun h=>⟨(y56,wrap .i64 (v41+1)),h,wk J⟩)<|zW<|zS<|zN<|jnL J) fun y32=>rgL<|zg<|rJ J
def kg (n:Nat)(r1:zC):Nat→Option Unit
 |0=>none
 | k+1=>
  if(decide ((r1.f_l.length:Int)>0))=true then(none)else(some ())
def bO (n:Nat)(a1:C4)(m0:zC):Option ((List C4)×zC):=
 (bC n a1).bind fun r1=>
 (kg n r1 n).bind fun y4=>
 (if m0.kG=true then(some true)else(some r1.kG)).bind fun y9=>
 some (([]:List C4),(zC.mk m0.f_l y9))
theorem Yn {n:Nat} {a1:C4} {m0:zC} {r:((List C4)×zC)}:bO n a1 m0=some r→AC mx 231 [qp 0,qs a1] [zC.cells m0] (ql 1 cS r.1) [zC.cells r.2]:=by
 delta bO
 exact fnL Tryz.func231 rfl<|rgL<|rgL<|bEL fun r1 hr1=>rCL (kCL 1 A0 (pm hr1) edL)<|blL (fun _=>⟨59,[(0,qp 0),(5,qn),(6,qp 1)]⟩) (fun _=>⟨[zC.cells m0,zC.cells r1],[]⟩) (fun y4=>lpL (fun k (_:Unit)=>kg n r1 k) () A3 (fun _=>⟨59,[(0,qp 0),(5,qn),(6,qp 1)]⟩) (fun _=>⟨[zC.cells m0,zC.cells r1],[]⟩) fun k x=>by rw [kg]; exact rCL (kPL 4 (yg (c:=zd.cells) (l:=r1.f_l) (e:=184) (sz:=3) (sz':=3) (b:=40) (tok:= .none)) edL)<|bFL nEL<|zW<|zS<|zN<|jnL A3) fun y4=>bEL fun y9 hE=>rgF hE ⟨59,[(5,qn)]⟩ ⟨[[ql 3 zd.cells m0.f_l,qb y9]],[]⟩ (gFL 6 50 (eJ A9)<|eJ A9)<|rgL<|zg<|rJ O
def pf (n:Nat)(a0:C4):Option (Bool×Int):=
 if(a0==([0]:C4))=true then(some (false,0))else(if(a0==([255]:C4))=true then(some (true,0))else(some (false,7)))
theorem XQ {n:Nat} {a0:C4} {r:(Bool×Int)}:pf n a0=some r→AC mx 335 [qs a0] [] (.tuple [qb r.1,qi r.2]) []:=by
 delta pf
 exact fnL Tryz.func335 rfl<|rgL<|rgL<|zY<|rgL<|bFL (rgL<|zg<|yi<|rJ J)<|rgL<|bFL (rgL<|zg<|yi<|rJ J)<|z8<|rgL<|zg<|rJ J
def uB (n:Nat)(a1:Int)(m0:zC):Option (Bool×zC):=
 (xT n a1 m0).bind fun r1=>
 if(!r1.2.1)=true then(some (false,r1.2.2))else((pf n r1.1.wJ).bind fun r2=>
 (ub n r2.2 r1.2.2).bind fun r3=>
 some (r2.1,r3))
theorem jR {n:Nat} {a1:Int} {m0:zC} {r:(Bool×zC)}:uB n a1 m0=some r→AC mx 232 [qp 0,qi a1] [zC.cells m0] (qb r.1) [zC.cells r.2]:=by
 delta uB
 exact fnL Tryz.func232 rfl<|rgL<|bEL fun r1 hr1=>rCL (kCL 2 O (wz hr1) edL)<|rgL<|bFL (rgL<|zg<|rJ A9)<|bEL fun r2 hr2=>rCL (kCL 2 A1 (XQ hr2) edL)<|bEL fun r3 hr3=>rCL (kCL 2 A9 (jz hr3) edL)<|rgL<|zg<|rJ A9
def kx (n:Nat)(a0:C4):Nat→Int→Int→Option Int
 |0,_,_=>none
 | k+1,v23,v24=>
  if(decide (v24<(wrap .i64 ((a0.length:Int)-1))))=true then((xD a0 (wrap .i64 (v24+1))).bind fun x28=>
  kx n a0 k (ior .i64 (wrap .i64 (v23*256)) (wrap .i64 x28)) (wrap .i64 (v24+1)))else(some v23)
def pj (n:Nat)(a0:C4):Option (Int×Int):=
 (if(a0==([]:C4))=true then(some true)else(if(decide ((a0.length:Int)>1))=true then((xD a0 0).bind fun x1=>
 if(x1==0)=true then((xD a0 1).bind fun x2=>
 if(decide (x2<128))=true then(some true)else((xD a0 0).bind fun x3=>
 if(x3==255)=true then((xD a0 1).bind fun x4=>
 some (decide (x4≥128)))else(some false)))else((xD a0 0).bind fun x5=>
 if(x5==255)=true then((xD a0 1).bind fun x6=>
 some (decide (x6≥128)))else(some false)))else(some false))).bind fun y8=>
 if y8=true then(some (0,7))else(if(decide ((a0.length:Int)>8))=true then(some (0,1))else((xD a0 0).bind fun x9=>
 (kx n a0 n (wrap .i64 (wrap .i8 x9)) 0).bind fun y19=>
 some (y19,0)))
theorem XI {n:Nat} {a0:C4} {r:(Int×Int)}:pj n a0=some r→AC mx 336 [qs a0] [] (.tuple [qi r.1,qi r.2]) []:=by
 delta pj
 exact fnL Tryz.func336 rfl<|rgL<|bEL fun y8 hE=>rgF hE ⟨56,[(0,qs a0),(32,qb y8)]⟩ ⟨[],[]⟩ (gFL 3 8 (eJ J)<|gFL 7 12 (bEL fun x1 hx1=>kPL 8 (zZ hx1)<|gFL 11 16 (bEL fun x2 hx2=>kPL 12 (zZ hx2)<|gFL 16 21 (eJ J)<|bEL fun x3 hx3=>kPL 17 (zZ hx3)<|gFL 20 25 (bEL fun x4 hx4=>kPL 21 (zZ hx4)<|eJ J)<|eJ J)<|bEL fun x5 hx5=>kPL 17 (zZ hx5)<|gFL 20 25 (bEL fun x6 hx6=>kPL 21 (zZ hx6)<|eJ J)<|eJ J)<|eJ J)<|bFL (rgL<|zg<|rJ J)<|rgL<|bFL (rgL<|zg<|rJ J)<|bEL fun x9 hx9=>rCL (kPL 1 (zZ hx9) edL)<|rgL<|blL (fun y19=>⟨56,[(4,qi y19)]⟩) (fun y19=>⟨[],[]⟩) (fun y19=>lpL (fun k x=>kx n a0 k x.1 x.2) (wrap .i64 (wrap .i8 x9),0) J (fun x=>⟨56,[(0,qs a0),(4,qi x.1),(42,qi (wrap .i64 ((a0.length:Int)-1))),(43,qi x.2)]⟩) (fun x=>⟨[],[]⟩) fun k x=>by obtain⟨v23,v24⟩:=x; rw [kx]; exact rgL<|bFL (zY<|rgL<|bEL fun x28 hx28=>xC yF (kPL 5 (zZ hx28) edL)<|z8<|xi zI fun h=>⟨(ior .i64 (wrap .i64 (v23*256)) (wrap .i64 x28),wrap .i64 (v24+1)),h,wk J⟩)<|zW<|zS<|zN<|jnL J) fun y19=>rgL<|zg<|rJ J
def bb (n:Nat)(a1:Int)(m0:zC):Option (Int×zC):=
 (jN n m0).bind fun r1=>
 (pj n r1.1.wJ).bind fun r2=>
 (ub n r2.2 r1.2).bind fun r3=>
 (if r3.kG=true then(some true)else(some (r1.1.p0 !=a1))).bind fun y5=>
 some (r2.1,(zC.mk r3.f_l y5))
theorem ZO {n:Nat} {a1:Int} {m0:zC} {r:(Int×zC)}:bb n a1 m0=some r→AC mx 233 [qp 0,qi a1] [zC.cells m0] (qi r.1) [zC.cells r.2]:=by
 delta bb
 exact fnL Tryz.func233 rfl<|rgL<|bEL fun r1 hr1=>rCL (kCL 1 O (kj hr1) edL)<|bEL fun r2 hr2=>rCL (kCL 2 A1 (XI hr2) edL)<|bEL fun r3 hr3=>rCL (kCL 2 A9 (jz hr3) edL)<|bEL fun y5 hE=>rgF hE ⟨33,[(6,qi r2.1)]⟩ ⟨[[ql 3 zd.cells r3.f_l,qb y5]],[]⟩ (gFL 6 24 (eJ A9)<|eJ A9)<|rgL<|zg<|rJ O
def bq (n:Nat)(m0:zC):Option (zy×zC):=
 (jN n m0).bind fun r1=>
 (pQ n r1.1.p0 r1.1.wJ).bind fun r2=>
 (ub n r2.2 r1.2).bind fun r3=>
 (xT n 128 r3).bind fun r4=>
 if r4.2.1=true then(none)else((xT n 129 r4.2.2).bind fun r5=>
 (if r5.2.1=true then((ZL n r5.1.wJ).bind fun r13=>
 (ub n r13.2 r5.2.2).bind fun r14=>
 some (r14.f_l,r14.kG,r13.1))else(some (r5.2.2.f_l,r5.2.2.kG,0))).bind fun y11=>
 (xT n 162 (zC.mk y11.1 y11.2.1)).bind fun r15=>
 (if r15.2.1=true then((bO n r15.1.wJ r15.2.2).bind fun r22=>
 some (r22.2.f_l,r22.2.kG,r22.1))else(some (r15.2.2.f_l,r15.2.2.kG,([]:List C4)))).bind fun y20=>
 (uB n 131 (zC.mk y20.1 y20.2.1)).bind fun r23=>
 (uB n 132 r23.2).bind fun r24=>
 (uB n 133 r24.2).bind fun r25=>
 (xT n 166 r25.2).bind fun r26=>
 if r26.2.1=true then(none)else((bb n 2 r26.2.2).bind fun r27=>
 (uB n 135 r27.2).bind fun r28=>
 (xT n 168 r28.2).bind fun r29=>
 if r29.2.1=true then(none)else(some ((zy.mk r2.1 ([]:C4) y11.2.2 y20.2.2 r23.1 r24.1 r25.1 ([]:List za) r27.1 r28.1 ([]:List zB)),r29.2.2))))
theorem Z6 {n:Nat} {m0:zC} {r:(zy×zC)}:bq n m0=some r→AC mx 103 [qp 0] [zC.cells m0] (.agg (zy.cells r.1)) [zC.cells r.2]:=by
 delta bq
 exact fnL Tryz.func103 rfl<|rgL<|rgL<|rgL<|bEL fun r1 hr1=>rCL (kCL 1 A5 (kj hr1) edL)<|bEL fun r2 hr2=>rCL (kCL 4 An (Wm hr2) edL)<|bEL fun r3 hr3=>rCL (kCL 2 Ac (jz hr3) edL)<|bEL fun r4 hr4=>rCL (kCL 1 Ac (wz hr4) edL)<|rgL<|bFL nEL<|bEL fun r5 hr5=>rCL (kCL 1 ⟨[0],5,[],0⟩ (wz hr5) edL)<|rgL<|cuL (fun y11=>⟨116,[(0,qp 0),(2,qp 1),(3,qp 2)]⟩) (fun y11=>⟨[[ql 3 zd.cells y11.1,qb y11.2.1],[qi 0,qs [],qi 0,qn,qb false,qb false,qb false,qn,qi 0,qb false,qn],[qi r2.1,qs [],qi y11.2.2,qn,qb false,qb false,qb false,qn,qi 0,qb false,qn]],[]⟩) (fun y11=>bFL (bEL fun r13 hr13=>rCL (kCL 2 ⟨[],6,[],0⟩ (WW hr13) edL)<|bEL fun r14 hr14=>xC zI (kCL 2 ⟨[0],6,[],0⟩ (jz hr14) edL)<|jnL ⟨[0,1,2],6,[],0⟩)<|jnL ⟨[0,1,2],6,[],0⟩) fun y11=>bEL fun r15 hr15=>rCL (kCL 1 A5 (wz hr15) edL)<|rgL<|cuL (fun y20=>⟨116,[(0,qp 0),(2,qp 1),(3,qp 2)]⟩) (fun y20=>⟨[[ql 3 zd.cells y20.1,qb y20.2.1],[qi 0,qs [],qi 0,qn,qb false,qb false,qb false,qn,qi 0,qb false,qn],[qi r2.1,qs [],qi y11.2.2,ql 1 cS y20.2.2,qb false,qb false,qb false,qn,qi 0,qb false,qn]],[]⟩) (fun y20=>bFL (bEL fun r22 hr22=>xC zI (kCL 3 Ac (Yn hr22) edL)<|jnL Au)<|jnL Au) fun y20=>bEL fun r23 hr23=>rCL (kCL 1 A5 (jR hr23) edL)<|bEL fun r24 hr24=>rCL (kCL 1 A5 (jR hr24) edL)<|bEL fun r25 hr25=>rCL (kCL 1 A5 (jR hr25) edL)<|bEL fun r26 hr26=>rCL (kCL 1 A5 (wz hr26) edL)<|rgL<|bFL nEL<|bEL fun r27 hr27=>rCL (kCL 1 Ac (ZO hr27) edL)<|bEL fun r28 hr28=>rCL (kCL 1 Ac (jR hr28) edL)<|bEL fun r29 hr29=>rCL (kCL 1 Ac (wz hr29) edL)<|rgL<|bFL nEL<|rgL<|zg<|rJ ⟨[0],5,[],0⟩
def qG (n:Nat)(a0:C4):Option (zy×Int):=
 (Yx n a0).bind fun r1=>
 if(r1 !=0)=true then(some ((zy.mk 0 ([]:C4) 0 ([]:List C4) false false false ([]:List za) 0 false ([]:List zB)),r1))else((pV n a0).bind fun r2=>
 if(r2.2 !=0)=true then(some ((zy.mk 0 ([]:C4) 0 ([]:List C4) false false false ([]:List za) 0 false ([]:List zB)),r2.2))else((du n r2.1).bind fun r3=>
 (bq n r3).bind fun r4=>
 if r4.2.kG=true then(some ((zy.mk 0 ([]:C4) 0 ([]:List C4) false false false ([]:List za) 0 false ([]:List zB)),7))else(none)))
theorem pz {n:Nat} {a0:C4} {r:(zy×Int)}:qG n a0=some r→AC mx 102 [qs a0, .func (.func 103) [] [], .func (.func 87) [] []] [] (.tuple [.agg (zy.cells r.1),qi r.2]) []:=by
 delta qG
 exact fnL Tryz.func102 rfl<|rgL<|rgL<|bEL fun r1 hr1=>rCL (kCL 1 A1 (Vg hr1) edL)<|rgL<|bFL (rgL<|zg<|rJ A1)<|bEL fun r2 hr2=>rCL (kCL 1 A1 (ZM hr2) edL)<|rgL<|bFL (rgL<|zg<|rJ Aa)<|bEL fun r3 hr3=>rCL (kCL 1 Aa (Xj hr3) edL)<|bEL fun r4 hr4=>rCL (kCL 2 ⟨[3],4,[],0⟩ (Z6 hr4) edL)<|rgL<|bFL (rgL<|zg<|rJ Av) nEL
def uF (n:Nat)(a0:C4):Option (zy×Int):=
 (qG n a0).bind fun r1=>
 some (r1.1,r1.2)
theorem Yw {n:Nat} {a0:C4} {r:(zy×Int)}:uF n a0=some r→AC mx 49 [qs a0] [] (.tuple [.agg (zy.cells r.1),qi r.2]) []:=by
 delta uF
 exact fnL Tryz.func49 rfl<|rgL<|bEL fun r1 hr1=>rCL (kCL 1 A0 (pz hr1) edL)<|zg<|rJ A0
def uE (n:Nat)(a0:C4):Option (zi×Int):=
 (wU n a0 ([32]:C4)).bind fun r1=>
 (yh n (zk.mk r1 false)).bind fun r2=>
 yM (if(r2.1==([97,99,116]:C4))=true then((zu n r2.2).bind fun r50=>
 (yh n r50.2).bind fun r51=>
 if(r51.1==([104,105,100,101]:C4))=true then((wD n r51.2).bind fun r54=>
 if r54.2.2.zG=true then(some (.ret ((zi.mk 1 r50.1 (zM.mk r54.1.yA r54.1.yH r54.1.xB r54.1.vx (zr.mk r54.1.zb.yk r54.1.zb.jZ r54.1.zb.yw r54.1.zb.yr r54.1.zb.yc r54.1.zb.zH r54.1.zb.yd r54.1.zb.zA r54.1.zb.zD r54.1.zb.zV r54.1.zb.yl r54.1.zb.zz (zv.mk r54.1.zb.zq.ye r54.1.zb.zq.yo) r54.1.zb.zU r54.1.zb.zJ r54.1.zb.yn r54.1.zb.z7 r54.1.zb.yp) r54.1.yZ r54.1.xz r54.1.yX r54.1.w8 r54.1.wa r54.1.w9 r54.1.yV) true 0 0 0 (yu.mk 0 ([]:List Int)) (zy.mk 0 ([]:C4) 0 ([]:List C4) false false false ([]:List za) 0 false ([]:List zB)) ([]:List Int)),32)))else(some (.ret ((zi.mk 1 r50.1 (zM.mk r54.1.yA r54.1.yH r54.1.xB r54.1.vx (zr.mk r54.1.zb.yk r54.1.zb.jZ r54.1.zb.yw r54.1.zb.yr r54.1.zb.yc r54.1.zb.zH r54.1.zb.yd r54.1.zb.zA r54.1.zb.zD r54.1.zb.zV r54.1.zb.yl r54.1.zb.zz (zv.mk r54.1.zb.zq.ye r54.1.zb.zq.yo) r54.1.zb.zU r54.1.zb.zJ r54.1.zb.yn r54.1.zb.z7 r54.1.zb.yp) r54.1.yZ r54.1.xz r54.1.yX r54.1.w8 r54.1.wa r54.1.w9 r54.1.yV) true 0 0 0 (yu.mk 0 ([]:List Int)) (zy.mk 0 ([]:C4) 0 ([]:List C4) false false false ([]:List za) 0 false ([]:List zB)) ([]:List Int)),r54.2.1))))else(if(r51.1==([112,111,115,116]:C4))=true then((wD n r51.2).bind fun r55=>
 if r55.2.2.zG=true then(some (.ret ((zi.mk 1 r50.1 (zM.mk r55.1.yA r55.1.yH r55.1.xB r55.1.vx (zr.mk r55.1.zb.yk r55.1.zb.jZ r55.1.zb.yw r55.1.zb.yr r55.1.zb.yc r55.1.zb.zH r55.1.zb.yd r55.1.zb.zA r55.1.zb.zD r55.1.zb.zV r55.1.zb.yl r55.1.zb.zz (zv.mk r55.1.zb.zq.ye r55.1.zb.zq.yo) r55.1.zb.zU r55.1.zb.zJ r55.1.zb.yn r55.1.zb.z7 r55.1.zb.yp) r55.1.yZ r55.1.xz r55.1.yX r55.1.w8 r55.1.wa r55.1.w9 r55.1.yV) false 0 0 0 (yu.mk 0 ([]:List Int)) (zy.mk 0 ([]:C4) 0 ([]:List C4) false false false ([]:List za) 0 false ([]:List zB)) ([]:List Int)),32)))else(some (.ret ((zi.mk 1 r50.1 (zM.mk r55.1.yA r55.1.yH r55.1.xB r55.1.vx (zr.mk r55.1.zb.yk r55.1.zb.jZ r55.1.zb.yw r55.1.zb.yr r55.1.zb.yc r55.1.zb.zH r55.1.zb.yd r55.1.zb.zA r55.1.zb.zD r55.1.zb.zV r55.1.zb.yl r55.1.zb.zz (zv.mk r55.1.zb.zq.ye r55.1.zb.zq.yo) r55.1.zb.zU r55.1.zb.zJ r55.1.zb.yn r55.1.zb.z7 r55.1.zb.yp) r55.1.yZ r55.1.xz r55.1.yX r55.1.w8 r55.1.wa r55.1.w9 r55.1.yV) false 0 0 0 (yu.mk 0 ([]:List Int)) (zy.mk 0 ([]:C4) 0 ([]:List C4) false false false ([]:List za) 0 false ([]:List zB)) ([]:List Int)),r55.2.1))))else(some (.nxt (1,r50.1,0,0,r51.2.yz,true)))))else(if(r2.1==([99,114,97,115,104]:C4))=true then((zu n r2.2).bind fun r56=>
 (zu n r56.2).bind fun r57=>
 (zu n r57.2).bind fun r58=>
 some (.nxt (2,r56.1,r57.1,r58.1,r58.2.yz,r58.2.zG)))else(if(r2.1==([102,117,115,101]:C4))=true then((zu n r2.2).bind fun r59=>
 (zu n r59.2).bind fun r60=>
 some (.nxt (3,r59.1,r60.1,0,r60.2.yz,r60.2.zG)))else(if(r2.1==([99,111,109,112,97,99,116]:C4))=true then((zu n r2.2).bind fun r61=>
 some (.nxt (4,r61.1,0,0,r61.2.yz,r61.2.zG)))else(if(r2.1==([97,115,107]:C4))=true then((zu n r2.2).bind fun r62=>
 (wr n r62.2).bind fun r63=>
 (zu n r63.2).bind fun r64=>
 (wr n r64.2).bind fun r65=>
 (yx n r65.2).bind fun r66=>
 (yO n r66.2).bind fun r67=>
 if(r67.1 !=0)=true then(some (.ret ((zi.mk 5 0 (zM.mk 0 0 0 ([]:C4) (zr.mk false false 0 0 ([]:List C4) ([]:List C4) ([]:List zw) 0 0 0 ([]:List za) false (zv.mk ([]:List za) ([]:List za)) ([]:C4) ([]:C4) ([]:List zn) ([]:List zn) ([]:List zf)) 0 0 0 0 0 0 false) false 0 0 r62.1 (yu.mk r64.1 r65.1) (zy.mk 0 ([]:C4) 0 ([]:List C4) false false false ([]:List za) 0 false ([]:List zB)) r63.1),r67.1)))else((uF n r66.1).bind fun r68=>
 some (.ret ((zi.mk 5 0 (zM.mk 0 0 0 ([]:C4) (zr.mk false false 0 0 ([]:List C4) ([]:List C4) ([]:List zw) 0 0 0 ([]:List za) false (zv.mk ([]:List za) ([]:List za)) ([]:C4) ([]:C4) ([]:List zn) ([]:List zn) ([]:List zf)) 0 0 0 0 0 0 false) false 0 0 r62.1 (yu.mk r64.1 r65.1) r68.1 r63.1),r68.2))))else(some (.nxt (0,0,0,0,r2.2.yz,true)))))))) (fun r=>some r) (fun y47=>
 (yO n (zk.mk y47.2.2.2.2.1 y47.2.2.2.2.2)).bind fun r69=>
 some ((zi.mk y47.1 y47.2.1 (zM.mk 0 0 0 ([]:C4) (zr.mk false false 0 0 ([]:List C4) ([]:List C4) ([]:List zw) 0 0 0 ([]:List za) false (zv.mk ([]:List za) ([]:List za)) ([]:C4) ([]:C4) ([]:List zn) ([]:List zn) ([]:List zf)) 0 0 0 0 0 0 false) false y47.2.2.1 y47.2.2.2.1 0 (yu.mk 0 ([]:List Int)) (zy.mk 0 ([]:C4) 0 ([]:List C4) false false false ([]:List za) 0 false ([]:List zB)) ([]:List Int)),r69.1))
theorem Yi {n:Nat} {a0:C4} {r:(zi×Int)}:uE n a0=some r→AC mx 19 [qs a0] [] (.tuple [.agg (zi.cells r.1),qi r.2]) []:=by
 delta uE
 exact fnL Tryz.func19 rfl<|rgL<|bEL fun r1 hr1=>rCL (kCL 1 A0 (jM hr1) edL)<|bEL fun r2 hr2=>rCL (kCL 1 Ab (xg hr2) edL)<|bcL (fun y47=>⟨107,[(2,qp 0),(4,qp 1)]⟩) (fun y47=>⟨[[qi y47.1,qi y47.2.1,qi 0,qi 0,qi 0,qs [],qb false,qb false,qi 0,qi 0,qn,qn,qn,qi 0,qi 0,qi 0,qn,qb false,qn,qn,qs [],qs [],qn,qn,qn,qi 0,qi 0,qi 0,qi 0,qi 0,qi 0,qb false,qb false,qi y47.2.2.1,qi y47.2.2.2.1,qi 0,qi 0,qn,qi 0,qs [],qi 0,qn,qb false,qb false,qb false,qn,qi 0,qb false,qn,qn],[ql 1 cS y47.2.2.2.2.1,qb y47.2.2.2.2.2]],[]⟩) (fun o48 hr49=>rgL<|bFL (rgL<|bEL fun r50 hr50=>rCL (kCL 1 Ab (z1 hr50) edL)<|bEL fun r51 hr51=>rCL (kCL 1 Ab (xg hr51) edL)<|zY<|zY<|zY<|rgL<|bFL (zW<|XZ<|xi yF<|z8<|bEL fun r54 hr54=>rCL (kCL 1 Ab (gA hr54) edL)<|rgL<|bFL (rgL<|rgL<|zg<|yi<|hvL hr49<|zK<|rJ A1)<|rgL<|zg<|yi<|hvL hr49<|zK<|rJ A1)<|rgL<|bFL (zW<|pD<|XZ<|bEL fun r55 hr55=>rCL (kCL 1 Ab (gA hr55) edL)<|rgL<|bFL (rgL<|rgL<|zg<|yi<|hvL hr49<|zK<|rJ A1)<|rgL<|zg<|yi<|hvL hr49<|zK<|rJ A1)<|zW<|pD<|pD<|XZ<|xi ya<|jCL A3)<|rgL<|bFL (rgL<|bEL fun r56 hr56=>rCL (kCL 1 Ab (z1 hr56) edL)<|bEL fun r57 hr57=>rCL (kCL 1 Ab (z1 hr57) edL)<|bEL fun r58 hr58=>xC ya (kCL 1 Ab (z1 hr58) edL)<|jCL A3)<|rgL<|bFL (rgL<|bEL fun r59 hr59=>rCL (kCL 1 Ab (z1 hr59) edL)<|bEL fun r60 hr60=>xC ya (kCL 1 Ab (z1 hr60) edL)<|jCL A3)<|rgL<|bFL (rgL<|bEL fun r61 hr61=>xC ya (kCL 1 Ab (z1 hr61) edL)<|jCL A3)<|rgL<|bFL (rgL<|bEL fun r62 hr62=>rCL (kCL 1 Ab (z1 hr62) edL)<|bEL fun r63 hr63=>rCL (kCL 1 Ab (bZ hr63) edL)<|bEL fun r64 hr64=>rCL (kCL 1 Ab (z1 hr64) edL)<|bEL fun r65 hr65=>rCL (kCL 1 Ab (bZ hr65) edL)<|bEL fun r66 hr66=>rCL (kCL 1 Ab (vb hr66) edL)<|bEL fun r67 hr67=>rCL (kCL 1 Ab (v8 hr67) edL)<|rgL<|bFL (rgL<|zg<|hvL hr49<|zK<|rJ A1)<|bEL fun r68 hr68=>rCL (kCL 1 A1 (Yw hr68) edL)<|rgL<|zg<|hvL hr49<|zK<|rJ A1)<|xi ya<|jCL A3) fun y47=>bEL fun r69 hr69=>lfL (fun z=>zm [0,1,2,3,4] [2,3] [[],[],[1],[0,1,2],[0,1,2,3]] [] [(2,qp 0),(3,qi r69.1)] ⟨[[qi y47.1,qi y47.2.1,qi 0,qi 0,qi 0,qs [],qb false,qb false,qi 0,qi 0,qn,qn,qn,qi 0,qi 0,qi 0,qn,qb false,qn,qn,qs [],qs [],qn,qn,qn,qi 0,qi 0,qi 0,qi 0,qi 0,qi 0,qb false,qb false,qi y47.2.2.1,qi y47.2.2.2.1,qi 0,qi 0,qn,qi 0,qs [],qi 0,qn,qb false,qb false,qb false,qn,qi 0,qb false,qn,qn]],[]⟩ (dS [0,1]<|dC yU Ab (v8 hr69)<|dF yU<|dS [4]<|dE A9) z)<|zg<|rJ A0
def vl (n:Nat):Nat→C4→(List zh)→(List zi)→Int→Option (Ctl ((List zh)×(List zi)×Int×Int) ((List zh)×(List zi)))
 |0,_,_,_,_=>none
 | k+1,v254,v255,v256,v257=>
  if(!(v254==([]:C4)))=true then((vN n v254 ([10]:C4)).bind fun r348=>
  (wG n r348.1 ([97,117,116,104,111,114,105,116,121,32]:C4)).bind fun r349=>
  ((if(!r348.2.2)=true then(some true)else(if r349=true then(some (decide ((v256.length:Int)>0)))else(some false))).bind fun y368=>
  if y368=true then(some (v255,v256,32))else(if r349=true then((vZ n r348.1).bind fun r369=>
  (jO 80 v255 ([(zh.mk (yq.mk r369.1.pZ.xo) r369.1.XC r369.1.kO r369.1.Yr r369.1.yn)]:List zh)).bind fun x370=>
  some (x370,v256,r369.2))else((uE n r348.1).bind fun r371=>
  (jO 632 v256 ([(zi.mk r371.1.yA r371.1.bL (zM.mk r371.1.zj.yA r371.1.zj.yH r371.1.zj.xB r371.1.zj.vx (zr.mk r371.1.zj.zb.yk r371.1.zj.zb.jZ r371.1.zj.zb.yw r371.1.zj.zb.yr r371.1.zj.zb.yc r371.1.zj.zb.zH r371.1.zj.zb.yd r371.1.zj.zb.zA r371.1.zj.zb.zD r371.1.zj.zb.zV r371.1.zj.zb.yl r371.1.zj.zb.zz (zv.mk r371.1.zj.zb.zq.ye r371.1.zj.zb.zq.yo) r371.1.zj.zb.zU r371.1.zj.zb.zJ r371.1.zj.zb.yn r371.1.zj.zb.z7 r371.1.zj.zb.yp) r371.1.zj.yZ r371.1.zj.xz r371.1.zj.yX r371.1.zj.w8 r371.1.zj.wa r371.1.zj.w9 r371.1.zj.yV) r371.1.k9 r371.1.ki r371.1.qt r371.1.q8 (yu.mk r371.1.jr.yH r371.1.jr.vV) (zy.mk r371.1.zF.yH r371.1.zF.vJ r371.1.zF.yr r371.1.zF.zH r371.1.zF.vD r371.1.zF.wW r371.1.zF.qK r371.1.zF.yl r371.1.zF.wq r371.1.zF.jL r371.1.zF.vy) r371.1.jB)]:List zi)).bind fun x372=>
  some (v255,x372,r371.2)))).bind fun y365=>
  (if(y365.2.2==0)=true then(if(decide ((y365.1.length:Int)>8))=true then(some true)else(some (decide ((y365.2.1.length:Int)>4096))))else(some false)).bind fun y374=>
  (if y374=true then(some 2)else(some y365.2.2)).bind fun y376=>
  if(y376 !=0)=true then(some (.ret (([]:List zh),([]:List zi),v257,y376)))else(vl n k r348.2.1 y365.1 y365.2.1 (wrap .i64 (v257+1))))else(some (.nxt (v255,v256)))
def jD (n:Nat)(a0:C4):Option ((List zh)×(List zi)×Int×Int):=
 if(decide ((a0.length:Int)>1048576))=true then(some (([]:List zh),([]:List zi),0,2))else(yM (vl n  n a0 ([]:List zh) ([]:List zi) 1) (fun r=>some r) (fun y189=>
 some (y189.1,y189.2,0,0)))
theorem gw {n:Nat} {a0:C4} {r:((List zh)×(List zi)×Int×Int)}:jD n a0=some r→AC mx 7 [qs a0] [] (.tuple [ql 5 zh.cells r.1,ql 50 zi.cells r.2.1,qi r.2.2.1,qi r.2.2.2]) []:=by
 delta jD
 exact fnL Tryz.func7 rfl<|rgL<|rgL<|bFL (rgL<|zg<|rJ J)<|rgL<|rgL<|rgL<|bcL (fun y189=>⟨81,[(6, .sl 5 (List.map zh.cells y189.1) (.fam 1 (y189.1.length))),(7, .sl 50 (List.map zi.cells y189.2) (.fam 0 (y189.2.length)))]⟩) (fun y189=>⟨[],[y189.2.length,y189.1.length]⟩) (fun o190 hr191=>w7 (wk (fr':=⟨81,[(0,qs a0),(6,qn),(7,qn),(8,qi 1)]⟩) (st':=⟨[],[]⟩) J)<|w7 Wk.nilFam<|w7 Wk.nilFam<|lpL (fun k x=>vl n  k x.1 x.2.1 x.2.2.1 x.2.2.2) (a0,([]:List zh),([]:List zi),1) Ad (fun x=>⟨81,[(0,qs x.1),(6, .sl 5 (List.map zh.cells x.2.1) (.fam 1 (x.2.1.length))),(7, .sl 50 (List.map zi.cells x.2.2.1) (.fam 0 (x.2.2.1.length))),(8,qi x.2.2.2)]⟩) (fun x=>⟨[],[x.2.2.1.length,x.2.1.length]⟩) fun k x=>by obtain⟨v254,v255,v256,v257⟩:=x; rw [vl]; exact rgL<|bFL (zY<|bEL fun r348 hr348=>rCL (kCL 1 Ao (ZA hr348) edL)<|rgL<|bEL fun r349 hr349=>rCL (kCL 1 Ao (gE hr349) edL)<|blL (fun y365=>⟨81,[(6, .sl 5 (List.map zh.cells y365.1) (.fam 1 (y365.1.length))),(7, .sl 50 (List.map zi.cells y365.2.1) (.fam 0 (y365.2.1.length))),(8,qi v257),(10,qs r348.2.1),(12,qi y365.2.2)]⟩) (fun y365=>⟨[],[y365.2.1.length,y365.1.length]⟩) (fun y365=>bEL fun y368 hE=>rgF hE ⟨81,[(6, .sl 5 (List.map zh.cells v255) (.fam 1 (v255.length))),(7, .sl 50 (List.map zi.cells v256) (.fam 0 (v256.length))),(8,qi v257),(9,qs r348.1),(10,qs r348.2.1),(12,qi 32),(13,qb r349),(40,qb y368)]⟩ ⟨[],[v256.length,v255.length]⟩ (gFL 3 43 (eJ Ad)<|gFL 5 45 (kPL 6 (yg (c:=zi.cells) (l:=v256) (e:=63) (sz:=50) (sz':=50) (b:=632) (tok:=(.fam 0 (v256.length))))<|eJ Ad)<|eJ Ad)<|bFL (jnL Ad)<|rgL<|bFL (rgL<|bEL fun r369 hr369=>rCL (kCL 1 Aw (pM hr369) edL)<|bEL fun x370 hx370=>xC ya (lfL (fun z=>kA 3 1 zh.cells (e:=44) (e2:=44) (sz:=5) (bytes:=80) (b2:=80) (tok2:= .exact) hx370 z) edL)<|jnL Ax)<|rgL<|bEL fun r371 hr371=>rCL (kCL 1 Aw (Yi hr371) edL)<|bEL fun x372 hx372=>xC ya (lfL (fun z=>kA 3 0 zi.cells (e:=63) (e2:=63) (sz:=50) (bytes:=632) (b2:=632) (tok2:= .exact) hx372 z) edL)<|jnL Ax) fun y365=>bEL fun y374 hE=>rgF hE ⟨81,[(6, .sl 5 (List.map zh.cells y365.1) (.fam 1 (y365.1.length))),(7, .sl 50 (List.map zi.cells y365.2.1) (.fam 0 (y365.2.1.length))),(8,qi v257),(10,qs r348.2.1),(12,qi y365.2.2),(73,qb y374)]⟩ ⟨[],[y365.2.1.length,y365.1.length]⟩ (gFL 3 64 (kPL 4 (yg (c:=zh.cells) (l:=y365.1) (e:=44) (sz:=5) (sz':=5) (b:=80) (tok:=(.fam 1 (y365.1.length))))<|gFL 7 68 (eJ Ad)<|kPL 8 (yg (c:=zi.cells) (l:=y365.2.1) (e:=63) (sz:=50) (sz':=50) (b:=632) (tok:=(.fam 0 (y365.2.1.length))))<|eJ Ad)<|eJ Ad)<|cuL (fun y376=>⟨81,[(6, .sl 5 (List.map zh.cells y365.1) (.fam 1 (y365.1.length))),(7, .sl 50 (List.map zi.cells y365.2.1) (.fam 0 (y365.2.1.length))),(8,qi v257),(10,qs r348.2.1),(12,qi y376)]⟩) (fun y376=>⟨[],[y365.2.1.length,y365.1.length]⟩) (fun y376=>bFL (xi zI<|jnL Ad)<|jnL Ad) fun y376=>rgL<|bFL (rgL<|zg<|yi<|yb<|hvL hr191<|zK<|rJ Ao)<|xi yF<|z8<|xi zI fun h=>⟨(r348.2.1,y365.1,y365.2.1,wrap .i64 (v257+1)),h,wk Ad⟩)<|zW<|zS<|zN<|jCL Ad) fun y189=>rgL<|zg<|rJ Ao
def wH (n:Nat)(a0:C4):Nat→(List C4)→Int→Int→Option ((List C4)×Int)
 |0,_,_,_=>none
 | k+1,v62,v63,v64=>
  if(decide (v64<(a0.length:Int)))=true then(((xD a0 v64).bind fun x88=>
  if(x88==10)=true then((ssl a0 v63 v64).bind fun x89=>
  (jO 16 v62 ([x89]:List C4)).bind fun x90=>
  some (x90,wrap .i64 (v64+1)))else(some (v62,v63))).bind fun y86=>
  wH n a0 k y86.1 y86.2 (wrap .i64 (v64+1)))else(some (v62,v63))
def ux (n:Nat)(a0:C4):Option ((List C4)×Bool):=
 (wH n a0 n ([]:List C4) 0 0).bind fun y46=>
 some (y46.1,y46.2==(a0.length:Int))
theorem Zb {n:Nat} {a0:C4} {r:((List C4)×Bool)}:ux n a0=some r→AC mx 20 [qs a0] [] (.tuple [ql 1 cS r.1,qb r.2]) []:=by
 delta ux
 exact fnL Tryz.func20 rfl<|rgL<|rgL<|rgL<|rgL<|blL (fun y46=>⟨31,[(0,qs a0),(4, .sl 1 (List.map cS y46.1) (.fam 0 (y46.1.length))),(5,qi y46.2)]⟩) (fun y46=>⟨[],[y46.1.length]⟩) (fun y46=>w7 (wk (fr':=⟨31,[(0,qs a0),(4,qn),(5,qi 0),(6,qi 0)]⟩) (st':=⟨[],[]⟩) J)<|w7 Wk.nilFam<|lpL (fun k x=>wH n a0 k x.1 x.2.1 x.2.2) (([]:List C4),0,0) A2 (fun x=>⟨31,[(0,qs a0),(4, .sl 1 (List.map cS x.1) (.fam 0 (x.1.length))),(5,qi x.2.1),(6,qi x.2.2)]⟩) (fun x=>⟨[],[x.1.length]⟩) fun k x=>by obtain⟨v62,v63,v64⟩:=x; rw [wH]; exact rgL<|bFL (blL (fun y86=>⟨31,[(0,qs a0),(4, .sl 1 (List.map cS y86.1) (.fam 0 (y86.1.length))),(5,qi y86.2),(6,qi v64)]⟩) (fun y86=>⟨[],[y86.1.length]⟩) (fun y86=>bEL fun x88 hx88=>rCL (kPL 2 (zZ hx88) edL)<|bFL (bEL fun x89 hx89=>bEL fun x90 hx90=>rCL (kPL 4 (xm (k:= .i64) (k':= .i64) hx89)<|lfL (fun z=>kA 6 0 cS (e:=9) (e2:=9) (sz:=1) (bytes:=16) (b2:=16) (tok2:= .exact) hx90 z) edL)<|xi ya<|jnL A2)<|jnL A2) fun y86=>xi zI fun h=>⟨(y86.1,y86.2,wrap .i64 (v64+1)),h,wk A2⟩)<|zW<|zS<|zN<|jnL A2) fun y46=>rgL<|zg<|rJ A8
def wc (n:Nat)(a0:C4)(a1:Int):Nat→(List C4)→Int→Int→Option (List C4)
 |0,_,_,_=>none
 | k+1,v85,v86,v87=>
  if(decide (v87≤(a0.length:Int)))=true then(((if(v87==(a0.length:Int))=true then(some true)else((xD a0 v87).bind fun x121=>
  some (x121==a1))).bind fun y123=>
  if y123=true then((ssl a0 v86 v87).bind fun x124=>
  (jO 16 v85 ([x124]:List C4)).bind fun x125=>
  some (x125,wrap .i64 (v87+1)))else(some (v85,v86))).bind fun y119=>
  wc n a0 a1 k y119.1 y119.2 (wrap .i64 (v87+1)))else(some v85)
def xh (n:Nat)(a0:C4)(a1:Int):Option (List C4):=
 (wc n a0 a1 n ([]:List C4) 0 0).bind fun y63=>
 some y63
theorem vB {n:Nat} {a0:C4} {a1:Int} {r:(List C4)}:xh n a0 a1=some r→AC mx 50 [qs a0,qu a1] [] (ql 1 cS r) []:=by
 delta xh
 exact fnL Tryz.func50 rfl<|rgL<|rgL<|rgL<|rgL<|blL (fun y63=>⟨35,[(5, .sl 1 (List.map cS y63) (.fam 0 (y63.length)))]⟩) (fun y63=>⟨[],[y63.length]⟩) (fun y63=>w7 (wk (fr':=⟨35,[(0,qs a0),(1,qu a1),(5,qn),(6,qi 0),(7,qi 0)]⟩) (st':=⟨[],[]⟩) J)<|w7 Wk.nilFam<|lpL (fun k x=>wc n a0 a1 k x.1 x.2.1 x.2.2) (([]:List C4),0,0) A2 (fun x=>⟨35,[(0,qs a0),(1,qu a1),(5, .sl 1 (List.map cS x.1) (.fam 0 (x.1.length))),(6,qi x.2.1),(7,qi x.2.2)]⟩) (fun x=>⟨[],[x.1.length]⟩) fun k x=>by obtain⟨v85,v86,v87⟩:=x; rw [wc]; exact rgL<|bFL (blL (fun y119=>⟨35,[(0,qs a0),(1,qu a1),(5, .sl 1 (List.map cS y119.1) (.fam 0 (y119.1.length))),(6,qi y119.2),(7,qi v87)]⟩) (fun y119=>⟨[],[y119.1.length]⟩) (fun y119=>bEL fun y123 hE=>rgF hE ⟨35,[(0,qs a0),(1,qu a1),(5, .sl 1 (List.map cS v85) (.fam 0 (v85.length))),(6,qi v86),(7,qi v87),(24,qb y123)]⟩ ⟨[],[v85.length]⟩ (gFL 5 18 (eJ A2)<|bEL fun x121 hx121=>kPL 7 (zZ hx121)<|eJ A2)<|bFL (bEL fun x124 hx124=>bEL fun x125 hx125=>rCL (kPL 4 (xm (k:= .i64) (k':= .i64) hx124)<|lfL (fun z=>kA 6 0 cS (e:=9) (e2:=9) (sz:=1) (bytes:=16) (b2:=16) (tok2:= .exact) hx125 z) edL)<|xi ya<|jnL A2)<|jnL A2) fun y119=>xi zI fun h=>⟨(y119.1,y119.2,wrap .i64 (v87+1)),h,wk A2⟩)<|zW<|zS<|zN<|jnL A2) fun y63=>rgL<|zg<|rJ A8
def zT (n:Nat)(m0:ze):Option (C4×ze):=
 if(decide (m0.wB≥(m0.f_l.length:Int)))=true then(some (([]:C4),(ze.mk m0.f_l m0.wB true)))else((xe m0.f_l (wrap .i64 ((wrap .i64 (m0.wB+1))-1))).bind fun x1=>
 some (x1,(ze.mk m0.f_l (wrap .i64 (m0.wB+1)) m0.zG)))
theorem yL {n:Nat} {m0:ze} {r:(C4×ze)}:zT n m0=some r→AC mx 53 [qp 0] [ze.cells m0] (qs r.1) [ze.cells r.2]:=by
 delta zT
 exact fnL Tryz.func53 rfl<|rgL<|lfL (fun z=>zs [0,1,2,3,4,5,6,7,8,9] [] [[],[0],[0,1],[0,1,2],[],[4],[4,5],[4,5,6],[4,5,6,7],[0,1,2,3,4,5,6,7,8]] [] [(0,qp 0),(12,qb (decide (m0.wB≥(m0.f_l.length:Int))))] (dS [0,1,2,3,4,5,6,7]<|dP (yg (c:=cS) (l:=m0.f_l) (e:=9) (sz:=1) (sz':=1) (b:=16) (tok:= .none))<|dS [9]<|dE O) z)<|bFL (rgL<|rgL<|zg<|rJ O)<|rgL<|bEL fun x1 hx1=>lfL (fun z=>zs [0,1,2,3,4,5,6,7,8,9,10,11] [] [[],[0],[0,1],[0,1,2],[],[4],[4,5],[4,5,6],[4,5,6,7],[0,1,2,3,4,5,6,7,8],[0,1,2,3,4,5,6,7,8,9],[0,1,2,3,4,5,6,7,8,9,10]] [] [(2,qs x1)] (dS [0,1,2,3,4,5,6,7,8]<|dP (zR (c:=cS) (e:=9) (sz:=1) (b:=16) (tok:= .none) hx1)<|dS [10,11]<|dE O) z)<|zg<|rJ O
def wE (n:Nat):Nat→Int→Option C4
 |0,_=>none
 | kk+1,a0=>
  if(decide (a0<10))=true then(some (b2s ([wrap .u8 (wrap .i64 ((48:Int)+a0))]:List Int)))else(((wE n kk) (wrap .i64 (Int.tdiv a0 10))).bind fun r1=>
  (pb r1 (b2s ([wrap .u8 (wrap .i64 ((48:Int)+(Int.tmod a0 10)))]:List Int))).bind fun x2=>
  some x2)
theorem Yb {n:Nat}:∀(kk:Nat) {a0:Int} {r:C4} (_:wE n kk a0=some r),AC mx 28 [qi a0] [] (qs r) []:=by
 intro kk
 induction kk with
 |zero=>intro a0 r h; simp [wE]at h
 | succ kk ih=>
  intro a0 r h
  rw [wE]at h
  exact imA h<|fnL Tryz.func28 rfl<|rgL<|rgL<|bFL (rCL (lfL (fun z=>kB 4 ([wrap .u8 (wrap .i64 ((48:Int)+a0))]:List Int) z) edL)<|zg<|rJ J)<|bEL fun r1 hr1=>bEL fun x2 hx2=>lfL (fun z=>zs [0,1,3,4,5,6,7,8,2,9,10] [2] [[],[0],[0,1],[],[3],[3,4],[3,4,5],[3,4,5,6],[3,4,5,6,7],[0,1,2,3,4,5,6,7,8],[0,1,2,3,4,5,6,7,8,9]] [] [(2,qs x2)] (dS [0,1,3,4,5,6,7]<|dP (D5 ([wrap .u8 (wrap .i64 ((48:Int)+(Int.tmod a0 10)))]:List Int))<|dC (zL 8 (D5 ([wrap .u8 (wrap .i64 ((48:Int)+(Int.tmod a0 10)))]:List Int)) yU) J (ih hr1)<|dP (bR (d:=(tyT 9).d) hx2)<|dS [10]<|dE J) z)<|zg<|rJ J
def xS (n:Nat)(a0:C4):Nat→Int→Int→Option (Ctl (Int×Bool) Int)
 |0,_,_=>none
 | k+1,v49,v50=>
  if(decide (v50<(a0.length:Int)))=true then(((xD a0 v50).bind fun x66=>
  if(decide (x66<48))=true then(some true)else((xD a0 v50).bind fun x67=>
  if(decide (x67>57))=true then(some true)else(some (decide (v49>576460752303423488))))).bind fun y69=>
  if y69=true then(some (.ret (0,false)))else((xD a0 v50).bind fun x70=>
  xS n a0 k (wrap .i64 ((wrap .i64 (v49*10))+(wrap .i64 (wrap .u8 (x70-48))))) (wrap .i64 (v50+1))))else(some (.nxt v49))
def vd (n:Nat)(a0:C4)(a1:Bool):Option (Int×Bool):=
 (if(a0==([45]:C4))=true then(some a1)else(some false)).bind fun y2=>
 if y2=true then(some ((-1),true))else(yM (xS n a0 n 0 0) (fun r=>some r) (fun y36=>
 (if(decide ((a0.length:Int)>0))=true then((wE n n y36).bind fun r71=>
 some (r71==a0))else(some false)).bind fun y73=>
 some (y36,y73)))
theorem bk {n:Nat} {a0:C4} {a1:Bool} {r:(Int×Bool)}:vd n a0 a1=some r→AC mx 104 [qs a0,qb a1] [] (.tuple [qi r.1,qb r.2]) []:=by
 delta vd
 exact fnL Tryz.func104 rfl<|rgL<|bEL fun y2 hE=>rgF hE ⟨51,[(0,qs a0),(12,qb y2)]⟩ ⟨[],[]⟩ (gFL 3 10 (eJ J)<|eJ J)<|bFL (rgL<|zg<|rJ J)<|rgL<|rgL<|bcL (fun y36=>⟨51,[(0,qs a0),(6,qi y36)]⟩) (fun y36=>⟨[],[]⟩) (fun o37 hr38=>lpL (fun k x=>xS n a0 k x.1 x.2) (0,0) J (fun x=>⟨51,[(0,qs a0),(6,qi x.1),(7,qi x.2)]⟩) (fun x=>⟨[],[]⟩) fun k x=>by obtain⟨v49,v50⟩:=x; rw [xS]; exact rgL<|bFL (zY<|bEL fun y69 hE=>rgF hE ⟨51,[(0,qs a0),(6,qi v49),(7,qi v50),(32,qb y69)]⟩ ⟨[],[]⟩ (bEL fun x66 hx66=>kPL 2 (zZ hx66)<|gFL 5 23 (eJ J)<|bEL fun x67 hx67=>kPL 7 (zZ hx67)<|gFL 11 29 (eJ J)<|eJ J)<|bFL (rgL<|zg<|yi<|yb<|hvL hr38<|zK<|rJ J)<|bEL fun x70 hx70=>xC yF (kPL 4 (zZ hx70) edL)<|z8<|xi zI fun h=>⟨(wrap .i64 ((wrap .i64 (v49*10))+(wrap .i64 (wrap .u8 (x70-48)))),wrap .i64 (v50+1)),h,wk J⟩)<|zW<|zS<|zN<|jCL J) fun y36=>bEL fun y73 hE=>rgF hE ⟨51,[(4,qi y36),(5,qb y73)]⟩ ⟨[],[]⟩ (gFL 5 45 (bEL fun r71 hr71=>kCL 6 J (Yb _ hr71)<|eJ J)<|eJ J)<|zg<|rJ J
def zo (n:Nat)(a1:Bool)(m0:ze):Option (Int×ze):=
 (zT n m0).bind fun r1=>
 (vd n r1.1 a1).bind fun r2=>
 (if r1.2.zG=true then(some true)else(if(!r2.2)=true then(some true)else(some (decide (r2.1>4611686018427387904))))).bind fun y4=>
 some (r2.1,(ze.mk r1.2.f_l r1.2.wB y4))
theorem zP {n:Nat} {a1:Bool} {m0:ze} {r:(Int×ze)}:zo n a1 m0=some r→AC mx 51 [qp 0,qb a1] [ze.cells m0] (qi r.1) [ze.cells r.2]:=by
 delta zo
 exact fnL Tryz.func51 rfl<|rgL<|bEL fun r1 hr1=>bEL fun r2 hr2=>rCL (kCL 1 O (yL hr1)<|kCL 3 A0 (bk hr2) edL)<|bEL fun y4 hE=>rgF hE ⟨30,[(5,qi r2.1)]⟩ ⟨[[ql 1 cS r1.2.f_l,qi r1.2.wB,qb y4]],[]⟩ (gFL 6 19 (eJ O)<|gFL 10 23 (eJ O)<|eJ O)<|rgL<|zg<|rJ O
def yK (n:Nat)(a0:Int):Option Int:=
 (if(decide (a0≥48))=true then(some (decide (a0≤57)))else(some false)).bind fun y6=>
 if y6=true then(some (wrap .i64 (wrap .u8 (a0-48))))else((if(decide (a0≥97))=true then(some (decide (a0≤102)))else(some false)).bind fun y8=>
 if y8=true then(some (wrap .i64 ((wrap .i64 (wrap .u8 (a0-97)))+10)))else(some (-1)))
theorem bh {n:Nat} {a0:Int} {r:Int}:yK n a0=some r→AC mx 235 [qu a0] [] (qi r) []:=by
 delta yK
 exact fnL Tryz.func235 rfl<|rgL<|zY<|bEL fun y6 hE=>rgF hE ⟨24,[(0,qu a0),(3,qb y6)]⟩ ⟨[],[]⟩ (gFL 3 6 (eJ J)<|eJ J)<|bFL (rgL<|zg<|yi<|rJ J)<|bEL fun y8 hE=>rgF hE ⟨24,[(0,qu a0),(13,qb y8)]⟩ ⟨[],[]⟩ (gFL 3 16 (eJ J)<|eJ J)<|bFL (rgL<|zg<|yi<|rJ J)<|z8<|rgL<|zg<|rJ J
def wK (n:Nat)(a0:C4):Nat→(List Int)→Int→Option (Ctl (C4×Bool) (List Int))
 |0,_,_=>none
 | k+1,v65,v66=>
  if(decide (v66<(a0.length:Int)))=true then((xD a0 v66).bind fun x88=>
  (xD a0 (wrap .i64 (v66+1))).bind fun x89=>
  (yK n x88).bind fun r90=>
  (yK n x89).bind fun r91=>
  (if(decide (r90<0))=true then(some true)else(some (decide (r91<0)))).bind fun y93=>
  if y93=true then(some (.ret (([]:C4),false)))else((jO 1 v65 ([wrap .u8 (wrap .i64 ((wrap .i64 ((16:Int)*r90))+r91))]:List Int)).bind fun x94=>
  wK n a0 k x94 (wrap .i64 (v66+2))))else(some (.nxt v65))
def vv (n:Nat)(a0:C4):Option (C4×Bool):=
 if((Int.tmod (a0.length:Int) 2) !=0)=true then(some (([]:C4),false))else(yM (wK n a0 n ([]:List Int) 0) (fun r=>some r) (fun y47=>
 some (b2s y47,true)))
theorem bK {n:Nat} {a0:C4} {r:(C4×Bool)}:vv n a0=some r→AC mx 105 [qs a0] [] (.tuple [qs r.1,qb r.2]) []:=by
 delta vv
 exact fnL Tryz.func105 rfl<|rgL<|rgL<|bFL (rgL<|zg<|rJ J)<|rgL<|rgL<|bcL (fun y47=>⟨43,[(4, .sl 1 (List.map (cI .u8) y47) (.fam 0 (y47.length)))]⟩) (fun y47=>⟨[],[y47.length]⟩) (fun o48 hr49=>w7 (wk (fr':=⟨43,[(0,qs a0),(4,qn),(5,qi 0)]⟩) (st':=⟨[],[]⟩) J)<|w7 Wk.nilFam<|lpL (fun k x=>wK n a0 k x.1 x.2) (([]:List Int),0) A2 (fun x=>⟨43,[(0,qs a0),(4, .sl 1 (List.map (cI .u8) x.1) (.fam 0 (x.1.length))),(5,qi x.2)]⟩) (fun x=>⟨[],[x.1.length]⟩) fun k x=>by obtain⟨v65,v66⟩:=x; rw [wK]; exact rgL<|bFL (zY<|bEL fun x88 hx88=>bEL fun x89 hx89=>bEL fun r90 hr90=>bEL fun r91 hr91=>lfL (fun z=>zs [0,1,2,4,5,6,7,3,8,9,10] [3,8] [[],[],[0,1],[0,1,2],[],[],[5],[4,5,6],[0,1,2,3,4,5,6,7],[0,1,2,3,4,5,6,7,8],[0,1,2,3,4,5,6,7,8,9]] [4] [(0,qs a0),(5,qi v66),(6,qi r90),(7,qi r91)] (dS [0,1]<|dP (zZ hx88)<|dS [4,5,6]<|dP (zZ hx89)<|dC (zL 7 (zZ hx89) (zL 2 (zZ hx88) yU)) A8 (bh hr90)<|dC (zL 7 (zZ hx89) (zL 2 (zZ hx88) yU)) A8 (bh hr91)<|dS [9,10]<|dE A2) z)<|bEL fun y93 hE=>rgF hE ⟨43,[(0,qs a0),(4, .sl 1 (List.map (cI .u8) v65) (.fam 0 (v65.length))),(5,qi v66),(6,qi r90),(7,qi r91),(32,qb y93)]⟩ ⟨[],[v65.length]⟩ (gFL 3 29 (eJ A2)<|eJ A2)<|bFL (rgL<|zg<|yi<|yb<|hvL hr49<|zK<|rJ A8)<|bEL fun x94 hx94=>xC yF (lfL (fun z=>kA 7 0 (cI .u8) (e:=5) (e2:=5) (sz:=1) (bytes:=1) (b2:=1) (tok2:= .exact) hx94 z) edL)<|z8<|xi zI fun h=>⟨(x94,wrap .i64 (v66+2)),h,wk A2⟩)<|zW<|zS<|zN<|jCL A2) fun y47=>rCL (lfL (fun z=>kB 1 y47 z) edL)<|zg<|rJ A8
end Go.Abs
end
