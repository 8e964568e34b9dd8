/- Each typed form's result is the call's (printed). Condition: it gives one. -/
import Derived.Test.YtkabooclnoiclaaGreatDoorK16
set_option linter.all false
section
set_option maxRecDepth 100000
set_option maxHeartbeats 0
namespace Go.Abs
open Go Go.Proofs IntKind
variable {mx:Nat->List V}
def vA (n:Nat)(a:Int):Option Int:=
 (yj ([0,2,4,12,6,1,14,3]:List Int) (Int.tmod a 8)).bind fun b=>
 some b
def bV {n:Nat} {f:Int} {r:Int}:vA n f=some r->AC mx 43 [qi f] [] (qi r) []:=by
 delta vA
 exact fnL Tryz.func43 rfl<|rgL<|bEL fun g a=>rCL (kPL 3 (zI (c:=(cI .i64)) (e:=3) (sz:=1) (b:=8) (tok:= .exact) a) edL)<|ze<|rJ J
def yL (n:Nat)(a:Int):Option zJ:=
 (yT n n (wrap .i64 (Int.tdiv (Int.tmod a 8) 2))).bind fun e=>
 (YK ([67,65,32]:An) e).bind fun g=>
 (if(decide ((Int.tmod a 16)≥8))=true then((yT n n (wrap .i64 (Int.tdiv (Int.tmod a 8) 2))).bind fun f=>
 (YK ([32,99,97,32,32]:An) f).bind fun h=>
 some h)else(some g)).bind fun c=>
 if((Int.tmod a 2)==1)=true then((pA 24 ([([(za.mk ([50,46,53,46,52,46,49,48]:An) 19 c)]:List za)]:List (List za)) ([([(za.mk ([50,46,53,46,52,46,49,49]:An) 12 ([85,110,105,116]:An))]:List za)]:List (List za))).bind fun b=>
 some (zJ.mk b))else(some (zJ.mk ([([(za.mk ([50,46,53,46,52,46,49,48]:An) 19 c)]:List za)]:List (List za))))
def uW {n:Nat} {f:Int} {r:zJ}:yL n f=some r->AC mx 31 [qi f] [] (.agg [ql 1 (cL 3 za.cells) r.zu]) []:=by
 delta yL
 exact fnL Tryz.func31 rfl<|rgL<|bEL fun l g=>bEL fun o i=>rCL (kCL 3 A0 (uv _ g)<|kPL 4 (XJ (d:=(tyT 9).d) i) edL)<|rgL<|cuL (fun b=>⟨34,[(0,qi f),(2,qp 0),(3,qs b)]⟩) (fun b=>⟨[[qn]],[]⟩) (fun b=>bFL (bEL fun m h=>bEL fun p j=>vM zz (kCL 3 A0 (uv _ h)<|kPL 4 (XJ (d:=(tyT 9).d) j) edL)<|jnL A1)<|jnL A1) fun b=>rgL<|rgL<|bFL (bEL fun k a=>rCL (lfL (fun z=>kV 5 2 0 2 (XW (T:=tyT) (c:=(cL 3 za.cells)) (e:=87) (e2:=87) (sz:=1) (bytes:=24) (b2:=24) (tok2:= .exact) (cell:=none) O5 a) z) edL)<|rgL<|ze<|rJ ⟨[],2,[],1⟩)<|rgL<|ze<|rJ Ab
end Go.Abs
end
section
set_option maxRecDepth 100000
set_option maxHeartbeats 0
namespace Go.Abs
open Go Go.Proofs IntKind
variable {mx:Nat->List V} [MxOk mx]
noncomputable def zP (n:Nat)(a0:Int):Option zg:=
 (vA n a0).bind fun r1=>
 (yL n r1).bind fun r2=>
 (jV n a0).bind fun r3=>
 some (zg.mk r2 r3)
def xm {n:Nat} {e:Int} {r:zg}:zP n e=some r->AC mx 19 [qi e] [] (.agg [ql 1 (cL 3 za.cells) r.zL.zu,qi r.xe.xd,qs r.xe.bC,qs r.xe.vK]) []:=by
 delta zP
 exact fnL Tryz.func19 rfl<|rgL<|bEL fun f a=>bEL fun g b=>bEL fun h c=>rCL (kCL 1 A0 (bV a)<|kCL 2 A0 (uW b)<|kCL 4 A0 (Qg c) edL)<|ze<|rJ A0
end Go.Abs
end
section
set_option maxRecDepth 100000
set_option maxHeartbeats 0
namespace Go.Abs
open Go Go.Proofs IntKind
variable {mx:Nat->List V}
def zd (n:Nat)(b:Int)(a:zc):Option (Int×zc):=
 if(decide (a.xh≥(a.f_L.length:Int)))=true then(some (0,a))else((yj a.f_L (wrap .i64 ((wrap .i64 (a.xh+1))-1))).bind fun c=>
 (ny c b).bind fun e=>
 (ny (wrap .i64 (e+b)) b).bind fun f=>
 some (f,(zc.mk a.f_L (wrap .i64 (a.xh+1)))))
def zf {n:Nat} {f:Int} {a:zc} {r:(Int×zc)}:zd n f a=some r->AC mx 16 [qp 0,qi f] [[ql 1 (cI .i64) a.f_L,qi a.xh]] (qi r.1) [[ql 1 (cI .i64) r.2.f_L,qi r.2.xh]]:=by
 delta zd
 exact fnL Tryz.func16 rfl<|rgL<|lfL (fun z=>zs [0,1,2,3,4,5,6,7,8,9] [] [[],[0],[0,1],[0,1,2],[],[4],[4,5],[4,5,6],[4,5,6,7],[0,1,2,3,4,5,6,7,8]] [] [(0,qp 0),(1,qi f),(14,qb (decide (a.xh≥(a.f_L.length:Int))))] (dS [0,1,2,3,4,5,6,7]<|dP (yx (c:=(cI .i64)) (l:=a.f_L) (e:=3) (sz:=1) (sz':=1) (b:=8) (tok:= .none))<|dS [9]<|dE A1) z)<|bFL (rgL<|ze<|rJ A1)<|rgL<|bEL fun m g=>bEL fun o h=>bEL fun j i=>lfL (fun z=>zs [0,1,2,3,4,5,6,7,8,9,10,11,12,13,14,15,16,17] [] [[],[0],[0,1],[0,1,2],[],[4],[4,5],[4,5,6],[4,5,6,7],[0,1,2,3,4,5,6,7,8],[0,1,2,3,4,5,6,7,8,9],[],[0,1,2,3,4,5,6,7,8,9,10,11],[],[0,1,2,3,4,5,6,7,8,9,10,11,12,13],[],[0,1,2,3,4,5,6,7,8,9,10,11,12,13,14,15],[0,1,2,3,4,5,6,7,8,9,10,11,12,13,14,15,16]] [] [(4,qi j)] (dS [0,1,2,3,4,5,6,7,8]<|dP (zI (c:=(cI .i64)) (e:=3) (sz:=1) (b:=8) (tok:= .none) g)<|dS [10,11]<|dP (mg (k:= .i64) (d:=(tyT 3).d) h)<|dS [13,14,15]<|dP (mg (k:= .i64) (d:=(tyT 3).d) i)<|dS [17]<|dE A1) z)<|ze<|rJ A1
def wH (n:Nat)(a:Int):Option An:=
 (yj ([([49,46,50,46,51,46,49]:An),([49,46,50,46,51,46,50]:An),([49,46,50,46,51,46,51]:An),([49,46,50,46,51,46,52]:An),([49,46,50,46,51,46,53]:An),([50,46,57,57,57,46,49]:An),([50,46,57,57,57,46,50]:An),([49,46,50,46,51]:An),([50,46,53,46,50,57,46,51,50,46,48]:An)]:List An) (Int.tmod a 9)).bind fun b=>
 some b
def jt {n:Nat} {f:Int} {r:An}:wH n f=some r->AC mx 28 [qi f] [] (qs r) []:=by
 delta wH
 exact fnL Tryz.func28 rfl<|rgL<|bEL fun g a=>rCL (kPL 3 (zI (c:=cS) (e:=9) (sz:=1) (b:=16) (tok:= .exact) a) edL)<|ze<|rJ J
def yO (n:Nat):Nat->(List An)->Int->(List Int)->Int->Option ((List An)×(List Int)×Int)
 |0,_,_,_,_=>none
 | k+1,b,c,e,f=>
  if(decide (c>0))=true then((zd n 5 (zc.mk e f)).bind fun a=>
  (yj ([0,1,2,3,8]:List Int) a.1).bind fun h=>
  (wH n h).bind fun g=>
  (vF 16 b ([g]:List An)).bind fun i=>
  yO n k i (wrap .i64 (c-1)) a.2.f_L a.2.xh)else(some (b,e,f))
def wo (n:Nat)(c:Int)(e:zc):Option ((List An)×zc):=
 (zd n (wrap .i64 (c+1)) e).bind fun b=>
 (yO n  n ([]:List An) b.1 b.2.f_L b.2.xh).bind fun a=>
 some (a.1,(zc.mk a.2.1 a.2.2))
def kg {n:Nat} {t:Int} {p:zc} {r:((List An)×zc)}:wo n t p=some r->ACf mx 67 [qp 0,qi t] [[ql 1 (cI .i64) p.f_L,qi p.xh]] (.sl 1 (List.map cS r.1) (.fam 0 (r.1.length))) [[ql 1 (cI .i64) r.2.f_L,qi r.2.xh]] [r.1.length]:=by
 delta wo
 exact fnL Tryz.func67 rfl<|rgL<|rgL<|bEL fun f o=>rCL (kCL 3 A1 (zf o) edL)<|blL (fun a=>⟨25,[(5, .sl 1 (List.map cS a.1) (.fam 0 (a.1.length)))]⟩) (fun a=>⟨[[ql 1 (cI .i64) a.2.1,qi a.2.2]],[a.1.length]⟩) (fun a=>ud (wk (fr':=⟨25,[(0,qp 0),(5,qn),(6,qi f.1)]⟩) (st':=⟨[[ql 1 (cI .i64) f.2.f_L,qi f.2.xh]],[]⟩) A1)<|ud Wk.nilFam<|lpL (fun k x=>yO n  k x.1 x.2.1 x.2.2.1 x.2.2.2) (([]:List An),f.1,f.2.f_L,f.2.xh) A7 (fun x=>⟨25,[(0,qp 0),(5, .sl 1 (List.map cS x.1) (.fam 0 (x.1.length))),(6,qi x.2.1)]⟩) (fun x=>⟨[[ql 1 (cI .i64) x.2.2.1,qi x.2.2.2]],[x.1.length]⟩) fun k x=>by obtain⟨w,q,y,A⟩:=x; rw [yO]; exact rgL<|bFL (zj<|bEL fun m g=>bEL fun B j=>bEL fun v i=>bEL fun s l=>vM zO (kCL 3 ⟨[0],1,[],1⟩ (zf g)<|kPL 4 (zI (c:=(cI .i64)) (e:=3) (sz:=1) (b:=8) (tok:= .exact) j)<|kCL 6 ⟨[],1,[],1⟩ (jt i)<|lfL (fun z=>kA 8 0 cS (e:=9) (e2:=9) (sz:=1) (bytes:=16) (b2:=16) (tok2:= .exact) l z) edL)<|zk<|yJ zz fun h=>⟨(s,wrap .i64 (q-1),m.2.f_L,m.2.xh),h,wk A7⟩)<|zE<|zA<|zx<|jnL A7) fun a=>rgL<|ze<|rJ A7
def yY (n:Nat)(v464:List An)(x657:An):Nat->Bool->Int->Option Bool
 |0,_,_=>none
 | k+1,v679,v680=>
  if(decide (v680<(v464.length:Int)))=true then((yj v464 v680).bind fun x690=>
  (if v679=true then(some true)else(some (x690==x657))).bind fun y692=>
  yY n v464 x657 k y692 (wrap .i64 (v680+1)))else(some v679)
def yW (n:Nat)(a:List An):Nat->(List An)->Int->Option (List An)
 |0,_,_=>none
 | k+1,v464,v465=>
  if(decide (v465<(a.length:Int)))=true then(((yj a v465).bind fun x657=>
  (yY n v464 x657 n false 0).bind fun y675=>
  if(!y675)=true then((vF 16 v464 ([x657]:List An)).bind fun x693=>
  some x693)else(some v464)).bind fun y655=>
  yW n a k y655 (wrap .i64 (v465+1)))else(some v464)
def wV (n:Nat)(a:List An):Option (List An):=
 (yW n a n ([]:List An) 0).bind fun y347=>
 some y347
def gK {n:Nat} {a:(List An)} {r:(List An)}:wV n a=some r->ACf mx 66 [ql 1 cS a] [] (.sl 1 (List.map cS r) (.fam 0 (r.length))) [] [r.length]:=by
 delta wV
 exact fnL Tryz.func66 rfl<|rgL<|rgL<|rCL (kPL 1 (yx (c:=cS) (l:=a) (e:=9) (sz:=1) (sz':=1) (b:=16) (tok:= .none)) edL)<|blL (fun y347=>⟨36,[(3, .sl 1 (List.map cS y347) (.fam 0 (y347.length)))]⟩) (fun y347=>⟨[],[y347.length]⟩) (fun y347=>ud (wk (fr':=⟨36,[(3,qn),(9,ql 1 cS a),(10,qi (a.length:Int)),(11,qi 0)]⟩) (st':=⟨[],[]⟩) J)<|ud Wk.nilFam<|lpL (fun k x=>yW n a k x.1 x.2) (([]:List An),0) A2 (fun x=>⟨36,[(3, .sl 1 (List.map cS x.1) (.fam 0 (x.1.length))),(9,ql 1 cS a),(10,qi (a.length:Int)),(11,qi x.2)]⟩) (fun x=>⟨[],[x.1.length]⟩) fun k x=>by obtain⟨v464,v465⟩:=x; rw [yW]; exact rgL<|bFL (blL (fun y655=>⟨36,[(3, .sl 1 (List.map cS y655) (.fam 0 (y655.length))),(9,ql 1 cS a),(10,qi (a.length:Int)),(11,qi v465)]⟩) (fun y655=>⟨[],[y655.length]⟩) (fun y655=>bEL fun x657 hx657=>rCL (kPL 0 (zI (c:=cS) (e:=9) (sz:=1) (b:=16) (tok:= .none) hx657) edL)<|rgL<|rCL (kPL 1 (yx (c:=cS) (l:=v464) (e:=9) (sz:=1) (sz':=1) (b:=16) (tok:=(.fam 0 (v464.length)))) edL)<|blL (fun y675=>⟨36,[(3, .sl 1 (List.map cS v464) (.fam 0 (v464.length))),(5,qs x657),(6,qb y675),(9,ql 1 cS a),(10,qi (a.length:Int)),(11,qi v465)]⟩) (fun y675=>⟨[],[v464.length]⟩) (fun y675=>lpL (fun k x=>yY n v464 x657 k x.1 x.2) (false,0) A2 (fun x=>⟨36,[(3, .sl 1 (List.map cS v464) (.fam 0 (v464.length))),(5,qs x657),(6,qb x.1),(9,ql 1 cS a),(10,qi (a.length:Int)),(11,qi v465),(15, .sl 1 (List.map cS v464) (.fam 0 (v464.length))),(16,qi (v464.length:Int)),(17,qi x.2)]⟩) (fun x=>⟨[],[v464.length]⟩) fun k x=>by obtain⟨v679,v680⟩:=x; rw [yY]; exact rgL<|bFL (zj<|bEL fun x690 hx690=>rCL (kPL 0 (zI (c:=cS) (e:=9) (sz:=1) (b:=16) (tok:=(.fam 0 (v464.length))) hx690) edL)<|bEL fun y692 f=>sC f zO ⟨36,[(3, .sl 1 (List.map cS v464) (.fam 0 (v464.length))),(5,qs x657),(6,qb y692),(9,ql 1 cS a),(10,qi (a.length:Int)),(11,qi v465),(15, .sl 1 (List.map cS v464) (.fam 0 (v464.length))),(16,qi (v464.length:Int)),(17,qi v680)]⟩ ⟨[],[v464.length]⟩ (gFL 2 22 (eJ A2)<|eJ A2)<|zk<|yJ zz fun h=>⟨(y692,wrap .i64 (v680+1)),h,wk A2⟩)<|zE<|zA<|zx<|jnL A2) fun y675=>rgL<|bFL (bEL fun x693 hx693=>vM yf (lfL (fun z=>kA 3 0 cS (e:=9) (e2:=9) (sz:=1) (bytes:=16) (b2:=16) (tok2:= .exact) hx693 z) edL)<|jnL A2)<|jnL A2) fun y655=>yJ zz fun h=>⟨(y655,wrap .i64 (v465+1)),h,wk A2⟩)<|zE<|zA<|zx<|jnL A2) fun y347=>rgL<|ze<|rJ A2
def wm (n:Nat)(b:zc):Option (za×zc):=
 (zd n 12 b).bind fun a=>
 (yj ([(za.mk ([50,46,53,46,52,46,51]:An) 12 ([65,110,110]:An)),(za.mk ([50,46,53,46,52,46,51]:An) 19 ([32,97,110,110]:An)),(za.mk ([50,46,53,46,52,46,51]:An) 12 ([103,114,195,182,195,159,101]:An)),(za.mk ([50,46,53,46,52,46,54]:An) 19 ([85,83]:An)),(za.mk ([50,46,53,46,52,46,49,48]:An) 19 ([69,120,97,109,112,108,101,32,32,67,111,114,112]:An)),(za.mk ([50,46,53,46,52,46,49,48]:An) 12 ([101,120,97,109,112,108,101,32,99,111,114,112]:An)),(za.mk ([50,46,53,46,52,46,49,49]:An) 22 ([97,44,98,43,99,61,100,92,101]:An)),(za.mk ([48,46,57,46,50,51,52,50,46,49,57,50,48,48,51,48,48,46,49,48,48,46,49,46,50,53]:An) 22 ([111,114,103]:An)),(za.mk ([49,46,50,46,56,52,48,46,49,49,51,53,52,57,46,49,46,57,46,49]:An) 22 ([97,110,110,64,101,120,97,109,112,108,101,46,111,114,103]:An)),(za.mk ([49,46,50,46,56,52,48,46,49,49,51,53,52,57,46,49,46,57,46,49]:An) 22 ([110,111,32,97,100,100,114,101,115,115]:An)),(za.mk ([50,46,53,46,52,46,57,57]:An) 19 ([120]:An)),(za.mk ([50,46,53,46,52,46,55]:An) 12 ([76]:An))]:List za) a.1).bind fun c=>
 some (c,a.2)
def kn {n:Nat} {g:zc} {r:(za×zc)}:wm n g=some r->AC mx 69 [qp 0] [[ql 1 (cI .i64) g.f_L,qi g.xh]] (.agg (za.cells r.1)) [[ql 1 (cI .i64) r.2.f_L,qi r.2.xh]]:=by
 delta wm
 exact fnL Tryz.func69 rfl<|rgL<|bEL fun h a=>bEL fun i f=>rCL (kCL 14 A4 (zf a)<|kPL 15 (zI (c:=za.cells) (e:=89) (sz:=3) (b:=40) (tok:= .exact) f) edL)<|ze<|rJ A4
def xk (n:Nat):Nat->(List za)->Int->(List Int)->Int->Option ((List za)×(List Int)×Int)
 |0,_,_,_,_=>none
 | k+1,v2438,v2439,v2440,v2441=>
  if(decide (v2439>0))=true then(((wm n (zc.mk v2440 v2441)).bind fun r2477=>
  (if((v2438.length:Int)==0)=true then(some true)else((yj v2438 0).bind fun x2478=>
  some (!(x2478.wh==r2477.1.wh)))).bind fun y2480=>
  if y2480=true then((vF 40 v2438 ([r2477.1]:List za)).bind fun x2481=>
  some (x2481,r2477.2.f_L,r2477.2.xh))else(some (v2438,r2477.2.f_L,r2477.2.xh))).bind fun y2475=>
  xk n k y2475.1 (wrap .i64 (v2439-1)) y2475.2.1 y2475.2.2)else(some (v2438,v2440,v2441))
def xj (n:Nat):Nat->Int->(List Int)->Int->(List (List za))->Option ((List Int)×Int×(List (List za)))
 |0,_,_,_,_=>none
 | k+1,v1657,v1658,v1659,v1660=>
  if(decide (v1657>0))=true then((zd n 5 (zc.mk v1658 v1659)).bind fun r2346=>
  (xk n n ([]:List za) (wrap .i64 ((1:Int)+(wrap .i64 (Int.tdiv r2346.1 4)))) r2346.2.f_L r2346.2.xh).bind fun y2415=>
  (vF 24 v1660 ([y2415.1]:List (List za))).bind fun x2482=>
  xj n k (wrap .i64 (v1657-1)) y2415.2.1 y2415.2.2 x2482)else(some (v1658,v1659,v1660))
def wx (n:Nat)(b:zc):Option (zJ×zc):=
 (zd n 4 b).bind fun a=>
 (xj n  n a.1 a.2.f_L a.2.xh ([]:List (List za))).bind fun y1243=>
 some ((zJ.mk y1243.2.2),(zc.mk y1243.1 y1243.2.1))
def jU {n:Nat} {g:zc} {r:(zJ×zc)}:wx n g=some r->AC mx 29 [qp 0] [[ql 1 (cI .i64) g.f_L,qi g.xh]] (.agg [ql 1 (cL 3 za.cells) r.1.zu]) [[ql 1 (cI .i64) r.2.f_L,qi r.2.xh]]:=by
 delta wx
 exact fnL Tryz.func29 rfl<|rgL<|rgL<|bEL fun a f=>rCL (kCL 1 Ac (zf f) edL)<|blL (fun y1243=>⟨48,[(2,qp 1),(3,qp 2)]⟩) (fun y1243=>⟨[[ql 1 (cI .i64) y1243.1,qi y1243.2.1],[qn],[.sl 1 (List.map (cL 3 za.cells) y1243.2.2) (.fam 0 (y1243.2.2.length))]],[y1243.2.2.length]⟩) (fun y1243=>ud (wk (fr':=⟨48,[(0,qp 0),(2,qp 1),(3,qp 2),(4,qi a.1)]⟩) (st':=⟨[[ql 1 (cI .i64) a.2.f_L,qi a.2.xh],[qn],[qn]],[]⟩) A3)<|ud Wk.nilFam<|lpL (fun k x=>xj n  k x.1 x.2.1 x.2.2.1 x.2.2.2) (a.1,a.2.f_L,a.2.xh,([]:List (List za))) A6 (fun x=>⟨48,[(0,qp 0),(2,qp 1),(3,qp 2),(4,qi x.1)]⟩) (fun x=>⟨[[ql 1 (cI .i64) x.2.1,qi x.2.2.1],[qn],[.sl 1 (List.map (cL 3 za.cells) x.2.2.2) (.fam 0 (x.2.2.2.length))]],[x.2.2.2.length]⟩) fun k x=>by obtain⟨v1657,v1658,v1659,v1660⟩:=x; rw [xj]; exact rgL<|bFL (zj<|rgL<|bEL fun r2346 hr2346=>rCL (kCL 1 Aa (zf hr2346) edL)<|blL (fun y2415=>⟨48,[(0,qp 0),(2,qp 1),(3,qp 2),(4,qi v1657),(5, .sl 3 (List.map za.cells y2415.1) (.fam 1 (y2415.1.length)))]⟩) (fun y2415=>⟨[[ql 1 (cI .i64) y2415.2.1,qi y2415.2.2],[qn],[.sl 1 (List.map (cL 3 za.cells) v1660) (.fam 0 (v1660.length))]],[v1660.length,y2415.1.length]⟩) (fun y2415=>ud (wk (fr':=⟨48,[(0,qp 0),(2,qp 1),(3,qp 2),(4,qi v1657),(5,qn),(6,qi (wrap .i64 ((1:Int)+(wrap .i64 (Int.tdiv r2346.1 4)))))]⟩) (st':=⟨[[ql 1 (cI .i64) r2346.2.f_L,qi r2346.2.xh],[qn],[.sl 1 (List.map (cL 3 za.cells) v1660) (.fam 0 (v1660.length))]],[v1660.length]⟩) A6)<|ud Wk.nilFam<|lpL (fun k x=>xk n  k x.1 x.2.1 x.2.2.1 x.2.2.2) (([]:List za),wrap .i64 ((1:Int)+(wrap .i64 (Int.tdiv r2346.1 4))),r2346.2.f_L,r2346.2.xh) Ai (fun x=>⟨48,[(0,qp 0),(2,qp 1),(3,qp 2),(4,qi v1657),(5, .sl 3 (List.map za.cells x.1) (.fam 1 (x.1.length))),(6,qi x.2.1)]⟩) (fun x=>⟨[[ql 1 (cI .i64) x.2.2.1,qi x.2.2.2],[qn],[.sl 1 (List.map (cL 3 za.cells) v1660) (.fam 0 (v1660.length))]],[v1660.length,x.1.length]⟩) fun k x=>by obtain⟨v2438,v2439,v2440,v2441⟩:=x; rw [xk]; exact rgL<|bFL (blL (fun y2475=>⟨48,[(0,qp 0),(2,qp 1),(3,qp 2),(4,qi v1657),(5, .sl 3 (List.map za.cells y2475.1) (.fam 1 (y2475.1.length))),(6,qi v2439)]⟩) (fun y2475=>⟨[[ql 1 (cI .i64) y2475.2.1,qi y2475.2.2],[qn],[.sl 1 (List.map (cL 3 za.cells) v1660) (.fam 0 (v1660.length))]],[v1660.length,y2475.1.length]⟩) (fun y2475=>bEL fun r2477 hr2477=>rCL (kCL 1 Af (kn hr2477) edL)<|bEL fun y2480 i=>lfL (fun z=>drw [0,1,2,3,4,5,6,7,8,9,10,11] [] [[],[0],[0,1],[0,1,2],[0,1,2,3],[0,1,2,3,4],[0,1,2,3,4,5],[0,1,2,3,4,5,6],[0,1,2,3],[0,1,2,3,8],[0,1,2,3,4,5,6,7,8,9],[0,1,2,3,4,5,6,7,8,9,10]] ⟨48,[(0,qp 0),(2,qp 1),(3,qp 2),(4,qi v1657),(5, .sl 3 (List.map za.cells v2438) (.fam 1 (v2438.length))),(6,qi v2439),(7,qp 3),(36,qb y2480)]⟩ ⟨[[ql 1 (cI .i64) r2477.2.f_L,qi r2477.2.xh],[qn],[.sl 1 (List.map (cL 3 za.cells) v1660) (.fam 0 (v1660.length))],za.cells r2477.1],[v1660.length,v2438.length]⟩ (have h:=i; dS [0]<|dP (yx (c:=za.cells) (l:=v2438) (e:=89) (sz:=3) (sz':=3) (b:=40) (tok:=(.fam 1 (v2438.length))))<|dS [2,3]<|hF 28 h (fun h=>dS [4,5,6,7,8,9,10,11]<|by cases h; exact dE Am) fun h=>bE h fun x2478 hx2478 h=>dS [4]<|dP (zI (c:=za.cells) (e:=89) (sz:=3) (b:=40) (tok:=(.fam 1 (v2438.length))) hx2478)<|dS [6,7,8,9,10,11]<|by cases h; exact dE Am) z)<|bFL (bEL fun x2481 hx2481=>vM yf (lfL (fun z=>kA 3 1 za.cells (e:=89) (e2:=89) (sz:=3) (bytes:=40) (b2:=40) (tok2:= .exact) hx2481 z) edL)<|jnL ⟨[0,1,2],4,[0,1],2⟩)<|jnL ⟨[0,1,2],4,[0,1],2⟩) fun y2475=>yJ zz fun h=>⟨(y2475.1,wrap .i64 (v2439-1),y2475.2.1,y2475.2.2),h,wk Ai⟩)<|zE<|zA<|zx<|jnL Ai) fun y2415=>bEL fun x2482 hx2482=>vM zO (lfL (fun z=>kA 4 0 (cL 3 za.cells) (e:=87) (e2:=87) (sz:=1) (bytes:=24) (b2:=24) (tok2:= .exact) hx2482 z) edL)<|zk<|yJ zz fun h=>⟨(wrap .i64 (v1657-1),y2415.2.1,y2415.2.2,x2482),h,wk Aj⟩)<|zE<|zA<|zx<|jnL A6) fun y1243=>rgL<|ze<|rJ Aa
def xl (n:Nat)(i:zc):Option (zb×zc):=
 (zd n 4 i).bind fun a=>
 if(a.1==0)=true then((zd n 6 a.2).bind fun h=>
 (yj ([([97,110,110,64,101,120,97,109,112,108,101,46,111,114,103]:An),([65,78,78,64,101,120,97,109,112,108,101,46,111,114,103]:An),([97,110,110,64,69,120,97,109,112,108,101,46,79,82,71]:An),([98,46,99,64,109,97,105,108,46,101,120,97,109,112,108,101,46,111,114,103]:An),([120,64,111,114,103]:An),([97,39,98,64,97,46,98]:An)]:List An) h.1).bind fun j=>
 some ((zb.mk 1 j (zJ.mk ([]:List (List za)))),h.2))else(if(a.1==1)=true then((zd n 7 a.2).bind fun b=>
 (yj ([([101,120,97,109,112,108,101,46,111,114,103]:An),([119,119,119,46,101,120,97,109,112,108,101,46,111,114,103]:An),([87,87,87,46,69,120,97,109,112,108,101,46,111,114,103]:An),([42,46,101,120,97,109,112,108,101,46,111,114,103]:An),([97,46,98]:An),([111,114,103]:An),([109,121,101,120,97,109,112,108,101,46,111,114,103]:An)]:List An) b.1).bind fun f=>
 some ((zb.mk 2 f (zJ.mk ([]:List (List za)))),b.2))else(if(a.1==2)=true then((zd n 4 a.2).bind fun c=>
 (yj ([([10,0,0,1]:An),([10,1,2,3]:An),([192,168,1,7]:An),([32,1,13,184,0,0,0,0,0,0,0,0,0,0,0,1]:An)]:List An) c.1).bind fun g=>
 some ((zb.mk 7 g (zJ.mk ([]:List (List za)))),c.2))else((wx n a.2).bind fun e=>
 some ((zb.mk 4 ([]:An) e.1),e.2))))
def jb {n:Nat} {m:zc} {r:(zb×zc)}:xl n m=some r->AC mx 68 [qp 0] [[ql 1 (cI .i64) m.f_L,qi m.xh]] (.agg (zb.cells r.1)) [[ql 1 (cI .i64) r.2.f_L,qi r.2.xh]]:=by
 delta xl
 exact fnL Tryz.func68 rfl<|rgL<|bEL fun v j=>rCL (kCL 1 A4 (zf j) edL)<|zj<|rgL<|bFL (bEL fun w k=>bEL fun x l=>rCL (kCL 2 A4 (zf k)<|kPL 3 (zI (c:=cS) (e:=9) (sz:=1) (b:=16) (tok:= .exact) l) edL)<|ze<|zD<|rJ A4)<|rgL<|bFL (bEL fun o a=>bEL fun s h=>rCL (kCL 2 A4 (zf a)<|kPL 3 (zI (c:=cS) (e:=9) (sz:=1) (b:=16) (tok:= .exact) h) edL)<|ze<|zD<|rJ A4)<|rgL<|bFL (bEL fun p f=>bEL fun t i=>rCL (kCL 2 A4 (zf f)<|kPL 3 (zI (c:=cS) (e:=9) (sz:=1) (b:=16) (tok:= .exact) i) edL)<|ze<|zD<|rJ A4)<|zk<|bEL fun q g=>rCL (kCL 1 A4 (jU g) edL)<|ze<|rJ A4
end Go.Abs
end
section
set_option maxRecDepth 100000
set_option maxHeartbeats 0
namespace Go.Abs
open Go Go.Proofs IntKind
variable {mx:Nat->List V} [MxOk mx]
noncomputable def wI (n:Nat)(m0:zc):Option (Int×An×Int×(List An)×Bool×Bool×Bool×(List zb)×Int×Bool×(List zg)×zc):=
 (zd n 4 m0).bind fun r1=>
 (zd n 6 r1.2).bind fun r2=>
 (zd n 6 r2.2).bind fun r3=>
 (zd n 6 r3.2).bind fun r4=>
 (zd n 3 r4.2).bind fun r5=>
 (zd n 4 r5.2).bind fun r6=>
 if(r6.1==1)=true then((wo n 3 r6.2).bind fun r7=>
 (wV n r7.1).bind fun r8=>
 (zd n 8 r7.2).bind fun r9=>
 (if(r9.1==1)=true then(some (r9.2.f_L,r9.2.xh,([49,46,51,46,54,46,49,46,53,46,53,46,55,46,51,46,49]:An),0,([]:List zb),([]:List zg)))else(if(r9.1==2)=true then(some (r9.2.f_L,r9.2.xh,([]:An),1,([]:List zb),([]:List zg)))else(if(r9.1==3)=true then((xl n r9.2).bind fun r32=>
 some (r32.2.f_L,r32.2.xh,([]:An),0,([(zb.mk r32.1.yF r32.1.wb (zJ.mk r32.1.zL.zu))]:List zb),([]:List zg)))else(if(r9.1==4)=true then((zd n 4 r9.2).bind fun r33=>
 (zP n r33.1).bind fun r34=>
 some (r33.2.f_L,r33.2.xh,([]:An),0,([]:List zb),([(zg.mk (zJ.mk r34.zL.zu) (zR.mk r34.xe.xd r34.xe.bC r34.xe.vK))]:List zg)))else(if(r9.1==5)=true then((zd n 4 r9.2).bind fun r35=>
 (zP n r35.1).bind fun r36=>
 (zd n 4 r35.2).bind fun r37=>
 (zP n r37.1).bind fun r38=>
 some (r37.2.f_L,r37.2.xh,([]:An),0,([]:List zb),([(zg.mk (zJ.mk r36.zL.zu) (zR.mk r36.xe.xd r36.xe.bC r36.xe.vK)),(zg.mk (zJ.mk r38.zL.zu) (zR.mk r38.xe.xd r38.xe.bC r38.xe.vK))]:List zg)))else(some (r9.2.f_L,r9.2.xh,([]:An),0,([]:List zb),([]:List zg)))))))).bind fun y30=>
 some (2000,y30.2.2.1,y30.2.2.2.1,r8,r2.1==1,r3.1==1,r4.1==1,y30.2.2.2.2.1,wrap .i64 ((1:Int)+r1.1),r5.1==1,y30.2.2.2.2.2,(zc.mk y30.1 y30.2.1)))else((zd n 8 r6.2).bind fun r39=>
 (if(r39.1==1)=true then(some (r39.2.f_L,r39.2.xh,([49,46,51,46,54,46,49,46,53,46,53,46,55,46,51,46,49]:An),0,([]:List zb),([]:List zg)))else(if(r39.1==2)=true then(some (r39.2.f_L,r39.2.xh,([]:An),1,([]:List zb),([]:List zg)))else(if(r39.1==3)=true then((xl n r39.2).bind fun r62=>
 some (r62.2.f_L,r62.2.xh,([]:An),0,([(zb.mk r62.1.yF r62.1.wb (zJ.mk r62.1.zL.zu))]:List zb),([]:List zg)))else(if(r39.1==4)=true then((zd n 4 r39.2).bind fun r63=>
 (zP n r63.1).bind fun r64=>
 some (r63.2.f_L,r63.2.xh,([]:An),0,([]:List zb),([(zg.mk (zJ.mk r64.zL.zu) (zR.mk r64.xe.xd r64.xe.bC r64.xe.vK))]:List zg)))else(if(r39.1==5)=true then((zd n 4 r39.2).bind fun r65=>
 (zP n r65.1).bind fun r66=>
 (zd n 4 r65.2).bind fun r67=>
 (zP n r67.1).bind fun r68=>
 some (r67.2.f_L,r67.2.xh,([]:An),0,([]:List zb),([(zg.mk (zJ.mk r66.zL.zu) (zR.mk r66.xe.xd r66.xe.bC r66.xe.vK)),(zg.mk (zJ.mk r68.zL.zu) (zR.mk r68.xe.xd r68.xe.bC r68.xe.vK))]:List zg)))else(some (r39.2.f_L,r39.2.xh,([]:An),0,([]:List zb),([]:List zg)))))))).bind fun y60=>
 some (2000,y60.2.2.1,y60.2.2.2.1,([]:List An),r2.1==1,r3.1==1,r4.1==1,y60.2.2.2.2.1,wrap .i64 ((1:Int)+r1.1),r5.1==1,y60.2.2.2.2.2,(zc.mk y60.1 y60.2.1)))
def bZ {n:Nat} {F:zc} {r:(Int×An×Int×(List An)×Bool×Bool×Bool×(List zb)×Int×Bool×(List zg)×zc)}:wI n F=some r->ACf mx 27 [qp 0] [[ql 1 (cI .i64) F.f_L,qi F.xh]] (.agg [qi r.1,qs r.2.1,qi r.2.2.1, .sl 1 (List.map cS r.2.2.2.1) (.fam 0 (r.2.2.2.1.length)),qb r.2.2.2.2.1,qb r.2.2.2.2.2.1,qb r.2.2.2.2.2.2.1, .sl 3 (List.map zb.cells r.2.2.2.2.2.2.2.1) .exact,qi r.2.2.2.2.2.2.2.2.1,qb r.2.2.2.2.2.2.2.2.2.1, .sl 4 (List.map zg.cells r.2.2.2.2.2.2.2.2.2.2.1) .exact]) [[ql 1 (cI .i64) r.2.2.2.2.2.2.2.2.2.2.2.f_L,qi r.2.2.2.2.2.2.2.2.2.2.2.xh]] [r.2.2.2.1.length]:=by
 delta wI
 exact fnL Tryz.func27 rfl<|rgL<|bEL fun H v=>bEL fun I w=>bEL fun K x=>bEL fun L y=>bEL fun M z=>rCL (kCL 1 A4 (zf v)<|kCL 4 A4 (zf w)<|kCL 7 A4 (zf x)<|kCL 10 A4 (zf y)<|kCL 13 A4 (zf z) edL)<|bEL fun r6 A=>rCL (kCL 1 Ac (zf A) edL)<|bFL (bEL fun r7 B=>bEL fun G C=>rCL (kCL 1 Ac (kg B)<|kCL 2 Ak (gK C) edL)<|bEL fun r9 E=>rCL (kCL 1 Af (zf E) edL)<|blL (fun a=>⟨59,[(2,qp 1),(3,qp 2)]⟩) (fun a=>⟨[[ql 1 (cI .i64) a.1,qi a.2.1],[qi 0,qs [],qi 0,qn,qb false,qb false,qb false,qn,qi 0,qb false,qn],[qi 2000,qs a.2.2.1,qi a.2.2.2.1, .sl 1 (List.map cS G) (.fam 0 (G.length)),qb (I.1==1),qb (K.1==1),qb (L.1==1), .sl 3 (List.map zb.cells a.2.2.2.2.1) .exact,qi (wrap .i64 ((1:Int)+H.1)),qb (M.1==1), .sl 4 (List.map zg.cells a.2.2.2.2.2) .exact]],[G.length]⟩) (fun a=>rgL<|bFL (yJ yf<|jnL Ag)<|rgL<|bFL (yJ yf<|jnL Ag)<|rgL<|bFL (bEL fun N c=>vM yf (kCL 1 Af (jb c) edL)<|jnL Ag)<|rgL<|bFL (bEL fun O e=>bEL fun P f=>vM yf (kCL 1 Af (zf e)<|kCL 2 Al (xm f) edL)<|jnL Ag)<|rgL<|bFL (bEL fun Q g=>bEL fun S h=>bEL fun T i=>bEL fun U j=>vM yf (kCL 1 Af (zf g)<|kCL 2 Al (xm h)<|kCL 4 Af (zf i)<|kCL 5 Al (xm j) edL)<|jnL Ag)<|jnL Ag) fun a=>rgL<|ze<|rJ ⟨[0],3,[0],1⟩)<|bEL fun W k=>rCL (kCL 1 Ac (zf k) edL)<|blL (fun b=>⟨59,[(2,qp 1),(3,qp 2)]⟩) (fun b=>⟨[[ql 1 (cI .i64) b.1,qi b.2.1],[qi 0,qs [],qi 0,qn,qb false,qb false,qb false,qn,qi 0,qb false,qn],[qi 2000,qs b.2.2.1,qi b.2.2.2.1,qn,qb (I.1==1),qb (K.1==1),qb (L.1==1), .sl 3 (List.map zb.cells b.2.2.2.2.1) .exact,qi (wrap .i64 ((1:Int)+H.1)),qb (M.1==1), .sl 4 (List.map zg.cells b.2.2.2.2.2) .exact]],[]⟩) (fun b=>rgL<|bFL (yJ yf<|jnL A3)<|rgL<|bFL (yJ yf<|jnL A3)<|rgL<|bFL (bEL fun X l=>vM yf (kCL 1 Ac (jb l) edL)<|jnL A3)<|rgL<|bFL (bEL fun Y m=>bEL fun Z o=>vM yf (kCL 1 Ac (zf m)<|kCL 2 A5 (xm o) edL)<|jnL A3)<|rgL<|bFL (bEL fun r65 p=>bEL fun r66 q=>bEL fun r67 s=>bEL fun r68 t=>vM yf (kCL 1 Ac (zf p)<|kCL 2 A5 (xm q)<|kCL 4 Ac (zf s)<|kCL 5 A5 (xm t) edL)<|jnL A3)<|jnL A3) fun b=>rgL<|ud Wk.nilFam<|ze<|rJ ⟨[0],3,[0],1⟩
end Go.Abs
end
section
set_option maxRecDepth 100000
set_option maxHeartbeats 0
namespace Go.Abs
open Go Go.Proofs IntKind
variable {mx:Nat->List V}
def vd (n:Nat)(a:Int):Option An:=
 (xI n a).bind fun b=>
 (ww n ([([115,101,101,100]:An),b]:List An)).bind fun c=>
 some c
def db {n:Nat} {c:Int} {r:An}:vd n c=some r->AC mx 70 [qi c] [] (qs r) []:=by
 delta vd
 exact fnL Tryz.func70 rfl<|rgL<|bEL fun e a=>bEL fun f b=>rCL (kCL 1 J (uC a)<|kCL 3 J (ur b) edL)<|ze<|rJ J
def vu (n:Nat)(e:zc):Option (zR×zc):=
 (zd n 50 e).bind fun b=>
 (vd n b.1).bind fun a=>
 (ssl a 0 16).bind fun f=>
 (ssl a 16 (a.length)).bind fun g=>
 (zd n 9 b.2).bind fun c=>
 some ((zR.mk c.1 f g),c.2)
def pr {n:Nat} {g:zc} {r:(zR×zc)}:vu n g=some r->AC mx 30 [qp 0] [[ql 1 (cI .i64) g.f_L,qi g.xh]] (.agg (zR.cells r.1)) [[ql 1 (cI .i64) r.2.f_L,qi r.2.xh]]:=by
 delta vu
 exact fnL Tryz.func30 rfl<|rgL<|bEL fun l c=>bEL fun m e=>rCL (kCL 1 A4 (zf c)<|kCL 2 Ab (db e) edL)<|bEL fun i a=>bEL fun j b=>bEL fun h f=>lfL (fun z=>zm [0,2,3,4,5,1,6,7] [1,7] [[],[0],[],[2],[],[4],[0,1,2,3,4,5],[0,1,2,3,4,5,6]] [] [(2,qp 1)] ⟨[[ql 1 (cI .i64) h.2.f_L,qi h.2.xh],[qi h.1,qs i,qs j]],[]⟩ (dS [0,2]<|dP (jE (k:= .i64) a)<|dS [4]<|dP (jz (k:= .i64) b)<|dC (zK 5 (jz (k:= .i64) b) (zK 3 (jE (k:= .i64) a) yM)) A4 (zf f)<|dS [6]<|dF (zK 5 (jz (k:= .i64) b) (zK 3 (jE (k:= .i64) a) yM))<|dE Ad) z)<|ze<|rJ A4
end Go.Abs
end
section
set_option maxRecDepth 100000
set_option maxHeartbeats 0
namespace Go.Abs
open Go Go.Proofs IntKind
variable {mx:Nat->List V} [MxOk mx]
noncomputable def xx (n:Nat):Nat->Int->(List An)->Option (List An)
 |0,_,_=>none
 | k+1,v145,v146=>
  if(decide (v145<9))=true then((YK ([49,46,50,46]:An) (b2s ([wrap .u8 (wrap .i64 ((48:Int)+v145))]:List Int))).bind fun x153=>
  (vF 16 v146 ([x153]:List An)).bind fun x154=>
  xx n k (wrap .i64 (v145+1)) x154)else(some v146)
noncomputable def wM (n:Nat)(m0:zc):Option (zv×zc):=
 (wI n m0).bind fun r1=>
 (zd n 14 r1.2.2.2.2.2.2.2.2.2.2.2).bind fun r2=>
 (if(r2.1==0)=true then((zd n 3 r2.2).bind fun r108=>
 (yj ([(-1),254033452799,254033452800]:List Int) r108.1).bind fun x109=>
 some (r108.2.f_L,r108.2.xh,x109,r1.2.1,r1.2.2.1,r1.2.2.2.1,r1.2.2.2.2.2.2.2.1,r1.2.2.2.2.2.2.2.2.1,r1.2.2.2.2.2.2.2.2.2.2.1))else(if(r2.1==1)=true then(some (r2.2.f_L,r2.2.xh,r1.1,([49,46,50,46]:An),r1.2.2.1,r1.2.2.2.1,r1.2.2.2.2.2.2.2.1,r1.2.2.2.2.2.2.2.2.1,r1.2.2.2.2.2.2.2.2.2.2.1))else(if(r2.1==2)=true then((zd n 3 r2.2).bind fun r110=>
 (yj ([(-1),511,512]:List Int) r110.1).bind fun x111=>
 some (r110.2.f_L,r110.2.xh,r1.1,r1.2.1,x111,r1.2.2.2.1,r1.2.2.2.2.2.2.2.1,r1.2.2.2.2.2.2.2.2.1,r1.2.2.2.2.2.2.2.2.2.2.1))else(if(r2.1==3)=true then((zd n 3 r2.2).bind fun r112=>
 (yj ([0,8,9]:List Int) r112.1).bind fun x113=>
 some (r112.2.f_L,r112.2.xh,r1.1,r1.2.1,r1.2.2.1,r1.2.2.2.1,r1.2.2.2.2.2.2.2.1,x113,r1.2.2.2.2.2.2.2.2.2.2.1))else(if(r2.1==4)=true then((wH n 0).bind fun r114=>
 (zd n 3 r2.2).bind fun r115=>
 (yj ([([49,46,50,46,51]:An),([120]:An),r114]:List An) r115.1).bind fun x116=>
 (vF 16 r1.2.2.2.1 ([x116]:List An)).bind fun x117=>
 some (r115.2.f_L,r115.2.xh,r1.1,r1.2.1,r1.2.2.1,x117,r1.2.2.2.2.2.2.2.1,r1.2.2.2.2.2.2.2.2.1,r1.2.2.2.2.2.2.2.2.2.2.1))else(if(r2.1==5)=true then((pA 48 r1.2.2.2.2.2.2.2.1 ([(zb.mk 2 ([97,32,98]:An) (zJ.mk ([]:List (List za))))]:List zb)).bind fun x118=>
 some (r2.2.f_L,r2.2.xh,r1.1,r1.2.1,r1.2.2.1,r1.2.2.2.1,x118,r1.2.2.2.2.2.2.2.2.1,r1.2.2.2.2.2.2.2.2.2.2.1))else(if(r2.1==6)=true then((wx n r2.2).bind fun r119=>
 (vu n r119.2).bind fun r120=>
 (pA 64 r1.2.2.2.2.2.2.2.2.2.2.1 ([(zg.mk r119.1 r120.1)]:List zg)).bind fun x121=>
 some (r120.2.f_L,r120.2.xh,r1.1,r1.2.1,r1.2.2.1,r1.2.2.2.1,r1.2.2.2.2.2.2.2.1,r1.2.2.2.2.2.2.2.2.1,x121))else(if(r2.1==7)=true then((yL n 0).bind fun r122=>
 (pA 64 r1.2.2.2.2.2.2.2.2.2.2.1 ([(zg.mk r122 (zR.mk 0 ([]:An) ([]:An)))]:List zg)).bind fun x123=>
 some (r2.2.f_L,r2.2.xh,r1.1,r1.2.1,r1.2.2.1,r1.2.2.2.1,r1.2.2.2.2.2.2.2.1,r1.2.2.2.2.2.2.2.2.1,x123))else(if(r2.1==8)=true then((xx n  n 0 r1.2.2.2.1).bind fun y139=>
 some (r2.2.f_L,r2.2.xh,r1.1,r1.2.1,r1.2.2.1,y139,r1.2.2.2.2.2.2.2.1,r1.2.2.2.2.2.2.2.2.1,r1.2.2.2.2.2.2.2.2.2.2.1))else(some (r2.2.f_L,r2.2.xh,r1.1,r1.2.1,r1.2.2.1,r1.2.2.2.1,r1.2.2.2.2.2.2.2.1,r1.2.2.2.2.2.2.2.2.1,r1.2.2.2.2.2.2.2.2.2.2.1))))))))))).bind fun y106=>
 some ((zv.mk y106.2.2.1 y106.2.2.2.1 y106.2.2.2.2.1 y106.2.2.2.2.2.1 r1.2.2.2.2.1 r1.2.2.2.2.2.1 r1.2.2.2.2.2.2.1 y106.2.2.2.2.2.2.1 y106.2.2.2.2.2.2.2.1 r1.2.2.2.2.2.2.2.2.2.1 y106.2.2.2.2.2.2.2.2),(zc.mk y106.1 y106.2.1))
def bX {n:Nat} {j:zc} {r:(zv×zc)}:wM n j=some r->AC mx 12 [qp 0] [[ql 1 (cI .i64) j.f_L,qi j.xh]] (.agg (zv.cells r.1)) [[ql 1 (cI .i64) r.2.f_L,qi r.2.xh]]:=by
 delta wM
 exact fnL Tryz.func12 rfl<|rgL<|bEL fun a g=>rCL (kCL 1 A4 (bZ g) edL)<|bEL fun f i=>rCL (kCL 1 Aa (zf i) edL)<|blL (fun y106=>⟨96,[(2,qp 1),(3,qp 2)]⟩) (fun y106=>⟨[[ql 1 (cI .i64) y106.1,qi y106.2.1],[qi 0,qs [],qi 0,qn,qb false,qb false,qb false,qn,qi 0,qb false,qn],[qi y106.2.2.1,qs y106.2.2.2.1,qi y106.2.2.2.2.1, .sl 1 (List.map cS y106.2.2.2.2.2.1) (.fam 0 (y106.2.2.2.2.2.1.length)),qb a.2.2.2.2.1,qb a.2.2.2.2.2.1,qb a.2.2.2.2.2.2.1,ql 3 zb.cells y106.2.2.2.2.2.2.1,qi y106.2.2.2.2.2.2.2.1,qb a.2.2.2.2.2.2.2.2.2.1,ql 4 zg.cells y106.2.2.2.2.2.2.2.2]],[y106.2.2.2.2.2.1.length]⟩) (fun y106=>rgL<|bFL (bEL fun r108 hr108=>bEL fun x109 hx109=>vM yf (kCL 2 Aa (zf hr108)<|kPL 3 (zI (c:=(cI .i64)) (e:=3) (sz:=1) (b:=8) (tok:= .exact) hx109) edL)<|jnL A6)<|rgL<|bFL (yJ yf<|jnL A6)<|rgL<|bFL (bEL fun r110 hr110=>bEL fun x111 hx111=>vM yf (kCL 2 Aa (zf hr110)<|kPL 3 (zI (c:=(cI .i64)) (e:=3) (sz:=1) (b:=8) (tok:= .exact) hx111) edL)<|jnL A6)<|rgL<|bFL (bEL fun r112 hr112=>bEL fun x113 hx113=>vM yf (kCL 2 Aa (zf hr112)<|kPL 3 (zI (c:=(cI .i64)) (e:=3) (sz:=1) (b:=8) (tok:= .exact) hx113) edL)<|jnL A6)<|rgL<|bFL (bEL fun r114 hr114=>bEL fun r115 hr115=>bEL fun x116 hx116=>bEL fun x117 hx117=>lfL (fun z=>zmN yf [0,1,4,2,3,5,6,7,8,9,10,11] [2,5,9,11] [[],[0],[],[2],[],[2,4],[2,3,4,5],[2,3,4,5,6],[2,3,4,5,6,7],[0,1,2,3,4,5,6,7,8],[0,1,2,3,4,5,6,7,8,9],[0,1,2,3,4,5,6,7,8,9,10]] [] [(2,qp 1),(3,qp 2)] ⟨[[ql 1 (cI .i64) r115.2.f_L,qi r115.2.xh],[qi 0,qs [],qi 0,qn,qb false,qb false,qb false,qn,qi 0,qb false,qn],[qi a.1,qs a.2.1,qi a.2.2.1, .sl 1 (List.map cS x117) (.fam 0 (x117.length)),qb a.2.2.2.2.1,qb a.2.2.2.2.2.1,qb a.2.2.2.2.2.2.1, .sl 3 (List.map zb.cells a.2.2.2.2.2.2.2.1) .exact,qi a.2.2.2.2.2.2.2.2.1,qb a.2.2.2.2.2.2.2.2.2.1, .sl 4 (List.map zg.cells a.2.2.2.2.2.2.2.2.2.2.1) .exact]],[x117.length]⟩ (dS [0,1,4]<|dC yM Ak (jt hr114)<|dS [3]<|dC yM Aa (zf hr115)<|dP (zI (c:=cS) (e:=9) (sz:=1) (b:=16) (tok:= .exact) hx116)<|dS [7,8]<|dA (zK 6 (zI (c:=cS) (e:=9) (sz:=1) (b:=16) (tok:= .exact) hx116) yM) 0 cS (e:=9) (e2:=9) (sz:=1) (bytes:=16) (b2:=16) (tok2:= .exact) hx117<|dS [10]<|dF (zK 6 (zI (c:=cS) (e:=9) (sz:=1) (b:=16) (tok:= .exact) hx116) yM)<|dE A6) z)<|jnL A6)<|rgL<|bFL (bEL fun x118 hx118=>vM yf (lfL (fun z=>kV 4 3 1 3 (XW (T:=tyT) (c:=zb.cells) (e:=85) (e2:=85) (sz:=3) (bytes:=48) (b2:=48) (tok2:= .exact) (cell:=none) O5 hx118) z) edL)<|jnL Aj)<|rgL<|bFL (bEL fun r119 hr119=>bEL fun r120 hr120=>bEL fun x121 hx121=>lfL (fun z=>zmN yf [0,1,2,4,3,5,6,7,8,9,10] [3,5,8,10] [[],[0],[],[2],[],[2,3,4],[2,3,4,5],[2,3,4,5,6],[0,1,2,3,4,5,6,7],[0,1,2,3,4,5,6,7,8],[0,1,2,3,4,5,6,7,8,9]] [] [(2,qp 1),(3,qp 2)] ⟨[[ql 1 (cI .i64) r120.2.f_L,qi r120.2.xh],[qi 0,qs [],qi 0,qn,qb false,qb false,qb false,qn,qi 0,qb false,qn],[qi a.1,qs a.2.1,qi a.2.2.1, .sl 1 (List.map cS a.2.2.2.1) (.fam 0 (a.2.2.2.1.length)),qb a.2.2.2.2.1,qb a.2.2.2.2.2.1,qb a.2.2.2.2.2.2.1, .sl 3 (List.map zb.cells a.2.2.2.2.2.2.2.1) .exact,qi a.2.2.2.2.2.2.2.2.1,qb a.2.2.2.2.2.2.2.2.2.1, .sl 4 (List.map zg.cells x121) (.fam 1 (x121.length))]],[a.2.2.2.1.length,x121.length]⟩ (dS [0,1,2,4]<|dC yM Aa (jU hr119)<|dC yM Aa (pr hr120)<|dS [6,7]<|dV yM 3 1 3 (XW (T:=tyT) (c:=zg.cells) (e:=38) (e2:=38) (sz:=4) (bytes:=64) (b2:=64) (tok2:= .exact) (cell:=none) O5 hx121)<|dS [9]<|dF yM<|dE Ai) z)<|jnL Aj)<|rgL<|bFL (bEL fun r122 hr122=>bEL fun x123 hx123=>lfL (fun z=>zmN yf [0,1,2,3,4,5,6,7] [2,5,7] [[],[0],[],[2],[2,3],[0,1,2,3,4],[0,1,2,3,4,5],[0,1,2,3,4,5,6]] [] [(2,qp 1),(3,qp 2)] ⟨[[ql 1 (cI .i64) f.2.f_L,qi f.2.xh],[qi 0,qs [],qi 0,qn,qb false,qb false,qb false,qn,qi 0,qb false,qn],[qi a.1,qs a.2.1,qi a.2.2.1, .sl 1 (List.map cS a.2.2.2.1) (.fam 0 (a.2.2.2.1.length)),qb a.2.2.2.2.1,qb a.2.2.2.2.2.1,qb a.2.2.2.2.2.2.1, .sl 3 (List.map zb.cells a.2.2.2.2.2.2.2.1) .exact,qi a.2.2.2.2.2.2.2.2.1,qb a.2.2.2.2.2.2.2.2.2.1, .sl 4 (List.map zg.cells x123) (.fam 1 (x123.length))]],[a.2.2.2.1.length,x123.length]⟩ (dS [0,1]<|dC yM Ak (uW hr122)<|dS [3,4]<|dV yM 3 1 3 (XW (T:=tyT) (c:=zg.cells) (e:=38) (e2:=38) (sz:=4) (bytes:=64) (b2:=64) (tok2:= .exact) (cell:=none) O5 hx123)<|dS [6]<|dF yM<|dE Ai) z)<|jnL Aj)<|rgL<|bFL (rgL<|zer yf (fun y139=>⟨96,[(2,qp 1),(3,qp 2)]⟩) (fun y139=>⟨[[ql 1 (cI .i64) f.2.f_L,qi f.2.xh],[qi 0,qs [],qi 0,qn,qb false,qb false,qb false,qn,qi 0,qb false,qn],[qi a.1,qs a.2.1,qi a.2.2.1, .sl 1 (List.map cS y139) (.fam 0 (y139.length)),qb a.2.2.2.2.1,qb a.2.2.2.2.2.1,qb a.2.2.2.2.2.2.1, .sl 3 (List.map zb.cells a.2.2.2.2.2.2.2.1) .exact,qi a.2.2.2.2.2.2.2.2.1,qb a.2.2.2.2.2.2.2.2.2.1, .sl 4 (List.map zg.cells a.2.2.2.2.2.2.2.2.2.2.1) .exact]],[y139.length]⟩) (fun y139=>lpL (fun k x=>xx n  k x.1 x.2) (0,a.2.2.2.1) A6 (fun x=>⟨96,[(2,qp 1),(3,qp 2),(4,qi x.1)]⟩) (fun x=>⟨[[ql 1 (cI .i64) f.2.f_L,qi f.2.xh],[qi 0,qs [],qi 0,qn,qb false,qb false,qb false,qn,qi 0,qb false,qn],[qi a.1,qs a.2.1,qi a.2.2.1, .sl 1 (List.map cS x.2) (.fam 0 (x.2.length)),qb a.2.2.2.2.1,qb a.2.2.2.2.2.1,qb a.2.2.2.2.2.2.1, .sl 3 (List.map zb.cells a.2.2.2.2.2.2.2.1) .exact,qi a.2.2.2.2.2.2.2.2.1,qb a.2.2.2.2.2.2.2.2.2.1, .sl 4 (List.map zg.cells a.2.2.2.2.2.2.2.2.2.2.1) .exact]],[x.2.length]⟩) fun k x=>by obtain⟨v145,v146⟩:=x; rw [xx]; exact rgL<|bFL (zj<|bEL fun x153 hx153=>bEL fun x154 hx154=>vM zO (lfL (fun z=>kB 6 ([wrap .u8 (wrap .i64 ((48:Int)+v145))]:List Int) z)<|kPL 7 (XJ (d:=(tyT 9).d) hx153)<|lfL (fun z=>kA 9 0 cS (e:=9) (e2:=9) (sz:=1) (bytes:=16) (b2:=16) (tok2:= .exact) hx154 z) edL)<|zk<|yJ zz fun h=>⟨(wrap .i64 (v145+1),x154),h,wk A6⟩)<|zE<|zA<|zx<|jnL A6) fun y139=>jnL A6)<|jnL A6) fun y106=>rgL<|ze<|rJ Aa
end Go.Abs
end
section
set_option maxRecDepth 100000
set_option maxHeartbeats 0
namespace Go.Abs
open Go Go.Proofs IntKind
variable {mx:Nat->List V}
def xA (n:Nat)(b:List An)(e:Int):Nat->Int->Option (Ctl Bool Unit)
 |0,_=>none
 | k+1,a=>
  if(decide (a<(b.length:Int)))=true then((yj b a).bind fun c=>
  if(decide ((c.length:Int)>e))=true then(some (.ret false))else(xA n b e k (wrap .i64 (a+1))))else(some (.nxt ()))
def vx (n:Nat)(a:List An)(b c:Int):Option Bool:=
 if(decide ((a.length:Int)>b))=true then(some false)else(xb (xA n a c n 0) (fun r=>some r) (fun e=>
 some true))
def po {n:Nat} {a:(List An)} {m:Int} {i:Int} {r:Bool}:vx n a m i=some r->AC mx 8 [ql 1 cS a,qi m,qi i] [] (qb r) []:=by
 delta vx
 exact fnL Tryz.func8 rfl<|rgL<|rCL (kPL 1 (yx (c:=cS) (l:=a) (e:=9) (sz:=1) (sz':=1) (b:=16) (tok:= .none)) edL)<|bFL (rgL<|ze<|rJ J)<|rCL (kPL 1 (yx (c:=cS) (l:=a) (e:=9) (sz:=1) (sz':=1) (b:=16) (tok:= .none)) edL)<|bcL (fun _=>⟨24,[]⟩) (fun _=>⟨[],[]⟩) (fun p f=>lpL (fun k x=>xA n a i k x) 0 J (fun x=>⟨24,[(2,qi i),(13,ql 1 cS a),(14,qi (a.length:Int)),(15,qi x)]⟩) (fun x=>⟨[],[]⟩) fun k j=>by rw [xA]; exact rgL<|bFL (zj<|bEL fun o g=>rCL (kPL 0 (zI (c:=cS) (e:=9) (sz:=1) (b:=16) (tok:= .none) g) edL)<|rgL<|bFL (rgL<|ze<|zD<|zN<|hvL f<|zC<|rJ J)<|zk<|yJ zz fun h=>⟨wrap .i64 (j+1),h,wk J⟩)<|zE<|zA<|zx<|jCL J) fun q=>rgL<|ze<|rJ J
def ue (n:Nat)(a:List Int):Option zc:=
 some (zc.mk a 0)
def dX {n:Nat} {a:(List Int)} {r:zc}:ue n a=some r->AC mx 13 [ql 1 (cI .i64) a] [] (qp 0) [[ql 1 (cI .i64) r.f_L,qi r.xh]]:=by
 delta ue
 exact fnL Tryz.func13 rfl<|rgL<|rgL<|ze<|rJ A1
def yp (n:Nat)(x720:List za):Nat->Int->Option (Ctl Bool Unit)
 |0,_=>none
 | k+1,v749=>
  if(decide (v749<(x720.length:Int)))=true then((yj x720 v749).bind fun x759=>
  (if(decide ((x759.wh.length:Int)>200))=true then(some true)else(some (decide ((x759.vk.length:Int)>200)))).bind fun y761=>
  if y761=true then(some (.ret false))else(yp n x720 k (wrap .i64 (v749+1))))else(some (.nxt ()))
def yn (n:Nat)(a:zJ):Nat->Int->Option (Ctl Bool Unit)
 |0,_=>none
 | k+1,v509=>
  if(decide (v509<(a.zu.length:Int)))=true then((yj a.zu v509).bind fun x720=>
  if(decide ((x720.length:Int)>8))=true then(some (.ret false))else(xb (yp n x720 n 0) (fun r=>some (.ret r)) (fun y740=>
  yn n a k (wrap .i64 (v509+1)))))else(some (.nxt ()))
def xy (n:Nat)(a:zJ):Option Bool:=
 if(decide ((a.zu.length:Int)>12))=true then(some false)else(xb (yn n a n 0) (fun r=>some r) (fun y380=>
 some true))
def uQ {n:Nat} {a:zJ} {r:Bool}:xy n a=some r->AC mx 11 [.agg [ql 1 (cL 3 za.cells) a.zu]] [] (qb r) []:=by
 delta xy
 exact fnL Tryz.func11 rfl<|rgL<|rCL (kPL 2 (yx (c:=(cL 3 za.cells)) (l:=a.zu) (e:=87) (sz:=1) (sz':=1) (b:=24) (tok:= .none)) edL)<|bFL (rgL<|ze<|rJ A0)<|rCL (kPL 2 (yx (c:=(cL 3 za.cells)) (l:=a.zu) (e:=87) (sz:=1) (sz':=1) (b:=24) (tok:= .none)) edL)<|bcL (fun _=>⟨39,[]⟩) (fun _=>⟨[],[]⟩) (fun o381 hr382=>lpL (fun k x=>yn n a k x) 0 A0 (fun x=>⟨39,[(12,ql 1 (cL 3 za.cells) a.zu),(13,qi (a.zu.length:Int)),(14,qi x)]⟩) (fun x=>⟨[],[]⟩) fun k v509=>by rw [yn]; exact rgL<|bFL (zj<|bEL fun x720 hx720=>rCL (kPL 0 (zI (c:=(cL 3 za.cells)) (e:=87) (sz:=1) (b:=24) (tok:= .none) hx720) edL)<|rCL (kPL 1 (yx (c:=za.cells) (l:=x720) (e:=89) (sz:=3) (sz':=3) (b:=40) (tok:= .none)) edL)<|bFL (rgL<|ze<|zD<|zN<|hvL hr382<|zC<|rJ J)<|rCL (kPL 1 (yx (c:=za.cells) (l:=x720) (e:=89) (sz:=3) (sz':=3) (b:=40) (tok:= .none)) edL)<|nM zO (fun _=>⟨39,[(12,ql 1 (cL 3 za.cells) a.zu),(13,qi (a.zu.length:Int)),(14,qi v509)]⟩) (fun _=>⟨[],[]⟩) (fun o741 hr742=>lpL (fun k x=>yp n x720 k x) 0 J (fun x=>⟨39,[(12,ql 1 (cL 3 za.cells) a.zu),(13,qi (a.zu.length:Int)),(14,qi v509),(21,ql 3 za.cells x720),(22,qi (x720.length:Int)),(23,qi x)]⟩) (fun x=>⟨[],[]⟩) fun k v749=>by rw [yp]; exact rgL<|bFL (zj<|bEL fun x759 hx759=>rCL (kPL 0 (zI (c:=za.cells) (e:=89) (sz:=3) (b:=40) (tok:= .none) hx759) edL)<|bEL fun y761 f=>rgF f ⟨39,[(12,ql 1 (cL 3 za.cells) a.zu),(13,qi (a.zu.length:Int)),(14,qi v509),(21,ql 3 za.cells x720),(22,qi (x720.length:Int)),(23,qi v749),(36,qb y761)]⟩ ⟨[],[]⟩ (gFL 5 31 (eJ A0)<|eJ A0)<|bFL (rgL<|ze<|zD<|zN<|hvL hr742<|zC<|zD<|zN<|hvL hr382<|zC<|rJ J)<|zk<|yJ zz fun h=>⟨wrap .i64 (v749+1),h,wk J⟩)<|zE<|zA<|zx<|jCL J) fun y740=>zk<|yJ zz fun h=>⟨wrap .i64 (v509+1),h,wk J⟩)<|zE<|zA<|zx<|jCL J) fun y380=>rgL<|ze<|rJ J
def yi (n:Nat)(c:List zb):Nat->Int->Option (Ctl Bool Unit)
 |0,_=>none
 | k+1,a=>
  if(decide (a<(c.length:Int)))=true then((yj c a).bind fun b=>
  (if(decide ((b.wb.length:Int)>300))=true then(some true)else((xy n (zJ.mk b.zL.zu)).bind fun e=>
  some (!e))).bind fun f=>
  if f=true then(some (.ret false))else(yi n c k (wrap .i64 (a+1))))else(some (.nxt ()))
def wd (n:Nat)(a:List zb):Option Bool:=
 if(decide ((a.length:Int)>20))=true then(some false)else(xb (yi n a n 0) (fun r=>some r) (fun b=>
 some true))
def qY {n:Nat} {a:(List zb)} {r:Bool}:wd n a=some r->AC mx 9 [ql 3 zb.cells a] [] (qb r) []:=by
 delta wd
 exact fnL Tryz.func9 rfl<|rgL<|rCL (kPL 1 (yx (c:=zb.cells) (l:=a) (e:=85) (sz:=3) (sz':=3) (b:=48) (tok:= .none)) edL)<|bFL (rgL<|ze<|rJ J)<|rCL (kPL 1 (yx (c:=zb.cells) (l:=a) (e:=85) (sz:=3) (sz':=3) (b:=48) (tok:= .none)) edL)<|bcL (fun _=>⟨25,[]⟩) (fun _=>⟨[],[]⟩) (fun p f=>lpL (fun k x=>yi n a k x) 0 J (fun x=>⟨25,[(8,ql 3 zb.cells a),(9,qi (a.length:Int)),(10,qi x)]⟩) (fun x=>⟨[],[]⟩) fun k j=>by rw [yi]; exact rgL<|bFL (zj<|bEL fun s i=>rCL (kPL 0 (zI (c:=zb.cells) (e:=85) (sz:=3) (b:=48) (tok:= .none) i) edL)<|bEL fun m o=>rgF o ⟨25,[(8,ql 3 zb.cells a),(9,qi (a.length:Int)),(10,qi j),(23,qb m)]⟩ ⟨[],[]⟩ (gFL 5 18 (eJ A0)<|bEL fun q g=>kCL 7 A0 (uQ g)<|eJ A0)<|bFL (rgL<|ze<|zD<|zN<|hvL f<|zC<|rJ J)<|zk<|yJ zz fun h=>⟨wrap .i64 (j+1),h,wk J⟩)<|zE<|zA<|zx<|jCL J) fun t=>rgL<|ze<|rJ J
def yZ (n:Nat)(x577:An):Nat->Int->Int->Option Int
 |0,_,_=>none
 | k+1,v594,v595=>
  if(decide (v595<(x577.length:Int)))=true then((xE x577 v595).bind fun x599=>
  yZ n x577 k (wrap .i64 ((wrap .i64 ((10:Int)*v594))+(wrap .i64 (wrap .u8 (x599-48))))) (wrap .i64 (v595+1)))else(some v594)
def zX (n:Nat)(a:An):Nat->(List Int)->Int->Int->Option (Ctl ((List Int)×Bool) (List Int))
 |0,_,_,_=>none
 | k+1,v402,v403,v404=>
  if(decide (v404<=(a.length:Int)))=true then(xb ((if(decide (v404<(a.length:Int)))=true then((xE a v404).bind fun x570=>
  some (x570 !=46))else(some false)).bind fun y572=>
  if y572=true then(((xE a v404).bind fun x573=>
  if(decide (x573<48))=true then(some true)else((xE a v404).bind fun x574=>
  some (decide (x574>57)))).bind fun y576=>
  if y576=true then(some (.ret (([]:List Int),false)))else(some (.nxt (v402,v403))))else((ssl a v403 v404).bind fun x577=>
  (if((x577.length:Int)==0)=true then(some true)else(if(decide ((x577.length:Int)>10))=true then(some true)else(if(decide ((x577.length:Int)>1))=true then((xE x577 0).bind fun x578=>
  if(x578==48)=true then(some true)else(some ((v402.length:Int)==12)))else(some ((v402.length:Int)==12))))).bind fun y580=>
  if y580=true then(some (.ret (([]:List Int),false)))else((yZ n x577 n 0 0).bind fun y590=>
  if(decide (y590>2147483647))=true then(some (.ret (([]:List Int),false)))else((vF 8 v402 ([y590]:List Int)).bind fun x600=>
  some (.nxt (x600,wrap .i64 (v404+1))))))) (fun r=>some (.ret r)) (fun y567=>
  zX n a k y567.1 y567.2 (wrap .i64 (v404+1))))else(some (.nxt v402))
def wU (n:Nat)(a:An):Option ((List Int)×Bool):=
 xb (zX n a n ([]:List Int) 0 0) (fun r=>some r) (fun y300=>
 (if(decide ((y300.length:Int)<2))=true then(some true)else((yj y300 0).bind fun x601=>
 if(decide (x601>2))=true then(some true)else((yj y300 0).bind fun x602=>
 if(decide (x602<2))=true then((yj y300 1).bind fun x603=>
 some (decide (x603>39)))else(some false)))).bind fun y605=>
 if y605=true then(some (([]:List Int),false))else(some (y300,true)))
def gM {n:Nat} {a:An} {r:((List Int)×Bool)}:wU n a=some r->AC mx 76 [qs a] [] (.tuple [ql 1 (cI .i64) r.1,qb r.2]) []:=by
 delta wU
 exact fnL Tryz.func76 rfl<|rgL<|rgL<|rgL<|rgL<|bcL (fun y300=>⟨107,[(4, .sl 1 (List.map (cI .i64) y300) (.fam 0 (y300.length)))]⟩) (fun y300=>⟨[],[y300.length]⟩) (fun o301 hr302=>ud (wk (fr':=⟨107,[(0,qs a),(4,qn),(5,qi 0),(6,qi 0)]⟩) (st':=⟨[],[]⟩) J)<|ud Wk.nilFam<|lpL (fun k x=>zX n a k x.1 x.2.1 x.2.2) (([]:List Int),0,0) A2 (fun x=>⟨107,[(0,qs a),(4, .sl 1 (List.map (cI .i64) x.1) (.fam 0 (x.1.length))),(5,qi x.2.1),(6,qi x.2.2)]⟩) (fun x=>⟨[],[x.1.length]⟩) fun k x=>by obtain⟨v402,v403,v404⟩:=x; rw [zX]; exact rgL<|bFL (bcL (fun y567=>⟨107,[(0,qs a),(4, .sl 1 (List.map (cI .i64) y567.1) (.fam 0 (y567.1.length))),(5,qi y567.2),(6,qi v404)]⟩) (fun y567=>⟨[],[y567.1.length]⟩) (fun o568 hr569=>bEL fun y572 f=>rgF f ⟨107,[(0,qs a),(4, .sl 1 (List.map (cI .i64) v402) (.fam 0 (v402.length))),(5,qi v403),(6,qi v404),(25,qb y572)]⟩ ⟨[],[v402.length]⟩ (gFL 5 20 (bEL fun x570 hx570=>kPL 7 (yo hx570)<|eJ A2)<|eJ A2)<|bFL (bEL fun y576 f=>rgF f ⟨107,[(0,qs a),(4, .sl 1 (List.map (cI .i64) v402) (.fam 0 (v402.length))),(5,qi v403),(6,qi v404),(35,qb y576)]⟩ ⟨[],[v402.length]⟩ (bEL fun x573 hx573=>kPL 2 (yo hx573)<|gFL 5 30 (eJ A2)<|bEL fun x574 hx574=>kPL 7 (yo hx574)<|eJ A2)<|bFL (rgL<|ze<|hvL hr569<|zC<|zN<|hvL hr302<|zC<|rJ A8)<|zE<|zx<|jCL A2)<|bEL fun x577 hx577=>rCL (kPL 3 (rf (k:= .i64) (k':= .i64) hx577) edL)<|bEL fun y580 f=>rgF f ⟨107,[(0,qs a),(4, .sl 1 (List.map (cI .i64) v402) (.fam 0 (v402.length))),(6,qi v404),(7,qs x577),(62,qb y580)]⟩ ⟨[],[v402.length]⟩ (gFL 4 43 (eJ A2)<|gFL 9 48 (eJ A2)<|gFL 13 52 (bEL fun x578 hx578=>kPL 14 (yo hx578)<|gFL 19 58 (eJ A2)<|kPL 20 (yx (c:=(cI .i64)) (l:=v402) (e:=3) (sz:=1) (sz':=1) (b:=8) (tok:=(.fam 0 (v402.length))))<|eJ A2)<|kPL 20 (yx (c:=(cI .i64)) (l:=v402) (e:=3) (sz:=1) (sz':=1) (b:=8) (tok:=(.fam 0 (v402.length))))<|eJ A2)<|bFL (rgL<|ze<|hvL hr569<|zC<|zN<|hvL hr302<|zC<|rJ A8)<|rgL<|rgL<|blL (fun y590=>⟨107,[(0,qs a),(4, .sl 1 (List.map (cI .i64) v402) (.fam 0 (v402.length))),(6,qi v404),(8,qi y590)]⟩) (fun y590=>⟨[],[v402.length]⟩) (fun y590=>lpL (fun k x=>yZ n x577 k x.1 x.2) (0,0) A2 (fun x=>⟨107,[(0,qs a),(4, .sl 1 (List.map (cI .i64) v402) (.fam 0 (v402.length))),(6,qi v404),(7,qs x577),(8,qi x.1),(9,qi x.2)]⟩) (fun x=>⟨[],[v402.length]⟩) fun k x=>by obtain⟨v594,v595⟩:=x; rw [yZ]; exact rgL<|bFL (zj<|bEL fun x599 hx599=>vM zO (kPL 4 (yo hx599) edL)<|zk<|yJ zz fun h=>⟨(wrap .i64 ((wrap .i64 ((10:Int)*v594))+(wrap .i64 (wrap .u8 (x599-48)))),wrap .i64 (v595+1)),h,wk A2⟩)<|zE<|zA<|zx<|jnL A2) fun y590=>rgL<|bFL (rgL<|ze<|hvL hr569<|zC<|zN<|hvL hr302<|zC<|rJ A8)<|bEL fun x600 hx600=>vM yf (lfL (fun z=>kA 3 0 (cI .i64) (e:=3) (e2:=3) (sz:=1) (bytes:=8) (b2:=8) (tok2:= .exact) hx600 z) edL)<|jCL A2) fun y567=>yJ zz fun h=>⟨(y567.1,y567.2,wrap .i64 (v404+1)),h,wk A2⟩)<|zE<|zA<|zx<|jCL A2) fun y300=>bEL fun y605 f=>rgF f ⟨107,[(4, .sl 1 (List.map (cI .i64) y300) (.fam 0 (y300.length))),(105,qb y605)]⟩ ⟨[],[y300.length]⟩ (kPL 1 (yx (c:=(cI .i64)) (l:=y300) (e:=3) (sz:=1) (sz':=1) (b:=8) (tok:=(.fam 0 (y300.length))))<|gFL 4 88 (eJ A2)<|bEL fun x601 hx601=>kPL 5 (zI (c:=(cI .i64)) (e:=3) (sz:=1) (b:=8) (tok:=(.fam 0 (y300.length))) hx601)<|gFL 10 94 (eJ A2)<|bEL fun x602 hx602=>kPL 11 (zI (c:=(cI .i64)) (e:=3) (sz:=1) (b:=8) (tok:=(.fam 0 (y300.length))) hx602)<|gFL 15 99 (bEL fun x603 hx603=>kPL 16 (zI (c:=(cI .i64)) (e:=3) (sz:=1) (b:=8) (tok:=(.fam 0 (y300.length))) hx603)<|eJ A2)<|eJ A2)<|bFL (rgL<|ze<|rJ A8)<|rgL<|ze<|rJ A8
def yI (n:Nat)(a:An):Option Bool:=
 (wU n a).bind fun b=>
 some b.2
def vm {n:Nat} {b:An} {r:Bool}:yI n b=some r->AC mx 36 [qs b] [] (qb r) []:=by
 delta yI
 exact fnL Tryz.func36 rfl<|rgL<|bEL fun c a=>rCL (kCL 1 J (gM a) edL)<|rgL<|ze<|rJ J
def w4 (n:Nat)(a:An):Option Bool:=
 (if((a.length:Int)==4)=true then(some true)else(some ((a.length:Int)==16))).bind fun b=>
 some b
def ba {n:Nat} {a:An} {r:Bool}:w4 n a=some r->AC mx 82 [qs a] [] (qb r) []:=by
 delta w4
 exact fnL Tryz.func82 rfl<|rgL<|bEL fun c b=>rgF b ⟨11,[(2,qb c)]⟩ ⟨[],[]⟩ (gFL 4 6 (eJ J)<|eJ J)<|ze<|rJ J
def ye (n:Nat)(a:Int):Option Bool:=
 (if(decide (a≥65))=true then(if(decide (a<=90))=true then(some true)else(if(decide (a≥97))=true then(if(decide (a<=122))=true then(some true)else(if(decide (a≥48))=true then(some (decide (a<=57)))else(some false)))else(if(decide (a≥48))=true then(some (decide (a<=57)))else(some false))))else(if(decide (a≥97))=true then(if(decide (a<=122))=true then(some true)else(if(decide (a≥48))=true then(some (decide (a<=57)))else(some false)))else(if(decide (a≥48))=true then(some (decide (a<=57)))else(some false)))).bind fun b=>
 some b
def wS {n:Nat} {a:Int} {r:Bool}:ye n a=some r->AC mx 200 [qu a] [] (qb r) []:=by
 delta ye
 exact fnL Tryz.func200 rfl<|rgL<|bEL fun c b=>rgF b ⟨25,[(2,qb c)]⟩ ⟨[],[]⟩ (gFL 3 5 (gFL 7 9 (eJ J)<|gFL 10 12 (gFL 15 17 (eJ J)<|gFL 18 20 (eJ J)<|eJ J)<|gFL 18 20 (eJ J)<|eJ J)<|gFL 10 12 (gFL 15 17 (eJ J)<|gFL 18 20 (eJ J)<|eJ J)<|gFL 18 20 (eJ J)<|eJ J)<|ze<|rJ J
def wT (n:Nat)(b:An)(e:Int):Nat->Int->Option (Ctl Bool Unit)
 |0,_=>none
 | k+1,a=>
  if(decide (a<(b.length:Int)))=true then((xE b a).bind fun c=>
  if(c==e)=true then(some (.ret true))else(wT n b e k (wrap .i64 (a+1))))else(some (.nxt ()))
def ya (n:Nat)(a:Int)(b:An):Option Bool:=
 xb (wT n b a n 0) (fun r=>some r) (fun c=>
 some false)
def vV {n:Nat} {c:Int} {e:An} {r:Bool}:ya n c e=some r->AC mx 201 [qu c,qs e] [] (qb r) []:=by
 delta ya
 exact fnL Tryz.func201 rfl<|rgL<|rgL<|bcL (fun _=>⟨17,[]⟩) (fun _=>⟨[],[]⟩) (fun i a=>lpL (fun k x=>wT n e c k x) 0 J (fun x=>⟨17,[(0,qu c),(1,qs e),(5,qi x)]⟩) (fun x=>⟨[],[]⟩) fun k f=>by rw [wT]; exact rgL<|bFL (zj<|bEL fun g b=>rCL (kPL 2 (yo b) edL)<|bFL (rgL<|ze<|zD<|zN<|hvL a<|zC<|rJ J)<|zk<|yJ zz fun h=>⟨wrap .i64 (f+1),h,wk J⟩)<|zE<|zA<|zx<|jCL J) fun j=>rgL<|ze<|rJ J
def z8 (n:Nat)(a:An)(v1353:Int):Nat->Int->Int->Option (Ctl Bool Int)
 |0,_,_=>none
 | k+1,v1944,v1945=>
  if(decide (v1945<=1))=true then((xE a (wrap .i64 (v1353+v1945))).bind fun x1952=>
  if((wrap .u8 (Int.tdiv x1952 64)) !=2)=true then(some (.ret false))else((xE a (wrap .i64 (v1353+v1945))).bind fun x1953=>
  z8 n a v1353 k (wrap .i64 ((wrap .i64 ((64:Int)*v1944))+(wrap .i64 (Int.tmod x1953 64)))) (wrap .i64 (v1945+1))))else(some (.nxt v1944))
def yb (n:Nat)(a:An)(v1353:Int):Nat->Int->Int->Option (Ctl Bool Int)
 |0,_,_=>none
 | k+1,v1980,v1981=>
  if(decide (v1981<=2))=true then((xE a (wrap .i64 (v1353+v1981))).bind fun x1988=>
  if((wrap .u8 (Int.tdiv x1988 64)) !=2)=true then(some (.ret false))else((xE a (wrap .i64 (v1353+v1981))).bind fun x1989=>
  yb n a v1353 k (wrap .i64 ((wrap .i64 ((64:Int)*v1980))+(wrap .i64 (Int.tmod x1989 64)))) (wrap .i64 (v1981+1))))else(some (.nxt v1980))
def yd (n:Nat)(a:An)(v1353:Int):Nat->Int->Int->Option (Ctl Bool Int)
 |0,_,_=>none
 | k+1,v2016,v2017=>
  if(decide (v2017<=3))=true then((xE a (wrap .i64 (v1353+v2017))).bind fun x2024=>
  if((wrap .u8 (Int.tdiv x2024 64)) !=2)=true then(some (.ret false))else((xE a (wrap .i64 (v1353+v2017))).bind fun x2025=>
  yd n a v1353 k (wrap .i64 ((wrap .i64 ((64:Int)*v2016))+(wrap .i64 (Int.tmod x2025 64)))) (wrap .i64 (v2017+1))))else(some (.nxt v2016))
def z7 (n:Nat)(a:An):Nat->Int->Option (Ctl Bool Unit)
 |0,_=>none
 | k+1,v1353=>
  if(decide (v1353<(a.length:Int)))=true then(xb ((xE a v1353).bind fun x1917=>
  (if(decide (x1917<32))=true then(some true)else(some (x1917==127))).bind fun y1919=>
  if y1919=true then(some (.ret false))else(if(decide (x1917<128))=true then(some (.nxt (wrap .i64 (v1353+1))))else((if(decide (x1917≥192))=true then(some (decide (x1917<224)))else(some false)).bind fun y1921=>
  if y1921=true then(if(decide ((wrap .i64 ((a.length:Int)-v1353))<=1))=true then(some (.ret false))else(xb (z8 n a v1353 n (vl .i64 (wrap .i64 x1917) (wrap .i64 ((wrap .i64 ((1:Int)*32))-1))) 1) (fun r=>some (.ret r)) (fun y1937=>
  (if(decide (y1937<128))=true then(some true)else(if(decide (y1937>1114111))=true then(some true)else(if(decide (y1937≥55296))=true then(some (decide (y1937<57344)))else(some false)))).bind fun y1955=>
  if y1955=true then(some (.ret false))else(some (.nxt (wrap .i64 (v1353+2)))))))else((if(decide (x1917≥224))=true then(some (decide (x1917<240)))else(some false)).bind fun y1957=>
  if y1957=true then(if(decide ((wrap .i64 ((a.length:Int)-v1353))<=2))=true then(some (.ret false))else(xb (yb n a v1353 n (vl .i64 (wrap .i64 x1917) (wrap .i64 ((wrap .i64 ((1:Int)*16))-1))) 1) (fun r=>some (.ret r)) (fun y1973=>
  (if(decide (y1973<2048))=true then(some true)else(if(decide (y1973>1114111))=true then(some true)else(if(decide (y1973≥55296))=true then(some (decide (y1973<57344)))else(some false)))).bind fun y1991=>
  if y1991=true then(some (.ret false))else(some (.nxt (wrap .i64 (v1353+3)))))))else((if(decide (x1917≥240))=true then(some (decide (x1917<248)))else(some false)).bind fun y1993=>
  if y1993=true then(if(decide ((wrap .i64 ((a.length:Int)-v1353))<=3))=true then(some (.ret false))else(xb (yd n a v1353 n (vl .i64 (wrap .i64 x1917) (wrap .i64 ((wrap .i64 ((1:Int)*8))-1))) 1) (fun r=>some (.ret r)) (fun y2009=>
  (if(decide (y2009<65536))=true then(some true)else(if(decide (y2009>1114111))=true then(some true)else(if(decide (y2009≥55296))=true then(some (decide (y2009<57344)))else(some false)))).bind fun y2027=>
  if y2027=true then(some (.ret false))else(some (.nxt (wrap .i64 (v1353+4)))))))else(some (.ret false))))))) (fun r=>some (.ret r)) (fun y1914=>
  z7 n a k y1914))else(some (.nxt ()))
def vR (n:Nat)(a:An):Option Bool:=
 xb (z7 n a n 0) (fun r=>some r) (fun y1013=>
 some true)
def gE {n:Nat} {a:An} {r:Bool}:vR n a=some r->AC mx 265 [qs a] [] (qb r) []:=by
 delta vR
 exact fnL Tryz.func265 rfl<|rgL<|rgL<|bcL (fun _=>⟨103,[]⟩) (fun _=>⟨[],[]⟩) (fun o1014 hr1015=>lpL (fun k x=>z7 n a k x) 0 J (fun x=>⟨103,[(0,qs a),(3,qi x)]⟩) (fun x=>⟨[],[]⟩) fun k v1353=>by rw [z7]; exact rgL<|bFL (nM zz (fun y1914=>⟨103,[(0,qs a),(3,qi y1914)]⟩) (fun y1914=>⟨[],[]⟩) (fun o1915 hr1916=>bEL fun x1917 hx1917=>rCL (kPL 2 (yo hx1917) edL)<|rgL<|zj<|bEL fun y1919 b=>rgF b ⟨103,[(0,qs a),(3,qi v1353),(4,qu x1917),(16,qb y1919)]⟩ ⟨[],[]⟩ (gFL 3 19 (eJ J)<|eJ J)<|bFL (rgL<|ze<|zD<|hvL hr1916<|zC<|zN<|hvL hr1015<|zC<|rJ J)<|rgL<|bFL (rgL<|zE<|qt<|zx<|jCL J)<|bEL fun y1921 b=>rgF b ⟨103,[(0,qs a),(3,qi v1353),(4,qu x1917),(28,qb y1921)]⟩ ⟨[],[]⟩ (gFL 3 31 (eJ J)<|eJ J)<|bFL (yJ zO<|zk<|rgL<|bFL (rgL<|ze<|hvL hr1916<|zC<|zN<|hvL hr1015<|zC<|rJ J)<|rgL<|rgL<|bcL (fun y1937=>⟨103,[(0,qs a),(3,qi v1353),(5,qi 1),(6,qi 128),(7,qi y1937)]⟩) (fun y1937=>⟨[],[]⟩) (fun o1938 hr1939=>lpL (fun k x=>z8 n a v1353 k x.1 x.2) (vl .i64 (wrap .i64 x1917) (wrap .i64 ((wrap .i64 ((1:Int)*32))-1)),1) J (fun x=>⟨103,[(0,qs a),(3,qi v1353),(5,qi 1),(6,qi 128),(7,qi x.1),(8,qi x.2)]⟩) (fun x=>⟨[],[]⟩) fun k x=>by obtain⟨v1944,v1945⟩:=x; rw [z8]; exact rgL<|bFL (zj<|bEL fun x1952 hx1952=>rCL (kPL 4 (yo hx1952) edL)<|bFL (rgL<|ze<|zD<|zN<|hvL hr1939<|zC<|hvL hr1916<|zC<|zN<|hvL hr1015<|zC<|rJ J)<|bEL fun x1953 hx1953=>vM zO (kPL 6 (yo hx1953) edL)<|zk<|yJ zz fun h=>⟨(wrap .i64 ((wrap .i64 ((64:Int)*v1944))+(wrap .i64 (Int.tmod x1953 64))),wrap .i64 (v1945+1)),h,wk J⟩)<|zE<|zA<|zx<|jCL J) fun y1937=>bEL fun y1955 b=>rgF b ⟨103,[(0,qs a),(3,qi v1353),(5,qi 1),(98,qb y1955)]⟩ ⟨[],[]⟩ (gFL 4 87 (eJ J)<|gFL 8 91 (eJ J)<|gFL 11 94 (eJ J)<|eJ J)<|bFL (rgL<|ze<|hvL hr1916<|zC<|zN<|hvL hr1015<|zC<|rJ J)<|yJ yf<|jCL J)<|bEL fun y1957 b=>rgF b ⟨103,[(0,qs a),(3,qi v1353),(4,qu x1917),(35,qb y1957)]⟩ ⟨[],[]⟩ (gFL 3 38 (eJ J)<|eJ J)<|bFL (yJ zO<|zk<|rgL<|bFL (rgL<|ze<|hvL hr1916<|zC<|zN<|hvL hr1015<|zC<|rJ J)<|rgL<|rgL<|bcL (fun y1973=>⟨103,[(0,qs a),(3,qi v1353),(5,qi 2),(6,qi 2048),(7,qi y1973)]⟩) (fun y1973=>⟨[],[]⟩) (fun o1974 hr1975=>lpL (fun k x=>yb n a v1353 k x.1 x.2) (vl .i64 (wrap .i64 x1917) (wrap .i64 ((wrap .i64 ((1:Int)*16))-1)),1) J (fun x=>⟨103,[(0,qs a),(3,qi v1353),(5,qi 2),(6,qi 2048),(7,qi x.1),(8,qi x.2)]⟩) (fun x=>⟨[],[]⟩) fun k x=>by obtain⟨v1980,v1981⟩:=x; rw [yb]; exact rgL<|bFL (zj<|bEL fun x1988 hx1988=>rCL (kPL 4 (yo hx1988) edL)<|bFL (rgL<|ze<|zD<|zN<|hvL hr1975<|zC<|hvL hr1916<|zC<|zN<|hvL hr1015<|zC<|rJ J)<|bEL fun x1989 hx1989=>vM zO (kPL 6 (yo hx1989) edL)<|zk<|yJ zz fun h=>⟨(wrap .i64 ((wrap .i64 ((64:Int)*v1980))+(wrap .i64 (Int.tmod x1989 64))),wrap .i64 (v1981+1)),h,wk J⟩)<|zE<|zA<|zx<|jCL J) fun y1973=>bEL fun y1991 b=>rgF b ⟨103,[(0,qs a),(3,qi v1353),(5,qi 2),(98,qb y1991)]⟩ ⟨[],[]⟩ (gFL 4 87 (eJ J)<|gFL 8 91 (eJ J)<|gFL 11 94 (eJ J)<|eJ J)<|bFL (rgL<|ze<|hvL hr1916<|zC<|zN<|hvL hr1015<|zC<|rJ J)<|yJ yf<|jCL J)<|bEL fun y1993 b=>rgF b ⟨103,[(0,qs a),(3,qi v1353),(4,qu x1917),(42,qb y1993)]⟩ ⟨[],[]⟩ (gFL 3 45 (eJ J)<|eJ J)<|bFL (yJ zO<|zk<|rgL<|bFL (rgL<|ze<|hvL hr1916<|zC<|zN<|hvL hr1015<|zC<|rJ J)<|rgL<|rgL<|bcL (fun y2009=>⟨103,[(0,qs a),(3,qi v1353),(5,qi 3),(6,qi 65536),(7,qi y2009)]⟩) (fun y2009=>⟨[],[]⟩) (fun o2010 hr2011=>lpL (fun k x=>yd n a v1353 k x.1 x.2) (vl .i64 (wrap .i64 x1917) (wrap .i64 ((wrap .i64 ((1:Int)*8))-1)),1) J (fun x=>⟨103,[(0,qs a),(3,qi v1353),(5,qi 3),(6,qi 65536),(7,qi x.1),(8,qi x.2)]⟩) (fun x=>⟨[],[]⟩) fun k x=>by obtain⟨v2016,v2017⟩:=x; rw [yd]; exact rgL<|bFL (zj<|bEL fun x2024 hx2024=>rCL (kPL 4 (yo hx2024) edL)<|bFL (rgL<|ze<|zD<|zN<|hvL hr2011<|zC<|hvL hr1916<|zC<|zN<|hvL hr1015<|zC<|rJ J)<|bEL fun x2025 hx2025=>vM zO (kPL 6 (yo hx2025) edL)<|zk<|yJ zz fun h=>⟨(wrap .i64 ((wrap .i64 ((64:Int)*v2016))+(wrap .i64 (Int.tmod x2025 64))),wrap .i64 (v2017+1)),h,wk J⟩)<|zE<|zA<|zx<|jCL J) fun y2009=>bEL fun y2027 b=>rgF b ⟨103,[(0,qs a),(3,qi v1353),(5,qi 3),(98,qb y2027)]⟩ ⟨[],[]⟩ (gFL 4 87 (eJ J)<|gFL 8 91 (eJ J)<|gFL 11 94 (eJ J)<|eJ J)<|bFL (rgL<|ze<|hvL hr1916<|zC<|zN<|hvL hr1015<|zC<|rJ J)<|yJ yf<|jCL J)<|rgL<|ze<|zD<|hvL hr1916<|zC<|zN<|hvL hr1015<|zC<|rJ J) fun y1914=>fun h=>⟨y1914,h,wk J⟩)<|zE<|zA<|zx<|jCL J) fun y1013=>rgL<|ze<|rJ J
def zW (n:Nat)(a:An)(b:Int):Nat->Int->Option (Ctl Bool Unit)
 |0,_=>none
 | k+1,v411=>
  if(decide (v411<(a.length:Int)))=true then((if(b==22)=true then((xE a v411).bind fun x448=>
  if(decide (x448<32))=true then(some true)else((xE a v411).bind fun x449=>
  if(decide (x449>126))=true then(some true)else(if(b==19)=true then((xE a v411).bind fun x450=>
  (ye n x450).bind fun r451=>
  if(!r451)=true then((xE a v411).bind fun x452=>
  (ya n x452 ([32,39,40,41,43,44,45,46,47,58,61,63]:An)).bind fun r453=>
  some (!r453))else(some false))else(some false))))else(if(b==19)=true then((xE a v411).bind fun x454=>
  (ye n x454).bind fun r455=>
  if(!r455)=true then((xE a v411).bind fun x456=>
  (ya n x456 ([32,39,40,41,43,44,45,46,47,58,61,63]:An)).bind fun r457=>
  some (!r457))else(some false))else(some false))).bind fun y459=>
  if y459=true then(some (.ret false))else(zW n a b k (wrap .i64 (v411+1))))else(some (.nxt ()))
def xZ (n:Nat)(a:Int)(b:An):Option Bool:=
 if(a==12)=true then((vR n b).bind fun r307=>
 some r307)else((if(a==19)=true then(some (a==19))else(some (a==22))).bind fun y309=>
 if y309=true then(xb (zW n b a n 0) (fun r=>some r) (fun y384=>
 some true))else(some false))
def qU {n:Nat} {a:Int} {b:An} {r:Bool}:xZ n a b=some r->AC mx 202 [qi a,qs b] [] (qb r) []:=by
 delta xZ
 exact fnL Tryz.func202 rfl<|rgL<|rgL<|zj<|rgL<|bFL (bEL fun r307 hr307=>rCL (kCL 1 J (gE hr307) edL)<|ze<|zD<|rJ J)<|rgL<|cuL (fun y309=>⟨52,[(0,qi a),(1,qs b),(11,qb y309)]⟩) (fun y309=>⟨[],[]⟩) (fun y309=>bFL (jnL J)<|yJ zz<|jnL J) fun y309=>bFL (rgL<|bcL (fun _=>⟨52,[]⟩) (fun _=>⟨[],[]⟩) (fun o385 hr386=>lpL (fun k x=>zW n b a k x) 0 J (fun x=>⟨52,[(0,qi a),(1,qs b),(5,qi x)]⟩) (fun x=>⟨[],[]⟩) fun k v411=>by rw [zW]; exact rgL<|bFL (zj<|bEL fun y459 c=>rgF c ⟨52,[(0,qi a),(1,qs b),(5,qi v411),(51,qb y459)]⟩ ⟨[],[]⟩ (gFL 3 22 (bEL fun x448 hx448=>kPL 5 (yo hx448)<|gFL 8 27 (eJ J)<|bEL fun x449 hx449=>kPL 10 (yo hx449)<|gFL 15 34 (eJ J)<|gFL 18 37 (bEL fun x450 hx450=>bEL fun r451 hr451=>kPL 20 (yo hx450)<|kCL 21 J (wS hr451)<|gFL 25 44 (bEL fun x452 hx452=>bEL fun r453 hr453=>kPL 27 (yo hx452)<|kCL 28 J (vV hr453)<|eJ J)<|eJ J)<|eJ J)<|gFL 18 37 (bEL fun x454 hx454=>bEL fun r455 hr455=>kPL 20 (yo hx454)<|kCL 21 J (wS hr455)<|gFL 25 44 (bEL fun x456 hx456=>bEL fun r457 hr457=>kPL 27 (yo hx456)<|kCL 28 J (vV hr457)<|eJ J)<|eJ J)<|eJ J)<|bFL (rgL<|ze<|zD<|zN<|hvL hr386<|zC<|zD<|rJ J)<|zk<|yJ zz fun h=>⟨wrap .i64 (v411+1),h,wk J⟩)<|zE<|zA<|zx<|jCL J) fun y384=>rgL<|ze<|zD<|rJ J)<|zk<|rgL<|ze<|rJ J
def zZ (n:Nat)(v185:Int)(a:List za)(x296:za):Nat->Int->Option (Ctl Int Unit)
 |0,_=>none
 | k+1,v313=>
  if(decide (v313<v185))=true then((yj a v313).bind fun x317=>
  if(x317.wh==x296.wh)=true then(some (.ret 10))else(zZ n v185 a x296 k (wrap .i64 (v313+1))))else(some (.nxt ()))
def zT (n:Nat)(a:List za):Nat->Int->Option (Ctl Int Unit)
 |0,_=>none
 | k+1,v185=>
  if(decide (v185<(a.length:Int)))=true then((yj a v185).bind fun x296=>
  (yI n x296.wh).bind fun r297=>
  if(!r297)=true then(some (.ret 11))else((if((x296.vk.length:Int)==0)=true then(some true)else((xZ n x296.yF x296.vk).bind fun r298=>
  some (!r298))).bind fun y300=>
  if y300=true then(some (.ret 13))else(if(decide ((x296.vk.length:Int)>64))=true then(some (.ret 2))else(xb (zZ n v185 a x296 n 0) (fun r=>some (.ret r)) (fun y308=>
  zT n a k (wrap .i64 (v185+1)))))))else(some (.nxt ()))
def yS (n:Nat)(a:List za):Option Int:=
 xb (zT n a n 0) (fun r=>some r) (fun y158=>
 some 0)
def jG {n:Nat} {a:(List za)} {r:Int}:yS n a=some r->AC mx 133 [ql 3 za.cells a] [] (qi r) []:=by
 delta yS
 exact fnL Tryz.func133 rfl<|rgL<|rCL (kPL 1 (yx (c:=za.cells) (l:=a) (e:=89) (sz:=3) (sz':=3) (b:=40) (tok:= .none)) edL)<|bcL (fun _=>⟨47,[]⟩) (fun _=>⟨[],[]⟩) (fun o159 hr160=>lpL (fun k x=>zT n a k x) 0 J (fun x=>⟨47,[(0,ql 3 za.cells a),(6,ql 3 za.cells a),(7,qi (a.length:Int)),(8,qi x)]⟩) (fun x=>⟨[],[]⟩) fun k v185=>by rw [zT]; exact rgL<|bFL (zj<|bEL fun x296 hx296=>rCL (kPL 1 (zI (c:=za.cells) (e:=89) (sz:=3) (b:=40) (tok:= .none) hx296) edL)<|bEL fun r297 hr297=>rCL (kCL 2 A0 (vm hr297) edL)<|bFL (rgL<|ze<|zD<|zN<|hvL hr160<|zC<|rJ A0)<|bEL fun y300 f=>rgF f ⟨47,[(0,ql 3 za.cells a),(3,qi v185),(4,qp 0),(6,ql 3 za.cells a),(7,qi (a.length:Int)),(8,qi v185),(28,qb y300)]⟩ ⟨[za.cells x296],[]⟩ (gFL 5 21 (eJ A1)<|bEL fun r298 hr298=>kCL 9 A0 (qU hr298)<|eJ A1)<|bFL (rgL<|ze<|zD<|zN<|hvL hr160<|zC<|rJ A0)<|rgL<|bFL (rgL<|ze<|zD<|zN<|hvL hr160<|zC<|rJ A0)<|rgL<|nM zO (fun _=>⟨47,[(0,ql 3 za.cells a),(6,ql 3 za.cells a),(7,qi (a.length:Int)),(8,qi v185)]⟩) (fun _=>⟨[],[]⟩) (fun o309 hr310=>lpL (fun k x=>zZ n v185 a x296 k x) 0 A1 (fun x=>⟨47,[(0,ql 3 za.cells a),(3,qi v185),(4,qp 0),(5,qi x),(6,ql 3 za.cells a),(7,qi (a.length:Int)),(8,qi v185)]⟩) (fun x=>⟨[za.cells x296],[]⟩) fun k v313=>by rw [zZ]; exact rgL<|bFL (zj<|bEL fun x317 hx317=>lfL (fun z=>zs [0,1,2,3,4,5,6,7] [] [[],[],[0,1],[0,1,2],[0,1,2,3],[],[5],[0,1,2,3,4,5,6]] [0,3,5,6,7,8] [(4,qp 0),(45,qb (x317.wh==x296.wh))] (dS [0,1]<|dP (zI (c:=za.cells) (e:=89) (sz:=3) (b:=40) (tok:= .none) hx317)<|dS [3,4,5,6,7]<|dE A1) z)<|bFL (rgL<|ze<|zD<|zN<|hvL hr310<|zC<|zD<|zN<|hvL hr160<|zC<|rJ A0)<|zk<|yJ zz fun h=>⟨wrap .i64 (v313+1),h,wk A1⟩)<|zE<|zA<|zx<|jCL A0) fun y308=>zk<|yJ zz fun h=>⟨wrap .i64 (v185+1),h,wk J⟩)<|zE<|zA<|zx<|jCL J) fun y158=>rgL<|ze<|rJ J
def yA (n:Nat)(e:zJ):Nat->Int->Option (Ctl Int Unit)
 |0,_=>none
 | k+1,a=>
  if(decide (a<(e.zu.length:Int)))=true then((yj e.zu a).bind fun b=>
  if((b.length:Int)==0)=true then(some (.ret 14))else(if(decide ((b.length:Int)>4))=true then(some (.ret 2))else((yS n b).bind fun c=>
  if(c !=0)=true then(some (.ret c))else(yA n e k (wrap .i64 (a+1))))))else(some (.nxt ()))
def yh (n:Nat)(a:zJ):Option Int:=
 if(decide ((a.zu.length:Int)>8))=true then(some 2)else(xb (yA n a n 0) (fun r=>some r) (fun b=>
 some 0))
def uy {n:Nat} {f:zJ} {r:Int}:yh n f=some r->AC mx 83 [.agg [ql 1 (cL 3 za.cells) f.zu]] [] (qi r) []:=by
 delta yh
 exact fnL Tryz.func83 rfl<|rgL<|rCL (kPL 2 (yx (c:=(cL 3 za.cells)) (l:=f.zu) (e:=87) (sz:=1) (sz':=1) (b:=24) (tok:= .none)) edL)<|bFL (rgL<|ze<|rJ A0)<|rCL (kPL 2 (yx (c:=(cL 3 za.cells)) (l:=f.zu) (e:=87) (sz:=1) (sz':=1) (b:=24) (tok:= .none)) edL)<|bcL (fun _=>⟨29,[]⟩) (fun _=>⟨[],[]⟩) (fun o a=>lpL (fun k x=>yA n f k x) 0 A0 (fun x=>⟨29,[(11,ql 1 (cL 3 za.cells) f.zu),(12,qi (f.zu.length:Int)),(13,qi x)]⟩) (fun x=>⟨[],[]⟩) fun k m=>by rw [yA]; exact rgL<|bFL (zj<|bEL fun j i=>rCL (kPL 0 (zI (c:=(cL 3 za.cells)) (e:=87) (sz:=1) (b:=24) (tok:= .none) i) edL)<|rCL (kPL 1 (yx (c:=za.cells) (l:=j) (e:=89) (sz:=3) (sz':=3) (b:=40) (tok:= .none)) edL)<|bFL (rgL<|ze<|zD<|zN<|hvL a<|zC<|rJ J)<|rCL (kPL 1 (yx (c:=za.cells) (l:=j) (e:=89) (sz:=3) (sz':=3) (b:=40) (tok:= .none)) edL)<|bFL (rgL<|ze<|zD<|zN<|hvL a<|zC<|rJ J)<|bEL fun p g=>rCL (kCL 1 J (jG g) edL)<|rgL<|bFL (rgL<|ze<|zD<|zN<|hvL a<|zC<|rJ J)<|zk<|yJ zz fun h=>⟨wrap .i64 (m+1),h,wk J⟩)<|zE<|zA<|zx<|jCL J) fun q=>rgL<|ze<|rJ J
def yK (n:Nat)(c:An)(f:Int):Nat->(List An)->Int->Int->Option (List An)
 |0,_,_,_=>none
 | k+1,b,e,a=>
  if(decide (a<=(c.length:Int)))=true then(((if(a==(c.length:Int))=true then(some true)else((xE c a).bind fun x121=>
  some (x121==f))).bind fun y123=>
  if y123=true then((ssl c e a).bind fun x124=>
  (vF 16 b ([x124]:List An)).bind fun x125=>
  some (x125,wrap .i64 (a+1)))else(some (b,e))).bind fun y119=>
  yK n c f k y119.1 y119.2 (wrap .i64 (a+1)))else(some b)
def yU (n:Nat)(b:An)(c:Int):Option (List An):=
 (yK n b c n ([]:List An) 0 0).bind fun a=>
 some a
def jv {n:Nat} {b:An} {c:Int} {r:(List An)}:yU n b c=some r->AC mx 132 [qs b,qu c] [] (ql 1 cS r) []:=by
 delta yU
 exact fnL Tryz.func132 rfl<|rgL<|rgL<|rgL<|rgL<|blL (fun a=>⟨35,[(5, .sl 1 (List.map cS a) (.fam 0 (a.length)))]⟩) (fun a=>⟨[],[a.length]⟩) (fun a=>ud (wk (fr':=⟨35,[(0,qs b),(1,qu c),(5,qn),(6,qi 0),(7,qi 0)]⟩) (st':=⟨[],[]⟩) J)<|ud Wk.nilFam<|lpL (fun k x=>yK n b c k x.1 x.2.1 x.2.2) (([]:List An),0,0) A2 (fun x=>⟨35,[(0,qs b),(1,qu c),(5, .sl 1 (List.map cS x.1) (.fam 0 (x.1.length))),(6,qi x.2.1),(7,qi x.2.2)]⟩) (fun x=>⟨[],[x.1.length]⟩) fun k x=>by obtain⟨f,i,g⟩:=x; rw [yK]; exact rgL<|bFL (blL (fun y119=>⟨35,[(0,qs b),(1,qu c),(5, .sl 1 (List.map cS y119.1) (.fam 0 (y119.1.length))),(6,qi y119.2),(7,qi g)]⟩) (fun y119=>⟨[],[y119.1.length]⟩) (fun y119=>bEL fun y123 j=>rgF j ⟨35,[(0,qs b),(1,qu c),(5, .sl 1 (List.map cS f) (.fam 0 (f.length))),(6,qi i),(7,qi g),(24,qb y123)]⟩ ⟨[],[f.length]⟩ (gFL 5 18 (eJ A2)<|bEL fun x121 hx121=>kPL 7 (yo hx121)<|eJ A2)<|bFL (bEL fun x124 hx124=>bEL fun x125 hx125=>rCL (kPL 4 (rf (k:= .i64) (k':= .i64) hx124)<|lfL (fun z=>kA 6 0 cS (e:=9) (e2:=9) (sz:=1) (bytes:=16) (b2:=16) (tok2:= .exact) hx125 z) edL)<|yJ yf<|jnL A2)<|jnL A2) fun y119=>yJ zz fun h=>⟨(y119.1,y119.2,wrap .i64 (g+1)),h,wk A2⟩)<|zE<|zA<|zx<|jnL A2) fun a=>rgL<|ze<|rJ A8
def xT (n:Nat)(x1197:An):Nat->Int->Option (Ctl Bool Unit)
 |0,_=>none
 | k+1,v1246=>
  if(decide (v1246<(x1197.length:Int)))=true then(((xE x1197 v1246).bind fun x1262=>
  (ye n x1262).bind fun r1263=>
  if(!r1263)=true then((xE x1197 v1246).bind fun x1264=>
  some (x1264 !=45))else(some false)).bind fun y1266=>
  if y1266=true then(some (.ret false))else(xT n x1197 k (wrap .i64 (v1246+1))))else(some (.nxt ()))
def xU (n:Nat)(a:List An):Nat->Int->Option (Ctl Bool Unit)
 |0,_=>none
 | k+1,v846=>
  if(decide (v846<(a.length:Int)))=true then((yj a v846).bind fun x1197=>
  (if(decide ((x1197.length:Int)<1))=true then(some true)else(if(decide ((x1197.length:Int)>63))=true then(some true)else((xE x1197 0).bind fun x1198=>
  if(x1198==45)=true then(some true)else((xE x1197 (wrap .i64 ((x1197.length:Int)-1))).bind fun x1199=>
  some (x1199==45))))).bind fun y1201=>
  if y1201=true then(some (.ret false))else(xb (xT n x1197 n 0) (fun r=>some (.ret r)) (fun y1233=>
  xU n a k (wrap .i64 (v846+1)))))else(some (.nxt ()))
def xY (n:Nat)(a:An):Option Bool:=
 if(decide ((a.length:Int)>128))=true then(some false)else((yU n a 46).bind fun b=>
 xb (xU n b n 0) (fun r=>some r) (fun y633=>
 some true))
def ut {n:Nat} {i:An} {r:Bool}:xY n i=some r->AC mx 130 [qs i] [] (qb r) []:=by
 delta xY
 exact fnL Tryz.func130 rfl<|rgL<|rgL<|bFL (rgL<|ze<|rJ J)<|bEL fun a g=>rCL (kCL 1 J (jv g)<|kPL 2 (yx (c:=cS) (l:=a) (e:=9) (sz:=1) (sz':=1) (b:=16) (tok:= .none)) edL)<|bcL (fun _=>⟨55,[]⟩) (fun _=>⟨[],[]⟩) (fun o634 hr635=>lpL (fun k x=>xU n a k x) 0 J (fun x=>⟨55,[(10,ql 1 cS a),(11,qi (a.length:Int)),(12,qi x)]⟩) (fun x=>⟨[],[]⟩) fun k v846=>by rw [xU]; exact rgL<|bFL (zj<|bEL fun x1197 hx1197=>rCL (kPL 0 (zI (c:=cS) (e:=9) (sz:=1) (b:=16) (tok:= .none) hx1197) edL)<|bEL fun y1201 f=>rgF f ⟨55,[(4,qs x1197),(10,ql 1 cS a),(11,qi (a.length:Int)),(12,qi v846),(36,qb y1201)]⟩ ⟨[],[]⟩ (gFL 4 19 (eJ J)<|gFL 9 24 (eJ J)<|bEL fun x1198 hx1198=>kPL 10 (yo hx1198)<|gFL 14 29 (eJ J)<|bEL fun x1199 hx1199=>kPL 18 (yo hx1199)<|eJ J)<|bFL (rgL<|ze<|zD<|zN<|hvL hr635<|zC<|rJ J)<|rgL<|nM zO (fun _=>⟨55,[(10,ql 1 cS a),(11,qi (a.length:Int)),(12,qi v846)]⟩) (fun _=>⟨[],[]⟩) (fun o1234 hr1235=>lpL (fun k x=>xT n x1197 k x) 0 J (fun x=>⟨55,[(4,qs x1197),(5,qi x),(10,ql 1 cS a),(11,qi (a.length:Int)),(12,qi v846)]⟩) (fun x=>⟨[],[]⟩) fun k v1246=>by rw [xT]; exact rgL<|bFL (zj<|bEL fun y1266 f=>rgF f ⟨55,[(4,qs x1197),(5,qi v1246),(10,ql 1 cS a),(11,qi (a.length:Int)),(12,qi v846),(53,qb y1266)]⟩ ⟨[],[]⟩ (bEL fun x1262 hx1262=>bEL fun r1263 hr1263=>kPL 2 (yo hx1262)<|kCL 3 J (wS hr1263)<|gFL 6 48 (bEL fun x1264 hx1264=>kPL 8 (yo hx1264)<|eJ J)<|eJ J)<|bFL (rgL<|ze<|zD<|zN<|hvL hr1235<|zC<|zD<|zN<|hvL hr635<|zC<|rJ J)<|zk<|yJ zz fun h=>⟨wrap .i64 (v1246+1),h,wk J⟩)<|zE<|zA<|zx<|jCL J) fun y1233=>zk<|yJ zz fun h=>⟨wrap .i64 (v846+1),h,wk J⟩)<|zE<|zA<|zx<|jCL J) fun y633=>rgL<|ze<|rJ J
def yr (n:Nat)(b:An):Nat->Int->Option Int
 |0,_=>none
 | k+1,a=>
  (if(decide (a<(b.length:Int)))=true then((xE b a).bind fun c=>
  some (c !=64))else(some false)).bind fun e=>
  if e=true then(yr n b k (wrap .i64 (a+1)))else(some a)
def xp (n:Nat)(b:Int)(a:An):Nat->Int->Option (Ctl (An×An×Bool) Unit)
 |0,_=>none
 | k+1,v114=>
  if(decide (v114<b))=true then(((xE a v114).bind fun x145=>
  (ye n x145).bind fun r146=>
  if(!r146)=true then((xE a v114).bind fun x147=>
  (ya n x147 ([33,35,36,37,38,39,42,43,45,47,61,63,94,95,96,123,124,125,126,46]:An)).bind fun r148=>
  if(!r148)=true then(some true)else((xE a v114).bind fun x149=>
  if(x149==46)=true then((xE a (wrap .i64 (v114+1))).bind fun x150=>
  some (x150==46))else(some false)))else((xE a v114).bind fun x151=>
  if(x151==46)=true then((xE a (wrap .i64 (v114+1))).bind fun x152=>
  some (x152==46))else(some false))).bind fun y154=>
  if y154=true then(some (.ret (([]:An),([]:An),false)))else(xp n b a k (wrap .i64 (v114+1))))else(some (.nxt ()))
def vC (n:Nat)(b:An):Option (An×An×Bool):=
 if(decide ((b.length:Int)>128))=true then(some (([]:An),([]:An),false))else((yr n b n 0).bind fun a=>
 (if(decide (a<1))=true then(some true)else(if(decide (a>64))=true then(some true)else(if(a==(b.length:Int))=true then(some true)else((ssl b (wrap .i64 (a+1)) (b.length)).bind fun e=>
 (xY n e).bind fun c=>
 if(!c)=true then(some true)else((xE b 0).bind fun f=>
 if(f==46)=true then(some true)else((xE b (wrap .i64 (a-1))).bind fun g=>
 some (g==46))))))).bind fun h=>
 if h=true then(some (([]:An),([]:An),false))else(xb (xp n a b n 0) (fun r=>some r) (fun i=>
 (ssl b 0 a).bind fun x155=>
 (ssl b (wrap .i64 (a+1)) (b.length)).bind fun x156=>
 some (x155,x156,true))))
def bY {n:Nat} {b:An} {r:(An×An×Bool)}:vC n b=some r->AC mx 131 [qs b] [] (.tuple [qs r.1,qs r.2.1,qb r.2.2]) []:=by
 delta vC
 exact fnL Tryz.func131 rfl<|rgL<|rgL<|bFL (rgL<|ze<|rJ J)<|rgL<|blL (fun a=>⟨91,[(0,qs b),(5,qi a)]⟩) (fun a=>⟨[],[]⟩) (fun a=>lpL (fun k x=>yr n b k x) 0 J (fun x=>⟨91,[(0,qs b),(5,qi x)]⟩) (fun x=>⟨[],[]⟩) fun k m=>by rw [yr]; exact bEL fun o c=>rgF c ⟨91,[(0,qs b),(5,qi m),(19,qb o)]⟩ ⟨[],[]⟩ (gFL 5 14 (bEL fun t g=>kPL 7 (yo g)<|eJ J)<|eJ J)<|bFL (zj<|yJ (kq (P:=Tryz.prog) (gl:=gl0 mx) zz)<|zk fun h=>⟨wrap .i64 (m+1),h,wk J⟩)<|zE<|zA<|zx<|jnL J) fun a=>bEL fun p c=>rgF c ⟨91,[(0,qs b),(5,qi a),(53,qb p)]⟩ ⟨[],[]⟩ (gFL 3 24 (eJ J)<|gFL 7 28 (eJ J)<|gFL 13 34 (eJ J)<|bEL fun v i=>bEL fun s e=>kPL 16 (jz (k:= .i64) i)<|kCL 17 J (ut e)<|gFL 21 42 (eJ J)<|bEL fun w j=>kPL 22 (yo j)<|gFL 26 47 (eJ J)<|bEL fun y l=>kPL 29 (yo l)<|eJ J)<|bFL (rgL<|ze<|rJ J)<|rgL<|bcL (fun _=>⟨91,[(0,qs b),(5,qi a)]⟩) (fun _=>⟨[],[]⟩) (fun q f=>lpL (fun k x=>xp n a b k x) 0 J (fun x=>⟨91,[(0,qs b),(5,qi a),(6,qi x)]⟩) (fun x=>⟨[],[]⟩) fun k v114=>by rw [xp]; exact rgL<|bFL (zj<|bEL fun y154 c=>rgF c ⟨91,[(0,qs b),(5,qi a),(6,qi v114),(83,qb y154)]⟩ ⟨[],[]⟩ (bEL fun x145 hx145=>bEL fun r146 hr146=>kPL 2 (yo hx145)<|kCL 3 J (wS hr146)<|gFL 6 64 (bEL fun x147 hx147=>bEL fun r148 hr148=>kPL 8 (yo hx147)<|kCL 9 J (vV hr148)<|gFL 13 71 (eJ J)<|bEL fun x149 hx149=>kPL 15 (yo hx149)<|gFL 18 76 (bEL fun x150 hx150=>kPL 21 (yo hx150)<|eJ J)<|eJ J)<|bEL fun x151 hx151=>kPL 15 (yo hx151)<|gFL 18 76 (bEL fun x152 hx152=>kPL 21 (yo hx152)<|eJ J)<|eJ J)<|bFL (rgL<|ze<|zD<|zN<|hvL f<|zC<|rJ J)<|zk<|yJ zz fun h=>⟨wrap .i64 (v114+1),h,wk J⟩)<|zE<|zA<|zx<|jCL J) fun A=>bEL fun x155 hx155=>bEL fun x156 hx156=>lfL (fun z=>zs [0,1,2,3,4,5,6,7,8,9] [] [[],[],[0,1],[],[],[4],[3,4,5],[0,1,2],[0,1,2,3,4,5,6,7],[0,1,2,3,4,5,6,7,8]] [] [(2,qs x155),(3,qs x156),(4,qb true)] (dS [0,1]<|dP (jE (k:= .i64) hx155)<|dS [3,4,5]<|dP (jz (k:= .i64) hx156)<|dS [7,8,9]<|dE J) z)<|ze<|rJ J
def wW (n:Nat)(a:An):Option Bool:=
 (vC n a).bind fun b=>
 some b.2.2
def gG {n:Nat} {b:An} {r:Bool}:wW n b=some r->AC mx 78 [qs b] [] (qb r) []:=by
 delta wW
 exact fnL Tryz.func78 rfl<|rgL<|bEL fun c a=>rCL (kCL 1 J (bY a) edL)<|rgL<|ze<|rJ J
def wu (n:Nat)(a:An):Option Bool:=
 ((xY n a).bind fun b=>
 if b=true then(some true)else(if(decide ((a.length:Int)<=128))=true then(if(decide ((a.length:Int)>2))=true then((ssl a 0 2).bind fun f=>
 if(f==([42,46]:An))=true then((ssl a 2 (a.length)).bind fun g=>
 (xY n g).bind fun c=>
 if c=true then((yU n a 46).bind fun e=>
 some (decide ((e.length:Int)>2)))else(some false))else(some false))else(some false))else(some false))).bind fun h=>
 some h
def kZ {n:Nat} {j:An} {r:Bool}:wu n j=some r->AC mx 80 [qs j] [] (qb r) []:=by
 delta wu
 exact fnL Tryz.func80 rfl<|rgL<|bEL fun p m=>rgF m ⟨31,[(2,qb p)]⟩ ⟨[],[]⟩ (bEL fun q a=>kCL 1 J (ut a)<|gFL 3 5 (eJ J)<|gFL 7 9 (gFL 12 14 (bEL fun t h=>kPL 13 (jE (k:= .i64) h)<|gFL 17 19 (bEL fun v i=>bEL fun s f=>kPL 18 (jz (k:= .i64) i)<|kCL 19 J (ut f)<|gFL 22 24 (bEL fun o g=>kCL 23 J (jv g)<|kPL 24 (yx (c:=cS) (l:=o) (e:=9) (sz:=1) (sz':=1) (b:=16) (tok:= .none))<|eJ J)<|eJ J)<|eJ J)<|eJ J)<|eJ J)<|ze<|rJ J
def yC (n:Nat)(a:zb)(b:Bool):Option Int:=
 xb (if(a.yF==1)=true then((if b=true then(none)else(if(!b)=true then((wW n a.wb).bind fun c=>
 some c)else(some false))).bind fun i=>
 some (.nxt i))else(if(a.yF==2)=true then((if b=true then(none)else(if(!b)=true then((wu n a.wb).bind fun e=>
 some e)else(some false))).bind fun j=>
 some (.nxt j))else(if(a.yF==7)=true then((if b=true then(none)else(if(!b)=true then((w4 n a.wb).bind fun f=>
 some f)else(some false))).bind fun k=>
 some (.nxt k))else(if(a.yF==4)=true then(if(!(a.wb==([]:An)))=true then(some (.ret 14))else((yh n (zJ.mk a.zL.zu)).bind fun g=>
 some (.ret g)))else(some (.nxt false)))))) (fun r=>some r) (fun h=>
 (if(!h)=true then(some true)else(some (decide ((a.zL.zu.length:Int)>0)))).bind fun l=>
 if l=true then(some 14)else(some 0))
def qc {n:Nat} {f:zb} {t:Bool} {r:Int}:yC n f t=some r->AC mx 38 [.agg (zb.cells f),qb t] [] (qi r) []:=by
 delta yC
 exact fnL Tryz.func38 rfl<|rgL<|rgL<|rgL<|bcL (fun h=>⟨76,[(2,qp 0),(5,qb h)]⟩) (fun h=>⟨[zb.cells f],[]⟩) (fun v a=>rgL<|bFL (bEL fun o g=>sC g yf ⟨76,[(2,qp 0),(5,qb o)]⟩ ⟨[zb.cells f],[]⟩ (gFL 2 11 nEL<|gFL 10 19 (bEL fun w i=>kCL 12 A0 (gG i)<|eJ A1)<|eJ A1)<|jCL A1)<|rgL<|bFL (bEL fun p g=>sC g yf ⟨76,[(2,qp 0),(5,qb p)]⟩ ⟨[zb.cells f],[]⟩ (gFL 2 28 nEL<|gFL 10 36 (bEL fun x j=>kCL 12 A0 (kZ j)<|eJ A1)<|eJ A1)<|jCL A1)<|rgL<|bFL (bEL fun q g=>sC g yf ⟨76,[(2,qp 0),(5,qb q)]⟩ ⟨[zb.cells f],[]⟩ (gFL 2 45 nEL<|gFL 10 53 (bEL fun y k=>kCL 12 A0 (ba k)<|eJ A1)<|eJ A1)<|jCL A1)<|rgL<|bFL (rgL<|bFL (rgL<|ze<|hvL a<|zC<|rJ A0)<|bEL fun z m=>rCL (kCL 2 A0 (uy m) edL)<|ze<|hvL a<|zC<|rJ A0)<|jCL A1) fun h=>bEL fun s g=>rgF g ⟨76,[(75,qb s)]⟩ ⟨[],[]⟩ (gFL 3 69 (eJ A0)<|kPL 6 (yx (c:=(cL 3 za.cells)) (l:=f.zL.zu) (e:=87) (sz:=1) (sz':=1) (b:=24) (tok:= .none))<|eJ A0)<|bFL (rgL<|ze<|rJ J)<|rgL<|ze<|rJ J
def xr (n:Nat)(a:zR):Option Int:=
 (if(decide (a.xd<0))=true then(some true)else(if(decide (a.xd>8))=true then(some true)else(if((a.bC.length:Int) !=16)=true then(some true)else(some ((a.vK.length:Int) !=16))))).bind fun b=>
 if b=true then(some 18)else(some 0)
def ko {n:Nat} {a:zR} {r:Int}:xr n a=some r->AC mx 40 [.agg (zR.cells a)] [] (qi r) []:=by
 delta xr
 exact fnL Tryz.func40 rfl<|rgL<|bEL fun c b=>rgF b ⟨23,[(22,qb c)]⟩ ⟨[],[]⟩ (gFL 4 6 (eJ A0)<|gFL 9 11 (eJ A0)<|gFL 15 17 (eJ A0)<|eJ A0)<|bFL (rgL<|ze<|rJ J)<|rgL<|ze<|rJ J
def zY (n:Nat)(a:zg):Option Int:=
 (yh n (zJ.mk a.zL.zu)).bind fun b=>
 if(b !=0)=true then(some b)else(if((a.zL.zu.length:Int)==0)=true then(some 14)else(some 0))
def qf {n:Nat} {a:zg} {r:Int}:zY n a=some r->AC mx 39 [.agg [ql 1 (cL 3 za.cells) a.zL.zu,qi a.xe.xd,qs a.xe.bC,qs a.xe.vK]] [] (qi r) []:=by
 delta zY
 exact fnL Tryz.func39 rfl<|rgL<|bEL fun g f=>rCL (kCL 2 A0 (uy f) edL)<|rgL<|bFL (rgL<|ze<|rJ A0)<|rCL (kPL 3 (yx (c:=(cL 3 za.cells)) (l:=a.zL.zu) (e:=87) (sz:=1) (sz':=1) (b:=24) (tok:= .none)) edL)<|bFL (rgL<|ze<|rJ A0)<|rgL<|ze<|rJ A0
def xW (n:Nat)(v534 a:List An)(v535:Int):Nat->Int->Option Int
 |0,_=>none
 | k+1,v777=>
  (if(decide (v777>0))=true then((yj v534 (wrap .i64 (v777-1))).bind fun x782=>
  (yj a v535).bind fun x783=>
  some (!(Op.bytesLess x782 x783)))else(some false)).bind fun y785=>
  if y785=true then(xW n v534 a v535 k (wrap .i64 (v777-1)))else(some v777)
def xS (n:Nat)(a:List An):Nat->(List An)->Int->Option (List An)
 |0,_,_=>none
 | k+1,v534,v535=>
  if(decide (v535<(a.length:Int)))=true then(((xW n v534 a v535 n (v534.length:Int)).bind fun y771=>
  (if(decide (y771<(v534.length:Int)))=true then((yj v534 y771).bind fun x786=>
  (yj a v535).bind fun x787=>
  some (x786==x787))else(some false)).bind fun y789=>
  if y789=true then(some v534)else(((lsl v534 0 y771).bind fun x790=>
  (yj a v535).bind fun x791=>
  (lsl v534 y771 (v534.length)).bind fun x792=>
  if(List.isEmpty x790)=true then((pA 16 ([]:List An) ([x791]:List An)).bind fun x793=>
  (vF 16 x793 x792).bind fun x794=>
  some x794)else((pA 16 ([]:List An) x790).bind fun x795=>
  (vF 16 x795 ([x791]:List An)).bind fun x796=>
  (vF 16 x796 x792).bind fun x797=>
  some x797)).bind fun y799=>
  some y799)).bind fun y755=>
  xS n a k y755 (wrap .i64 (v535+1)))else(some v534)
def w5 (n:Nat)(a:List An):Option (List An):=
 (xS n a n ([]:List An) 0).bind fun y400=>
 some y400
def gS {n:Nat} {a:(List An)} {r:(List An)}:w5 n a=some r->AC mx 37 [ql 1 cS a] [] (ql 1 cS r) []:=by
 delta w5
 exact fnL Tryz.func37 rfl<|rgL<|rgL<|rgL<|blL (fun y400=>⟨61,[(3,ql 1 cS y400)]⟩) (fun y400=>⟨[],[]⟩) (fun y400=>ud (wk (fr':=⟨61,[(0,ql 1 cS a),(3,ql 1 cS ([]:List An)),(4,qi 0)]⟩) (st':=⟨[],[]⟩) J)<|lpL (fun k x=>xS n a k x.1 x.2) (([]:List An),0) J (fun x=>⟨61,[(0,ql 1 cS a),(3,ql 1 cS x.1),(4,qi x.2)]⟩) (fun x=>⟨[],[]⟩) fun k x=>by obtain⟨v534,v535⟩:=x; rw [xS]; exact rCL (kPL 2 (yx (c:=cS) (l:=a) (e:=9) (sz:=1) (sz':=1) (b:=16) (tok:= .none)) edL)<|bFL (blL (fun y755=>⟨61,[(0,ql 1 cS a),(3,ql 1 cS y755),(4,qi v535)]⟩) (fun y755=>⟨[],[]⟩) (fun y755=>rCL (kPL 1 (yx (c:=cS) (l:=v534) (e:=9) (sz:=1) (sz':=1) (b:=16) (tok:= .none)) edL)<|blL (fun y771=>⟨61,[(0,ql 1 cS a),(3,ql 1 cS v534),(4,qi v535),(5,qi y771)]⟩) (fun y771=>⟨[],[]⟩) (fun y771=>lpL (fun k x=>xW n v534 a v535 k x) (v534.length:Int) J (fun x=>⟨61,[(0,ql 1 cS a),(3,ql 1 cS v534),(4,qi v535),(5,qi x)]⟩) (fun x=>⟨[],[]⟩) fun k v777=>by rw [xW]; exact bEL fun y785 f=>lfL (fun z=>drw [0,1,2,3,4,5,6,7,8,9,10,11,12,13] [] [[],[0],[0,1],[0,1,2],[0,1,2],[0,1,2,4],[0,1,2,3,4,5],[0,1,2,3,4,5,6],[0,1,2],[0,1,2],[0,1,2,8,9],[0,1,2,8,9,10],[0,1,2,3,4,5,6,7,8,9,10,11],[0,1,2,3,4,5,6,7,8,9,10,11,12]] ⟨61,[(0,ql 1 cS a),(3,ql 1 cS v534),(4,qi v535),(5,qi v777),(27,qb y785)]⟩ ⟨[],[]⟩ (have h:=f; dS [0,1,2]<|hF 16 h (fun h=>bE h fun x782 hx782 h=>bE h fun x783 hx783 h=>dS [3,4,5]<|dP (zI (c:=cS) (e:=9) (sz:=1) (b:=16) (tok:= .none) hx782)<|dS [7,8,9]<|dP (zI (c:=cS) (e:=9) (sz:=1) (b:=16) (tok:= .none) hx783)<|dS [11,12,13]<|by cases h; exact dE J) fun h=>dS [3,4,5,6,7,8,9,10,11,12,13]<|by cases h; exact dE J) z)<|bFL (zj<|yJ (kq (P:=Tryz.prog) (gl:=gl0 mx) zz)<|zk fun h=>⟨wrap .i64 (v777-1),h,wk J⟩)<|zE<|zA<|zx<|jnL J) fun y771=>bEL fun y789 f=>lfL (fun z=>drw [0,1,2,3,4,5,6,7,8,9,10,11,12,13,14] [] [[],[],[1],[0,1,2],[0,1,2,3],[0,1,2,3,4],[0,1,2,3,4],[0,1,2,3,4,5,6],[0,1,2,3,4,5,6,7],[0,1,2,3,4],[0,1,2,3,4],[0,1,2,3,4,9,10],[0,1,2,3,4,9,10,11],[0,1,2,3,4,5,6,7,8,9,10,11,12],[0,1,2,3,4,5,6,7,8,9,10,11,12,13]] ⟨61,[(0,ql 1 cS a),(3,ql 1 cS v534),(4,qi v535),(5,qi y771),(44,qb y789)]⟩ ⟨[],[]⟩ (have h:=f; dS [0,1]<|dP (yx (c:=cS) (l:=v534) (e:=9) (sz:=1) (sz':=1) (b:=16) (tok:= .none))<|dS [3,4]<|hF 34 h (fun h=>bE h fun x786 hx786 h=>bE h fun x787 hx787 h=>dS [5,6]<|dP (zI (c:=cS) (e:=9) (sz:=1) (b:=16) (tok:= .none) hx786)<|dS [8,9,10]<|dP (zI (c:=cS) (e:=9) (sz:=1) (b:=16) (tok:= .none) hx787)<|dS [12,13,14]<|by cases h; exact dE J) fun h=>dS [5,6,7,8,9,10,11,12,13,14]<|by cases h; exact dE J) z)<|bFL (zE<|zx<|jnL J)<|bEL fun y799 f=>lfL (fun z=>zdI [0,1,2,3,5,6,7,8,9,11,12,13,4,10,14,15] [4,10,14,15] [[],[],[],[1,2],[0,1,2,3],[],[],[5,6],[5,6,7],[5,6,7,8],[0,1,2,3,4,5,6,7,8,9],[],[],[11,12],[0,1,2,3,4,5,6,7,8,9,10,11,12,13],[0,1,2,3,4,5,6,7,8,9,10,11,12,13,14]] ⟨61,[(0,ql 1 cS a),(3, .sl 1 (List.map cS y799) (.fam 0 (y799.length))),(4,qi v535)]⟩ ⟨[],[y799.length]⟩ yf (have h:=f; bE h fun x790 hx790 h=>bE h fun x791 hx791 h=>bE h fun x792 hx792 h=>dS [0,1,2]<|dP (vw (k:= .i64) (c:=cS) (e:=9) (sz:=1) (b:=16) (tok:= .none) hx790)<|dS [5,6]<|dP (zI (c:=cS) (e:=9) (sz:=1) (b:=16) (tok:= .none) hx791)<|dS [8,9,11,12]<|dP (ji (k:= .i64) (c:=cS) (e:=9) (sz:=1) (b:=16) (tok:= .none) hx792)<|kF h (fun g h=>bE h fun x793 hx793 h=>bE h fun x794 hx794 h=>dV (zK 13 (ji (k:= .i64) (c:=cS) (e:=9) (sz:=1) (b:=16) (tok:= .none) hx792) (zK 7 (zI (c:=cS) (e:=9) (sz:=1) (b:=16) (tok:= .none) hx791) (zK 3 (vw (k:= .i64) (c:=cS) (e:=9) (sz:=1) (b:=16) (tok:= .none) hx790) yM))) 0 0 0 (so (T:=tyT) (c:=cS) (l:=([]:List An)) (l2:=x790) (e:=9) (e2:=9) (sz:=1) (bytes:=16) (b2:=16) (tok:= .exact) (tok2:= .none) (cell:=none) O5 g)<|dV (zK 13 (ji (k:= .i64) (c:=cS) (e:=9) (sz:=1) (b:=16) (tok:= .none) hx792) (zK 7 (zI (c:=cS) (e:=9) (sz:=1) (b:=16) (tok:= .none) hx791) (zK 3 (vw (k:= .i64) (c:=cS) (e:=9) (sz:=1) (b:=16) (tok:= .none) hx790) yM))) 0 0 0 (XW (T:=tyT) (c:=cS) (e:=9) (e2:=9) (sz:=1) (bytes:=16) (b2:=16) (tok2:= .exact) (cell:=none) O5 hx793)<|dA (zK 13 (ji (k:= .i64) (c:=cS) (e:=9) (sz:=1) (b:=16) (tok:= .none) hx792) (zK 7 (zI (c:=cS) (e:=9) (sz:=1) (b:=16) (tok:= .none) hx791) (zK 3 (vw (k:= .i64) (c:=cS) (e:=9) (sz:=1) (b:=16) (tok:= .none) hx790) yM))) 0 cS (e:=9) (e2:=9) (sz:=1) (bytes:=16) (b2:=16) (tok2:= .none) hx794<|dF (zK 13 (ji (k:= .i64) (c:=cS) (e:=9) (sz:=1) (b:=16) (tok:= .none) hx792) (zK 7 (zI (c:=cS) (e:=9) (sz:=1) (b:=16) (tok:= .none) hx791) (zK 3 (vw (k:= .i64) (c:=cS) (e:=9) (sz:=1) (b:=16) (tok:= .none) hx790) yM)))<|by cases h; exact dE A2) fun g h=>bE h fun x795 hx795 h=>bE h fun x796 hx796 h=>bE h fun x797 hx797 h=>dV (zK 13 (ji (k:= .i64) (c:=cS) (e:=9) (sz:=1) (b:=16) (tok:= .none) hx792) (zK 7 (zI (c:=cS) (e:=9) (sz:=1) (b:=16) (tok:= .none) hx791) (zK 3 (vw (k:= .i64) (c:=cS) (e:=9) (sz:=1) (b:=16) (tok:= .none) hx790) yM))) 0 0 0 (XW (T:=tyT) (c:=cS) (e:=9) (e2:=9) (sz:=1) (bytes:=16) (b2:=16) (tok2:= .none) (cell:=none) O5 hx795)<|dA (zK 13 (ji (k:= .i64) (c:=cS) (e:=9) (sz:=1) (b:=16) (tok:= .none) hx792) (zK 7 (zI (c:=cS) (e:=9) (sz:=1) (b:=16) (tok:= .none) hx791) (zK 3 (vw (k:= .i64) (c:=cS) (e:=9) (sz:=1) (b:=16) (tok:= .none) hx790) yM))) 0 cS (e:=9) (e2:=9) (sz:=1) (bytes:=16) (b2:=16) (tok2:= .exact) hx796<|dA (zK 13 (ji (k:= .i64) (c:=cS) (e:=9) (sz:=1) (b:=16) (tok:= .none) hx792) (zK 7 (zI (c:=cS) (e:=9) (sz:=1) (b:=16) (tok:= .none) hx791) (zK 3 (vw (k:= .i64) (c:=cS) (e:=9) (sz:=1) (b:=16) (tok:= .none) hx790) yM))) 0 cS (e:=9) (e2:=9) (sz:=1) (bytes:=16) (b2:=16) (tok2:= .none) hx797<|dF (zK 13 (ji (k:= .i64) (c:=cS) (e:=9) (sz:=1) (b:=16) (tok:= .none) hx792) (zK 7 (zI (c:=cS) (e:=9) (sz:=1) (b:=16) (tok:= .none) hx791) (zK 3 (vw (k:= .i64) (c:=cS) (e:=9) (sz:=1) (b:=16) (tok:= .none) hx790) yM)))<|by cases h; exact dE A2) z)<|jnL A8) fun y755=>yJ zz fun h=>⟨(y755,wrap .i64 (v535+1)),h,wk J⟩)<|zE<|zA<|zx<|jnL J) fun y400=>rgL<|ze<|rJ J
def xu (n:Nat)(b:zv):Nat->Int->Option (Ctl Int Unit)
 |0,_=>none
 | k+1,a=>
  if(decide (a<(b.zG.length:Int)))=true then((yj b.zG a).bind fun e=>
  (yI n e).bind fun c=>
  if(!c)=true then(some (.ret 11))else(xu n b k (wrap .i64 (a+1))))else(some (.nxt ()))
def xw (n:Nat)(e:zv):Nat->Int->Option (Ctl Int Unit)
 |0,_=>none
 | k+1,a=>
  if(decide (a<(e.ym.length:Int)))=true then((yj e.ym a).bind fun b=>
  (yC n (zb.mk b.yF b.wb (zJ.mk b.zL.zu)) false).bind fun c=>
  if(c !=0)=true then(some (.ret c))else(xw n e k (wrap .i64 (a+1))))else(some (.nxt ()))
def xo (n:Nat)(a:zv):Nat->Int->Option (Ctl Int Unit)
 |0,_=>none
 | k+1,v114=>
  if(decide (v114<(a.zy.length:Int)))=true then((yj a.zy v114).bind fun x127=>
  (zY n (zg.mk (zJ.mk x127.zL.zu) (zR.mk x127.xe.xd x127.xe.bC x127.xe.vK))).bind fun r128=>
  if(r128 !=0)=true then(some (.ret r128))else((yj a.zy v114).bind fun x129=>
  (xr n (zR.mk x129.xe.xd x129.xe.bC x129.xe.vK)).bind fun r130=>
  if(r130 !=0)=true then(some (.ret r130))else(xo n a k (wrap .i64 (v114+1)))))else(some (.nxt ()))
def wl (n:Nat)(a:zv):Option Int:=
 (if(decide (a.Yv<0))=true then(some true)else(some (decide (a.Yv>254033452799)))).bind fun e=>
 if e=true then(some 12)else((if(!(a.u0==([]:An)))=true then((yI n a.u0).bind fun b=>
 some (!b))else(some false)).bind fun f=>
 if f=true then(some 11)else((if(decide (a.dK<0))=true then(some true)else(if(decide (a.dK>511))=true then(some true)else(if(decide (a.jj<1))=true then(some true)else(some (decide (a.jj>8)))))).bind fun g=>
 if g=true then(some 1)else((if(decide ((a.zG.length:Int)>8))=true then(some true)else(if(decide ((a.ym.length:Int)>16))=true then(some true)else(some (decide ((a.zy.length:Int)>64))))).bind fun h=>
 if h=true then(some 2)else(xb (xu n a n 0) (fun r=>some r) (fun i=>
 (w5 n a.zG).bind fun c=>
 if((c.length:Int) !=(a.zG.length:Int))=true then(some 10)else(xb (xw n a n 0) (fun r=>some r) (fun j=>
 xb (xo n a n 0) (fun r=>some r) (fun y103=>
 some 0))))))))
def ju {n:Nat} {a:zv} {r:Int}:wl n a=some r->AC mx 15 [.agg (zv.cells a)] [] (qi r) []:=by
 delta wl
 exact fnL Tryz.func15 rfl<|rgL<|zj<|bEL fun y f=>rgF f ⟨128,[(1,qp 0),(9,qb y)]⟩ ⟨[zv.cells a],[]⟩ (gFL 4 13 (eJ A1)<|eJ A1)<|bFL (rgL<|ze<|zD<|rJ A0)<|bEL fun A f=>rgF f ⟨128,[(1,qp 0),(18,qb A)]⟩ ⟨[zv.cells a],[]⟩ (gFL 4 22 (bEL fun G g=>kCL 6 A0 (vm g)<|eJ A1)<|eJ A1)<|bFL (rgL<|ze<|zD<|rJ A0)<|bEL fun B f=>rgF f ⟨128,[(1,qp 0),(28,qb B)]⟩ ⟨[zv.cells a],[]⟩ (gFL 4 32 (eJ A1)<|gFL 9 37 (eJ A1)<|gFL 14 42 (eJ A1)<|eJ A1)<|bFL (rgL<|ze<|zD<|rJ A0)<|bEL fun C f=>rgF f ⟨128,[(1,qp 0),(47,qb C)]⟩ ⟨[zv.cells a],[]⟩ (kPL 2 (yx (c:=cS) (l:=a.zG) (e:=9) (sz:=1) (sz':=1) (b:=16) (tok:= .none))<|gFL 5 52 (eJ A1)<|kPL 7 (yx (c:=zb.cells) (l:=a.ym) (e:=85) (sz:=3) (sz':=3) (b:=48) (tok:= .none))<|gFL 11 58 (eJ A1)<|kPL 13 (yx (c:=zg.cells) (l:=a.zy) (e:=38) (sz:=4) (sz':=4) (b:=64) (tok:= .none))<|eJ A1)<|bFL (rgL<|ze<|zD<|rJ A0)<|zk<|rgL<|bcL (fun _=>⟨128,[(1,qp 0)]⟩) (fun _=>⟨[zv.cells a],[]⟩) (fun E i=>lpL (fun k x=>xu n a k x) 0 A1 (fun x=>⟨128,[(1,qp 0),(3,qi x)]⟩) (fun x=>⟨[zv.cells a],[]⟩) fun k v=>by rw [xu]; exact rCL (kPL 3 (yx (c:=cS) (l:=a.zG) (e:=9) (sz:=1) (sz':=1) (b:=16) (tok:= .none)) edL)<|bFL (zj<|bEL fun K q=>bEL fun H j=>rCL (kPL 3 (zI (c:=cS) (e:=9) (sz:=1) (b:=16) (tok:= .none) q)<|kCL 5 A0 (vm j) edL)<|bFL (rgL<|ze<|zD<|zN<|hvL i<|zC<|rJ A0)<|zk<|yJ zz fun h=>⟨wrap .i64 (v+1),h,wk A1⟩)<|zE<|zA<|zx<|jCL A1) fun M=>bEL fun t m=>lfL (fun z=>zs [0,1,4,5,6,2,3,7] [2] [[],[0],[0,1],[0,1,2],[],[4],[4,5],[0,1,2,3,4,5,6]] [] [(1,qp 0),(85,qb ((t.length:Int) !=(a.zG.length:Int)))] (dS [0,1,4,5]<|dP (yx (c:=cS) (l:=a.zG) (e:=9) (sz:=1) (sz':=1) (b:=16) (tok:= .none))<|dC (zK 6 (yx (c:=cS) (l:=a.zG) (e:=9) (sz:=1) (sz':=1) (b:=16) (tok:= .none)) yM) A0 (gS m)<|dP (yx (c:=cS) (l:=t) (e:=9) (sz:=1) (sz':=1) (b:=16) (tok:= .none))<|dS [7]<|dE A1) z)<|bFL (rgL<|ze<|rJ A0)<|rgL<|bcL (fun _=>⟨128,[(1,qp 0)]⟩) (fun _=>⟨[zv.cells a],[]⟩) (fun F o=>lpL (fun k x=>xw n a k x) 0 A1 (fun x=>⟨128,[(1,qp 0),(4,qi x)]⟩) (fun x=>⟨[zv.cells a],[]⟩) fun k w=>by rw [xw]; exact rCL (kPL 3 (yx (c:=zb.cells) (l:=a.ym) (e:=85) (sz:=3) (sz':=3) (b:=48) (tok:= .none)) edL)<|bFL (zj<|bEL fun L s=>bEL fun I p=>rCL (kPL 3 (zI (c:=zb.cells) (e:=85) (sz:=3) (b:=48) (tok:= .none) s)<|kCL 5 A0 (qc p) edL)<|rgL<|bFL (rgL<|ze<|zD<|zN<|hvL o<|zC<|rJ A0)<|zk<|yJ zz fun h=>⟨wrap .i64 (w+1),h,wk A1⟩)<|zE<|zA<|zx<|jCL A1) fun N=>rgL<|bcL (fun _=>⟨128,[]⟩) (fun _=>⟨[],[]⟩) (fun o104 hr105=>lpL (fun k x=>xo n a k x) 0 A1 (fun x=>⟨128,[(1,qp 0),(6,qi x)]⟩) (fun x=>⟨[zv.cells a],[]⟩) fun k v114=>by rw [xo]; exact rCL (kPL 3 (yx (c:=zg.cells) (l:=a.zy) (e:=38) (sz:=4) (sz':=4) (b:=64) (tok:= .none)) edL)<|bFL (zj<|bEL fun x127 hx127=>bEL fun r128 hr128=>rCL (kPL 3 (zI (c:=zg.cells) (e:=38) (sz:=4) (b:=64) (tok:= .none) hx127)<|kCL 5 A0 (qf hr128) edL)<|rgL<|bFL (rgL<|ze<|zD<|zN<|hvL hr105<|zC<|rJ A0)<|bEL fun x129 hx129=>bEL fun r130 hr130=>rCL (kPL 3 (zI (c:=zg.cells) (e:=38) (sz:=4) (b:=64) (tok:= .none) hx129)<|kCL 6 A0 (ko hr130) edL)<|rgL<|bFL (rgL<|ze<|zD<|zN<|hvL hr105<|zC<|rJ A0)<|zk<|yJ zz fun h=>⟨wrap .i64 (v114+1),h,wk A1⟩)<|zE<|zA<|zx<|jCL A0) fun y103=>rgL<|ze<|rJ J
def uX (n:Nat)(b:An):Nat->Int->Int->Option (Ctl Int Int)
 |0,_,_=>none
 | k+1,c,a=>
  if(decide (a<(b.length:Int)))=true then(((xE b a).bind fun e=>
  if(decide (e<48))=true then(some true)else((xE b a).bind fun f=>
  some (decide (f>57)))).bind fun h=>
  if h=true then(some (.ret (-1)))else((xE b a).bind fun g=>
  uX n b k (wrap .i64 ((wrap .i64 ((10:Int)*c))+(wrap .i64 (wrap .u8 (g-48))))) (wrap .i64 (a+1))))else(some (.nxt c))
def bo (n:Nat)(a:An):Option Int:=
 (if(a==([]:An))=true then(some true)else(if(decide ((a.length:Int)>10))=true then(some true)else((xE a 0).bind fun c=>
 if(c==48)=true then(some (decide ((a.length:Int)>1)))else(some false)))).bind fun e=>
 if e=true then(some (-1))else(xb (uX n a n 0 0) (fun r=>some r) (fun b=>
 if(decide (b>2147483647))=true then(some (-1))else(some b)))
def U6 {n:Nat} {b:An} {r:Int}:bo n b=some r->AC mx 121 [qs b] [] (qi r) []:=by
 delta bo
 exact fnL Tryz.func121 rfl<|rgL<|bEL fun v l=>rgF l ⟨49,[(0,qs b),(21,qb v)]⟩ ⟨[],[]⟩ (gFL 3 7 (eJ J)<|gFL 8 12 (eJ J)<|bEL fun w m=>kPL 9 (yo m)<|gFL 12 16 (eJ J)<|eJ J)<|bFL (rgL<|ze<|rJ J)<|rgL<|rgL<|bcL (fun a=>⟨49,[(3,qi a)]⟩) (fun a=>⟨[],[]⟩) (fun q c=>lpL (fun k x=>uX n b k x.1 x.2) (0,0) J (fun x=>⟨49,[(0,qs b),(3,qi x.1),(4,qi x.2)]⟩) (fun x=>⟨[],[]⟩) fun k x=>by obtain⟨i,j⟩:=x; rw [uX]; exact rgL<|bFL (zj<|bEL fun p l=>rgF l ⟨49,[(0,qs b),(3,qi i),(4,qi j),(37,qb p)]⟩ ⟨[],[]⟩ (bEL fun s e=>kPL 2 (yo e)<|gFL 5 32 (eJ J)<|bEL fun t f=>kPL 7 (yo f)<|eJ J)<|bFL (rgL<|ze<|zD<|zN<|hvL c<|zC<|rJ J)<|bEL fun o g=>vM zO (kPL 4 (yo g) edL)<|zk<|yJ zz fun h=>⟨(wrap .i64 ((wrap .i64 ((10:Int)*i))+(wrap .i64 (wrap .u8 (o-48)))),wrap .i64 (j+1)),h,wk J⟩)<|zE<|zA<|zx<|jCL J) fun a=>rgL<|bFL (rgL<|ze<|rJ J)<|rgL<|ze<|rJ J
def qV (n:Nat)(a b:Int):Option Bool:=
 (if(decide (a<=1))=true then(if(decide (b<=39))=true then(some true)else(some (a==2)))else(some (a==2))).bind fun c=>
 some c
def Ug {n:Nat} {a:Int} {b:Int} {r:Bool}:qV n a b=some r->AC mx 122 [qi a,qi b] [] (qb r) []:=by
 delta qV
 exact fnL Tryz.func122 rfl<|rgL<|bEL fun e c=>rgF c ⟨15,[(4,qb e)]⟩ ⟨[],[]⟩ (gFL 3 7 (gFL 7 11 (eJ J)<|eJ J)<|eJ J)<|ze<|rJ J
end Go.Abs
end
section
set_option maxRecDepth 100000
set_option maxHeartbeats 0
namespace Go.Abs
open Go Go.Proofs IntKind
variable {mx:Nat->List V} [MxOk mx]
def wg (n:Nat)(f:An)(m:Int)(g:An)(o:Int)(p:Nat):Nat->An->Int->(List An)->Option (An×Int×(List An))
 |0,_,_,_=>none
 | k+1,a,b,e=>
  if(decide (b<(wrap .i64 ((if(wrap .i64 ((f.length:Int)+1))<m then wrap .i64 ((f.length:Int)+1)else m)-1))))=true then((qO n a g).bind fun c=>
  if(decide (c<0))=true then(some (a,b,e))else((ssl a 0 (wrap .i64 (c+o))).bind fun h=>
  (jo p b).bind fun i=>
  (pI e (i*1) h).bind fun j=>
  (ssl a (wrap .i64 (c+(g.length:Int))) (a.length)).bind fun l=>
  wg n f m g o p k l (wrap .i64 (b+1)) j))else(some (a,b,e))
def ug (n:Nat)(b f:An)(l g:Int):Option (List An):=
 if(g==0)=true then(some ([]:List An))else(if(f==([]:An))=true then(none)else((if(decide (g<0))=true then((YX n b f).bind fun m=>
 some (wrap .i64 (m+1)))else(some g)).bind fun c=>
 (WQ 16 (if(wrap .i64 ((b.length:Int)+1))<c then wrap .i64 ((b.length:Int)+1)else c) (if(wrap .i64 ((b.length:Int)+1))<c then wrap .i64 ((b.length:Int)+1)else c)).bind fun e=>
 (wg n b c f l e n b 0 (List.replicate e (([]:An):An))).bind fun a=>
 (jo e a.2.1).bind fun h=>
 (pI a.2.2 (h*1) a.1).bind fun i=>
 (osl e (wrap .i64 (a.2.1+1))).bind fun j=>
 (Wf j i).bind fun k=>
 some k))
def pg {n:Nat} {f:An} {i:An} {j:Int} {Q:Int} {r:(List An)}:ug n f i j Q=some r->AC mx 185 [qs f,qs i,qi j,qi Q] [] (ql 1 cS r) []:=by
 delta ug
 exact fnL Tryz.func185 rfl<|rgL<|rgL<|bFL (rgL<|ze<|rJ J)<|rgL<|bFL nEL<|rgL<|cuL (fun g=>⟨66,[(0,qs f),(1,qs i),(2,qi j),(3,qi g)]⟩) (fun g=>⟨[],[]⟩) (fun g=>bFL (bEL fun X C=>vM zz (kCL 2 J (Ga C) edL)<|jnL J)<|jnL J) fun g=>rgL<|bEL fun B E=>rCL (lfL (fun z=>kV 1 0 0 0 (eE (T:=tyT) (e:=9) (k1:= .i64) (k2:= .i64) (bytes:=16) (cell:=none) (c:=vS) uS ([]:An) ⟨O5,O5⟩ E) z) edL)<|rgL<|rgL<|blL (fun a=>⟨66,[(0,qs a.1),(9, .own 0 B 1),(10,qi a.2.1)]⟩) (fun a=>⟨[[.buf (List.map vS a.2.2)]],[]⟩) (fun a=>lpL (fun k x=>wg n f g i j B k x.1 x.2.1 x.2.2) (f,0,List.replicate B (([]:An):An)) A1 (fun x=>⟨66,[(0,qs x.1),(1,qs i),(2,qi j),(3,qi (wrap .i64 ((if(wrap .i64 ((f.length:Int)+1))<g then wrap .i64 ((f.length:Int)+1)else g)-1))),(9, .own 0 B 1),(10,qi x.2.1)]⟩) (fun x=>⟨[[.buf (List.map vS x.2.2)]],[]⟩) fun k x=>by obtain⟨U,F,G⟩:=x; rw [wg]; exact rgL<|bFL (zj<|bEL fun S m=>rCL (kCL 2 A0 (WJ m) edL)<|rgL<|bFL (zE<|qt<|zA<|zx<|jnL A1)<|bEL fun H o=>bEL fun I p=>bEL fun K q=>rCL (kPL 6 (jE (k:= .i64) o)<|kPL 7 (QQ (id:=0) (e:=9) (sz:=1) (b:=16) p)<|lfL (fun z=>kV 8 1 0 0 (q6 (T:=tyT) (t:=9) (c:=vS) (l:=G) (off:=(I*1)) (x:=H) uS O5 q) z) edL)<|bEL fun L s=>rCL (kPL 5 (jz (k:= .i64) s) edL)<|yJ (kq (P:=Tryz.prog) (gl:=gl0 mx) zz)<|zk fun h=>⟨(L,wrap .i64 (F+1),K),h,wk A1⟩)<|zE<|zA<|zx<|jnL A1) fun a=>bEL fun M v=>bEL fun N w=>rCL (kPL 3 (QQ (id:=0) (e:=9) (sz:=1) (b:=16) v)<|lfL (fun z=>kV 4 1 0 0 (q6 (T:=tyT) (t:=9) (c:=vS) (l:=a.2.2) (off:=(M*1)) (x:=a.1) uS O5 w) z) edL)<|bEL fun O y=>rCL (kPL 3 (oF (id:=0) (k:= .i64) (e:=9) (sz:=1) (b:=16) y) edL)<|bEL fun W A=>ud (Wk.frz (c:=vS) (l:=N) 8 0 O A O5)<|ze<|rJ A0
def vJ (n:Nat)(a b:An):Option (List An):=
 (ug n a b 0 (-1)).bind fun c=>
 some c
def kK {n:Nat} {b:An} {c:An} {r:(List An)}:vJ n b c=some r->AC mx 120 [qs b,qs c] [] (ql 1 cS r) []:=by
 delta vJ
 exact fnL Tryz.func120 rfl<|rgL<|bEL fun e a=>rCL (kCL 2 J (pg a) edL)<|ze<|rJ J
def vL (n:Nat)(e:List An):Nat->(List Int)->Int->Option (Ctl (Option (List Int)) (List Int))
 |0,_,_=>none
 | k+1,c,a=>
  if(decide (a<(e.length:Int)))=true then((yj e a).bind fun f=>
  (bo n f).bind fun b=>
  if(decide (b<0))=true then(some (.ret none))else((vF 8 c ([b]:List Int)).bind fun g=>
  vL n e k g (wrap .i64 (a+1))))else(some (.nxt c))
def qZ (n:Nat)(g:An):Option (Option (List Int)):=
 (vJ n g ([46]:An)).bind fun b=>
 (if(decide ((b.length:Int)<2))=true then(some true)else(some (decide ((b.length:Int)>12)))).bind fun i=>
 if i=true then(some none)else(xb (vL n b n ([]:List Int) 0) (fun r=>some r) (fun a=>
 (yj a 0).bind fun e=>
 (yj a 1).bind fun f=>
 (qV n e f).bind fun c=>
 if(!c)=true then(some none)else((lne a).bind fun h=>
 some (some a))))
def UT {n:Nat} {y:An} {r:(Option (List Int))}:qZ n y=some r->AC mx 72 [qs y] [] (onl 1 (cI .i64) r) []:=by
 delta qZ
 exact fnL Tryz.func72 rfl<|rgL<|bEL fun f s=>rCL (kCL 1 J (kK s) edL)<|bEL fun L B=>rgF B ⟨42,[(3,ql 1 cS f),(17,qb L)]⟩ ⟨[],[]⟩ (kPL 1 (yx (c:=cS) (l:=f) (e:=9) (sz:=1) (sz':=1) (b:=16) (tok:= .none))<|gFL 4 13 (eJ J)<|kPL 5 (yx (c:=cS) (l:=f) (e:=9) (sz:=1) (sz':=1) (b:=16) (tok:= .none))<|eJ J)<|bFL (rgL<|ze<|rJ J)<|rgL<|rCL (kPL 1 (yx (c:=cS) (l:=f) (e:=9) (sz:=1) (sz':=1) (b:=16) (tok:= .none)) edL)<|bcL (fun a=>⟨42,[(4, .sl 1 (List.map (cI .i64) a) (.fam 0 (a.length)))]⟩) (fun a=>⟨[],[a.length]⟩) (fun C j=>ud (wk (fr':=⟨42,[(4,qn),(18,ql 1 cS f),(19,qi (f.length:Int)),(20,qi 0)]⟩) (st':=⟨[],[]⟩) J)<|ud Wk.nilFam<|lpL (fun k x=>vL n f k x.1 x.2) (([]:List Int),0) A2 (fun x=>⟨42,[(4, .sl 1 (List.map (cI .i64) x.1) (.fam 0 (x.1.length))),(18,ql 1 cS f),(19,qi (f.length:Int)),(20,qi x.2)]⟩) (fun x=>⟨[],[x.1.length]⟩) fun k x=>by obtain⟨F,v⟩:=x; rw [vL]; exact rgL<|bFL (zj<|bEL fun G p=>rCL (kPL 0 (zI (c:=cS) (e:=9) (sz:=1) (b:=16) (tok:= .none) p) edL)<|bEL fun E m=>rCL (kCL 1 A8 (U6 m) edL)<|rgL<|bFL (rgL<|ze<|zD<|zN<|hvL j<|zC<|rJ A8)<|bEL fun w q=>vM zO (lfL (fun z=>kA 3 0 (cI .i64) (e:=3) (e2:=3) (sz:=1) (bytes:=8) (b2:=8) (tok2:= .exact) q z) edL)<|zk<|yJ zz fun h=>⟨(w,wrap .i64 (v+1)),h,wk A2⟩)<|zE<|zA<|zx<|jCL A2) fun a=>bEL fun H g=>bEL fun I i=>bEL fun t o=>lfL (fun z=>zs [0,1,2,3,4,5,6,7] [6] [[],[0],[0,1],[],[3],[3,4],[0,1,2,3,4,5],[0,1,2,3,4,5,6]] [4] [(40,qb (!t))] (dS [0]<|dP (zI (c:=(cI .i64)) (e:=3) (sz:=1) (b:=8) (tok:=(.fam 0 (a.length))) g)<|dS [2,3]<|dP (zI (c:=(cI .i64)) (e:=3) (sz:=1) (b:=8) (tok:=(.fam 0 (a.length))) i)<|dS [5]<|dC (zK 4 (zI (c:=(cI .i64)) (e:=3) (sz:=1) (b:=8) (tok:=(.fam 0 (a.length))) i) (zK 1 (zI (c:=(cI .i64)) (e:=3) (sz:=1) (b:=8) (tok:=(.fam 0 (a.length))) g) yM)) A8 (Ug o)<|dS [7]<|dE A2) z)<|bFL (rgL<|ze<|rJ A8)<|rgL<|bEL fun K A=>ze<|rJ A8
def uJ (n:Nat)(a:An):Option Bool:=
 ((qZ n a).bind fun c=>
 onE c (some false) (fun b=>(lne b).bind fun f=>
 some true)).bind fun e=>
 some e
def km {n:Nat} {g:An} {r:Bool}:uJ n g=some r->AC mx 32 [qs g] [] (qb r) []:=by
 delta uJ
 exact fnL Tryz.func32 rfl<|rgL<|bEL fun k i=>rgF i ⟨6,[(2,qb k)]⟩ ⟨[],[]⟩ (bEL fun j a=>kCL 1 J (UT a) fun h=>by cases j with|none=>exact imA (onN h) (eJ J)|some l=>exact imA (onS h) (bEL fun m f=>kPL 2 (fj (c:=(cI .i64)) (e:=3) (sz:=1) (b:=8) (tok:= .none) f)<|eJ J))<|ze<|rJ J
end Go.Abs
end
section
set_option maxRecDepth 100000
set_option maxHeartbeats 0
namespace Go.Abs
open Go Go.Proofs IntKind
variable {mx:Nat->List V}
def bH (n:Nat)(a:Int):Option Bool:=
 (if(decide (a≥97))=true then(if(decide (a<=122))=true then(some true)else(if(decide (a≥65))=true then(if(decide (a<=90))=true then(some true)else(if(decide (a≥48))=true then(some (decide (a<=57)))else(some false)))else(if(decide (a≥48))=true then(some (decide (a<=57)))else(some false))))else(if(decide (a≥65))=true then(if(decide (a<=90))=true then(some true)else(if(decide (a≥48))=true then(some (decide (a<=57)))else(some false)))else(if(decide (a≥48))=true then(some (decide (a<=57)))else(some false)))).bind fun b=>
 some b
def Y0 {n:Nat} {a:Int} {r:Bool}:bH n a=some r->AC mx 197 [qu a] [] (qb r) []:=by
 delta bH
 exact fnL Tryz.func197 rfl<|rgL<|bEL fun c b=>rgF b ⟨25,[(2,qb c)]⟩ ⟨[],[]⟩ (gFL 3 5 (gFL 7 9 (eJ J)<|gFL 10 12 (gFL 15 17 (eJ J)<|gFL 18 20 (eJ J)<|eJ J)<|gFL 18 20 (eJ J)<|eJ J)<|gFL 10 12 (gFL 15 17 (eJ J)<|gFL 18 20 (eJ J)<|eJ J)<|gFL 18 20 (eJ J)<|eJ J)<|ze<|rJ J
end Go.Abs
end
section
set_option maxRecDepth 100000
set_option maxHeartbeats 0
namespace Go.Abs
open Go Go.Proofs IntKind
variable {mx:Nat->List V} [MxOk mx]
def uT (n:Nat)(a:Int):Option Bool:=
 ((bH n a).bind fun b=>
 if b=true then(some true)else((kT n ([32,39,40,41,43,44,45,46,47,58,61,63]:An) a).bind fun c=>
 some (decide (c≥0)))).bind fun e=>
 some e
def YJ {n:Nat} {c:Int} {r:Bool}:uT n c=some r->AC mx 196 [qu c] [] (qb r) []:=by
 delta uT
 exact fnL Tryz.func196 rfl<|rgL<|bEL fun f e=>rgF e ⟨10,[(2,qb f)]⟩ ⟨[],[]⟩ (bEL fun g a=>kCL 1 J (Y0 a)<|gFL 3 5 (eJ J)<|bEL fun h b=>kCL 4 J (pC b)<|eJ J)<|ze<|rJ J
def un (n:Nat)(b:An):Nat->Int->Option (Ctl Bool Unit)
 |0,_=>none
 | k+1,a=>
  if(decide (a<(b.length:Int)))=true then((xE b a).bind fun e=>
  (uT n e).bind fun c=>
  if(!c)=true then(some (.ret false))else(un n b k (wrap .i64 (a+1))))else(some (.nxt ()))
def gk (n:Nat)(a:An):Option Bool:=
 xb (un n a n 0) (fun r=>some r) (fun b=>
 some true)
def Ui {n:Nat} {e:An} {r:Bool}:gk n e=some r->AC mx 195 [qs e, .func (.func 196) [] []] [] (qb r) []:=by
 delta gk
 exact fnL Tryz.func195 rfl<|rgL<|rgL<|bcL (fun _=>⟨18,[]⟩) (fun _=>⟨[],[]⟩) (fun g a=>lpL (fun k x=>un n e k x) 0 J (fun x=>⟨18,[(0,qs e),(1, .func (.func 196) [] []),(5,qi x)]⟩) (fun x=>⟨[],[]⟩) fun k f=>by rw [un]; exact rgL<|bFL (zj<|bEL fun j c=>bEL fun i b=>rCL (kPL 3 (yo c)<|kCL 4 J (YJ b) edL)<|bFL (rgL<|ze<|zD<|zN<|hvL a<|zC<|rJ J)<|zk<|yJ zz fun h=>⟨wrap .i64 (f+1),h,wk J⟩)<|zE<|zA<|zx<|jCL J) fun l=>rgL<|ze<|rJ J
end Go.Abs
end
section
set_option maxRecDepth 100000
set_option maxHeartbeats 0
namespace Go.Abs
open Go Go.Proofs IntKind
variable {mx:Nat->List V}
def uP (n:Nat)(a:Int):Option Bool:=
 (if(decide (a≥32))=true then(some (decide (a<=126)))else(some false)).bind fun b=>
 some b
def Yh {n:Nat} {a:Int} {r:Bool}:uP n a=some r->AC mx 199 [qu a] [] (qb r) []:=by
 delta uP
 exact fnL Tryz.func199 rfl<|rgL<|bEL fun c b=>rgF b ⟨9,[(2,qb c)]⟩ ⟨[],[]⟩ (gFL 3 5 (eJ J)<|eJ J)<|ze<|rJ J
def vE (n:Nat)(b:An):Nat->Int->Option (Ctl Bool Unit)
 |0,_=>none
 | k+1,a=>
  if(decide (a<(b.length:Int)))=true then((xE b a).bind fun e=>
  (uP n e).bind fun c=>
  if(!c)=true then(some (.ret false))else(vE n b k (wrap .i64 (a+1))))else(some (.nxt ()))
def qC (n:Nat)(a:An):Option Bool:=
 xb (vE n a n 0) (fun r=>some r) (fun b=>
 some true)
def XX {n:Nat} {e:An} {r:Bool}:qC n e=some r->AC mx 195 [qs e, .func (.func 199) [] []] [] (qb r) []:=by
 delta qC
 exact fnL Tryz.func195 rfl<|rgL<|rgL<|bcL (fun _=>⟨18,[]⟩) (fun _=>⟨[],[]⟩) (fun g a=>lpL (fun k x=>vE n e k x) 0 J (fun x=>⟨18,[(0,qs e),(1, .func (.func 199) [] []),(5,qi x)]⟩) (fun x=>⟨[],[]⟩) fun k f=>by rw [vE]; exact rgL<|bFL (zj<|bEL fun j c=>bEL fun i b=>rCL (kPL 3 (yo c)<|kCL 4 J (Yh b) edL)<|bFL (rgL<|ze<|zD<|zN<|hvL a<|zC<|rJ J)<|zk<|yJ zz fun h=>⟨wrap .i64 (f+1),h,wk J⟩)<|zE<|zA<|zx<|jCL J) fun l=>rgL<|ze<|rJ J
def yg (n:Nat)(b a:An):Option Bool:=
 (if(decide ((b.length:Int)≥(a.length:Int)))=true then((ssl b 0 (a.length:Int)).bind fun c=>
 some (c==a))else(some false)).bind fun e=>
 some e
def vz {n:Nat} {b:An} {c:An} {r:Bool}:yg n b c=some r->AC mx 307 [qs b,qs c] [] (qb r) []:=by
 delta yg
 exact fnL Tryz.func307 rfl<|rgL<|bEL fun f e=>rgF e ⟨18,[(4,qb f)]⟩ ⟨[],[]⟩ (gFL 6 10 (bEL fun g a=>kPL 9 (jE (k:= .i64) a)<|eJ J)<|eJ J)<|ze<|rJ J
def ve (n:Nat)(a b:An):Option Bool:=
 (yg n a b).bind fun c=>
 some c
def dr {n:Nat} {b:An} {c:An} {r:Bool}:ve n b c=some r->AC mx 263 [qs b,qs c] [] (qb r) []:=by
 delta ve
 exact fnL Tryz.func263 rfl<|rgL<|bEL fun e a=>rCL (kCL 2 J (vz a) edL)<|ze<|rJ J
def wK (n:Nat)(b:An):Nat->Nat->Option (Ctl Bool Unit)
 |0,_=>none
 | k+1,a=>
  if(Nat.blt a (b.length))=true then((if(decide ((((Yo b a).1:Nat):Int)<32))=true then(some true)else(some ((((Yo b a).1:Nat):Int)==127))).bind fun f=>
  if f=true then(some (.ret false))else((if((((Yo b a).1:Nat):Int)==65533)=true then((ssl b ((a:Nat):Int) (b.length)).bind fun e=>
  (ve n e ([239,191,189]:An)).bind fun c=>
  some (!c))else(some false)).bind fun g=>
  if g=true then(some (.ret false))else(wK n b k (a+(Yo b a).2))))else(some (.nxt ()))
def gi (n:Nat)(a:An):Option Bool:=
 xb (wK n a n 0) (fun r=>some r) (fun b=>
 some true)
def UF {n:Nat} {b:An} {r:Bool}:gi n b=some r->AC mx 194 [qs b] [] (qb r) []:=by
 delta gi
 exact fnL Tryz.func194 rfl<|rgL<|rgL<|bcL (fun _=>⟨26,[]⟩) (fun _=>⟨[],[]⟩) (fun m c=>lpL (fun k x=>wK n b k x) 0 A1 (fun x=>⟨26,[(0,qs b),(6, .iter 0)]⟩) (fun x=>⟨[[.sit b x]],[]⟩) fun k a=>by rw [wK]; exact lfL (fun z=>zbX z)<|kFL (fun i=>lfL (fun z=>kV 0 1 0 0 (nx i) z)<|lfL (fun z=>rc (⟨26,[(0,qs b),(6, .iter 0),(7, .tuple [qb true,qi ((a:Nat):Int), .int .i32 (((Yo b a).1:Nat):Int)]),(8,qb true)]⟩) (⟨[[.sit b (a+(Yo b a).2)]],[]⟩) zO (kE A1) z)<|bTL<|zj<|rgL<|bEL fun j g=>rgF g ⟨26,[(0,qs b),(3,qi ((a:Nat):Int)),(4, .int .i32 (((Yo b a).1:Nat):Int)),(6, .iter 0),(16,qb j)]⟩ ⟨[[.sit b (a+(Yo b a).2)]],[]⟩ (gFL 3 13 (eJ A1)<|eJ A1)<|bFL (rgL<|ze<|zD<|zN<|hvL c<|zC<|rJ A0)<|bEL fun l g=>rgF g ⟨26,[(0,qs b),(6, .iter 0),(25,qb l)]⟩ ⟨[[.sit b (a+(Yo b a).2)]],[]⟩ (gFL 3 19 (bEL fun p f=>bEL fun o e=>kPL 5 (jz (k:= .i64) f)<|kCL 6 A0 (dr e)<|eJ A1)<|eJ A1)<|bFL (rgL<|ze<|zD<|zN<|hvL c<|zC<|rJ A0)<|zk fun h=>⟨a+(Yo b a).2,h,wk A1⟩) fun i=>lfL (fun z=>kV 0 1 0 0 (nY i) z)<|lfL (fun z=>rc (⟨26,[(0,qs b),(6, .iter 0),(7, .tuple [qb false]),(8,qb false)]⟩) (⟨[[.sit b a]],[]⟩) zO (kE A1) z)<|bNL<|zE<|zA<|zx<|jCL A0) fun q=>rgL<|ze<|rJ J
end Go.Abs
end
section
set_option maxRecDepth 100000
set_option maxHeartbeats 0
namespace Go.Abs
open Go Go.Proofs IntKind
variable {mx:Nat->List V} [MxOk mx]
def jA (n:Nat)(a:Int)(b:An):Option Bool:=
 if(a==12)=true then((gi n b).bind fun c=>
 some c)else(if(a==19)=true then((gk n b).bind fun e=>
 some e)else(if(a==22)=true then((qC n b).bind fun f=>
 some f)else(some false)))
def Wi {n:Nat} {e:Int} {f:An} {r:Bool}:jA n e f=some r->AC mx 129 [qi e,qs f] [] (qb r) []:=by
 delta jA
 exact fnL Tryz.func129 rfl<|rgL<|rgL<|zj<|rgL<|bFL (bEL fun g a=>rCL (kCL 1 J (UF a) edL)<|ze<|zD<|rJ J)<|rgL<|bFL (bEL fun h b=>rCL (kCL 1 J (Ui b) edL)<|ze<|zD<|rJ J)<|rgL<|bFL (bEL fun i c=>rCL (kCL 1 J (XX c) edL)<|ze<|zD<|rJ J)<|zk<|rgL<|ze<|rJ J
def xq (n:Nat)(x402:List za)(x397:za):Nat->Int->Option (Ctl Int Unit)
 |0,_=>none
 | k+1,v415=>
  if(decide (v415<(x402.length:Int)))=true then((yj x402 v415).bind fun x419=>
  if(x419.wh==x397.wh)=true then(some (.ret 10))else(xq n x402 x397 k (wrap .i64 (v415+1))))else(some (.nxt ()))
def yH (n:Nat)(a:List za):Nat->Int->Option (Ctl Int Unit)
 |0,_=>none
 | k+1,v281=>
  if(decide (v281<(a.length:Int)))=true then((yj a v281).bind fun x397=>
  (uJ n x397.wh).bind fun r398=>
  if(!r398)=true then(some (.ret 11))else((if(x397.vk==([]:An))=true then(some true)else((jA n x397.yF x397.vk).bind fun r399=>
  some (!r399))).bind fun y401=>
  if y401=true then(some (.ret 13))else(if(decide ((x397.vk.length:Int)>64))=true then(some (.ret 2))else((lsl a 0 v281).bind fun x402=>
  xb (xq n x402 x397 n 0) (fun r=>some (.ret r)) (fun y410=>
  yH n a k (wrap .i64 (v281+1)))))))else(some (.nxt ()))
def wJ (n:Nat)(a:List za):Option Int:=
 if((a.length:Int)==0)=true then(some 14)else(if(decide ((a.length:Int)>4))=true then(some 2)else(xb (yH n a n 0) (fun r=>some r) (fun y209=>
 some 0)))
def bU {n:Nat} {a:(List za)} {r:Int}:wJ n a=some r->AC mx 75 [ql 3 za.cells a] [] (qi r) []:=by
 delta wJ
 exact fnL Tryz.func75 rfl<|rgL<|rCL (kPL 1 (yx (c:=za.cells) (l:=a) (e:=89) (sz:=3) (sz':=3) (b:=40) (tok:= .none)) edL)<|bFL (rgL<|ze<|rJ J)<|rCL (kPL 1 (yx (c:=za.cells) (l:=a) (e:=89) (sz:=3) (sz':=3) (b:=40) (tok:= .none)) edL)<|bFL (rgL<|ze<|rJ J)<|rCL (kPL 1 (yx (c:=za.cells) (l:=a) (e:=89) (sz:=3) (sz':=3) (b:=40) (tok:= .none)) edL)<|bcL (fun _=>⟨54,[]⟩) (fun _=>⟨[],[]⟩) (fun o210 hr211=>lpL (fun k x=>yH n a k x) 0 J (fun x=>⟨54,[(0,ql 3 za.cells a),(13,ql 3 za.cells a),(14,qi (a.length:Int)),(15,qi x)]⟩) (fun x=>⟨[],[]⟩) fun k v281=>by rw [yH]; exact rgL<|bFL (zj<|bEL fun x397 hx397=>rCL (kPL 1 (zI (c:=za.cells) (e:=89) (sz:=3) (b:=40) (tok:= .none) hx397) edL)<|bEL fun r398 hr398=>rCL (kCL 2 A0 (km hr398) edL)<|bFL (rgL<|ze<|zD<|zN<|hvL hr211<|zC<|rJ A0)<|bEL fun y401 f=>rgF f ⟨54,[(0,ql 3 za.cells a),(3,qi v281),(4,qp 0),(13,ql 3 za.cells a),(14,qi (a.length:Int)),(15,qi v281),(34,qb y401)]⟩ ⟨[za.cells x397],[]⟩ (gFL 4 27 (eJ A1)<|bEL fun r399 hr399=>kCL 8 A0 (Wi hr399)<|eJ A1)<|bFL (rgL<|ze<|zD<|zN<|hvL hr211<|zC<|rJ A0)<|rgL<|bFL (rgL<|ze<|zD<|zN<|hvL hr211<|zC<|rJ A0)<|bEL fun x402 hx402=>rCL (kPL 2 (vw (k:= .i64) (c:=za.cells) (e:=89) (sz:=3) (b:=40) (tok:= .none) hx402)<|kPL 3 (yx (c:=za.cells) (l:=x402) (e:=89) (sz:=3) (sz':=3) (b:=40) (tok:= .none)) edL)<|nM zO (fun _=>⟨54,[(0,ql 3 za.cells a),(13,ql 3 za.cells a),(14,qi (a.length:Int)),(15,qi v281)]⟩) (fun _=>⟨[],[]⟩) (fun o411 hr412=>lpL (fun k x=>xq n x402 x397 k x) 0 A1 (fun x=>⟨54,[(0,ql 3 za.cells a),(4,qp 0),(13,ql 3 za.cells a),(14,qi (a.length:Int)),(15,qi v281),(41,ql 3 za.cells x402),(42,qi (x402.length:Int)),(43,qi x)]⟩) (fun x=>⟨[za.cells x397],[]⟩) fun k v415=>by rw [xq]; exact rgL<|bFL (zj<|bEL fun x419 hx419=>rCL (kPL 0 (zI (c:=za.cells) (e:=89) (sz:=3) (b:=40) (tok:= .none) hx419) edL)<|rgL<|bFL (rgL<|ze<|zD<|zN<|hvL hr412<|zC<|zD<|zN<|hvL hr211<|zC<|rJ Ab)<|zk<|yJ zz fun h=>⟨wrap .i64 (v415+1),h,wk A4⟩)<|zE<|zA<|zx<|jCL A0) fun y410=>zk<|yJ zz fun h=>⟨wrap .i64 (v281+1),h,wk J⟩)<|zE<|zA<|zx<|jCL J) fun y209=>rgL<|ze<|rJ J
def vi (n:Nat)(c:zJ):Nat->Int->Option (Ctl Int Unit)
 |0,_=>none
 | k+1,a=>
  if(decide (a<(c.zu.length:Int)))=true then((yj c.zu a).bind fun e=>
  (wJ n e).bind fun b=>
  if(b !=0)=true then(some (.ret b))else(vi n c k (wrap .i64 (a+1))))else(some (.nxt ()))
def um (n:Nat)(a:zJ):Option Int:=
 if(decide ((a.zu.length:Int)>8))=true then(some 2)else(xb (vi n a n 0) (fun r=>some r) (fun b=>
 some 0))
def gj {n:Nat} {a:zJ} {r:Int}:um n a=some r->AC mx 34 [.agg [ql 1 (cL 3 za.cells) a.zu]] [] (qi r) []:=by
 delta um
 exact fnL Tryz.func34 rfl<|rgL<|rCL (kPL 2 (yx (c:=(cL 3 za.cells)) (l:=a.zu) (e:=87) (sz:=1) (sz':=1) (b:=24) (tok:= .none)) edL)<|bFL (rgL<|ze<|rJ A0)<|rCL (kPL 2 (yx (c:=(cL 3 za.cells)) (l:=a.zu) (e:=87) (sz:=1) (sz':=1) (b:=24) (tok:= .none)) edL)<|bcL (fun _=>⟨23,[]⟩) (fun _=>⟨[],[]⟩) (fun m f=>lpL (fun k x=>vi n a k x) 0 A0 (fun x=>⟨23,[(11,ql 1 (cL 3 za.cells) a.zu),(12,qi (a.zu.length:Int)),(13,qi x)]⟩) (fun x=>⟨[],[]⟩) fun k j=>by rw [vi]; exact rgL<|bFL (zj<|bEL fun p i=>rCL (kPL 0 (zI (c:=(cL 3 za.cells)) (e:=87) (sz:=1) (b:=24) (tok:= .none) i) edL)<|bEL fun o g=>rCL (kCL 1 J (bU g) edL)<|rgL<|bFL (rgL<|ze<|zD<|zN<|hvL f<|zC<|rJ J)<|zk<|yJ zz fun h=>⟨wrap .i64 (j+1),h,wk J⟩)<|zE<|zA<|zx<|jCL J) fun q=>rgL<|ze<|rJ J
end Go.Abs
end
section
set_option maxRecDepth 100000
set_option maxHeartbeats 0
namespace Go.Abs
open Go Go.Proofs IntKind
variable {mx:Nat->List V}
def uR (n:Nat)(a:An):Option Bool:=
 (if((a.length:Int)==4)=true then(some true)else(some ((a.length:Int)==16))).bind fun b=>
 some b
def Ym {n:Nat} {a:An} {r:Bool}:uR n a=some r->AC mx 128 [qs a] [] (qb r) []:=by
 delta uR
 exact fnL Tryz.func128 rfl<|rgL<|bEL fun c b=>rgF b ⟨11,[(2,qb c)]⟩ ⟨[],[]⟩ (gFL 4 6 (eJ J)<|eJ J)<|ze<|rJ J
def u1 (n:Nat)(a:Int):Option Bool:=
 (if(decide (a≥48))=true then(some (decide (a<=57)))else(some false)).bind fun b=>
 some b
def dk {n:Nat} {a:Int} {r:Bool}:u1 n a=some r->AC mx 261 [qu a] [] (qb r) []:=by
 delta u1
 exact fnL Tryz.func261 rfl<|rgL<|bEL fun c b=>rgF b ⟨9,[(2,qb c)]⟩ ⟨[],[]⟩ (gFL 3 5 (eJ J)<|eJ J)<|ze<|rJ J
def ui (n:Nat)(a:Int):Option Bool:=
 (if(decide (a≥97))=true then(if(decide (a<=122))=true then(some true)else(if(decide (a≥65))=true then(some (decide (a<=90)))else(some false)))else(if(decide (a≥65))=true then(some (decide (a<=90)))else(some false))).bind fun b=>
 some b
def gA {n:Nat} {a:Int} {r:Bool}:ui n a=some r->AC mx 260 [qu a] [] (qb r) []:=by
 delta ui
 exact fnL Tryz.func260 rfl<|rgL<|bEL fun c b=>rgF b ⟨17,[(2,qb c)]⟩ ⟨[],[]⟩ (gFL 3 5 (gFL 7 9 (eJ J)<|gFL 10 12 (eJ J)<|eJ J)<|gFL 10 12 (eJ J)<|eJ J)<|ze<|rJ J
def vH (n:Nat)(c:An):Nat->Int->Option (Ctl Bool Unit)
 |0,_=>none
 | k+1,a=>
  if(decide (a<(List.length (s2b c):Int)))=true then((yj (s2b c) a).bind fun b=>
  ((ui n b).bind fun e=>
  if(!e)=true then((u1 n b).bind fun f=>
  if(!f)=true then(some (b !=45))else(some false))else(some false)).bind fun g=>
  if g=true then(some (.ret false))else(vH n c k (wrap .i64 (a+1))))else(some (.nxt ()))
def jy (n:Nat)(a:An):Option Bool:=
 (if(decide ((a.length:Int)<1))=true then(some true)else(if(decide ((a.length:Int)>63))=true then(some true)else((xE a 0).bind fun b=>
 if(b==45)=true then(some true)else((xE a (wrap .i64 ((a.length:Int)-1))).bind fun c=>
 some (c==45))))).bind fun f=>
 if f=true then(some false)else(xb (vH n a n 0) (fun r=>some r) (fun e=>
 some true))
def X1 {n:Nat} {a:An} {r:Bool}:jy n a=some r->AC mx 257 [qs a] [] (qb r) []:=by
 delta jy
 exact fnL Tryz.func257 rfl<|rgL<|bEL fun B o=>rgF o ⟨46,[(0,qs a),(25,qb B)]⟩ ⟨[],[]⟩ (gFL 4 8 (eJ J)<|gFL 9 13 (eJ J)<|bEL fun C p=>kPL 10 (yo p)<|gFL 14 18 (eJ J)<|bEL fun E q=>kPL 18 (yo q)<|eJ J)<|bFL (rgL<|ze<|rJ J)<|rCL (lfL (fun z=>kS 1 a z)<|kPL 2 (yx (c:=(cI .u8)) (l:=s2b a) (e:=5) (sz:=1) (sz':=1) (b:=1) (tok:= .none)) edL)<|bcL (fun _=>⟨46,[]⟩) (fun _=>⟨[],[]⟩) (fun t f=>lpL (fun k x=>vH n a k x) 0 J (fun x=>⟨46,[(27,ql 1 (cI .u8) (s2b a)),(28,qi (List.length (s2b a):Int)),(29,qi x)]⟩) (fun x=>⟨[],[]⟩) fun k m=>by rw [vH]; exact rgL<|bFL (zj<|bEL fun y j=>rCL (kPL 0 (zI (c:=(cI .u8)) (e:=5) (sz:=1) (b:=1) (tok:= .none) j) edL)<|bEL fun s o=>rgF o ⟨46,[(27,ql 1 (cI .u8) (s2b a)),(28,qi (List.length (s2b a):Int)),(29,qi m),(44,qb s)]⟩ ⟨[],[]⟩ (bEL fun v g=>kCL 1 J (gA g)<|gFL 4 36 (bEL fun w i=>kCL 5 J (dk i)<|gFL 9 41 (eJ J)<|eJ J)<|eJ J)<|bFL (rgL<|ze<|zD<|zN<|hvL f<|zC<|rJ J)<|zk<|yJ zz fun h=>⟨wrap .i64 (m+1),h,wk J⟩)<|zE<|zA<|zx<|jCL J) fun A=>rgL<|ze<|rJ J
end Go.Abs
end
section
set_option maxRecDepth 100000
set_option maxHeartbeats 0
namespace Go.Abs
open Go Go.Proofs IntKind
variable {mx:Nat->List V} [MxOk mx]
def uh (n:Nat)(b:List An):Nat->Int->Option (Ctl Bool Unit)
 |0,_=>none
 | k+1,a=>
  if(decide (a<(b.length:Int)))=true then((yj b a).bind fun e=>
  (jy n e).bind fun c=>
  if(!c)=true then(some (.ret false))else(uh n b k (wrap .i64 (a+1))))else(some (.nxt ()))
def ja (n:Nat)(a:An):Option Bool:=
 if(decide ((a.length:Int)>128))=true then(some false)else((vJ n a ([46]:An)).bind fun b=>
 xb (uh n b n 0) (fun r=>some r) (fun c=>
 some true))
def bq {n:Nat} {o:An} {r:Bool}:ja n o=some r->AC mx 186 [qs o] [] (qb r) []:=by
 delta ja
 exact fnL Tryz.func186 rfl<|rgL<|rgL<|bFL (rgL<|ze<|rJ J)<|bEL fun i j=>rCL (kCL 1 J (kK j)<|kPL 2 (yx (c:=cS) (l:=i) (e:=9) (sz:=1) (sz':=1) (b:=16) (tok:= .none)) edL)<|bcL (fun _=>⟨19,[]⟩) (fun _=>⟨[],[]⟩) (fun p a=>lpL (fun k x=>uh n i k x) 0 J (fun x=>⟨19,[(9,ql 1 cS i),(10,qi (i.length:Int)),(11,qi x)]⟩) (fun x=>⟨[],[]⟩) fun k m=>by rw [uh]; exact rgL<|bFL (zj<|bEL fun s g=>rCL (kPL 0 (zI (c:=cS) (e:=9) (sz:=1) (b:=16) (tok:= .none) g) edL)<|bEL fun q f=>rCL (kCL 1 J (X1 f) edL)<|bFL (rgL<|ze<|zD<|zN<|hvL a<|zC<|rJ J)<|zk<|yJ zz fun h=>⟨wrap .i64 (m+1),h,wk J⟩)<|zE<|zA<|zx<|jCL J) fun t=>rgL<|ze<|rJ J
def xf (n:Nat)(a b:An):Option Bool:=
 (qO n a b).bind fun c=>
 some (decide (c≥0))
def qa {n:Nat} {b:An} {c:An} {r:Bool}:xf n b c=some r->AC mx 191 [qs b,qs c] [] (qb r) []:=by
 delta xf
 exact fnL Tryz.func191 rfl<|rgL<|bEL fun e a=>rCL (kCL 2 J (WJ a) edL)<|ze<|rJ J
def vD (n:Nat)(a:An):Nat->Int->Option (Ctl Bool Unit)
 |0,_=>none
 | k+1,v114=>
  if(decide (v114<(List.length (s2b a):Int)))=true then((yj (s2b a) v114).bind fun x154=>
  ((ui n x154).bind fun r164=>
  if r164=true then(some true)else((u1 n x154).bind fun r165=>
  if r165=true then(some true)else((kT n ([33,35,36,37,38,39,42,43,45,47,61,63,94,95,96,123,124,125,126,46]:An) x154).bind fun r166=>
  some (decide (r166≥0))))).bind fun y162=>
  if(!y162)=true then(some (.ret false))else(vD n a k (wrap .i64 (v114+1))))else(some (.nxt ()))
def jF (n:Nat)(a:An):Option Bool:=
 (if(decide ((a.length:Int)<1))=true then(some true)else(if(decide ((a.length:Int)>64))=true then(some true)else((xE a 0).bind fun c=>
 if(c==46)=true then(some true)else((xE a (wrap .i64 ((a.length:Int)-1))).bind fun e=>
 if(e==46)=true then(some true)else((xf n a ([46,46]:An)).bind fun b=>
 some b))))).bind fun f=>
 if f=true then(some false)else(xb (vD n a n 0) (fun r=>some r) (fun g=>
 some true))
def Wm {n:Nat} {a:An} {r:Bool}:jF n a=some r->AC mx 189 [qs a] [] (qb r) []:=by
 delta jF
 exact fnL Tryz.func189 rfl<|rgL<|bEL fun p m=>rgF m ⟨50,[(0,qs a),(30,qb p)]⟩ ⟨[],[]⟩ (gFL 4 9 (eJ J)<|gFL 9 14 (eJ J)<|bEL fun t i=>kPL 10 (yo i)<|gFL 14 19 (eJ J)<|bEL fun v j=>kPL 18 (yo j)<|gFL 22 27 (eJ J)<|bEL fun s g=>kCL 23 J (qa g)<|eJ J)<|bFL (rgL<|ze<|rJ J)<|rCL (lfL (fun z=>kS 1 a z)<|kPL 2 (yx (c:=(cI .u8)) (l:=s2b a) (e:=5) (sz:=1) (sz':=1) (b:=1) (tok:= .none)) edL)<|bcL (fun _=>⟨50,[]⟩) (fun _=>⟨[],[]⟩) (fun o f=>lpL (fun k x=>vD n a k x) 0 J (fun x=>⟨50,[(32,ql 1 (cI .u8) (s2b a)),(33,qi (List.length (s2b a):Int)),(34,qi x)]⟩) (fun x=>⟨[],[]⟩) fun k v114=>by rw [vD]; exact rgL<|bFL (zj<|bEL fun x154 hx154=>rCL (kPL 0 (zI (c:=(cI .u8)) (e:=5) (sz:=1) (b:=1) (tok:= .none) hx154) edL)<|rgL<|blL (fun y162=>⟨50,[(5,qb y162),(32,ql 1 (cI .u8) (s2b a)),(33,qi (List.length (s2b a):Int)),(34,qi v114)]⟩) (fun y162=>⟨[],[]⟩) (fun y162=>zj<|zj<|zj<|bEL fun r164 hr164=>rCL (kCL 1 J (gA hr164) edL)<|bFL (zE<|pU<|zk<|rgL<|zE<|qt<|zx<|jnL J)<|bEL fun r165 hr165=>rCL (kCL 1 J (dk hr165) edL)<|bFL (zE<|qt<|pU<|rgL<|zE<|qt<|zx<|jnL J)<|zE<|qt<|qt<|pU<|bEL fun r166 hr166=>rCL (kCL 1 J (pC hr166) edL)<|zE<|zx<|jnL J) fun y162=>rgL<|bFL (rgL<|ze<|zD<|zN<|hvL f<|zC<|rJ J)<|zk<|yJ zz fun h=>⟨wrap .i64 (v114+1),h,wk J⟩)<|zE<|zA<|zx<|jCL J) fun q=>rgL<|ze<|rJ J
def wB (n:Nat)(a c:An):Option (An×An×Bool):=
 (Zz n a c).bind fun b=>
 if(decide (b≥0))=true then((ssl a 0 b).bind fun e=>
 (ssl a (wrap .i64 (b+(c.length:Int))) (a.length)).bind fun f=>
 some (e,f,true))else(some (a,([]:An),false))
def qk {n:Nat} {e:An} {f:An} {r:(An×An×Bool)}:wB n e f=some r->AC mx 259 [qs e,qs f] [] (.tuple [qs r.1,qs r.2.1,qb r.2.2]) []:=by
 delta wB
 exact fnL Tryz.func259 rfl<|rgL<|bEL fun i a=>rCL (kCL 2 J (Qv a) edL)<|rgL<|bFL (bEL fun g b=>bEL fun h c=>lfL (fun z=>zs [0,1,2,3,4,5,6,7,8,9,10,11] [] [[],[],[0,1],[],[],[],[5],[4,5,6],[3,4,5,6,7],[0,1,2],[0,1,2,3,4,5,6,7,8,9],[0,1,2,3,4,5,6,7,8,9,10]] [] [(4,qs g),(5,qs h),(6,qb true)] (dS [0,1]<|dP (jE (k:= .i64) b)<|dS [3,4,5,6,7]<|dP (jz (k:= .i64) c)<|dS [9,10,11]<|dE J) z)<|ze<|rJ J)<|rgL<|ze<|rJ J
def j8 (n:Nat)(b c:An):Option (An×An×Bool):=
 (wB n b c).bind fun a=>
 some (a.1,a.2.1,a.2.2)
def Xf {n:Nat} {b:An} {c:An} {r:(An×An×Bool)}:j8 n b c=some r->AC mx 188 [qs b,qs c] [] (.tuple [qs r.1,qs r.2.1,qb r.2.2]) []:=by
 delta j8
 exact fnL Tryz.func188 rfl<|rgL<|bEL fun e a=>rCL (kCL 2 J (qk a) edL)<|ze<|rJ J
def j2 (n:Nat)(b:An):Option Bool:=
 (j8 n b ([64]:An)).bind fun a=>
 (if a.2.2=true then(if(decide ((b.length:Int)<=128))=true then((jF n a.1).bind fun c=>
 if c=true then((ja n a.2.1).bind fun e=>
 some e)else(some false))else(some false))else(some false)).bind fun f=>
 some f
def W8 {n:Nat} {e:An} {r:Bool}:j2 n e=some r->AC mx 124 [qs e] [] (qb r) []:=by
 delta j2
 exact fnL Tryz.func124 rfl<|rgL<|bEL fun h a=>rCL (kCL 1 J (Xf a) edL)<|bEL fun g f=>rgF f ⟨26,[(2,qb g)]⟩ ⟨[],[]⟩ (gFL 2 13 (gFL 7 18 (bEL fun i b=>kCL 8 J (Wm b)<|gFL 11 22 (bEL fun j c=>kCL 12 J (bq c)<|eJ J)<|eJ J)<|eJ J)<|eJ J)<|ze<|rJ J
end Go.Abs
end
section
set_option maxRecDepth 100000
set_option maxHeartbeats 0
namespace Go.Abs
open Go Go.Proofs IntKind
variable {mx:Nat->List V}
def xF (n:Nat)(a b:An):Option (An×Bool):=
 (yg n a b).bind fun c=>
 if(!c)=true then(some (a,false))else((ssl a (b.length:Int) (a.length)).bind fun e=>
 some (e,true))
def jx {n:Nat} {c:An} {e:An} {r:(An×Bool)}:xF n c e=some r->AC mx 262 [qs c,qs e] [] (.tuple [qs r.1,qb r.2]) []:=by
 delta xF
 exact fnL Tryz.func262 rfl<|rgL<|bEL fun f a=>rCL (kCL 2 J (vz a) edL)<|bFL (rgL<|ze<|rJ J)<|bEL fun g b=>rCL (kPL 3 (jz (k:= .i64) b) edL)<|ze<|rJ J
def w8 (n:Nat)(b c:An):Option (An×Bool):=
 (xF n b c).bind fun a=>
 some (a.1,a.2)
def dt {n:Nat} {b:An} {c:An} {r:(An×Bool)}:w8 n b c=some r->AC mx 190 [qs b,qs c] [] (.tuple [qs r.1,qb r.2]) []:=by
 delta w8
 exact fnL Tryz.func190 rfl<|rgL<|bEL fun e a=>rCL (kCL 2 J (jx a) edL)<|ze<|rJ J
end Go.Abs
end
section
set_option maxRecDepth 100000
set_option maxHeartbeats 0
namespace Go.Abs
open Go Go.Proofs IntKind
variable {mx:Nat->List V} [MxOk mx]
def uV (n:Nat)(a:An):Option Bool:=
 (w8 n a ([42,46]:An)).bind fun b=>
 if b.2=true then((if(decide ((a.length:Int)<=128))=true then((ja n b.1).bind fun c=>
 if c=true then((xf n b.1 ([46]:An)).bind fun e=>
 some e)else(some false))else(some false)).bind fun g=>
 some g)else((ja n a).bind fun f=>
 some f)
def YG {n:Nat} {f:An} {r:Bool}:uV n f=some r->AC mx 126 [qs f] [] (qb r) []:=by
 delta uV
 exact fnL Tryz.func126 rfl<|rgL<|bEL fun i a=>rCL (kCL 1 J (dt a) edL)<|rgL<|bFL (bEL fun h g=>rgF g ⟨24,[(2,qb h)]⟩ ⟨[],[]⟩ (gFL 4 14 (bEL fun j b=>kCL 5 J (bq b)<|gFL 8 18 (bEL fun k c=>kCL 9 J (qa c)<|eJ J)<|eJ J)<|eJ J)<|ze<|rJ J)<|bEL fun l e=>rCL (kCL 1 J (bq e) edL)<|ze<|rJ J
def xg (n:Nat)(b:Int)(c:An)(a:Bool):Option Bool:=
 if(b==0)=true then((if a=true then(none)else(if(!a)=true then((j2 n c).bind fun e=>
 some e)else(some false))).bind fun h=>
 some h)else(if(b==1)=true then((if a=true then(none)else(if(!a)=true then((uV n c).bind fun f=>
 some f)else(some false))).bind fun i=>
 some i)else(if(b==3)=true then((if a=true then(none)else(if(!a)=true then((uR n c).bind fun g=>
 some g)else(some false))).bind fun j=>
 some j)else(some false)))
def dQ {n:Nat} {i:Int} {j:An} {k:Bool} {r:Bool}:xg n i j k=some r->AC mx 74 [qi i,qs j,qb k] [] (qb r) []:=by
 delta xg
 exact fnL Tryz.func74 rfl<|rgL<|rgL<|zj<|rgL<|bFL (bEL fun f a=>rgF a ⟨53,[(6,qb f)]⟩ ⟨[],[]⟩ (gFL 2 11 nEL<|gFL 9 18 (bEL fun l b=>kCL 10 J (W8 b)<|eJ J)<|eJ J)<|ze<|zD<|rJ J)<|rgL<|bFL (bEL fun g a=>rgF a ⟨53,[(6,qb g)]⟩ ⟨[],[]⟩ (gFL 2 26 nEL<|gFL 9 33 (bEL fun m c=>kCL 10 J (YG c)<|eJ J)<|eJ J)<|ze<|zD<|rJ J)<|rgL<|bFL (bEL fun h a=>rgF a ⟨53,[(6,qb h)]⟩ ⟨[],[]⟩ (gFL 2 41 nEL<|gFL 9 48 (bEL fun o e=>kCL 10 J (Ym e)<|eJ J)<|eJ J)<|ze<|zD<|rJ J)<|zk<|rgL<|ze<|rJ J
end Go.Abs
end
section
set_option maxRecDepth 100000
set_option maxHeartbeats 0
namespace Go.Abs
open Go Go.Proofs IntKind
variable {mx:Nat->List V}
def gu (n:Nat)(a:Int):Option Int:=
 if(a==1)=true then(some 0)else(if(a==2)=true then(some 1)else(if(a==4)=true then(some 2)else(if(a==7)=true then(some 3)else(some 4))))
def V2 {n:Nat} {a:Int} {r:Int}:gu n a=some r->AC mx 73 [qi a] [] (qi r) []:=by
 delta gu
 exact fnL Tryz.func73 rfl<|rgL<|rgL<|zj<|rgL<|bFL (rgL<|ze<|zD<|rJ J)<|rgL<|bFL (rgL<|ze<|zD<|rJ J)<|rgL<|bFL (rgL<|ze<|zD<|rJ J)<|rgL<|bFL (rgL<|ze<|zD<|rJ J)<|zk<|rgL<|ze<|rJ J
end Go.Abs
end
section
set_option maxRecDepth 100000
set_option maxHeartbeats 0
namespace Go.Abs
open Go Go.Proofs IntKind
variable {mx:Nat->List V} [MxOk mx]
def uo (n:Nat)(a:zb)(c:Bool):Option Int:=
 (gu n a.yF).bind fun b=>
 if(b==4)=true then(some 14)else(if(b==2)=true then(if(!(a.wb==([]:An)))=true then(some 14)else((um n (zJ.mk a.zL.zu)).bind fun e=>
 some e))else((if(decide ((a.zL.zu.length:Int)>0))=true then(some true)else((xg n b a.wb c).bind fun f=>
 some (!f))).bind fun g=>
 if g=true then(some 14)else(some 0)))
def Xt {n:Nat} {a:zb} {i:Bool} {r:Int}:uo n a i=some r->AC mx 33 [.agg (zb.cells a),qb i] [] (qi r) []:=by
 delta uo
 exact fnL Tryz.func33 rfl<|rgL<|bEL fun m f=>rCL (kCL 2 A0 (V2 f) edL)<|rgL<|zj<|rgL<|bFL (rgL<|ze<|zD<|rJ A0)<|rgL<|bFL (rgL<|bFL (rgL<|ze<|zD<|rJ A0)<|bEL fun o g=>rCL (kCL 2 A0 (gj g) edL)<|ze<|zD<|rJ A0)<|bEL fun k j=>rgF j ⟨33,[(22,qb k)]⟩ ⟨[],[]⟩ (kPL 3 (yx (c:=(cL 3 za.cells)) (l:=a.zL.zu) (e:=87) (sz:=1) (sz':=1) (b:=24) (tok:= .none))<|gFL 6 15 (eJ A0)<|bEL fun p h=>kCL 10 A0 (dQ h)<|eJ A0)<|bFL (rgL<|ze<|zD<|rJ J)<|zk<|rgL<|ze<|rJ J
end Go.Abs
end
section
set_option maxRecDepth 100000
set_option maxHeartbeats 0
namespace Go.Abs
open Go Go.Proofs IntKind
variable {mx:Nat->List V}
def v6 (n:Nat)(a:zR):Option Int:=
 (if(decide (a.xd<0))=true then(some true)else(if(decide (a.xd>8))=true then(some true)else(if((a.bC.length:Int) !=16)=true then(some true)else(some ((a.vK.length:Int) !=16))))).bind fun b=>
 if b=true then(some 18)else(some 0)
def Yf {n:Nat} {a:zR} {r:Int}:v6 n a=some r->AC mx 35 [.agg (zR.cells a)] [] (qi r) []:=by
 delta v6
 exact fnL Tryz.func35 rfl<|rgL<|bEL fun c b=>rgF b ⟨23,[(22,qb c)]⟩ ⟨[],[]⟩ (gFL 4 6 (eJ A0)<|gFL 9 11 (eJ A0)<|gFL 15 17 (eJ A0)<|eJ A0)<|bFL (rgL<|ze<|rJ J)<|rgL<|ze<|rJ J
end Go.Abs
end
section
set_option maxRecDepth 100000
set_option maxHeartbeats 0
namespace Go.Abs
open Go Go.Proofs IntKind
variable {mx:Nat->List V} [MxOk mx]
def wz (n:Nat)(e:zv):Nat->Int->(List (An×Bool))->Option (Ctl Int (List (An×Bool)))
 |0,_,_=>none
 | k+1,a,b=>
  if(decide (a<(e.zG.length:Int)))=true then((yj e.zG a).bind fun c=>
  (uJ n c).bind fun f=>
  if(!f)=true then(some (.ret 11))else(wz n e k (wrap .i64 (a+1)) (Yy c true b)))else(some (.nxt b))
def wy (n:Nat)(e:zv):Nat->Int->Option (Ctl Int Unit)
 |0,_=>none
 | k+1,a=>
  if(decide (a<(e.ym.length:Int)))=true then((yj e.ym a).bind fun b=>
  (uo n (zb.mk b.yF b.wb (zJ.mk b.zL.zu)) false).bind fun c=>
  if(c !=0)=true then(some (.ret c))else(wy n e k (wrap .i64 (a+1))))else(some (.nxt ()))
def wA (n:Nat)(a:zv):Nat->Int->Option (Ctl Int Unit)
 |0,_=>none
 | k+1,v108=>
  if(decide (v108<(a.zy.length:Int)))=true then((yj a.zy v108).bind fun x118=>
  (um n (zJ.mk x118.zL.zu)).bind fun r119=>
  if(r119 !=0)=true then(some (.ret r119))else(if((x118.zL.zu.length:Int)==0)=true then(some (.ret 14))else((v6 n (zR.mk x118.xe.xd x118.xe.bC x118.xe.vK)).bind fun r120=>
  if(r120 !=0)=true then(some (.ret r120))else(wA n a k (wrap .i64 (v108+1))))))else(some (.nxt ()))
def vg (n:Nat)(a:zv):Option Int:=
 (if(decide (a.Yv<0))=true then(some true)else(some (decide (a.Yv>254033452799)))).bind fun c=>
 if c=true then(some 12)else((if(!(a.u0==([]:An)))=true then((uJ n a.u0).bind fun b=>
 some (!b))else(some false)).bind fun e=>
 if e=true then(some 11)else((if(decide (a.dK<0))=true then(some true)else(if(decide (a.dK>511))=true then(some true)else(if(decide (a.jj<1))=true then(some true)else(some (decide (a.jj>8)))))).bind fun f=>
 if f=true then(some 1)else((if(decide ((a.zG.length:Int)>8))=true then(some true)else(if(decide ((a.ym.length:Int)>16))=true then(some true)else(some (decide ((a.zy.length:Int)>64))))).bind fun g=>
 if g=true then(some 2)else(xb (wz n a n 0 ([]:List (An×Bool))) (fun r=>some r) (fun h=>
 if(decide ((h.length:Int)<(a.zG.length:Int)))=true then(some 10)else(xb (wy n a n 0) (fun r=>some r) (fun i=>
 xb (wA n a n 0) (fun r=>some r) (fun j=>
 some 0))))))))
def qP {n:Nat} {a:zv} {r:Int}:vg n a=some r->AC mx 14 [.agg (zv.cells a)] [] (qi r) []:=by
 delta vg
 exact fnL Tryz.func14 rfl<|rgL<|zj<|bEL fun A g=>rgF g ⟨126,[(1,qp 0),(13,qb A)]⟩ ⟨[zv.cells a],[]⟩ (gFL 4 17 (eJ A1)<|eJ A1)<|bFL (rgL<|ze<|zD<|rJ A0)<|bEL fun B g=>rgF g ⟨126,[(1,qp 0),(22,qb B)]⟩ ⟨[zv.cells a],[]⟩ (gFL 4 26 (bEL fun H i=>kCL 6 A0 (km i)<|eJ A1)<|eJ A1)<|bFL (rgL<|ze<|zD<|rJ A0)<|bEL fun C g=>rgF g ⟨126,[(1,qp 0),(32,qb C)]⟩ ⟨[zv.cells a],[]⟩ (gFL 4 36 (eJ A1)<|gFL 9 41 (eJ A1)<|gFL 14 46 (eJ A1)<|eJ A1)<|bFL (rgL<|ze<|zD<|rJ A0)<|bEL fun E g=>rgF g ⟨126,[(1,qp 0),(51,qb E)]⟩ ⟨[zv.cells a],[]⟩ (kPL 2 (yx (c:=cS) (l:=a.zG) (e:=9) (sz:=1) (sz':=1) (b:=16) (tok:= .none))<|gFL 5 56 (eJ A1)<|kPL 7 (yx (c:=zb.cells) (l:=a.ym) (e:=85) (sz:=3) (sz':=3) (b:=48) (tok:= .none))<|gFL 11 62 (eJ A1)<|kPL 13 (yx (c:=zg.cells) (l:=a.zy) (e:=38) (sz:=4) (sz':=4) (b:=64) (tok:= .none))<|eJ A1)<|bFL (rgL<|ze<|zD<|rJ A0)<|zk<|rgL<|rCL (kPL 2 (yx (c:=cS) (l:=a.zG) (e:=9) (sz:=1) (sz':=1) (b:=16) (tok:= .none)) edL)<|bcL (fun f=>⟨126,[(1,qp 0),(3, .mapv 1)]⟩) (fun f=>⟨[zv.cells a,[.mp (mpc vB f)]],[]⟩) (fun F j=>lpL (fun k x=>wz n a k x.1 x.2) (0,([]:List (An×Bool))) Ad (fun x=>⟨126,[(1,qp 0),(3, .mapv 1),(70,ql 1 cS a.zG),(71,qi (a.zG.length:Int)),(72,qi x.1)]⟩) (fun x=>⟨[zv.cells a,[.mp (mpc vB x.2)]],[]⟩) fun k x=>by obtain⟨w,t⟩:=x; rw [wz]; exact rgL<|bFL (zj<|bEL fun v q=>rCL (kPL 0 (zI (c:=cS) (e:=9) (sz:=1) (b:=16) (tok:= .none) q) edL)<|bEL fun I m=>rCL (kCL 1 Ab (km m) edL)<|bFL (rgL<|ze<|zD<|zN<|hvL j<|zC<|rJ Ab)<|vM zO (lfL (fun z=>kV 2 2 0 1 (zbU (T:=tyT) (c:=vB) (e:=t) (k:=v) true (kt:=9) (et:=4) O5 (fun _=>rfl)) z) edL)<|zk<|yJ zz fun h=>⟨(wrap .i64 (w+1),Yy v true t),h,wk Ad⟩)<|zE<|zA<|zx<|jCL Ad) fun f=>rCL (kPL 1 (zb3 (c:=vB) (e:=f))<|kPL 4 (yx (c:=cS) (l:=a.zG) (e:=9) (sz:=1) (sz':=1) (b:=16) (tok:= .none)) edL)<|bFL (rgL<|ze<|rJ Ab)<|rCL (kPL 2 (yx (c:=zb.cells) (l:=a.ym) (e:=85) (sz:=3) (sz':=3) (b:=48) (tok:= .none)) edL)<|bcL (fun _=>⟨126,[(1,qp 0)]⟩) (fun _=>⟨[zv.cells a],[]⟩) (fun G o=>lpL (fun k x=>wy n a k x) 0 A4 (fun x=>⟨126,[(1,qp 0),(89,ql 3 zb.cells a.ym),(90,qi (a.ym.length:Int)),(91,qi x)]⟩) (fun x=>⟨[zv.cells a],[]⟩) fun k y=>by rw [wy]; exact rgL<|bFL (zj<|bEL fun L s=>rCL (kPL 0 (zI (c:=zb.cells) (e:=85) (sz:=3) (b:=48) (tok:= .none) s) edL)<|bEL fun K p=>rCL (kCL 1 Ab (Xt p) edL)<|rgL<|bFL (rgL<|ze<|zD<|zN<|hvL o<|zC<|rJ Ab)<|zk<|yJ zz fun h=>⟨wrap .i64 (y+1),h,wk A4⟩)<|zE<|zA<|zx<|jCL A1) fun M=>rCL (kPL 2 (yx (c:=zg.cells) (l:=a.zy) (e:=38) (sz:=4) (sz':=4) (b:=64) (tok:= .none)) edL)<|bcL (fun _=>⟨126,[]⟩) (fun _=>⟨[],[]⟩) (fun o100 hr101=>lpL (fun k x=>wA n a k x) 0 A0 (fun x=>⟨126,[(102,ql 4 zg.cells a.zy),(103,qi (a.zy.length:Int)),(104,qi x)]⟩) (fun x=>⟨[],[]⟩) fun k v108=>by rw [wA]; exact rgL<|bFL (zj<|bEL fun x118 hx118=>rCL (kPL 0 (zI (c:=zg.cells) (e:=38) (sz:=4) (b:=64) (tok:= .none) hx118) edL)<|bEL fun r119 hr119=>rCL (kCL 2 A0 (gj hr119) edL)<|rgL<|bFL (rgL<|ze<|zD<|zN<|hvL hr101<|zC<|rJ A0)<|rCL (kPL 3 (yx (c:=(cL 3 za.cells)) (l:=x118.zL.zu) (e:=87) (sz:=1) (sz':=1) (b:=24) (tok:= .none)) edL)<|bFL (rgL<|ze<|zD<|zN<|hvL hr101<|zC<|rJ A0)<|bEL fun r120 hr120=>rCL (kCL 2 A0 (Yf hr120) edL)<|rgL<|bFL (rgL<|ze<|zD<|zN<|hvL hr101<|zC<|rJ A0)<|zk<|yJ zz fun h=>⟨wrap .i64 (v108+1),h,wk A0⟩)<|zE<|zA<|zx<|jCL J) fun N=>rgL<|ze<|rJ J
noncomputable def zS (n:Nat)(b:zv):Nat->Int->Option (Ctl Bool Unit)
 |0,_=>none
 | k+1,a=>
  if(decide (a<(b.zy.length:Int)))=true then((yj b.zy a).bind fun f=>
  (xy n (zJ.mk f.zL.zu)).bind fun c=>
  if(!c)=true then((Zt n).bind fun e=>
  some (.ret e))else(zS n b k (wrap .i64 (a+1))))else(some (.nxt ()))
noncomputable def yR (n:Nat)(a0:List Int)(a1:zv):Option Bool:=
 (if(decide ((a1.u0.length:Int)>200))=true then(some true)else((vx n a1.zG 12 200).bind fun r1=>
 if(!r1)=true then(some true)else((wd n a1.ym).bind fun r2=>
 if(!r2)=true then(some true)else(some (decide ((a1.zy.length:Int)>5)))))).bind fun y4=>
 if y4=true then((Zt n).bind fun r5=>
 some r5)else(xb (zS n a1 n 0) (fun r=>some r) (fun y25=>
 (ue n a0).bind fun r47=>
 (wM n r47).bind fun r48=>
 ((vg n r48.1).bind fun r49=>
 (wl n r48.1).bind fun r50=>
 if(r49==r50)=true then((vg n a1).bind fun r51=>
 (wl n a1).bind fun r52=>
 if(r51==r52)=true then((Zt n).bind fun r53=>
 some r53)else(some false))else(some false)).bind fun y55=>
 some y55))
def jC {n:Nat} {f:(List Int)} {a:zv} {r:Bool}:yR n f a=some r->AC mx 3 [ql 1 (cI .i64) f, .agg (zv.cells a)] [] (qb r) []:=by
 delta yR
 exact fnL Tryz.func3 rfl<|rgL<|bEL fun U y=>rgF y ⟨64,[(0,ql 1 (cI .i64) f),(3,qp 0),(28,qb U)]⟩ ⟨[zv.cells a],[]⟩ (gFL 5 11 (eJ A1)<|bEL fun W A=>kCL 7 A0 (po A)<|gFL 11 17 (eJ A1)<|bEL fun X B=>kCL 13 A0 (qY B)<|gFL 17 23 (eJ A1)<|kPL 19 (yx (c:=zg.cells) (l:=a.zy) (e:=38) (sz:=4) (sz':=4) (b:=64) (tok:= .none))<|eJ A1)<|bFL (bEL fun Y C=>rCL (kCL 0 A0 (Zo C) edL)<|ze<|rJ A0)<|rgL<|bcL (fun _=>⟨64,[(0,ql 1 (cI .i64) f),(3,qp 0)]⟩) (fun _=>⟨[zv.cells a],[]⟩) (fun G g=>lpL (fun k x=>zS n a k x) 0 A1 (fun x=>⟨64,[(0,ql 1 (cI .i64) f),(3,qp 0),(5,qi x)]⟩) (fun x=>⟨[zv.cells a],[]⟩) fun k E=>by rw [zS]; exact rCL (kPL 3 (yx (c:=zg.cells) (l:=a.zy) (e:=38) (sz:=4) (sz':=4) (b:=64) (tok:= .none)) edL)<|bFL (zj<|bEL fun S w=>bEL fun H i=>rCL (kPL 3 (zI (c:=zg.cells) (e:=38) (sz:=4) (b:=64) (tok:= .none) w)<|kCL 6 A0 (uQ i) edL)<|bFL (bEL fun I j=>rCL (kCL 0 A0 (Zo j) edL)<|ze<|zD<|zN<|hvL g<|zC<|rJ A0)<|zk<|yJ zz fun h=>⟨wrap .i64 (E+1),h,wk A1⟩)<|zE<|zA<|zx<|jCL A1) fun T=>bEL fun K m=>bEL fun L o=>rCL (kCL 1 A0 (dX m)<|kCL 2 ⟨[1],2,[],0⟩ (bX o) edL)<|bEL fun F y=>lfL (fun z=>drw [0,2,1,3,4,5,6,8,7,9,10,11,12,13,14,15] [1,3,7,9,13] [[],[0],[],[0,1,2],[0,1,2,3],[0,1,2,3,4],[0,1,2,3,4,5],[0,1,2,3,4,5,6],[0,1,2,3,4,5],[0,1,2,3,4,5,6,7,8],[0,1,2,3,4,5,6,7,8,9],[0,1,2,3,4,5,6,7,8,9,10],[0,1,2,3,4,5,6,7,8,9,10,11],[0,1,2,3,4,5,6,7,8,9,10,11,12],[0,1,2,3,4,5,6,7,8,9,10,11,12,13],[0,1,2,3,4,5,6,7,8,9,10,11,12,13,14]] ⟨64,[(4,qb F)]⟩ ⟨[],[]⟩ (have h:=y; bE h fun M p h=>bE h fun N q h=>dS [0,2]<|dC yM A5 (qP p)<|dC yM A5 (ju q)<|dS [4,5]<|hF 54 h (fun h=>bE h fun O s h=>bE h fun P t h=>dS [6,8]<|dC yM A5 (qP s)<|dC yM A5 (ju t)<|dS [10,11,12]<|hF 61 h (fun h=>bE h fun Q v h=>dC yM A5 (Zo v)<|dS [14,15]<|by cases h; exact dE A5) fun h=>dF yM<|dS [14,15]<|by cases h; exact dE A5) fun h=>dS [6,8]<|dF yM<|dF yM<|dS [10,11,12]<|dF yM<|dS [14,15]<|by cases h; exact dE A5) z)<|ze<|rJ J
end Go.Abs
end
