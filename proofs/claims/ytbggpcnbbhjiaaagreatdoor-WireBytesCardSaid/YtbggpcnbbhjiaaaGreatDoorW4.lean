/- For each Go function: if its typed Lean form gives some result, the call returns that result (printed by a program of this hand). Condition: the typed form gives some result. -/
import Derived.Test.YtbggpcnbbhjiaaaGreatDoorW3
set_option linter.unusedVariables false
set_option linter.unusedSimpArgs false
set_option linter.unnecessarySimpa false
section
set_option maxRecDepth 100000
set_option maxHeartbeats 0
namespace Go.Abs
open Go Go.Proofs IntKind
variable {mx:Int}
def uU (n:Nat)(a2:List Int):Nat→Int→Cd→Int→Option (Cd×Int)
 |0,_,_,_=>none
 | k+1,a,b,c=>
  if decide (a<(a2.length:Int))then((zV a2 a).bind fun e=>
  (ui n e (zk.mk b c)).bind fun d=>
  uU n a2 k (wrap .i64 (a+1)) d.f_b d.f_e)else(some (b,c))
def dY (n:Nat)(a1:Int)(a2:List Int)(m0:zk):Option zk:=
 (YC n (zk.mk ([]:Cd) 0)).bind fun a=>
 (uU n a2 n 0 a.f_b a.f_e).bind fun b=>
 (yh n ([]:Cd) b.2 m0).bind fun c=>
 (z6 n a1 b.1 c).bind fun d=>
 some d
theorem Uw {n a1 a2 m0 r}:dY n a1 a2 m0=some r→AC mx 89 [qp 0,qi a1,ql 1 (cI .i64) a2, .func (.func 90) [] []] [zk.cells m0] (.tuple []) [zk.cells r]:=
 fnL Tryz.func89 rfl<|rgL<|bC 1 A9 U0 fun b=>cP 1 (bD a2)<|blL (fun a=>⟨33,[(0,qp 0),(1,qi a1),(8,qp 1)]⟩) (fun a=>⟨[zk.cells m0,[qs a.1,qi a.2]],[]⟩) (fun a=>lpL (fun k x=>uU n a2 k x.1 x.2.1 x.2.2) (0,b.f_b,b.f_e) A5 (fun x=>⟨33,[(0,qp 0),(1,qi a1),(8,qp 1),(9, .func (.func 52) [qp 1] []),(14,ql 1 (cI .i64) a2),(15,qi (a2.length)),(16,qi x.1)]⟩) (fun x=>⟨[zk.cells m0,[qs x.2.1,qi x.2.2]],[]⟩) fun k x=>by obtain⟨d,g,i⟩:=x; rw [uU]; exact rgL<|bFL (zp<|bP 0 xY fun j=>bEL fun c e=>wO zS (kCL 2 A9 (qt e) edL)<|zq<|yl zn fun h=>⟨(wrap .i64 (d+1),c.f_b,c.f_e),h,wk A5⟩)<|xjL<|jnL A5) fun a=>bC 3 A8 yY fun l=>bEL fun m f=>wO Zr (kCL 4 A8 (yQ f) edL)<|nJ A8
def uO (n:Nat)(a0:zu):Nat→Bool→Int→Option Bool
 |0,_,_=>none
 | k+1,b,a=>
  if decide (a<(a0.zM.length:Int))then((zV a0.zM a).bind fun c=>
  (if b then((jY n c).bind fun d=>
  some d)else(some false)).bind fun e=>
  uO n a0 k e (wrap .i64 (a+1)))else(some b)
def uK (n:Nat)(a0:zu):Nat→Int→Option (Ctl (Cd×Int) Unit)
 |0,_=>none
 | k+1,a=>
  if decide (a<(a0.zi.ze.length:Int))then((zV a0.zi.ze a).bind fun b=>
  (bM n b).bind fun c=>
  if !c then(some (.ret (([]:Cd),11)))else(uK n a0 k (wrap .i64 (a+1))))else(some (.nxt ()))
def jN (n:Nat)(a0:zu):Option (Cd×Int):=
 (jY n a0.xj).bind fun b=>
 (uO n a0 n b 0).bind fun c=>
 (if !c then(some true)else(if decide (a0.zi.yB<0)then(some true)else(if decide (a0.zi.yB>15)then(some true)else(if decide (a0.zi.zT<0)then(some true)else(some (decide (a0.zi.zT>8))))))).bind fun d=>
 if d then(some (([]:Cd),1))else(if decide ((a0.zM.length:Int)>8)then(some (([]:Cd),2))else(z8 (uK n a0 n 0) (fun r=>some r) (fun l=>
 (ui n a0.xj (zk.mk ([]:Cd) 0)).bind fun e=>
 (dY n 48 a0.zM e).bind fun f=>
 (jz n 10 a0.zi.yB f).bind fun g=>
 (ui n a0.zi.zT g).bind fun i=>
 (ug n 48 a0.zi.ze i).bind fun j=>
 (xE n j).bind fun a=>
 some (a.1,a.2.1))))
theorem ZC {n a0 r}:jN n a0=some r→AC mx 23 [.agg (zu.cells a0)] [] (.tuple [qs r.1,qi r.2]) []:=
 fnL Tryz.func23 rfl<|rgL<|rgL<|bC 3 A2 pw fun d=>cP 2 (bD a0.zM)<|blL (fun a=>⟨93,[(1,qp 0),(5,qb a)]⟩) (fun a=>⟨[zu.cells a0],[]⟩) (fun a=>lpL (fun k x=>uO n a0 k x.1 x.2) (d,0) A3 (fun x=>⟨93,[(1,qp 0),(4, .func (.func 87) [] []),(5,qb x.1),(17,ql 1 (cI .i64) a0.zM),(18,qi (a0.zM.length)),(19,qi x.2)]⟩) (fun x=>⟨[zu.cells a0],[]⟩) fun k x=>by obtain⟨j,b⟩:=x; rw [uO]; exact rgL<|bFL (zp<|bP 0 xY fun l=>bEL fun c hE=>BW hE zS ⟨93,[(1,qp 0),(4, .func (.func 87) [] []),(5,qb c),(17,ql 1 (cI .i64) a0.zM),(18,qi (a0.zM.length)),(19,qi b)]⟩ ⟨[zu.cells a0],[]⟩ (gFL 2 24 (bEL fun m e=>kCL 4 A2 (pw e)<|eJ A3)<|eJ A3)<|zq<|yl zn fun h=>⟨(c,wrap .i64 (b+1)),h,wk A3⟩)<|xjL<|jnL A3) fun a=>rgL<|zp<|bEL fun f hE=>rgF hE ⟨93,[(1,qp 0),(32,qb f)]⟩ ⟨[zu.cells a0],[]⟩ (gFL 3 35 (eJ A8)<|gFL 8 40 (eJ A8)<|gFL 13 45 (eJ A8)<|gFL 18 50 (eJ A8)<|eJ A8)<|bFL (rgL<|yu<|yO<|rJ A2)<|cP 2 (bD a0.zM)<|bFL (rgL<|yu<|yO<|rJ A2)<|zq<|cP 3 (uu a0.zi.ze)<|bcL (fun _=>⟨93,[(1,qp 0)]⟩) (fun _=>⟨[zu.cells a0],[]⟩) (fun o g=>lpL (fun k x=>uK n a0 k x) 0 A3 (fun x=>⟨93,[(1,qp 0),(62,ql 1 cS a0.zi.ze),(63,qi (a0.zi.ze.length)),(64,qi x)]⟩) (fun x=>⟨[zu.cells a0],[]⟩) fun k i=>by rw [uK]; exact rgL<|bFL (zp<|bP 0 vq fun s=>bC 1 A2 pE fun u=>bFL (rgL<|hKL g<|rJ A2)<|zq<|yl zn fun h=>⟨wrap .i64 (i+1),h,wk A3⟩)<|xjL<|jCL A3) fun v=>rgL<|bC 2 A9 qt fun w=>bC 2 A9 Uw fun A=>bC 3 A9 pa fun B=>bC 3 A9 qt fun C=>bC 3 A9 Zk fun D=>bC 0 A9 qK fun E=>rKL A4
def wz (n:Nat):Nat→(List Int)→(List za)→Bool→Option ((List Int)×(List za)×Bool)
 |0,_,_,_=>none
 | k+1,c,a,d=>
  if decide ((a.length:Int)>0)then((xq n 2 (zl.mk a d)).bind fun b=>
  (gL 8 c ([b.1]:List Int)).bind fun e=>
  wz n k e b.2.f_l b.2.z7)else(some (c,a,d))
def jk (n:Nat)(m0:zl):Option (zu×zl):=
 (xq n 2 m0).bind fun c=>
 (yz n c.2).bind fun d=>
 (jl n d.1).bind fun e=>
 (wz n  n ([]:List Int) e.f_l e.z7).bind fun f=>
 (xq n 10 d.2).bind fun g=>
 (xq n 2 g.2).bind fun i=>
 (yz n i.2).bind fun a=>
 (vi n a.1.zc a.2).bind fun b=>
 (if b.2.z7=true then(some true)else(if f.2.2=true then(some true)else(some (a.1.zA !=48)))).bind fun j=>
 some ((zu.mk c.1 f.1 (yX.mk g.1 i.1 b.1)),(zl.mk b.2.f_l j))
theorem WK {n m0 r}:jk n m0=some r→AC mx 95 [qp 0] [zl.cells m0] (.agg (zu.cells r.1)) [zl.cells r.2]:=
 fnL Tryz.func95 rfl<|rgL<|rgL<|bC 1 Ae jb fun b=>bEL fun c j=>bEL fun f l=>rCL (kCL 1 Ae (wa j)<|kCL 2 A7 (qX l) edL)<|blL (fun a=>⟨60,[(0,qp 0),(2,qp 1),(3,qp 2),(4,qp 3)]⟩) (fun a=>⟨[zl.cells c.2,[qi 0,qn,qi 0,qi 0,qn],[qi b.1, .sl 1 (List.map (cI .i64) a.1) (.fam 0 (a.1.length)),qi 0,qi 0,qn],[ql 3 za.cells a.2.1,qb a.2.2]],[a.1.length]⟩) (fun a=>xR (wk (fr':=⟨60,[(0,qp 0),(2,qp 1),(3,qp 2),(4,qp 3)]⟩) (st':=⟨[zl.cells c.2,[qi 0,qn,qi 0,qi 0,qn],[qi b.1,qn,qi 0,qi 0,qn],zl.cells f],[]⟩) ⟨[0,1,2,3],4,[],0⟩)<|xR Wk.nilFam<|lpL (fun k x=>wz n  k x.1 x.2.1 x.2.2) (([]:List Int),f.f_l,f.z7) Al (fun x=>⟨60,[(0,qp 0),(2,qp 1),(3,qp 2),(4,qp 3)]⟩) (fun x=>⟨[zl.cells c.2,[qi 0,qn,qi 0,qi 0,qn],[qi b.1, .sl 1 (List.map (cI .i64) x.1) (.fam 0 (x.1.length)),qi 0,qi 0,qn],[ql 3 za.cells x.2.1,qb x.2.2]],[x.1.length]⟩) fun k x=>by obtain⟨A,m,B⟩:=x; rw [wz]; exact cP 4 (xT m)<|bFL (zp<|bEL fun g o=>bEL fun d s=>lfL (fun z=>zmN (j7 (P:=Tryz.prog) (gl:=gl0 mx) zn) [0,1,2,3,4,5,6,7] [3,5,7] [[],[0],[],[2],[2,3],[0,1,2,3,4],[0,1,2,3,4,5],[0,1,2,3,4,5,6]] [] [(0,qp 0),(2,qp 1),(3,qp 2),(4,qp 3)] ⟨[zl.cells c.2,[qi 0,qn,qi 0,qi 0,qn],[qi b.1, .sl 1 (List.map (cI .i64) d) (.fam 0 (d.length)),qi 0,qi 0,qn],zl.cells g.2],[d.length]⟩ (dS [0,1,2]<|dC yb ⟨[3],4,[],1⟩ (jb o)<|dS [4]<|dA yb 0 (cI .i64) (e:=3) (e2:=3) (sz:=1) (bytes:=8) (b2:=8) (tok2:= .exact) s<|dS [6]<|dF yb<|dE Al) z)<|zq fun h=>⟨(d,g.2.f_l,g.2.z7),h,wk Al⟩)<|xjL<|jnL Al) fun a=>bC 1 Ax jb fun u=>bC 1 Ax jb fun v=>bC 1 Ax wa fun C=>bC 3 ⟨[0],5,[],1⟩ Zv fun i=>bEL fun w hE=>rgF hE ⟨60,[(2,qp 1),(3,qp 2)]⟩ ⟨[[ql 3 za.cells i.2.f_l,qb w],[qi 0,qn,qi 0,qi 0,qn],[qi b.1, .sl 1 (List.map (cI .i64) a.1) (.fam 0 (a.1.length)),qi u.1,qi v.1,ql 1 cS i.1]],[a.1.length]⟩ (gFL 6 46 (eJ C1)<|gFL 12 52 (eJ C1)<|eJ C1)<|rgL<|rKL ⟨[0],3,[],1⟩
def bZ (n:Nat)(a0:Cd):Option (zu×Int):=
 (bW n a0).bind fun c=>
 if c !=0 then(some ((zu.mk 0 ([]:List Int) (yX.mk 0 0 ([]:List Cd))),c))else((gT n a0).bind fun b=>
 if b.2 !=0 then(some ((zu.mk 0 ([]:List Int) (yX.mk 0 0 ([]:List Cd))),b.2))else((jl n b.1).bind fun e=>
 (jk n e).bind fun a=>
 if a.2.z7=true then(some ((zu.mk 0 ([]:List Int) (yX.mk 0 0 ([]:List Cd))),7))else((jN n (zu.mk a.1.xj a.1.zM (yX.mk a.1.zi.yB a.1.zi.zT a.1.zi.ze))).bind fun d=>
 (if d.2 !=0 then(some true)else(some (!(d.1==a0)))).bind fun f=>
 if f then(some ((zu.mk 0 ([]:List Int) (yX.mk 0 0 ([]:List Cd))),7))else(some ((zu.mk a.1.xj a.1.zM (yX.mk a.1.zi.yB a.1.zi.zT a.1.zi.ze)),0)))))
theorem YS {n a0 r}:bZ n a0=some r→AC mx 94 [qs a0, .func (.func 95) [] [], .func (.func 23) [] []] [] (.tuple [.agg (zu.cells r.1),qi r.2]) []:=
 fnL Tryz.func94 rfl<|rgL<|rgL<|bC 1 A4 YB fun c=>rgL<|bFL (rgL<|rKL A4)<|bC 1 A4 dl fun d=>rgL<|bFL (rgL<|rKL A7)<|bC 1 A7 qX fun e=>bC 2 Ap WK fun a=>rgL<|bFL (rgL<|rKL Ag)<|bC 2 Ag ZC fun f=>bEL fun b hE=>rgF hE ⟨56,[(6,qp 0),(8,qp 1),(13,qp 2),(53,qb b)]⟩ ⟨[[qi 0,qn,qi 0,qi 0,qn],[qi 0,qn,qi 0,qi 0,qn],zu.cells a.1],[]⟩ (gFL 3 49 (eJ At)<|eJ At)<|bFL (rgL<|rKL A7)<|rgL<|rKL A7
def uT (n:Nat)(a0:Cd):Option (zu×Int):=
 (bZ n a0).bind fun a=>
 some ((zu.mk a.1.xj a.1.zM (yX.mk a.1.zi.yB a.1.zi.zT a.1.zi.ze)),a.2)
theorem Zx {n a0 r}:uT n a0=some r→AC mx 25 [qs a0] [] (.tuple [.agg (zu.cells r.1),qi r.2]) []:=
 fnL Tryz.func25 rfl<|rgL<|bC 1 A2 YS fun a=>rKL A2
def jA (n:Nat):Option Bool:=
 (yg n (zz.mk 0 ([]:Cd) 0 ([]:List Cd) false false false ([]:List zd) 1 false ([]:List zj))).bind fun a=>
 (uV n a.1).bind fun b=>
 (jX n ([]:List zj)).bind fun c=>
 (jN n (zu.mk 0 ([2]:List Int) (yX.mk 0 0 ([]:List Cd)))).bind fun d=>
 (uT n d.1).bind fun e=>
 (if a.2==0 then(if b.2==0 then(if c.2==0 then(if d.2==0 then(if e.2==0 then(if a.1==([48,18,23,13,53,48,48,49,48,49,48,48,48,48,48,48,90,2,1,1]:Cd)then(if b.1.yj==1 then(if c.1==([48,0]:Cd)then(some ((e.1.zM.length:Int)==1))else(some false))else(some false))else(some false))else(some false))else(some false))else(some false))else(some false))else(some false)).bind fun f=>
 some f
theorem pc {n r}:jA n  =some r→AC mx 11 [] [] (qb r) []:=
 fnL Tryz.func11 rfl<|rgL<|rgL<|bC 1 A2 Zy fun c=>bC 1 A2 ZD fun d=>bC 0 A4 po fun e=>bC 2 A4 ZC fun f=>bC 1 A4 Zx fun a=>bEL fun b hE=>rgF hE ⟨75,[(0,qb b)]⟩ ⟨[],[]⟩ (gFL 3 40 (gFL 7 44 (gFL 11 48 (gFL 15 52 (gFL 19 56 (gFL 23 60 (gFL 28 65 (gFL 32 69 (kPL 34 (bD a.1.zM)<|eJ A7)<|eJ A7)<|eJ A7)<|eJ A7)<|eJ A7)<|eJ A7)<|eJ A7)<|eJ A7)<|eJ A7)<|rKL A1
def vm (n:Nat)(m0:zl):Nat→Cd→Int→Option Cd
 |0,_,_=>none
 | k+1,b,a=>
  if decide (a<(m0.f_l.length:Int))then((zV m0.f_l a).bind fun c=>
  (jw b c.jL).bind fun d=>
  vm n m0 k d (wrap .i64 (a+1)))else(some b)
def qB (n:Nat)(m0:zl):Option ((List zj)×zl):=
 (vm n m0 n ([]:Cd) 0).bind fun b=>
 (wU n b (zl.mk ([]:List za) m0.z7)).bind fun a=>
 some (a.1,a.2)
theorem Xr {n m0 r}:qB n m0=some r→AC mx 106 [qp 0] [zl.cells m0] (ql 4 zj.cells r.1) [zl.cells r.2]:=
 fnL Tryz.func106 rfl<|rgL<|rgL<|rgL<|rgL<|cP 1 (xT m0.f_l)<|blL (fun a=>⟨28,[(0,qp 0),(4,qs a)]⟩) (fun a=>⟨[[qn,qb m0.z7]],[]⟩) (fun a=>lpL (fun k x=>vm n m0 k x.1 x.2) (([]:Cd),0) A3 (fun x=>⟨28,[(0,qp 0),(4,qs x.1),(14,ql 3 za.cells m0.f_l),(15,qi (m0.f_l.length)),(16,qi x.2)]⟩) (fun x=>⟨[[qn,qb m0.z7]],[]⟩) fun k x=>by obtain⟨e,b⟩:=x; rw [vm]; exact rgL<|bFL (zp<|bP 0 yN fun f=>bEL fun c d=>wO zS (kPL 3 (zQ d) edL)<|zq<|yl zn fun h=>⟨(c,wrap .i64 (b+1)),h,wk A8⟩)<|xjL<|jnL A3) fun a=>bC 2 A3 pe fun g=>rKL A3
def jQ (n:Nat)(a0:Cd):Option ((List zj)×Int):=
 (bW n a0).bind fun c=>
 if c !=0 then(some (([]:List zj),c))else((gT n a0).bind fun a=>
 if a.2 !=0 then(some (([]:List zj),a.2))else((jl n a.1).bind fun e=>
 (qB n e).bind fun b=>
 if b.2.z7=true then(some (([]:List zj),7))else((jX n b.1).bind fun d=>
 (if d.2 !=0 then(some true)else(some (!(d.1==a0)))).bind fun f=>
 if f then(some (([]:List zj),7))else(some (b.1,0)))))
theorem pQ {n a0 r}:jQ n a0=some r→AC mx 105 [qs a0, .func (.func 106) [] [], .func (.func 35) [] []] [] (.tuple [ql 4 zj.cells r.1,qi r.2]) []:=
 fnL Tryz.func105 rfl<|rgL<|rgL<|bC 1 A1 YB fun c=>rgL<|bFL (rgL<|rKL A1)<|bC 1 A1 dl fun d=>rgL<|bFL (rgL<|rKL A2)<|bC 1 A2 qX fun e=>bC 2 A9 Xr fun a=>rgL<|bFL (rgL<|rKL A4)<|bC 2 A4 po fun f=>bEL fun b hE=>rgF hE ⟨56,[(8,qn),(13,ql 4 zj.cells a.1),(53,qb b)]⟩ ⟨[],[]⟩ (gFL 3 49 (eJ A4)<|eJ A4)<|bFL (rgL<|rKL A1)<|rgL<|rKL A1
def uZ (n:Nat)(a0:Cd):Option ((List zj)×Int):=
 (jQ n a0).bind fun a=>
 some (a.1,a.2)
theorem Wh {n a0 r}:uZ n a0=some r→AC mx 37 [qs a0] [] (.tuple [ql 4 zj.cells r.1,qi r.2]) []:=
 fnL Tryz.func37 rfl<|rgL<|bC 1 A1 pQ fun a=>rKL A1
def xD (n:Nat)(a0:List zj):Nat→Cd→Int→Option (Ctl (Cd×Int) Cd)
 |0,_,_=>none
 | k+1,d,b=>
  if decide (b<(a0.length:Int))then((zV a0 b).bind fun a=>
  (xc n (zj.mk (zC.mk a.zo.zg) (zF.mk a.zK.zy a.zK.wL a.zK.zY))).bind fun c=>
  if c.2 !=0 then(some (.ret (([]:Cd),c.2)))else((jw d c.1).bind fun e=>
  xD n a0 k e (wrap .i64 (b+1))))else(some (.nxt d))
def uM (n:Nat)(a0:List zj):Option (Cd×Int):=
 if decide ((a0.length:Int)>64)then(some (([]:Cd),2))else(z8 (xD n a0 n ([]:Cd) 0) (fun r=>some r) (fun b=>
 (xC n b).bind fun a=>
 some (a.1,a.2)))
theorem Zg {n a0 r}:uM n a0=some r→AC mx 36 [ql 4 zj.cells a0] [] (.tuple [qs r.1,qi r.2]) []:=
 fnL Tryz.func36 rfl<|rgL<|cP 1 (qO a0)<|bFL (rgL<|rKL A1)<|rgL<|rgL<|bcL (fun a=>⟨35,[(4,qs a)]⟩) (fun a=>⟨[],[]⟩) (fun i b=>lpL (fun k x=>xD n a0 k x.1 x.2) (([]:Cd),0) A1 (fun x=>⟨35,[(0,ql 4 zj.cells a0),(4,qs x.1),(5,qi x.2)]⟩) (fun x=>⟨[],[]⟩) fun k x=>by obtain⟨j,c⟩:=x; rw [xD]; exact cP 2 (qO a0)<|bFL (zp<|bEL fun l d=>bEL fun m e=>rCL (kPL 2 (u6 d)<|kCL 4 A1 (bX e) edL)<|rgL<|bFL (rgL<|hKL b<|rJ A1)<|bEL fun f g=>wO zS (kPL 2 (zQ g) edL)<|zq<|yl zn fun h=>⟨(f,wrap .i64 (c+1)),h,wk A1⟩)<|xjL<|jCL A1) fun a=>bC 1 A1 jo fun o=>rKL A1
def wn (n:Nat)(a0:Cd):Option ((List zj)×Int):=
 (xg n a0).bind fun a=>
 if a.2 !=0 then(some (([]:List zj),a.2))else((vf n a.1 48).bind fun c=>
 (yH n c.f_l c).bind fun b=>
 (uM n b.1).bind fun d=>
 (if b.2.jP=true then(some true)else(if d.2 !=0 then(some true)else(some (!(d.1==a0))))).bind fun e=>
 if e then(some (([]:List zj),7))else(some (b.1,0)))
theorem Zh {n a0 r}:wn n a0=some r→AC mx 38 [qs a0] [] (.tuple [ql 4 zj.cells r.1,qi r.2]) []:=
 fnL Tryz.func38 rfl<|rgL<|bC 1 A1 br fun c=>rgL<|bFL (rgL<|rKL A2)<|bC 1 A2 u7 fun d=>bC 5 A9 kU fun a=>bC 1 A4 Zg fun e=>bEL fun b hE=>rgF hE ⟨45,[(7,ql 4 zj.cells a.1),(43,qb b)]⟩ ⟨[],[]⟩ (gFL 5 35 (eJ A4)<|gFL 9 39 (eJ A4)<|eJ A4)<|bFL (rgL<|rKL A1)<|rgL<|rKL A1
def xU (n:Nat)(a0:zu):Nat→Bool→Cd→Int→Option (Bool×Cd)
 |0,_,_,_=>none
 | k+1,b,c,a=>
  if decide (a<(a0.zM.length:Int))then((if b then(some true)else((zV a0.zM a).bind fun d=>
  if decide (d<0)then(some true)else((zV a0.zM a).bind fun e=>
  some (decide (e≥64))))).bind fun f=>
  (zV a0.zM a).bind fun g=>
  (xB n g).bind fun i=>
  (jw c i).bind fun j=>
  xU n a0 k f j (wrap .i64 (a+1)))else(some (b,c))
def xV (n:Nat)(a0:zu):Nat→Int→Option (Ctl (Cd×Int) Unit)
 |0,_=>none
 | k+1,a=>
  if decide (a<(a0.zi.ze.length:Int))then((zV a0.zi.ze a).bind fun b=>
  (xN n b).bind fun c=>
  if !c then(some (.ret (([]:Cd),11)))else(xV n a0 k (wrap .i64 (a+1))))else(some (.nxt ()))
def je (n:Nat)(a0:zu):Option (Cd×Int):=
 (if decide (a0.xj<0)then(some true)else(if decide (a0.xj≥64)then(some true)else(if decide (a0.zi.yB<0)then(some true)else(if decide (a0.zi.yB>15)then(some true)else(if decide (a0.zi.zT<0)then(some true)else(some (decide (a0.zi.zT>8)))))))).bind fun d=>
 (xU n a0 n d ([]:Cd) 0).bind fun a=>
 if a.1=true then(some (([]:Cd),1))else(if decide ((a0.zM.length:Int)>8)then(some (([]:Cd),2))else(z8 (xV n a0 n 0) (fun r=>some r) (fun v=>
 (vb n a0.zi.ze).bind fun e=>
 (yZ n 48 ([e]:List Cd)).bind fun b=>
 if b.2 !=0 then(some (([]:Cd),2))else((xB n a0.xj).bind fun f=>
 (zD n 48 ([a.2]:List Cd)).bind fun g=>
 (jw f g).bind fun i=>
 (xr n a0.zi.yB).bind fun j=>
 (zD n 10 ([j]:List Cd)).bind fun l=>
 (jw i l).bind fun m=>
 (xB n a0.zi.zT).bind fun o=>
 (jw m o).bind fun s=>
 (jw s b.1).bind fun u=>
 (xC n u).bind fun c=>
 some (c.1,c.2)))))
theorem ZF {n a0 r}:je n a0=some r→AC mx 24 [.agg (zu.cells a0)] [] (.tuple [qs r.1,qi r.2]) []:=
 fnL Tryz.func24 rfl<|rgL<|bEL fun d hE=>rgF hE ⟨130,[(1,qp 0),(4,qb d)]⟩ ⟨[zu.cells a0],[]⟩ (gFL 4 13 (eJ A3)<|gFL 9 18 (eJ A3)<|gFL 15 24 (eJ A3)<|gFL 21 30 (eJ A3)<|gFL 27 36 (eJ A3)<|eJ A3)<|rgL<|rgL<|blL (fun a=>⟨130,[(1,qp 0),(4,qb a.1),(5,qs a.2)]⟩) (fun a=>⟨[zu.cells a0],[]⟩) (fun a=>lpL (fun k x=>xU n a0 k x.1 x.2.1 x.2.2) (d,([]:Cd),0) A3 (fun x=>⟨130,[(1,qp 0),(4,qb x.1),(5,qs x.2.1),(6,qi x.2.2)]⟩) (fun x=>⟨[zu.cells a0],[]⟩) fun k x=>by obtain⟨M,l,e⟩:=x; rw [xU]; exact cP 3 (bD a0.zM)<|bFL (zp<|bEL fun f hE=>rgF hE ⟨130,[(1,qp 0),(4,qb f),(5,qs l),(6,qi e)]⟩ ⟨[zu.cells a0],[]⟩ (gFL 2 50 (eJ A3)<|bEL fun N m=>kPL 5 (xY m)<|gFL 10 58 (eJ A3)<|bEL fun O o=>kPL 13 (xY o)<|eJ A3)<|bEL fun P s=>bEL fun Q u=>bEL fun v w=>wO zS (kPL 4 (xY s)<|kCL 6 A2 (jr u)<|kPL 7 (zQ w) edL)<|zq<|yl zn fun h=>⟨(f,v,wrap .i64 (e+1)),h,wk A3⟩)<|xjL<|jnL A3) fun a=>rgL<|bFL (rgL<|rKL A2)<|cP 2 (bD a0.zM)<|bFL (rgL<|rKL A2)<|rgL<|bcL (fun _=>⟨130,[(1,qp 0),(5,qs a.2)]⟩) (fun _=>⟨[zu.cells a0],[]⟩) (fun R A=>lpL (fun k x=>xV n a0 k x) 0 A3 (fun x=>⟨130,[(1,qp 0),(5,qs a.2),(7,qi x)]⟩) (fun x=>⟨[zu.cells a0],[]⟩) fun k B=>by rw [xV]; exact cP 4 (uu a0.zi.ze)<|bFL (zp<|bEL fun S C=>bEL fun T D=>rCL (kPL 4 (vq C)<|kCL 6 A2 (vX D) edL)<|bFL (rgL<|hKL A<|rJ A2)<|zq<|yl zn fun h=>⟨wrap .i64 (B+1),h,wk A3⟩)<|xjL<|jCL A3) fun U=>bEL fun V E=>bEL fun W F=>rCL (kCL 3 A2 (px E)<|kCL 5 A2 (wX F) edL)<|rgL<|bFL (rgL<|rKL A2)<|bEL fun X G=>bEL fun Y H=>bEL fun Z b=>bEL fun a1 I=>bEL fun a2 J=>bEL fun a3 c=>bEL fun a4 K=>bEL fun a5 g=>bEL fun a6 i=>bEL fun j L=>lfL (fun z=>zm [0,1,3,4,7,8,9,14,15,16,19,2,5,6,10,11,12,13,17,18,20,21,22,23,24,25] [2,5,10,12,17,21] [[],[0],[0,1],[],[3],[0,1,2,3,4],[0,1,2,3,4,5],[],[7],[7,8],[0,1,2,3,4,5,7,8,9],[0,1,2,3,4,5,7,8,9,10],[0,1,2,3,4,5,7,8,9,10,11],[0,1,2,3,4,5,6,7,8,9,10,11,12],[],[14],[14,15],[0,1,2,3,4,5,7,8,9,10,11,12,14,15,16],[0,1,2,3,4,5,6,7,8,9,10,11,12,13,14,15,16,17],[],[0,1,2,3,4,5,6,7,8,9,10,11,12,13,14,15,16,17,18,19],[0,1,2,3,4,5,6,7,8,9,10,11,12,13,14,15,16,17,18,19,20],[0,1,2,3,4,5,6,7,8,9,10,11,12,13,14,15,16,17,18,19,20,21],[0,1,2,3,4,5,6,7,8,9,10,11,12,13,14,15,16,17,18,19,20,21],[0,1,2,3,4,5,6,7,8,9,10,11,12,13,14,15,16,17,18,19,20,21,22,23],[0,1,2,3,4,5,6,7,8,9,10,11,12,13,14,15,16,17,18,19,20,21,22,23,24]] [] [(2,qs j.1),(3,qi j.2)] ⟨[],[]⟩ (dS [0,1,3,4,7,8,9,14,15,16,19]<|dC yb A2 (jr G)<|dC yb A2 (zP H)<|dP (zQ b)<|dC (zr 6 (zQ b) yb) A2 (gv I)<|dS [11]<|dC (zr 6 (zQ b) yb) A2 (zP J)<|dP (zQ c)<|dC (zr 13 (zQ c) (zr 6 (zQ b) yb)) A2 (jr K)<|dP (zQ g)<|dP (zQ i)<|dC (zr 20 (zQ i) (zr 18 (zQ g) (zr 13 (zQ c) (zr 6 (zQ b) yb)))) A2 (jo L)<|dS (zv 22 4)<|dE A2) z)<|rKL A1
def yI (n:Nat):Nat→Int→(List Int)→(List za)→Int→Bool→Option ((List Int)×(List za)×Int×Bool)
 |0,_,_,_,_,_=>none
 | k+1,c,d,b,e,f=>
  if decide (c<(b.length:Int))then((yc n 2 (zh.mk b e f)).bind fun a=>
  (gL 8 d ([a.1]:List Int)).bind fun g=>
  yI n k (wrap .i64 (c+1)) g a.2.f_l a.2.bI a.2.jP)else(some (d,b,e,f))
def wJ (n:Nat)(a0:Cd):Option (zu×Int):=
 (xg n a0).bind fun a=>
 if a.2 !=0 then(some ((zu.mk 0 ([]:List Int) (yX.mk 0 0 ([]:List Cd))),a.2))else((vf n a.1 48).bind fun m=>
 (yc n 2 m).bind fun b=>
 (ya n 48 b.2).bind fun i=>
 (vf n i.1 48).bind fun c=>
 (yI n  n 0 ([]:List Int) c.f_l c.bI c.jP).bind fun d=>
 (yc n 10 i.2).bind fun e=>
 (yc n 2 e.2).bind fun f=>
 (ya n 48 f.2).bind fun j=>
 (z1 n j.1 j.2).bind fun g=>
 (je n (zu.mk b.1 d.1 (yX.mk e.1 f.1 g.1))).bind fun l=>
 (if g.2.jP=true then(some true)else(if d.2.2.2=true then(some true)else(if l.2 !=0 then(some true)else(some (!(l.1==a0)))))).bind fun o=>
 if o then(some ((zu.mk 0 ([]:List Int) (yX.mk 0 0 ([]:List Cd))),7))else(some ((zu.mk b.1 d.1 (yX.mk e.1 f.1 g.1)),0)))
theorem ZE {n a0 r}:wJ n a0=some r→AC mx 26 [qs a0] [] (.tuple [.agg (zu.cells r.1),qi r.2]) []:=
 fnL Tryz.func26 rfl<|rgL<|bC 1 A2 br fun D=>rgL<|bFL (rgL<|rKL A4)<|bC 1 A4 u7 fun E=>rgL<|bC 1 Az wu fun b=>bEL fun c j=>bEL fun d l=>rCL (kCL 1 Az (w9 j)<|kCL 2 Ab (u7 l) edL)<|rgL<|blL (fun a=>⟨85,[(0,qs a0),(2,qp 0),(6,qp 1),(7,qp 2),(8,qp 3)]⟩) (fun a=>⟨[[qi 0,qn,qi 0,qi 0,qn],zh.cells c.2,[qi b.1, .sl 1 (List.map (cI .i64) a.1) (.fam 0 (a.1.length)),qi 0,qi 0,qn],[ql 3 za.cells a.2.1,qi a.2.2.1,qb a.2.2.2]],[a.1.length]⟩) (fun a=>xR (wk (fr':=⟨85,[(0,qs a0),(2,qp 0),(6,qp 1),(7,qp 2),(8,qp 3),(9,qi 0)]⟩) (st':=⟨[[qi 0,qn,qi 0,qi 0,qn],zh.cells c.2,[qi b.1,qn,qi 0,qi 0,qn],zh.cells d],[]⟩) ⟨[0,2,3,4],5,[],0⟩)<|xR Wk.nilFam<|lpL (fun k x=>yI n  k x.1 x.2.1 x.2.2.1 x.2.2.2.1 x.2.2.2.2) (0,([]:List Int),d.f_l,d.bI,d.jP) Al (fun x=>⟨85,[(0,qs a0),(2,qp 0),(6,qp 1),(7,qp 2),(8,qp 3),(9,qi x.1)]⟩) (fun x=>⟨[[qi 0,qn,qi 0,qi 0,qn],zh.cells c.2,[qi b.1, .sl 1 (List.map (cI .i64) x.2.1) (.fam 0 (x.2.1.length)),qi 0,qi 0,qn],[ql 3 za.cells x.2.2.1,qi x.2.2.2.1,qb x.2.2.2.2]],[x.2.1.length]⟩) fun k x=>by obtain⟨i,F,m,G,H⟩:=x; rw [yI]; exact cP 5 (xT m)<|bFL (zp<|bEL fun f o=>bEL fun g s=>lfL (fun z=>zmN zS [0,1,2,3,4,5,6,7] [3,5,7] [[],[0],[],[2],[2,3],[0,1,2,3,4],[0,1,2,3,4,5],[0,1,2,3,4,5,6]] [] [(0,qs a0),(2,qp 0),(6,qp 1),(7,qp 2),(8,qp 3),(9,qi i)] ⟨[[qi 0,qn,qi 0,qi 0,qn],zh.cells c.2,[qi b.1, .sl 1 (List.map (cI .i64) g) (.fam 0 (g.length)),qi 0,qi 0,qn],zh.cells f.2],[g.length]⟩ (dS [0,1,2]<|dC yb ⟨[3],4,[],1⟩ (wu o)<|dS [4]<|dA yb 0 (cI .i64) (e:=3) (e2:=3) (sz:=1) (bytes:=8) (b2:=8) (tok2:= .exact) s<|dS [6]<|dF yb<|dE Al) z)<|zq<|yl zn fun h=>⟨(wrap .i64 (i+1),g,f.2.f_l,f.2.bI,f.2.jP),h,wk Al⟩)<|xjL<|jnL Al) fun a=>bC 1 C4 wu fun u=>bC 1 C4 wu fun v=>bEL fun I w=>bEL fun A B=>rCL (kCL 2 C4 (w9 w)<|kCL 3 C4 (km B) edL)<|bC 1 As ZF fun J=>bEL fun C hE=>rgF hE ⟨85,[(2,qp 0),(7,qp 1),(82,qb C)]⟩ ⟨[[qi 0,qn,qi 0,qi 0,qn],[qi b.1, .sl 1 (List.map (cI .i64) a.1) (.fam 0 (a.1.length)),qi u.1,qi v.1,ql 1 cS A.1]],[a.1.length]⟩ (gFL 5 68 (eJ C5)<|gFL 11 74 (eJ C5)<|gFL 15 78 (eJ C5)<|eJ C5)<|bFL (rgL<|rKL Am)<|rgL<|rKL Am
def jq (n:Nat)(a0 a1:yX):Option Bool:=
 (if a0.yB==a1.yB then(if a0.zT==a1.zT then((uj n a0.ze a1.ze).bind fun a=>
 some a)else(some false))else(some false)).bind fun b=>
 some b
theorem ZZ {n a0 a1 r}:jq n a0 a1=some r→AC mx 97 [.agg (yX.cells a0), .agg (yX.cells a1)] [] (qb r) []:=
 fnL Tryz.func97 rfl<|rgL<|bEL fun a hE=>rgF hE ⟨24,[(4,qb a)]⟩ ⟨[],[]⟩ (gFL 6 10 (gFL 13 17 (bEL fun c b=>kCL 17 A4 (pt b)<|eJ A4)<|eJ A4)<|eJ A4)<|rKL A1
def wC (n:Nat)(a0 a1:zu):Nat→Int→Option (Ctl Bool Unit)
 |0,_=>none
 | k+1,a=>
  if decide (a<(a0.zM.length:Int))then((zV a0.zM a).bind fun b=>
  (zV a1.zM a).bind fun c=>
  if b !=c then(some (.ret false))else(wC n a0 a1 k (wrap .i64 (a+1))))else(some (.nxt ()))
def jH (n:Nat)(a0 a1:zu):Option Bool:=
 (if a0.xj !=a1.xj then(some true)else(if(a0.zM.length:Int) !=(a1.zM.length:Int)then(some true)else((jq n (yX.mk a0.zi.yB a0.zi.zT a0.zi.ze) (yX.mk a1.zi.yB a1.zi.zT a1.zi.ze)).bind fun a=>
 some (!a)))).bind fun b=>
 if b then(some false)else(z8 (wC n a0 a1 n 0) (fun r=>some r) (fun c=>
 some true))
theorem Ym {n a0 a1 r}:jH n a0 a1=some r→AC mx 27 [.agg (zu.cells a0), .agg (zu.cells a1)] [] (qb r) []:=
 fnL Tryz.func27 rfl<|rgL<|bEL fun b hE=>rgF hE ⟨46,[(2,qp 0),(3,qp 1),(27,qb b)]⟩ ⟨[zu.cells a0,zu.cells a1],[]⟩ (gFL 6 11 (eJ A5)<|kPL 8 (bD a0.zM)<|kPL 11 (bD a1.zM)<|gFL 15 20 (eJ A5)<|bEL fun j c=>kCL 19 A4 (ZZ c)<|eJ A5)<|bFL (rgL<|rKL A4)<|rgL<|bcL (fun _=>⟨46,[]⟩) (fun _=>⟨[],[]⟩) (fun l d=>lpL (fun k x=>wC n a0 a1 k x) 0 A5 (fun x=>⟨46,[(2,qp 0),(3,qp 1),(5,qi x)]⟩) (fun x=>⟨[zu.cells a0,zu.cells a1],[]⟩) fun k a=>by rw [wC]; exact cP 3 (bD a0.zM)<|bFL (zp<|bEL fun e f=>bEL fun g i=>lfL (fun z=>zs [0,1,2,3,4,5,6,7,8,9,10] [] [[],[0],[],[0,1,2],[0,1,2,3],[],[5],[],[5,6,7],[5,6,7,8],[0,1,2,3,4,5,6,7,8,9]] [] [(2,qp 0),(3,qp 1),(5,qi a),(45,qb (e !=g))] (dS [0,1,2]<|dP (xY f)<|dS (zv 4 4)<|dP (xY i)<|dS [9,10]<|dE A5) z)<|bFL (rgL<|hKL d<|rJ A4)<|zq<|yl zn fun h=>⟨wrap .i64 (a+1),h,wk A5⟩)<|xjL<|jCL A4) fun m=>rgL<|rKL A1
def jF (n:Nat)(a0:Cd):Option Bool:=
 if decide ((a0.length:Int)>500)then((jA n).bind fun g=>
 some g)else((uV n a0).bind fun c=>
 (yK n a0).bind fun d=>
 (uZ n a0).bind fun e=>
 (wn n a0).bind fun f=>
 (uT n a0).bind fun a=>
 (wJ n a0).bind fun b=>
 (if c.2==d.2 then((vl n c.1 d.1).bind fun i=>
 if i then(if e.2==f.2 then((xM n e.1 f.1).bind fun j=>
 if j then(if a.2==b.2 then((jH n (zu.mk a.1.xj a.1.zM (yX.mk a.1.zi.yB a.1.zi.zT a.1.zi.ze)) (zu.mk b.1.xj b.1.zM (yX.mk b.1.zi.yB b.1.zi.zT b.1.zi.ze))).bind fun l=>
 if l then((jA n).bind fun m=>
 some m)else(some false))else(some false))else(some false))else(some false))else(some false))else(some false)).bind fun o=>
 some o)
theorem Ye {n a0 r}:jF n a0=some r→AC mx 9 [qs a0] [] (qb r) []:=
 fnL Tryz.func9 rfl<|rgL<|rgL<|bFL (bC 0 A1 pc fun f=>rKL A1)<|bC 1 A1 ZD fun g=>bC 1 A2 ZH fun i=>bC 1 A4 Wh fun j=>bC 1 A4 Zh fun l=>bC 1 A4 Zx fun m=>bC 1 A7 ZE fun o=>bEL fun a hE=>rgF hE ⟨80,[(2,qb a)]⟩ ⟨[],[]⟩ (gFL 4 52 (bEL fun s b=>kCL 6 Ab (Yc b)<|gFL 9 57 (gFL 14 62 (bEL fun u c=>kCL 16 Ab (gg c)<|gFL 19 67 (gFL 24 72 (bEL fun v d=>kCL 26 Ab (Ym d)<|gFL 29 77 (bEL fun w e=>kCL 29 Ab (pc e)<|eJ Ab)<|eJ Ab)<|eJ Ab)<|eJ Ab)<|eJ Ab)<|eJ Ab)<|eJ Ab)<|rKL A1
end Go.Abs
end
