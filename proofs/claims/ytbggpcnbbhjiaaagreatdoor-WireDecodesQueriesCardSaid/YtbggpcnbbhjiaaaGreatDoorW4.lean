/- For each Go function: if its typed Lean form gives some result, the call returns that result (printed by a program of this hand). Condition: the typed form gives some result. -/
import Derived.Test.YtbggpcnbbhjiaaaGreatDoorW3
set_option linter.unusedVariables false
set_option linter.unusedSimpArgs false
set_option linter.unnecessarySimpa false
section
set_option maxRecDepth 100000
set_option maxHeartbeats 0
namespace Go.Abs
open Go Go.Proofs IntKind
variable {mx:Int}
def gJ (n:Nat)(a2:List Int):Nat→Int→Cn→Int→Option (Cn×Int)
 |0,_,_,_=>none
 | k+1,a,b,c=>
  if decide (a<(a2.length:Int))then((zM a2 a).bind fun e=>
  (ut n e (zn.mk b c)).bind fun d=>
  gJ n a2 k (wrap .i64 (a+1)) d.f_b d.f_e)else(some (b,c))
def VH (n:Nat)(a1:Int)(a2:List Int)(m0:zn):Option zn:=
 (Uq n (zn.mk ([]:Cn) 0)).bind fun a=>
 (gJ n a2 n 0 a.f_b a.f_e).bind fun b=>
 (ym n ([]:Cn) b.2 m0).bind fun c=>
 (zZ n a1 b.1 c).bind fun d=>
 some d
theorem Js {n a1 a2 m0 r}:VH n a1 a2 m0=some r→AC mx 89 [qp 0,qi a1,ql 1 (cI .i64) a2, .func (.func 90) [] []] [zn.cells m0] (.tuple []) [zn.cells r]:=
 fnL Tryz.func89 rfl<|rgL<|bC 1 A9 JW fun b=>cP 1 (YF a2)<|blL (fun a=>⟨33,[(0,qp 0),(1,qi a1),(8,qp 1)]⟩) (fun a=>⟨[zn.cells m0,[qs a.1,qi a.2]],[]⟩) (fun a=>lpL (fun k x=>gJ n a2 k x.1 x.2.1 x.2.2) (0,b.f_b,b.f_e) A5 (fun x=>⟨33,[(0,qp 0),(1,qi a1),(8,qp 1),(9, .func (.func 52) [qp 1] []),(14,ql 1 (cI .i64) a2),(15,qi (a2.length)),(16,qi x.1)]⟩) (fun x=>⟨[zn.cells m0,[qs x.2.1,qi x.2.2]],[]⟩) fun k x=>by obtain⟨d,g,i⟩:=x; rw [gJ]; exact rgL<|bFL (zo<|bP 0 uz fun j=>bEL fun c e=>xo zJ (kCL 2 A9 (qL e) edL)<|zp<|z8 zl fun h=>⟨(wrap .i64 (d+1),c.f_b,c.f_e),h,wk A5⟩)<|xjL<|jnL A5) fun a=>bC 3 A7 yW fun l=>bEL fun m f=>xo ZX (kCL 4 A7 (yO f) edL)<|nJ A7
def kU (n:Nat)(a0:yJ):Nat→Bool→Int→Option Bool
 |0,_,_=>none
 | k+1,b,a=>
  if decide (a<(a0.pK.length:Int))then((zM a0.pK a).bind fun c=>
  (if b then((pa n c).bind fun d=>
  some d)else(some false)).bind fun e=>
  kU n a0 k e (wrap .i64 (a+1)))else(some b)
def kG (n:Nat)(a0:yJ):Nat→Int→Option (Ctl (Cn×Int) Unit)
 |0,_=>none
 | k+1,a=>
  if decide (a<(a0.uw.zi.length:Int))then((zM a0.uw.zi a).bind fun b=>
  (gi n b).bind fun c=>
  if !c then(some (.ret (([]:Cn),11)))else(kG n a0 k (wrap .i64 (a+1))))else(some (.nxt ()))
def pI (n:Nat)(a0:yJ):Option (Cn×Int):=
 (pa n a0.Vu).bind fun b=>
 (kU n a0 n b 0).bind fun c=>
 (if !c then(some true)else(if decide (a0.uw.V2<0)then(some true)else(if decide (a0.uw.V2>15)then(some true)else(if decide (a0.uw.Zx<0)then(some true)else(some (decide (a0.uw.Zx>8))))))).bind fun d=>
 if d then(some (([]:Cn),1))else(if decide ((a0.pK.length:Int)>8)then(some (([]:Cn),2))else(yb (kG n a0 n 0) (fun r=>some r) (fun l=>
 (ut n a0.Vu (zn.mk ([]:Cn) 0)).bind fun e=>
 (VH n 48 a0.pK e).bind fun f=>
 (jP n 10 a0.uw.V2 f).bind fun g=>
 (ut n a0.uw.Zx g).bind fun i=>
 (j0 n 48 a0.uw.zi i).bind fun j=>
 (xw n j).bind fun a=>
 some (a.1,a.2.1))))
theorem Z6 {n a0 r}:pI n a0=some r→AC mx 23 [.agg (yJ.cells a0)] [] (.tuple [qs r.1,qi r.2]) []:=
 fnL Tryz.func23 rfl<|rgL<|rgL<|bC 3 A2 pZ fun d=>cP 2 (YF a0.pK)<|blL (fun a=>⟨93,[(1,qp 0),(5,qb a)]⟩) (fun a=>⟨[yJ.cells a0],[]⟩) (fun a=>lpL (fun k x=>kU n a0 k x.1 x.2) (d,0) A3 (fun x=>⟨93,[(1,qp 0),(4, .func (.func 87) [] []),(5,qb x.1),(17,ql 1 (cI .i64) a0.pK),(18,qi (a0.pK.length)),(19,qi x.2)]⟩) (fun x=>⟨[yJ.cells a0],[]⟩) fun k x=>by obtain⟨j,b⟩:=x; rw [kU]; exact rgL<|bFL (zo<|bP 0 uz fun l=>bEL fun c hE=>Gl hE zJ ⟨93,[(1,qp 0),(4, .func (.func 87) [] []),(5,qb c),(17,ql 1 (cI .i64) a0.pK),(18,qi (a0.pK.length)),(19,qi b)]⟩ ⟨[yJ.cells a0],[]⟩ (gFL 2 24 (bEL fun m e=>kCL 4 A2 (pZ e)<|eJ A3)<|eJ A3)<|zp<|z8 zl fun h=>⟨(c,wrap .i64 (b+1)),h,wk A3⟩)<|xjL<|jnL A3) fun a=>rgL<|zo<|bEL fun f hE=>rgF hE ⟨93,[(1,qp 0),(32,qb f)]⟩ ⟨[yJ.cells a0],[]⟩ (gFL 3 35 (eJ A7)<|gFL 8 40 (eJ A7)<|gFL 13 45 (eJ A7)<|gFL 18 50 (eJ A7)<|eJ A7)<|bFL (rgL<|ya<|yf<|rJ A2)<|cP 2 (YF a0.pK)<|bFL (rgL<|ya<|yf<|rJ A2)<|zp<|cP 3 (ue a0.uw.zi)<|bcL (fun _=>⟨93,[(1,qp 0)]⟩) (fun _=>⟨[yJ.cells a0],[]⟩) (fun o g=>lpL (fun k x=>kG n a0 k x) 0 A3 (fun x=>⟨93,[(1,qp 0),(62,ql 1 cS a0.uw.zi),(63,qi (a0.uw.zi.length)),(64,qi x)]⟩) (fun x=>⟨[yJ.cells a0],[]⟩) fun k i=>by rw [kG]; exact rgL<|bFL (zo<|bP 0 ww fun s=>bC 1 A2 Zg fun u=>bFL (rgL<|hKL g<|rJ A2)<|zp<|z8 zl fun h=>⟨wrap .i64 (i+1),h,wk A3⟩)<|xjL<|jCL A3) fun v=>rgL<|bC 2 A9 qL fun w=>bC 2 A9 Js fun A=>bC 3 A9 pE fun B=>bC 3 A9 qL fun C=>bC 3 A9 ZO fun D=>bC 0 A9 ki fun E=>rKL A4
def q0 (n:Nat):Nat→(List Int)→(List zb)→Bool→Option ((List Int)×(List zb)×Bool)
 |0,_,_,_=>none
 | k+1,c,a,d=>
  if decide ((a.length:Int)>0)then((xH n 2 (zu.mk a d)).bind fun b=>
  (jR 8 c ([b.1]:List Int)).bind fun e=>
  q0 n k e b.2.f_l b.2.yp)else(some (c,a,d))
def YN (n:Nat)(m0:zu):Option (yJ×zu):=
 (xH n 2 m0).bind fun c=>
 (yA n c.2).bind fun d=>
 (qr n d.1).bind fun e=>
 (q0 n  n ([]:List Int) e.f_l e.yp).bind fun f=>
 (xH n 10 d.2).bind fun g=>
 (xH n 2 g.2).bind fun i=>
 (yA n i.2).bind fun a=>
 (ve n a.1.zd a.2).bind fun b=>
 (if b.2.yp=true then(some true)else(if f.2.2=true then(some true)else(some (a.1.zF !=48)))).bind fun j=>
 some ((yJ.mk c.1 f.1 (qH.mk g.1 i.1 b.1)),(zu.mk b.2.f_l j))
theorem VC {n m0 r}:YN n m0=some r→AC mx 95 [qp 0] [zu.cells m0] (.agg (yJ.cells r.1)) [zu.cells r.2]:=
 fnL Tryz.func95 rfl<|rgL<|rgL<|bC 1 Ab js fun b=>bEL fun c j=>bEL fun f l=>rCL (kCL 1 Ab (xS j)<|kCL 2 A8 (gH l) edL)<|blL (fun a=>⟨60,[(0,qp 0),(2,qp 1),(3,qp 2),(4,qp 3)]⟩) (fun a=>⟨[zu.cells c.2,[qi 0,qn,qi 0,qi 0,qn],[qi b.1, .sl 1 (List.map (cI .i64) a.1) (.fam 0 (a.1.length)),qi 0,qi 0,qn],[ql 3 zb.cells a.2.1,qb a.2.2]],[a.1.length]⟩) (fun a=>yV (wk (fr':=⟨60,[(0,qp 0),(2,qp 1),(3,qp 2),(4,qp 3)]⟩) (st':=⟨[zu.cells c.2,[qi 0,qn,qi 0,qi 0,qn],[qi b.1,qn,qi 0,qi 0,qn],zu.cells f],[]⟩) ⟨[0,1,2,3],4,[],0⟩)<|yV Wk.nilFam<|lpL (fun k x=>q0 n  k x.1 x.2.1 x.2.2) (([]:List Int),f.f_l,f.yp) C9 (fun x=>⟨60,[(0,qp 0),(2,qp 1),(3,qp 2),(4,qp 3)]⟩) (fun x=>⟨[zu.cells c.2,[qi 0,qn,qi 0,qi 0,qn],[qi b.1, .sl 1 (List.map (cI .i64) x.1) (.fam 0 (x.1.length)),qi 0,qi 0,qn],[ql 3 zb.cells x.2.1,qb x.2.2]],[x.1.length]⟩) fun k x=>by obtain⟨A,m,B⟩:=x; rw [q0]; exact cP 4 (xF m)<|bFL (zo<|bEL fun g o=>bEL fun d s=>lfL (fun z=>zmN (j3 (P:=Tryz.prog) (gl:=gl0 mx) zl) [0,1,2,3,4,5,6,7] [3,5,7] [[],[0],[],[2],[2,3],[0,1,2,3,4],[0,1,2,3,4,5],[0,1,2,3,4,5,6]] [] [(0,qp 0),(2,qp 1),(3,qp 2),(4,qp 3)] ⟨[zu.cells c.2,[qi 0,qn,qi 0,qi 0,qn],[qi b.1, .sl 1 (List.map (cI .i64) d) (.fam 0 (d.length)),qi 0,qi 0,qn],zu.cells g.2],[d.length]⟩ (dS [0,1,2]<|dC zW ⟨[3],4,[],1⟩ (js o)<|dS [4]<|dA zW 0 (cI .i64) (e:=3) (e2:=3) (sz:=1) (bytes:=8) (b2:=8) (tok2:= .exact) s<|dS [6]<|dF zW<|dE C9) z)<|zp fun h=>⟨(d,g.2.f_l,g.2.yp),h,wk C9⟩)<|xjL<|jnL C9) fun a=>bC 1 C5 js fun u=>bC 1 C5 js fun v=>bC 1 C5 xS fun C=>bC 3 ⟨[0],5,[],1⟩ ZZ fun i=>bEL fun w hE=>rgF hE ⟨60,[(2,qp 1),(3,qp 2)]⟩ ⟨[[ql 3 zb.cells i.2.f_l,qb w],[qi 0,qn,qi 0,qi 0,qn],[qi b.1, .sl 1 (List.map (cI .i64) a.1) (.fam 0 (a.1.length)),qi u.1,qi v.1,ql 1 cS i.1]],[a.1.length]⟩ (gFL 6 46 (eJ C7)<|gFL 12 52 (eJ C7)<|eJ C7)<|rgL<|rKL Ag
def p9 (n:Nat)(a0:Cn):Option (yJ×Int):=
 (Z9 n a0).bind fun c=>
 if c !=0 then(some ((yJ.mk 0 ([]:List Int) (qH.mk 0 0 ([]:List Cn))),c))else((pp n a0).bind fun b=>
 if b.2 !=0 then(some ((yJ.mk 0 ([]:List Int) (qH.mk 0 0 ([]:List Cn))),b.2))else((qr n b.1).bind fun e=>
 (YN n e).bind fun a=>
 if a.2.yp=true then(some ((yJ.mk 0 ([]:List Int) (qH.mk 0 0 ([]:List Cn))),7))else((pI n (yJ.mk a.1.Vu a.1.pK (qH.mk a.1.uw.V2 a.1.uw.Zx a.1.uw.zi))).bind fun d=>
 (if d.2 !=0 then(some true)else(some (!(d.1==a0)))).bind fun f=>
 if f then(some ((yJ.mk 0 ([]:List Int) (qH.mk 0 0 ([]:List Cn))),7))else(some ((yJ.mk a.1.Vu a.1.pK (qH.mk a.1.uw.V2 a.1.uw.Zx a.1.uw.zi)),0)))))
theorem Xq {n a0 r}:p9 n a0=some r→AC mx 94 [qs a0, .func (.func 95) [] [], .func (.func 23) [] []] [] (.tuple [.agg (yJ.cells r.1),qi r.2]) []:=
 fnL Tryz.func94 rfl<|rgL<|rgL<|bC 1 A4 Un fun c=>rgL<|bFL (rgL<|rKL A4)<|bC 1 A4 p6 fun d=>rgL<|bFL (rgL<|rKL A8)<|bC 1 A8 gH fun e=>bC 2 Ay VC fun a=>rgL<|bFL (rgL<|rKL Ak)<|bC 2 Ak Z6 fun f=>bEL fun b hE=>rgF hE ⟨56,[(6,qp 0),(8,qp 1),(13,qp 2),(53,qb b)]⟩ ⟨[[qi 0,qn,qi 0,qi 0,qn],[qi 0,qn,qi 0,qi 0,qn],yJ.cells a.1],[]⟩ (gFL 3 49 (eJ C1)<|eJ C1)<|bFL (rgL<|rKL A8)<|rgL<|rKL A8
def Xf (n:Nat)(a0:Cn):Option (yJ×Int):=
 (p9 n a0).bind fun a=>
 some ((yJ.mk a.1.Vu a.1.pK (qH.mk a.1.uw.V2 a.1.uw.Zx a.1.uw.zi)),a.2)
theorem Ua {n a0 r}:Xf n a0=some r→AC mx 25 [qs a0] [] (.tuple [.agg (yJ.cells r.1),qi r.2]) []:=
 fnL Tryz.func25 rfl<|rgL<|bC 1 A2 Xq fun a=>rKL A2
def kJ (n:Nat):Option Bool:=
 (yj n (zz.mk 0 ([]:Cn) 0 ([]:List Cn) false false false ([]:List zc) 1 false ([]:List ze))).bind fun a=>
 (ji n a.1).bind fun b=>
 (Yf n ([]:List ze)).bind fun c=>
 (pI n (yJ.mk 0 ([2]:List Int) (qH.mk 0 0 ([]:List Cn)))).bind fun d=>
 (Xf n d.1).bind fun e=>
 (if a.2==0 then(if b.2==0 then(if c.2==0 then(if d.2==0 then(if e.2==0 then(if a.1==([48,18,23,13,53,48,48,49,48,49,48,48,48,48,48,48,90,2,1,1]:Cn)then(if b.1.ye==1 then(if c.1==([48,0]:Cn)then(some ((e.1.pK.length:Int)==1))else(some false))else(some false))else(some false))else(some false))else(some false))else(some false))else(some false))else(some false)).bind fun f=>
 some f
theorem Wr {n r}:kJ n  =some r→AC mx 11 [] [] (qb r) []:=
 fnL Tryz.func11 rfl<|rgL<|rgL<|bC 1 A2 Z2 fun c=>bC 1 A2 Z7 fun d=>bC 0 A4 W3 fun e=>bC 2 A4 Z6 fun f=>bC 1 A4 Ua fun a=>bEL fun b hE=>rgF hE ⟨75,[(0,qb b)]⟩ ⟨[],[]⟩ (gFL 3 40 (gFL 7 44 (gFL 11 48 (gFL 15 52 (gFL 19 56 (gFL 23 60 (gFL 28 65 (gFL 32 69 (kPL 34 (YF a.1.pK)<|eJ A8)<|eJ A8)<|eJ A8)<|eJ A8)<|eJ A8)<|eJ A8)<|eJ A8)<|eJ A8)<|eJ A8)<|rKL A1
def z1 (n:Nat)(a:(Cn×Int))(b c:(Cn×zf)):Nat→Int→Option (Ctl Bool Unit)
 |0,_=>none
 | k+1,d=>
  if decide (d<(List.length ([a.1,b.1,c.1]:List Cn):Int))then((zM ([a.1,b.1,c.1]:List Cn) d).bind fun g=>
  (ji n g).bind fun e=>
  (zM ([a.1,b.1,c.1]:List Cn) d).bind fun i=>
  (yK n i).bind fun f=>
  (if e.2 !=f.2 then(some true)else((wg n e.1 f.1).bind fun j=>
  some (!j))).bind fun l=>
  if l then(some (.ret false))else(z1 n a b c k (wrap .i64 (d+1))))else(some (.nxt ()))
def vD (n:Nat)(a0:List Int):Option Bool:=
 (pJ n a0).bind fun d=>
 (kH n d).bind fun b=>
 (yh n b.1).bind fun a=>
 (jZ n a.1 b.2).bind fun c=>
 (xW n n a.1 c.2).bind fun e=>
 yb (z1 n a c e n 0) (fun r=>some r) (fun g=>
 (kJ n).bind fun f=>
 some f)
theorem pt {n a0 r}:vD n a0=some r→AC mx 4 [ql 1 (cI .i64) a0] [] (qb r) []:=
 fnL Tryz.func4 rfl<|rgL<|bC 1 A1 VZ fun w=>bEL fun A e=>bEL fun a f=>rCL (kCL 1 A3 (Wn e)<|kCL 2 A2 (gC f) edL)<|bEL fun b g=>bEL fun c i=>rCL (kCL 3 A3 (pF g)<|kCL 6 A3 (WD _ i) edL)<|rgL<|bcL (fun _=>⟨60,[]⟩) (fun _=>⟨[],[]⟩) (fun B j=>lpL (fun k x=>z1 n a b c k x) 0 A2 (fun x=>⟨60,[(6, .sl 1 (List.map cS ([a.1,b.1,c.1]:List Cn)) .exact),(7,qi x)]⟩) (fun x=>⟨[],[]⟩) fun k d=>by rw [z1]; exact cP 2 (tU ([a.1,b.1,c.1]:List Cn))<|bFL (zo<|bEL fun C l=>bEL fun D m=>rCL (kPL 2 (VL l)<|kCL 4 A1 (Z7 m) edL)<|bEL fun E o=>bEL fun F s=>rCL (kPL 2 (VL o)<|kCL 4 A2 (Yc s) edL)<|bEL fun u hE=>rgF hE ⟨60,[(6, .sl 1 (List.map cS ([a.1,b.1,c.1]:List Cn)) .exact),(7,qi d),(58,qb u)]⟩ ⟨[],[]⟩ (gFL 4 53 (eJ A4)<|bEL fun G v=>kCL 6 A4 (YK v)<|eJ A4)<|bFL (rgL<|hKL j<|rJ A1)<|zp<|z8 zl fun h=>⟨wrap .i64 (d+1),h,wk A1⟩)<|xjL<|jCL A1) fun H=>bC 0 A1 Wr fun I=>rKL A1
end Go.Abs
end
