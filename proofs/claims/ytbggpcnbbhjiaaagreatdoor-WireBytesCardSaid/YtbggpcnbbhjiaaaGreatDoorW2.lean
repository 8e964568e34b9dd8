/- For each Go function: if its typed Lean form gives some result, the call returns that result (printed by a program of this hand). Condition: the typed form gives some result. -/
import Derived.Test.YtbggpcnbbhjiaaaGreatDoorW1
set_option linter.unusedVariables false
set_option linter.unusedSimpArgs false
set_option linter.unnecessarySimpa false
section
set_option maxRecDepth 100000
set_option maxHeartbeats 0
namespace Go.Abs
open Go Go.Proofs IntKind
variable {mx:Int}
def vO (n b:Nat)(d:List Cd)(c:Cd):Nat→Int→Option Int
 |0,_=>none
 | k+1,a=>
  (if decide (a<((b:Nat):Int))then((pq b a).bind fun f=>
  ((d)[(f*1)]?).bind fun e=>
  some (Op.bytesLess e c||e==c))else(some false)).bind fun g=>
  if g then(vO n b d c k (wrap .i64 (a+1)))else(some a)
def wF (n:Nat)(a0:List Cd):Nat→Nat→Int→(List Cd)→Option (Nat×(List Cd))
 |0,_,_,_=>none
 | k+1,c,d,e=>
  if decide (d<(a0.length:Int))then((zV a0 d).bind fun a=>
  (vO n c e a n 0).bind fun i=>
  (J5 c e).bind fun f=>
  ((lsl f 0 i).bind fun m=>
  (lsl f i (f.length)).bind fun g=>
  (Kf 16 m).bind fun b=>
  (ZI 16 (b.length) b ([a]:List Cd)).bind fun j=>
  if List.isEmpty g then(some ((b.length)+List.length ([a]:List Cd),j))else((ZI 16 ((b.length)+List.length ([a]:List Cd)) j g).bind fun o=>
  some (((b.length)+List.length ([a]:List Cd))+g.length,o))).bind fun l=>
  wF n a0 k l.1 (wrap .i64 (d+1)) l.2)else(some (c,e))
def vM (n:Nat) (a:(Nat×(List Cd))):Nat→Cd→Int→Option Cd
 |0,_,_=>none
 | k+1,c,b=>
  if decide (b<((a.1:Nat):Int))then((pq a.1 b).bind fun d=>
  ((a.2)[(d*1)]?).bind fun e=>
  (jw c e).bind fun f=>
  vM n a k f (wrap .i64 (b+1)))else(some c)
def kj (n:Nat)(a0:List Cd):Option Cd:=
 (wF n a0 n 0 0 ([]:List Cd)).bind fun a=>
 (vM n a n ([]:Cd) 0).bind fun b=>
 some b
theorem XD {n a0 r}:kj n a0=some r→AC mx 187 [ql 1 cS a0] [] (qs r) []:=
 fnL Tryz.func187 rfl<|rgL<|rgL<|cP 1 (uu a0)<|blL (fun a=>⟨53,[(3, .own 0 a.1 1)]⟩) (fun a=>⟨[[.buf (List.map vS a.2)]],[]⟩) (fun a=>xR (wk (fr':=⟨53,[(3,qn),(10,ql 1 cS a0),(11,qi (a0.length)),(12,qi 0)]⟩) (st':=⟨[],[]⟩) A1)<|xR (Wk.nilO 3 0 1 O7)<|lpL (fun k x=>wF n a0 k x.1 x.2.1 x.2.2) (0,0,([]:List Cd)) A3 (fun x=>⟨53,[(3, .own 0 x.1 1),(10,ql 1 cS a0),(11,qi (a0.length)),(12,qi x.2.1)]⟩) (fun x=>⟨[[.buf (List.map vS x.2.2)]],[]⟩) fun k x=>by obtain⟨j,m,i⟩:=x; rw [wF]; exact rgL<|bFL (zp<|bP 0 vq fun d=>rgL<|blL (fun o=>⟨53,[(3, .own 0 j 1),(5,qs d),(6,qi o),(10,ql 1 cS a0),(11,qi (a0.length)),(12,qi m)]⟩) (fun o=>⟨[[.buf (List.map vS i)]],[]⟩) (fun o=>lpL (fun k x=>vO n j i d k x) 0 A3 (fun x=>⟨53,[(3, .own 0 j 1),(5,qs d),(6,qi x),(10,ql 1 cS a0),(11,qi (a0.length)),(12,qi m)]⟩) (fun x=>⟨[[.buf (List.map vS i)]],[]⟩) fun k w=>by rw [vO]; exact bEL fun B hE=>rgF hE ⟨53,[(3, .own 0 j 1),(5,qs d),(6,qi w),(10,ql 1 cS a0),(11,qi (a0.length)),(12,qi m),(27,qb B)]⟩ ⟨[[.buf (List.map vS i)]],[]⟩ (gFL 5 20 (bEL fun C D=>bEL fun S E=>kPL 7 (pg (id:=0) (e:=9) (sz:=1) (b:=16) D)<|kPL 8 (Us (c:=vS) (l:=i) (off:=(C*1)) E)<|eJ A3)<|eJ A3)<|bFL (zp<|yl (j7 (P:=Tryz.prog) (gl:=gl0 mx) zn)<|zq fun h=>⟨wrap .i64 (w+1),h,wk A3⟩)<|xjL<|jnL A3) fun o=>bEL fun U F=>xR (Wk.frz (c:=vS) (l:=i) 3 0 j F O7)<|bEL fun s hE=>lfL (fun z=>zb5 [0,1,2,4,5,7,8,9,3,6,10,11] [3,6,10,11] [[],[],[0,1],[0,1,2],[],[4],zv 0 6,[],[],[7,8],zv 0 10,zv 0 11] ⟨53,[(3, .own 0 s.1 1),(10,ql 1 cS a0),(11,qi (a0.length)),(12,qi m)]⟩ ⟨[[.buf (List.map vS s.2)]],[]⟩ zS (have h:=hE; bE h fun G f h=>bE h fun A g h=>bE h fun u H h=>bE h fun I J h=>dS [0,1]<|dP (jO f)<|dS [4,5,7,8]<|dP (jM g)<|dV (zr 9 (jM g) (zr 2 (jO f) yb)) 1 0 1 (lP (T:=tyT) (c:=vS) (l2:=G) (e:=9) (e2:=9) (bytes:=16) (b2:=16) (tok2:= .none) (cell:=none) O7 H)<|dV (zr 9 (jM g) (zr 2 (jO f) yb)) 2 0 1 (Wi (T:=tyT) (c:=vS) (l:=u) (l2:=([d]:List Cd)) (n:=u.length) (e:=9) (e2:=9) (bytes:=16) (b2:=16) (tok2:= .exact) O7 J)<|kF h (fun hb h=>dV (zr 9 (jM g) (zr 2 (jO f) yb)) 3 0 3 (Dj (T:=tyT) (n:=((u.length)+List.length ([d]:List Cd))) (c:=vS) (l2:=A) (e:=9) (e2:=9) (bytes:=16) (b2:=16) (tok2:= .none) (cell:=none) (id:=2) O7 hb)<|dF (zr 9 (jM g) (zr 2 (jO f) yb))<|by cases h; exact dE Ao) fun hb h=>bE h fun V K h=>dV (zr 9 (jM g) (zr 2 (jO f) yb)) 3 0 2 (Wi (T:=tyT) (c:=vS) (l:=I) (l2:=A) (n:=(u.length)+List.length ([d]:List Cd)) (e:=9) (e2:=9) (bytes:=16) (b2:=16) (tok2:= .none) O7 K)<|dF (zr 9 (jM g) (zr 2 (jO f) yb))<|by cases h; exact dE Ap) z)<|zq<|yl zn fun h=>⟨(s.1,wrap .i64 (m+1),s.2),h,wk A3⟩)<|xjL<|jnL A3) fun a=>rgL<|rgL<|blL (fun v=>⟨53,[(7,qs v)]⟩) (fun v=>⟨[],[]⟩) (fun v=>lpL (fun k x=>vM n a k x.1 x.2) (([]:Cd),0) A3 (fun x=>⟨53,[(7,qs x.1),(42, .own 0 a.1 1),(43,qi ((a.1:Nat):Int)),(44,qi x.2)]⟩) (fun x=>⟨[[.buf (List.map vS a.2)]],[]⟩) fun k x=>by obtain⟨W,L⟩:=x; rw [vM]; exact rgL<|bFL (zp<|bEL fun M N=>bEL fun X O=>rCL (kPL 0 (pg (id:=0) (e:=9) (sz:=1) (b:=16) N)<|kPL 1 (Us (c:=vS) (l:=a.2) (off:=(M*1)) O) edL)<|bEL fun Q R=>wO zS (kPL 2 (zQ R) edL)<|zq<|yl zn fun h=>⟨(Q,wrap .i64 (L+1)),h,wk A3⟩)<|xjL<|jnL A2) fun v=>rgL<|rKL A1
def wm (n:Nat)(a0:zC):Nat→Cd→Int→Option Cd
 |0,_,_=>none
 | k+1,b,a=>
  if decide (a<(a0.zg.length:Int))then((zV a0.zg a).bind fun c=>
  (jt n c).bind fun d=>
  (kj n d).bind fun e=>
  (zD n 49 ([e]:List Cd)).bind fun f=>
  (jw b f).bind fun g=>
  wm n a0 k g (wrap .i64 (a+1)))else(some b)
def wc (n:Nat)(a0:zC):Option (Cd×Int):=
 (xf n a0).bind fun a=>
 if a !=0 then(some (([]:Cd),a))else((wm n a0 n ([]:Cd) 0).bind fun b=>
 (zD n 48 ([b]:List Cd)).bind fun c=>
 some (c,0))
theorem gy {n a0 r}:wc n a0=some r→AC mx 132 [.agg [ql 1 (cL 3 zb.cells) a0.zg]] [] (.tuple [qs r.1,qi r.2]) []:=
 fnL Tryz.func132 rfl<|rgL<|bC 1 A2 uY fun i=>rgL<|bFL (rgL<|rKL A2)<|rgL<|cP 2 (bQ a0.zg)<|blL (fun a=>⟨31,[(5,qs a)]⟩) (fun a=>⟨[],[]⟩) (fun a=>lpL (fun k x=>wm n a0 k x.1 x.2) (([]:Cd),0) A2 (fun x=>⟨31,[(5,qs x.1),(14,ql 1 (cL 3 zb.cells) a0.zg),(15,qi (a0.zg.length)),(16,qi x.2)]⟩) (fun x=>⟨[],[]⟩) fun k x=>by obtain⟨j,b⟩:=x; rw [wm]; exact rgL<|bFL (zp<|bP 0 p7 fun l=>bEL fun m c=>bEL fun o d=>bEL fun s e=>bEL fun f g=>wO zS (kCL 2 A1 (ZN c)<|kCL 3 A1 (XD d)<|kCL 5 A1 (zP e)<|kPL 6 (zQ g) edL)<|zq<|yl zn fun h=>⟨(f,wrap .i64 (b+1)),h,wk A1⟩)<|xjL<|jnL A1) fun a=>bC 2 A1 zP fun u=>rKL A1
def vt (n:Nat)(a0:zd)(a1:Bool):Option (Cd×Int):=
 (xb n (zd.mk a0.zG a0.yy (zC.mk a0.zo.zg)) a1).bind fun a=>
 if a !=0 then(some (([]:Cd),a))else(if a0.zG==4 then((wc n (zC.mk a0.zo.zg)).bind fun b=>
 (zD n (wrap .i64 ((160:Int)+a0.zG)) ([b.1]:List Cd)).bind fun c=>
 some (c,0))else((zD n (wrap .i64 ((128:Int)+a0.zG)) ([a0.yy]:List Cd)).bind fun d=>
 some (d,0)))
theorem Zd {n a0 a1 r}:vt n a0 a1=some r→AC mx 131 [.agg (zd.cells a0),qb a1] [] (.tuple [qs r.1,qi r.2]) []:=
 fnL Tryz.func131 rfl<|rgL<|bC 2 A2 jJ fun a=>rgL<|bFL (rgL<|rKL A2)<|rgL<|bFL (bC 2 A2 gy fun b=>bC 5 A2 zP fun c=>rKL A2)<|bC 6 A2 zP fun d=>rKL A2
def wl (n:Nat)(a0:List zd):Nat→Cd→Int→Option (Ctl (Cd×Int) Cd)
 |0,_,_=>none
 | k+1,d,a=>
  if decide (a<(a0.length:Int))then((zV a0 a).bind fun b=>
  (vt n (zd.mk b.zG b.yy (zC.mk b.zo.zg)) false).bind fun c=>
  if c.2 !=0 then(some (.ret (([]:Cd),c.2)))else((jw d c.1).bind fun e=>
  wl n a0 k e (wrap .i64 (a+1))))else(some (.nxt d))
def uq (n:Nat)(a0:List zd):Option (Cd×Int):=
 if(a0.length:Int)==0 then(some (([]:Cd),7))else(if decide ((a0.length:Int)>16)then(some (([]:Cd),2))else(z8 (wl n a0 n ([]:Cd) 0) (fun r=>some r) (fun a=>
 some (a,0))))
theorem ZU {n a0 r}:uq n a0=some r→AC mx 63 [ql 3 zd.cells a0] [] (.tuple [qs r.1,qi r.2]) []:=
 fnL Tryz.func63 rfl<|rgL<|cP 1 (bA a0)<|bFL (rgL<|rKL A1)<|cP 1 (bA a0)<|bFL (rgL<|rKL A1)<|rgL<|cP 1 (bA a0)<|bcL (fun a=>⟨34,[(4,qs a)]⟩) (fun a=>⟨[],[]⟩) (fun f b=>lpL (fun k x=>wl n a0 k x.1 x.2) (([]:Cd),0) A1 (fun x=>⟨34,[(4,qs x.1),(15,ql 3 zd.cells a0),(16,qi (a0.length)),(17,qi x.2)]⟩) (fun x=>⟨[],[]⟩) fun k x=>by obtain⟨g,c⟩:=x; rw [wl]; exact rgL<|bFL (zp<|bP 0 vG fun i=>bC 1 A2 Zd fun j=>rgL<|bFL (rgL<|hKL b<|rJ A2)<|bEL fun d e=>wO zS (kPL 2 (zQ e) edL)<|zq<|yl zn fun h=>⟨(d,wrap .i64 (c+1)),h,wk A2⟩)<|xjL<|jCL A1) fun a=>rgL<|rKL A1
def xt (n:Nat)(a0:Int):Nat→(List Int)→Int→Option (List Int)
 |0,_,_=>none
 | k+1,b,a=>
  if decide (a≥0)then((Wr .u64 (wrap .u64 a0) (wrap .i64 ((8:Int)*a))).bind fun c=>
  (gL 1 b ([wrap .u8 c]:List Int)).bind fun d=>
  xt n a0 k d (wrap .i64 (a-1)))else(some b)
def xw (n:Nat):Nat→(List Int)→Option (List Int)
 |0,_=>none
 | k+1,a=>
  (if decide ((a.length:Int)>1)then((zV a 0).bind fun b=>
  if b==0 then((zV a 1).bind fun c=>
  if decide (c<128)then(some true)else((zV a 0).bind fun d=>
  if d==255 then((zV a 1).bind fun e=>
  some (decide (e≥128)))else(some false)))else((zV a 0).bind fun f=>
  if f==255 then((zV a 1).bind fun g=>
  some (decide (g≥128)))else(some false)))else(some false)).bind fun i=>
  if i then((lsl a 1 (a.length)).bind fun j=>
  xw n k j)else(some a)
def xr (n:Nat)(a0:Int):Option Cd:=
 (xt n a0 n ([]:List Int) 7).bind fun a=>
 (xw n  n a).bind fun b=>
 some (b2s b)
theorem gv {n a0 r}:xr n a0=some r→AC mx 93 [qi a0] [] (qs r) []:=
 fnL Tryz.func93 rfl<|rgL<|rgL<|rgL<|rgL<|blL (fun a=>⟨51,[(4, .sl 1 (List.map (cI .u8) a) (.fam 0 (a.length)))]⟩) (fun a=>⟨[],[a.length]⟩) (fun a=>xR (wk (fr':=⟨51,[(3, .int .u64 (wrap .u64 a0)),(4,qn),(5,qi 7)]⟩) (st':=⟨[],[]⟩) A1)<|xR Wk.nilFam<|lpL (fun k x=>xt n a0 k x.1 x.2) (([]:List Int),7) A6 (fun x=>⟨51,[(3, .int .u64 (wrap .u64 a0)),(4, .sl 1 (List.map (cI .u8) x.1) (.fam 0 (x.1.length))),(5,qi x.2)]⟩) (fun x=>⟨[],[x.1.length]⟩) fun k x=>by obtain⟨B,d⟩:=x; rw [xt]; exact rgL<|bFL (zp<|bEL fun C f=>bEL fun g i=>wO zS (kPL 4 (nS f)<|lfL (fun z=>kA 7 0 (cI .u8) (e:=5) (e2:=5) (sz:=1) (bytes:=1) (b2:=1) (tok2:= .exact) i z) edL)<|zq<|yl zn fun h=>⟨(g,wrap .i64 (d-1)),h,wk A6⟩)<|xjL<|jnL A6) fun a=>blL (fun b=>⟨51,[(4,ql 1 (cI .u8) b)]⟩) (fun b=>⟨[],[]⟩) (fun b=>lpL (fun k x=>xw n  k x) a Aa (fun x=>⟨51,[(4,ql 1 (cI .u8) x)]⟩) (fun x=>⟨[],[]⟩) fun k c=>by rw [xw]; exact bEL fun j hE=>rgF hE ⟨51,[(4,ql 1 (cI .u8) c),(46,qb j)]⟩ ⟨[],[]⟩ (kPL 1 (VP c)<|gFL 4 23 (bEL fun D l=>kPL 5 (df l)<|gFL 9 28 (bEL fun E m=>kPL 10 (df m)<|gFL 15 34 (eJ A1)<|bEL fun F o=>kPL 16 (df o)<|gFL 20 39 (bEL fun G s=>kPL 21 (df s)<|eJ A1)<|eJ A1)<|bEL fun H u=>kPL 16 (df u)<|gFL 20 39 (bEL fun I v=>kPL 21 (df v)<|eJ A1)<|eJ A1)<|eJ A1)<|bFL (zp<|bEL fun w A=>wO (j7 (P:=Tryz.prog) (gl:=gl0 mx) zn) (kPL 1 (fQ A) edL)<|zq fun h=>⟨w,h,wk A1⟩)<|xjL<|jnL A1) fun b=>rCL (lfL (fun z=>kB 1 b z) edL)<|rKL A1
def xB (n:Nat)(a0:Int):Option Cd:=
 (xr n a0).bind fun a=>
 (zD n 2 ([a]:List Cd)).bind fun b=>
 some b
theorem jr {n a0 r}:xB n a0=some r→AC mx 65 [qi a0] [] (qs r) []:=
 fnL Tryz.func65 rfl<|rgL<|bEL fun c a=>bEL fun d b=>rCL (kCL 1 A1 (gv a)<|kCL 3 A1 (zP b) edL)<|rKL A1
def kX (n:Nat):Option Cd:=
 (uC n ([49,46,51,46,54,46,49,46,52,46,49,46,53,56,56,56,56,46,49,46,49]:Cd)).bind fun a=>
 (zD n 48 ([a]:List Cd)).bind fun b=>
 some b
theorem Yl {n r}:kX n  =some r→AC mx 189 [] [] (qs r) []:=
 fnL Tryz.func189 rfl<|rgL<|bEL fun c a=>bEL fun d b=>rCL (kCL 0 A1 (gz a)<|kCL 2 A1 (zP b) edL)<|rKL A1
def bV (n:Nat)(a0:zF):Option Cd:=
 (qU n a0.zy).bind fun a=>
 (jw a a0.wL).bind fun b=>
 (jw b a0.zY).bind fun c=>
 some c
theorem Ws {n a0 r}:bV n a0=some r→AC mx 190 [.agg (zF.cells a0)] [] (qs r) []:=
 fnL Tryz.func190 rfl<|rgL<|bEL fun e a=>bEL fun f b=>bEL fun c d=>lfL (fun z=>zm [0,1,3,4,6,7,2,5,8,9] [2] [[],[0],[0,1],[],[3],[0,1,2,3,4],[],[6],[0,1,2,3,4,5,6,7],[0,1,2,3,4,5,6,7,8]] [] [(2,qs c)] ⟨[],[]⟩ (dS [0,1,3,4,6,7]<|dC yb A2 (W5 a)<|dP (zQ b)<|dP (zQ d)<|dS [9]<|dE A2) z)<|rKL A1
def uF (n:Nat)(a0:zF):Option (Cd×Int):=
 (wH n a0).bind fun a=>
 if a !=0 then(some (([]:Cd),a))else((kX n).bind fun b=>
 (bV n a0).bind fun c=>
 (jw ([0]:Cd) c).bind fun d=>
 (zD n 3 ([d]:List Cd)).bind fun e=>
 (zD n 48 ([b,e]:List Cd)).bind fun f=>
 some (f,0))
theorem Yr {n a0 r}:uF n a0=some r→AC mx 133 [.agg (zF.cells a0)] [] (.tuple [qs r.1,qi r.2]) []:=
 fnL Tryz.func133 rfl<|rgL<|bC 1 A2 qL fun g=>rgL<|bFL (rgL<|rKL A2)<|bEL fun i b=>bEL fun j c=>bEL fun l a=>bEL fun m d=>bEL fun e f=>lfL (fun z=>zm [1,0,2,3,4,5,6,7,8,9] [0,2,5,7] [[],[],[0,1],[0,1,2],[0,1,2,3],[0,1,2,3,4],[0,1,2,3,4,5],[0,1,2,3,4,5,6],[0,1,2,3,4,5,6,7],[0,1,2,3,4,5,6,7,8]] [] [(2,qs e),(3,qi 0)] ⟨[],[]⟩ (dS [1]<|dC yb A2 (Yl b)<|dC yb A2 (Ws c)<|dP (zQ a)<|dS [4]<|dC (zr 3 (zQ a) yb) A2 (zP d)<|dS [6]<|dC (zr 3 (zQ a) yb) A2 (zP f)<|dS [8,9]<|dE A2) z)<|rKL A1
def xc (n:Nat)(a0:zj):Option (Cd×Int):=
 (yr n (zj.mk (zC.mk a0.zo.zg) (zF.mk a0.zK.zy a0.zK.wL a0.zK.zY))).bind fun b=>
 if b !=0 then(some (([]:Cd),b))else((wc n (zC.mk a0.zo.zg)).bind fun c=>
 (uF n (zF.mk a0.zK.zy a0.zK.wL a0.zK.zY)).bind fun a=>
 if a.2 !=0 then(some (([]:Cd),a.2))else((zD n 48 ([c.1,a.1]:List Cd)).bind fun d=>
 some (d,0)))
theorem bX {n a0 r}:xc n a0=some r→AC mx 66 [.agg [ql 1 (cL 3 zb.cells) a0.zo.zg,qi a0.zK.zy,qs a0.zK.wL,qs a0.zK.zY]] [] (.tuple [qs r.1,qi r.2]) []:=
 fnL Tryz.func66 rfl<|rgL<|bC 1 A2 gi fun a=>rgL<|bFL (rgL<|rKL A2)<|bC 2 A2 gy fun b=>bC 2 A2 Yr fun c=>rgL<|bFL (rgL<|rKL A2)<|bC 3 A2 zP fun d=>rKL A2
def xC (n:Nat)(a0:Cd):Option (Cd×Int):=
 (yZ n 48 ([a0]:List Cd)).bind fun a=>
 if a.2 !=0 then(some (([]:Cd),2))else(some (a.1,0))
theorem jo {n a0 r}:xC n a0=some r→AC mx 67 [qs a0] [] (.tuple [qs r.1,qi r.2]) []:=
 fnL Tryz.func67 rfl<|rgL<|bC 2 A1 wX fun a=>rgL<|bFL (rgL<|rKL A1)<|rgL<|rKL A1
def xW (n:Nat)(a0:zz):Nat→Cd→Int→Option Cd
 |0,_,_=>none
 | k+1,c,b=>
  if decide (b<(a0.zf.length:Int))then((zV a0.zf b).bind fun a=>
  (xc n (zj.mk (zC.mk a.zo.zg) (zF.mk a.zK.zy a.zK.wL a.zK.zY))).bind fun d=>
  (jw c d.1).bind fun e=>
  xW n a0 k e (wrap .i64 (b+1)))else(some c)
def yp (n:Nat)(a0:zz):Option (Cd×Int):=
 (jI n a0).bind fun a=>
 if a !=0 then(some (([]:Cd),a))else((w7 n a0.uB).bind fun b=>
 (if !(a0.zB==([]:Cd))then((vp n a0.zB).bind fun m=>
 (zD n 128 ([m.1]:List Cd)).bind fun o=>
 (jw b.1 o).bind fun s=>
 some s)else(some b.1)).bind fun c=>
 (if a0.yk !=0 then((vD n a0.yk).bind fun u=>
 (zD n 129 ([u.1]:List Cd)).bind fun v=>
 (jw c v).bind fun w=>
 some w)else(some c)).bind fun d=>
 (if decide ((a0.ze.length:Int)>0)then((vb n a0.ze).bind fun A=>
 (zD n 162 ([A]:List Cd)).bind fun B=>
 (jw d B).bind fun C=>
 some C)else(some d)).bind fun D=>
 (ul n 131 a0.wr).bind fun E=>
 (ul n 132 a0.xI).bind fun F=>
 (jw E F).bind fun G=>
 (ul n 133 a0.jy).bind fun H=>
 (jw G H).bind fun I=>
 (jw D I).bind fun e=>
 z8 (if decide ((a0.zw.length:Int)>0)then((uq n a0.zw).bind fun J=>
 (yZ n 166 ([J.1]:List Cd)).bind fun f=>
 if f.2 !=0 then(some (.ret (([]:Cd),2)))else((jw e f.1).bind fun K=>
 some (.nxt K)))else(some (.nxt e))) (fun r=>some r) (fun L=>
 (xB n a0.yj).bind fun M=>
 (ul n 135 a0.uA).bind fun N=>
 (jw M N).bind fun O=>
 (jw L O).bind fun g=>
 if decide ((a0.zf.length:Int)>0)then((xW n a0 n ([]:Cd) 0).bind fun P=>
 (yZ n 168 ([P]:List Cd)).bind fun i=>
 if i.2 !=0 then(some (([]:Cd),2))else((jw g i.1).bind fun Q=>
 (xC n Q).bind fun j=>
 some (j.1,j.2)))else((xC n g).bind fun l=>
 some (l.1,l.2))))
theorem ZJ {n a0 r}:yp n a0=some r→AC mx 15 [.agg (zz.cells a0)] [] (.tuple [qs r.1,qi r.2]) []:=
 fnL Tryz.func15 rfl<|rgL<|bC 1 A2 XB fun P=>rgL<|bFL (rgL<|rKL A2)<|bC 2 A2 ZS fun Q=>rgL<|cuL (fun a=>⟨152,[(1,qp 0),(5,qs a)]⟩) (fun a=>⟨[zz.cells a0],[]⟩) (fun a=>bFL (bC 2 A2 gM fun R=>bEL fun S o=>bEL fun T s=>wO zn (kCL 3 A2 (zP o)<|kPL 4 (zQ s) edL)<|jnL A3)<|jnL A3) fun a=>rgL<|cuL (fun b=>⟨152,[(1,qp 0),(5,qs b)]⟩) (fun b=>⟨[zz.cells a0],[]⟩) (fun b=>bFL (bC 2 A2 Yz fun U=>bEL fun V u=>bEL fun W v=>wO zn (kCL 3 A2 (zP u)<|kPL 4 (zQ v) edL)<|jnL A3)<|jnL A3) fun b=>cP 2 (uu a0.ze)<|cuL (fun c=>⟨152,[(1,qp 0),(5,qs c)]⟩) (fun c=>⟨[zz.cells a0],[]⟩) (fun c=>bFL (bEL fun X w=>bEL fun Y A=>bEL fun Z B=>wO zn (kCL 3 A2 (px w)<|kCL 5 A2 (zP A)<|kPL 6 (zQ B) edL)<|jnL A3)<|jnL A3) fun c=>bEL fun a1 C=>bEL fun a2 D=>bEL fun a3 e=>bEL fun a4 E=>bEL fun a5 i=>bEL fun F j=>lfL (fun z=>zs [0,1,2,4,5,8,9,3,6,7,10,11,12,13] [3,6,10,13] [[],[],[1],[1,2],[],[4],[1,2,3,4,5],[1,2,3,4,5,6],[],[8],[1,2,3,4,5,6,8,9],[1,2,3,4,5,6,7,8,9,10],[0,1,2,3,4,5,6,7,8,9,10,11],[0,1,2,3,4,5,6,7,8,9,10,11,12]] [] [(1,qp 0),(5,qs F)] (dS [0,1,2,4,5,8,9]<|dC yb A2 (qw C)<|dC yb A2 (qw D)<|dP (zQ e)<|dC (zr 7 (zQ e) yb) A2 (qw E)<|dP (zQ i)<|dP (zQ j)<|dF (zr 12 (zQ j) (zr 11 (zQ i) (zr 7 (zQ e) yb)))<|dE A3) z)<|cP 2 (bA a0.zw)<|ccL (fun f=>⟨152,[(1,qp 0),(5,qs f)]⟩) (fun f=>⟨[zz.cells a0],[]⟩) (fun a6 G=>bFL (bC 2 A2 ZU fun a7=>bC 2 A2 wX fun a8=>rgL<|bFL (rgL<|yu<|hvL G<|wx<|rJ A2)<|bEL fun a9 H=>wO zn (kPL 2 (zQ H) edL)<|jCL A3)<|jCL A3) fun f=>bEL fun b0 I=>bEL fun b1 J=>bEL fun b2 l=>bEL fun g m=>lfL (fun z=>zs [0,1,2,4,5,3,6,7,8,9] [3,6,9] [[],[],[1],[1,2],[],[4],[1,2,3,4,5],[1,2,3,4,5,6],[0,1,2,3,4,5,6,7],[0,1,2,3,4,5,6,7,8]] [] [(1,qp 0),(5,qs g)] (dS [0,1,2,4,5]<|dC yb A2 (jr I)<|dC yb A2 (qw J)<|dP (zQ l)<|dP (zQ m)<|dF (zr 8 (zQ m) (zr 7 (zQ l) yb))<|dE A3) z)<|cP 2 (qO a0.zf)<|bFL (rgL<|rgL<|blL (fun d=>⟨152,[(5,qs g),(15,qs d)]⟩) (fun d=>⟨[],[]⟩) (fun d=>lpL (fun k x=>xW n a0 k x.1 x.2) (([]:Cd),0) A3 (fun x=>⟨152,[(1,qp 0),(5,qs g),(15,qs x.1),(16,qi x.2)]⟩) (fun x=>⟨[zz.cells a0],[]⟩) fun k x=>by obtain⟨b3,K⟩:=x; rw [xW]; exact cP 3 (qO a0.zf)<|bFL (zp<|bEL fun b4 L=>bEL fun b5 M=>rCL (kPL 3 (u6 L)<|kCL 5 A2 (bX M) edL)<|bEL fun N O=>wO zS (kPL 2 (zQ O) edL)<|zq<|yl zn fun h=>⟨(N,wrap .i64 (K+1)),h,wk A3⟩)<|xjL<|jnL A2) fun d=>bC 2 A1 wX fun b6=>rgL<|bFL (rgL<|rKL A1)<|bP 2 zQ fun b7=>bC 1 A1 jo fun b8=>rKL A1)<|bC 1 A2 jo fun b9=>rKL A2
def vZ (n:Nat)(b:Int)(a0:Cd):Nat→Int→Int→Option Int
 |0,_,_=>none
 | k+1,c,a=>
  if decide (a<(wrap .i64 ((wrap .i64 b)-128)))then((yw a0 (wrap .i64 ((2:Int)+a))).bind fun d=>
  vZ n b a0 k (wrap .i64 ((wrap .i64 ((256:Int)*c))+(wrap .i64 d))) (wrap .i64 (a+1)))else(some c)
def u5 (n:Nat)(a0:Cd):Option (za×Cd×Int):=
 if(a0.length:Int)==0 then(some ((za.mk 0 ([]:Cd) ([]:Cd)),([]:Cd),3))else((yw a0 0).bind fun d=>
 if(Int.tmod d 32)==31 then(some ((za.mk 0 ([]:Cd) ([]:Cd)),([]:Cd),5))else(if(a0.length:Int)==1 then(some ((za.mk 0 ([]:Cd) ([]:Cd)),([]:Cd),3))else((yw a0 1).bind fun b=>
 (if(wrap .i64 b)==128 then(some true)else(some (decide ((wrap .i64 b)>131)))).bind fun e=>
 if e then(some ((za.mk 0 ([]:Cd) ([]:Cd)),([]:Cd),6))else(z8 (if decide ((wrap .i64 b)>128)then(if decide ((a0.length:Int)<(wrap .i64 ((2:Int)+(wrap .i64 ((wrap .i64 b)-128)))))then(some (.ret ((za.mk 0 ([]:Cd) ([]:Cd)),([]:Cd),3)))else((vZ n b a0 n 0 0).bind fun c=>
 (zV ([0,128,256,65536]:List Int) (wrap .i64 ((wrap .i64 b)-128))).bind fun f=>
 (if decide (c<f)then(some true)else(some (decide (c>131072)))).bind fun g=>
 if g then(some (.ret ((za.mk 0 ([]:Cd) ([]:Cd)),([]:Cd),6)))else(some (.nxt (c,wrap .i64 ((2:Int)+(wrap .i64 ((wrap .i64 b)-128))))))))else(some (.nxt (wrap .i64 b,2)))) (fun r=>some r) (fun a=>
 if decide ((wrap .i64 ((a0.length:Int)-a.2))<a.1)then(some ((za.mk 0 ([]:Cd) ([]:Cd)),([]:Cd),3))else((yw a0 0).bind fun i=>
 (ssl a0 a.2 (wrap .i64 (a.2+a.1))).bind fun j=>
 (ssl a0 0 (wrap .i64 (a.2+a.1))).bind fun l=>
 (ssl a0 (wrap .i64 (a.2+a.1)) (a0.length)).bind fun m=>
 some ((za.mk (wrap .i64 i) j l),m,0)))))))
theorem bY {n a0 r}:u5 n a0=some r→AC mx 134 [qs a0] [] (.tuple [.agg (za.cells r.1),qs r.2.1,qi r.2.2]) []:=
 fnL Tryz.func134 rfl<|rgL<|rgL<|rgL<|bFL (rgL<|rKL A4)<|bP 1 zW fun C=>bFL (rgL<|rKL A4)<|rgL<|bFL (rgL<|rKL A4)<|bP 1 zW fun a=>bEL fun j hE=>rgF hE ⟨99,[(0,qs a0),(2,qp 0),(5,qp 1),(6,qi (wrap .i64 a)),(7,qi 2),(33,qb j)]⟩ ⟨[[qi 0,qs [],qs []],[qi 0,qs [],qs []]],[]⟩ (gFL 3 30 (eJ A5)<|eJ A5)<|bFL (rgL<|rKL A4)<|rgL<|ccL (fun c=>⟨99,[(0,qs a0),(2,qp 0),(5,qp 1),(6,qi c.1),(7,qi c.2)]⟩) (fun c=>⟨[[qi 0,qs [],qs []],[qi 0,qs [],qs []]],[]⟩) (fun D d=>bFL (rgL<|rgL<|bFL (rgL<|yu<|hvL d<|wx<|rJ A4)<|rgL<|rgL<|blL (fun b=>⟨99,[(0,qs a0),(2,qp 0),(5,qp 1),(6,qi b),(8,qi (wrap .i64 ((wrap .i64 a)-128)))]⟩) (fun b=>⟨[[qi 0,qs [],qs []],[qi 0,qs [],qs []]],[]⟩) (fun b=>lpL (fun k x=>vZ n a a0 k x.1 x.2) (0,0) A5 (fun x=>⟨99,[(0,qs a0),(2,qp 0),(5,qp 1),(6,qi x.1),(8,qi (wrap .i64 ((wrap .i64 a)-128))),(9,qi x.2)]⟩) (fun x=>⟨[[qi 0,qs [],qs []],[qi 0,qs [],qs []]],[]⟩) fun k x=>by obtain⟨l,m⟩:=x; rw [vZ]; exact rgL<|bFL (zp<|bEL fun o s=>wO zS (kPL 5 (zW s) edL)<|zq<|yl zn fun h=>⟨(wrap .i64 ((wrap .i64 ((256:Int)*l))+(wrap .i64 o)),wrap .i64 (m+1)),h,wk A5⟩)<|xjL<|jnL A5) fun b=>rgL<|bP 2 Qp fun E=>bEL fun u hE=>rgF hE ⟨99,[(0,qs a0),(2,qp 0),(5,qp 1),(6,qi b),(7,qi (wrap .i64 ((2:Int)+(wrap .i64 ((wrap .i64 a)-128))))),(70,qb u)]⟩ ⟨[[qi 0,qs [],qs []],[qi 0,qs [],qs []]],[]⟩ (gFL 4 67 (eJ A5)<|eJ A5)<|bFL (rgL<|yu<|hvL d<|wx<|rJ A4)<|jCL A5)<|jCL A5) fun c=>rgL<|bFL (rgL<|rKL A4)<|bEL fun v e=>bEL fun w f=>bEL fun A g=>bEL fun B i=>lfL (fun z=>zm [0,1,2,3,4,5,6,7,8,9,10,11,12,13,14,15,16,17,18,19,20,21,22] [20] [[],[0],[0,1],[],[],[],[],[5,6],[3,4,5,6,7],[],[],[],[10,11],[9,10,11,12],[0,1,2,3,4,5,6,7,8,9,10,11,12,13],[],[],[],[16,17],[15,16,17,18],[0,1,2,3,4,5,6,7,8,9,10,11,12,13,14],[0,1,2,3,4,5,6,7,8,9,10,11,12,13,14,15,16,17,18,19,20],[0,1,2,3,4,5,6,7,8,9,10,11,12,13,14,15,16,17,18,19,20,21]] [] [(2,qp 0),(3,qs B),(4,qi 0)] ⟨[[qi (wrap .i64 v),qs w,qs A]],[]⟩ (dS [0]<|dP (zW e)<|dS (zv 2 6)<|dP (zX f)<|dS (zv 9 4)<|dP (uQ g)<|dS (zv 14 5)<|dP (v8 i)<|dF (zr 19 (v8 i) (zr 13 (uQ g) (zr 8 (zX f) (zr 1 (zW e) yb))))<|dS [21,22]<|dE A8) z)<|rKL A2
def uE (n:Nat)(a0:Cd):Option (za×Int):=
 (u5 n a0).bind fun a=>
 if a.2.2 !=0 then(some ((za.mk 0 ([]:Cd) ([]:Cd)),a.2.2))else(if decide ((a.2.1.length:Int)>0)then(some ((za.mk 0 ([]:Cd) ([]:Cd)),4))else(some (a.1,0)))
theorem qC {n a0 r}:uE n a0=some r→AC mx 68 [qs a0] [] (.tuple [.agg (za.cells r.1),qi r.2]) []:=
 fnL Tryz.func68 rfl<|rgL<|bC 1 A2 bY fun a=>rgL<|bFL (rgL<|rKL A4)<|rgL<|bFL (rgL<|rKL A4)<|rgL<|rKL A4
def v7 (n:Nat):Nat→Cd→(List za)→Option (Ctl ((List za)×Int) (List za))
 |0,_,_=>none
 | k+1,b,c=>
  if decide ((b.length:Int)>0)then((u5 n b).bind fun a=>
  if a.2.2 !=0 then(some (.ret (([]:List za),a.2.2)))else((gL 40 c ([a.1]:List za)).bind fun d=>
  v7 n k a.2.1 d))else(some (.nxt c))
def xL (n:Nat)(a0:Cd):Option ((List za)×Int):=
 z8 (v7 n  n a0 ([]:List za)) (fun r=>some r) (fun a=>
 some (a,0))
theorem jc {n a0 r}:xL n a0=some r→AC mx 70 [qs a0] [] (.tuple [ql 3 za.cells r.1,qi r.2]) []:=
 fnL Tryz.func70 rfl<|rgL<|rgL<|bcL (fun a=>⟨26,[(4, .sl 3 (List.map za.cells a) (.fam 0 (a.length)))]⟩) (fun a=>⟨[],[a.length]⟩) (fun g b=>xR (wk (fr':=⟨26,[(0,qs a0),(4,qn)]⟩) (st':=⟨[],[]⟩) A1)<|xR Wk.nilFam<|lpL (fun k x=>v7 n  k x.1 x.2) (a0,([]:List za)) A6 (fun x=>⟨26,[(0,qs x.1),(4, .sl 3 (List.map za.cells x.2) (.fam 0 (x.2.length)))]⟩) (fun x=>⟨[],[x.2.length]⟩) fun k x=>by obtain⟨i,j⟩:=x; rw [v7]; exact rgL<|bFL (zp<|bC 1 Aa bY fun c=>rgL<|bFL (rgL<|hKL b<|rJ Ah)<|bEL fun d f=>wO (j7 (P:=Tryz.prog) (gl:=gl0 mx) zn) (lfL (fun z=>kA 3 0 za.cells (e:=103) (e2:=103) (sz:=3) (bytes:=40) (b2:=40) (tok2:= .exact) f z) edL)<|zq fun h=>⟨(c.2.1,d),h,wk C6⟩)<|xjL<|jCL A6) fun a=>rgL<|rKL Aa
def W8 (n:Nat)(a0:Int):Option Int:=
 if a0==1 then(some 128)else((Je .i64 1 (wrap .u64 ((8:Int)*(wrap .u64 (wrap .i64 (a0-1)))))).bind fun a=>
 some a)
theorem Ku {n a0 r}:W8 n a0=some r→AC mx 238 [qi a0] [] (qi r) []:=
 fnL Tryz.func238 rfl<|rgL<|rgL<|bFL (rgL<|rKL A1)<|bP 4 GJ fun a=>rKL A1
def gD (n:Nat)(a:Cd):Nat→Int→Int→Option Int
 |0,_,_=>none
 | k+1,c,b=>
  if decide (b<(List.length (s2b a):Int))then((zV (s2b a) b).bind fun d=>
  gD n a k (ior .i64 (wrap .i64 (c*256)) (wrap .i64 d)) (wrap .i64 (b+1)))else(some c)
def p6 (n:Nat)(a0:Cd):Option (za×Cd×Int):=
 if a0==([]:Cd)then(some ((za.mk 0 ([]:Cd) ([]:Cd)),([]:Cd),3))else((yw a0 0).bind fun d=>
 if(kY .i64 (wrap .i64 d) 31)==31 then(some ((za.mk 0 ([]:Cd) ([]:Cd)),([]:Cd),5))else(if decide ((a0.length:Int)<2)then(some ((za.mk 0 ([]:Cd) ([]:Cd)),([]:Cd),3))else((yw a0 1).bind fun b=>
 (if(wrap .i64 b)==128 then(some true)else(some (decide ((wrap .i64 b)>131)))).bind fun e=>
 if e then(some ((za.mk 0 ([]:Cd) ([]:Cd)),([]:Cd),6))else(z8 (if decide ((wrap .i64 b)>128)then(if decide ((a0.length:Int)<(wrap .i64 ((2:Int)+(wrap .i64 ((wrap .i64 b)-128)))))then(some (.ret ((za.mk 0 ([]:Cd) ([]:Cd)),([]:Cd),3)))else((ssl a0 2 (wrap .i64 ((2:Int)+(wrap .i64 ((wrap .i64 b)-128))))).bind fun f=>
 (gD n f n 0 0).bind fun c=>
 ((W8 n (wrap .i64 ((wrap .i64 b)-128))).bind fun g=>
 if decide (c<g)then(some true)else(some (decide (c>131072)))).bind fun i=>
 if i then(some (.ret ((za.mk 0 ([]:Cd) ([]:Cd)),([]:Cd),6)))else(some (.nxt (c,wrap .i64 ((2:Int)+(wrap .i64 ((wrap .i64 b)-128))))))))else(some (.nxt (wrap .i64 b,2)))) (fun r=>some r) (fun a=>
 if decide ((wrap .i64 ((a0.length:Int)-a.2))<a.1)then(some ((za.mk 0 ([]:Cd) ([]:Cd)),([]:Cd),3))else((ssl a0 a.2 (wrap .i64 (a.2+a.1))).bind fun j=>
 (ssl a0 0 (wrap .i64 (a.2+a.1))).bind fun l=>
 (ssl a0 (wrap .i64 (a.2+a.1)) (a0.length)).bind fun m=>
 some ((za.mk (wrap .i64 d) j l),m,0)))))))
theorem Xj {n a0 r}:p6 n a0=some r→AC mx 192 [qs a0] [] (.tuple [.agg (za.cells r.1),qs r.2.1,qi r.2.2]) []:=
 fnL Tryz.func192 rfl<|rgL<|rgL<|rgL<|bFL (rgL<|rKL A4)<|bP 1 zW fun a=>rgL<|bFL (rgL<|rKL A4)<|rgL<|bFL (rgL<|rKL A4)<|bP 1 zW fun d=>bEL fun l hE=>rgF hE ⟨99,[(0,qs a0),(2,qp 0),(5,qp 1),(6,qi (wrap .i64 a)),(7,qi (wrap .i64 d)),(8,qi 2),(34,qb l)]⟩ ⟨[[qi 0,qs [],qs []],[qi 0,qs [],qs []]],[]⟩ (gFL 3 31 (eJ A5)<|eJ A5)<|bFL (rgL<|rKL A4)<|rgL<|ccL (fun e=>⟨99,[(0,qs a0),(2,qp 0),(5,qp 1),(6,qi (wrap .i64 a)),(7,qi e.1),(8,qi e.2)]⟩) (fun e=>⟨[[qi 0,qs [],qs []],[qi 0,qs [],qs []]],[]⟩) (fun D f=>bFL (rgL<|rgL<|bFL (rgL<|yu<|hvL f<|wx<|rJ A4)<|rgL<|bEL fun b m=>rCL (kPL 3 (zX m)<|lfL (fun z=>kS 4 b z)<|kPL 5 (VP (s2b b)) edL)<|blL (fun c=>⟨99,[(0,qs a0),(2,qp 0),(5,qp 1),(6,qi (wrap .i64 a)),(7,qi c),(8,qi 2),(9,qi (wrap .i64 ((wrap .i64 d)-128)))]⟩) (fun c=>⟨[[qi 0,qs [],qs []],[qi 0,qs [],qs []]],[]⟩) (fun c=>lpL (fun k x=>gD n b k x.1 x.2) (0,0) A5 (fun x=>⟨99,[(0,qs a0),(2,qp 0),(5,qp 1),(6,qi (wrap .i64 a)),(7,qi x.1),(8,qi 2),(9,qi (wrap .i64 ((wrap .i64 d)-128))),(50,ql 1 (cI .u8) (s2b b)),(51,qi (List.length (s2b b):Int)),(52,qi x.2)]⟩) (fun x=>⟨[[qi 0,qs [],qs []],[qi 0,qs [],qs []]],[]⟩) fun k x=>by obtain⟨o,s⟩:=x; rw [gD]; exact rgL<|bFL (zp<|bP 0 df fun u=>yl zS<|zq<|yl zn fun h=>⟨(ior .i64 (wrap .i64 (o*256)) (wrap .i64 u),wrap .i64 (s+1)),h,wk A5⟩)<|xjL<|jnL A5) fun c=>rgL<|bEL fun v hE=>rgF hE ⟨99,[(0,qs a0),(2,qp 0),(5,qp 1),(6,qi (wrap .i64 a)),(7,qi c),(8,qi (wrap .i64 ((2:Int)+(wrap .i64 ((wrap .i64 d)-128))))),(72,qb v)]⟩ ⟨[[qi 0,qs [],qs []],[qi 0,qs [],qs []]],[]⟩ (bEL fun E w=>kCL 2 A4 (Ku w)<|gFL 5 69 (eJ A5)<|eJ A5)<|bFL (rgL<|yu<|hvL f<|wx<|rJ A4)<|jCL A5)<|jCL A5) fun e=>rgL<|bFL (rgL<|rKL A4)<|bEL fun A g=>bEL fun B i=>bEL fun C j=>lfL (fun z=>zm [0,1,2,3,4,5,6,7,8,9,10,11,12,13,14,15,16,17,18,19,20] [18] [[],[],[],[],[],[3,4],[1,2,3,4,5],[],[],[],[8,9],[7,8,9,10],[0,1,2,3,4,5,6,7,8,9,10,11],[],[],[],[14,15],[13,14,15,16],[0,1,2,3,4,5,6,7,8,9,10,11,12],[0,1,2,3,4,5,6,7,8,9,10,11,12,13,14,15,16,17,18],[0,1,2,3,4,5,6,7,8,9,10,11,12,13,14,15,16,17,18,19]] [] [(2,qp 0),(3,qs C),(4,qi 0)] ⟨[[qi (wrap .i64 a),qs A,qs B]],[]⟩ (dS (zv 0 6)<|dP (zX g)<|dS (zv 7 4)<|dP (uQ i)<|dS (zv 12 5)<|dP (v8 j)<|dF (zr 17 (v8 j) (zr 11 (uQ i) (zr 6 (zX g) yb)))<|dS [19,20]<|dE A8) z)<|rKL A2
def gT (n:Nat)(a0:Cd):Option (za×Int):=
 (p6 n a0).bind fun a=>
 if a.2.2 !=0 then(some ((za.mk 0 ([]:Cd) ([]:Cd)),a.2.2))else(if !(a.2.1==([]:Cd))then(some ((za.mk 0 ([]:Cd) ([]:Cd)),4))else(some (a.1,0)))
theorem dl {n a0 r}:gT n a0=some r→AC mx 136 [qs a0] [] (.tuple [.agg (za.cells r.1),qi r.2]) []:=
 fnL Tryz.func136 rfl<|rgL<|bC 1 A2 Xj fun a=>rgL<|bFL (rgL<|rKL A4)<|rgL<|bFL (rgL<|rKL A4)<|rgL<|rKL A4
def kx (n:Nat)(rc:za→Int→Option Int)(a1:Int):Nat→Cd→Option (Ctl Int Unit)
 |0,_=>none
 | k+1,b=>
  if !(b==([]:Cd))then((p6 n b).bind fun a=>
  if a.2.2 !=0 then(some (.ret a.2.2))else(if decide (a1≥16)then(some (.ret 8))else((rc a.1 (wrap .i64 (a1+1))).bind fun c=>
  if c !=0 then(some (.ret c))else(kx n rc a1 k a.2.1))))else(some (.nxt ()))
def qr (n:Nat):Nat→za→Int→Option Int
 |0,_,_=>none
 | kk+1,a0,a1=>
  if(kY .i64 a0.zA 32)==0 then(some 0)else(z8 (kx n (qr n kk) a1 n a0.zc) (fun r=>some r) (fun a=>
  some 0))
theorem QE {n:Nat}:∀(kk:Nat) {a0:za} {a1:Int} {r:Int} (_:qr n kk a0 a1=some r),AC mx 191 [.agg (za.cells a0),qi a1] [] (qi r) []:=by
 intro kk
 induction kk with
 |zero=>intro a0 a1 r h; simp [qr]at h
 | succ kk ih=>
  intro a0 a1 r h
  rw [qr]at h
  exact imA h<|fnL Tryz.func191 rfl<|rgL<|rgL<|bFL (rgL<|rKL A2)<|rgL<|bcL (fun _=>⟨37,[]⟩) (fun _=>⟨[],[]⟩) (fun c a=>lpL (fun k x=>kx n (qr n kk) a1 k x) a0.zc A2 (fun x=>⟨37,[(1,qi a1),(5,qs x)]⟩) (fun x=>⟨[],[]⟩) fun k d=>by rw [kx]; exact rgL<|bFL (zp<|bC 1 A1 Xj fun b=>rgL<|bFL (rgL<|hKL a<|rJ A2)<|rgL<|bFL (rgL<|hKL a<|rJ A2)<|bC 3 A2 ih fun e=>rgL<|bFL (rgL<|hKL a<|rJ A2)<|yl (j7 (P:=Tryz.prog) (gl:=gl0 mx) zn)<|zq fun h=>⟨b.2.1,h,wk A2⟩)<|xjL<|jCL A1) fun f=>rgL<|rKL A1
def bW (n:Nat)(a0:Cd):Option Int:=
 (gT n a0).bind fun a=>
 if a.2 !=0 then(some a.2)else((qr n n a.1 1).bind fun b=>
 some b)
theorem YB {n a0 r}:bW n a0=some r→AC mx 135 [qs a0] [] (qi r) []:=
 fnL Tryz.func135 rfl<|rgL<|bC 1 A1 dl fun a=>rgL<|bFL (rgL<|rKL A2)<|bC 1 A2 (QE _) fun b=>rKL A2
def gw (n:Nat):Nat→Cd→(List za)→Option (Ctl ((List za)×Int) (List za))
 |0,_,_=>none
 | k+1,b,c=>
  if !(b==([]:Cd))then((p6 n b).bind fun a=>
  if a.2.2 !=0 then(some (.ret (([]:List za),a.2.2)))else((gL 40 c ([a.1]:List za)).bind fun d=>
  gw n k a.2.1 d))else(some (.nxt c))
def kq (n:Nat)(a0:Cd):Option ((List za)×Int):=
 z8 (gw n  n a0 ([]:List za)) (fun r=>some r) (fun a=>
 some (a,0))
theorem kK {n a0 r}:kq n a0=some r→AC mx 201 [qs a0] [] (.tuple [ql 3 za.cells r.1,qi r.2]) []:=
 fnL Tryz.func201 rfl<|rgL<|rgL<|bcL (fun a=>⟨25,[(4, .sl 3 (List.map za.cells a) (.fam 0 (a.length)))]⟩) (fun a=>⟨[],[a.length]⟩) (fun g b=>xR (wk (fr':=⟨25,[(0,qs a0),(4,qn)]⟩) (st':=⟨[],[]⟩) A1)<|xR Wk.nilFam<|lpL (fun k x=>gw n  k x.1 x.2) (a0,([]:List za)) A6 (fun x=>⟨25,[(0,qs x.1),(4, .sl 3 (List.map za.cells x.2) (.fam 0 (x.2.length)))]⟩) (fun x=>⟨[],[x.2.length]⟩) fun k x=>by obtain⟨i,j⟩:=x; rw [gw]; exact rgL<|bFL (zp<|bC 1 Aa Xj fun c=>rgL<|bFL (rgL<|hKL b<|rJ Ah)<|bEL fun d f=>rCL (lfL (fun z=>kA 3 0 za.cells (e:=103) (e2:=103) (sz:=3) (bytes:=40) (b2:=40) (tok2:= .exact) f z) edL)<|yl (j7 (P:=Tryz.prog) (gl:=gl0 mx) zn)<|zq fun h=>⟨(c.2.1,d),h,wk C6⟩)<|xjL<|jCL A6) fun a=>rgL<|rKL Aa
def v6 (n:Nat)(a0:Cd):Option zl:=
 (kq n a0).bind fun a=>
 some (zl.mk a.1 (a.2 !=0))
theorem pi {n a0 r}:v6 n a0=some r→AC mx 165 [qs a0] [] (qp 0) [zl.cells r]:=
 fnL Tryz.func165 rfl<|rgL<|bC 1 A1 kK fun a=>rgL<|rKL A3
def jl (n:Nat)(a0:za):Option zl:=
 (v6 n a0.zc).bind fun a=>
 (if a.z7=true then(some true)else(some (a0.zA !=48))).bind fun b=>
 some (zl.mk a.f_l b)
theorem qX {n a0 r}:jl n a0=some r→AC mx 137 [.agg (za.cells a0)] [] (qp 0) [zl.cells r]:=
 fnL Tryz.func137 rfl<|rgL<|bC 2 A2 pi fun a=>bEL fun b hE=>rgF hE ⟨20,[(3,qp 0)]⟩ ⟨[[ql 3 za.cells a.f_l,qb b]],[]⟩ (gFL 6 12 (eJ A9)<|eJ A9)<|rgL<|rKL A3
def yz (n:Nat)(m0:zl):Option (za×zl):=
 if(m0.f_l.length:Int)==0 then(some ((za.mk 0 ([]:Cd) ([]:Cd)),(zl.mk m0.f_l true)))else((zV m0.f_l 0).bind fun a=>
 (lsl m0.f_l 1 (m0.f_l.length)).bind fun b=>
 some (a,(zl.mk b m0.z7)))
theorem wa {n m0 r}:yz n m0=some r→AC mx 138 [qp 0] [zl.cells m0] (.agg (za.cells r.1)) [zl.cells r.2]:=
 fnL Tryz.func138 rfl<|rgL<|cP 4 (xT m0.f_l)<|bFL (rgL<|rgL<|rKL A8)<|bP 4 yN fun a=>bP 5 UO fun b=>rgL<|rKL Ae
def qI (n:Nat)(a0:Cd):Nat→Int→Int→Option (Ctl Int Int)
 |0,_,_=>none
 | k+1,c,a=>
  if decide (a<(List.length (s2b a0):Int))then((zV (s2b a0) a).bind fun b=>
  (if decide (b<48)then(some true)else(some (decide (b>57)))).bind fun d=>
  if d then(some (.ret (-1)))else(qI n a0 k (wrap .i64 ((wrap .i64 ((10:Int)*c))+(wrap .i64 (wrap .u8 (b-48))))) (wrap .i64 (a+1))))else(some (.nxt c))
def yG (n:Nat)(a0:Cd):Option Int:=
 z8 (qI n a0 n 0 0) (fun r=>some r) (fun a=>
 some a)
theorem qD {n a0 r}:yG n a0=some r→AC mx 193 [qs a0] [] (qi r) []:=
 fnL Tryz.func193 rfl<|rgL<|rgL<|rCL (lfL (fun z=>kS 1 a0 z)<|kPL 2 (VP (s2b a0)) edL)<|bcL (fun a=>⟨27,[(3,qi a)]⟩) (fun a=>⟨[],[]⟩) (fun g e=>lpL (fun k x=>qI n a0 k x.1 x.2) (0,0) A1 (fun x=>⟨27,[(3,qi x.1),(7,ql 1 (cI .u8) (s2b a0)),(8,qi (List.length (s2b a0):Int)),(9,qi x.2)]⟩) (fun x=>⟨[],[]⟩) fun k x=>by obtain⟨b,c⟩:=x; rw [qI]; exact rgL<|bFL (zp<|bP 0 df fun d=>bEL fun f hE=>rgF hE ⟨27,[(3,qi b),(5,qu d),(7,ql 1 (cI .u8) (s2b a0)),(8,qi (List.length (s2b a0):Int)),(9,qi c),(18,qb f)]⟩ ⟨[],[]⟩ (gFL 3 15 (eJ A1)<|eJ A1)<|bFL (rgL<|hKL e<|rJ A1)<|yl zS<|zq<|yl zn fun h=>⟨(wrap .i64 ((wrap .i64 ((10:Int)*b))+(wrap .i64 (wrap .u8 (d-48)))),wrap .i64 (c+1)),h,wk A1⟩)<|xjL<|jCL A1) fun a=>rgL<|rKL A1
def ko (n:Nat)(a0:Int)(a1:Cd):Option yd:=
 (ssl a1 0 2).bind fun a=>
 (ssl a1 2 4).bind fun b=>
 (ssl a1 4 6).bind fun c=>
 (ssl a1 6 8).bind fun d=>
 (ssl a1 8 10).bind fun e=>
 (yG n a).bind fun f=>
 (yG n b).bind fun g=>
 (yG n c).bind fun i=>
 (yG n d).bind fun j=>
 (yG n e).bind fun l=>
 some (yd.mk a0 f g i j l)
theorem Qr {n a0 a1 r}:ko n a0 a1=some r→AC mx 195 [qi a0,qs a1] [] (.agg (yd.cells r)) []:=
 fnL Tryz.func195 rfl<|rgL<|bEL fun w a=>bEL fun A b=>bEL fun B c=>bEL fun C d=>bEL fun D e=>bEL fun f g=>bEL fun i j=>bEL fun l m=>bEL fun o s=>bEL fun u v=>lfL (fun z=>zm [0,1,2,4,5,7,8,10,11,13,14,3,6,9,12,15,16,17] [3,6,9,12,15,17] [[],[],[1],[1,2],[],[4],[1,2,3,4,5],[],[7],[1,2,3,4,5,6,7,8],[],[10],[1,2,3,4,5,6,7,8,9,10,11],[],[13],[1,2,3,4,5,6,7,8,9,10,11,12,13,14],[0,1,2,3,4,5,6,7,8,9,10,11,12,13,14,15],[0,1,2,3,4,5,6,7,8,9,10,11,12,13,14,15,16]] [] [(4,qp 0)] ⟨[[qi a0,qi f,qi i,qi l,qi o,qi u]],[]⟩ (dS [0,1]<|dP (uQ a)<|dS [4]<|dP (zX b)<|dS [7]<|dP (zX c)<|dS [10]<|dP (zX d)<|dS [13]<|dP (zX e)<|dC (zr 14 (zX e) (zr 11 (zX d) (zr 8 (zX c) (zr 5 (zX b) (zr 2 (uQ a) yb))))) A2 (qD g)<|dC (zr 14 (zX e) (zr 11 (zX d) (zr 8 (zX c) (zr 5 (zX b) (zr 2 (uQ a) yb))))) A2 (qD j)<|dC (zr 14 (zX e) (zr 11 (zX d) (zr 8 (zX c) (zr 5 (zX b) (zr 2 (uQ a) yb))))) A2 (qD m)<|dC (zr 14 (zX e) (zr 11 (zX d) (zr 8 (zX c) (zr 5 (zX b) (zr 2 (uQ a) yb))))) A2 (qD s)<|dC (zr 14 (zX e) (zr 11 (zX d) (zr 8 (zX c) (zr 5 (zX b) (zr 2 (uQ a) yb))))) A2 (qD v)<|dS [16]<|dF (zr 14 (zX e) (zr 11 (zX d) (zr 8 (zX c) (zr 5 (zX b) (zr 2 (uQ a) yb)))))<|dE A3) z)<|rKL A2
def WU (n:Nat)(a0:Int):Option Bool:=
 (if(Int.tmod a0 4)==0 then(if(Int.tmod a0 100) !=0 then(some true)else(some ((Int.tmod a0 400)==0)))else(some false)).bind fun a=>
 some a
theorem Kk {n a0 r}:WU n a0=some r→AC mx 228 [qi a0] [] (qb r) []:=
 fnL Tryz.func228 rfl<|rgL<|bEL fun a hE=>rgF hE ⟨16,[(2,qb a)]⟩ ⟨[],[]⟩ (gFL 4 6 (gFL 8 10 (eJ A1)<|eJ A1)<|eJ A1)<|rKL A1
def kO (n:Nat)(a0 a1:Int):Option Int:=
 (if a1==2 then((WU n a0).bind fun a=>
 some a)else(some false)).bind fun b=>
 if b then(some 29)else((pq 12 (wrap .i64 (a1-1))).bind fun c=>
 ((BA)[(0+c*1)]?).bind fun d=>
 some d)
theorem dv {n a0 a1 r}:kO n a0 a1=some r→AC mx 173 [qi a0,qi a1] [] (qi r) []:=
 fnL Tryz.func173 rfl<|rgL<|bEL fun a hE=>rgF hE ⟨15,[(1,qi a1),(10,qb a)]⟩ ⟨[],[]⟩ (gFL 3 7 (bEL fun i b=>kCL 4 A1 (Kk b)<|eJ A1)<|eJ A1)<|bFL (rgL<|rKL A1)<|bEL fun d e=>bEL fun j f=>rCL (kPL 2 (zaP (g:=0) (off:=0) (sz:=1) e)<|kPL 3 (mt (c:=vI .i64) (l:=BA) (off:=(0+d*1)) f) edL)<|rKL A1
def ZY (n:Nat)(a0:Int):Option Int:=
 some (wrap .i64 ((wrap .i64 ((wrap .i64 (Int.tdiv a0 4))-(wrap .i64 (Int.tdiv a0 100))))+(wrap .i64 (Int.tdiv a0 400))))
theorem YI {n a0 r}:ZY n a0=some r→AC mx 227 [qi a0] [] (qi r) []:=
 fnL Tryz.func227 rfl<|rgL<|rgL<|rKL A1
def dN (n:Nat)(a0:Int):Option Int:=
 (ZY n (wrap .i64 (a0-1))).bind fun a=>
 (ZY n 1949).bind fun b=>
 some (wrap .i64 ((wrap .i64 ((wrap .i64 ((365:Int)*(wrap .i64 (a0-1950))))+a))-b))
theorem Zi {n a0 r}:dN n a0=some r→AC mx 172 [qi a0] [] (qi r) []:=
 fnL Tryz.func172 rfl<|rgL<|rgL<|bEL fun c a=>bEL fun d b=>rCL (kCL 6 A1 (YI a)<|kCL 9 A1 (YI b) edL)<|rKL A1
def qc (n:Nat)(a0:yd):Nat→Int→Int→Option Int
 |0,_,_=>none
 | k+1,b,a=>
  if decide (a<a0.qo)then((kO n a0.kZ a).bind fun c=>
  qc n a0 k (wrap .i64 (b+c)) (wrap .i64 (a+1)))else(some b)
def uG (n:Nat)(a0:yd):Option (Int×Int):=
 (if decide (a0.kZ<1950)then(some true)else(if decide (a0.kZ>9999)then(some true)else(if decide (a0.qo<1)then(some true)else(if decide (a0.qo>12)then(some true)else(if decide (a0.pp<1)then(some true)else((kO n a0.kZ a0.qo).bind fun a=>
 some (decide (a0.pp>a)))))))).bind fun b=>
 if b then(some (0,12))else((if decide (a0.pf<0)then(some true)else(if decide (a0.pf>23)then(some true)else(if decide (a0.qS<0)then(some true)else(if decide (a0.qS>59)then(some true)else(if decide (a0.qW<0)then(some true)else(some (decide (a0.qW>59)))))))).bind fun c=>
 if c then(some (0,12))else((dN n a0.kZ).bind fun d=>
 (qc n a0 n (wrap .i64 ((wrap .i64 (d+a0.pp))-1)) 1).bind fun e=>
 some (wrap .i64 ((wrap .i64 ((wrap .i64 ((wrap .i64 ((86400:Int)*e))+(wrap .i64 ((3600:Int)*a0.pf))))+(wrap .i64 ((60:Int)*a0.qS))))+a0.qW),0)))
theorem UV {n a0 r}:uG n a0=some r→AC mx 194 [.agg (yd.cells a0)] [] (.tuple [qi r.1,qi r.2]) []:=
 fnL Tryz.func194 rfl<|rgL<|bEL fun c hE=>lfL (fun z=>drw [0,1,2,3,4,5,6,7,8,9,10,11,12,13,14,15,16,17,18,19,20,21,22,23,24,25,26,27,28,29,30,31,32] [30] [[],[0],[0,1],[0,1,2],zv 0 4,zv 0 5,zv 0 6,zv 0 7,zv 0 8,zv 0 9,zv 0 10,zv 0 11,zv 0 12,zv 0 13,zv 0 14,zv 0 15,zv 0 16,zv 0 17,zv 0 18,zv 0 19,zv 0 20,zv 0 21,zv 0 22,zv 0 23,zv 0 24,zv 0 25,zv 0 24,zv 0 24 ++ [26],zv 0 24,zv 0 24 ++ [28],zv 0 24++zv 26 4,zv 0 31,zv 0 32] ⟨99,[(1,qp 0),(38,qb c)]⟩ ⟨[yd.cells a0],[]⟩ (have h:=hE; dS (zv 0 4)<|hF 9 h (fun h=>dS (zv 4 26)<|dF yb<|dS [31,32]<|by cases h; exact dE A3) fun h=>dS (zv 4 5)<|hF 14 h (fun h=>dS (zv 9 21)<|dF yb<|dS [31,32]<|by cases h; exact dE A3) fun h=>dS (zv 9 5)<|hF 19 h (fun h=>dS (zv 14 16)<|dF yb<|dS [31,32]<|by cases h; exact dE A3) fun h=>dS (zv 14 5)<|hF 24 h (fun h=>dS (zv 19 11)<|dF yb<|dS [31,32]<|by cases h; exact dE A3) fun h=>dS (zv 19 5)<|hF 29 h (fun h=>dS (zv 24 6)<|dF yb<|dS [31,32]<|by cases h; exact dE A3) fun h=>bE h fun m d h=>dS (zv 24 6)<|dC yb A2 (dv d)<|dS [31,32]<|by cases h; exact dE A3) z)<|bFL (rgL<|rKL A2)<|bEL fun e hE=>rgF hE ⟨99,[(1,qp 0),(66,qb e)]⟩ ⟨[yd.cells a0],[]⟩ (gFL 4 42 (eJ A3)<|gFL 9 47 (eJ A3)<|gFL 14 52 (eJ A3)<|gFL 19 57 (eJ A3)<|gFL 24 62 (eJ A3)<|eJ A3)<|bFL (rgL<|rKL A2)<|bEL fun b f=>lfL (fun z=>zs [0,1,3,4,2,5,6,7] [2] [[],[0],[0,1],[],[3],[0,1,2,3,4],[0,1,2,3,4,5],[0,1,2,3,4,5,6]] [] [(1,qp 0),(4,qi (wrap .i64 ((wrap .i64 (b+a0.pp))-1)))] (dS [0,1,3,4]<|dC yb A2 (Zi f)<|dS [5,6,7]<|dE A3) z)<|rgL<|blL (fun a=>⟨99,[(1,qp 0),(4,qi a)]⟩) (fun a=>⟨[yd.cells a0],[]⟩) (fun a=>lpL (fun k x=>qc n a0 k x.1 x.2) (wrap .i64 ((wrap .i64 (b+a0.pp))-1),1) A3 (fun x=>⟨99,[(1,qp 0),(4,qi x.1),(5,qi x.2)]⟩) (fun x=>⟨[yd.cells a0],[]⟩) fun k x=>by obtain⟨g,i⟩:=x; rw [qc]; exact rgL<|bFL (zp<|bEL fun j l=>wO zS (kCL 4 A2 (dv l) edL)<|zq<|yl zn fun h=>⟨(wrap .i64 (g+j),wrap .i64 (i+1)),h,wk A3⟩)<|xjL<|jnL A3) fun a=>rgL<|rKL A2
def yE (n:Nat)(a0:Int)(a1:Cd):Option (Int×Int):=
 z8 (if a0==23 then(some (.nxt 2))else(if a0==24 then(some (.nxt 4))else(some (.ret (0,5))))) (fun r=>some r) (fun a=>
 (if(a1.length:Int) !=(wrap .i64 (a+11))then(some true)else((yw a1 (wrap .i64 (a+10))).bind fun d=>
 some (d !=90))).bind fun e=>
 if e then(some (0,12))else((ssl a1 0 a).bind fun f=>
 (yG n f).bind fun b=>
 z8 ((if decide (b<0)then(some true)else(if a==4 then(some (decide (b<2050)))else(some false))).bind fun g=>
 if g then(some (.ret (0,12)))else((if a==2 then(some (decide (b≥50)))else(some false)).bind fun i=>
 if i then(some (.nxt (wrap .i64 (b+1900))))else(if a==2 then(some (.nxt (wrap .i64 (b+2000))))else(some (.nxt b))))) (fun r=>some r) (fun j=>
 (ssl a1 a (a1.length)).bind fun l=>
 (ko n j l).bind fun m=>
 (uG n m).bind fun c=>
 some (c.1,c.2))))
theorem Qe {n a0 a1 r}:yE n a0 a1=some r→AC mx 139 [qi a0,qs a1] [] (.tuple [qi r.1,qi r.2]) []:=
 fnL Tryz.func139 rfl<|rgL<|rgL<|rgL<|bcL (fun a=>⟨62,[(1,qs a1),(6,qi a)]⟩) (fun a=>⟨[],[]⟩) (fun v d=>rgL<|bFL (yl xh<|jCL A1)<|rgL<|bFL (yl xh<|jCL A1)<|rgL<|yu<|hvL d<|yi<|rJ A1) fun a=>bEL fun e hE=>rgF hE ⟨62,[(1,qs a1),(6,qi a),(24,qb e)]⟩ ⟨[],[]⟩ (gFL 6 18 (eJ A1)<|bEL fun w f=>kPL 9 (zW f)<|eJ A1)<|bFL (rgL<|rKL A1)<|bEL fun A g=>bEL fun c i=>rCL (kPL 2 (uQ g)<|kCL 3 A1 (qD i) edL)<|bcL (fun b=>⟨62,[(1,qs a1),(6,qi a),(7,qi b)]⟩) (fun b=>⟨[],[]⟩) (fun B j=>bEL fun l hE=>rgF hE ⟨62,[(1,qs a1),(6,qi a),(7,qi c),(29,qb l)]⟩ ⟨[],[]⟩ (gFL 3 32 (eJ A1)<|gFL 6 35 (eJ A1)<|eJ A1)<|bFL (rgL<|yu<|hvL j<|yi<|rJ A1)<|bEL fun m hE=>rgF hE ⟨62,[(1,qs a1),(6,qi a),(7,qi c),(40,qb m)]⟩ ⟨[],[]⟩ (gFL 3 43 (eJ A1)<|eJ A1)<|bFL (yl xh<|jCL A1)<|rgL<|bFL (yl xh<|jCL A1)<|jCL A1) fun b=>bEL fun C o=>bEL fun D s=>bEL fun E u=>rCL (kPL 3 (v8 o)<|kCL 4 A1 (Qr s)<|kCL 5 A1 (UV u) edL)<|rKL A1
def zL (n:Nat)(a1:Int)(m0:zl):Option zl:=
 (if m0.z7=true then(some true)else(some (a1 !=0))).bind fun a=>
 some (zl.mk m0.f_l a)
theorem xJ {n a1 m0 r}:zL n a1 m0=some r→AC mx 140 [qp 0,qi a1] [zl.cells m0] (.tuple []) [zl.cells r]:=
 fnL Tryz.func140 rfl<|bEL fun a hE=>BW hE Zr ⟨15,[]⟩ ⟨[[ql 3 za.cells m0.f_l,qb a]],[]⟩ (gFL 6 9 (eJ A3)<|eJ A3)<|nJ A3
def yS (n:Nat)(a1:Int)(m0:zl):Option (za×Bool×zl):=
 (if(m0.f_l.length:Int)==0 then(some true)else((zV m0.f_l 0).bind fun b=>
 some (b.zA !=a1))).bind fun c=>
 if c then(some ((za.mk 0 ([]:Cd) ([]:Cd)),false,m0))else((yz n m0).bind fun a=>
 some (a.1,true,a.2))
theorem vu {n a1 m0 r}:yS n a1 m0=some r→AC mx 141 [qp 0,qi a1] [zl.cells m0] (.tuple [.agg (za.cells r.1),qb r.2.1]) [zl.cells r.2.2]:=
 fnL Tryz.func141 rfl<|rgL<|bEL fun a hE=>rgF hE ⟨26,[(0,qp 0),(4,qp 1),(22,qb a)]⟩ ⟨[zl.cells m0,[qi 0,qs [],qs []]],[]⟩ (kPL 4 (xT m0.f_l)<|gFL 7 12 (eJ A5)<|bEL fun c b=>kPL 11 (yN b)<|eJ A5)<|bFL (rgL<|rKL A8)<|bC 1 A8 wa fun d=>rKL A8
def wP (n:Nat)(a0:Cd)(d:List Int):Nat→Int→Int→Option (Ctl (List Int) ((List Int)×Int))
 |0,_,_=>none
 | k+1,a,c=>
  if decide (a<(a0.length:Int))then((yw a0 a).bind fun b=>
  if decide ((ior .i64 (wrap .i64 (c*128)) (kY .i64 (wrap .i64 b) 127))>4294967294)then(some (.ret ([]:List Int)))else(if decide ((wrap .i64 b)<128)then((gL 8 d ([ior .i64 (wrap .i64 (c*128)) (kY .i64 (wrap .i64 b) 127)]:List Int)).bind fun e=>
  some (.nxt (e,wrap .i64 (a+1))))else(wP n a0 d k (wrap .i64 (a+1)) (ior .i64 (wrap .i64 (c*128)) (kY .i64 (wrap .i64 b) 127)))))else(some (.ret ([]:List Int)))
def wN (n:Nat)(a0:Cd):Nat→(List Int)→Int→Option (Ctl (List Int) (List Int))
 |0,_,_=>none
 | k+1,b,a=>
  if decide (a<(a0.length:Int))then(z8 ((yw a0 a).bind fun d=>
  if d==128 then(some (.ret ([]:List Int)))else(wP n a0 b n a 0)) (fun r=>some (.ret r)) (fun c=>
  wN n a0 k c.1 c.2))else(some (.nxt b))
def bc (n:Nat)(a0:Cd):Option (List Int):=
 z8 (wN n a0 n ([]:List Int) 0) (fun r=>some r) (fun a=>
 some a)
theorem JS {n a0 r}:bc n a0=some r→AC mx 196 [qs a0] [] (ql 1 (cI .i64) r) []:=
 fnL Tryz.func196 rfl<|rgL<|sr<|rgL<|rgL<|rY<|bcL (fun b=>⟨39,[(3, .sl 1 (List.map (cI .i64) b) (.fam 0 (b.length)))]⟩) (fun b=>⟨[],[b.length]⟩) (fun o d=>xR (wk (fr':=⟨39,[(0,qs a0),(3,qn),(4,qi 0)]⟩) (st':=⟨[],[]⟩) A1)<|xR Wk.nilFam<|lpL (fun k x=>wN n a0 k x.1 x.2) (([]:List Int),0) A6 (fun x=>⟨39,[(0,qs a0),(3, .sl 1 (List.map (cI .i64) x.1) (.fam 0 (x.1.length))),(4,qi x.2)]⟩) (fun x=>⟨[],[x.1.length]⟩) fun k x=>by obtain⟨c,g⟩:=x; rw [wN]; exact rgL<|bFL (nV zn (fun a=>⟨39,[(0,qs a0),(3, .sl 1 (List.map (cI .i64) a.1) (.fam 0 (a.1.length))),(4,qi a.2)]⟩) (fun a=>⟨[],[a.1.length]⟩) (fun s f=>bP 2 zW fun u=>bFL (rgL<|yu<|hvL f<|yi<|wx<|hvL d<|yi<|lfL (fun z=>DC z)<|rJ Aa)<|rgL<|zp<|lpL (fun k x=>wP n a0 c k x.1 x.2) (g,0) A6 (fun x=>⟨39,[(0,qs a0),(3, .sl 1 (List.map (cI .i64) c) (.fam 0 (c.length))),(4,qi x.1),(5,qi x.2)]⟩) (fun x=>⟨[],[c.length]⟩) fun k x=>by obtain⟨i,j⟩:=x; rw [wP]; exact rgL<|bFL (zp<|bP 2 zW fun l=>rgL<|rgL<|rgL<|bFL (rgL<|yu<|yO<|wx<|yO<|hvL f<|yi<|wx<|hvL d<|yi<|lfL (fun z=>DC z)<|rJ Aa)<|rgL<|bFL (bEL fun v m=>rCL (lfL (fun z=>kA 3 0 (cI .i64) (e:=3) (e2:=3) (sz:=1) (bytes:=8) (b2:=8) (tok2:= .exact) m z) edL)<|bz<|gG<|Xn<|gG<|db<|jCL A6)<|zq fun h=>⟨(wrap .i64 (i+1),ior .i64 (wrap .i64 (j*128)) (kY .i64 (wrap .i64 l) 127)),h,wk A6⟩)<|bz<|Xn<|VG<|rgL<|yu<|hvL f<|yi<|wx<|hvL d<|yi<|lfL (fun z=>DC z)<|rJ Aa) fun a=>fun h=>⟨(a.1,a.2),h,wk A6⟩)<|xjL<|jCL A6) fun b=>rgL<|yu<|lfL (fun z=>DC z)<|rJ Aa
def kD (n:Nat)(a:List Int):Nat→(List Cd)→Int→Option (Ctl (Cd×Int) (List Cd))
 |0,_,_=>none
 | k+1,c,b=>
  if decide (b<(a.length:Int))then((zV a b).bind fun d=>
  if decide (d>2147483647)then(some (.ret (([]:Cd),11)))else((JP n d).bind fun e=>
  (gL 16 c ([e]:List Cd)).bind fun f=>
  kD n a k f (wrap .i64 (b+1))))else(some (.nxt c))
def yq (n:Nat)(a0:Cd):Option (Cd×Int):=
 (bc n a0).bind fun b=>
 (if(b.length:Int)==0 then(some true)else(some (decide ((b.length:Int)>11)))).bind fun e=>
 if e then(some (([]:Cd),11))else((zV b 0).bind fun a=>
 ((zV b 0).bind fun c=>
 (lsl b 1 (b.length)).bind fun d=>
 if List.isEmpty d then(some ([if 2<(wrap .i64 (Int.tdiv a 40))then 2 else wrap .i64 (Int.tdiv a 40),wrap .i64 (c-(wrap .i64 ((40:Int)*(if 2<(wrap .i64 (Int.tdiv a 40))then 2 else wrap .i64 (Int.tdiv a 40)))))]:List Int))else((pb 8 ([if 2<(wrap .i64 (Int.tdiv a 40))then 2 else wrap .i64 (Int.tdiv a 40),wrap .i64 (c-(wrap .i64 ((40:Int)*(if 2<(wrap .i64 (Int.tdiv a 40))then 2 else wrap .i64 (Int.tdiv a 40)))))]:List Int) d).bind fun f=>
 some f)).bind fun g=>
 z8 (kD n g n ([]:List Cd) 0) (fun r=>some r) (fun i=>
 (Wc n i ([46]:Cd)).bind fun j=>
 some (j,0)))
theorem dU {n a0 r}:yq n a0=some r→AC mx 142 [qs a0] [] (.tuple [qs r.1,qi r.2]) []:=
 fnL Tryz.func142 rfl<|rgL<|bC 1 A1 JS fun f=>bEL fun j hE=>rgF hE ⟨52,[(4,ql 1 (cI .i64) f),(19,qb j)]⟩ ⟨[],[]⟩ (kPL 1 (bD f)<|gFL 4 15 (eJ A1)<|kPL 5 (bD f)<|eJ A1)<|bFL (rgL<|rKL A1)<|bP 1 xY fun d=>bEL fun a hE=>lfL (fun z=>drw [0,1,2,3,4,5,6,7,8,9,10,11] [10] [[],[],[1],[1,2],[],[4],zv 1 5,zv 0 7,[],[8],zv 0 10,zv 0 11] ⟨52,[(6,ql 1 (cI .i64) a)]⟩ ⟨[],[]⟩ (have h:=hE; bE h fun m g h=>bE h fun o i h=>dS [0,1]<|dP (xY g)<|dS (zv 3 6)<|dP (gP i)<|kF h (fun hb h=>dV (zr 9 (gP i) (zr 2 (xY g) yb)) 0 0 0 (Df (T:=tyT) (c:=(cI .i64)) (l:=([if 2<(wrap .i64 (Int.tdiv d 40))then 2 else wrap .i64 (Int.tdiv d 40),wrap .i64 (m-(wrap .i64 ((40:Int)*(if 2<(wrap .i64 (Int.tdiv d 40))then 2 else wrap .i64 (Int.tdiv d 40)))))]:List Int)) (l2:=o) (e:=3) (e2:=3) (sz:=1) (bytes:=8) (b2:=8) (tok:= .exact) (tok2:= .none) (cell:=none) O7 hb)<|dS [11]<|by cases h; exact dE A1) fun hb h=>bE h fun C s h=>dV (zr 9 (gP i) (zr 2 (xY g) yb)) 0 0 0 (VS (T:=tyT) (c:=(cI .i64)) (e:=3) (e2:=3) (sz:=1) (bytes:=8) (b2:=8) (tok2:= .none) (cell:=none) O7 s)<|dS [11]<|by cases h; exact dE Aa) z)<|rgL<|cP 1 (bD a)<|bcL (fun b=>⟨52,[(7, .sl 1 (List.map cS b) (.fam 0 (b.length)))]⟩) (fun b=>⟨[],[b.length]⟩) (fun D u=>xR (wk (fr':=⟨52,[(7,qn),(36,ql 1 (cI .i64) a),(37,qi (a.length)),(38,qi 0)]⟩) (st':=⟨[],[]⟩) A1)<|xR Wk.nilFam<|lpL (fun k x=>kD n a k x.1 x.2) (([]:List Cd),0) A6 (fun x=>⟨52,[(7, .sl 1 (List.map cS x.1) (.fam 0 (x.1.length))),(36,ql 1 (cI .i64) a),(37,qi (a.length)),(38,qi x.2)]⟩) (fun x=>⟨[],[x.1.length]⟩) fun k x=>by obtain⟨E,v⟩:=x; rw [kD]; exact rgL<|bFL (zp<|bP 0 xY fun F=>rgL<|bFL (rgL<|hKL u<|rJ Aa)<|bEL fun G w=>bEL fun A B=>wO zS (kCL 2 Aa (fM w)<|lfL (fun z=>kA 4 0 cS (e:=9) (e2:=9) (sz:=1) (bytes:=16) (b2:=16) (tok2:= .exact) B z) edL)<|zq<|yl zn fun h=>⟨(A,wrap .i64 (v+1)),h,wk A6⟩)<|xjL<|jCL A6) fun b=>bC 1 Aa Bz fun H=>rKL Aa
def ge (n:Nat)(a0:Cd)(a1:Int):Option Bool:=
 if a1==0 then(some true)else((if !(a0==([]:Cd))then((yw a0 (wrap .i64 ((a0.length:Int)-1))).bind fun a=>
 (Je .u8 1 (wrap .u64 a1)).bind fun b=>
 some ((kY .u8 a (wrap .u8 (b-1)))==0))else(some false)).bind fun c=>
 some c)
theorem Wz {n a0 a1 r}:ge n a0 a1=some r→AC mx 213 [qs a0,qi a1] [] (qb r) []:=
 fnL Tryz.func213 rfl<|rgL<|rgL<|bFL (rgL<|rKL A1)<|bEL fun a hE=>rgF hE ⟨22,[(4,qb a)]⟩ ⟨[],[]⟩ (gFL 3 9 (bEL fun d b=>bEL fun e c=>kPL 7 (zW b)<|kPL 10 (Gs c)<|eJ A1)<|eJ A1)<|rKL A1
def kc (n:Nat)(a0:Cd):Option (Cd×Int×Int):=
 (if a0==([]:Cd)then(some true)else((yw a0 0).bind fun a=>
 if decide (a>7)then(some true)else((ssl a0 1 (a0.length)).bind fun b=>
 (yw a0 0).bind fun c=>
 (ge n b (wrap .i64 c)).bind fun d=>
 some (!d)))).bind fun e=>
 if e then(some (([]:Cd),0,7))else((ssl a0 1 (a0.length)).bind fun f=>
 (yw a0 0).bind fun g=>
 some (f,wrap .i64 g,0))
theorem Vk {n a0 r}:kc n a0=some r→AC mx 198 [qs a0] [] (.tuple [qs r.1,qi r.2.1,qi r.2.2]) []:=
 fnL Tryz.func198 rfl<|rgL<|bEL fun d hE=>lfL (fun z=>drw [0,1,2,3,4,5,6,7,8,9,10,11,12,13,14,15] [13] [[],[0],[0,1],[0,1,2],zv 0 4,zv 0 5,zv 0 6,zv 0 7,zv 0 8,zv 0 9,zv 0 8,zv 0 8 ++ [10],zv 0 8 ++ [10,11],zv 0 13,zv 0 14,zv 0 15] ⟨26,[(0,qs a0),(20,qb d)]⟩ ⟨[],[]⟩ (have h:=hE; dS [0,1,2]<|hF 7 h (fun h=>dS (zv 3 10)<|dF yb<|dS [14,15]<|by cases h; exact dE A1) fun h=>bE h fun l a h=>dS [3]<|dP (zW a)<|dS [5,6,7]<|hF 12 h (fun h=>dS (zv 8 5)<|dF (zr 4 (zW a) yb)<|dS [14,15]<|by cases h; exact dE A1) fun h=>bE h fun m b h=>bE h fun o c h=>bE h fun s e h=>dS [8]<|dP (v8 b)<|dS [10]<|dP (zW c)<|dS [12]<|dC (zr 11 (zW c) (zr 9 (v8 b) (zr 4 (zW a) yb))) A1 (Wz e)<|dS [14,15]<|by cases h; exact dE A1) z)<|bFL (rgL<|rKL A1)<|bEL fun f g=>bEL fun i j=>lfL (fun z=>zs [0,1,2,3,4,5,6,7] [] [[],[0],[],[2],[2,3],[0,1],[0,1,2,3,4,5],[0,1,2,3,4,5,6]] [] [(2,qs f),(3,qi (wrap .i64 i)),(4,qi 0)] (dS [0]<|dP (v8 g)<|dS [2]<|dP (zW j)<|dS (zv 4 4)<|dE A1) z)<|rKL A1
def Zc (n:Nat)(a0:Cd)(a1:Int):Option Bool:=
 (yw a0 (wrap .i64 (Int.tdiv a1 8))).bind fun a=>
 (Wr .u8 a (wrap .u64 ((7:Int)-(wrap .u64 (Int.tmod a1 8))))).bind fun b=>
 some ((kY .u8 b 1)==1)
theorem V5 {n a0 a1 r}:Zc n a0 a1=some r→AC mx 199 [qs a0,qi a1] [] (qb r) []:=
 fnL Tryz.func199 rfl<|rgL<|bEL fun c a=>bEL fun d b=>rCL (kPL 3 (zW a)<|kPL 8 (nx b) edL)<|rKL A1
def ku (n:Nat)(a:(Cd×Int×Int)):Nat→Int→Int→Option Int
 |0,_,_=>none
 | k+1,c,b=>
  if decide (b<(wrap .i64 ((wrap .i64 ((8:Int)*(a.1.length:Int)))-a.2.1)))then(((Zc n a.1 b).bind fun d=>
  if d then((Je .i64 1 (wrap .u64 b)).bind fun e=>
  some (ior .i64 c e))else(some c)).bind fun f=>
  ku n a k f (wrap .i64 (b+1)))else(some c)
def u9 (n:Nat)(a0:Cd):Option (Int×Int):=
 (kc n a0).bind fun a=>
 if a.2.2 !=0 then(some (0,a.2.2))else((if decide ((wrap .i64 ((wrap .i64 ((8:Int)*(a.1.length:Int)))-a.2.1))>0)then((Zc n a.1 (wrap .i64 ((wrap .i64 ((wrap .i64 ((8:Int)*(a.1.length:Int)))-a.2.1))-1))).bind fun b=>
 some (!b))else(some false)).bind fun c=>
 if c then(some (0,7))else(if decide ((wrap .i64 ((wrap .i64 ((8:Int)*(a.1.length:Int)))-a.2.1))>16)then(some (0,1))else((ku n a n 0 0).bind fun d=>
 some (d,0))))
theorem QM {n a0 r}:u9 n a0=some r→AC mx 143 [qs a0] [] (.tuple [qi r.1,qi r.2]) []:=
 fnL Tryz.func143 rfl<|rgL<|bC 1 A1 Vk fun a=>rgL<|bFL (rgL<|rKL A1)<|rgL<|bEL fun e hE=>rgF hE ⟨49,[(4,qs a.1),(7,qi (wrap .i64 ((wrap .i64 ((8:Int)*(a.1.length:Int)))-a.2.1))),(32,qb e)]⟩ ⟨[],[]⟩ (gFL 3 26 (bEL fun i f=>kCL 6 A1 (V5 f)<|eJ A1)<|eJ A1)<|bFL (rgL<|rKL A1)<|rgL<|bFL (rgL<|rKL A1)<|rgL<|rgL<|blL (fun c=>⟨49,[(8,qi c)]⟩) (fun c=>⟨[],[]⟩) (fun c=>lpL (fun k x=>ku n a k x.1 x.2) (0,0) A1 (fun x=>⟨49,[(4,qs a.1),(8,qi x.1),(35,qi (wrap .i64 ((wrap .i64 ((8:Int)*(a.1.length:Int)))-a.2.1))),(36,qi x.2)]⟩) (fun x=>⟨[],[]⟩) fun k x=>by obtain⟨j,d⟩:=x; rw [ku]; exact rgL<|bFL (blL (fun b=>⟨49,[(4,qs a.1),(8,qi b),(35,qi (wrap .i64 ((wrap .i64 ((8:Int)*(a.1.length:Int)))-a.2.1))),(36,qi d)]⟩) (fun b=>⟨[],[]⟩) (fun b=>rgL<|bC 2 A1 V5 fun l=>bFL (bEL fun m g=>wO xh (kPL 3 (GJ g) edL)<|jnL A1)<|jnL A1) fun b=>yl zn fun h=>⟨(b,wrap .i64 (d+1)),h,wk A1⟩)<|xjL<|jnL A1) fun c=>rgL<|rKL A1
def wM (n:Nat):Nat→(List Cd)→(List za)→Bool→(List za)→Bool→Option ((List Cd)×(List za)×Bool×(List za)×Bool)
 |0,_,_,_,_,_=>none
 | k+1,c,d,e,b,f=>
  if decide ((b.length:Int)>0)then((yz n (zl.mk b f)).bind fun a=>
  (yq n a.1.zc).bind fun g=>
  (zL n g.2 (zl.mk d e)).bind fun i=>
  (if i.z7=true then(some true)else(some (a.1.zA !=6))).bind fun j=>
  (gL 16 c ([g.1]:List Cd)).bind fun l=>
  wM n k l i.f_l j a.2.f_l a.2.z7)else(some (c,d,e,b,f))
def vi (n:Nat)(a1:Cd)(m0:zl):Option ((List Cd)×zl):=
 (v6 n a1).bind fun b=>
 (wM n  n ([]:List Cd) m0.f_l m0.z7 b.f_l b.z7).bind fun a=>
 (if a.2.2.1=true then(some true)else(some a.2.2.2.2)).bind fun c=>
 some (a.1,(zl.mk a.2.1 c))
theorem Zv {n a1 m0 r}:vi n a1 m0=some r→AC mx 144 [qp 0,qs a1] [zl.cells m0] (ql 1 cS r.1) [zl.cells r.2]:=
 fnL Tryz.func144 rfl<|rgL<|rgL<|bC 1 A2 pi fun b=>blL (fun a=>⟨59,[(0,qp 0),(5, .sl 1 (List.map cS a.1) (.fam 0 (a.1.length))),(6,qp 1)]⟩) (fun a=>⟨[[ql 3 za.cells a.2.1,qb a.2.2.1],[ql 3 za.cells a.2.2.2.1,qb a.2.2.2.2]],[a.1.length]⟩) (fun a=>xR (wk (fr':=⟨59,[(0,qp 0),(5,qn),(6,qp 1)]⟩) (st':=⟨[zl.cells m0,zl.cells b],[]⟩) A5)<|xR Wk.nilFam<|lpL (fun k x=>wM n  k x.1 x.2.1 x.2.2.1 x.2.2.2.1 x.2.2.2.2) (([]:List Cd),m0.f_l,m0.z7,b.f_l,b.z7) Aq (fun x=>⟨59,[(0,qp 0),(5, .sl 1 (List.map cS x.1) (.fam 0 (x.1.length))),(6,qp 1)]⟩) (fun x=>⟨[[ql 3 za.cells x.2.1,qb x.2.2.1],[ql 3 za.cells x.2.2.2.1,qb x.2.2.2.2]],[x.1.length]⟩) fun k x=>by obtain⟨c,s,u,i,v⟩:=x; rw [wM]; exact cP 4 (xT i)<|bFL (zp<|bC 1 C7 wa fun d=>bC 2 Ai dU fun j=>bC 2 ⟨[0],3,[],1⟩ xJ fun f=>bEL fun g hE=>rgF hE ⟨59,[(0,qp 0),(5, .sl 1 (List.map cS c) (.fam 0 (c.length))),(6,qp 1),(8,qs j.1)]⟩ ⟨[[ql 3 za.cells f.f_l,qb g],zl.cells d.2],[c.length]⟩ (gFL 6 34 (eJ ⟨[0,1],3,[0],1⟩)<|eJ ⟨[0,1],3,[0],1⟩)<|bEL fun l m=>wO (j7 (P:=Tryz.prog) (gl:=gl0 mx) zn) (lfL (fun z=>kA 3 0 cS (e:=9) (e2:=9) (sz:=1) (bytes:=16) (b2:=16) (tok2:= .exact) m z) edL)<|zq fun h=>⟨(l,f.f_l,g,d.2.f_l,d.2.z7),h,wk Aq⟩)<|xjL<|jnL Aq) fun a=>bEL fun o hE=>rgF hE ⟨59,[(5, .sl 1 (List.map cS a.1) (.fam 0 (a.1.length)))]⟩ ⟨[[ql 3 za.cells a.2.1,qb o]],[a.1.length]⟩ (gFL 6 50 (eJ Au)<|eJ Au)<|rgL<|rKL Av
def pH (n:Nat)(a0:Cd):Option (Bool×Int):=
 if a0==([0]:Cd)then(some (false,0))else(if a0==([255]:Cd)then(some (true,0))else(some (false,7)))
theorem Jn {n a0 r}:pH n a0=some r→AC mx 200 [qs a0] [] (.tuple [qb r.1,qi r.2]) []:=
 fnL Tryz.func200 rfl<|rgL<|rgL<|zp<|rgL<|bFL (rgL<|yu<|yO<|rJ A1)<|rgL<|bFL (rgL<|yu<|yO<|rJ A1)<|zq<|rgL<|rKL A1
def vg (n:Nat)(a1:Int)(m0:zl):Option (Bool×zl):=
 (yS n a1 m0).bind fun a=>
 if !a.2.1 then(some (false,a.2.2))else((pH n a.1.zc).bind fun b=>
 (zL n b.2 a.2.2).bind fun c=>
 some (b.1,c))
theorem kf {n a1 m0 r}:vg n a1 m0=some r→AC mx 145 [qp 0,qi a1] [zl.cells m0] (qb r.1) [zl.cells r.2]:=
 fnL Tryz.func145 rfl<|rgL<|bC 2 A3 vu fun a=>rgL<|bFL (rgL<|rKL A8)<|bC 2 A4 Jn fun b=>bC 2 A8 xJ fun c=>rgL<|rKL A8
def gx (n:Nat)(a0:Int):Option Int:=
 if a0==0 then(some 7)else(if decide (a0>16)then(some 2)else(some 0))
theorem Wa {n a0 r}:gx n a0=some r→AC mx 120 [qi a0] [] (qi r) []:=
 fnL Tryz.func120 rfl<|rgL<|zp<|rgL<|bFL (rgL<|yu<|yO<|rJ A1)<|rgL<|bFL (rgL<|yu<|yO<|rJ A1)<|zq<|rgL<|rKL A1
def ue (n:Nat)(a0:List za):Nat→Int→Option (Ctl Bool Unit)
 |0,_=>none
 | k+1,a=>
  if decide (a<(a0.length:Int))then((zV a0 a).bind fun b=>
  (zV a0 (wrap .i64 (a-1))).bind fun c=>
  if Op.bytesLess b.jL c.jL then(some (.ret false))else(ue n a0 k (wrap .i64 (a+1))))else(some (.nxt ()))
def gK (n:Nat)(a0:List za):Option Bool:=
 z8 (ue n a0 n 1) (fun r=>some r) (fun a=>
 some true)
theorem Uz {n a0 r}:gK n a0=some r→AC mx 247 [ql 3 za.cells a0] [] (qb r) []:=
 fnL Tryz.func247 rfl<|rgL<|rgL<|bcL (fun _=>⟨22,[]⟩) (fun _=>⟨[],[]⟩) (fun g b=>lpL (fun k x=>ue n a0 k x) 1 A1 (fun x=>⟨22,[(0,ql 3 za.cells a0),(3,qi x)]⟩) (fun x=>⟨[],[]⟩) fun k a=>by rw [ue]; exact cP 2 (xT a0)<|bFL (zp<|bEL fun c d=>bEL fun e f=>lfL (fun z=>zs [0,1,2,3,4,5,6,7,8,9,10,11] [] [[],[],[0,1],[0,1,2],[0,1,2,3],[],[],[6],[5,6,7],[5,6,7,8],[5,6,7,8,9],[0,1,2,3,4,5,6,7,8,9,10]] [0] [(3,qi a),(21,qb (Op.bytesLess c.jL e.jL))] (dS [0,1]<|dP (yN d)<|dS (zv 3 5)<|dP (yN f)<|dS [9,10,11]<|dE A1) z)<|bFL (rgL<|hKL b<|rJ A1)<|zq<|yl zn fun h=>⟨wrap .i64 (a+1),h,wk A1⟩)<|xjL<|jCL A1) fun i=>rgL<|rKL A1
def qx (n:Nat)(a0:za):Option (zb×Int):=
 if a0.zA !=48 then(some ((zb.mk ([]:Cd) 0 ([]:Cd)),5))else((kq n a0.zc).bind fun a=>
 if a.2 !=0 then(some ((zb.mk ([]:Cd) 0 ([]:Cd)),a.2))else(if decide ((a.1.length:Int)<1)then(some ((zb.mk ([]:Cd) 0 ([]:Cd)),3))else((zV a.1 0).bind fun d=>
 if d.zA !=6 then(some ((zb.mk ([]:Cd) 0 ([]:Cd)),5))else((zV a.1 0).bind fun e=>
 (yq n e.zc).bind fun c=>
 if c.2 !=0 then(some ((zb.mk ([]:Cd) 0 ([]:Cd)),c.2))else(if decide ((a.1.length:Int)<2)then(some ((zb.mk ([]:Cd) 0 ([]:Cd)),3))else((zV a.1 1).bind fun b=>
 z8 (if b.zA==12 then(if b.zA==12 then(some (.nxt ()))else(some (.ret ((zb.mk ([]:Cd) 0 ([]:Cd)),5))))else(if b.zA==19 then(if b.zA==19 then(some (.nxt ()))else(some (.ret ((zb.mk ([]:Cd) 0 ([]:Cd)),5))))else(if b.zA==22 then(some (.nxt ()))else(some (.ret ((zb.mk ([]:Cd) 0 ([]:Cd)),5)))))) (fun r=>some r) (fun i=>
 if decide ((a.1.length:Int)>2)then(some ((zb.mk ([]:Cd) 0 ([]:Cd)),4))else((zV a.1 1).bind fun f=>
 (zV a.1 1).bind fun g=>
 some ((zb.mk c.1 f.zA g.zc),0)))))))))
theorem YV {n a0 r}:qx n a0=some r→AC mx 248 [.agg (za.cells a0)] [] (.tuple [.agg (zb.cells r.1),qi r.2]) []:=
 fnL Tryz.func248 rfl<|rgL<|rgL<|rgL<|bFL (rgL<|rKL A7)<|bC 2 A7 kK fun a=>rgL<|bFL (rgL<|rKL A7)<|cP 1 (xT a.1)<|bFL (rgL<|rKL A7)<|bP 1 yN fun l=>bFL (rgL<|rKL A7)<|bEL fun m f=>bEL fun c g=>rCL (kPL 1 (yN f)<|kCL 4 A7 (dU g) edL)<|rgL<|bFL (rgL<|rKL A7)<|cP 1 (xT a.1)<|bFL (rgL<|rKL A7)<|bP 1 yN fun o=>bcL (fun _=>⟨71,[(2,qp 0),(4,qp 1),(5,ql 3 za.cells a.1),(7,qs c.1)]⟩) (fun _=>⟨[[qs ([]:Cd),qi 0,qs []],[qs ([]:Cd),qi 0,qs []]],[]⟩) (fun s b=>rgL<|bFL (bFL (jCL Ar)<|rgL<|yu<|hvL b<|yi<|rJ A7)<|rgL<|bFL (bFL (jCL Ar)<|rgL<|yu<|hvL b<|yi<|rJ A7)<|rgL<|bFL (jCL Ar)<|rgL<|yu<|hvL b<|yi<|rJ A7) fun u=>cP 1 (xT a.1)<|bFL (rgL<|rKL A4)<|bEL fun i d=>bEL fun j e=>lfL (fun z=>zm [0,1,2,3,4,5,6,7,8,9,10,11] [10] [[],[],[1],[1,2],[1,2,3],[],[5],[5,6],[5,6,7],[0,1,2,3,4,5,6,7,8],[0,1,2,3,4,5,6,7,8,9],[0,1,2,3,4,5,6,7,8,9,10]] [] [(2,qp 0),(3,qi 0)] ⟨[[qs c.1,qi i.zA,qs j.zc]],[]⟩ (dS [0,1]<|dP (yN d)<|dS [3,4,5]<|dP (yN e)<|dS [7,8,9]<|dF (zr 6 (yN e) (zr 2 (yN d) yb))<|dS [11]<|dE A8) z)<|rKL A2
def vk (n:Nat) (a:((List za)×Int)):Nat→(List zb)→Int→Option (Ctl ((List zb)×Int) (List zb))
 |0,_,_=>none
 | k+1,d,b=>
  if decide (b<(a.1.length:Int))then((zV a.1 b).bind fun e=>
  (qx n e).bind fun c=>
  if c.2 !=0 then(some (.ret (([]:List zb),c.2)))else((gL 40 d ([c.1]:List zb)).bind fun f=>
  vk n a k f (wrap .i64 (b+1))))else(some (.nxt d))
def qH (n:Nat)(a0:za):Option ((List zb)×Int):=
 if a0.zA !=49 then(some (([]:List zb),5))else((kq n a0.zc).bind fun a=>
 if a.2 !=0 then(some (([]:List zb),a.2))else((gK n a.1).bind fun b=>
 if !b then(some (([]:List zb),9))else(z8 (vk n a n ([]:List zb) 0) (fun r=>some r) (fun c=>
 some (c,0)))))
theorem Xu {n a0 r}:qH n a0=some r→AC mx 216 [.agg (za.cells a0)] [] (.tuple [ql 3 zb.cells r.1,qi r.2]) []:=
 fnL Tryz.func216 rfl<|rgL<|rgL<|bFL (rgL<|rKL A2)<|bC 2 A2 kK fun a=>rgL<|bFL (rgL<|rKL A2)<|bC 1 A2 Uz fun i=>bFL (rgL<|rKL A2)<|rgL<|cP 1 (xT a.1)<|bcL (fun b=>⟨46,[(6, .sl 3 (List.map zb.cells b) (.fam 0 (b.length)))]⟩) (fun b=>⟨[],[b.length]⟩) (fun j c=>xR (wk (fr':=⟨46,[(6,qn),(26,ql 3 za.cells a.1),(27,qi (a.1.length)),(28,qi 0)]⟩) (st':=⟨[],[]⟩) A2)<|xR Wk.nilFam<|lpL (fun k x=>vk n a k x.1 x.2) (([]:List zb),0) A6 (fun x=>⟨46,[(6, .sl 3 (List.map zb.cells x.1) (.fam 0 (x.1.length))),(26,ql 3 za.cells a.1),(27,qi (a.1.length)),(28,qi x.2)]⟩) (fun x=>⟨[],[x.1.length]⟩) fun k x=>by obtain⟨l,d⟩:=x; rw [vk]; exact rgL<|bFL (zp<|bP 0 yN fun m=>bC 1 Ah YV fun o=>rgL<|bFL (rgL<|hKL c<|rJ Am)<|bEL fun f g=>wO zS (lfL (fun z=>kA 3 0 zb.cells (e:=140) (e2:=140) (sz:=3) (bytes:=40) (b2:=40) (tok2:= .exact) g z) edL)<|zq<|yl zn fun h=>⟨(f,wrap .i64 (d+1)),h,wk C8⟩)<|xjL<|jCL A6) fun b=>rgL<|rKL Aa
def uJ (n:Nat)(a0:Cd)(c:Int)(a1:Cd)(a2:Int)(f:Nat):Nat→Cd→Int→(List Cd)→Option (Cd×Int×(List Cd))
 |0,_,_,_=>none
 | k+1,a,b,d=>
  if decide (b<(wrap .i64 ((if(wrap .i64 ((a0.length:Int)+1))<c then wrap .i64 ((a0.length:Int)+1)else c)-1)))then((Yd n a a1).bind fun e=>
  if decide (e<0)then(some (a,b,d))else((ssl a 0 (wrap .i64 (e+a2))).bind fun g=>
  (pq f b).bind fun i=>
  (VT d (i*1) g).bind fun j=>
  (ssl a (wrap .i64 (e+(a1.length:Int))) (a.length)).bind fun l=>
  uJ n a0 c a1 a2 f k l (wrap .i64 (b+1)) j))else(some (a,b,d))
def ph (n:Nat)(a0 a1:Cd)(a2 a3:Int):Option (List Cd):=
 if a3==0 then(some ([]:List Cd))else(if a1==([]:Cd)then(none)else((if decide (a3<0)then((JF n a0 a1).bind fun d=>
 some (wrap .i64 (d+1)))else(some a3)).bind fun a=>
 (BP 16 (if(wrap .i64 ((a0.length:Int)+1))<a then wrap .i64 ((a0.length:Int)+1)else a) (if(wrap .i64 ((a0.length:Int)+1))<a then wrap .i64 ((a0.length:Int)+1)else a)).bind fun b=>
 (uJ n a0 a a1 a2 b n a0 0 (List.replicate b (([]:Cd):Cd))).bind fun c=>
 (pq b c.2.1).bind fun e=>
 (VT c.2.2 (e*1) c.1).bind fun f=>
 (osl b (wrap .i64 (c.2.1+1))).bind fun g=>
 (J5 g f).bind fun i=>
 some i))
theorem Vc {n a0 a1 a2 a3 r}:ph n a0 a1 a2 a3=some r→AC mx 232 [qs a0,qs a1,qi a2,qi a3] [] (ql 1 cS r) []:=
 fnL Tryz.func232 rfl<|rgL<|rgL<|bFL (rgL<|rKL A1)<|rgL<|bFL nEL<|rgL<|cuL (fun d=>⟨66,[(0,qs a0),(1,qs a1),(2,qi a2),(3,qi d)]⟩) (fun d=>⟨[],[]⟩) (fun d=>bFL (bEL fun I g=>wO zn (kCL 2 A1 (P4 g) edL)<|jnL A1)<|jnL A1) fun d=>rgL<|bEL fun f i=>rCL (lfL (fun z=>kV 1 0 0 0 (DN (T:=tyT) (e:=9) (k1:= .i64) (k2:= .i64) (bytes:=16) (cell:=none) (c:=vS) uS ([]:Cd) ⟨O7,O7⟩ i) z) edL)<|rgL<|rgL<|blL (fun a=>⟨66,[(0,qs a.1),(9, .own 0 f 1),(10,qi a.2.1)]⟩) (fun a=>⟨[[.buf (List.map vS a.2.2)]],[]⟩) (fun a=>lpL (fun k x=>uJ n a0 d a1 a2 f k x.1 x.2.1 x.2.2) (a0,0,List.replicate f (([]:Cd):Cd)) A3 (fun x=>⟨66,[(0,qs x.1),(1,qs a1),(2,qi a2),(3,qi (wrap .i64 ((if(wrap .i64 ((a0.length:Int)+1))<d then wrap .i64 ((a0.length:Int)+1)else d)-1))),(9, .own 0 f 1),(10,qi x.2.1)]⟩) (fun x=>⟨[[.buf (List.map vS x.2.2)]],[]⟩) fun k x=>by obtain⟨J,j,m⟩:=x; rw [uJ]; exact rgL<|bFL (zp<|bC 2 A2 Q8 fun K=>rgL<|bFL (bz<|gG<|Xn<|db<|jnL A3)<|bEL fun o s=>bEL fun u v=>bEL fun w A=>rCL (kPL 6 (uQ s)<|kPL 7 (pg (id:=0) (e:=9) (sz:=1) (b:=16) v)<|lfL (fun z=>kV 8 1 0 0 (Zu (T:=tyT) (t:=9) (c:=vS) (l:=m) (off:=(u*1)) (x:=o) uS O7 A) z) edL)<|bP 5 v8 fun B=>yl (j7 (P:=Tryz.prog) (gl:=gl0 mx) zn)<|zq fun h=>⟨(B,wrap .i64 (j+1),w),h,wk A3⟩)<|xjL<|jnL A3) fun a=>bEL fun C D=>bEL fun E F=>rCL (kPL 3 (pg (id:=0) (e:=9) (sz:=1) (b:=16) D)<|lfL (fun z=>kV 4 1 0 0 (Zu (T:=tyT) (t:=9) (c:=vS) (l:=a.2.2) (off:=(C*1)) (x:=a.1) uS O7 F) z) edL)<|bP 3 (sv (id:=0) (k:= .i64) (e:=9) (sz:=1) (b:=16)) fun G=>bEL fun L H=>xR (Wk.frz (c:=vS) (l:=E) 8 0 G H O7)<|rKL A2
def gI (n:Nat)(a0 a1:Cd):Option (List Cd):=
 (ph n a0 a1 0 (-1)).bind fun a=>
 some a
theorem YH {n a0 a1 r}:gI n a0 a1=some r→AC mx 175 [qs a0,qs a1] [] (ql 1 cS r) []:=
 fnL Tryz.func175 rfl<|rgL<|bC 2 A1 Vc fun a=>rKL A1
def de (n:Nat)(a0:Cd):Nat→Int→Int→Option (Ctl Int Int)
 |0,_,_=>none
 | k+1,b,a=>
  if decide (a<(a0.length:Int))then(((yw a0 a).bind fun c=>
  if decide (c<48)then(some true)else((yw a0 a).bind fun d=>
  some (decide (d>57)))).bind fun e=>
  if e then(some (.ret (-1)))else((yw a0 a).bind fun f=>
  de n a0 k (wrap .i64 ((wrap .i64 ((10:Int)*b))+(wrap .i64 (wrap .u8 (f-48))))) (wrap .i64 (a+1))))else(some (.nxt b))
def WS (n:Nat)(a0:Cd):Option Int:=
 (if a0==([]:Cd)then(some true)else(if decide ((a0.length:Int)>10)then(some true)else((yw a0 0).bind fun b=>
 if b==48 then(some (decide ((a0.length:Int)>1)))else(some false)))).bind fun c=>
 if c then(some (-1))else(z8 (de n a0 n 0 0) (fun r=>some r) (fun a=>
 if decide (a>2147483647)then(some (-1))else(some a)))
theorem B0 {n a0 r}:WS n a0=some r→AC mx 176 [qs a0] [] (qi r) []:=
 fnL Tryz.func176 rfl<|rgL<|bEL fun d hE=>rgF hE ⟨49,[(0,qs a0),(21,qb d)]⟩ ⟨[],[]⟩ (gFL 3 7 (eJ A1)<|gFL 8 12 (eJ A1)<|bEL fun o e=>kPL 9 (zW e)<|gFL 12 16 (eJ A1)<|eJ A1)<|bFL (rgL<|rKL A1)<|rgL<|rgL<|bcL (fun a=>⟨49,[(3,qi a)]⟩) (fun a=>⟨[],[]⟩) (fun s f=>lpL (fun k x=>de n a0 k x.1 x.2) (0,0) A1 (fun x=>⟨49,[(0,qs a0),(3,qi x.1),(4,qi x.2)]⟩) (fun x=>⟨[],[]⟩) fun k x=>by obtain⟨b,c⟩:=x; rw [de]; exact rgL<|bFL (zp<|bEL fun g hE=>rgF hE ⟨49,[(0,qs a0),(3,qi b),(4,qi c),(37,qb g)]⟩ ⟨[],[]⟩ (bEL fun u i=>kPL 2 (zW i)<|gFL 5 32 (eJ A1)<|bEL fun v j=>kPL 7 (zW j)<|eJ A1)<|bFL (rgL<|hKL f<|rJ A1)<|bEL fun l m=>wO zS (kPL 4 (zW m) edL)<|zq<|yl zn fun h=>⟨(wrap .i64 ((wrap .i64 ((10:Int)*b))+(wrap .i64 (wrap .u8 (l-48)))),wrap .i64 (c+1)),h,wk A1⟩)<|xjL<|jCL A1) fun a=>rgL<|bFL (rgL<|rKL A1)<|rgL<|rKL A1
def XT (n:Nat)(a0 a1:Int):Option Bool:=
 (if decide (a0≤1)then(if decide (a1≤39)then(some true)else(some (a0==2)))else(some (a0==2))).bind fun a=>
 some a
theorem Bg {n a0 a1 r}:XT n a0 a1=some r→AC mx 177 [qi a0,qi a1] [] (qb r) []:=
 fnL Tryz.func177 rfl<|rgL<|bEL fun a hE=>rgF hE ⟨15,[(4,qb a)]⟩ ⟨[],[]⟩ (gFL 3 7 (gFL 7 11 (eJ A1)<|eJ A1)<|eJ A1)<|rKL A1
def kM (n:Nat)(a:List Cd):Nat→(List Int)→Int→Option (Ctl (Option (List Int)) (List Int))
 |0,_,_=>none
 | k+1,c,b=>
  if decide (b<(a.length:Int))then((zV a b).bind fun e=>
  (WS n e).bind fun d=>
  if decide (d<0)then(some (.ret none))else((gL 8 c ([d]:List Int)).bind fun f=>
  kM n a k f (wrap .i64 (b+1))))else(some (.nxt c))
def Yk (n:Nat)(a0:Cd):Option (Option (List Int)):=
 (gI n a0 ([46]:Cd)).bind fun b=>
 (if decide ((b.length:Int)<2)then(some true)else(some (decide ((b.length:Int)>12)))).bind fun c=>
 if c then(some none)else(z8 (kM n b n ([]:List Int) 0) (fun r=>some r) (fun a=>
 (zV a 0).bind fun d=>
 (zV a 1).bind fun e=>
 (XT n d e).bind fun f=>
 if !f then(some none)else((lne a).bind fun g=>
 some (some a))))
theorem Ub {n a0 r}:Yk n a0=some r→AC mx 116 [qs a0] [] (onl 1 (cI .i64) r) []:=
 fnL Tryz.func116 rfl<|rgL<|bC 1 A1 YH fun a=>bEL fun f hE=>rgF hE ⟨42,[(3,ql 1 cS a),(17,qb f)]⟩ ⟨[],[]⟩ (kPL 1 (uu a)<|gFL 4 13 (eJ A1)<|kPL 5 (uu a)<|eJ A1)<|bFL (rgL<|rKL A1)<|rgL<|cP 1 (uu a)<|bcL (fun b=>⟨42,[(4, .sl 1 (List.map (cI .i64) b) (.fam 0 (b.length)))]⟩) (fun b=>⟨[],[b.length]⟩) (fun s g=>xR (wk (fr':=⟨42,[(4,qn),(18,ql 1 cS a),(19,qi (a.length)),(20,qi 0)]⟩) (st':=⟨[],[]⟩) A1)<|xR Wk.nilFam<|lpL (fun k x=>kM n a k x.1 x.2) (([]:List Int),0) A6 (fun x=>⟨42,[(4, .sl 1 (List.map (cI .i64) x.1) (.fam 0 (x.1.length))),(18,ql 1 cS a),(19,qi (a.length)),(20,qi x.2)]⟩) (fun x=>⟨[],[x.1.length]⟩) fun k x=>by obtain⟨u,i⟩:=x; rw [kM]; exact rgL<|bFL (zp<|bP 0 vq fun v=>bC 1 Aa B0 fun w=>rgL<|bFL (rgL<|hKL g<|rJ Aa)<|bEL fun j l=>wO zS (lfL (fun z=>kA 3 0 (cI .i64) (e:=3) (e2:=3) (sz:=1) (bytes:=8) (b2:=8) (tok2:= .exact) l z) edL)<|zq<|yl zn fun h=>⟨(j,wrap .i64 (i+1)),h,wk A6⟩)<|xjL<|jCL A6) fun b=>bEL fun A c=>bEL fun B d=>bEL fun m o=>lfL (fun z=>zs [0,1,2,3,4,5,6,7] [6] [[],[0],[0,1],[],[3],[3,4],[0,1,2,3,4,5],[0,1,2,3,4,5,6]] [4] [(40,qb (!m))] (dS [0]<|dP (Xw (.fam 0 (b.length)) c)<|dS [2,3]<|dP (Xw (.fam 0 (b.length)) d)<|dS [5]<|dC (zr 4 (Xw (.fam 0 (b.length)) d) (zr 1 (Xw (.fam 0 (b.length)) c) yb)) Aa (Bg o)<|dS [7]<|dE A6) z)<|bFL (rgL<|rKL Aa)<|rgL<|bEL fun C D=>rKL Aa
def bM (n:Nat)(a0:Cd):Option Bool:=
 ((Yk n a0).bind fun a=>
 onE a (some false) (fun b=>(lne b).bind fun d=>
 some true)).bind fun c=>
 some c
theorem pE {n a0 r}:bM n a0=some r→AC mx 88 [qs a0] [] (qb r) []:=
 fnL Tryz.func88 rfl<|rgL<|bEL fun a hE=>rgF hE ⟨6,[(2,qb a)]⟩ ⟨[],[]⟩ (bEL fun d f=>kCL 1 A1 (Ub f) fun h=>by cases d with|none=>exact imA (onN h) (eJ A1)|some i=>exact imA (onS h) (bEL fun j g=>kPL 2 (nz (c:=(cI .i64)) (e:=3) (sz:=1) (b:=8) (tok:= .none) g)<|eJ A1))<|rKL A1
def wD (n:Nat)(a0 a1:Cd):Option Bool:=
 (if decide ((a0.length:Int)≥(a1.length:Int))then((ssl a0 0 (a1.length:Int)).bind fun a=>
 some (a==a1))else(some false)).bind fun b=>
 some b
theorem qY {n a0 a1 r}:wD n a0 a1=some r→AC mx 289 [qs a0,qs a1] [] (qb r) []:=
 fnL Tryz.func289 rfl<|rgL<|bEL fun a hE=>rgF hE ⟨18,[(4,qb a)]⟩ ⟨[],[]⟩ (gFL 6 10 (bEL fun c b=>kPL 9 (uQ b)<|eJ A1)<|eJ A1)<|rKL A1
def bL (n:Nat)(a0 a1:Cd):Option Bool:=
 (wD n a0 a1).bind fun a=>
 some a
theorem WO {n a0 a1 r}:bL n a0 a1=some r→AC mx 268 [qs a0,qs a1] [] (qb r) []:=
 fnL Tryz.func268 rfl<|rgL<|bC 2 A1 qY fun a=>rKL A1
def jG (n:Nat)(a0:Cd):Nat→Nat→Option (Ctl Bool Unit)
 |0,_=>none
 | k+1,a=>
  if Nat.blt a (a0.length)then((if decide ((((UY a0 a).1:Nat):Int)<32)then(some true)else(some ((((UY a0 a).1:Nat):Int)==127))).bind fun b=>
  if b then(some (.ret false))else((if(((UY a0 a).1:Nat):Int)==65533 then((ssl a0 ((a:Nat):Int) (a0.length)).bind fun c=>
  (bL n c ([239,191,189]:Cd)).bind fun d=>
  some (!d))else(some false)).bind fun e=>
  if e then(some (.ret false))else(jG n a0 k (a+(UY a0 a).2))))else(some (.nxt ()))
def VL (n:Nat)(a0:Cd):Option Bool:=
 z8 (jG n a0 n 0) (fun r=>some r) (fun a=>
 some true)
theorem BG {n a0 r}:VL n a0=some r→AC mx 240 [qs a0] [] (qb r) []:=
 fnL Tryz.func240 rfl<|rgL<|rgL<|bcL (fun _=>⟨26,[]⟩) (fun _=>⟨[],[]⟩) (fun g b=>lpL (fun k x=>jG n a0 k x) 0 A3 (fun x=>⟨26,[(0,qs a0),(6, .iter 0)]⟩) (fun x=>⟨[[.sit a0 x]],[]⟩) fun k a=>by rw [jG]; exact lfL (fun z=>fR z)<|kFL (fun hb=>lfL (fun z=>kV 0 1 0 0 (rR hb) z)<|lfL (fun z=>QS (⟨26,[(0,qs a0),(6, .iter 0),(7, .tuple [qb true,qi ((a:Nat):Int), .int .i32 (((UY a0 a).1:Nat):Int)]),(8,qb true)]⟩) (⟨[[.sit a0 (a+(UY a0 a).2)]],[]⟩) zS (kE A3) z)<|bTL<|zp<|rgL<|bEL fun c hE=>rgF hE ⟨26,[(0,qs a0),(3,qi ((a:Nat):Int)),(4, .int .i32 (((UY a0 a).1:Nat):Int)),(6, .iter 0),(16,qb c)]⟩ ⟨[[.sit a0 (a+(UY a0 a).2)]],[]⟩ (gFL 3 13 (eJ A3)<|eJ A3)<|bFL (rgL<|hKL b<|rJ A2)<|bEL fun d hE=>rgF hE ⟨26,[(0,qs a0),(6, .iter 0),(25,qb d)]⟩ ⟨[[.sit a0 (a+(UY a0 a).2)]],[]⟩ (gFL 3 19 (bEL fun i e=>bEL fun j f=>kPL 5 (v8 e)<|kCL 6 A2 (WO f)<|eJ A3)<|eJ A3)<|bFL (rgL<|hKL b<|rJ A2)<|zq fun h=>⟨a+(UY a0 a).2,h,wk A3⟩) fun hb=>lfL (fun z=>kV 0 1 0 0 (se hb) z)<|lfL (fun z=>QS (⟨26,[(0,qs a0),(6, .iter 0),(7, .tuple [qb false]),(8,qb false)]⟩) (⟨[[.sit a0 a]],[]⟩) zS (kE A3) z)<|bNL<|xjL<|jCL A2) fun l=>rgL<|rKL A1
def V4 (n:Nat)(a0:Int):Option Bool:=
 (if decide (a0≥97)then(if decide (a0≤122)then(some true)else(if decide (a0≥65)then(if decide (a0≤90)then(some true)else(if decide (a0≥48)then(some (decide (a0≤57)))else(some false)))else(if decide (a0≥48)then(some (decide (a0≤57)))else(some false))))else(if decide (a0≥65)then(if decide (a0≤90)then(some true)else(if decide (a0≥48)then(some (decide (a0≤57)))else(some false)))else(if decide (a0≥48)then(some (decide (a0≤57)))else(some false)))).bind fun a=>
 some a
theorem JH {n a0 r}:V4 n a0=some r→AC mx 243 [qu a0] [] (qb r) []:=
 fnL Tryz.func243 rfl<|rgL<|bEL fun a hE=>rgF hE ⟨25,[(2,qb a)]⟩ ⟨[],[]⟩ (gFL 3 5 (gFL 7 9 (eJ A1)<|gFL 10 12 (gFL 15 17 (eJ A1)<|gFL 18 20 (eJ A1)<|eJ A1)<|gFL 18 20 (eJ A1)<|eJ A1)<|gFL 10 12 (gFL 15 17 (eJ A1)<|gFL 18 20 (eJ A1)<|eJ A1)<|gFL 18 20 (eJ A1)<|eJ A1)<|rKL A1
def pK (n:Nat)(a0:Int):Option Bool:=
 ((V4 n a0).bind fun a=>
 if a then(some true)else((YN n ([32,39,40,41,43,44,45,46,47,58,61,63]:Cd) a0).bind fun b=>
 some (decide (b≥0)))).bind fun c=>
 some c
theorem Jp {n a0 r}:pK n a0=some r→AC mx 242 [qu a0] [] (qb r) []:=
 fnL Tryz.func242 rfl<|rgL<|bEL fun a hE=>rgF hE ⟨10,[(2,qb a)]⟩ ⟨[],[]⟩ (bEL fun d b=>kCL 1 A1 (JH b)<|gFL 3 5 (eJ A1)<|bEL fun e c=>kCL 4 A1 (Vo c)<|eJ A1)<|rKL A1
def gC (n:Nat)(a0:Cd):Nat→Int→Option (Ctl Bool Unit)
 |0,_=>none
 | k+1,a=>
  if decide (a<(a0.length:Int))then((yw a0 a).bind fun b=>
  (pK n b).bind fun c=>
  if !c then(some (.ret false))else(gC n a0 k (wrap .i64 (a+1))))else(some (.nxt ()))
def VV (n:Nat)(a0:Cd):Option Bool:=
 z8 (gC n a0 n 0) (fun r=>some r) (fun a=>
 some true)
theorem Bl {n a0 r}:VV n a0=some r→AC mx 241 [qs a0, .func (.func 242) [] []] [] (qb r) []:=
 fnL Tryz.func241 rfl<|rgL<|rgL<|bcL (fun _=>⟨18,[]⟩) (fun _=>⟨[],[]⟩) (fun e a=>lpL (fun k x=>gC n a0 k x) 0 A1 (fun x=>⟨18,[(0,qs a0),(1, .func (.func 242) [] []),(5,qi x)]⟩) (fun x=>⟨[],[]⟩) fun k b=>by rw [gC]; exact rgL<|bFL (zp<|bEL fun f c=>bEL fun g d=>rCL (kPL 3 (zW c)<|kCL 4 A1 (Jp d) edL)<|bFL (rgL<|hKL a<|rJ A1)<|zq<|yl zn fun h=>⟨wrap .i64 (b+1),h,wk A1⟩)<|xjL<|jCL A1) fun i=>rgL<|rKL A1
def pF (n:Nat)(a0:Int):Option Bool:=
 (if decide (a0≥32)then(some (decide (a0≤126)))else(some false)).bind fun a=>
 some a
theorem UT {n a0 r}:pF n a0=some r→AC mx 245 [qu a0] [] (qb r) []:=
 fnL Tryz.func245 rfl<|rgL<|bEL fun a hE=>rgF hE ⟨9,[(2,qb a)]⟩ ⟨[],[]⟩ (gFL 3 5 (eJ A1)<|eJ A1)<|rKL A1
def kw (n:Nat)(a0:Cd):Nat→Int→Option (Ctl Bool Unit)
 |0,_=>none
 | k+1,a=>
  if decide (a<(a0.length:Int))then((yw a0 a).bind fun b=>
  (pF n b).bind fun c=>
  if !c then(some (.ret false))else(kw n a0 k (wrap .i64 (a+1))))else(some (.nxt ()))
def Wg (n:Nat)(a0:Cd):Option Bool:=
 z8 (kw n a0 n 0) (fun r=>some r) (fun a=>
 some true)
theorem Qy {n a0 r}:Wg n a0=some r→AC mx 241 [qs a0, .func (.func 245) [] []] [] (qb r) []:=
 fnL Tryz.func241 rfl<|rgL<|rgL<|bcL (fun _=>⟨18,[]⟩) (fun _=>⟨[],[]⟩) (fun e a=>lpL (fun k x=>kw n a0 k x) 0 A1 (fun x=>⟨18,[(0,qs a0),(1, .func (.func 245) [] []),(5,qi x)]⟩) (fun x=>⟨[],[]⟩) fun k b=>by rw [kw]; exact rgL<|bFL (zp<|bEL fun f c=>bEL fun g d=>rCL (kPL 3 (zW c)<|kCL 4 A1 (UT d) edL)<|bFL (rgL<|hKL a<|rJ A1)<|zq<|yl zn fun h=>⟨wrap .i64 (b+1),h,wk A1⟩)<|xjL<|jCL A1) fun i=>rgL<|rKL A1
def Z1 (n:Nat)(a0:Int)(a1:Cd):Option Bool:=
 if a0==12 then((VL n a1).bind fun a=>
 some a)else(if a0==19 then((VV n a1).bind fun b=>
 some b)else(if a0==22 then((Wg n a1).bind fun c=>
 some c)else(some false)))
theorem QO {n a0 a1 r}:Z1 n a0 a1=some r→AC mx 212 [qi a0,qs a1] [] (qb r) []:=
 fnL Tryz.func212 rfl<|rgL<|rgL<|zp<|rgL<|bFL (bC 1 A1 BG fun a=>yu<|yO<|rJ A1)<|rgL<|bFL (bC 1 A1 Bl fun b=>yu<|yO<|rJ A1)<|rgL<|bFL (bC 1 A1 Qy fun c=>yu<|yO<|rJ A1)<|zq<|rgL<|rKL A1
def vJ (n:Nat)(a:List zb)(c:zb):Nat→Int→Option (Ctl Int Unit)
 |0,_=>none
 | k+1,b=>
  if decide (b<(a.length:Int))then((zV a b).bind fun d=>
  if d.wi==c.wi then(some (.ret 10))else(vJ n a c k (wrap .i64 (b+1))))else(some (.nxt ()))
def wG (n:Nat)(a0:List zb):Nat→Int→Option (Ctl Int Unit)
 |0,_=>none
 | k+1,b=>
  if decide (b<(a0.length:Int))then((zV a0 b).bind fun a=>
  (bM n a.wi).bind fun c=>
  if !c then(some (.ret 11))else((if a.vA==([]:Cd)then(some true)else((Z1 n a.zG a.vA).bind fun d=>
  some (!d))).bind fun e=>
  if e then(some (.ret 13))else(if decide ((a.vA.length:Int)>64)then(some (.ret 2))else((lsl a0 0 b).bind fun f=>
  z8 (vJ n f a n 0) (fun r=>some (.ret r)) (fun g=>
  wG n a0 k (wrap .i64 (b+1)))))))else(some (.nxt ()))
def q0 (n:Nat)(a0:List zb):Option Int:=
 if(a0.length:Int)==0 then(some 14)else(if decide ((a0.length:Int)>4)then(some 2)else(z8 (wG n a0 n 0) (fun r=>some r) (fun a=>
 some 0)))
theorem Xy {n a0 r}:q0 n a0=some r→AC mx 160 [ql 3 zb.cells a0] [] (qi r) []:=
 fnL Tryz.func160 rfl<|rgL<|cP 1 (gH a0)<|bFL (rgL<|rKL A1)<|cP 1 (gH a0)<|bFL (rgL<|rKL A1)<|cP 1 (gH a0)<|bcL (fun _=>⟨54,[]⟩) (fun _=>⟨[],[]⟩) (fun l b=>lpL (fun k x=>wG n a0 k x) 0 A1 (fun x=>⟨54,[(0,ql 3 zb.cells a0),(13,ql 3 zb.cells a0),(14,qi (a0.length)),(15,qi x)]⟩) (fun x=>⟨[],[]⟩) fun k a=>by rw [wG]; exact rgL<|bFL (zp<|bP 1 pY fun d=>bC 2 A2 pE fun m=>bFL (rgL<|hKL b<|rJ A2)<|bEL fun e hE=>rgF hE ⟨54,[(0,ql 3 zb.cells a0),(3,qi a),(4,qp 0),(13,ql 3 zb.cells a0),(14,qi (a0.length)),(15,qi a),(34,qb e)]⟩ ⟨[zb.cells d],[]⟩ (gFL 4 27 (eJ A3)<|bEL fun o f=>kCL 8 A2 (QO f)<|eJ A3)<|bFL (rgL<|hKL b<|rJ A2)<|rgL<|bFL (rgL<|hKL b<|rJ A2)<|bEL fun c g=>rCL (kPL 2 (fu g)<|kPL 3 (gH c) edL)<|nV zS (fun _=>⟨54,[(0,ql 3 zb.cells a0),(13,ql 3 zb.cells a0),(14,qi (a0.length)),(15,qi a)]⟩) (fun _=>⟨[],[]⟩) (fun s i=>lpL (fun k x=>vJ n c d k x) 0 A3 (fun x=>⟨54,[(0,ql 3 zb.cells a0),(4,qp 0),(13,ql 3 zb.cells a0),(14,qi (a0.length)),(15,qi a),(41,ql 3 zb.cells c),(42,qi (c.length)),(43,qi x)]⟩) (fun x=>⟨[zb.cells d],[]⟩) fun k j=>by rw [vJ]; exact rgL<|bFL (zp<|bP 0 pY fun u=>rgL<|bFL (rgL<|hKL i<|yO<|wx<|hvL b<|yi<|rJ A4)<|zq<|yl zn fun h=>⟨wrap .i64 (j+1),h,wk A8⟩)<|xjL<|jCL A2) fun v=>zq<|yl zn fun h=>⟨wrap .i64 (a+1),h,wk A1⟩)<|xjL<|jCL A1) fun w=>rgL<|rKL A1
def qF (n:Nat)(a0:zC):Nat→Int→Option (Ctl Int Unit)
 |0,_=>none
 | k+1,a=>
  if decide (a<(a0.zg.length:Int))then((zV a0.zg a).bind fun c=>
  (q0 n c).bind fun b=>
  if b !=0 then(some (.ret b))else(qF n a0 k (wrap .i64 (a+1))))else(some (.nxt ()))
def jE (n:Nat)(a0:zC):Option Int:=
 if decide ((a0.zg.length:Int)>8)then(some 2)else(z8 (qF n a0 n 0) (fun r=>some r) (fun a=>
 some 0))
theorem bJ {n a0 r}:jE n a0=some r→AC mx 102 [.agg [ql 1 (cL 3 zb.cells) a0.zg]] [] (qi r) []:=
 fnL Tryz.func102 rfl<|rgL<|cP 2 (bQ a0.zg)<|bFL (rgL<|rKL A2)<|cP 2 (bQ a0.zg)<|bcL (fun _=>⟨23,[]⟩) (fun _=>⟨[],[]⟩) (fun c a=>lpL (fun k x=>qF n a0 k x) 0 A2 (fun x=>⟨23,[(11,ql 1 (cL 3 zb.cells) a0.zg),(12,qi (a0.zg.length)),(13,qi x)]⟩) (fun x=>⟨[],[]⟩) fun k b=>by rw [qF]; exact rgL<|bFL (zp<|bP 0 p7 fun d=>bC 1 A1 Xy fun e=>rgL<|bFL (rgL<|hKL a<|rJ A1)<|zq<|yl zn fun h=>⟨wrap .i64 (b+1),h,wk A1⟩)<|xjL<|jCL A1) fun f=>rgL<|rKL A1
def qa (n:Nat) (a:((List za)×Int)):Nat→Int→(List (List zb))→Option (Ctl (zC×Int) (List (List zb)))
 |0,_,_=>none
 | k+1,b,d=>
  if decide (b<(a.1.length:Int))then((zV a.1 b).bind fun e=>
  (qH n e).bind fun c=>
  if c.2 !=0 then(some (.ret ((zC.mk ([]:List (List zb))),c.2)))else((gL 24 d ([c.1]:List (List zb))).bind fun f=>
  qa n a k (wrap .i64 (b+1)) f))else(some (.nxt d))
def dc (n:Nat)(a0:Cd):Option (zC×Int):=
 (gT n a0).bind fun a=>
 if a.2 !=0 then(some ((zC.mk ([]:List (List zb))),a.2))else(if a.1.zA !=48 then(some ((zC.mk ([]:List (List zb))),5))else((kq n a.1.zc).bind fun b=>
 if b.2 !=0 then(some ((zC.mk ([]:List (List zb))),b.2))else(z8 (qa n b n 0 ([]:List (List zb))) (fun r=>some r) (fun c=>
 (jE n (zC.mk c)).bind fun d=>
 if d !=0 then(some ((zC.mk ([]:List (List zb))),d))else(some ((zC.mk c),0))))))
theorem Xm {n a0 r}:dc n a0=some r→AC mx 166 [qs a0] [] (.tuple [.agg [ql 1 (cL 3 zb.cells) r.1.zg],qi r.2]) []:=
 fnL Tryz.func166 rfl<|rgL<|rgL<|bC 1 A4 dl fun i=>rgL<|bFL (rgL<|rKL A7)<|rgL<|bFL (rgL<|rKL A7)<|bC 2 A7 kK fun a=>rgL<|bFL (rgL<|rKL A7)<|rgL<|cP 1 (xT a.1)<|bcL (fun b=>⟨66,[(2,qp 0),(4,qp 1),(8,qp 2)]⟩) (fun b=>⟨[[qn],[qn],[.sl 1 (List.map (cL 3 zb.cells) b) (.fam 0 (b.length))]],[b.length]⟩) (fun j c=>xR (wk (fr':=⟨66,[(2,qp 0),(4,qp 1),(8,qp 2),(37,ql 3 za.cells a.1),(38,qi (a.1.length)),(39,qi 0)]⟩) (st':=⟨[[qn],[qn],[qn]],[]⟩) ⟨[0,1,3],4,[],0⟩)<|xR Wk.nilFam<|lpL (fun k x=>qa n a k x.1 x.2) (0,([]:List (List zb))) Aw (fun x=>⟨66,[(2,qp 0),(4,qp 1),(8,qp 2),(37,ql 3 za.cells a.1),(38,qi (a.1.length)),(39,qi x.1)]⟩) (fun x=>⟨[[qn],[qn],[.sl 1 (List.map (cL 3 zb.cells) x.2) (.fam 0 (x.2.length))]],[x.2.length]⟩) fun k x=>by obtain⟨d,l⟩:=x; rw [qa]; exact rgL<|bFL (zp<|bP 0 yN fun m=>bC 1 As Xu fun o=>rgL<|bFL (rgL<|hKL c<|rJ As)<|bEL fun f g=>wO zS (lfL (fun z=>kA 4 0 (cL 3 zb.cells) (e:=141) (e2:=141) (sz:=1) (bytes:=24) (b2:=24) (tok2:= .exact) g z) edL)<|zq<|yl zn fun h=>⟨(wrap .i64 (d+1),f),h,wk ⟨[0,1,2],4,[0],1⟩⟩)<|xjL<|jCL Aw) fun b=>bC 1 Ai bJ fun s=>rgL<|bFL (rgL<|rKL Ai)<|rgL<|rKL Ai
def Yo (n:Nat)(a0:Int):Option Int:=
 if a0==1 then(some 0)else(if a0==2 then(some 1)else(if a0==4 then(some 2)else(if a0==7 then(some 3)else(some 4))))
theorem K6 {n a0 r}:Yo n a0=some r→AC mx 170 [qi a0] [] (qi r) []:=
 fnL Tryz.func170 rfl<|rgL<|rgL<|zp<|rgL<|bFL (rgL<|yu<|yO<|rJ A1)<|rgL<|bFL (rgL<|yu<|yO<|rJ A1)<|rgL<|bFL (rgL<|yu<|yO<|rJ A1)<|rgL<|bFL (rgL<|yu<|yO<|rJ A1)<|zq<|rgL<|rKL A1
def qZ (n:Nat)(a0 a1:Cd):Option (Cd×Cd×Bool):=
 (Ue n a0 a1).bind fun a=>
 if decide (a≥0)then((ssl a0 0 a).bind fun b=>
 (ssl a0 (wrap .i64 (a+(a1.length:Int))) (a0.length)).bind fun c=>
 some (b,c,true))else(some (a0,([]:Cd),false))
theorem ZO {n a0 a1 r}:qZ n a0 a1=some r→AC mx 274 [qs a0,qs a1] [] (.tuple [qs r.1,qs r.2.1,qb r.2.2]) []:=
 fnL Tryz.func274 rfl<|rgL<|bC 2 A1 Dq fun e=>rgL<|bFL (bEL fun a b=>bEL fun c d=>lfL (fun z=>zs [0,1,2,3,4,5,6,7,8,9,10,11] [] [[],[],[0,1],[],[],[],[5],[4,5,6],[3,4,5,6,7],[0,1,2],[0,1,2,3,4,5,6,7,8,9],[0,1,2,3,4,5,6,7,8,9,10]] [] [(4,qs a),(5,qs c),(6,qb true)] (dS [0,1]<|dP (uQ b)<|dS (zv 3 5)<|dP (v8 d)<|dS [9,10,11]<|dE A1) z)<|rKL A1)<|rgL<|rKL A1
def Xl (n:Nat)(a0 a1:Cd):Option (Cd×Cd×Bool):=
 (qZ n a0 a1).bind fun a=>
 some (a.1,a.2.1,a.2.2)
theorem J1 {n a0 a1 r}:Xl n a0 a1=some r→AC mx 253 [qs a0,qs a1] [] (.tuple [qs r.1,qs r.2.1,qb r.2.2]) []:=
 fnL Tryz.func253 rfl<|rgL<|bC 2 A1 ZO fun a=>rKL A1
def uf (n:Nat)(a0 a1:Cd):Option Bool:=
 (Yd n a0 a1).bind fun a=>
 some (decide (a≥0))
theorem Zt {n a0 a1 r}:uf n a0 a1=some r→AC mx 256 [qs a0,qs a1] [] (qb r) []:=
 fnL Tryz.func256 rfl<|rgL<|bC 2 A1 Q8 fun a=>rKL A1
def dz (n:Nat)(a0:Int):Option Bool:=
 (if decide (a0≥97)then(if decide (a0≤122)then(some true)else(if decide (a0≥65)then(some (decide (a0≤90)))else(some false)))else(if decide (a0≥65)then(some (decide (a0≤90)))else(some false))).bind fun a=>
 some a
theorem Wb {n a0 r}:dz n a0=some r→AC mx 275 [qu a0] [] (qb r) []:=
 fnL Tryz.func275 rfl<|rgL<|bEL fun a hE=>rgF hE ⟨17,[(2,qb a)]⟩ ⟨[],[]⟩ (gFL 3 5 (gFL 7 9 (eJ A1)<|gFL 10 12 (eJ A1)<|eJ A1)<|gFL 10 12 (eJ A1)<|eJ A1)<|rKL A1
def py (n:Nat)(a0:Int):Option Bool:=
 (if decide (a0≥48)then(some (decide (a0≤57)))else(some false)).bind fun a=>
 some a
theorem WJ {n a0 r}:py n a0=some r→AC mx 276 [qu a0] [] (qb r) []:=
 fnL Tryz.func276 rfl<|rgL<|bEL fun a hE=>rgF hE ⟨9,[(2,qb a)]⟩ ⟨[],[]⟩ (gFL 3 5 (eJ A1)<|eJ A1)<|rKL A1
def kr (n:Nat)(a0:Cd):Nat→Int→Option (Ctl Bool Unit)
 |0,_=>none
 | k+1,a=>
  if decide (a<(List.length (s2b a0):Int))then((zV (s2b a0) a).bind fun b=>
  ((dz n b).bind fun c=>
  if c then(some true)else((py n b).bind fun d=>
  if d then(some true)else((YN n ([33,35,36,37,38,39,42,43,45,47,61,63,94,95,96,123,124,125,126,46]:Cd) b).bind fun e=>
  some (decide (e≥0))))).bind fun f=>
  if !f then(some (.ret false))else(kr n a0 k (wrap .i64 (a+1))))else(some (.nxt ()))
def Z6 (n:Nat)(a0:Cd):Option Bool:=
 (if decide ((a0.length:Int)<1)then(some true)else(if decide ((a0.length:Int)>64)then(some true)else((yw a0 0).bind fun a=>
 if a==46 then(some true)else((yw a0 (wrap .i64 ((a0.length:Int)-1))).bind fun b=>
 if b==46 then(some true)else((uf n a0 ([46,46]:Cd)).bind fun c=>
 some c))))).bind fun d=>
 if d then(some false)else(z8 (kr n a0 n 0) (fun r=>some r) (fun e=>
 some true))
theorem QT {n a0 r}:Z6 n a0=some r→AC mx 254 [qs a0] [] (qb r) []:=
 fnL Tryz.func254 rfl<|rgL<|bEL fun c hE=>rgF hE ⟨50,[(0,qs a0),(30,qb c)]⟩ ⟨[],[]⟩ (gFL 4 9 (eJ A1)<|gFL 9 14 (eJ A1)<|bEL fun i d=>kPL 10 (zW d)<|gFL 14 19 (eJ A1)<|bEL fun j e=>kPL 18 (zW e)<|gFL 22 27 (eJ A1)<|bEL fun l f=>kCL 23 A1 (Zt f)<|eJ A1)<|bFL (rgL<|rKL A1)<|rCL (lfL (fun z=>kS 1 a0 z)<|kPL 2 (VP (s2b a0)) edL)<|bcL (fun _=>⟨50,[]⟩) (fun _=>⟨[],[]⟩) (fun m g=>lpL (fun k x=>kr n a0 k x) 0 A1 (fun x=>⟨50,[(32,ql 1 (cI .u8) (s2b a0)),(33,qi (List.length (s2b a0):Int)),(34,qi x)]⟩) (fun x=>⟨[],[]⟩) fun k b=>by rw [kr]; exact rgL<|bFL (zp<|bP 0 df fun o=>rgL<|blL (fun a=>⟨50,[(5,qb a),(32,ql 1 (cI .u8) (s2b a0)),(33,qi (List.length (s2b a0):Int)),(34,qi b)]⟩) (fun a=>⟨[],[]⟩) (fun a=>zp<|zp<|zp<|bC 1 A1 Wb fun s=>bFL (bz<|VG<|zq<|rgL<|bz<|gG<|db<|jnL A1)<|bC 1 A1 WJ fun u=>bFL (bz<|gG<|VG<|rgL<|bz<|gG<|db<|jnL A1)<|bz<|gG<|gG<|VG<|bC 1 A1 Vo fun v=>bz<|db<|jnL A1) fun a=>rgL<|bFL (rgL<|hKL g<|rJ A1)<|zq<|yl zn fun h=>⟨wrap .i64 (b+1),h,wk A1⟩)<|xjL<|jCL A1) fun w=>rgL<|rKL A1
def kH (n:Nat)(a0:Cd):Nat→Int→Option (Ctl Bool Unit)
 |0,_=>none
 | k+1,a=>
  if decide (a<(List.length (s2b a0):Int))then((zV (s2b a0) a).bind fun b=>
  ((dz n b).bind fun c=>
  if !c then((py n b).bind fun d=>
  if !d then(some (b !=45))else(some false))else(some false)).bind fun e=>
  if e then(some (.ret false))else(kH n a0 k (wrap .i64 (a+1))))else(some (.nxt ()))
def Z0 (n:Nat)(a0:Cd):Option Bool:=
 (if decide ((a0.length:Int)<1)then(some true)else(if decide ((a0.length:Int)>63)then(some true)else((yw a0 0).bind fun a=>
 if a==45 then(some true)else((yw a0 (wrap .i64 ((a0.length:Int)-1))).bind fun b=>
 some (b==45))))).bind fun c=>
 if c then(some false)else(z8 (kH n a0 n 0) (fun r=>some r) (fun d=>
 some true))
theorem QB {n a0 r}:Z0 n a0=some r→AC mx 272 [qs a0] [] (qb r) []:=
 fnL Tryz.func272 rfl<|rgL<|bEL fun b hE=>rgF hE ⟨46,[(0,qs a0),(25,qb b)]⟩ ⟨[],[]⟩ (gFL 4 8 (eJ A1)<|gFL 9 13 (eJ A1)<|bEL fun j c=>kPL 10 (zW c)<|gFL 14 18 (eJ A1)<|bEL fun l d=>kPL 18 (zW d)<|eJ A1)<|bFL (rgL<|rKL A1)<|rCL (lfL (fun z=>kS 1 a0 z)<|kPL 2 (VP (s2b a0)) edL)<|bcL (fun _=>⟨46,[]⟩) (fun _=>⟨[],[]⟩) (fun m e=>lpL (fun k x=>kH n a0 k x) 0 A1 (fun x=>⟨46,[(27,ql 1 (cI .u8) (s2b a0)),(28,qi (List.length (s2b a0):Int)),(29,qi x)]⟩) (fun x=>⟨[],[]⟩) fun k a=>by rw [kH]; exact rgL<|bFL (zp<|bP 0 df fun o=>bEL fun f hE=>rgF hE ⟨46,[(27,ql 1 (cI .u8) (s2b a0)),(28,qi (List.length (s2b a0):Int)),(29,qi a),(44,qb f)]⟩ ⟨[],[]⟩ (bEL fun s g=>kCL 1 A1 (Wb g)<|gFL 4 36 (bEL fun u i=>kCL 5 A1 (WJ i)<|gFL 9 41 (eJ A1)<|eJ A1)<|eJ A1)<|bFL (rgL<|hKL e<|rJ A1)<|zq<|yl zn fun h=>⟨wrap .i64 (a+1),h,wk A1⟩)<|xjL<|jCL A1) fun v=>rgL<|rKL A1
def gu (n:Nat)(a:List Cd):Nat→Int→Option (Ctl Bool Unit)
 |0,_=>none
 | k+1,b=>
  if decide (b<(a.length:Int))then((zV a b).bind fun c=>
  (Z0 n c).bind fun d=>
  if !d then(some (.ret false))else(gu n a k (wrap .i64 (b+1))))else(some (.nxt ()))
def pW (n:Nat)(a0:Cd):Option Bool:=
 if decide ((a0.length:Int)>128)then(some false)else((gI n a0 ([46]:Cd)).bind fun a=>
 z8 (gu n a n 0) (fun r=>some r) (fun b=>
 some true))
theorem Xb {n a0 r}:pW n a0=some r→AC mx 251 [qs a0] [] (qb r) []:=
 fnL Tryz.func251 rfl<|rgL<|rgL<|bFL (rgL<|rKL A1)<|bEL fun a b=>rCL (kCL 1 A1 (YH b)<|kPL 2 (uu a) edL)<|bcL (fun _=>⟨19,[]⟩) (fun _=>⟨[],[]⟩) (fun e c=>lpL (fun k x=>gu n a k x) 0 A1 (fun x=>⟨19,[(9,ql 1 cS a),(10,qi (a.length)),(11,qi x)]⟩) (fun x=>⟨[],[]⟩) fun k d=>by rw [gu]; exact rgL<|bFL (zp<|bP 0 vq fun f=>bC 1 A1 QB fun g=>bFL (rgL<|hKL c<|rJ A1)<|zq<|yl zn fun h=>⟨wrap .i64 (d+1),h,wk A1⟩)<|xjL<|jCL A1) fun i=>rgL<|rKL A1
def YM (n:Nat)(a0:Cd):Option Bool:=
 (Xl n a0 ([64]:Cd)).bind fun a=>
 (if a.2.2=true then(if decide ((a0.length:Int)≤128)then((Z6 n a.1).bind fun b=>
 if b then((pW n a.2.1).bind fun c=>
 some c)else(some false))else(some false))else(some false)).bind fun d=>
 some d
theorem Ks {n a0 r}:YM n a0=some r→AC mx 222 [qs a0] [] (qb r) []:=
 fnL Tryz.func222 rfl<|rgL<|bC 1 A1 J1 fun d=>bEL fun a hE=>rgF hE ⟨26,[(2,qb a)]⟩ ⟨[],[]⟩ (gFL 2 13 (gFL 7 18 (bEL fun e b=>kCL 8 A1 (QT b)<|gFL 11 22 (bEL fun f c=>kCL 12 A1 (Xb c)<|eJ A1)<|eJ A1)<|eJ A1)<|eJ A1)<|rKL A1
def jv (n:Nat)(a0 a1:Cd):Option (Cd×Bool):=
 (wD n a0 a1).bind fun a=>
 if !a then(some (a0,false))else((ssl a0 (a1.length:Int) (a0.length)).bind fun b=>
 some (b,true))
theorem pk {n a0 a1 r}:jv n a0 a1=some r→AC mx 277 [qs a0,qs a1] [] (.tuple [qs r.1,qb r.2]) []:=
 fnL Tryz.func277 rfl<|rgL<|bC 2 A1 qY fun a=>bFL (rgL<|rKL A1)<|bP 3 v8 fun b=>rKL A1
def bH (n:Nat)(a0 a1:Cd):Option (Cd×Bool):=
 (jv n a0 a1).bind fun a=>
 some (a.1,a.2)
theorem WP {n a0 a1 r}:bH n a0 a1=some r→AC mx 255 [qs a0,qs a1] [] (.tuple [qs r.1,qb r.2]) []:=
 fnL Tryz.func255 rfl<|rgL<|bC 2 A1 pk fun a=>rKL A1
def pM (n:Nat)(a0:Cd):Option Bool:=
 (bH n a0 ([42,46]:Cd)).bind fun a=>
 if a.2=true then((if decide ((a0.length:Int)≤128)then((pW n a.1).bind fun b=>
 if b then((uf n a.1 ([46]:Cd)).bind fun c=>
 some c)else(some false))else(some false)).bind fun d=>
 some d)else((pW n a0).bind fun e=>
 some e)
theorem Jl {n a0 r}:pM n a0=some r→AC mx 224 [qs a0] [] (qb r) []:=
 fnL Tryz.func224 rfl<|rgL<|bC 1 A1 WP fun d=>rgL<|bFL (bEL fun a hE=>rgF hE ⟨24,[(2,qb a)]⟩ ⟨[],[]⟩ (gFL 4 14 (bEL fun e b=>kCL 5 A1 (Xb b)<|gFL 8 18 (bEL fun f c=>kCL 9 A1 (Zt c)<|eJ A1)<|eJ A1)<|eJ A1)<|rKL A1)<|bC 1 A1 Xb fun g=>rKL A1
def pI (n:Nat)(a0:Cd):Option Bool:=
 (if(a0.length:Int)==4 then(some true)else(some ((a0.length:Int)==16))).bind fun a=>
 some a
theorem UX {n a0 r}:pI n a0=some r→AC mx 226 [qs a0] [] (qb r) []:=
 fnL Tryz.func226 rfl<|rgL<|bEL fun a hE=>rgF hE ⟨11,[(2,qb a)]⟩ ⟨[],[]⟩ (gFL 4 6 (eJ A1)<|eJ A1)<|rKL A1
def vj (n:Nat)(a0:Int)(a1:Cd)(a2:Bool):Option Bool:=
 if a0==0 then((if a2 then(none)else(if !a2 then((YM n a1).bind fun a=>
 some a)else(some false))).bind fun b=>
 some b)else(if a0==1 then((if a2 then(none)else(if !a2 then((pM n a1).bind fun c=>
 some c)else(some false))).bind fun d=>
 some d)else(if a0==3 then((if a2 then(none)else(if !a2 then((pI n a1).bind fun e=>
 some e)else(some false))).bind fun f=>
 some f)else(some false)))
theorem W2 {n a0 a1 a2 r}:vj n a0 a1 a2=some r→AC mx 171 [qi a0,qs a1,qb a2] [] (qb r) []:=
 fnL Tryz.func171 rfl<|rgL<|rgL<|zp<|rgL<|bFL (bEL fun a hE=>rgF hE ⟨53,[(6,qb a)]⟩ ⟨[],[]⟩ (gFL 2 11 nEL<|gFL 9 18 (bEL fun g b=>kCL 10 A1 (Ks b)<|eJ A1)<|eJ A1)<|yu<|yO<|rJ A1)<|rgL<|bFL (bEL fun c hE=>rgF hE ⟨53,[(6,qb c)]⟩ ⟨[],[]⟩ (gFL 2 26 nEL<|gFL 9 33 (bEL fun i d=>kCL 10 A1 (Jl d)<|eJ A1)<|eJ A1)<|yu<|yO<|rJ A1)<|rgL<|bFL (bEL fun e hE=>rgF hE ⟨53,[(6,qb e)]⟩ ⟨[],[]⟩ (gFL 2 41 nEL<|gFL 9 48 (bEL fun j f=>kCL 10 A1 (UX f)<|eJ A1)<|eJ A1)<|yu<|yO<|rJ A1)<|zq<|rgL<|rKL A1
def wR (n:Nat)(a0:zd)(a1:Bool):Option Int:=
 (Yo n a0.zG).bind fun a=>
 if a==4 then(some 14)else(if a==2 then(if !(a0.yy==([]:Cd))then(some 14)else((jE n (zC.mk a0.zo.zg)).bind fun b=>
 some b))else((if decide ((a0.zo.zg.length:Int)>0)then(some true)else((vj n a a0.yy a1).bind fun c=>
 some (!c))).bind fun d=>
 if d then(some 14)else(some 0)))
theorem ZB {n a0 a1 r}:wR n a0 a1=some r→AC mx 111 [.agg (zd.cells a0),qb a1] [] (qi r) []:=
 fnL Tryz.func111 rfl<|rgL<|bC 2 A2 K6 fun c=>rgL<|zp<|rgL<|bFL (rgL<|yu<|yO<|rJ A2)<|rgL<|bFL (rgL<|bFL (rgL<|yu<|yO<|rJ A2)<|bC 2 A2 bJ fun d=>yu<|yO<|rJ A2)<|bEL fun a hE=>rgF hE ⟨33,[(22,qb a)]⟩ ⟨[],[]⟩ (kPL 3 (bQ a0.zo.zg)<|gFL 6 15 (eJ A2)<|bEL fun e b=>kCL 10 A2 (W2 b)<|eJ A2)<|bFL (rgL<|yu<|yO<|rJ A1)<|zq<|rgL<|rKL A1
def bw (n:Nat)(a0:za)(a1:Bool):Option (zd×Int):=
 z8 ((if a0.zA==129 then(some (a0.zA==129))else(if a0.zA==130 then(some (a0.zA==130))else(some (a0.zA==135)))).bind fun d=>
 if d then(some (.nxt (wrap .i64 (a0.zA-128),a0.zc,([]:List (List zb)))))else(if a0.zA==164 then((dc n a0.zc).bind fun b=>
 if b.2 !=0 then(some (.ret ((zd.mk 0 ([]:Cd) (zC.mk ([]:List (List zb)))),b.2)))else(some (.nxt (4,([]:Cd),b.1.zg))))else(some (.ret ((zd.mk 0 ([]:Cd) (zC.mk ([]:List (List zb)))),5))))) (fun r=>some r) (fun a=>
 (wR n (zd.mk a.1 a.2.1 (zC.mk a.2.2)) a1).bind fun c=>
 if c !=0 then(some ((zd.mk 0 ([]:Cd) (zC.mk ([]:List (List zb)))),c))else(some ((zd.mk a.1 a.2.1 (zC.mk a.2.2)),0)))
theorem U6 {n a0 a1 r}:bw n a0 a1=some r→AC mx 202 [.agg (za.cells a0),qb a1] [] (.tuple [.agg (zd.cells r.1),qi r.2]) []:=
 fnL Tryz.func202 rfl<|rgL<|rgL<|rgL<|bcL (fun a=>⟨47,[(1,qb a1),(4,qp 0),(6,qp 1)]⟩) (fun a=>⟨[[qi 0,qs [],qn],[qi a.1,qs a.2.1,ql 1 (cL 3 zb.cells) a.2.2]],[]⟩) (fun e c=>rgL<|cuL (fun b=>⟨47,[(1,qb a1),(2,qp 0),(4,qp 1),(6,qp 2),(11,qi a0.zA),(13,qb b)]⟩) (fun b=>⟨[za.cells a0,[qi 0,qs [],qn],[qi 0,qs [],qn]],[]⟩) (fun b=>bFL (jnL Ad)<|rgL<|bFL (jnL Ad)<|yl zn<|jnL Ad) fun b=>bFL (lfL (fun z=>zmN xh [0,1,2,3,4,5,6,7,8] [6,8] [[],[0],[0,1],[],[3],[0,1,2],[0,1,2,5],[0,1,2,3,4,5,6],[0,1,2,3,4,5,6,7]] [] [(1,qb a1),(4,qp 0),(6,qp 1)] ⟨[[qi 0,qs [],qn],[qi (wrap .i64 (a0.zA-128)),qs a0.zc,qn]],[]⟩ (dS (zv 0 6)<|dF yb<|dS [7]<|dF yb<|dE Ar) z)<|jCL A5)<|rgL<|bFL (bC 2 A7 Xm fun d=>rgL<|bFL (rgL<|yu<|hvL c<|yi<|rJ Ab)<|lfL (fun z=>zmN xh [0,1,2,3,4] [2,4] [[],[],[1],[0,1,2],[0,1,2,3]] [] [(1,qb a1),(4,qp 0),(6,qp 1)] ⟨[[qi 0,qs [],qn],[qi 4,qs [],ql 1 (cL 3 zb.cells) d.1.zg]],[]⟩ (dS [0,1]<|dF yb<|dS [3]<|dF yb<|dE ⟨[1,2],4,[],0⟩) z)<|jCL A5)<|rgL<|yu<|hvL c<|yi<|rJ A7) fun a=>bC 2 A4 ZB fun f=>rgL<|bFL (rgL<|rKL A4)<|rgL<|rKL A4
def wQ (n:Nat) (b:((List za)×Int)):Nat→(List zd)→Int→Option (Ctl ((List zd)×Int) (List zd))
 |0,_,_=>none
 | k+1,d,c=>
  if decide (c<(b.1.length:Int))then((zV b.1 c).bind fun e=>
  (bw n e false).bind fun a=>
  if a.2 !=0 then(some (.ret (([]:List zd),a.2)))else((gL 48 d ([(zd.mk a.1.zG a.1.yy (zC.mk a.1.zo.zg))]:List zd)).bind fun f=>
  wQ n b k f (wrap .i64 (c+1))))else(some (.nxt d))
def uh (n:Nat)(a0:Cd):Option ((List zd)×Int):=
 (kq n a0).bind fun a=>
 if a.2 !=0 then(some (([]:List zd),a.2))else((gx n (a.1.length:Int)).bind fun b=>
 if b !=0 then(some (([]:List zd),b))else(z8 (wQ n a n ([]:List zd) 0) (fun r=>some r) (fun c=>
 some (c,0))))
theorem Vi {n a0 r}:uh n a0=some r→AC mx 146 [qs a0] [] (.tuple [ql 3 zd.cells r.1,qi r.2]) []:=
 fnL Tryz.func146 rfl<|rgL<|bC 1 A1 kK fun a=>rgL<|bFL (rgL<|rKL A1)<|bEL fun j c=>rCL (kPL 1 (xT a.1)<|kCL 2 A1 (Wa c) edL)<|rgL<|bFL (rgL<|rKL A1)<|rgL<|cP 1 (xT a.1)<|bcL (fun b=>⟨46,[(7, .sl 3 (List.map zd.cells b) (.fam 0 (b.length)))]⟩) (fun b=>⟨[],[b.length]⟩) (fun l d=>xR (wk (fr':=⟨46,[(7,qn),(26,ql 3 za.cells a.1),(27,qi (a.1.length)),(28,qi 0)]⟩) (st':=⟨[],[]⟩) A1)<|xR Wk.nilFam<|lpL (fun k x=>wQ n a k x.1 x.2) (([]:List zd),0) A6 (fun x=>⟨46,[(7, .sl 3 (List.map zd.cells x.1) (.fam 0 (x.1.length))),(26,ql 3 za.cells a.1),(27,qi (a.1.length)),(28,qi x.2)]⟩) (fun x=>⟨[],[x.1.length]⟩) fun k x=>by obtain⟨m,f⟩:=x; rw [wQ]; exact rgL<|bFL (zp<|bP 0 yN fun o=>bC 1 Ah U6 fun s=>rgL<|bFL (rgL<|hKL d<|rJ Am)<|bEL fun g i=>wO zS (lfL (fun z=>kA 3 0 zd.cells (e:=59) (e2:=59) (sz:=3) (bytes:=48) (b2:=48) (tok2:= .exact) i z) edL)<|zq<|yl zn fun h=>⟨(g,wrap .i64 (f+1)),h,wk C8⟩)<|xjL<|jCL A6) fun b=>rgL<|rKL Aa
def qe (n:Nat)(a0:Cd):Nat→Int→Int→Option Int
 |0,_,_=>none
 | k+1,b,a=>
  if decide (a<(wrap .i64 ((a0.length:Int)-1)))then((yw a0 (wrap .i64 (a+1))).bind fun c=>
  qe n a0 k (ior .i64 (wrap .i64 (b*256)) (wrap .i64 c)) (wrap .i64 (a+1)))else(some b)
def bv (n:Nat)(a0:Cd):Option (Int×Int):=
 (if a0==([]:Cd)then(some true)else(if decide ((a0.length:Int)>1)then((yw a0 0).bind fun a=>
 if a==0 then((yw a0 1).bind fun b=>
 if decide (b<128)then(some true)else((yw a0 0).bind fun c=>
 if c==255 then((yw a0 1).bind fun d=>
 some (decide (d≥128)))else(some false)))else((yw a0 0).bind fun e=>
 if e==255 then((yw a0 1).bind fun f=>
 some (decide (f≥128)))else(some false)))else(some false))).bind fun g=>
 if g then(some (0,7))else(if decide ((a0.length:Int)>8)then(some (0,1))else((yw a0 0).bind fun i=>
 (qe n a0 n (wrap .i64 (wrap .i8 i)) 0).bind fun j=>
 some (j,0)))
theorem Jh {n a0 r}:bv n a0=some r→AC mx 203 [qs a0] [] (.tuple [qi r.1,qi r.2]) []:=
 fnL Tryz.func203 rfl<|rgL<|bEL fun b hE=>rgF hE ⟨56,[(0,qs a0),(32,qb b)]⟩ ⟨[],[]⟩ (gFL 3 8 (eJ A1)<|gFL 7 12 (bEL fun u c=>kPL 8 (zW c)<|gFL 11 16 (bEL fun v d=>kPL 12 (zW d)<|gFL 16 21 (eJ A1)<|bEL fun w e=>kPL 17 (zW e)<|gFL 20 25 (bEL fun A f=>kPL 21 (zW f)<|eJ A1)<|eJ A1)<|bEL fun B g=>kPL 17 (zW g)<|gFL 20 25 (bEL fun C i=>kPL 21 (zW i)<|eJ A1)<|eJ A1)<|eJ A1)<|bFL (rgL<|rKL A1)<|rgL<|bFL (rgL<|rKL A1)<|bP 1 zW fun j=>rgL<|blL (fun a=>⟨56,[(4,qi a)]⟩) (fun a=>⟨[],[]⟩) (fun a=>lpL (fun k x=>qe n a0 k x.1 x.2) (wrap .i64 (wrap .i8 j),0) A1 (fun x=>⟨56,[(0,qs a0),(4,qi x.1),(42,qi (wrap .i64 ((a0.length:Int)-1))),(43,qi x.2)]⟩) (fun x=>⟨[],[]⟩) fun k x=>by obtain⟨l,m⟩:=x; rw [qe]; exact rgL<|bFL (zp<|rgL<|bEL fun o s=>wO zS (kPL 5 (zW s) edL)<|zq<|yl zn fun h=>⟨(ior .i64 (wrap .i64 (l*256)) (wrap .i64 o),wrap .i64 (m+1)),h,wk A1⟩)<|xjL<|jnL A1) fun a=>rgL<|rKL A1
def xq (n:Nat)(a1:Int)(m0:zl):Option (Int×zl):=
 (yz n m0).bind fun a=>
 (bv n a.1.zc).bind fun b=>
 (zL n b.2 a.2).bind fun c=>
 (if c.z7=true then(some true)else(some (a.1.zA !=a1))).bind fun d=>
 some (b.1,(zl.mk c.f_l d))
theorem jb {n a1 m0 r}:xq n a1 m0=some r→AC mx 147 [qp 0,qi a1] [zl.cells m0] (qi r.1) [zl.cells r.2]:=
 fnL Tryz.func147 rfl<|rgL<|bC 1 A3 wa fun d=>bC 2 A4 Jh fun a=>bC 2 A8 xJ fun b=>bEL fun c hE=>rgF hE ⟨33,[(6,qi a.1)]⟩ ⟨[[ql 3 za.cells b.f_l,qb c]],[]⟩ (gFL 6 24 (eJ A8)<|eJ A8)<|rgL<|rKL A3
def vF (n:Nat)(a0:za):Option Int:=
 if a0.zA !=48 then(some 5)else((kq n a0.zc).bind fun a=>
 if a.2 !=0 then(some a.2)else(if(a.1.length:Int)==0 then(some 3)else((zV a.1 0).bind fun c=>
 if c.zA !=6 then(some 5)else((zV a.1 0).bind fun d=>
 (yq n d.zc).bind fun b=>
 if b.2 !=0 then(some b.2)else((if !(b.1==([49,46,51,46,54,46,49,46,52,46,49,46,53,56,56,56,56,46,49,46,49]:Cd))then(some true)else(some (decide ((a.1.length:Int)>1)))).bind fun e=>
 if e then(some 16)else(some 0))))))
theorem YG {n a0 r}:vF n a0=some r→AC mx 249 [.agg (za.cells a0)] [] (qi r) []:=
 fnL Tryz.func249 rfl<|rgL<|rgL<|bFL (rgL<|rKL A2)<|bC 2 A2 kK fun a=>rgL<|bFL (rgL<|rKL A2)<|cP 1 (xT a.1)<|bFL (rgL<|rKL A2)<|bP 1 yN fun e=>bFL (rgL<|rKL A2)<|bEL fun f b=>bEL fun g c=>rCL (kPL 1 (yN b)<|kCL 4 A2 (dU c) edL)<|rgL<|bFL (rgL<|rKL A2)<|bEL fun d hE=>rgF hE ⟨44,[(43,qb d)]⟩ ⟨[],[]⟩ (gFL 3 39 (eJ A2)<|kPL 4 (xT a.1)<|eJ A2)<|bFL (rgL<|rKL A1)<|rgL<|rKL A1
def jp (n:Nat)(a1:za)(m0:yD):Option (Int×yD):=
 (vF n a1).bind fun a=>
 some (a,(yD.mk (zF.mk m0.pr.zy m0.pr.wL m0.pr.zY)))
theorem ZW {n a1 m0 r}:jp n a1 m0=some r→AC mx 217 [qp 0, .agg (za.cells a1)] [yD.cells m0] (qi r.1) [yD.cells r.2]:=
 fnL Tryz.func217 rfl<|rgL<|bC 1 A4 YG fun a=>rKL A8
def qN (n:Nat)(a0:zF):Option Int:=
 (if decide (a0.zy<0)then(some true)else(if decide (a0.zy>8)then(some true)else(if(a0.wL.length:Int) !=16 then(some true)else(some ((a0.zY.length:Int) !=16))))).bind fun a=>
 if a then(some 18)else(some 0)
theorem pO {n a0 r}:qN n a0=some r→AC mx 112 [.agg (zF.cells a0)] [] (qi r) []:=
 fnL Tryz.func112 rfl<|rgL<|bEL fun a hE=>rgF hE ⟨23,[(22,qb a)]⟩ ⟨[],[]⟩ (gFL 4 6 (eJ A2)<|gFL 9 11 (eJ A2)<|gFL 15 17 (eJ A2)<|eJ A2)<|bFL (rgL<|rKL A1)<|rgL<|rKL A1
def kg (n:Nat)(a1:za)(m0:yD):Option (Int×yD):=
 if a1.zA !=3 then(some (5,(yD.mk (zF.mk m0.pr.zy m0.pr.wL m0.pr.zY))))else((kc n a1.zc).bind fun a=>
 if a.2.2 !=0 then(some (a.2.2,(yD.mk (zF.mk m0.pr.zy m0.pr.wL m0.pr.zY))))else((if a.2.1 !=0 then(some true)else(some ((a.1.length:Int) !=33))).bind fun e=>
 if e then(some (18,(yD.mk (zF.mk m0.pr.zy m0.pr.wL m0.pr.zY))))else((yw a.1 0).bind fun b=>
 (ssl a.1 1 17).bind fun c=>
 (ssl a.1 17 (a.1.length)).bind fun d=>
 (qN n (zF.mk (wrap .i64 b) c d)).bind fun f=>
 some (f,(yD.mk (zF.mk (wrap .i64 b) c d))))))
theorem XI {n a1 m0 r}:kg n a1 m0=some r→AC mx 218 [qp 0, .agg (za.cells a1)] [yD.cells m0] (qi r.1) [yD.cells r.2]:=
 fnL Tryz.func218 rfl<|rgL<|rgL<|bFL (rgL<|rKL A8)<|bC 2 A4 Vk fun d=>rgL<|bFL (rgL<|rKL A8)<|bEL fun e hE=>rgF hE ⟨44,[(0,qp 0),(5,qs d.1),(27,qb e)]⟩ ⟨[yD.cells m0],[]⟩ (gFL 3 23 (eJ A8)<|eJ A8)<|bFL (rgL<|rKL A3)<|bEL fun f a=>bEL fun g b=>bEL fun i c=>lfL (fun z=>zm [0,1,2,3,4,5,6,7,8,9,10,11] [11] [[],[],[1],[1,2],[],[4],[],[6],[1,2,3,4,5,6,7],[0,1,2,3,4,5,6,7,8],[0,1,2,3,4,5,6,7,8,9],[0,1,2,3,4,5,6,7,8,9,10]] [] [(0,qp 0)] ⟨[[qi (wrap .i64 f),qs g,qs i]],[]⟩ (dS [0,1]<|dP (zW a)<|dS [3,4]<|dP (zX b)<|dS [6]<|dP (v8 c)<|dS [8,9,10]<|dF (zr 7 (v8 c) (zr 5 (zX b) (zr 2 (zW a) yb)))<|dE A3) z)<|bC 4 A2 pO fun j=>rKL A3
def jB (n:Nat)(a0:Cd):Option (zF×Int):=
 (gT n a0).bind fun d=>
 if d.2 !=0 then(some ((zF.mk 0 ([]:Cd) ([]:Cd)),d.2))else(if d.1.zA !=48 then(some ((zF.mk 0 ([]:Cd) ([]:Cd)),5))else((kq n d.1.zc).bind fun a=>
 if a.2 !=0 then(some ((zF.mk 0 ([]:Cd) ([]:Cd)),a.2))else(if(a.1.length:Int)==0 then(some ((zF.mk 0 ([]:Cd) ([]:Cd)),3))else((zV a.1 0).bind fun f=>
 (jp n f (yD.mk (zF.mk 0 ([]:Cd) ([]:Cd)))).bind fun b=>
 if b.1 !=0 then(some ((zF.mk 0 ([]:Cd) ([]:Cd)),b.1))else((lsl a.1 1 (a.1.length)).bind fun e=>
 if(e.length:Int)==0 then(some ((zF.mk 0 ([]:Cd) ([]:Cd)),3))else((zV e 0).bind fun g=>
 (kg n g (yD.mk (zF.mk b.2.pr.zy b.2.pr.wL b.2.pr.zY))).bind fun c=>
 if c.1 !=0 then(some ((zF.mk 0 ([]:Cd) ([]:Cd)),c.1))else((lsl e 1 (e.length)).bind fun i=>
 if decide ((i.length:Int)>0)then(some ((zF.mk 0 ([]:Cd) ([]:Cd)),4))else(some ((zF.mk c.2.pr.zy c.2.pr.wL c.2.pr.zY),0)))))))))
theorem VI {n a0 r}:jB n a0=some r→AC mx 167 [qs a0] [] (.tuple [.agg (zF.cells r.1),qi r.2]) []:=
 fnL Tryz.func167 rfl<|rgL<|rgL<|bC 1 A4 dl fun l=>rgL<|bFL (rgL<|rKL A7)<|rgL<|bFL (rgL<|rKL A7)<|bC 2 A7 kK fun a=>rgL<|bFL (rgL<|rKL A7)<|rgL<|rgL<|zp<|xR (wk (fr':=⟨63,[(2,qp 0),(4,qp 1),(7,ql 3 za.cells a.1),(8,qp 2),(35, .sl 1 [[.func (.func 217) [] []],[.func (.func 218) [] []]] .exact),(36,qi 2),(37,qi 0)]⟩) (st':=⟨[[qi 0,qs [],qs []],[qi 0,qs [],qs []],[qi 0,qs [],qs []]],[]⟩) ⟨[0,1,3],4,[],0⟩)<|lfL (fun z=>rx 12 z)<|sO<|rgL<|bTL<|zp<|rgL<|cP 1 (xT a.1)<|bFL (rgL<|yu<|yO<|wx<|yO<|rJ A7)<|bEL fun m b=>bEL fun o c=>rCL (kPL 2 (yN b)<|kCL 4 Ao (ZW c) edL)<|rgL<|bFL (rgL<|yu<|yO<|wx<|yO<|rJ A7)<|bEL fun d e=>wO zS (kPL 1 (UO e) edL)<|zq<|yl cW<|GN<|rgL<|bTL<|zp<|rgL<|cP 1 (xT d)<|bFL (rgL<|yu<|yO<|wx<|yO<|rJ A7)<|bEL fun s f=>bEL fun u g=>rCL (kPL 2 (yN f)<|kCL 4 Ao (XI g) edL)<|rgL<|bFL (rgL<|yu<|yO<|wx<|yO<|rJ A7)<|bEL fun i j=>wO zS (kPL 1 (UO j) edL)<|zq<|yl cW<|GN<|rgL<|bNL<|bz<|Xn<|VG<|cP 1 (xT i)<|bFL (rgL<|rKL A7)<|rgL<|rKL A7
def xn (n:Nat):Nat→(List zj)→(List za)→Bool→(List za)→Bool→Option ((List zj)×(List za)×Bool×(List za)×Bool)
 |0,_,_,_,_,_=>none
 | k+1,d,e,f,a,g=>
  if decide ((a.length:Int)>0)then((yz n (zl.mk a g)).bind fun b=>
  (jl n b.1).bind fun o=>
  (yz n o).bind fun i=>
  (dc n i.1.jL).bind fun j=>
  (zL n j.2 (zl.mk e f)).bind fun s=>
  (yz n i.2).bind fun c=>
  (jB n c.1.jL).bind fun l=>
  (zL n l.2 s).bind fun m=>
  (if m.z7=true then(some true)else(if c.2.z7=true then(some true)else(some (decide ((c.2.f_l.length:Int)>0))))).bind fun u=>
  (gL 64 d ([(zj.mk j.1 l.1)]:List zj)).bind fun v=>
  xn n k v m.f_l u b.2.f_l b.2.z7)else(some (d,e,f,a,g))
def wU (n:Nat)(a1:Cd)(m0:zl):Option ((List zj)×zl):=
 (v6 n a1).bind fun b=>
 (xn n  n ([]:List zj) m0.f_l m0.z7 b.f_l b.z7).bind fun a=>
 (if a.2.2.1=true then(some true)else(some a.2.2.2.2)).bind fun c=>
 some (a.1,(zl.mk a.2.1 c))
theorem pe {n a1 m0 r}:wU n a1 m0=some r→AC mx 107 [qp 0,qs a1] [zl.cells m0] (ql 4 zj.cells r.1) [zl.cells r.2]:=
 fnL Tryz.func107 rfl<|rgL<|rgL<|bC 1 A2 pi fun b=>blL (fun a=>⟨83,[(0,qp 0),(5, .sl 4 (List.map zj.cells a.1) (.fam 0 (a.1.length))),(6,qp 1)]⟩) (fun a=>⟨[[ql 3 za.cells a.2.1,qb a.2.2.1],[ql 3 za.cells a.2.2.2.1,qb a.2.2.2.2]],[a.1.length]⟩) (fun a=>xR (wk (fr':=⟨83,[(0,qp 0),(5,qn),(6,qp 1)]⟩) (st':=⟨[zl.cells m0,zl.cells b],[]⟩) A5)<|xR Wk.nilFam<|lpL (fun k x=>xn n  k x.1 x.2.1 x.2.2.1 x.2.2.2.1 x.2.2.2.2) (([]:List zj),m0.f_l,m0.z7,b.f_l,b.z7) Aq (fun x=>⟨83,[(0,qp 0),(5, .sl 4 (List.map zj.cells x.1) (.fam 0 (x.1.length))),(6,qp 1)]⟩) (fun x=>⟨[[ql 3 za.cells x.2.1,qb x.2.2.1],[ql 3 za.cells x.2.2.2.1,qb x.2.2.2.2]],[x.1.length]⟩) fun k x=>by obtain⟨c,E,F,i,G⟩:=x; rw [xn]; exact cP 4 (xT i)<|bFL (zp<|bEL fun d j=>bEL fun H l=>rCL (kCL 1 C7 (wa j)<|kCL 2 Am (qX l) edL)<|bEL fun I m=>bEL fun o s=>rCL (kCL 1 ⟨[2],3,[],1⟩ (wa m)<|kCL 3 Ai (Xm s) edL)<|bC 2 Ax xJ fun J=>bEL fun u v=>bEL fun w A=>rCL (kCL 1 ⟨[2],4,[],1⟩ (wa v)<|kCL 3 As (VI A) edL)<|bC 2 ⟨[0],5,[],1⟩ xJ fun f=>bEL fun g hE=>rgF hE ⟨83,[(0,qp 0),(5, .sl 4 (List.map zj.cells c) (.fam 0 (c.length))),(6,qp 1),(8,qp 2),(10,qp 3)]⟩ ⟨[[ql 3 za.cells f.f_l,qb g],zl.cells d.2,[ql 1 (cL 3 zb.cells) o.1.zg],zF.cells w.1],[c.length]⟩ (gFL 6 47 (eJ C9)<|gFL 12 53 (eJ C9)<|kPL 16 (xT u.2.f_l)<|eJ C9)<|bEL fun B C=>wO (j7 (P:=Tryz.prog) (gl:=gl0 mx) zn) (lfL (fun z=>kA 5 0 zj.cells (e:=68) (e2:=68) (sz:=4) (bytes:=64) (b2:=64) (tok2:= .exact) C z) edL)<|zq fun h=>⟨(B,f.f_l,g,d.2.f_l,d.2.z7),h,wk ⟨[0,1],4,[0],1⟩⟩)<|xjL<|jnL Aq) fun a=>bEL fun D hE=>rgF hE ⟨83,[(5, .sl 4 (List.map zj.cells a.1) (.fam 0 (a.1.length)))]⟩ ⟨[[ql 3 za.cells a.2.1,qb D]],[a.1.length]⟩ (gFL 6 74 (eJ Au)<|eJ Au)<|rgL<|rKL Av
def jn (n:Nat)(m0:zl):Option (zz×zl):=
 (yz n m0).bind fun l=>
 (yE n l.1.zA l.1.zc).bind fun m=>
 (zL n m.2 l.2).bind fun I=>
 (yS n 128 I).bind fun a=>
 (if a.2.1=true then((yq n a.1.zc).bind fun B=>
 (zL n B.2 a.2.2).bind fun C=>
 some (C.f_l,C.z7,B.1))else(some (a.2.2.f_l,a.2.2.z7,([]:Cd)))).bind fun e=>
 (yS n 129 (zl.mk e.1 e.2.1)).bind fun b=>
 (if b.2.1=true then((u9 n b.1.zc).bind fun D=>
 (zL n D.2 b.2.2).bind fun E=>
 some (E.f_l,E.z7,D.1))else(some (b.2.2.f_l,b.2.2.z7,0))).bind fun f=>
 (yS n 162 (zl.mk f.1 f.2.1)).bind fun c=>
 (if c.2.1=true then((vi n c.1.zc c.2.2).bind fun o=>
 some (o.2.f_l,o.2.z7,o.1))else(some (c.2.2.f_l,c.2.2.z7,([]:List Cd)))).bind fun g=>
 (vg n 131 (zl.mk g.1 g.2.1)).bind fun s=>
 (vg n 132 s.2).bind fun u=>
 (vg n 133 u.2).bind fun v=>
 (yS n 166 v.2).bind fun d=>
 (if d.2.1=true then((uh n d.1.zc).bind fun F=>
 (zL n F.2 d.2.2).bind fun G=>
 some (G.f_l,G.z7,F.1))else(some (d.2.2.f_l,d.2.2.z7,([]:List zd)))).bind fun i=>
 (xq n 2 (zl.mk i.1 i.2.1)).bind fun w=>
 (vg n 135 w.2).bind fun A=>
 (yS n 168 A.2).bind fun j=>
 if j.2.1=true then((wU n j.1.zc j.2.2).bind fun H=>
 some ((zz.mk m.1 e.2.2 f.2.2 g.2.2 s.1 u.1 v.1 i.2.2 w.1 A.1 H.1),H.2))else(some ((zz.mk m.1 e.2.2 f.2.2 g.2.2 s.1 u.1 v.1 i.2.2 w.1 A.1 ([]:List zj)),j.2.2))
theorem WQ {n m0 r}:jn n m0=some r→AC mx 72 [qp 0] [zl.cells m0] (.agg (zz.cells r.1)) [zl.cells r.2]:=
 fnL Tryz.func72 rfl<|rgL<|rgL<|rgL<|bC 1 Ae wa fun s=>bC 4 Ab Qe fun e=>bC 2 Ak xJ fun u=>bC 1 Ak vu fun v=>rgL<|cuL (fun a=>⟨116,[(0,qp 0),(2,qp 1),(3,qp 2)]⟩) (fun a=>⟨[[ql 3 za.cells a.1,qb a.2.1],[qi 0,qs [],qi 0,qn,qb false,qb false,qb false,qn,qi 0,qb false,qn],[qi e.1,qs a.2.2,qi 0,qn,qb false,qb false,qb false,qn,qi 0,qb false,qn]],[]⟩) (fun a=>bFL (bC 2 Ag dU fun w=>bEL fun A f=>wO zn (kCL 2 ⟨[0],5,[],0⟩ (xJ f) edL)<|jnL ⟨[0,1,2],5,[],0⟩)<|jnL ⟨[0,1,2],5,[],0⟩) fun a=>bC 1 Ae vu fun B=>rgL<|cuL (fun b=>⟨116,[(0,qp 0),(2,qp 1),(3,qp 2)]⟩) (fun b=>⟨[[ql 3 za.cells b.1,qb b.2.1],[qi 0,qs [],qi 0,qn,qb false,qb false,qb false,qn,qi 0,qb false,qn],[qi e.1,qs a.2.2,qi b.2.2,qn,qb false,qb false,qb false,qn,qi 0,qb false,qn]],[]⟩) (fun b=>bFL (bC 2 Ab QM fun C=>bEL fun D g=>wO zn (kCL 2 Ak (xJ g) edL)<|jnL Ac)<|jnL Ac) fun b=>bC 1 Ae vu fun E=>rgL<|cuL (fun c=>⟨116,[(0,qp 0),(2,qp 1),(3,qp 2)]⟩) (fun c=>⟨[[ql 3 za.cells c.1,qb c.2.1],[qi 0,qs [],qi 0,qn,qb false,qb false,qb false,qn,qi 0,qb false,qn],[qi e.1,qs a.2.2,qi b.2.2,ql 1 cS c.2.2,qb false,qb false,qb false,qn,qi 0,qb false,qn]],[]⟩) (fun c=>bFL (bEL fun F i=>wO zn (kCL 3 Ak (Zv i) edL)<|jnL Ac)<|jnL Ac) fun c=>bC 1 Ae kf fun j=>bC 1 Ae kf fun l=>bC 1 Ae kf fun m=>bC 1 Ae vu fun G=>rgL<|cuL (fun d=>⟨116,[(0,qp 0),(2,qp 1),(3,qp 2)]⟩) (fun d=>⟨[[ql 3 za.cells d.1,qb d.2.1],[qi 0,qs [],qi 0,qn,qb false,qb false,qb false,qn,qi 0,qb false,qn],[qi e.1,qs a.2.2,qi b.2.2,ql 1 cS c.2.2,qb j.1,qb l.1,qb m.1,ql 3 zd.cells d.2.2,qi 0,qb false,qn]],[]⟩) (fun d=>bFL (bC 2 Ab Vi fun H=>bEL fun I o=>wO zn (kCL 2 Ak (xJ o) edL)<|jnL Ac)<|jnL Ac) fun d=>bC 1 Ae jb fun J=>bC 1 Ae kf fun K=>bC 1 Ae vu fun L=>rgL<|bFL (bC 3 Ak pe fun M=>rgL<|rKL Ak)<|rgL<|rKL Ak
end Go.Abs
end
