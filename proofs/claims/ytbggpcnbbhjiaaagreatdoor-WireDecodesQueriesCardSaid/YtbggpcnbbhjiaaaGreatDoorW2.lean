/- For each Go function: if its typed Lean form gives some result, the call returns that result (printed by a program of this hand). Condition: the typed form gives some result. -/
import Derived.Test.YtbggpcnbbhjiaaaGreatDoorW1
set_option linter.unusedVariables false
set_option linter.unusedSimpArgs false
set_option linter.unnecessarySimpa false
section
set_option maxRecDepth 100000
set_option maxHeartbeats 0
namespace Go.Abs
open Go Go.Proofs IntKind
variable {mx:Int}
def vW (n b:Nat)(d:List Cn)(c:Cn):Nat→Int→Option Int
 |0,_=>none
 | k+1,a=>
  (if decide (a<((b:Nat):Int))then((gu b a).bind fun f=>
  ((d)[(f*1)]?).bind fun e=>
  some (Op.bytesLess e c||e==c))else(some false)).bind fun g=>
  if g then(vW n b d c k (wrap .i64 (a+1)))else(some a)
def wz (n:Nat)(a0:List Cn):Nat→Nat→Int→(List Cn)→Option (Nat×(List Cn))
 |0,_,_,_=>none
 | k+1,c,d,e=>
  if decide (d<(a0.length:Int))then((zM a0 d).bind fun a=>
  (vW n c e a n 0).bind fun i=>
  (QZ c e).bind fun f=>
  ((lsl f 0 i).bind fun m=>
  (lsl f i (f.length)).bind fun g=>
  (Bf 16 m).bind fun b=>
  (Yd 16 (b.length) b ([a]:List Cn)).bind fun j=>
  if List.isEmpty g then(some ((b.length)+List.length ([a]:List Cn),j))else((Yd 16 ((b.length)+List.length ([a]:List Cn)) j g).bind fun o=>
  some (((b.length)+List.length ([a]:List Cn))+g.length,o))).bind fun l=>
  wz n a0 k l.1 (wrap .i64 (d+1)) l.2)else(some (c,e))
def vU (n:Nat) (a:(Nat×(List Cn))):Nat→Cn→Int→Option Cn
 |0,_,_=>none
 | k+1,c,b=>
  if decide (b<((a.1:Nat):Int))then((gu a.1 b).bind fun d=>
  ((a.2)[(d*1)]?).bind fun e=>
  (um c e).bind fun f=>
  vU n a k f (wrap .i64 (b+1)))else(some c)
def kT (n:Nat)(a0:List Cn):Option Cn:=
 (wz n a0 n 0 0 ([]:List Cn)).bind fun a=>
 (vU n a n ([]:Cn) 0).bind fun b=>
 some b
theorem Ws {n a0 r}:kT n a0=some r→AC mx 187 [ql 1 cS a0] [] (qs r) []:=
 fnL Tryz.func187 rfl<|rgL<|rgL<|cP 1 (ue a0)<|blL (fun a=>⟨53,[(3, .own 0 a.1 1)]⟩) (fun a=>⟨[[.buf (List.map vS a.2)]],[]⟩) (fun a=>yV (wk (fr':=⟨53,[(3,qn),(10,ql 1 cS a0),(11,qi (a0.length)),(12,qi 0)]⟩) (st':=⟨[],[]⟩) A1)<|yV (Wk.nilO 3 0 1 O8)<|lpL (fun k x=>wz n a0 k x.1 x.2.1 x.2.2) (0,0,([]:List Cn)) A3 (fun x=>⟨53,[(3, .own 0 x.1 1),(10,ql 1 cS a0),(11,qi (a0.length)),(12,qi x.2.1)]⟩) (fun x=>⟨[[.buf (List.map vS x.2.2)]],[]⟩) fun k x=>by obtain⟨j,m,i⟩:=x; rw [wz]; exact rgL<|bFL (zo<|bP 0 ww fun d=>rgL<|blL (fun o=>⟨53,[(3, .own 0 j 1),(5,qs d),(6,qi o),(10,ql 1 cS a0),(11,qi (a0.length)),(12,qi m)]⟩) (fun o=>⟨[[.buf (List.map vS i)]],[]⟩) (fun o=>lpL (fun k x=>vW n j i d k x) 0 A3 (fun x=>⟨53,[(3, .own 0 j 1),(5,qs d),(6,qi x),(10,ql 1 cS a0),(11,qi (a0.length)),(12,qi m)]⟩) (fun x=>⟨[[.buf (List.map vS i)]],[]⟩) fun k w=>by rw [vW]; exact bEL fun B hE=>rgF hE ⟨53,[(3, .own 0 j 1),(5,qs d),(6,qi w),(10,ql 1 cS a0),(11,qi (a0.length)),(12,qi m),(27,qb B)]⟩ ⟨[[.buf (List.map vS i)]],[]⟩ (gFL 5 20 (bEL fun C D=>bEL fun S E=>kPL 7 (pb (id:=0) (e:=9) (sz:=1) (b:=16) D)<|kPL 8 (pD (c:=vS) (l:=i) (off:=(C*1)) E)<|eJ A3)<|eJ A3)<|bFL (zo<|z8 (j3 (P:=Tryz.prog) (gl:=gl0 mx) zl)<|zp fun h=>⟨wrap .i64 (w+1),h,wk A3⟩)<|xjL<|jnL A3) fun o=>bEL fun U F=>yV (Wk.frz (c:=vS) (l:=i) 3 0 j F O8)<|bEL fun s hE=>lfL (fun z=>zdI [0,1,2,4,5,7,8,9,3,6,10,11] [3,6,10,11] [[],[],[0,1],[0,1,2],[],[4],zx 0 6,[],[],[7,8],zx 0 10,zx 0 11] ⟨53,[(3, .own 0 s.1 1),(10,ql 1 cS a0),(11,qi (a0.length)),(12,qi m)]⟩ ⟨[[.buf (List.map vS s.2)]],[]⟩ zJ (have h:=hE; bE h fun G f h=>bE h fun A g h=>bE h fun u H h=>bE h fun I J h=>dS [0,1]<|dP (jh f)<|dS [4,5,7,8]<|dP (jd g)<|dV (zr 9 (jd g) (zr 2 (jh f) zW)) 1 0 1 (nr (T:=tyT) (c:=vS) (l2:=G) (e:=9) (e2:=9) (bytes:=16) (b2:=16) (tok2:= .none) (cell:=none) O8 H)<|dV (zr 9 (jd g) (zr 2 (jh f) zW)) 2 0 1 (W2 (T:=tyT) (c:=vS) (l:=u) (l2:=([d]:List Cn)) (n:=u.length) (e:=9) (e2:=9) (bytes:=16) (b2:=16) (tok2:= .exact) O8 J)<|kF h (fun hb h=>dV (zr 9 (jd g) (zr 2 (jh f) zW)) 3 0 3 (Pp (T:=tyT) (n:=((u.length)+List.length ([d]:List Cn))) (c:=vS) (l2:=A) (e:=9) (e2:=9) (bytes:=16) (b2:=16) (tok2:= .none) (cell:=none) (id:=2) O8 hb)<|dF (zr 9 (jd g) (zr 2 (jh f) zW))<|by cases h; exact dE Aw) fun hb h=>bE h fun V K h=>dV (zr 9 (jd g) (zr 2 (jh f) zW)) 3 0 2 (W2 (T:=tyT) (c:=vS) (l:=I) (l2:=A) (n:=(u.length)+List.length ([d]:List Cn)) (e:=9) (e2:=9) (bytes:=16) (b2:=16) (tok2:= .none) O8 K)<|dF (zr 9 (jd g) (zr 2 (jh f) zW))<|by cases h; exact dE Ay) z)<|zp<|z8 zl fun h=>⟨(s.1,wrap .i64 (m+1),s.2),h,wk A3⟩)<|xjL<|jnL A3) fun a=>rgL<|rgL<|blL (fun v=>⟨53,[(7,qs v)]⟩) (fun v=>⟨[],[]⟩) (fun v=>lpL (fun k x=>vU n a k x.1 x.2) (([]:Cn),0) A3 (fun x=>⟨53,[(7,qs x.1),(42, .own 0 a.1 1),(43,qi ((a.1:Nat):Int)),(44,qi x.2)]⟩) (fun x=>⟨[[.buf (List.map vS a.2)]],[]⟩) fun k x=>by obtain⟨W,L⟩:=x; rw [vU]; exact rgL<|bFL (zo<|bEL fun M N=>bEL fun X O=>rCL (kPL 0 (pb (id:=0) (e:=9) (sz:=1) (b:=16) N)<|kPL 1 (pD (c:=vS) (l:=a.2) (off:=(M*1)) O) edL)<|bEL fun Q R=>xo zJ (kPL 2 (zK R) edL)<|zp<|z8 zl fun h=>⟨(Q,wrap .i64 (L+1)),h,wk A3⟩)<|xjL<|jnL A2) fun v=>rgL<|rKL A1
def wd (n:Nat)(a0:zv):Nat→Cn→Int→Option Cn
 |0,_,_=>none
 | k+1,b,a=>
  if decide (a<(a0.zh.length:Int))then((zM a0.zh a).bind fun c=>
  (jJ n c).bind fun d=>
  (kT n d).bind fun e=>
  (zD n 49 ([e]:List Cn)).bind fun f=>
  (um b f).bind fun g=>
  wd n a0 k g (wrap .i64 (a+1)))else(some b)
def xU (n:Nat)(a0:zv):Option (Cn×Int):=
 (y8 n a0).bind fun a=>
 if a !=0 then(some (([]:Cn),a))else((wd n a0 n ([]:Cn) 0).bind fun b=>
 (zD n 48 ([b]:List Cn)).bind fun c=>
 some (c,0))
theorem gS {n a0 r}:xU n a0=some r→AC mx 132 [.agg [ql 1 (cL 3 za.cells) a0.zh]] [] (.tuple [qs r.1,qi r.2]) []:=
 fnL Tryz.func132 rfl<|rgL<|bC 1 A2 jm fun i=>rgL<|bFL (rgL<|rKL A2)<|rgL<|cP 2 (ga a0.zh)<|blL (fun a=>⟨31,[(5,qs a)]⟩) (fun a=>⟨[],[]⟩) (fun a=>lpL (fun k x=>wd n a0 k x.1 x.2) (([]:Cn),0) A2 (fun x=>⟨31,[(5,qs x.1),(14,ql 1 (cL 3 za.cells) a0.zh),(15,qi (a0.zh.length)),(16,qi x.2)]⟩) (fun x=>⟨[],[]⟩) fun k x=>by obtain⟨j,b⟩:=x; rw [wd]; exact rgL<|bFL (zo<|bP 0 ZD fun l=>bEL fun m c=>bEL fun o d=>bEL fun s e=>bEL fun f g=>xo zJ (kCL 2 A1 (Yi c)<|kCL 3 A1 (Ws d)<|kCL 5 A1 (zN e)<|kPL 6 (zK g) edL)<|zp<|z8 zl fun h=>⟨(f,wrap .i64 (b+1)),h,wk A1⟩)<|xjL<|jnL A1) fun a=>bC 2 A1 zN fun u=>rKL A1
def vq (n:Nat)(a0:zc)(a1:Bool):Option (Cn×Int):=
 (yZ n (zc.mk a0.zG a0.yl (zv.mk a0.zt.zh)) a1).bind fun a=>
 if a !=0 then(some (([]:Cn),a))else(if a0.zG==4 then((xU n (zv.mk a0.zt.zh)).bind fun b=>
 (zD n (wrap .i64 ((160:Int)+a0.zG)) ([b.1]:List Cn)).bind fun c=>
 some (c,0))else((zD n (wrap .i64 ((128:Int)+a0.zG)) ([a0.yl]:List Cn)).bind fun d=>
 some (d,0)))
theorem ZK {n a0 a1 r}:vq n a0 a1=some r→AC mx 131 [.agg (zc.cells a0),qb a1] [] (.tuple [qs r.1,qi r.2]) []:=
 fnL Tryz.func131 rfl<|rgL<|bC 2 A2 jY fun a=>rgL<|bFL (rgL<|rKL A2)<|rgL<|bFL (bC 2 A2 gS fun b=>bC 5 A2 zN fun c=>rKL A2)<|bC 6 A2 zN fun d=>rKL A2
def wc (n:Nat)(a0:List zc):Nat→Cn→Int→Option (Ctl (Cn×Int) Cn)
 |0,_,_=>none
 | k+1,d,a=>
  if decide (a<(a0.length:Int))then((zM a0 a).bind fun b=>
  (vq n (zc.mk b.zG b.yl (zv.mk b.zt.zh)) false).bind fun c=>
  if c.2 !=0 then(some (.ret (([]:Cn),c.2)))else((um d c.1).bind fun e=>
  wc n a0 k e (wrap .i64 (a+1))))else(some (.nxt d))
def uB (n:Nat)(a0:List zc):Option (Cn×Int):=
 if(a0.length:Int)==0 then(some (([]:Cn),7))else(if decide ((a0.length:Int)>16)then(some (([]:Cn),2))else(yb (wc n a0 n ([]:Cn) 0) (fun r=>some r) (fun a=>
 some (a,0))))
theorem Yr {n a0 r}:uB n a0=some r→AC mx 63 [ql 3 zc.cells a0] [] (.tuple [qs r.1,qi r.2]) []:=
 fnL Tryz.func63 rfl<|rgL<|cP 1 (gg a0)<|bFL (rgL<|rKL A1)<|cP 1 (gg a0)<|bFL (rgL<|rKL A1)<|rgL<|cP 1 (gg a0)<|bcL (fun a=>⟨34,[(4,qs a)]⟩) (fun a=>⟨[],[]⟩) (fun f b=>lpL (fun k x=>wc n a0 k x.1 x.2) (([]:Cn),0) A1 (fun x=>⟨34,[(4,qs x.1),(15,ql 3 zc.cells a0),(16,qi (a0.length)),(17,qi x.2)]⟩) (fun x=>⟨[],[]⟩) fun k x=>by obtain⟨g,c⟩:=x; rw [wc]; exact rgL<|bFL (zo<|bP 0 vN fun i=>bC 1 A2 ZK fun j=>rgL<|bFL (rgL<|hKL b<|rJ A2)<|bEL fun d e=>xo zJ (kPL 2 (zK e) edL)<|zp<|z8 zl fun h=>⟨(d,wrap .i64 (c+1)),h,wk A2⟩)<|xjL<|jCL A1) fun a=>rgL<|rKL A1
def uX (n:Nat)(a0:Int):Nat→(List Int)→Int→Option (List Int)
 |0,_,_=>none
 | k+1,b,a=>
  if decide (a≥0)then((WA .u64 (wrap .u64 a0) (wrap .i64 ((8:Int)*a))).bind fun c=>
  (jR 1 b ([wrap .u8 c]:List Int)).bind fun d=>
  uX n a0 k d (wrap .i64 (a-1)))else(some b)
def uZ (n:Nat):Nat→(List Int)→Option (List Int)
 |0,_=>none
 | k+1,a=>
  (if decide ((a.length:Int)>1)then((zM a 0).bind fun b=>
  if b==0 then((zM a 1).bind fun c=>
  if decide (c<128)then(some true)else((zM a 0).bind fun d=>
  if d==255 then((zM a 1).bind fun e=>
  some (decide (e≥128)))else(some false)))else((zM a 0).bind fun f=>
  if f==255 then((zM a 1).bind fun g=>
  some (decide (g≥128)))else(some false)))else(some false)).bind fun i=>
  if i then((lsl a 1 (a.length)).bind fun j=>
  uZ n k j)else(some a)
def jH (n:Nat)(a0:Int):Option Cn:=
 (uX n a0 n ([]:List Int) 7).bind fun a=>
 (uZ n  n a).bind fun b=>
 some (b2s b)
theorem Yl {n a0 r}:jH n a0=some r→AC mx 93 [qi a0] [] (qs r) []:=
 fnL Tryz.func93 rfl<|rgL<|rgL<|rgL<|rgL<|blL (fun a=>⟨51,[(4, .sl 1 (List.map (cI .u8) a) (.fam 0 (a.length)))]⟩) (fun a=>⟨[],[a.length]⟩) (fun a=>yV (wk (fr':=⟨51,[(3, .int .u64 (wrap .u64 a0)),(4,qn),(5,qi 7)]⟩) (st':=⟨[],[]⟩) A1)<|yV Wk.nilFam<|lpL (fun k x=>uX n a0 k x.1 x.2) (([]:List Int),7) A6 (fun x=>⟨51,[(3, .int .u64 (wrap .u64 a0)),(4, .sl 1 (List.map (cI .u8) x.1) (.fam 0 (x.1.length))),(5,qi x.2)]⟩) (fun x=>⟨[],[x.1.length]⟩) fun k x=>by obtain⟨B,d⟩:=x; rw [uX]; exact rgL<|bFL (zo<|bEL fun C f=>bEL fun g i=>xo zJ (kPL 4 (rf f)<|lfL (fun z=>kA 7 0 (cI .u8) (e:=5) (e2:=5) (sz:=1) (bytes:=1) (b2:=1) (tok2:= .exact) i z) edL)<|zp<|z8 zl fun h=>⟨(g,wrap .i64 (d-1)),h,wk A6⟩)<|xjL<|jnL A6) fun a=>blL (fun b=>⟨51,[(4,ql 1 (cI .u8) b)]⟩) (fun b=>⟨[],[]⟩) (fun b=>lpL (fun k x=>uZ n  k x) a Aa (fun x=>⟨51,[(4,ql 1 (cI .u8) x)]⟩) (fun x=>⟨[],[]⟩) fun k c=>by rw [uZ]; exact bEL fun j hE=>rgF hE ⟨51,[(4,ql 1 (cI .u8) c),(46,qb j)]⟩ ⟨[],[]⟩ (kPL 1 (UD c)<|gFL 4 23 (bEL fun D l=>kPL 5 (dU l)<|gFL 9 28 (bEL fun E m=>kPL 10 (dU m)<|gFL 15 34 (eJ A1)<|bEL fun F o=>kPL 16 (dU o)<|gFL 20 39 (bEL fun G s=>kPL 21 (dU s)<|eJ A1)<|eJ A1)<|bEL fun H u=>kPL 16 (dU u)<|gFL 20 39 (bEL fun I v=>kPL 21 (dU v)<|eJ A1)<|eJ A1)<|eJ A1)<|bFL (zo<|bEL fun w A=>xo (j3 (P:=Tryz.prog) (gl:=gl0 mx) zl) (kPL 1 (mB A) edL)<|zp fun h=>⟨w,h,wk A1⟩)<|xjL<|jnL A1) fun b=>rCL (lfL (fun z=>kB 1 b z) edL)<|rKL A1
def qK (n:Nat)(a0:Int):Option Cn:=
 (jH n a0).bind fun a=>
 (zD n 2 ([a]:List Cn)).bind fun b=>
 some b
theorem Xt {n a0 r}:qK n a0=some r→AC mx 65 [qi a0] [] (qs r) []:=
 fnL Tryz.func65 rfl<|rgL<|bEL fun c a=>bEL fun d b=>rCL (kCL 1 A1 (Yl a)<|kCL 3 A1 (zN b) edL)<|rKL A1
def bv (n:Nat):Option Cn:=
 (uM n ([49,46,51,46,54,46,49,46,52,46,49,46,53,56,56,56,56,46,49,46,49]:Cn)).bind fun a=>
 (zD n 48 ([a]:List Cn)).bind fun b=>
 some b
theorem YS {n r}:bv n  =some r→AC mx 189 [] [] (qs r) []:=
 fnL Tryz.func189 rfl<|rgL<|bEL fun c a=>bEL fun d b=>rCL (kCL 0 A1 (gW a)<|kCL 2 A1 (zN b) edL)<|rKL A1
def gt (n:Nat)(a0:zB):Option Cn:=
 (wv n a0.zA).bind fun a=>
 (um a a0.wj).bind fun b=>
 (um b a0.zY).bind fun c=>
 some c
theorem Vh {n a0 r}:gt n a0=some r→AC mx 190 [.agg (zB.cells a0)] [] (qs r) []:=
 fnL Tryz.func190 rfl<|rgL<|bEL fun e a=>bEL fun f b=>bEL fun c d=>lfL (fun z=>zm [0,1,3,4,6,7,2,5,8,9] [2] [[],[0],[0,1],[],[3],[0,1,2,3,4],[],[6],[0,1,2,3,4,5,6,7],[0,1,2,3,4,5,6,7,8]] [] [(2,qs c)] ⟨[],[]⟩ (dS [0,1,3,4,6,7]<|dC zW A2 (jV a)<|dP (zK b)<|dP (zK d)<|dS [9]<|dE A2) z)<|rKL A1
def uP (n:Nat)(a0:zB):Option (Cn×Int):=
 (wB n a0).bind fun a=>
 if a !=0 then(some (([]:Cn),a))else((bv n).bind fun b=>
 (gt n a0).bind fun c=>
 (um ([0]:Cn) c).bind fun d=>
 (zD n 3 ([d]:List Cn)).bind fun e=>
 (zD n 48 ([b,e]:List Cn)).bind fun f=>
 some (f,0))
theorem YX {n a0 r}:uP n a0=some r→AC mx 133 [.agg (zB.cells a0)] [] (.tuple [qs r.1,qi r.2]) []:=
 fnL Tryz.func133 rfl<|rgL<|bC 1 A2 kj fun g=>rgL<|bFL (rgL<|rKL A2)<|bEL fun i b=>bEL fun j c=>bEL fun l a=>bEL fun m d=>bEL fun e f=>lfL (fun z=>zm [1,0,2,3,4,5,6,7,8,9] [0,2,5,7] [[],[],[0,1],[0,1,2],[0,1,2,3],[0,1,2,3,4],[0,1,2,3,4,5],[0,1,2,3,4,5,6],[0,1,2,3,4,5,6,7],[0,1,2,3,4,5,6,7,8]] [] [(2,qs e),(3,qi 0)] ⟨[],[]⟩ (dS [1]<|dC zW A2 (YS b)<|dC zW A2 (Vh c)<|dP (zK a)<|dS [4]<|dC (zr 3 (zK a) zW) A2 (zN d)<|dS [6]<|dC (zr 3 (zK a) zW) A2 (zN f)<|dS [8,9]<|dE A2) z)<|rKL A1
def vJ (n:Nat)(a0:ze):Option (Cn×Int):=
 (yM n (ze.mk (zv.mk a0.zt.zh) (zB.mk a0.zP.zA a0.zP.wj a0.zP.zY))).bind fun b=>
 if b !=0 then(some (([]:Cn),b))else((xU n (zv.mk a0.zt.zh)).bind fun c=>
 (uP n (zB.mk a0.zP.zA a0.zP.wj a0.zP.zY)).bind fun a=>
 if a.2 !=0 then(some (([]:Cn),a.2))else((zD n 48 ([c.1,a.1]:List Cn)).bind fun d=>
 some (d,0)))
theorem Ya {n a0 r}:vJ n a0=some r→AC mx 66 [.agg [ql 1 (cL 3 za.cells) a0.zt.zh,qi a0.zP.zA,qs a0.zP.wj,qs a0.zP.zY]] [] (.tuple [qs r.1,qi r.2]) []:=
 fnL Tryz.func66 rfl<|rgL<|bC 1 A2 gB fun a=>rgL<|bFL (rgL<|rKL A2)<|bC 2 A2 gS fun b=>bC 2 A2 YX fun c=>rgL<|bFL (rgL<|rKL A2)<|bC 3 A2 zN fun d=>rKL A2
def jr (n:Nat)(a0:Cn):Option (Cn×Int):=
 (xi n 48 ([a0]:List Cn)).bind fun a=>
 if a.2 !=0 then(some (([]:Cn),2))else(some (a.1,0))
theorem pd {n a0 r}:jr n a0=some r→AC mx 67 [qs a0] [] (.tuple [qs r.1,qi r.2]) []:=
 fnL Tryz.func67 rfl<|rgL<|bC 2 A1 uf fun a=>rgL<|bFL (rgL<|rKL A1)<|rgL<|rKL A1
def xM (n:Nat)(a0:zz):Nat→Cn→Int→Option Cn
 |0,_,_=>none
 | k+1,c,b=>
  if decide (b<(a0.zg.length:Int))then((zM a0.zg b).bind fun a=>
  (vJ n (ze.mk (zv.mk a.zt.zh) (zB.mk a.zP.zA a.zP.wj a.zP.zY))).bind fun d=>
  (um c d.1).bind fun e=>
  xM n a0 k e (wrap .i64 (b+1)))else(some c)
def yh (n:Nat)(a0:zz):Option (Cn×Int):=
 (jX n a0).bind fun a=>
 if a !=0 then(some (([]:Cn),a))else((w8 n a0.uu).bind fun b=>
 (if !(a0.zC==([]:Cn))then((vm n a0.zC).bind fun m=>
 (zD n 128 ([m.1]:List Cn)).bind fun o=>
 (um b.1 o).bind fun s=>
 some s)else(some b.1)).bind fun c=>
 (if a0.yk !=0 then((vK n a0.yk).bind fun u=>
 (zD n 129 ([u.1]:List Cn)).bind fun v=>
 (um c v).bind fun w=>
 some w)else(some c)).bind fun d=>
 (if decide ((a0.zi.length:Int)>0)then((qd n a0.zi).bind fun A=>
 (zD n 162 ([A]:List Cn)).bind fun B=>
 (um d B).bind fun C=>
 some C)else(some d)).bind fun D=>
 (uv n 131 a0.xI).bind fun E=>
 (uv n 132 a0.xb).bind fun F=>
 (um E F).bind fun G=>
 (uv n 133 a0.jt).bind fun H=>
 (um G H).bind fun I=>
 (um D I).bind fun e=>
 yb (if decide ((a0.zy.length:Int)>0)then((uB n a0.zy).bind fun J=>
 (xi n 166 ([J.1]:List Cn)).bind fun f=>
 if f.2 !=0 then(some (.ret (([]:Cn),2)))else((um e f.1).bind fun K=>
 some (.nxt K)))else(some (.nxt e))) (fun r=>some r) (fun L=>
 (qK n a0.ye).bind fun M=>
 (uv n 135 a0.uc).bind fun N=>
 (um M N).bind fun O=>
 (um L O).bind fun g=>
 if decide ((a0.zg.length:Int)>0)then((xM n a0 n ([]:Cn) 0).bind fun P=>
 (xi n 168 ([P]:List Cn)).bind fun i=>
 if i.2 !=0 then(some (([]:Cn),2))else((um g i.1).bind fun Q=>
 (jr n Q).bind fun j=>
 some (j.1,j.2)))else((jr n g).bind fun l=>
 some (l.1,l.2))))
theorem gC {n a0 r}:yh n a0=some r→AC mx 15 [.agg (zz.cells a0)] [] (.tuple [qs r.1,qi r.2]) []:=
 fnL Tryz.func15 rfl<|rgL<|bC 1 A2 Wo fun P=>rgL<|bFL (rgL<|rKL A2)<|bC 2 A2 Yp fun Q=>rgL<|cuL (fun a=>⟨152,[(1,qp 0),(5,qs a)]⟩) (fun a=>⟨[zz.cells a0],[]⟩) (fun a=>bFL (bC 2 A2 dk fun R=>bEL fun S o=>bEL fun T s=>xo zl (kCL 3 A2 (zN o)<|kPL 4 (zK s) edL)<|jnL A3)<|jnL A3) fun a=>rgL<|cuL (fun b=>⟨152,[(1,qp 0),(5,qs b)]⟩) (fun b=>⟨[zz.cells a0],[]⟩) (fun b=>bFL (bC 2 A2 Y7 fun U=>bEL fun V u=>bEL fun W v=>xo zl (kCL 3 A2 (zN u)<|kPL 4 (zK v) edL)<|jnL A3)<|jnL A3) fun b=>cP 2 (ue a0.zi)<|cuL (fun c=>⟨152,[(1,qp 0),(5,qs c)]⟩) (fun c=>⟨[zz.cells a0],[]⟩) (fun c=>bFL (bEL fun X w=>bEL fun Y A=>bEL fun Z B=>xo zl (kCL 3 A2 (Vf w)<|kCL 5 A2 (zN A)<|kPL 6 (zK B) edL)<|jnL A3)<|jnL A3) fun c=>bEL fun a1 C=>bEL fun a2 D=>bEL fun a3 e=>bEL fun a4 E=>bEL fun a5 i=>bEL fun F j=>lfL (fun z=>zs [0,1,2,4,5,8,9,3,6,7,10,11,12,13] [3,6,10,13] [[],[],[1],[1,2],[],[4],[1,2,3,4,5],[1,2,3,4,5,6],[],[8],[1,2,3,4,5,6,8,9],[1,2,3,4,5,6,7,8,9,10],[0,1,2,3,4,5,6,7,8,9,10,11],[0,1,2,3,4,5,6,7,8,9,10,11,12]] [] [(1,qp 0),(5,qs F)] (dS [0,1,2,4,5,8,9]<|dC zW A2 (qM C)<|dC zW A2 (qM D)<|dP (zK e)<|dC (zr 7 (zK e) zW) A2 (qM E)<|dP (zK i)<|dP (zK j)<|dF (zr 12 (zK j) (zr 11 (zK i) (zr 7 (zK e) zW)))<|dE A3) z)<|cP 2 (gg a0.zy)<|ccL (fun f=>⟨152,[(1,qp 0),(5,qs f)]⟩) (fun f=>⟨[zz.cells a0],[]⟩) (fun a6 G=>bFL (bC 2 A2 Yr fun a7=>bC 2 A2 uf fun a8=>rgL<|bFL (rgL<|ya<|hvL G<|wo<|rJ A2)<|bEL fun a9 H=>xo zl (kPL 2 (zK H) edL)<|jCL A3)<|jCL A3) fun f=>bEL fun b0 I=>bEL fun b1 J=>bEL fun b2 l=>bEL fun g m=>lfL (fun z=>zs [0,1,2,4,5,3,6,7,8,9] [3,6,9] [[],[],[1],[1,2],[],[4],[1,2,3,4,5],[1,2,3,4,5,6],[0,1,2,3,4,5,6,7],[0,1,2,3,4,5,6,7,8]] [] [(1,qp 0),(5,qs g)] (dS [0,1,2,4,5]<|dC zW A2 (Xt I)<|dC zW A2 (qM J)<|dP (zK l)<|dP (zK m)<|dF (zr 8 (zK m) (zr 7 (zK l) zW))<|dE A3) z)<|cP 2 (bZ a0.zg)<|bFL (rgL<|rgL<|blL (fun d=>⟨152,[(5,qs g),(15,qs d)]⟩) (fun d=>⟨[],[]⟩) (fun d=>lpL (fun k x=>xM n a0 k x.1 x.2) (([]:Cn),0) A3 (fun x=>⟨152,[(1,qp 0),(5,qs g),(15,qs x.1),(16,qi x.2)]⟩) (fun x=>⟨[zz.cells a0],[]⟩) fun k x=>by obtain⟨b3,K⟩:=x; rw [xM]; exact cP 3 (bZ a0.zg)<|bFL (zo<|bEL fun b4 L=>bEL fun b5 M=>rCL (kPL 3 (jF L)<|kCL 5 A2 (Ya M) edL)<|bEL fun N O=>xo zJ (kPL 2 (zK O) edL)<|zp<|z8 zl fun h=>⟨(N,wrap .i64 (K+1)),h,wk A3⟩)<|xjL<|jnL A2) fun d=>bC 2 A1 uf fun b6=>rgL<|bFL (rgL<|rKL A1)<|bP 2 zK fun b7=>bC 1 A1 pd fun b8=>rKL A1)<|bC 1 A2 pd fun b9=>rKL A2
def jZ (n:Nat)(a1:Cn)(m0:zf):Option (Cn×zf):=
 if a1==([]:Cn)then(some (a1,m0))else((zj n (a1.length:Int) m0).bind fun b=>
 (zj n 256 b.2).bind fun c=>
 (zj n 5 c.2).bind fun a=>
 if a.1==0 then((ssl a1 0 b.1).bind fun d=>
 (um d (b2s ([wrap .u8 c.1]:List Int))).bind fun e=>
 (ssl a1 (wrap .i64 (b.1+1)) (a1.length)).bind fun f=>
 (um e f).bind fun g=>
 some (g,a.2))else(if a.1==1 then((ssl a1 0 b.1).bind fun i=>
 (um i (b2s ([wrap .u8 c.1]:List Int))).bind fun j=>
 (ssl a1 b.1 (a1.length)).bind fun l=>
 (um j l).bind fun m=>
 some (m,a.2))else(if a.1==2 then((ssl a1 0 b.1).bind fun o=>
 (ssl a1 (wrap .i64 (b.1+1)) (a1.length)).bind fun s=>
 (um o s).bind fun u=>
 some (u,a.2))else(if a.1==3 then((ssl a1 0 b.1).bind fun v=>
 some (v,a.2))else(some (a1,a.2))))))
theorem pF {n a1 m0 r}:jZ n a1 m0=some r→AC mx 16 [qp 0,qs a1] [[ql 1 (cI .i64) m0.f_L,qi m0.xk]] (qs r.1) [[ql 1 (cI .i64) r.2.f_L,qi r.2.xk]]:=
 fnL Tryz.func16 rfl<|rgL<|rgL<|bFL (rgL<|rKL A3)<|bC 3 A3 zk fun A=>bEL fun a b=>rCL (kCL 1 A3 (zk b)<|lfL (fun z=>kB 4 ([wrap .u8 a.1]:List Int) z) edL)<|bC 1 A3 zk fun B=>zo<|rgL<|bFL (bEL fun C c=>bEL fun D d=>bEL fun E e=>bEL fun f g=>lfL (fun z=>zs [0,1,2,3,4,5,6,7,8,9,10] [] [[],[],[0,1],[],[0,1,2,3],[],[],[6],[5,6,7],[0,1,2,3,4,5,6,7,8],[0,1,2,3,4,5,6,7,8,9]] [] [(4,qs f)] (dS [0,1]<|dP (xn c)<|dS [3]<|dP (zK d)<|dS [5,6,7]<|dP (xc e)<|dP (zK g)<|dS [10]<|dE A3) z)<|ya<|yf<|rJ A3)<|rgL<|bFL (bEL fun F i=>bEL fun G j=>bEL fun H l=>bEL fun m o=>lfL (fun z=>zs [0,1,2,3,4,5,6,7,8,9] [] [[],[],[0,1],[],[0,1,2,3],[],[],[5,6],[0,1,2,3,4,5,6,7],[0,1,2,3,4,5,6,7,8]] [] [(4,qs m)] (dS [0,1]<|dP (xn i)<|dS [3]<|dP (zK j)<|dS [5,6]<|dP (xc l)<|dP (zK o)<|dS [9]<|dE A3) z)<|ya<|yf<|rJ A3)<|rgL<|bFL (bEL fun I s=>bEL fun J u=>bEL fun v w=>lfL (fun z=>zs [0,1,2,3,4,5,6,7,8] [] [[],[],[0,1],[],[],[4],[3,4,5],[0,1,2,3,4,5,6],[0,1,2,3,4,5,6,7]] [] [(4,qs v)] (dS [0,1]<|dP (xn s)<|dS [3,4,5]<|dP (xc u)<|dP (zK w)<|dS [8]<|dE A3) z)<|ya<|yf<|rJ A3)<|rgL<|bFL (bP 2 xn fun K=>ya<|yf<|rJ A3)<|zp<|rgL<|rKL A3
def ug (n:Nat)(b:Int)(a0:Cn):Nat→Int→Int→Option Int
 |0,_,_=>none
 | k+1,c,a=>
  if decide (a<(wrap .i64 ((wrap .i64 b)-128)))then((yr a0 (wrap .i64 ((2:Int)+a))).bind fun d=>
  ug n b a0 k (wrap .i64 ((wrap .i64 ((256:Int)*c))+(wrap .i64 d))) (wrap .i64 (a+1)))else(some c)
def jn (n:Nat)(a0:Cn):Option (zb×Cn×Int):=
 if(a0.length:Int)==0 then(some ((zb.mk 0 ([]:Cn) ([]:Cn)),([]:Cn),3))else((yr a0 0).bind fun d=>
 if(Int.tmod d 32)==31 then(some ((zb.mk 0 ([]:Cn) ([]:Cn)),([]:Cn),5))else(if(a0.length:Int)==1 then(some ((zb.mk 0 ([]:Cn) ([]:Cn)),([]:Cn),3))else((yr a0 1).bind fun b=>
 (if(wrap .i64 b)==128 then(some true)else(some (decide ((wrap .i64 b)>131)))).bind fun e=>
 if e then(some ((zb.mk 0 ([]:Cn) ([]:Cn)),([]:Cn),6))else(yb (if decide ((wrap .i64 b)>128)then(if decide ((a0.length:Int)<(wrap .i64 ((2:Int)+(wrap .i64 ((wrap .i64 b)-128)))))then(some (.ret ((zb.mk 0 ([]:Cn) ([]:Cn)),([]:Cn),3)))else((ug n b a0 n 0 0).bind fun c=>
 (zM ([0,128,256,65536]:List Int) (wrap .i64 ((wrap .i64 b)-128))).bind fun f=>
 (if decide (c<f)then(some true)else(some (decide (c>131072)))).bind fun g=>
 if g then(some (.ret ((zb.mk 0 ([]:Cn) ([]:Cn)),([]:Cn),6)))else(some (.nxt (c,wrap .i64 ((2:Int)+(wrap .i64 ((wrap .i64 b)-128))))))))else(some (.nxt (wrap .i64 b,2)))) (fun r=>some r) (fun a=>
 if decide ((wrap .i64 ((a0.length:Int)-a.2))<a.1)then(some ((zb.mk 0 ([]:Cn) ([]:Cn)),([]:Cn),3))else((yr a0 0).bind fun i=>
 (ssl a0 a.2 (wrap .i64 (a.2+a.1))).bind fun j=>
 (ssl a0 0 (wrap .i64 (a.2+a.1))).bind fun l=>
 (ssl a0 (wrap .i64 (a.2+a.1)) (a0.length)).bind fun m=>
 some ((zb.mk (wrap .i64 i) j l),m,0)))))))
theorem gv {n a0 r}:jn n a0=some r→AC mx 134 [qs a0] [] (.tuple [.agg (zb.cells r.1),qs r.2.1,qi r.2.2]) []:=
 fnL Tryz.func134 rfl<|rgL<|rgL<|rgL<|bFL (rgL<|rKL A4)<|bP 1 zS fun C=>bFL (rgL<|rKL A4)<|rgL<|bFL (rgL<|rKL A4)<|bP 1 zS fun a=>bEL fun j hE=>rgF hE ⟨99,[(0,qs a0),(2,qp 0),(5,qp 1),(6,qi (wrap .i64 a)),(7,qi 2),(33,qb j)]⟩ ⟨[[qi 0,qs [],qs []],[qi 0,qs [],qs []]],[]⟩ (gFL 3 30 (eJ A5)<|eJ A5)<|bFL (rgL<|rKL A4)<|rgL<|ccL (fun c=>⟨99,[(0,qs a0),(2,qp 0),(5,qp 1),(6,qi c.1),(7,qi c.2)]⟩) (fun c=>⟨[[qi 0,qs [],qs []],[qi 0,qs [],qs []]],[]⟩) (fun D d=>bFL (rgL<|rgL<|bFL (rgL<|ya<|hvL d<|wo<|rJ A4)<|rgL<|rgL<|blL (fun b=>⟨99,[(0,qs a0),(2,qp 0),(5,qp 1),(6,qi b),(8,qi (wrap .i64 ((wrap .i64 a)-128)))]⟩) (fun b=>⟨[[qi 0,qs [],qs []],[qi 0,qs [],qs []]],[]⟩) (fun b=>lpL (fun k x=>ug n a a0 k x.1 x.2) (0,0) A5 (fun x=>⟨99,[(0,qs a0),(2,qp 0),(5,qp 1),(6,qi x.1),(8,qi (wrap .i64 ((wrap .i64 a)-128))),(9,qi x.2)]⟩) (fun x=>⟨[[qi 0,qs [],qs []],[qi 0,qs [],qs []]],[]⟩) fun k x=>by obtain⟨l,m⟩:=x; rw [ug]; exact rgL<|bFL (zo<|bEL fun o s=>xo zJ (kPL 5 (zS s) edL)<|zp<|z8 zl fun h=>⟨(wrap .i64 ((wrap .i64 ((256:Int)*l))+(wrap .i64 o)),wrap .i64 (m+1)),h,wk A5⟩)<|xjL<|jnL A5) fun b=>rgL<|bP 2 Vq fun E=>bEL fun u hE=>rgF hE ⟨99,[(0,qs a0),(2,qp 0),(5,qp 1),(6,qi b),(7,qi (wrap .i64 ((2:Int)+(wrap .i64 ((wrap .i64 a)-128))))),(70,qb u)]⟩ ⟨[[qi 0,qs [],qs []],[qi 0,qs [],qs []]],[]⟩ (gFL 4 67 (eJ A5)<|eJ A5)<|bFL (rgL<|ya<|hvL d<|wo<|rJ A4)<|jCL A5)<|jCL A5) fun c=>rgL<|bFL (rgL<|rKL A4)<|bEL fun v e=>bEL fun w f=>bEL fun A g=>bEL fun B i=>lfL (fun z=>zm [0,1,2,3,4,5,6,7,8,9,10,11,12,13,14,15,16,17,18,19,20,21,22] [20] [[],[0],[0,1],[],[],[],[],[5,6],[3,4,5,6,7],[],[],[],[10,11],[9,10,11,12],[0,1,2,3,4,5,6,7,8,9,10,11,12,13],[],[],[],[16,17],[15,16,17,18],[0,1,2,3,4,5,6,7,8,9,10,11,12,13,14],[0,1,2,3,4,5,6,7,8,9,10,11,12,13,14,15,16,17,18,19,20],[0,1,2,3,4,5,6,7,8,9,10,11,12,13,14,15,16,17,18,19,20,21]] [] [(2,qp 0),(3,qs B),(4,qi 0)] ⟨[[qi (wrap .i64 v),qs w,qs A]],[]⟩ (dS [0]<|dP (zS e)<|dS (zx 2 6)<|dP (zO f)<|dS (zx 9 4)<|dP (xn g)<|dS (zx 14 5)<|dP (xc i)<|dF (zr 19 (xc i) (zr 13 (xn g) (zr 8 (zO f) (zr 1 (zS e) zW))))<|dS [21,22]<|dE A7) z)<|rKL A2
def vH (n:Nat)(a0:Cn):Option (zb×Int):=
 (jn n a0).bind fun a=>
 if a.2.2 !=0 then(some ((zb.mk 0 ([]:Cn) ([]:Cn)),a.2.2))else(if decide ((a.2.1.length:Int)>0)then(some ((zb.mk 0 ([]:Cn) ([]:Cn)),4))else(some (a.1,0)))
theorem jA {n a0 r}:vH n a0=some r→AC mx 68 [qs a0] [] (.tuple [.agg (zb.cells r.1),qi r.2]) []:=
 fnL Tryz.func68 rfl<|rgL<|bC 1 A2 gv fun a=>rgL<|bFL (rgL<|rKL A4)<|rgL<|bFL (rgL<|rKL A4)<|rgL<|rKL A4
def xZ (n:Nat)(a1:Cn)(m0:zf):Option (Cn×zf):=
 if decide ((a1.length:Int)<2)then(some (a1,m0))else((ssl a1 2 (a1.length)).bind fun b=>
 (zj n 6 m0).bind fun a=>
 if a.1==0 then((zj n 31 a.2).bind fun c=>
 (zD n c.1 ([b]:List Cn)).bind fun f=>
 some (f,c.2))else(if a.1==1 then((yr a1 0).bind fun g=>
 (zD n (B2 .i64 (wrap .i64 g) 31) ([b]:List Cn)).bind fun i=>
 some (i,a.2))else(if a.1==2 then((yr a1 0).bind fun j=>
 (zD n (uU .i64 (wrap .i64 j) 224) ([([]:Cn)]:List Cn)).bind fun l=>
 some (l,a.2))else(if a.1==3 then((zj n 256 a.2).bind fun d=>
 (um ([2,1]:Cn) (b2s ([wrap .u8 d.1]:List Int))).bind fun m=>
 some (m,d.2))else(if a.1==4 then(some (([48,0]:Cn),a.2))else((jZ n a1 a.2).bind fun e=>
 some (e.1,e.2)))))))
theorem kO {n a1 m0 r}:xZ n a1 m0=some r→AC mx 69 [qp 0,qs a1] [[ql 1 (cI .i64) m0.f_L,qi m0.xk]] (qs r.1) [[ql 1 (cI .i64) r.2.f_L,qi r.2.xk]]:=
 fnL Tryz.func69 rfl<|rgL<|rgL<|bFL (rgL<|rKL A3)<|bP 1 xc fun l=>bC 1 A3 zk fun m=>zo<|rgL<|bFL (bEL fun o a=>bEL fun s b=>rCL (kCL 1 A3 (zk a)<|kCL 4 A2 (zN b) edL)<|ya<|yf<|rJ A3)<|rgL<|bFL (bEL fun u c=>bEL fun v d=>rCL (kPL 1 (zS c)<|kCL 6 A2 (zN d) edL)<|ya<|yf<|rJ A3)<|rgL<|bFL (bEL fun w e=>bEL fun A f=>rCL (kPL 1 (zS e)<|kCL 5 A2 (zN f) edL)<|ya<|yf<|rJ A3)<|rgL<|bFL (bEL fun g i=>bEL fun B j=>rCL (kCL 1 A3 (zk i)<|lfL (fun z=>kB 4 ([wrap .u8 g.1]:List Int) z)<|kPL 5 (zK j) edL)<|ya<|yf<|rJ A3)<|rgL<|bFL (rgL<|ya<|yf<|rJ A3)<|zp<|bC 2 A3 pF fun C=>rKL A3
def uh (n:Nat):Nat→Cn→(List zb)→Option (Ctl ((List zb)×Int) (List zb))
 |0,_,_=>none
 | k+1,b,c=>
  if decide ((b.length:Int)>0)then((jn n b).bind fun a=>
  if a.2.2 !=0 then(some (.ret (([]:List zb),a.2.2)))else((jR 40 c ([a.1]:List zb)).bind fun d=>
  uh n k a.2.1 d))else(some (.nxt c))
def xj (n:Nat)(a0:Cn):Option ((List zb)×Int):=
 yb (uh n  n a0 ([]:List zb)) (fun r=>some r) (fun a=>
 some (a,0))
theorem uk {n a0 r}:xj n a0=some r→AC mx 70 [qs a0] [] (.tuple [ql 3 zb.cells r.1,qi r.2]) []:=
 fnL Tryz.func70 rfl<|rgL<|rgL<|bcL (fun a=>⟨26,[(4, .sl 3 (List.map zb.cells a) (.fam 0 (a.length)))]⟩) (fun a=>⟨[],[a.length]⟩) (fun g b=>yV (wk (fr':=⟨26,[(0,qs a0),(4,qn)]⟩) (st':=⟨[],[]⟩) A1)<|yV Wk.nilFam<|lpL (fun k x=>uh n  k x.1 x.2) (a0,([]:List zb)) A6 (fun x=>⟨26,[(0,qs x.1),(4, .sl 3 (List.map zb.cells x.2) (.fam 0 (x.2.length)))]⟩) (fun x=>⟨[],[x.2.length]⟩) fun k x=>by obtain⟨i,j⟩:=x; rw [uh]; exact rgL<|bFL (zo<|bC 1 Aa gv fun c=>rgL<|bFL (rgL<|hKL b<|rJ Aj)<|bEL fun d f=>xo (j3 (P:=Tryz.prog) (gl:=gl0 mx) zl) (lfL (fun z=>kA 3 0 zb.cells (e:=103) (e2:=103) (sz:=3) (bytes:=40) (b2:=40) (tok2:= .exact) f z) edL)<|zp fun h=>⟨(c.2.1,d),h,wk Ce⟩)<|xjL<|jCL A6) fun a=>rgL<|rKL Aa
def vQ (n:Nat) (rc:Cn→zf→Option (Cn×zf)) (g:((List zb)×Int)) (m:(Int×zf)) (e:(Int×zf)):Nat→Cn→Int→(List Int)→Int→Option (Cn×(List Int)×Int)
 |0,_,_,_,_=>none
 | k+1,a,f,b,c=>
  if decide (f<(g.1.length:Int))then((zM g.1 f).bind fun d=>
  (if f !=m.1 then((um a d.uE).bind fun o=>
  some (o,b,c))else(if e.1==0 then((um d.uE d.uE).bind fun s=>
  (um a s).bind fun u=>
  some (u,b,c))else(if e.1==1 then(some (a,b,c))else(if e.1==2 then((xZ n d.uE (zf.mk b c)).bind fun i=>
  (um a i.1).bind fun v=>
  some (v,i.2.f_L,i.2.xk))else((rc d.uE (zf.mk b c)).bind fun j=>
  (um a j.1).bind fun w=>
  some (w,j.2.f_L,j.2.xk)))))).bind fun l=>
  vQ n rc g m e k l.1 (wrap .i64 (f+1)) l.2.1 l.2.2)else(some (a,b,c))
def xW (n:Nat):Nat→Cn→zf→Option (Cn×zf)
 |0,_,_=>none
 | kk+1,a1,m0=>
  (vH n a1).bind fun a=>
  (if a.2 !=0 then(some true)else(some ((Int.tmod (wrap .i64 (Int.tdiv a.1.zF 32)) 2)==0))).bind fun i=>
  if i then((xZ n a1 m0).bind fun e=>
  some (e.1,e.2))else((xj n a.1.zd).bind fun b=>
  (if b.2 !=0 then(some true)else(some ((b.1.length:Int)==0))).bind fun j=>
  if j then((xZ n a1 m0).bind fun f=>
  some (f.1,f.2))else((zj n (b.1.length:Int) m0).bind fun g=>
  (zj n 8 g.2).bind fun c=>
  (vQ n (xW n kk) b g c n ([]:Cn) 0 c.2.f_L c.2.xk).bind fun d=>
  (zD n a.1.zF ([d.1]:List Cn)).bind fun l=>
  some (l,(zf.mk d.2.1 d.2.2))))
theorem WD {n:Nat}:∀(kk:Nat) {a1:Cn} {m0:zf} {r:(Cn×zf)} (_:xW n kk a1 m0=some r),AC mx 17 [qp 0,qs a1] [[ql 1 (cI .i64) m0.f_L,qi m0.xk]] (qs r.1) [[ql 1 (cI .i64) r.2.f_L,qi r.2.xk]]:=by
 intro kk
 induction kk with
 |zero=>intro a1 m0 r h; simp [xW]at h
 | succ kk ih=>
  intro a1 m0 r h
  rw [xW]at h
  exact imA h<|fnL Tryz.func17 rfl<|rgL<|bC 1 A2 jA fun d=>bEL fun i hE=>rgF hE ⟨101,[(0,qp 0),(1,qs a1),(5,qp 1),(26,qb i)]⟩ ⟨[[ql 1 (cI .i64) m0.f_L,qi m0.xk],zb.cells d.1],[]⟩ (gFL 3 20 (eJ A5)<|eJ A5)<|bFL (bC 2 A7 kO fun B=>rKL A7)<|bC 2 A4 uk fun a=>bEL fun j hE=>rgF hE ⟨101,[(0,qp 0),(1,qs a1),(5,qp 1),(7,ql 3 zb.cells a.1),(42,qb j)]⟩ ⟨[[ql 1 (cI .i64) m0.f_L,qi m0.xk],zb.cells d.1],[]⟩ (gFL 3 38 (eJ A5)<|kPL 4 (xF a.1)<|eJ A5)<|bFL (bC 2 A7 kO fun C=>rKL A7)<|bEL fun f l=>rCL (kPL 2 (xF a.1)<|kCL 3 A7 (zk l) edL)<|rgL<|bC 1 A7 zk fun e=>cP 1 (xF a.1)<|blL (fun c=>⟨101,[(5,qp 1),(9,qs c.1)]⟩) (fun c=>⟨[[ql 1 (cI .i64) c.2.1,qi c.2.2],zb.cells d.1],[]⟩) (fun c=>lpL (fun k x=>vQ n (xW n kk) a f e k x.1 x.2.1 x.2.2.1 x.2.2.2) (([]:Cn),0,e.2.f_L,e.2.xk) A5 (fun x=>⟨101,[(0,qp 0),(5,qp 1),(8,qi f.1),(9,qs x.1),(10,qi e.1),(52,ql 3 zb.cells a.1),(53,qi (a.1.length)),(54,qi x.2.1)]⟩) (fun x=>⟨[[ql 1 (cI .i64) x.2.2.1,qi x.2.2.2],zb.cells d.1],[]⟩) fun k x=>by obtain⟨D,g,E,F⟩:=x; rw [vQ]; exact rgL<|bFL (zo<|bP 1 yN fun G=>zga zJ (fun b=>⟨101,[(0,qp 0),(5,qp 1),(8,qi f.1),(9,qs b.1),(10,qi e.1),(52,ql 3 zb.cells a.1),(53,qi (a.1.length)),(54,qi g)]⟩) (fun b=>⟨[[ql 1 (cI .i64) b.2.1,qi b.2.2],zb.cells d.1],[]⟩) (fun b=>rgL<|bFL (bEL fun H m=>xo zX (kPL 3 (zK m) edL)<|jnL As)<|rgL<|bFL (bEL fun I o=>bEL fun J s=>xo zX (kPL 5 (zK o)<|kPL 6 (zK s) edL)<|jnL As)<|rgL<|bFL (jnL As)<|rgL<|bFL (bEL fun K u=>bEL fun L v=>xo zX (kCL 4 Ab (kO u)<|kPL 5 (zK v) edL)<|jnL As)<|bEL fun M w=>bEL fun N A=>xo zX (kCL 4 Ab (ih w)<|kPL 5 (zK A) edL)<|jnL As) fun b=>zp<|z8 zl fun h=>⟨(b.1,wrap .i64 (g+1),b.2.1,b.2.2),h,wk A5⟩)<|xjL<|jnL A5) fun c=>bC 4 A4 zN fun O=>rKL A7
def V5 (n:Nat)(a0:Int):Option Int:=
 if a0==1 then(some 128)else((Uy .i64 1 (wrap .u64 ((8:Int)*(wrap .u64 (wrap .i64 (a0-1)))))).bind fun a=>
 some a)
theorem Bx {n a0 r}:V5 n a0=some r→AC mx 238 [qi a0] [] (qi r) []:=
 fnL Tryz.func238 rfl<|rgL<|rgL<|bFL (rgL<|rKL A1)<|bP 4 DH fun a=>rKL A1
def gZ (n:Nat)(a:Cn):Nat→Int→Int→Option Int
 |0,_,_=>none
 | k+1,c,b=>
  if decide (b<(List.length (s2b a):Int))then((zM (s2b a) b).bind fun d=>
  gZ n a k (ior .i64 (wrap .i64 (c*256)) (wrap .i64 d)) (wrap .i64 (b+1)))else(some c)
def ZC (n:Nat)(a0:Cn):Option (zb×Cn×Int):=
 if a0==([]:Cn)then(some ((zb.mk 0 ([]:Cn) ([]:Cn)),([]:Cn),3))else((yr a0 0).bind fun d=>
 if(uU .i64 (wrap .i64 d) 31)==31 then(some ((zb.mk 0 ([]:Cn) ([]:Cn)),([]:Cn),5))else(if decide ((a0.length:Int)<2)then(some ((zb.mk 0 ([]:Cn) ([]:Cn)),([]:Cn),3))else((yr a0 1).bind fun b=>
 (if(wrap .i64 b)==128 then(some true)else(some (decide ((wrap .i64 b)>131)))).bind fun e=>
 if e then(some ((zb.mk 0 ([]:Cn) ([]:Cn)),([]:Cn),6))else(yb (if decide ((wrap .i64 b)>128)then(if decide ((a0.length:Int)<(wrap .i64 ((2:Int)+(wrap .i64 ((wrap .i64 b)-128)))))then(some (.ret ((zb.mk 0 ([]:Cn) ([]:Cn)),([]:Cn),3)))else((ssl a0 2 (wrap .i64 ((2:Int)+(wrap .i64 ((wrap .i64 b)-128))))).bind fun f=>
 (gZ n f n 0 0).bind fun c=>
 ((V5 n (wrap .i64 ((wrap .i64 b)-128))).bind fun g=>
 if decide (c<g)then(some true)else(some (decide (c>131072)))).bind fun i=>
 if i then(some (.ret ((zb.mk 0 ([]:Cn) ([]:Cn)),([]:Cn),6)))else(some (.nxt (c,wrap .i64 ((2:Int)+(wrap .i64 ((wrap .i64 b)-128))))))))else(some (.nxt (wrap .i64 b,2)))) (fun r=>some r) (fun a=>
 if decide ((wrap .i64 ((a0.length:Int)-a.2))<a.1)then(some ((zb.mk 0 ([]:Cn) ([]:Cn)),([]:Cn),3))else((ssl a0 a.2 (wrap .i64 (a.2+a.1))).bind fun j=>
 (ssl a0 0 (wrap .i64 (a.2+a.1))).bind fun l=>
 (ssl a0 (wrap .i64 (a.2+a.1)) (a0.length)).bind fun m=>
 some ((zb.mk (wrap .i64 d) j l),m,0)))))))
theorem XS {n a0 r}:ZC n a0=some r→AC mx 192 [qs a0] [] (.tuple [.agg (zb.cells r.1),qs r.2.1,qi r.2.2]) []:=
 fnL Tryz.func192 rfl<|rgL<|rgL<|rgL<|bFL (rgL<|rKL A4)<|bP 1 zS fun a=>rgL<|bFL (rgL<|rKL A4)<|rgL<|bFL (rgL<|rKL A4)<|bP 1 zS fun d=>bEL fun l hE=>rgF hE ⟨99,[(0,qs a0),(2,qp 0),(5,qp 1),(6,qi (wrap .i64 a)),(7,qi (wrap .i64 d)),(8,qi 2),(34,qb l)]⟩ ⟨[[qi 0,qs [],qs []],[qi 0,qs [],qs []]],[]⟩ (gFL 3 31 (eJ A5)<|eJ A5)<|bFL (rgL<|rKL A4)<|rgL<|ccL (fun e=>⟨99,[(0,qs a0),(2,qp 0),(5,qp 1),(6,qi (wrap .i64 a)),(7,qi e.1),(8,qi e.2)]⟩) (fun e=>⟨[[qi 0,qs [],qs []],[qi 0,qs [],qs []]],[]⟩) (fun D f=>bFL (rgL<|rgL<|bFL (rgL<|ya<|hvL f<|wo<|rJ A4)<|rgL<|bEL fun b m=>rCL (kPL 3 (zO m)<|lfL (fun z=>kS 4 b z)<|kPL 5 (UD (s2b b)) edL)<|blL (fun c=>⟨99,[(0,qs a0),(2,qp 0),(5,qp 1),(6,qi (wrap .i64 a)),(7,qi c),(8,qi 2),(9,qi (wrap .i64 ((wrap .i64 d)-128)))]⟩) (fun c=>⟨[[qi 0,qs [],qs []],[qi 0,qs [],qs []]],[]⟩) (fun c=>lpL (fun k x=>gZ n b k x.1 x.2) (0,0) A5 (fun x=>⟨99,[(0,qs a0),(2,qp 0),(5,qp 1),(6,qi (wrap .i64 a)),(7,qi x.1),(8,qi 2),(9,qi (wrap .i64 ((wrap .i64 d)-128))),(50,ql 1 (cI .u8) (s2b b)),(51,qi (List.length (s2b b):Int)),(52,qi x.2)]⟩) (fun x=>⟨[[qi 0,qs [],qs []],[qi 0,qs [],qs []]],[]⟩) fun k x=>by obtain⟨o,s⟩:=x; rw [gZ]; exact rgL<|bFL (zo<|bP 0 dU fun u=>z8 zJ<|zp<|z8 zl fun h=>⟨(ior .i64 (wrap .i64 (o*256)) (wrap .i64 u),wrap .i64 (s+1)),h,wk A5⟩)<|xjL<|jnL A5) fun c=>rgL<|bEL fun v hE=>rgF hE ⟨99,[(0,qs a0),(2,qp 0),(5,qp 1),(6,qi (wrap .i64 a)),(7,qi c),(8,qi (wrap .i64 ((2:Int)+(wrap .i64 ((wrap .i64 d)-128))))),(72,qb v)]⟩ ⟨[[qi 0,qs [],qs []],[qi 0,qs [],qs []]],[]⟩ (bEL fun E w=>kCL 2 A4 (Bx w)<|gFL 5 69 (eJ A5)<|eJ A5)<|bFL (rgL<|ya<|hvL f<|wo<|rJ A4)<|jCL A5)<|jCL A5) fun e=>rgL<|bFL (rgL<|rKL A4)<|bEL fun A g=>bEL fun B i=>bEL fun C j=>lfL (fun z=>zm [0,1,2,3,4,5,6,7,8,9,10,11,12,13,14,15,16,17,18,19,20] [18] [[],[],[],[],[],[3,4],[1,2,3,4,5],[],[],[],[8,9],[7,8,9,10],[0,1,2,3,4,5,6,7,8,9,10,11],[],[],[],[14,15],[13,14,15,16],[0,1,2,3,4,5,6,7,8,9,10,11,12],[0,1,2,3,4,5,6,7,8,9,10,11,12,13,14,15,16,17,18],[0,1,2,3,4,5,6,7,8,9,10,11,12,13,14,15,16,17,18,19]] [] [(2,qp 0),(3,qs C),(4,qi 0)] ⟨[[qi (wrap .i64 a),qs A,qs B]],[]⟩ (dS (zx 0 6)<|dP (zO g)<|dS (zx 7 4)<|dP (xn i)<|dS (zx 12 5)<|dP (xc j)<|dF (zr 17 (xc j) (zr 11 (xn i) (zr 6 (zO g) zW)))<|dS [19,20]<|dE A7) z)<|rKL A2
def pp (n:Nat)(a0:Cn):Option (zb×Int):=
 (ZC n a0).bind fun a=>
 if a.2.2 !=0 then(some ((zb.mk 0 ([]:Cn) ([]:Cn)),a.2.2))else(if !(a.2.1==([]:Cn))then(some ((zb.mk 0 ([]:Cn) ([]:Cn)),4))else(some (a.1,0)))
theorem p6 {n a0 r}:pp n a0=some r→AC mx 136 [qs a0] [] (.tuple [.agg (zb.cells r.1),qi r.2]) []:=
 fnL Tryz.func136 rfl<|rgL<|bC 1 A2 XS fun a=>rgL<|bFL (rgL<|rKL A4)<|rgL<|bFL (rgL<|rKL A4)<|rgL<|rKL A4
def bg (n:Nat)(rc:zb→Int→Option Int)(a1:Int):Nat→Cn→Option (Ctl Int Unit)
 |0,_=>none
 | k+1,b=>
  if !(b==([]:Cn))then((ZC n b).bind fun a=>
  if a.2.2 !=0 then(some (.ret a.2.2))else(if decide (a1≥16)then(some (.ret 8))else((rc a.1 (wrap .i64 (a1+1))).bind fun c=>
  if c !=0 then(some (.ret c))else(bg n rc a1 k a.2.1))))else(some (.nxt ()))
def qJ (n:Nat):Nat→zb→Int→Option Int
 |0,_,_=>none
 | kk+1,a0,a1=>
  if(uU .i64 a0.zF 32)==0 then(some 0)else(yb (bg n (qJ n kk) a1 n a0.zd) (fun r=>some r) (fun a=>
  some 0))
theorem KA {n:Nat}:∀(kk:Nat) {a0:zb} {a1:Int} {r:Int} (_:qJ n kk a0 a1=some r),AC mx 191 [.agg (zb.cells a0),qi a1] [] (qi r) []:=by
 intro kk
 induction kk with
 |zero=>intro a0 a1 r h; simp [qJ]at h
 | succ kk ih=>
  intro a0 a1 r h
  rw [qJ]at h
  exact imA h<|fnL Tryz.func191 rfl<|rgL<|rgL<|bFL (rgL<|rKL A2)<|rgL<|bcL (fun _=>⟨37,[]⟩) (fun _=>⟨[],[]⟩) (fun c a=>lpL (fun k x=>bg n (qJ n kk) a1 k x) a0.zd A2 (fun x=>⟨37,[(1,qi a1),(5,qs x)]⟩) (fun x=>⟨[],[]⟩) fun k d=>by rw [bg]; exact rgL<|bFL (zo<|bC 1 A1 XS fun b=>rgL<|bFL (rgL<|hKL a<|rJ A2)<|rgL<|bFL (rgL<|hKL a<|rJ A2)<|bC 3 A2 ih fun e=>rgL<|bFL (rgL<|hKL a<|rJ A2)<|z8 (j3 (P:=Tryz.prog) (gl:=gl0 mx) zl)<|zp fun h=>⟨b.2.1,h,wk A2⟩)<|xjL<|jCL A1) fun f=>rgL<|rKL A1
def Z9 (n:Nat)(a0:Cn):Option Int:=
 (pp n a0).bind fun a=>
 if a.2 !=0 then(some a.2)else((qJ n n a.1 1).bind fun b=>
 some b)
theorem Un {n a0 r}:Z9 n a0=some r→AC mx 135 [qs a0] [] (qi r) []:=
 fnL Tryz.func135 rfl<|rgL<|bC 1 A1 p6 fun a=>rgL<|bFL (rgL<|rKL A2)<|bC 1 A2 (KA _) fun b=>rKL A2
def gO (n:Nat):Nat→Cn→(List zb)→Option (Ctl ((List zb)×Int) (List zb))
 |0,_,_=>none
 | k+1,b,c=>
  if !(b==([]:Cn))then((ZC n b).bind fun a=>
  if a.2.2 !=0 then(some (.ret (([]:List zb),a.2.2)))else((jR 40 c ([a.1]:List zb)).bind fun d=>
  gO n k a.2.1 d))else(some (.nxt c))
def bb (n:Nat)(a0:Cn):Option ((List zb)×Int):=
 yb (gO n  n a0 ([]:List zb)) (fun r=>some r) (fun a=>
 some (a,0))
theorem bp {n a0 r}:bb n a0=some r→AC mx 201 [qs a0] [] (.tuple [ql 3 zb.cells r.1,qi r.2]) []:=
 fnL Tryz.func201 rfl<|rgL<|rgL<|bcL (fun a=>⟨25,[(4, .sl 3 (List.map zb.cells a) (.fam 0 (a.length)))]⟩) (fun a=>⟨[],[a.length]⟩) (fun g b=>yV (wk (fr':=⟨25,[(0,qs a0),(4,qn)]⟩) (st':=⟨[],[]⟩) A1)<|yV Wk.nilFam<|lpL (fun k x=>gO n  k x.1 x.2) (a0,([]:List zb)) A6 (fun x=>⟨25,[(0,qs x.1),(4, .sl 3 (List.map zb.cells x.2) (.fam 0 (x.2.length)))]⟩) (fun x=>⟨[],[x.2.length]⟩) fun k x=>by obtain⟨i,j⟩:=x; rw [gO]; exact rgL<|bFL (zo<|bC 1 Aa XS fun c=>rgL<|bFL (rgL<|hKL b<|rJ Aj)<|bEL fun d f=>rCL (lfL (fun z=>kA 3 0 zb.cells (e:=103) (e2:=103) (sz:=3) (bytes:=40) (b2:=40) (tok2:= .exact) f z) edL)<|z8 (j3 (P:=Tryz.prog) (gl:=gl0 mx) zl)<|zp fun h=>⟨(c.2.1,d),h,wk Ce⟩)<|xjL<|jCL A6) fun a=>rgL<|rKL Aa
def uY (n:Nat)(a0:Cn):Option zu:=
 (bb n a0).bind fun a=>
 some (zu.mk a.1 (a.2 !=0))
theorem pN {n a0 r}:uY n a0=some r→AC mx 165 [qs a0] [] (qp 0) [zu.cells r]:=
 fnL Tryz.func165 rfl<|rgL<|bC 1 A1 bp fun a=>rgL<|rKL A3
def qr (n:Nat)(a0:zb):Option zu:=
 (uY n a0.zd).bind fun a=>
 (if a.yp=true then(some true)else(some (a0.zF !=48))).bind fun b=>
 some (zu.mk a.f_l b)
theorem gH {n a0 r}:qr n a0=some r→AC mx 137 [.agg (zb.cells a0)] [] (qp 0) [zu.cells r]:=
 fnL Tryz.func137 rfl<|rgL<|bC 2 A2 pN fun a=>bEL fun b hE=>rgF hE ⟨20,[(3,qp 0)]⟩ ⟨[[ql 3 zb.cells a.f_l,qb b]],[]⟩ (gFL 6 12 (eJ A9)<|eJ A9)<|rgL<|rKL A3
def yA (n:Nat)(m0:zu):Option (zb×zu):=
 if(m0.f_l.length:Int)==0 then(some ((zb.mk 0 ([]:Cn) ([]:Cn)),(zu.mk m0.f_l true)))else((zM m0.f_l 0).bind fun a=>
 (lsl m0.f_l 1 (m0.f_l.length)).bind fun b=>
 some (a,(zu.mk b m0.yp)))
theorem xS {n m0 r}:yA n m0=some r→AC mx 138 [qp 0] [zu.cells m0] (.agg (zb.cells r.1)) [zu.cells r.2]:=
 fnL Tryz.func138 rfl<|rgL<|cP 4 (xF m0.f_l)<|bFL (rgL<|rgL<|rKL A7)<|bP 4 yN fun a=>bP 5 Ql fun b=>rgL<|rKL Ab
def kg (n:Nat)(a0:Cn):Nat→Int→Int→Option (Ctl Int Int)
 |0,_,_=>none
 | k+1,c,a=>
  if decide (a<(List.length (s2b a0):Int))then((zM (s2b a0) a).bind fun b=>
  (if decide (b<48)then(some true)else(some (decide (b>57)))).bind fun d=>
  if d then(some (.ret (-1)))else(kg n a0 k (wrap .i64 ((wrap .i64 ((10:Int)*c))+(wrap .i64 (wrap .u8 (b-48))))) (wrap .i64 (a+1))))else(some (.nxt c))
def yI (n:Nat)(a0:Cn):Option Int:=
 yb (kg n a0 n 0 0) (fun r=>some r) (fun a=>
 some a)
theorem qU {n a0 r}:yI n a0=some r→AC mx 193 [qs a0] [] (qi r) []:=
 fnL Tryz.func193 rfl<|rgL<|rgL<|rCL (lfL (fun z=>kS 1 a0 z)<|kPL 2 (UD (s2b a0)) edL)<|bcL (fun a=>⟨27,[(3,qi a)]⟩) (fun a=>⟨[],[]⟩) (fun g e=>lpL (fun k x=>kg n a0 k x.1 x.2) (0,0) A1 (fun x=>⟨27,[(3,qi x.1),(7,ql 1 (cI .u8) (s2b a0)),(8,qi (List.length (s2b a0):Int)),(9,qi x.2)]⟩) (fun x=>⟨[],[]⟩) fun k x=>by obtain⟨b,c⟩:=x; rw [kg]; exact rgL<|bFL (zo<|bP 0 dU fun d=>bEL fun f hE=>rgF hE ⟨27,[(3,qi b),(5,qu d),(7,ql 1 (cI .u8) (s2b a0)),(8,qi (List.length (s2b a0):Int)),(9,qi c),(18,qb f)]⟩ ⟨[],[]⟩ (gFL 3 15 (eJ A1)<|eJ A1)<|bFL (rgL<|hKL e<|rJ A1)<|z8 zJ<|zp<|z8 zl fun h=>⟨(wrap .i64 ((wrap .i64 ((10:Int)*b))+(wrap .i64 (wrap .u8 (d-48)))),wrap .i64 (c+1)),h,wk A1⟩)<|xjL<|jCL A1) fun a=>rgL<|rKL A1
def kZ (n:Nat)(a0:Int)(a1:Cn):Option yg:=
 (ssl a1 0 2).bind fun a=>
 (ssl a1 2 4).bind fun b=>
 (ssl a1 4 6).bind fun c=>
 (ssl a1 6 8).bind fun d=>
 (ssl a1 8 10).bind fun e=>
 (yI n a).bind fun f=>
 (yI n b).bind fun g=>
 (yI n c).bind fun i=>
 (yI n d).bind fun j=>
 (yI n e).bind fun l=>
 some (yg.mk a0 f g i j l)
theorem Km {n a0 a1 r}:kZ n a0 a1=some r→AC mx 195 [qi a0,qs a1] [] (.agg (yg.cells r)) []:=
 fnL Tryz.func195 rfl<|rgL<|bEL fun w a=>bEL fun A b=>bEL fun B c=>bEL fun C d=>bEL fun D e=>bEL fun f g=>bEL fun i j=>bEL fun l m=>bEL fun o s=>bEL fun u v=>lfL (fun z=>zm [0,1,2,4,5,7,8,10,11,13,14,3,6,9,12,15,16,17] [3,6,9,12,15,17] [[],[],[1],[1,2],[],[4],[1,2,3,4,5],[],[7],[1,2,3,4,5,6,7,8],[],[10],[1,2,3,4,5,6,7,8,9,10,11],[],[13],[1,2,3,4,5,6,7,8,9,10,11,12,13,14],[0,1,2,3,4,5,6,7,8,9,10,11,12,13,14,15],[0,1,2,3,4,5,6,7,8,9,10,11,12,13,14,15,16]] [] [(4,qp 0)] ⟨[[qi a0,qi f,qi i,qi l,qi o,qi u]],[]⟩ (dS [0,1]<|dP (xn a)<|dS [4]<|dP (zO b)<|dS [7]<|dP (zO c)<|dS [10]<|dP (zO d)<|dS [13]<|dP (zO e)<|dC (zr 14 (zO e) (zr 11 (zO d) (zr 8 (zO c) (zr 5 (zO b) (zr 2 (xn a) zW))))) A2 (qU g)<|dC (zr 14 (zO e) (zr 11 (zO d) (zr 8 (zO c) (zr 5 (zO b) (zr 2 (xn a) zW))))) A2 (qU j)<|dC (zr 14 (zO e) (zr 11 (zO d) (zr 8 (zO c) (zr 5 (zO b) (zr 2 (xn a) zW))))) A2 (qU m)<|dC (zr 14 (zO e) (zr 11 (zO d) (zr 8 (zO c) (zr 5 (zO b) (zr 2 (xn a) zW))))) A2 (qU s)<|dC (zr 14 (zO e) (zr 11 (zO d) (zr 8 (zO c) (zr 5 (zO b) (zr 2 (xn a) zW))))) A2 (qU v)<|dS [16]<|dF (zr 14 (zO e) (zr 11 (zO d) (zr 8 (zO c) (zr 5 (zO b) (zr 2 (xn a) zW)))))<|dE A3) z)<|rKL A2
def VP (n:Nat)(a0:Int):Option Bool:=
 (if(Int.tmod a0 4)==0 then(if(Int.tmod a0 100) !=0 then(some true)else(some ((Int.tmod a0 400)==0)))else(some false)).bind fun a=>
 some a
theorem Bk {n a0 r}:VP n a0=some r→AC mx 228 [qi a0] [] (qb r) []:=
 fnL Tryz.func228 rfl<|rgL<|bEL fun a hE=>rgF hE ⟨16,[(2,qb a)]⟩ ⟨[],[]⟩ (gFL 4 6 (gFL 8 10 (eJ A1)<|eJ A1)<|eJ A1)<|rKL A1
def bt (n:Nat)(a0 a1:Int):Option Int:=
 (if a1==2 then((VP n a0).bind fun a=>
 some a)else(some false)).bind fun b=>
 if b then(some 29)else((gu 12 (wrap .i64 (a1-1))).bind fun c=>
 ((GM)[(0+c*1)]?).bind fun d=>
 some d)
theorem pf {n a0 a1 r}:bt n a0 a1=some r→AC mx 173 [qi a0,qi a1] [] (qi r) []:=
 fnL Tryz.func173 rfl<|rgL<|bEL fun a hE=>rgF hE ⟨15,[(1,qi a1),(10,qb a)]⟩ ⟨[],[]⟩ (gFL 3 7 (bEL fun i b=>kCL 4 A1 (Bk b)<|eJ A1)<|eJ A1)<|bFL (rgL<|rKL A1)<|bEL fun d e=>bEL fun j f=>rCL (kPL 2 (zcm (g:=0) (off:=0) (sz:=1) e)<|kPL 3 (nQ (c:=vI .i64) (l:=GM) (off:=(0+d*1)) f) edL)<|rKL A1
def Yv (n:Nat)(a0:Int):Option Int:=
 some (wrap .i64 ((wrap .i64 ((wrap .i64 (Int.tdiv a0 4))-(wrap .i64 (Int.tdiv a0 100))))+(wrap .i64 (Int.tdiv a0 400))))
theorem Xg {n a0 r}:Yv n a0=some r→AC mx 227 [qi a0] [] (qi r) []:=
 fnL Tryz.func227 rfl<|rgL<|rgL<|rKL A1
def pw (n:Nat)(a0:Int):Option Int:=
 (Yv n (wrap .i64 (a0-1))).bind fun a=>
 (Yv n 1949).bind fun b=>
 some (wrap .i64 ((wrap .i64 ((wrap .i64 ((365:Int)*(wrap .i64 (a0-1950))))+a))-b))
theorem ZM {n a0 r}:pw n a0=some r→AC mx 172 [qi a0] [] (qi r) []:=
 fnL Tryz.func172 rfl<|rgL<|rgL<|bEL fun c a=>bEL fun d b=>rCL (kCL 6 A1 (Xg a)<|kCL 9 A1 (Xg b) edL)<|rKL A1
def qq (n:Nat)(a0:yg):Nat→Int→Int→Option Int
 |0,_,_=>none
 | k+1,b,a=>
  if decide (a<a0.qF)then((bt n a0.bw a).bind fun c=>
  qq n a0 k (wrap .i64 (b+c)) (wrap .i64 (a+1)))else(some b)
def uT (n:Nat)(a0:yg):Option (Int×Int):=
 (if decide (a0.bw<1950)then(some true)else(if decide (a0.bw>9999)then(some true)else(if decide (a0.qF<1)then(some true)else(if decide (a0.qF>12)then(some true)else(if decide (a0.pT<1)then(some true)else((bt n a0.bw a0.qF).bind fun a=>
 some (decide (a0.pT>a)))))))).bind fun b=>
 if b then(some (0,12))else((if decide (a0.pL<0)then(some true)else(if decide (a0.pL>23)then(some true)else(if decide (a0.ko<0)then(some true)else(if decide (a0.ko>59)then(some true)else(if decide (a0.kr<0)then(some true)else(some (decide (a0.kr>59)))))))).bind fun c=>
 if c then(some (0,12))else((pw n a0.bw).bind fun d=>
 (qq n a0 n (wrap .i64 ((wrap .i64 (d+a0.pT))-1)) 1).bind fun e=>
 some (wrap .i64 ((wrap .i64 ((wrap .i64 ((wrap .i64 ((86400:Int)*e))+(wrap .i64 ((3600:Int)*a0.pL))))+(wrap .i64 ((60:Int)*a0.ko))))+a0.kr),0)))
theorem JR {n a0 r}:uT n a0=some r→AC mx 194 [.agg (yg.cells a0)] [] (.tuple [qi r.1,qi r.2]) []:=
 fnL Tryz.func194 rfl<|rgL<|bEL fun c hE=>lfL (fun z=>drw [0,1,2,3,4,5,6,7,8,9,10,11,12,13,14,15,16,17,18,19,20,21,22,23,24,25,26,27,28,29,30,31,32] [30] [[],[0],[0,1],[0,1,2],zx 0 4,zx 0 5,zx 0 6,zx 0 7,zx 0 8,zx 0 9,zx 0 10,zx 0 11,zx 0 12,zx 0 13,zx 0 14,zx 0 15,zx 0 16,zx 0 17,zx 0 18,zx 0 19,zx 0 20,zx 0 21,zx 0 22,zx 0 23,zx 0 24,zx 0 25,zx 0 24,zx 0 24 ++ [26],zx 0 24,zx 0 24 ++ [28],zx 0 24++zx 26 4,zx 0 31,zx 0 32] ⟨99,[(1,qp 0),(38,qb c)]⟩ ⟨[yg.cells a0],[]⟩ (have h:=hE; dS (zx 0 4)<|hF 9 h (fun h=>dS (zx 4 26)<|dF zW<|dS [31,32]<|by cases h; exact dE A3) fun h=>dS (zx 4 5)<|hF 14 h (fun h=>dS (zx 9 21)<|dF zW<|dS [31,32]<|by cases h; exact dE A3) fun h=>dS (zx 9 5)<|hF 19 h (fun h=>dS (zx 14 16)<|dF zW<|dS [31,32]<|by cases h; exact dE A3) fun h=>dS (zx 14 5)<|hF 24 h (fun h=>dS (zx 19 11)<|dF zW<|dS [31,32]<|by cases h; exact dE A3) fun h=>dS (zx 19 5)<|hF 29 h (fun h=>dS (zx 24 6)<|dF zW<|dS [31,32]<|by cases h; exact dE A3) fun h=>bE h fun m d h=>dS (zx 24 6)<|dC zW A2 (pf d)<|dS [31,32]<|by cases h; exact dE A3) z)<|bFL (rgL<|rKL A2)<|bEL fun e hE=>rgF hE ⟨99,[(1,qp 0),(66,qb e)]⟩ ⟨[yg.cells a0],[]⟩ (gFL 4 42 (eJ A3)<|gFL 9 47 (eJ A3)<|gFL 14 52 (eJ A3)<|gFL 19 57 (eJ A3)<|gFL 24 62 (eJ A3)<|eJ A3)<|bFL (rgL<|rKL A2)<|bEL fun b f=>lfL (fun z=>zs [0,1,3,4,2,5,6,7] [2] [[],[0],[0,1],[],[3],[0,1,2,3,4],[0,1,2,3,4,5],[0,1,2,3,4,5,6]] [] [(1,qp 0),(4,qi (wrap .i64 ((wrap .i64 (b+a0.pT))-1)))] (dS [0,1,3,4]<|dC zW A2 (ZM f)<|dS [5,6,7]<|dE A3) z)<|rgL<|blL (fun a=>⟨99,[(1,qp 0),(4,qi a)]⟩) (fun a=>⟨[yg.cells a0],[]⟩) (fun a=>lpL (fun k x=>qq n a0 k x.1 x.2) (wrap .i64 ((wrap .i64 (b+a0.pT))-1),1) A3 (fun x=>⟨99,[(1,qp 0),(4,qi x.1),(5,qi x.2)]⟩) (fun x=>⟨[yg.cells a0],[]⟩) fun k x=>by obtain⟨g,i⟩:=x; rw [qq]; exact rgL<|bFL (zo<|bEL fun j l=>xo zJ (kCL 4 A2 (pf l) edL)<|zp<|z8 zl fun h=>⟨(wrap .i64 (g+j),wrap .i64 (i+1)),h,wk A3⟩)<|xjL<|jnL A3) fun a=>rgL<|rKL A2
def yG (n:Nat)(a0:Int)(a1:Cn):Option (Int×Int):=
 yb (if a0==23 then(some (.nxt 2))else(if a0==24 then(some (.nxt 4))else(some (.ret (0,5))))) (fun r=>some r) (fun a=>
 (if(a1.length:Int) !=(wrap .i64 (a+11))then(some true)else((yr a1 (wrap .i64 (a+10))).bind fun d=>
 some (d !=90))).bind fun e=>
 if e then(some (0,12))else((ssl a1 0 a).bind fun f=>
 (yI n f).bind fun b=>
 yb ((if decide (b<0)then(some true)else(if a==4 then(some (decide (b<2050)))else(some false))).bind fun g=>
 if g then(some (.ret (0,12)))else((if a==2 then(some (decide (b≥50)))else(some false)).bind fun i=>
 if i then(some (.nxt (wrap .i64 (b+1900))))else(if a==2 then(some (.nxt (wrap .i64 (b+2000))))else(some (.nxt b))))) (fun r=>some r) (fun j=>
 (ssl a1 a (a1.length)).bind fun l=>
 (kZ n j l).bind fun m=>
 (uT n m).bind fun c=>
 some (c.1,c.2))))
theorem Ka {n a0 a1 r}:yG n a0 a1=some r→AC mx 139 [qi a0,qs a1] [] (.tuple [qi r.1,qi r.2]) []:=
 fnL Tryz.func139 rfl<|rgL<|rgL<|rgL<|bcL (fun a=>⟨62,[(1,qs a1),(6,qi a)]⟩) (fun a=>⟨[],[]⟩) (fun v d=>rgL<|bFL (z8 zX<|jCL A1)<|rgL<|bFL (z8 zX<|jCL A1)<|rgL<|ya<|hvL d<|yn<|rJ A1) fun a=>bEL fun e hE=>rgF hE ⟨62,[(1,qs a1),(6,qi a),(24,qb e)]⟩ ⟨[],[]⟩ (gFL 6 18 (eJ A1)<|bEL fun w f=>kPL 9 (zS f)<|eJ A1)<|bFL (rgL<|rKL A1)<|bEL fun A g=>bEL fun c i=>rCL (kPL 2 (xn g)<|kCL 3 A1 (qU i) edL)<|bcL (fun b=>⟨62,[(1,qs a1),(6,qi a),(7,qi b)]⟩) (fun b=>⟨[],[]⟩) (fun B j=>bEL fun l hE=>rgF hE ⟨62,[(1,qs a1),(6,qi a),(7,qi c),(29,qb l)]⟩ ⟨[],[]⟩ (gFL 3 32 (eJ A1)<|gFL 6 35 (eJ A1)<|eJ A1)<|bFL (rgL<|ya<|hvL j<|yn<|rJ A1)<|bEL fun m hE=>rgF hE ⟨62,[(1,qs a1),(6,qi a),(7,qi c),(40,qb m)]⟩ ⟨[],[]⟩ (gFL 3 43 (eJ A1)<|eJ A1)<|bFL (z8 zX<|jCL A1)<|rgL<|bFL (z8 zX<|jCL A1)<|jCL A1) fun b=>bEL fun C o=>bEL fun D s=>bEL fun E u=>rCL (kPL 3 (xc o)<|kCL 4 A1 (Km s)<|kCL 5 A1 (JR u) edL)<|rKL A1
def zR (n:Nat)(a1:Int)(m0:zu):Option zu:=
 (if m0.yp=true then(some true)else(some (a1 !=0))).bind fun a=>
 some (zu.mk m0.f_l a)
theorem xD {n a1 m0 r}:zR n a1 m0=some r→AC mx 140 [qp 0,qi a1] [zu.cells m0] (.tuple []) [zu.cells r]:=
 fnL Tryz.func140 rfl<|bEL fun a hE=>Gl hE ZX ⟨15,[]⟩ ⟨[[ql 3 zb.cells m0.f_l,qb a]],[]⟩ (gFL 6 9 (eJ A3)<|eJ A3)<|nJ A3
def yR (n:Nat)(a1:Int)(m0:zu):Option (zb×Bool×zu):=
 (if(m0.f_l.length:Int)==0 then(some true)else((zM m0.f_l 0).bind fun b=>
 some (b.zF !=a1))).bind fun c=>
 if c then(some ((zb.mk 0 ([]:Cn) ([]:Cn)),false,m0))else((yA n m0).bind fun a=>
 some (a.1,true,a.2))
theorem vu {n a1 m0 r}:yR n a1 m0=some r→AC mx 141 [qp 0,qi a1] [zu.cells m0] (.tuple [.agg (zb.cells r.1),qb r.2.1]) [zu.cells r.2.2]:=
 fnL Tryz.func141 rfl<|rgL<|bEL fun a hE=>rgF hE ⟨26,[(0,qp 0),(4,qp 1),(22,qb a)]⟩ ⟨[zu.cells m0,[qi 0,qs [],qs []]],[]⟩ (kPL 4 (xF m0.f_l)<|gFL 7 12 (eJ A5)<|bEL fun c b=>kPL 11 (yN b)<|eJ A5)<|bFL (rgL<|rKL A7)<|bC 1 A7 xS fun d=>rKL A7
def wR (n:Nat)(a0:Cn)(d:List Int):Nat→Int→Int→Option (Ctl (List Int) ((List Int)×Int))
 |0,_,_=>none
 | k+1,a,c=>
  if decide (a<(a0.length:Int))then((yr a0 a).bind fun b=>
  if decide ((ior .i64 (wrap .i64 (c*128)) (uU .i64 (wrap .i64 b) 127))>4294967294)then(some (.ret ([]:List Int)))else(if decide ((wrap .i64 b)<128)then((jR 8 d ([ior .i64 (wrap .i64 (c*128)) (uU .i64 (wrap .i64 b) 127)]:List Int)).bind fun e=>
  some (.nxt (e,wrap .i64 (a+1))))else(wR n a0 d k (wrap .i64 (a+1)) (ior .i64 (wrap .i64 (c*128)) (uU .i64 (wrap .i64 b) 127)))))else(some (.ret ([]:List Int)))
def wO (n:Nat)(a0:Cn):Nat→(List Int)→Int→Option (Ctl (List Int) (List Int))
 |0,_,_=>none
 | k+1,b,a=>
  if decide (a<(a0.length:Int))then(yb ((yr a0 a).bind fun d=>
  if d==128 then(some (.ret ([]:List Int)))else(wR n a0 b n a 0)) (fun r=>some (.ret r)) (fun c=>
  wO n a0 k c.1 c.2))else(some (.nxt b))
def bz (n:Nat)(a0:Cn):Option (List Int):=
 yb (wO n a0 n ([]:List Int) 0) (fun r=>some r) (fun a=>
 some a)
theorem QP {n a0 r}:bz n a0=some r→AC mx 196 [qs a0] [] (ql 1 (cI .i64) r) []:=
 fnL Tryz.func196 rfl<|rgL<|zad<|rgL<|rgL<|tF<|bcL (fun b=>⟨39,[(3, .sl 1 (List.map (cI .i64) b) (.fam 0 (b.length)))]⟩) (fun b=>⟨[],[b.length]⟩) (fun o d=>yV (wk (fr':=⟨39,[(0,qs a0),(3,qn),(4,qi 0)]⟩) (st':=⟨[],[]⟩) A1)<|yV Wk.nilFam<|lpL (fun k x=>wO n a0 k x.1 x.2) (([]:List Int),0) A6 (fun x=>⟨39,[(0,qs a0),(3, .sl 1 (List.map (cI .i64) x.1) (.fam 0 (x.1.length))),(4,qi x.2)]⟩) (fun x=>⟨[],[x.1.length]⟩) fun k x=>by obtain⟨c,g⟩:=x; rw [wO]; exact rgL<|bFL (rv zl (fun a=>⟨39,[(0,qs a0),(3, .sl 1 (List.map (cI .i64) a.1) (.fam 0 (a.1.length))),(4,qi a.2)]⟩) (fun a=>⟨[],[a.1.length]⟩) (fun s f=>bP 2 zS fun u=>bFL (rgL<|ya<|hvL f<|yn<|wo<|hvL d<|yn<|lfL (fun z=>PI z)<|rJ Aa)<|rgL<|zo<|lpL (fun k x=>wR n a0 c k x.1 x.2) (g,0) A6 (fun x=>⟨39,[(0,qs a0),(3, .sl 1 (List.map (cI .i64) c) (.fam 0 (c.length))),(4,qi x.1),(5,qi x.2)]⟩) (fun x=>⟨[],[c.length]⟩) fun k x=>by obtain⟨i,j⟩:=x; rw [wR]; exact rgL<|bFL (zo<|bP 2 zS fun l=>rgL<|rgL<|rgL<|bFL (rgL<|ya<|yf<|wo<|yf<|hvL f<|yn<|wo<|hvL d<|yn<|lfL (fun z=>PI z)<|rJ Aa)<|rgL<|bFL (bEL fun v m=>rCL (lfL (fun z=>kA 3 0 (cI .i64) (e:=3) (e2:=3) (sz:=1) (bytes:=8) (b2:=8) (tok2:= .exact) m z) edL)<|bW<|db<|XW<|db<|dM<|jCL A6)<|zp fun h=>⟨(wrap .i64 (i+1),ior .i64 (wrap .i64 (j*128)) (uU .i64 (wrap .i64 l) 127)),h,wk A6⟩)<|bW<|XW<|UJ<|rgL<|ya<|hvL f<|yn<|wo<|hvL d<|yn<|lfL (fun z=>PI z)<|rJ Aa) fun a=>fun h=>⟨(a.1,a.2),h,wk A6⟩)<|xjL<|jCL A6) fun b=>rgL<|ya<|lfL (fun z=>PI z)<|rJ Aa
def bi (n:Nat)(a:List Int):Nat→(List Cn)→Int→Option (Ctl (Cn×Int) (List Cn))
 |0,_,_=>none
 | k+1,c,b=>
  if decide (b<(a.length:Int))then((zM a b).bind fun d=>
  if decide (d>2147483647)then(some (.ret (([]:Cn),11)))else((QM n d).bind fun e=>
  (jR 16 c ([e]:List Cn)).bind fun f=>
  bi n a k f (wrap .i64 (b+1))))else(some (.nxt c))
def yw (n:Nat)(a0:Cn):Option (Cn×Int):=
 (bz n a0).bind fun b=>
 (if(b.length:Int)==0 then(some true)else(some (decide ((b.length:Int)>11)))).bind fun e=>
 if e then(some (([]:Cn),11))else((zM b 0).bind fun a=>
 ((zM b 0).bind fun c=>
 (lsl b 1 (b.length)).bind fun d=>
 if List.isEmpty d then(some ([if 2<(wrap .i64 (Int.tdiv a 40))then 2 else wrap .i64 (Int.tdiv a 40),wrap .i64 (c-(wrap .i64 ((40:Int)*(if 2<(wrap .i64 (Int.tdiv a 40))then 2 else wrap .i64 (Int.tdiv a 40)))))]:List Int))else((gP 8 ([if 2<(wrap .i64 (Int.tdiv a 40))then 2 else wrap .i64 (Int.tdiv a 40),wrap .i64 (c-(wrap .i64 ((40:Int)*(if 2<(wrap .i64 (Int.tdiv a 40))then 2 else wrap .i64 (Int.tdiv a 40)))))]:List Int) d).bind fun f=>
 some f)).bind fun g=>
 yb (bi n g n ([]:List Cn) 0) (fun r=>some r) (fun i=>
 (WY n i ([46]:Cn)).bind fun j=>
 some (j,0)))
theorem pA {n a0 r}:yw n a0=some r→AC mx 142 [qs a0] [] (.tuple [qs r.1,qi r.2]) []:=
 fnL Tryz.func142 rfl<|rgL<|bC 1 A1 QP fun f=>bEL fun j hE=>rgF hE ⟨52,[(4,ql 1 (cI .i64) f),(19,qb j)]⟩ ⟨[],[]⟩ (kPL 1 (YF f)<|gFL 4 15 (eJ A1)<|kPL 5 (YF f)<|eJ A1)<|bFL (rgL<|rKL A1)<|bP 1 uz fun d=>bEL fun a hE=>lfL (fun z=>drw [0,1,2,3,4,5,6,7,8,9,10,11] [10] [[],[],[1],[1,2],[],[4],zx 1 5,zx 0 7,[],[8],zx 0 10,zx 0 11] ⟨52,[(6,ql 1 (cI .i64) a)]⟩ ⟨[],[]⟩ (have h:=hE; bE h fun m g h=>bE h fun o i h=>dS [0,1]<|dP (uz g)<|dS (zx 3 6)<|dP (dm i)<|kF h (fun hb h=>dV (zr 9 (dm i) (zr 2 (uz g) zW)) 0 0 0 (Pk (T:=tyT) (c:=(cI .i64)) (l:=([if 2<(wrap .i64 (Int.tdiv d 40))then 2 else wrap .i64 (Int.tdiv d 40),wrap .i64 (m-(wrap .i64 ((40:Int)*(if 2<(wrap .i64 (Int.tdiv d 40))then 2 else wrap .i64 (Int.tdiv d 40)))))]:List Int)) (l2:=o) (e:=3) (e2:=3) (sz:=1) (bytes:=8) (b2:=8) (tok:= .exact) (tok2:= .none) (cell:=none) O8 hb)<|dS [11]<|by cases h; exact dE A1) fun hb h=>bE h fun C s h=>dV (zr 9 (dm i) (zr 2 (uz g) zW)) 0 0 0 (XQ (T:=tyT) (c:=(cI .i64)) (e:=3) (e2:=3) (sz:=1) (bytes:=8) (b2:=8) (tok2:= .none) (cell:=none) O8 s)<|dS [11]<|by cases h; exact dE Aa) z)<|rgL<|cP 1 (YF a)<|bcL (fun b=>⟨52,[(7, .sl 1 (List.map cS b) (.fam 0 (b.length)))]⟩) (fun b=>⟨[],[b.length]⟩) (fun D u=>yV (wk (fr':=⟨52,[(7,qn),(36,ql 1 (cI .i64) a),(37,qi (a.length)),(38,qi 0)]⟩) (st':=⟨[],[]⟩) A1)<|yV Wk.nilFam<|lpL (fun k x=>bi n a k x.1 x.2) (([]:List Cn),0) A6 (fun x=>⟨52,[(7, .sl 1 (List.map cS x.1) (.fam 0 (x.1.length))),(36,ql 1 (cI .i64) a),(37,qi (a.length)),(38,qi x.2)]⟩) (fun x=>⟨[],[x.1.length]⟩) fun k x=>by obtain⟨E,v⟩:=x; rw [bi]; exact rgL<|bFL (zo<|bP 0 uz fun F=>rgL<|bFL (rgL<|hKL u<|rJ Aa)<|bEL fun G w=>bEL fun A B=>xo zJ (kCL 2 Aa (mt w)<|lfL (fun z=>kA 4 0 cS (e:=9) (e2:=9) (sz:=1) (bytes:=16) (b2:=16) (tok2:= .exact) B z) edL)<|zp<|z8 zl fun h=>⟨(A,wrap .i64 (v+1)),h,wk A6⟩)<|xjL<|jCL A6) fun b=>bC 1 Aa GL fun H=>rKL Aa
def gy (n:Nat)(a0:Cn)(a1:Int):Option Bool:=
 if a1==0 then(some true)else((if !(a0==([]:Cn))then((yr a0 (wrap .i64 ((a0.length:Int)-1))).bind fun a=>
 (Uy .u8 1 (wrap .u64 a1)).bind fun b=>
 some ((uU .u8 a (wrap .u8 (b-1)))==0))else(some false)).bind fun c=>
 some c)
theorem Vo {n a0 a1 r}:gy n a0 a1=some r→AC mx 213 [qs a0,qi a1] [] (qb r) []:=
 fnL Tryz.func213 rfl<|rgL<|rgL<|bFL (rgL<|rKL A1)<|bEL fun a hE=>rgF hE ⟨22,[(4,qb a)]⟩ ⟨[],[]⟩ (gFL 3 9 (bEL fun d b=>bEL fun e c=>kPL 7 (zS b)<|kPL 10 (DL c)<|eJ A1)<|eJ A1)<|rKL A1
def kD (n:Nat)(a0:Cn):Option (Cn×Int×Int):=
 (if a0==([]:Cn)then(some true)else((yr a0 0).bind fun a=>
 if decide (a>7)then(some true)else((ssl a0 1 (a0.length)).bind fun b=>
 (yr a0 0).bind fun c=>
 (gy n b (wrap .i64 c)).bind fun d=>
 some (!d)))).bind fun e=>
 if e then(some (([]:Cn),0,7))else((ssl a0 1 (a0.length)).bind fun f=>
 (yr a0 0).bind fun g=>
 some (f,wrap .i64 g,0))
theorem Uh {n a0 r}:kD n a0=some r→AC mx 198 [qs a0] [] (.tuple [qs r.1,qi r.2.1,qi r.2.2]) []:=
 fnL Tryz.func198 rfl<|rgL<|bEL fun d hE=>lfL (fun z=>drw [0,1,2,3,4,5,6,7,8,9,10,11,12,13,14,15] [13] [[],[0],[0,1],[0,1,2],zx 0 4,zx 0 5,zx 0 6,zx 0 7,zx 0 8,zx 0 9,zx 0 8,zx 0 8 ++ [10],zx 0 8 ++ [10,11],zx 0 13,zx 0 14,zx 0 15] ⟨26,[(0,qs a0),(20,qb d)]⟩ ⟨[],[]⟩ (have h:=hE; dS [0,1,2]<|hF 7 h (fun h=>dS (zx 3 10)<|dF zW<|dS [14,15]<|by cases h; exact dE A1) fun h=>bE h fun l a h=>dS [3]<|dP (zS a)<|dS [5,6,7]<|hF 12 h (fun h=>dS (zx 8 5)<|dF (zr 4 (zS a) zW)<|dS [14,15]<|by cases h; exact dE A1) fun h=>bE h fun m b h=>bE h fun o c h=>bE h fun s e h=>dS [8]<|dP (xc b)<|dS [10]<|dP (zS c)<|dS [12]<|dC (zr 11 (zS c) (zr 9 (xc b) (zr 4 (zS a) zW))) A1 (Vo e)<|dS [14,15]<|by cases h; exact dE A1) z)<|bFL (rgL<|rKL A1)<|bEL fun f g=>bEL fun i j=>lfL (fun z=>zs [0,1,2,3,4,5,6,7] [] [[],[0],[],[2],[2,3],[0,1],[0,1,2,3,4,5],[0,1,2,3,4,5,6]] [] [(2,qs f),(3,qi (wrap .i64 i)),(4,qi 0)] (dS [0]<|dP (xc g)<|dS [2]<|dP (zS j)<|dS (zx 4 4)<|dE A1) z)<|rKL A1
def ZJ (n:Nat)(a0:Cn)(a1:Int):Option Bool:=
 (yr a0 (wrap .i64 (Int.tdiv a1 8))).bind fun a=>
 (WA .u8 a (wrap .u64 ((7:Int)-(wrap .u64 (Int.tmod a1 8))))).bind fun b=>
 some ((uU .u8 b 1)==1)
theorem U0 {n a0 a1 r}:ZJ n a0 a1=some r→AC mx 199 [qs a0,qi a1] [] (qb r) []:=
 fnL Tryz.func199 rfl<|rgL<|bEL fun c a=>bEL fun d b=>rCL (kPL 3 (zS a)<|kPL 8 (oS b) edL)<|rKL A1
def be (n:Nat)(a:(Cn×Int×Int)):Nat→Int→Int→Option Int
 |0,_,_=>none
 | k+1,c,b=>
  if decide (b<(wrap .i64 ((wrap .i64 ((8:Int)*(a.1.length:Int)))-a.2.1)))then(((ZJ n a.1 b).bind fun d=>
  if d then((Uy .i64 1 (wrap .u64 b)).bind fun e=>
  some (ior .i64 c e))else(some c)).bind fun f=>
  be n a k f (wrap .i64 (b+1)))else(some c)
def jp (n:Nat)(a0:Cn):Option (Int×Int):=
 (kD n a0).bind fun a=>
 if a.2.2 !=0 then(some (0,a.2.2))else((if decide ((wrap .i64 ((wrap .i64 ((8:Int)*(a.1.length:Int)))-a.2.1))>0)then((ZJ n a.1 (wrap .i64 ((wrap .i64 ((wrap .i64 ((8:Int)*(a.1.length:Int)))-a.2.1))-1))).bind fun b=>
 some (!b))else(some false)).bind fun c=>
 if c then(some (0,7))else(if decide ((wrap .i64 ((wrap .i64 ((8:Int)*(a.1.length:Int)))-a.2.1))>16)then(some (0,1))else((be n a n 0 0).bind fun d=>
 some (d,0))))
theorem KI {n a0 r}:jp n a0=some r→AC mx 143 [qs a0] [] (.tuple [qi r.1,qi r.2]) []:=
 fnL Tryz.func143 rfl<|rgL<|bC 1 A1 Uh fun a=>rgL<|bFL (rgL<|rKL A1)<|rgL<|bEL fun e hE=>rgF hE ⟨49,[(4,qs a.1),(7,qi (wrap .i64 ((wrap .i64 ((8:Int)*(a.1.length:Int)))-a.2.1))),(32,qb e)]⟩ ⟨[],[]⟩ (gFL 3 26 (bEL fun i f=>kCL 6 A1 (U0 f)<|eJ A1)<|eJ A1)<|bFL (rgL<|rKL A1)<|rgL<|bFL (rgL<|rKL A1)<|rgL<|rgL<|blL (fun c=>⟨49,[(8,qi c)]⟩) (fun c=>⟨[],[]⟩) (fun c=>lpL (fun k x=>be n a k x.1 x.2) (0,0) A1 (fun x=>⟨49,[(4,qs a.1),(8,qi x.1),(35,qi (wrap .i64 ((wrap .i64 ((8:Int)*(a.1.length:Int)))-a.2.1))),(36,qi x.2)]⟩) (fun x=>⟨[],[]⟩) fun k x=>by obtain⟨j,d⟩:=x; rw [be]; exact rgL<|bFL (blL (fun b=>⟨49,[(4,qs a.1),(8,qi b),(35,qi (wrap .i64 ((wrap .i64 ((8:Int)*(a.1.length:Int)))-a.2.1))),(36,qi d)]⟩) (fun b=>⟨[],[]⟩) (fun b=>rgL<|bC 2 A1 U0 fun l=>bFL (bEL fun m g=>xo zX (kPL 3 (DH g) edL)<|jnL A1)<|jnL A1) fun b=>z8 zl fun h=>⟨(b,wrap .i64 (d+1)),h,wk A1⟩)<|xjL<|jnL A1) fun c=>rgL<|rKL A1
def wN (n:Nat):Nat→(List Cn)→(List zb)→Bool→(List zb)→Bool→Option ((List Cn)×(List zb)×Bool×(List zb)×Bool)
 |0,_,_,_,_,_=>none
 | k+1,c,d,e,b,f=>
  if decide ((b.length:Int)>0)then((yA n (zu.mk b f)).bind fun a=>
  (yw n a.1.zd).bind fun g=>
  (zR n g.2 (zu.mk d e)).bind fun i=>
  (if i.yp=true then(some true)else(some (a.1.zF !=6))).bind fun j=>
  (jR 16 c ([g.1]:List Cn)).bind fun l=>
  wN n k l i.f_l j a.2.f_l a.2.yp)else(some (c,d,e,b,f))
def ve (n:Nat)(a1:Cn)(m0:zu):Option ((List Cn)×zu):=
 (uY n a1).bind fun b=>
 (wN n  n ([]:List Cn) m0.f_l m0.yp b.f_l b.yp).bind fun a=>
 (if a.2.2.1=true then(some true)else(some a.2.2.2.2)).bind fun c=>
 some (a.1,(zu.mk a.2.1 c))
theorem ZZ {n a1 m0 r}:ve n a1 m0=some r→AC mx 144 [qp 0,qs a1] [zu.cells m0] (ql 1 cS r.1) [zu.cells r.2]:=
 fnL Tryz.func144 rfl<|rgL<|rgL<|bC 1 A2 pN fun b=>blL (fun a=>⟨59,[(0,qp 0),(5, .sl 1 (List.map cS a.1) (.fam 0 (a.1.length))),(6,qp 1)]⟩) (fun a=>⟨[[ql 3 zb.cells a.2.1,qb a.2.2.1],[ql 3 zb.cells a.2.2.2.1,qb a.2.2.2.2]],[a.1.length]⟩) (fun a=>yV (wk (fr':=⟨59,[(0,qp 0),(5,qn),(6,qp 1)]⟩) (st':=⟨[zu.cells m0,zu.cells b],[]⟩) A5)<|yV Wk.nilFam<|lpL (fun k x=>wN n  k x.1 x.2.1 x.2.2.1 x.2.2.2.1 x.2.2.2.2) (([]:List Cn),m0.f_l,m0.yp,b.f_l,b.yp) Ap (fun x=>⟨59,[(0,qp 0),(5, .sl 1 (List.map cS x.1) (.fam 0 (x.1.length))),(6,qp 1)]⟩) (fun x=>⟨[[ql 3 zb.cells x.2.1,qb x.2.2.1],[ql 3 zb.cells x.2.2.2.1,qb x.2.2.2.2]],[x.1.length]⟩) fun k x=>by obtain⟨c,s,u,i,v⟩:=x; rw [wN]; exact cP 4 (xF i)<|bFL (zo<|bC 1 Cf xS fun d=>bC 2 Al pA fun j=>bC 2 Ag xD fun f=>bEL fun g hE=>rgF hE ⟨59,[(0,qp 0),(5, .sl 1 (List.map cS c) (.fam 0 (c.length))),(6,qp 1),(8,qs j.1)]⟩ ⟨[[ql 3 zb.cells f.f_l,qb g],zu.cells d.2],[c.length]⟩ (gFL 6 34 (eJ ⟨[0,1],3,[0],1⟩)<|eJ ⟨[0,1],3,[0],1⟩)<|bEL fun l m=>xo (j3 (P:=Tryz.prog) (gl:=gl0 mx) zl) (lfL (fun z=>kA 3 0 cS (e:=9) (e2:=9) (sz:=1) (bytes:=16) (b2:=16) (tok2:= .exact) m z) edL)<|zp fun h=>⟨(l,f.f_l,g,d.2.f_l,d.2.yp),h,wk Ap⟩)<|xjL<|jnL Ap) fun a=>bEL fun o hE=>rgF hE ⟨59,[(5, .sl 1 (List.map cS a.1) (.fam 0 (a.1.length)))]⟩ ⟨[[ql 3 zb.cells a.2.1,qb o]],[a.1.length]⟩ (gFL 6 50 (eJ C3)<|eJ C3)<|rgL<|rKL Ax
def Zj (n:Nat)(a0:Cn):Option (Bool×Int):=
 if a0==([0]:Cn)then(some (false,0))else(if a0==([255]:Cn)then(some (true,0))else(some (false,7)))
theorem Qh {n a0 r}:Zj n a0=some r→AC mx 200 [qs a0] [] (.tuple [qb r.1,qi r.2]) []:=
 fnL Tryz.func200 rfl<|rgL<|rgL<|zo<|rgL<|bFL (rgL<|ya<|yf<|rJ A1)<|rgL<|bFL (rgL<|ya<|yf<|rJ A1)<|zp<|rgL<|rKL A1
def vd (n:Nat)(a1:Int)(m0:zu):Option (Bool×zu):=
 (yR n a1 m0).bind fun a=>
 if !a.2.1 then(some (false,a.2.2))else((Zj n a.1.zd).bind fun b=>
 (zR n b.2 a.2.2).bind fun c=>
 some (b.1,c))
theorem kK {n a1 m0 r}:vd n a1 m0=some r→AC mx 145 [qp 0,qi a1] [zu.cells m0] (qb r.1) [zu.cells r.2]:=
 fnL Tryz.func145 rfl<|rgL<|bC 2 A3 vu fun a=>rgL<|bFL (rgL<|rKL A7)<|bC 2 A4 Qh fun b=>bC 2 A7 xD fun c=>rgL<|rKL A7
def gQ (n:Nat)(a0:Int):Option Int:=
 if a0==0 then(some 7)else(if decide (a0>16)then(some 2)else(some 0))
theorem WW {n a0 r}:gQ n a0=some r→AC mx 120 [qi a0] [] (qi r) []:=
 fnL Tryz.func120 rfl<|rgL<|zo<|rgL<|bFL (rgL<|ya<|yf<|rJ A1)<|rgL<|bFL (rgL<|ya<|yf<|rJ A1)<|zp<|rgL<|rKL A1
def uo (n:Nat)(a0:List zb):Nat→Int→Option (Ctl Bool Unit)
 |0,_=>none
 | k+1,a=>
  if decide (a<(a0.length:Int))then((zM a0 a).bind fun b=>
  (zM a0 (wrap .i64 (a-1))).bind fun c=>
  if Op.bytesLess b.uE c.uE then(some (.ret false))else(uo n a0 k (wrap .i64 (a+1))))else(some (.nxt ()))
def df (n:Nat)(a0:List zb):Option Bool:=
 yb (uo n a0 n 1) (fun r=>some r) (fun a=>
 some true)
theorem Jv {n a0 r}:df n a0=some r→AC mx 247 [ql 3 zb.cells a0] [] (qb r) []:=
 fnL Tryz.func247 rfl<|rgL<|rgL<|bcL (fun _=>⟨22,[]⟩) (fun _=>⟨[],[]⟩) (fun g b=>lpL (fun k x=>uo n a0 k x) 1 A1 (fun x=>⟨22,[(0,ql 3 zb.cells a0),(3,qi x)]⟩) (fun x=>⟨[],[]⟩) fun k a=>by rw [uo]; exact cP 2 (xF a0)<|bFL (zo<|bEL fun c d=>bEL fun e f=>lfL (fun z=>zs [0,1,2,3,4,5,6,7,8,9,10,11] [] [[],[],[0,1],[0,1,2],[0,1,2,3],[],[],[6],[5,6,7],[5,6,7,8],[5,6,7,8,9],[0,1,2,3,4,5,6,7,8,9,10]] [0] [(3,qi a),(21,qb (Op.bytesLess c.uE e.uE))] (dS [0,1]<|dP (yN d)<|dS (zx 3 5)<|dP (yN f)<|dS [9,10,11]<|dE A1) z)<|bFL (rgL<|hKL b<|rJ A1)<|zp<|z8 zl fun h=>⟨wrap .i64 (a+1),h,wk A1⟩)<|xjL<|jCL A1) fun i=>rgL<|rKL A1
def qN (n:Nat)(a0:zb):Option (za×Int):=
 if a0.zF !=48 then(some ((za.mk ([]:Cn) 0 ([]:Cn)),5))else((bb n a0.zd).bind fun a=>
 if a.2 !=0 then(some ((za.mk ([]:Cn) 0 ([]:Cn)),a.2))else(if decide ((a.1.length:Int)<1)then(some ((za.mk ([]:Cn) 0 ([]:Cn)),3))else((zM a.1 0).bind fun d=>
 if d.zF !=6 then(some ((za.mk ([]:Cn) 0 ([]:Cn)),5))else((zM a.1 0).bind fun e=>
 (yw n e.zd).bind fun c=>
 if c.2 !=0 then(some ((za.mk ([]:Cn) 0 ([]:Cn)),c.2))else(if decide ((a.1.length:Int)<2)then(some ((za.mk ([]:Cn) 0 ([]:Cn)),3))else((zM a.1 1).bind fun b=>
 yb (if b.zF==12 then(if b.zF==12 then(some (.nxt ()))else(some (.ret ((za.mk ([]:Cn) 0 ([]:Cn)),5))))else(if b.zF==19 then(if b.zF==19 then(some (.nxt ()))else(some (.ret ((za.mk ([]:Cn) 0 ([]:Cn)),5))))else(if b.zF==22 then(some (.nxt ()))else(some (.ret ((za.mk ([]:Cn) 0 ([]:Cn)),5)))))) (fun r=>some r) (fun i=>
 if decide ((a.1.length:Int)>2)then(some ((za.mk ([]:Cn) 0 ([]:Cn)),4))else((zM a.1 1).bind fun f=>
 (zM a.1 1).bind fun g=>
 some ((za.mk c.1 f.zF g.zd),0)))))))))
theorem Xv {n a0 r}:qN n a0=some r→AC mx 248 [.agg (zb.cells a0)] [] (.tuple [.agg (za.cells r.1),qi r.2]) []:=
 fnL Tryz.func248 rfl<|rgL<|rgL<|rgL<|bFL (rgL<|rKL A8)<|bC 2 A8 bp fun a=>rgL<|bFL (rgL<|rKL A8)<|cP 1 (xF a.1)<|bFL (rgL<|rKL A8)<|bP 1 yN fun l=>bFL (rgL<|rKL A8)<|bEL fun m f=>bEL fun c g=>rCL (kPL 1 (yN f)<|kCL 4 A8 (pA g) edL)<|rgL<|bFL (rgL<|rKL A8)<|cP 1 (xF a.1)<|bFL (rgL<|rKL A8)<|bP 1 yN fun o=>bcL (fun _=>⟨71,[(2,qp 0),(4,qp 1),(5,ql 3 zb.cells a.1),(7,qs c.1)]⟩) (fun _=>⟨[[qs ([]:Cn),qi 0,qs []],[qs ([]:Cn),qi 0,qs []]],[]⟩) (fun s b=>rgL<|bFL (bFL (jCL Az)<|rgL<|ya<|hvL b<|yn<|rJ A8)<|rgL<|bFL (bFL (jCL Az)<|rgL<|ya<|hvL b<|yn<|rJ A8)<|rgL<|bFL (jCL Az)<|rgL<|ya<|hvL b<|yn<|rJ A8) fun u=>cP 1 (xF a.1)<|bFL (rgL<|rKL A4)<|bEL fun i d=>bEL fun j e=>lfL (fun z=>zm [0,1,2,3,4,5,6,7,8,9,10,11] [10] [[],[],[1],[1,2],[1,2,3],[],[5],[5,6],[5,6,7],[0,1,2,3,4,5,6,7,8],[0,1,2,3,4,5,6,7,8,9],[0,1,2,3,4,5,6,7,8,9,10]] [] [(2,qp 0),(3,qi 0)] ⟨[[qs c.1,qi i.zF,qs j.zd]],[]⟩ (dS [0,1]<|dP (yN d)<|dS [3,4,5]<|dP (yN e)<|dS [7,8,9]<|dF (zr 6 (yN e) (zr 2 (yN d) zW))<|dS [11]<|dE A7) z)<|rKL A2
def vi (n:Nat) (a:((List zb)×Int)):Nat→(List za)→Int→Option (Ctl ((List za)×Int) (List za))
 |0,_,_=>none
 | k+1,d,b=>
  if decide (b<(a.1.length:Int))then((zM a.1 b).bind fun e=>
  (qN n e).bind fun c=>
  if c.2 !=0 then(some (.ret (([]:List za),c.2)))else((jR 40 d ([c.1]:List za)).bind fun f=>
  vi n a k f (wrap .i64 (b+1))))else(some (.nxt d))
def kf (n:Nat)(a0:zb):Option ((List za)×Int):=
 if a0.zF !=49 then(some (([]:List za),5))else((bb n a0.zd).bind fun a=>
 if a.2 !=0 then(some (([]:List za),a.2))else((df n a.1).bind fun b=>
 if !b then(some (([]:List za),9))else(yb (vi n a n ([]:List za) 0) (fun r=>some r) (fun c=>
 some (c,0)))))
theorem Wc {n a0 r}:kf n a0=some r→AC mx 216 [.agg (zb.cells a0)] [] (.tuple [ql 3 za.cells r.1,qi r.2]) []:=
 fnL Tryz.func216 rfl<|rgL<|rgL<|bFL (rgL<|rKL A2)<|bC 2 A2 bp fun a=>rgL<|bFL (rgL<|rKL A2)<|bC 1 A2 Jv fun i=>bFL (rgL<|rKL A2)<|rgL<|cP 1 (xF a.1)<|bcL (fun b=>⟨46,[(6, .sl 3 (List.map za.cells b) (.fam 0 (b.length)))]⟩) (fun b=>⟨[],[b.length]⟩) (fun j c=>yV (wk (fr':=⟨46,[(6,qn),(26,ql 3 zb.cells a.1),(27,qi (a.1.length)),(28,qi 0)]⟩) (st':=⟨[],[]⟩) A2)<|yV Wk.nilFam<|lpL (fun k x=>vi n a k x.1 x.2) (([]:List za),0) A6 (fun x=>⟨46,[(6, .sl 3 (List.map za.cells x.1) (.fam 0 (x.1.length))),(26,ql 3 zb.cells a.1),(27,qi (a.1.length)),(28,qi x.2)]⟩) (fun x=>⟨[],[x.1.length]⟩) fun k x=>by obtain⟨l,d⟩:=x; rw [vi]; exact rgL<|bFL (zo<|bP 0 yN fun m=>bC 1 Aj Xv fun o=>rgL<|bFL (rgL<|hKL c<|rJ Ao)<|bEL fun f g=>xo zJ (lfL (fun z=>kA 3 0 za.cells (e:=140) (e2:=140) (sz:=3) (bytes:=40) (b2:=40) (tok2:= .exact) g z) edL)<|zp<|z8 zl fun h=>⟨(f,wrap .i64 (d+1)),h,wk Cg⟩)<|xjL<|jCL A6) fun b=>rgL<|rKL Aa
def uW (n:Nat)(a0:Cn)(c:Int)(a1:Cn)(a2:Int)(f:Nat):Nat→Cn→Int→(List Cn)→Option (Cn×Int×(List Cn))
 |0,_,_,_=>none
 | k+1,a,b,d=>
  if decide (b<(wrap .i64 ((if(wrap .i64 ((a0.length:Int)+1))<c then wrap .i64 ((a0.length:Int)+1)else c)-1)))then((YL n a a1).bind fun e=>
  if decide (e<0)then(some (a,b,d))else((ssl a 0 (wrap .i64 (e+a2))).bind fun g=>
  (gu f b).bind fun i=>
  (Wt d (i*1) g).bind fun j=>
  (ssl a (wrap .i64 (e+(a1.length:Int))) (a.length)).bind fun l=>
  uW n a0 c a1 a2 f k l (wrap .i64 (b+1)) j))else(some (a,b,d))
def pM (n:Nat)(a0 a1:Cn)(a2 a3:Int):Option (List Cn):=
 if a3==0 then(some ([]:List Cn))else(if a1==([]:Cn)then(none)else((if decide (a3<0)then((QB n a0 a1).bind fun d=>
 some (wrap .i64 (d+1)))else(some a3)).bind fun a=>
 (Kg 16 (if(wrap .i64 ((a0.length:Int)+1))<a then wrap .i64 ((a0.length:Int)+1)else a) (if(wrap .i64 ((a0.length:Int)+1))<a then wrap .i64 ((a0.length:Int)+1)else a)).bind fun b=>
 (uW n a0 a a1 a2 b n a0 0 (List.replicate b (([]:Cn):Cn))).bind fun c=>
 (gu b c.2.1).bind fun e=>
 (Wt c.2.2 (e*1) c.1).bind fun f=>
 (osl b (wrap .i64 (c.2.1+1))).bind fun g=>
 (QZ g f).bind fun i=>
 some i))
theorem V9 {n a0 a1 a2 a3 r}:pM n a0 a1 a2 a3=some r→AC mx 232 [qs a0,qs a1,qi a2,qi a3] [] (ql 1 cS r) []:=
 fnL Tryz.func232 rfl<|rgL<|rgL<|bFL (rgL<|rKL A1)<|rgL<|bFL nEL<|rgL<|cuL (fun d=>⟨66,[(0,qs a0),(1,qs a1),(2,qi a2),(3,qi d)]⟩) (fun d=>⟨[],[]⟩) (fun d=>bFL (bEL fun I g=>xo zl (kCL 2 A1 (eY g) edL)<|jnL A1)<|jnL A1) fun d=>rgL<|bEL fun f i=>rCL (lfL (fun z=>kV 1 0 0 0 (BM (T:=tyT) (e:=9) (k1:= .i64) (k2:= .i64) (bytes:=16) (cell:=none) (c:=vS) uS ([]:Cn) ⟨O8,O8⟩ i) z) edL)<|rgL<|rgL<|blL (fun a=>⟨66,[(0,qs a.1),(9, .own 0 f 1),(10,qi a.2.1)]⟩) (fun a=>⟨[[.buf (List.map vS a.2.2)]],[]⟩) (fun a=>lpL (fun k x=>uW n a0 d a1 a2 f k x.1 x.2.1 x.2.2) (a0,0,List.replicate f (([]:Cn):Cn)) A3 (fun x=>⟨66,[(0,qs x.1),(1,qs a1),(2,qi a2),(3,qi (wrap .i64 ((if(wrap .i64 ((a0.length:Int)+1))<d then wrap .i64 ((a0.length:Int)+1)else d)-1))),(9, .own 0 f 1),(10,qi x.2.1)]⟩) (fun x=>⟨[[.buf (List.map vS x.2.2)]],[]⟩) fun k x=>by obtain⟨J,j,m⟩:=x; rw [uW]; exact rgL<|bFL (zo<|bC 2 A2 K6 fun K=>rgL<|bFL (bW<|db<|XW<|dM<|jnL A3)<|bEL fun o s=>bEL fun u v=>bEL fun w A=>rCL (kPL 6 (xn s)<|kPL 7 (pb (id:=0) (e:=9) (sz:=1) (b:=16) v)<|lfL (fun z=>kV 8 1 0 0 (da (T:=tyT) (t:=9) (c:=vS) (l:=m) (off:=(u*1)) (x:=o) uS O8 A) z) edL)<|bP 5 xc fun B=>z8 (j3 (P:=Tryz.prog) (gl:=gl0 mx) zl)<|zp fun h=>⟨(B,wrap .i64 (j+1),w),h,wk A3⟩)<|xjL<|jnL A3) fun a=>bEL fun C D=>bEL fun E F=>rCL (kPL 3 (pb (id:=0) (e:=9) (sz:=1) (b:=16) D)<|lfL (fun z=>kV 4 1 0 0 (da (T:=tyT) (t:=9) (c:=vS) (l:=a.2.2) (off:=(C*1)) (x:=a.1) uS O8 F) z) edL)<|bP 3 (zaf (id:=0) (k:= .i64) (e:=9) (sz:=1) (b:=16)) fun G=>bEL fun L H=>yV (Wk.frz (c:=vS) (l:=E) 8 0 G H O8)<|rKL A2
def dc (n:Nat)(a0 a1:Cn):Option (List Cn):=
 (pM n a0 a1 0 (-1)).bind fun a=>
 some a
theorem Xe {n a0 a1 r}:dc n a0 a1=some r→AC mx 175 [qs a0,qs a1] [] (ql 1 cS r) []:=
 fnL Tryz.func175 rfl<|rgL<|bC 2 A1 V9 fun a=>rKL A1
def dO (n:Nat)(a0:Cn):Nat→Int→Int→Option (Ctl Int Int)
 |0,_,_=>none
 | k+1,b,a=>
  if decide (a<(a0.length:Int))then(((yr a0 a).bind fun c=>
  if decide (c<48)then(some true)else((yr a0 a).bind fun d=>
  some (decide (d>57)))).bind fun e=>
  if e then(some (.ret (-1)))else((yr a0 a).bind fun f=>
  dO n a0 k (wrap .i64 ((wrap .i64 ((10:Int)*b))+(wrap .i64 (wrap .u8 (f-48))))) (wrap .i64 (a+1))))else(some (.nxt b))
def VM (n:Nat)(a0:Cn):Option Int:=
 (if a0==([]:Cn)then(some true)else(if decide ((a0.length:Int)>10)then(some true)else((yr a0 0).bind fun b=>
 if b==48 then(some (decide ((a0.length:Int)>1)))else(some false)))).bind fun c=>
 if c then(some (-1))else(yb (dO n a0 n 0 0) (fun r=>some r) (fun a=>
 if decide (a>2147483647)then(some (-1))else(some a)))
theorem Dc {n a0 r}:VM n a0=some r→AC mx 176 [qs a0] [] (qi r) []:=
 fnL Tryz.func176 rfl<|rgL<|bEL fun d hE=>rgF hE ⟨49,[(0,qs a0),(21,qb d)]⟩ ⟨[],[]⟩ (gFL 3 7 (eJ A1)<|gFL 8 12 (eJ A1)<|bEL fun o e=>kPL 9 (zS e)<|gFL 12 16 (eJ A1)<|eJ A1)<|bFL (rgL<|rKL A1)<|rgL<|rgL<|bcL (fun a=>⟨49,[(3,qi a)]⟩) (fun a=>⟨[],[]⟩) (fun s f=>lpL (fun k x=>dO n a0 k x.1 x.2) (0,0) A1 (fun x=>⟨49,[(0,qs a0),(3,qi x.1),(4,qi x.2)]⟩) (fun x=>⟨[],[]⟩) fun k x=>by obtain⟨b,c⟩:=x; rw [dO]; exact rgL<|bFL (zo<|bEL fun g hE=>rgF hE ⟨49,[(0,qs a0),(3,qi b),(4,qi c),(37,qb g)]⟩ ⟨[],[]⟩ (bEL fun u i=>kPL 2 (zS i)<|gFL 5 32 (eJ A1)<|bEL fun v j=>kPL 7 (zS j)<|eJ A1)<|bFL (rgL<|hKL f<|rJ A1)<|bEL fun l m=>xo zJ (kPL 4 (zS m) edL)<|zp<|z8 zl fun h=>⟨(wrap .i64 ((wrap .i64 ((10:Int)*b))+(wrap .i64 (wrap .u8 (l-48)))),wrap .i64 (c+1)),h,wk A1⟩)<|xjL<|jCL A1) fun a=>rgL<|bFL (rgL<|rKL A1)<|rgL<|rKL A1
def WP (n:Nat)(a0 a1:Int):Option Bool:=
 (if decide (a0≤1)then(if decide (a1≤39)then(some true)else(some (a0==2)))else(some (a0==2))).bind fun a=>
 some a
theorem Gt {n a0 a1 r}:WP n a0 a1=some r→AC mx 177 [qi a0,qi a1] [] (qb r) []:=
 fnL Tryz.func177 rfl<|rgL<|bEL fun a hE=>rgF hE ⟨15,[(4,qb a)]⟩ ⟨[],[]⟩ (gFL 3 7 (gFL 7 11 (eJ A1)<|eJ A1)<|eJ A1)<|rKL A1
def bq (n:Nat)(a:List Cn):Nat→(List Int)→Int→Option (Ctl (Option (List Int)) (List Int))
 |0,_,_=>none
 | k+1,c,b=>
  if decide (b<(a.length:Int))then((zM a b).bind fun e=>
  (VM n e).bind fun d=>
  if decide (d<0)then(some (.ret none))else((jR 8 c ([d]:List Int)).bind fun f=>
  bq n a k f (wrap .i64 (b+1))))else(some (.nxt c))
def YR (n:Nat)(a0:Cn):Option (Option (List Int)):=
 (dc n a0 ([46]:Cn)).bind fun b=>
 (if decide ((b.length:Int)<2)then(some true)else(some (decide ((b.length:Int)>12)))).bind fun c=>
 if c then(some none)else(yb (bq n b n ([]:List Int) 0) (fun r=>some r) (fun a=>
 (zM a 0).bind fun d=>
 (zM a 1).bind fun e=>
 (WP n d e).bind fun f=>
 if !f then(some none)else((lne a).bind fun g=>
 some (some a))))
theorem U7 {n a0 r}:YR n a0=some r→AC mx 116 [qs a0] [] (onl 1 (cI .i64) r) []:=
 fnL Tryz.func116 rfl<|rgL<|bC 1 A1 Xe fun a=>bEL fun f hE=>rgF hE ⟨42,[(3,ql 1 cS a),(17,qb f)]⟩ ⟨[],[]⟩ (kPL 1 (ue a)<|gFL 4 13 (eJ A1)<|kPL 5 (ue a)<|eJ A1)<|bFL (rgL<|rKL A1)<|rgL<|cP 1 (ue a)<|bcL (fun b=>⟨42,[(4, .sl 1 (List.map (cI .i64) b) (.fam 0 (b.length)))]⟩) (fun b=>⟨[],[b.length]⟩) (fun s g=>yV (wk (fr':=⟨42,[(4,qn),(18,ql 1 cS a),(19,qi (a.length)),(20,qi 0)]⟩) (st':=⟨[],[]⟩) A1)<|yV Wk.nilFam<|lpL (fun k x=>bq n a k x.1 x.2) (([]:List Int),0) A6 (fun x=>⟨42,[(4, .sl 1 (List.map (cI .i64) x.1) (.fam 0 (x.1.length))),(18,ql 1 cS a),(19,qi (a.length)),(20,qi x.2)]⟩) (fun x=>⟨[],[x.1.length]⟩) fun k x=>by obtain⟨u,i⟩:=x; rw [bq]; exact rgL<|bFL (zo<|bP 0 ww fun v=>bC 1 Aa Dc fun w=>rgL<|bFL (rgL<|hKL g<|rJ Aa)<|bEL fun j l=>xo zJ (lfL (fun z=>kA 3 0 (cI .i64) (e:=3) (e2:=3) (sz:=1) (bytes:=8) (b2:=8) (tok2:= .exact) l z) edL)<|zp<|z8 zl fun h=>⟨(j,wrap .i64 (i+1)),h,wk A6⟩)<|xjL<|jCL A6) fun b=>bEL fun A c=>bEL fun B d=>bEL fun m o=>lfL (fun z=>zs [0,1,2,3,4,5,6,7] [6] [[],[0],[0,1],[],[3],[3,4],[0,1,2,3,4,5],[0,1,2,3,4,5,6]] [4] [(40,qb (!m))] (dS [0]<|dP (Yk (.fam 0 (b.length)) c)<|dS [2,3]<|dP (Yk (.fam 0 (b.length)) d)<|dS [5]<|dC (zr 4 (Yk (.fam 0 (b.length)) d) (zr 1 (Yk (.fam 0 (b.length)) c) zW)) Aa (Gt o)<|dS [7]<|dE A6) z)<|bFL (rgL<|rKL Aa)<|rgL<|bEL fun C D=>rKL Aa
def gi (n:Nat)(a0:Cn):Option Bool:=
 ((YR n a0).bind fun a=>
 onE a (some false) (fun b=>(lne b).bind fun d=>
 some true)).bind fun c=>
 some c
theorem Zg {n a0 r}:gi n a0=some r→AC mx 88 [qs a0] [] (qb r) []:=
 fnL Tryz.func88 rfl<|rgL<|bEL fun a hE=>rgF hE ⟨6,[(2,qb a)]⟩ ⟨[],[]⟩ (bEL fun d f=>kCL 1 A1 (U7 f) fun h=>by cases d with|none=>exact imA (onN h) (eJ A1)|some i=>exact imA (onS h) (bEL fun j g=>kPL 2 (oW (c:=(cI .i64)) (e:=3) (sz:=1) (b:=8) (tok:= .none) g)<|eJ A1))<|rKL A1
def wx (n:Nat)(a0 a1:Cn):Option Bool:=
 (if decide ((a0.length:Int)≥(a1.length:Int))then((ssl a0 0 (a1.length:Int)).bind fun a=>
 some (a==a1))else(some false)).bind fun b=>
 some b
theorem ku {n a0 a1 r}:wx n a0 a1=some r→AC mx 289 [qs a0,qs a1] [] (qb r) []:=
 fnL Tryz.func289 rfl<|rgL<|bEL fun a hE=>rgF hE ⟨18,[(4,qb a)]⟩ ⟨[],[]⟩ (gFL 6 10 (bEL fun c b=>kPL 9 (xn b)<|eJ A1)<|eJ A1)<|rKL A1
def gf (n:Nat)(a0 a1:Cn):Option Bool:=
 (wx n a0 a1).bind fun a=>
 some a
theorem VE {n a0 a1 r}:gf n a0 a1=some r→AC mx 268 [qs a0,qs a1] [] (qb r) []:=
 fnL Tryz.func268 rfl<|rgL<|bC 2 A1 ku fun a=>rKL A1
def jW (n:Nat)(a0:Cn):Nat→Nat→Option (Ctl Bool Unit)
 |0,_=>none
 | k+1,a=>
  if Nat.blt a (a0.length)then((if decide ((((JU a0 a).1:Nat):Int)<32)then(some true)else(some ((((JU a0 a).1:Nat):Int)==127))).bind fun b=>
  if b then(some (.ret false))else((if(((JU a0 a).1:Nat):Int)==65533 then((ssl a0 ((a:Nat):Int) (a0.length)).bind fun c=>
  (gf n c ([239,191,189]:Cn)).bind fun d=>
  some (!d))else(some false)).bind fun e=>
  if e then(some (.ret false))else(jW n a0 k (a+(JU a0 a).2))))else(some (.nxt ()))
def UO (n:Nat)(a0:Cn):Option Bool:=
 yb (jW n a0 n 0) (fun r=>some r) (fun a=>
 some true)
theorem GS {n a0 r}:UO n a0=some r→AC mx 240 [qs a0] [] (qb r) []:=
 fnL Tryz.func240 rfl<|rgL<|rgL<|bcL (fun _=>⟨26,[]⟩) (fun _=>⟨[],[]⟩) (fun g b=>lpL (fun k x=>jW n a0 k x) 0 A3 (fun x=>⟨26,[(0,qs a0),(6, .iter 0)]⟩) (fun x=>⟨[[.sit a0 x]],[]⟩) fun k a=>by rw [jW]; exact lfL (fun z=>mz z)<|kFL (fun hb=>lfL (fun z=>kV 0 1 0 0 (tv hb) z)<|lfL (fun z=>KO (⟨26,[(0,qs a0),(6, .iter 0),(7, .tuple [qb true,qi ((a:Nat):Int), .int .i32 (((JU a0 a).1:Nat):Int)]),(8,qb true)]⟩) (⟨[[.sit a0 (a+(JU a0 a).2)]],[]⟩) zJ (kE A3) z)<|bTL<|zo<|rgL<|bEL fun c hE=>rgF hE ⟨26,[(0,qs a0),(3,qi ((a:Nat):Int)),(4, .int .i32 (((JU a0 a).1:Nat):Int)),(6, .iter 0),(16,qb c)]⟩ ⟨[[.sit a0 (a+(JU a0 a).2)]],[]⟩ (gFL 3 13 (eJ A3)<|eJ A3)<|bFL (rgL<|hKL b<|rJ A2)<|bEL fun d hE=>rgF hE ⟨26,[(0,qs a0),(6, .iter 0),(25,qb d)]⟩ ⟨[[.sit a0 (a+(JU a0 a).2)]],[]⟩ (gFL 3 19 (bEL fun i e=>bEL fun j f=>kPL 5 (xc e)<|kCL 6 A2 (VE f)<|eJ A3)<|eJ A3)<|bFL (rgL<|hKL b<|rJ A2)<|zp fun h=>⟨a+(JU a0 a).2,h,wk A3⟩) fun hb=>lfL (fun z=>kV 0 1 0 0 (tQ hb) z)<|lfL (fun z=>KO (⟨26,[(0,qs a0),(6, .iter 0),(7, .tuple [qb false]),(8,qb false)]⟩) (⟨[[.sit a0 a]],[]⟩) zJ (kE A3) z)<|bNL<|xjL<|jCL A2) fun l=>rgL<|rKL A1
def UZ (n:Nat)(a0:Int):Option Bool:=
 (if decide (a0≥97)then(if decide (a0≤122)then(some true)else(if decide (a0≥65)then(if decide (a0≤90)then(some true)else(if decide (a0≥48)then(some (decide (a0≤57)))else(some false)))else(if decide (a0≥48)then(some (decide (a0≤57)))else(some false))))else(if decide (a0≥65)then(if decide (a0≤90)then(some true)else(if decide (a0≥48)then(some (decide (a0≤57)))else(some false)))else(if decide (a0≥48)then(some (decide (a0≤57)))else(some false)))).bind fun a=>
 some a
theorem QD {n a0 r}:UZ n a0=some r→AC mx 243 [qu a0] [] (qb r) []:=
 fnL Tryz.func243 rfl<|rgL<|bEL fun a hE=>rgF hE ⟨25,[(2,qb a)]⟩ ⟨[],[]⟩ (gFL 3 5 (gFL 7 9 (eJ A1)<|gFL 10 12 (gFL 15 17 (eJ A1)<|gFL 18 20 (eJ A1)<|eJ A1)<|gFL 18 20 (eJ A1)<|eJ A1)<|gFL 10 12 (gFL 15 17 (eJ A1)<|gFL 18 20 (eJ A1)<|eJ A1)<|gFL 18 20 (eJ A1)<|eJ A1)<|rKL A1
def Zm (n:Nat)(a0:Int):Option Bool:=
 ((UZ n a0).bind fun a=>
 if a then(some true)else((Xl n ([32,39,40,41,43,44,45,46,47,58,61,63]:Cn) a0).bind fun b=>
 some (decide (b≥0)))).bind fun c=>
 some c
theorem Qj {n a0 r}:Zm n a0=some r→AC mx 242 [qu a0] [] (qb r) []:=
 fnL Tryz.func242 rfl<|rgL<|bEL fun a hE=>rgF hE ⟨10,[(2,qb a)]⟩ ⟨[],[]⟩ (bEL fun d b=>kCL 1 A1 (QD b)<|gFL 3 5 (eJ A1)<|bEL fun e c=>kCL 4 A1 (Um c)<|eJ A1)<|rKL A1
def gY (n:Nat)(a0:Cn):Nat→Int→Option (Ctl Bool Unit)
 |0,_=>none
 | k+1,a=>
  if decide (a<(a0.length:Int))then((yr a0 a).bind fun b=>
  (Zm n b).bind fun c=>
  if !c then(some (.ret false))else(gY n a0 k (wrap .i64 (a+1))))else(some (.nxt ()))
def UR (n:Nat)(a0:Cn):Option Bool:=
 yb (gY n a0 n 0) (fun r=>some r) (fun a=>
 some true)
theorem Gx {n a0 r}:UR n a0=some r→AC mx 241 [qs a0, .func (.func 242) [] []] [] (qb r) []:=
 fnL Tryz.func241 rfl<|rgL<|rgL<|bcL (fun _=>⟨18,[]⟩) (fun _=>⟨[],[]⟩) (fun e a=>lpL (fun k x=>gY n a0 k x) 0 A1 (fun x=>⟨18,[(0,qs a0),(1, .func (.func 242) [] []),(5,qi x)]⟩) (fun x=>⟨[],[]⟩) fun k b=>by rw [gY]; exact rgL<|bFL (zo<|bEL fun f c=>bEL fun g d=>rCL (kPL 3 (zS c)<|kCL 4 A1 (Qj d) edL)<|bFL (rgL<|hKL a<|rJ A1)<|zp<|z8 zl fun h=>⟨wrap .i64 (b+1),h,wk A1⟩)<|xjL<|jCL A1) fun i=>rgL<|rKL A1
def Zh (n:Nat)(a0:Int):Option Bool:=
 (if decide (a0≥32)then(some (decide (a0≤126)))else(some false)).bind fun a=>
 some a
theorem JP {n a0 r}:Zh n a0=some r→AC mx 245 [qu a0] [] (qb r) []:=
 fnL Tryz.func245 rfl<|rgL<|bEL fun a hE=>rgF hE ⟨9,[(2,qb a)]⟩ ⟨[],[]⟩ (gFL 3 5 (eJ A1)<|eJ A1)<|rKL A1
def bf (n:Nat)(a0:Cn):Nat→Int→Option (Ctl Bool Unit)
 |0,_=>none
 | k+1,a=>
  if decide (a<(a0.length:Int))then((yr a0 a).bind fun b=>
  (Zh n b).bind fun c=>
  if !c then(some (.ret false))else(bf n a0 k (wrap .i64 (a+1))))else(some (.nxt ()))
def W1 (n:Nat)(a0:Cn):Option Bool:=
 yb (bf n a0 n 0) (fun r=>some r) (fun a=>
 some true)
theorem Ku {n a0 r}:W1 n a0=some r→AC mx 241 [qs a0, .func (.func 245) [] []] [] (qb r) []:=
 fnL Tryz.func241 rfl<|rgL<|rgL<|bcL (fun _=>⟨18,[]⟩) (fun _=>⟨[],[]⟩) (fun e a=>lpL (fun k x=>bf n a0 k x) 0 A1 (fun x=>⟨18,[(0,qs a0),(1, .func (.func 245) [] []),(5,qi x)]⟩) (fun x=>⟨[],[]⟩) fun k b=>by rw [bf]; exact rgL<|bFL (zo<|bEL fun f c=>bEL fun g d=>rCL (kPL 3 (zS c)<|kCL 4 A1 (JP d) edL)<|bFL (rgL<|hKL a<|rJ A1)<|zp<|z8 zl fun h=>⟨wrap .i64 (b+1),h,wk A1⟩)<|xjL<|jCL A1) fun i=>rgL<|rKL A1
def Yy (n:Nat)(a0:Int)(a1:Cn):Option Bool:=
 if a0==12 then((UO n a1).bind fun a=>
 some a)else(if a0==19 then((UR n a1).bind fun b=>
 some b)else(if a0==22 then((W1 n a1).bind fun c=>
 some c)else(some false)))
theorem KK {n a0 a1 r}:Yy n a0 a1=some r→AC mx 212 [qi a0,qs a1] [] (qb r) []:=
 fnL Tryz.func212 rfl<|rgL<|rgL<|zo<|rgL<|bFL (bC 1 A1 GS fun a=>ya<|yf<|rJ A1)<|rgL<|bFL (bC 1 A1 Gx fun b=>ya<|yf<|rJ A1)<|rgL<|bFL (bC 1 A1 Ku fun c=>ya<|yf<|rJ A1)<|zp<|rgL<|rKL A1
def vP (n:Nat)(a:List za)(c:za):Nat→Int→Option (Ctl Int Unit)
 |0,_=>none
 | k+1,b=>
  if decide (b<(a.length:Int))then((zM a b).bind fun d=>
  if d.xx==c.xx then(some (.ret 10))else(vP n a c k (wrap .i64 (b+1))))else(some (.nxt ()))
def wA (n:Nat)(a0:List za):Nat→Int→Option (Ctl Int Unit)
 |0,_=>none
 | k+1,b=>
  if decide (b<(a0.length:Int))then((zM a0 b).bind fun a=>
  (gi n a.xx).bind fun c=>
  if !c then(some (.ret 11))else((if a.vg==([]:Cn)then(some true)else((Yy n a.zG a.vg).bind fun d=>
  some (!d))).bind fun e=>
  if e then(some (.ret 13))else(if decide ((a.vg.length:Int)>64)then(some (.ret 2))else((lsl a0 0 b).bind fun f=>
  yb (vP n f a n 0) (fun r=>some (.ret r)) (fun g=>
  wA n a0 k (wrap .i64 (b+1)))))))else(some (.nxt ()))
def kz (n:Nat)(a0:List za):Option Int:=
 if(a0.length:Int)==0 then(some 14)else(if decide ((a0.length:Int)>4)then(some 2)else(yb (wA n a0 n 0) (fun r=>some r) (fun a=>
 some 0)))
theorem Wi {n a0 r}:kz n a0=some r→AC mx 160 [ql 3 za.cells a0] [] (qi r) []:=
 fnL Tryz.func160 rfl<|rgL<|cP 1 (g9 a0)<|bFL (rgL<|rKL A1)<|cP 1 (g9 a0)<|bFL (rgL<|rKL A1)<|cP 1 (g9 a0)<|bcL (fun _=>⟨54,[]⟩) (fun _=>⟨[],[]⟩) (fun l b=>lpL (fun k x=>wA n a0 k x) 0 A1 (fun x=>⟨54,[(0,ql 3 za.cells a0),(13,ql 3 za.cells a0),(14,qi (a0.length)),(15,qi x)]⟩) (fun x=>⟨[],[]⟩) fun k a=>by rw [wA]; exact rgL<|bFL (zo<|bP 1 ZF fun d=>bC 2 A2 Zg fun m=>bFL (rgL<|hKL b<|rJ A2)<|bEL fun e hE=>rgF hE ⟨54,[(0,ql 3 za.cells a0),(3,qi a),(4,qp 0),(13,ql 3 za.cells a0),(14,qi (a0.length)),(15,qi a),(34,qb e)]⟩ ⟨[za.cells d],[]⟩ (gFL 4 27 (eJ A3)<|bEL fun o f=>kCL 8 A2 (KK f)<|eJ A3)<|bFL (rgL<|hKL b<|rJ A2)<|rgL<|bFL (rgL<|hKL b<|rJ A2)<|bEL fun c g=>rCL (kPL 2 (lP g)<|kPL 3 (g9 c) edL)<|rv zJ (fun _=>⟨54,[(0,ql 3 za.cells a0),(13,ql 3 za.cells a0),(14,qi (a0.length)),(15,qi a)]⟩) (fun _=>⟨[],[]⟩) (fun s i=>lpL (fun k x=>vP n c d k x) 0 A3 (fun x=>⟨54,[(0,ql 3 za.cells a0),(4,qp 0),(13,ql 3 za.cells a0),(14,qi (a0.length)),(15,qi a),(41,ql 3 za.cells c),(42,qi (c.length)),(43,qi x)]⟩) (fun x=>⟨[za.cells d],[]⟩) fun k j=>by rw [vP]; exact rgL<|bFL (zo<|bP 0 ZF fun u=>rgL<|bFL (rgL<|hKL i<|yf<|wo<|hvL b<|yn<|rJ A4)<|zp<|z8 zl fun h=>⟨wrap .i64 (j+1),h,wk A7⟩)<|xjL<|jCL A2) fun v=>zp<|z8 zl fun h=>⟨wrap .i64 (a+1),h,wk A1⟩)<|xjL<|jCL A1) fun w=>rgL<|rKL A1
def qY (n:Nat)(a0:zv):Nat→Int→Option (Ctl Int Unit)
 |0,_=>none
 | k+1,a=>
  if decide (a<(a0.zh.length:Int))then((zM a0.zh a).bind fun c=>
  (kz n c).bind fun b=>
  if b !=0 then(some (.ret b))else(qY n a0 k (wrap .i64 (a+1))))else(some (.nxt ()))
def jU (n:Nat)(a0:zv):Option Int:=
 if decide ((a0.zh.length:Int)>8)then(some 2)else(yb (qY n a0 n 0) (fun r=>some r) (fun a=>
 some 0))
theorem gc {n a0 r}:jU n a0=some r→AC mx 102 [.agg [ql 1 (cL 3 za.cells) a0.zh]] [] (qi r) []:=
 fnL Tryz.func102 rfl<|rgL<|cP 2 (ga a0.zh)<|bFL (rgL<|rKL A2)<|cP 2 (ga a0.zh)<|bcL (fun _=>⟨23,[]⟩) (fun _=>⟨[],[]⟩) (fun c a=>lpL (fun k x=>qY n a0 k x) 0 A2 (fun x=>⟨23,[(11,ql 1 (cL 3 za.cells) a0.zh),(12,qi (a0.zh.length)),(13,qi x)]⟩) (fun x=>⟨[],[]⟩) fun k b=>by rw [qY]; exact rgL<|bFL (zo<|bP 0 ZD fun d=>bC 1 A1 Wi fun e=>rgL<|bFL (rgL<|hKL a<|rJ A1)<|zp<|z8 zl fun h=>⟨wrap .i64 (b+1),h,wk A1⟩)<|xjL<|jCL A1) fun f=>rgL<|rKL A1
def qo (n:Nat) (a:((List zb)×Int)):Nat→Int→(List (List za))→Option (Ctl (zv×Int) (List (List za)))
 |0,_,_=>none
 | k+1,b,d=>
  if decide (b<(a.1.length:Int))then((zM a.1 b).bind fun e=>
  (kf n e).bind fun c=>
  if c.2 !=0 then(some (.ret ((zv.mk ([]:List (List za))),c.2)))else((jR 24 d ([c.1]:List (List za))).bind fun f=>
  qo n a k (wrap .i64 (b+1)) f))else(some (.nxt d))
def dN (n:Nat)(a0:Cn):Option (zv×Int):=
 (pp n a0).bind fun a=>
 if a.2 !=0 then(some ((zv.mk ([]:List (List za))),a.2))else(if a.1.zF !=48 then(some ((zv.mk ([]:List (List za))),5))else((bb n a.1.zd).bind fun b=>
 if b.2 !=0 then(some ((zv.mk ([]:List (List za))),b.2))else(yb (qo n b n 0 ([]:List (List za))) (fun r=>some r) (fun c=>
 (jU n (zv.mk c)).bind fun d=>
 if d !=0 then(some ((zv.mk ([]:List (List za))),d))else(some ((zv.mk c),0))))))
theorem XV {n a0 r}:dN n a0=some r→AC mx 166 [qs a0] [] (.tuple [.agg [ql 1 (cL 3 za.cells) r.1.zh],qi r.2]) []:=
 fnL Tryz.func166 rfl<|rgL<|rgL<|bC 1 A4 p6 fun i=>rgL<|bFL (rgL<|rKL A8)<|rgL<|bFL (rgL<|rKL A8)<|bC 2 A8 bp fun a=>rgL<|bFL (rgL<|rKL A8)<|rgL<|cP 1 (xF a.1)<|bcL (fun b=>⟨66,[(2,qp 0),(4,qp 1),(8,qp 2)]⟩) (fun b=>⟨[[qn],[qn],[.sl 1 (List.map (cL 3 za.cells) b) (.fam 0 (b.length))]],[b.length]⟩) (fun j c=>yV (wk (fr':=⟨66,[(2,qp 0),(4,qp 1),(8,qp 2),(37,ql 3 zb.cells a.1),(38,qi (a.1.length)),(39,qi 0)]⟩) (st':=⟨[[qn],[qn],[qn]],[]⟩) ⟨[0,1,3],4,[],0⟩)<|yV Wk.nilFam<|lpL (fun k x=>qo n a k x.1 x.2) (0,([]:List (List za))) Af (fun x=>⟨66,[(2,qp 0),(4,qp 1),(8,qp 2),(37,ql 3 zb.cells a.1),(38,qi (a.1.length)),(39,qi x.1)]⟩) (fun x=>⟨[[qn],[qn],[.sl 1 (List.map (cL 3 za.cells) x.2) (.fam 0 (x.2.length))]],[x.2.length]⟩) fun k x=>by obtain⟨d,l⟩:=x; rw [qo]; exact rgL<|bFL (zo<|bP 0 yN fun m=>bC 1 C4 Wc fun o=>rgL<|bFL (rgL<|hKL c<|rJ C4)<|bEL fun f g=>xo zJ (lfL (fun z=>kA 4 0 (cL 3 za.cells) (e:=141) (e2:=141) (sz:=1) (bytes:=24) (b2:=24) (tok2:= .exact) g z) edL)<|zp<|z8 zl fun h=>⟨(wrap .i64 (d+1),f),h,wk ⟨[0,1,2],4,[0],1⟩⟩)<|xjL<|jCL Af) fun b=>bC 1 Al gc fun s=>rgL<|bFL (rgL<|rKL Al)<|rgL<|rKL Al
def YU (n:Nat)(a0:Int):Option Int:=
 if a0==1 then(some 0)else(if a0==2 then(some 1)else(if a0==4 then(some 2)else(if a0==7 then(some 3)else(some 4))))
theorem Gi {n a0 r}:YU n a0=some r→AC mx 170 [qi a0] [] (qi r) []:=
 fnL Tryz.func170 rfl<|rgL<|rgL<|zo<|rgL<|bFL (rgL<|ya<|yf<|rJ A1)<|rgL<|bFL (rgL<|ya<|yf<|rJ A1)<|rgL<|bFL (rgL<|ya<|yf<|rJ A1)<|rgL<|bFL (rgL<|ya<|yf<|rJ A1)<|zp<|rgL<|rKL A1
def kx (n:Nat)(a0 a1:Cn):Option (Cn×Cn×Bool):=
 (Ja n a0 a1).bind fun a=>
 if decide (a≥0)then((ssl a0 0 a).bind fun b=>
 (ssl a0 (wrap .i64 (a+(a1.length:Int))) (a0.length)).bind fun c=>
 some (b,c,true))else(some (a0,([]:Cn),false))
theorem Yj {n a0 a1 r}:kx n a0 a1=some r→AC mx 274 [qs a0,qs a1] [] (.tuple [qs r.1,qs r.2.1,qb r.2.2]) []:=
 fnL Tryz.func274 rfl<|rgL<|bC 2 A1 Pu fun e=>rgL<|bFL (bEL fun a b=>bEL fun c d=>lfL (fun z=>zs [0,1,2,3,4,5,6,7,8,9,10,11] [] [[],[],[0,1],[],[],[],[5],[4,5,6],[3,4,5,6,7],[0,1,2],[0,1,2,3,4,5,6,7,8,9],[0,1,2,3,4,5,6,7,8,9,10]] [] [(4,qs a),(5,qs c),(6,qb true)] (dS [0,1]<|dP (xn b)<|dS (zx 3 5)<|dP (xc d)<|dS [9,10,11]<|dE A1) z)<|rKL A1)<|rgL<|rKL A1
def XU (n:Nat)(a0 a1:Cn):Option (Cn×Cn×Bool):=
 (kx n a0 a1).bind fun a=>
 some (a.1,a.2.1,a.2.2)
theorem QW {n a0 a1 r}:XU n a0 a1=some r→AC mx 253 [qs a0,qs a1] [] (.tuple [qs r.1,qs r.2.1,qb r.2.2]) []:=
 fnL Tryz.func253 rfl<|rgL<|bC 2 A1 Yj fun a=>rKL A1
def uq (n:Nat)(a0 a1:Cn):Option Bool:=
 (YL n a0 a1).bind fun a=>
 some (decide (a≥0))
theorem ZY {n a0 a1 r}:uq n a0 a1=some r→AC mx 256 [qs a0,qs a1] [] (qb r) []:=
 fnL Tryz.func256 rfl<|rgL<|bC 2 A1 K6 fun a=>rKL A1
def pi (n:Nat)(a0:Int):Option Bool:=
 (if decide (a0≥97)then(if decide (a0≤122)then(some true)else(if decide (a0≥65)then(some (decide (a0≤90)))else(some false)))else(if decide (a0≥65)then(some (decide (a0≤90)))else(some false))).bind fun a=>
 some a
theorem WX {n a0 r}:pi n a0=some r→AC mx 275 [qu a0] [] (qb r) []:=
 fnL Tryz.func275 rfl<|rgL<|bEL fun a hE=>rgF hE ⟨17,[(2,qb a)]⟩ ⟨[],[]⟩ (gFL 3 5 (gFL 7 9 (eJ A1)<|gFL 10 12 (eJ A1)<|eJ A1)<|gFL 10 12 (eJ A1)<|eJ A1)<|rKL A1
def Za (n:Nat)(a0:Int):Option Bool:=
 (if decide (a0≥48)then(some (decide (a0≤57)))else(some false)).bind fun a=>
 some a
theorem VB {n a0 r}:Za n a0=some r→AC mx 276 [qu a0] [] (qb r) []:=
 fnL Tryz.func276 rfl<|rgL<|bEL fun a hE=>rgF hE ⟨9,[(2,qb a)]⟩ ⟨[],[]⟩ (gFL 3 5 (eJ A1)<|eJ A1)<|rKL A1
def bc (n:Nat)(a0:Cn):Nat→Int→Option (Ctl Bool Unit)
 |0,_=>none
 | k+1,a=>
  if decide (a<(List.length (s2b a0):Int))then((zM (s2b a0) a).bind fun b=>
  ((pi n b).bind fun c=>
  if c then(some true)else((Za n b).bind fun d=>
  if d then(some true)else((Xl n ([33,35,36,37,38,39,42,43,45,47,61,63,94,95,96,123,124,125,126,46]:Cn) b).bind fun e=>
  some (decide (e≥0))))).bind fun f=>
  if !f then(some (.ret false))else(bc n a0 k (wrap .i64 (a+1))))else(some (.nxt ()))
def YD (n:Nat)(a0:Cn):Option Bool:=
 (if decide ((a0.length:Int)<1)then(some true)else(if decide ((a0.length:Int)>64)then(some true)else((yr a0 0).bind fun a=>
 if a==46 then(some true)else((yr a0 (wrap .i64 ((a0.length:Int)-1))).bind fun b=>
 if b==46 then(some true)else((uq n a0 ([46,46]:Cn)).bind fun c=>
 some c))))).bind fun d=>
 if d then(some false)else(yb (bc n a0 n 0) (fun r=>some r) (fun e=>
 some true))
theorem KP {n a0 r}:YD n a0=some r→AC mx 254 [qs a0] [] (qb r) []:=
 fnL Tryz.func254 rfl<|rgL<|bEL fun c hE=>rgF hE ⟨50,[(0,qs a0),(30,qb c)]⟩ ⟨[],[]⟩ (gFL 4 9 (eJ A1)<|gFL 9 14 (eJ A1)<|bEL fun i d=>kPL 10 (zS d)<|gFL 14 19 (eJ A1)<|bEL fun j e=>kPL 18 (zS e)<|gFL 22 27 (eJ A1)<|bEL fun l f=>kCL 23 A1 (ZY f)<|eJ A1)<|bFL (rgL<|rKL A1)<|rCL (lfL (fun z=>kS 1 a0 z)<|kPL 2 (UD (s2b a0)) edL)<|bcL (fun _=>⟨50,[]⟩) (fun _=>⟨[],[]⟩) (fun m g=>lpL (fun k x=>bc n a0 k x) 0 A1 (fun x=>⟨50,[(32,ql 1 (cI .u8) (s2b a0)),(33,qi (List.length (s2b a0):Int)),(34,qi x)]⟩) (fun x=>⟨[],[]⟩) fun k b=>by rw [bc]; exact rgL<|bFL (zo<|bP 0 dU fun o=>rgL<|blL (fun a=>⟨50,[(5,qb a),(32,ql 1 (cI .u8) (s2b a0)),(33,qi (List.length (s2b a0):Int)),(34,qi b)]⟩) (fun a=>⟨[],[]⟩) (fun a=>zo<|zo<|zo<|bC 1 A1 WX fun s=>bFL (bW<|UJ<|zp<|rgL<|bW<|db<|dM<|jnL A1)<|bC 1 A1 VB fun u=>bFL (bW<|db<|UJ<|rgL<|bW<|db<|dM<|jnL A1)<|bW<|db<|db<|UJ<|bC 1 A1 Um fun v=>bW<|dM<|jnL A1) fun a=>rgL<|bFL (rgL<|hKL g<|rJ A1)<|zp<|z8 zl fun h=>⟨wrap .i64 (b+1),h,wk A1⟩)<|xjL<|jCL A1) fun w=>rgL<|rKL A1
def bm (n:Nat)(a0:Cn):Nat→Int→Option (Ctl Bool Unit)
 |0,_=>none
 | k+1,a=>
  if decide (a<(List.length (s2b a0):Int))then((zM (s2b a0) a).bind fun b=>
  ((pi n b).bind fun c=>
  if !c then((Za n b).bind fun d=>
  if !d then(some (b !=45))else(some false))else(some false)).bind fun e=>
  if e then(some (.ret false))else(bm n a0 k (wrap .i64 (a+1))))else(some (.nxt ()))
def Yx (n:Nat)(a0:Cn):Option Bool:=
 (if decide ((a0.length:Int)<1)then(some true)else(if decide ((a0.length:Int)>63)then(some true)else((yr a0 0).bind fun a=>
 if a==45 then(some true)else((yr a0 (wrap .i64 ((a0.length:Int)-1))).bind fun b=>
 some (b==45))))).bind fun c=>
 if c then(some false)else(yb (bm n a0 n 0) (fun r=>some r) (fun d=>
 some true))
theorem Kx {n a0 r}:Yx n a0=some r→AC mx 272 [qs a0] [] (qb r) []:=
 fnL Tryz.func272 rfl<|rgL<|bEL fun b hE=>rgF hE ⟨46,[(0,qs a0),(25,qb b)]⟩ ⟨[],[]⟩ (gFL 4 8 (eJ A1)<|gFL 9 13 (eJ A1)<|bEL fun j c=>kPL 10 (zS c)<|gFL 14 18 (eJ A1)<|bEL fun l d=>kPL 18 (zS d)<|eJ A1)<|bFL (rgL<|rKL A1)<|rCL (lfL (fun z=>kS 1 a0 z)<|kPL 2 (UD (s2b a0)) edL)<|bcL (fun _=>⟨46,[]⟩) (fun _=>⟨[],[]⟩) (fun m e=>lpL (fun k x=>bm n a0 k x) 0 A1 (fun x=>⟨46,[(27,ql 1 (cI .u8) (s2b a0)),(28,qi (List.length (s2b a0):Int)),(29,qi x)]⟩) (fun x=>⟨[],[]⟩) fun k a=>by rw [bm]; exact rgL<|bFL (zo<|bP 0 dU fun o=>bEL fun f hE=>rgF hE ⟨46,[(27,ql 1 (cI .u8) (s2b a0)),(28,qi (List.length (s2b a0):Int)),(29,qi a),(44,qb f)]⟩ ⟨[],[]⟩ (bEL fun s g=>kCL 1 A1 (WX g)<|gFL 4 36 (bEL fun u i=>kCL 5 A1 (VB i)<|gFL 9 41 (eJ A1)<|eJ A1)<|eJ A1)<|bFL (rgL<|hKL e<|rJ A1)<|zp<|z8 zl fun h=>⟨wrap .i64 (a+1),h,wk A1⟩)<|xjL<|jCL A1) fun v=>rgL<|rKL A1
def gM (n:Nat)(a:List Cn):Nat→Int→Option (Ctl Bool Unit)
 |0,_=>none
 | k+1,b=>
  if decide (b<(a.length:Int))then((zM a b).bind fun c=>
  (Yx n c).bind fun d=>
  if !d then(some (.ret false))else(gM n a k (wrap .i64 (b+1))))else(some (.nxt ()))
def Zz (n:Nat)(a0:Cn):Option Bool:=
 if decide ((a0.length:Int)>128)then(some false)else((dc n a0 ([46]:Cn)).bind fun a=>
 yb (gM n a n 0) (fun r=>some r) (fun b=>
 some true))
theorem XK {n a0 r}:Zz n a0=some r→AC mx 251 [qs a0] [] (qb r) []:=
 fnL Tryz.func251 rfl<|rgL<|rgL<|bFL (rgL<|rKL A1)<|bEL fun a b=>rCL (kCL 1 A1 (Xe b)<|kPL 2 (ue a) edL)<|bcL (fun _=>⟨19,[]⟩) (fun _=>⟨[],[]⟩) (fun e c=>lpL (fun k x=>gM n a k x) 0 A1 (fun x=>⟨19,[(9,ql 1 cS a),(10,qi (a.length)),(11,qi x)]⟩) (fun x=>⟨[],[]⟩) fun k d=>by rw [gM]; exact rgL<|bFL (zo<|bP 0 ww fun f=>bC 1 A1 Kx fun g=>bFL (rgL<|hKL c<|rJ A1)<|zp<|z8 zl fun h=>⟨wrap .i64 (d+1),h,wk A1⟩)<|xjL<|jCL A1) fun i=>rgL<|rKL A1
def Xk (n:Nat)(a0:Cn):Option Bool:=
 (XU n a0 ([64]:Cn)).bind fun a=>
 (if a.2.2=true then(if decide ((a0.length:Int)≤128)then((YD n a.1).bind fun b=>
 if b then((Zz n a.2.1).bind fun c=>
 some c)else(some false))else(some false))else(some false)).bind fun d=>
 some d
theorem Bw {n a0 r}:Xk n a0=some r→AC mx 222 [qs a0] [] (qb r) []:=
 fnL Tryz.func222 rfl<|rgL<|bC 1 A1 QW fun d=>bEL fun a hE=>rgF hE ⟨26,[(2,qb a)]⟩ ⟨[],[]⟩ (gFL 2 13 (gFL 7 18 (bEL fun e b=>kCL 8 A1 (KP b)<|gFL 11 22 (bEL fun f c=>kCL 12 A1 (XK c)<|eJ A1)<|eJ A1)<|eJ A1)<|eJ A1)<|rKL A1
def jL (n:Nat)(a0 a1:Cn):Option (Cn×Bool):=
 (wx n a0 a1).bind fun a=>
 if !a then(some (a0,false))else((ssl a0 (a1.length:Int) (a0.length)).bind fun b=>
 some (b,true))
theorem pP {n a0 a1 r}:jL n a0 a1=some r→AC mx 277 [qs a0,qs a1] [] (.tuple [qs r.1,qb r.2]) []:=
 fnL Tryz.func277 rfl<|rgL<|bC 2 A1 ku fun a=>bFL (rgL<|rKL A1)<|bP 3 xc fun b=>rKL A1
def bY (n:Nat)(a0 a1:Cn):Option (Cn×Bool):=
 (jL n a0 a1).bind fun a=>
 some (a.1,a.2)
theorem VF {n a0 a1 r}:bY n a0 a1=some r→AC mx 255 [qs a0,qs a1] [] (.tuple [qs r.1,qb r.2]) []:=
 fnL Tryz.func255 rfl<|rgL<|bC 2 A1 pP fun a=>rKL A1
def Zn (n:Nat)(a0:Cn):Option Bool:=
 (bY n a0 ([42,46]:Cn)).bind fun a=>
 if a.2=true then((if decide ((a0.length:Int)≤128)then((Zz n a.1).bind fun b=>
 if b then((uq n a.1 ([46]:Cn)).bind fun c=>
 some c)else(some false))else(some false)).bind fun d=>
 some d)else((Zz n a0).bind fun e=>
 some e)
theorem Qf {n a0 r}:Zn n a0=some r→AC mx 224 [qs a0] [] (qb r) []:=
 fnL Tryz.func224 rfl<|rgL<|bC 1 A1 VF fun d=>rgL<|bFL (bEL fun a hE=>rgF hE ⟨24,[(2,qb a)]⟩ ⟨[],[]⟩ (gFL 4 14 (bEL fun e b=>kCL 5 A1 (XK b)<|gFL 8 18 (bEL fun f c=>kCL 9 A1 (ZY c)<|eJ A1)<|eJ A1)<|eJ A1)<|rKL A1)<|bC 1 A1 XK fun g=>rKL A1
def Zk (n:Nat)(a0:Cn):Option Bool:=
 (if(a0.length:Int)==4 then(some true)else(some ((a0.length:Int)==16))).bind fun a=>
 some a
theorem JT {n a0 r}:Zk n a0=some r→AC mx 226 [qs a0] [] (qb r) []:=
 fnL Tryz.func226 rfl<|rgL<|bEL fun a hE=>rgF hE ⟨11,[(2,qb a)]⟩ ⟨[],[]⟩ (gFL 4 6 (eJ A1)<|eJ A1)<|rKL A1
def vf (n:Nat)(a0:Int)(a1:Cn)(a2:Bool):Option Bool:=
 if a0==0 then((if a2 then(none)else(if !a2 then((Xk n a1).bind fun a=>
 some a)else(some false))).bind fun b=>
 some b)else(if a0==1 then((if a2 then(none)else(if !a2 then((Zn n a1).bind fun c=>
 some c)else(some false))).bind fun d=>
 some d)else(if a0==3 then((if a2 then(none)else(if !a2 then((Zk n a1).bind fun e=>
 some e)else(some false))).bind fun f=>
 some f)else(some false)))
theorem VX {n a0 a1 a2 r}:vf n a0 a1 a2=some r→AC mx 171 [qi a0,qs a1,qb a2] [] (qb r) []:=
 fnL Tryz.func171 rfl<|rgL<|rgL<|zo<|rgL<|bFL (bEL fun a hE=>rgF hE ⟨53,[(6,qb a)]⟩ ⟨[],[]⟩ (gFL 2 11 nEL<|gFL 9 18 (bEL fun g b=>kCL 10 A1 (Bw b)<|eJ A1)<|eJ A1)<|ya<|yf<|rJ A1)<|rgL<|bFL (bEL fun c hE=>rgF hE ⟨53,[(6,qb c)]⟩ ⟨[],[]⟩ (gFL 2 26 nEL<|gFL 9 33 (bEL fun i d=>kCL 10 A1 (Qf d)<|eJ A1)<|eJ A1)<|ya<|yf<|rJ A1)<|rgL<|bFL (bEL fun e hE=>rgF hE ⟨53,[(6,qb e)]⟩ ⟨[],[]⟩ (gFL 2 41 nEL<|gFL 9 48 (bEL fun j f=>kCL 10 A1 (JT f)<|eJ A1)<|eJ A1)<|ya<|yf<|rJ A1)<|zp<|rgL<|rKL A1
def wT (n:Nat)(a0:zc)(a1:Bool):Option Int:=
 (YU n a0.zG).bind fun a=>
 if a==4 then(some 14)else(if a==2 then(if !(a0.yl==([]:Cn))then(some 14)else((jU n (zv.mk a0.zt.zh)).bind fun b=>
 some b))else((if decide ((a0.zt.zh.length:Int)>0)then(some true)else((vf n a a0.yl a1).bind fun c=>
 some (!c))).bind fun d=>
 if d then(some 14)else(some 0)))
theorem Z5 {n a0 a1 r}:wT n a0 a1=some r→AC mx 111 [.agg (zc.cells a0),qb a1] [] (qi r) []:=
 fnL Tryz.func111 rfl<|rgL<|bC 2 A2 Gi fun c=>rgL<|zo<|rgL<|bFL (rgL<|ya<|yf<|rJ A2)<|rgL<|bFL (rgL<|bFL (rgL<|ya<|yf<|rJ A2)<|bC 2 A2 gc fun d=>ya<|yf<|rJ A2)<|bEL fun a hE=>rgF hE ⟨33,[(22,qb a)]⟩ ⟨[],[]⟩ (kPL 3 (ga a0.zt.zh)<|gFL 6 15 (eJ A2)<|bEL fun e b=>kCL 10 A2 (VX b)<|eJ A2)<|bFL (rgL<|ya<|yf<|rJ A1)<|zp<|rgL<|rKL A1
def bU (n:Nat)(a0:zb)(a1:Bool):Option (zc×Int):=
 yb ((if a0.zF==129 then(some (a0.zF==129))else(if a0.zF==130 then(some (a0.zF==130))else(some (a0.zF==135)))).bind fun d=>
 if d then(some (.nxt (wrap .i64 (a0.zF-128),a0.zd,([]:List (List za)))))else(if a0.zF==164 then((dN n a0.zd).bind fun b=>
 if b.2 !=0 then(some (.ret ((zc.mk 0 ([]:Cn) (zv.mk ([]:List (List za)))),b.2)))else(some (.nxt (4,([]:Cn),b.1.zh))))else(some (.ret ((zc.mk 0 ([]:Cn) (zv.mk ([]:List (List za)))),5))))) (fun r=>some r) (fun a=>
 (wT n (zc.mk a.1 a.2.1 (zv.mk a.2.2)) a1).bind fun c=>
 if c !=0 then(some ((zc.mk 0 ([]:Cn) (zv.mk ([]:List (List za)))),c))else(some ((zc.mk a.1 a.2.1 (zv.mk a.2.2)),0)))
theorem J1 {n a0 a1 r}:bU n a0 a1=some r→AC mx 202 [.agg (zb.cells a0),qb a1] [] (.tuple [.agg (zc.cells r.1),qi r.2]) []:=
 fnL Tryz.func202 rfl<|rgL<|rgL<|rgL<|bcL (fun a=>⟨47,[(1,qb a1),(4,qp 0),(6,qp 1)]⟩) (fun a=>⟨[[qi 0,qs [],qn],[qi a.1,qs a.2.1,ql 1 (cL 3 za.cells) a.2.2]],[]⟩) (fun e c=>rgL<|cuL (fun b=>⟨47,[(1,qb a1),(2,qp 0),(4,qp 1),(6,qp 2),(11,qi a0.zF),(13,qb b)]⟩) (fun b=>⟨[zb.cells a0,[qi 0,qs [],qn],[qi 0,qs [],qn]],[]⟩) (fun b=>bFL (jnL Ac)<|rgL<|bFL (jnL Ac)<|z8 zl<|jnL Ac) fun b=>bFL (lfL (fun z=>zmN zX [0,1,2,3,4,5,6,7,8] [6,8] [[],[0],[0,1],[],[3],[0,1,2],[0,1,2,5],[0,1,2,3,4,5,6],[0,1,2,3,4,5,6,7]] [] [(1,qb a1),(4,qp 0),(6,qp 1)] ⟨[[qi 0,qs [],qn],[qi (wrap .i64 (a0.zF-128)),qs a0.zd,qn]],[]⟩ (dS (zx 0 6)<|dF zW<|dS [7]<|dF zW<|dE Az) z)<|jCL A5)<|rgL<|bFL (bC 2 A8 XV fun d=>rgL<|bFL (rgL<|ya<|hvL c<|yn<|rJ Ae)<|lfL (fun z=>zmN zX [0,1,2,3,4] [2,4] [[],[],[1],[0,1,2],[0,1,2,3]] [] [(1,qb a1),(4,qp 0),(6,qp 1)] ⟨[[qi 0,qs [],qn],[qi 4,qs [],ql 1 (cL 3 za.cells) d.1.zh]],[]⟩ (dS [0,1]<|dF zW<|dS [3]<|dF zW<|dE ⟨[1,2],4,[],0⟩) z)<|jCL A5)<|rgL<|ya<|hvL c<|yn<|rJ A8) fun a=>bC 2 A4 Z5 fun f=>rgL<|bFL (rgL<|rKL A4)<|rgL<|rKL A4
def wS (n:Nat) (b:((List zb)×Int)):Nat→(List zc)→Int→Option (Ctl ((List zc)×Int) (List zc))
 |0,_,_=>none
 | k+1,d,c=>
  if decide (c<(b.1.length:Int))then((zM b.1 c).bind fun e=>
  (bU n e false).bind fun a=>
  if a.2 !=0 then(some (.ret (([]:List zc),a.2)))else((jR 48 d ([(zc.mk a.1.zG a.1.yl (zv.mk a.1.zt.zh))]:List zc)).bind fun f=>
  wS n b k f (wrap .i64 (c+1))))else(some (.nxt d))
def ur (n:Nat)(a0:Cn):Option ((List zc)×Int):=
 (bb n a0).bind fun a=>
 if a.2 !=0 then(some (([]:List zc),a.2))else((gQ n (a.1.length:Int)).bind fun b=>
 if b !=0 then(some (([]:List zc),b))else(yb (wS n a n ([]:List zc) 0) (fun r=>some r) (fun c=>
 some (c,0))))
theorem Uf {n a0 r}:ur n a0=some r→AC mx 146 [qs a0] [] (.tuple [ql 3 zc.cells r.1,qi r.2]) []:=
 fnL Tryz.func146 rfl<|rgL<|bC 1 A1 bp fun a=>rgL<|bFL (rgL<|rKL A1)<|bEL fun j c=>rCL (kPL 1 (xF a.1)<|kCL 2 A1 (WW c) edL)<|rgL<|bFL (rgL<|rKL A1)<|rgL<|cP 1 (xF a.1)<|bcL (fun b=>⟨46,[(7, .sl 3 (List.map zc.cells b) (.fam 0 (b.length)))]⟩) (fun b=>⟨[],[b.length]⟩) (fun l d=>yV (wk (fr':=⟨46,[(7,qn),(26,ql 3 zb.cells a.1),(27,qi (a.1.length)),(28,qi 0)]⟩) (st':=⟨[],[]⟩) A1)<|yV Wk.nilFam<|lpL (fun k x=>wS n a k x.1 x.2) (([]:List zc),0) A6 (fun x=>⟨46,[(7, .sl 3 (List.map zc.cells x.1) (.fam 0 (x.1.length))),(26,ql 3 zb.cells a.1),(27,qi (a.1.length)),(28,qi x.2)]⟩) (fun x=>⟨[],[x.1.length]⟩) fun k x=>by obtain⟨m,f⟩:=x; rw [wS]; exact rgL<|bFL (zo<|bP 0 yN fun o=>bC 1 Aj J1 fun s=>rgL<|bFL (rgL<|hKL d<|rJ Ao)<|bEL fun g i=>xo zJ (lfL (fun z=>kA 3 0 zc.cells (e:=59) (e2:=59) (sz:=3) (bytes:=48) (b2:=48) (tok2:= .exact) i z) edL)<|zp<|z8 zl fun h=>⟨(g,wrap .i64 (f+1)),h,wk Cg⟩)<|xjL<|jCL A6) fun b=>rgL<|rKL Aa
def qx (n:Nat)(a0:Cn):Nat→Int→Int→Option Int
 |0,_,_=>none
 | k+1,b,a=>
  if decide (a<(wrap .i64 ((a0.length:Int)-1)))then((yr a0 (wrap .i64 (a+1))).bind fun c=>
  qx n a0 k (ior .i64 (wrap .i64 (b*256)) (wrap .i64 c)) (wrap .i64 (a+1)))else(some b)
def bS (n:Nat)(a0:Cn):Option (Int×Int):=
 (if a0==([]:Cn)then(some true)else(if decide ((a0.length:Int)>1)then((yr a0 0).bind fun a=>
 if a==0 then((yr a0 1).bind fun b=>
 if decide (b<128)then(some true)else((yr a0 0).bind fun c=>
 if c==255 then((yr a0 1).bind fun d=>
 some (decide (d≥128)))else(some false)))else((yr a0 0).bind fun e=>
 if e==255 then((yr a0 1).bind fun f=>
 some (decide (f≥128)))else(some false)))else(some false))).bind fun g=>
 if g then(some (0,7))else(if decide ((a0.length:Int)>8)then(some (0,1))else((yr a0 0).bind fun i=>
 (qx n a0 n (wrap .i64 (wrap .i8 i)) 0).bind fun j=>
 some (j,0)))
theorem Qa {n a0 r}:bS n a0=some r→AC mx 203 [qs a0] [] (.tuple [qi r.1,qi r.2]) []:=
 fnL Tryz.func203 rfl<|rgL<|bEL fun b hE=>rgF hE ⟨56,[(0,qs a0),(32,qb b)]⟩ ⟨[],[]⟩ (gFL 3 8 (eJ A1)<|gFL 7 12 (bEL fun u c=>kPL 8 (zS c)<|gFL 11 16 (bEL fun v d=>kPL 12 (zS d)<|gFL 16 21 (eJ A1)<|bEL fun w e=>kPL 17 (zS e)<|gFL 20 25 (bEL fun A f=>kPL 21 (zS f)<|eJ A1)<|eJ A1)<|bEL fun B g=>kPL 17 (zS g)<|gFL 20 25 (bEL fun C i=>kPL 21 (zS i)<|eJ A1)<|eJ A1)<|eJ A1)<|bFL (rgL<|rKL A1)<|rgL<|bFL (rgL<|rKL A1)<|bP 1 zS fun j=>rgL<|blL (fun a=>⟨56,[(4,qi a)]⟩) (fun a=>⟨[],[]⟩) (fun a=>lpL (fun k x=>qx n a0 k x.1 x.2) (wrap .i64 (wrap .i8 j),0) A1 (fun x=>⟨56,[(0,qs a0),(4,qi x.1),(42,qi (wrap .i64 ((a0.length:Int)-1))),(43,qi x.2)]⟩) (fun x=>⟨[],[]⟩) fun k x=>by obtain⟨l,m⟩:=x; rw [qx]; exact rgL<|bFL (zo<|rgL<|bEL fun o s=>xo zJ (kPL 5 (zS s) edL)<|zp<|z8 zl fun h=>⟨(ior .i64 (wrap .i64 (l*256)) (wrap .i64 o),wrap .i64 (m+1)),h,wk A1⟩)<|xjL<|jnL A1) fun a=>rgL<|rKL A1
def xH (n:Nat)(a1:Int)(m0:zu):Option (Int×zu):=
 (yA n m0).bind fun a=>
 (bS n a.1.zd).bind fun b=>
 (zR n b.2 a.2).bind fun c=>
 (if c.yp=true then(some true)else(some (a.1.zF !=a1))).bind fun d=>
 some (b.1,(zu.mk c.f_l d))
theorem js {n a1 m0 r}:xH n a1 m0=some r→AC mx 147 [qp 0,qi a1] [zu.cells m0] (qi r.1) [zu.cells r.2]:=
 fnL Tryz.func147 rfl<|rgL<|bC 1 A3 xS fun d=>bC 2 A4 Qa fun a=>bC 2 A7 xD fun b=>bEL fun c hE=>rgF hE ⟨33,[(6,qi a.1)]⟩ ⟨[[ql 3 zb.cells b.f_l,qb c]],[]⟩ (gFL 6 24 (eJ A7)<|eJ A7)<|rgL<|rKL A3
def vM (n:Nat)(a0:zb):Option Int:=
 if a0.zF !=48 then(some 5)else((bb n a0.zd).bind fun a=>
 if a.2 !=0 then(some a.2)else(if(a.1.length:Int)==0 then(some 3)else((zM a.1 0).bind fun c=>
 if c.zF !=6 then(some 5)else((zM a.1 0).bind fun d=>
 (yw n d.zd).bind fun b=>
 if b.2 !=0 then(some b.2)else((if !(b.1==([49,46,51,46,54,46,49,46,52,46,49,46,53,56,56,56,56,46,49,46,49]:Cn))then(some true)else(some (decide ((a.1.length:Int)>1)))).bind fun e=>
 if e then(some 16)else(some 0))))))
theorem Xd {n a0 r}:vM n a0=some r→AC mx 249 [.agg (zb.cells a0)] [] (qi r) []:=
 fnL Tryz.func249 rfl<|rgL<|rgL<|bFL (rgL<|rKL A2)<|bC 2 A2 bp fun a=>rgL<|bFL (rgL<|rKL A2)<|cP 1 (xF a.1)<|bFL (rgL<|rKL A2)<|bP 1 yN fun e=>bFL (rgL<|rKL A2)<|bEL fun f b=>bEL fun g c=>rCL (kPL 1 (yN b)<|kCL 4 A2 (pA c) edL)<|rgL<|bFL (rgL<|rKL A2)<|bEL fun d hE=>rgF hE ⟨44,[(43,qb d)]⟩ ⟨[],[]⟩ (gFL 3 39 (eJ A2)<|kPL 4 (xF a.1)<|eJ A2)<|bFL (rgL<|rKL A1)<|rgL<|rKL A1
def jG (n:Nat)(a1:zb)(m0:yE):Option (Int×yE):=
 (vM n a1).bind fun a=>
 some (a,(yE.mk (zB.mk m0.pW.zA m0.pW.wj m0.pW.zY)))
theorem Yt {n a1 m0 r}:jG n a1 m0=some r→AC mx 217 [qp 0, .agg (zb.cells a1)] [yE.cells m0] (qi r.1) [yE.cells r.2]:=
 fnL Tryz.func217 rfl<|rgL<|bC 1 A4 Xd fun a=>rKL A7
def km (n:Nat)(a0:zB):Option Int:=
 (if decide (a0.zA<0)then(some true)else(if decide (a0.zA>8)then(some true)else(if(a0.wj.length:Int) !=16 then(some true)else(some ((a0.zY.length:Int) !=16))))).bind fun a=>
 if a then(some 18)else(some 0)
theorem Zq {n a0 r}:km n a0=some r→AC mx 112 [.agg (zB.cells a0)] [] (qi r) []:=
 fnL Tryz.func112 rfl<|rgL<|bEL fun a hE=>rgF hE ⟨23,[(22,qb a)]⟩ ⟨[],[]⟩ (gFL 4 6 (eJ A2)<|gFL 9 11 (eJ A2)<|gFL 15 17 (eJ A2)<|eJ A2)<|bFL (rgL<|rKL A1)<|rgL<|rKL A1
def kQ (n:Nat)(a1:zb)(m0:yE):Option (Int×yE):=
 if a1.zF !=3 then(some (5,(yE.mk (zB.mk m0.pW.zA m0.pW.wj m0.pW.zY))))else((kD n a1.zd).bind fun a=>
 if a.2.2 !=0 then(some (a.2.2,(yE.mk (zB.mk m0.pW.zA m0.pW.wj m0.pW.zY))))else((if a.2.1 !=0 then(some true)else(some ((a.1.length:Int) !=33))).bind fun e=>
 if e then(some (18,(yE.mk (zB.mk m0.pW.zA m0.pW.wj m0.pW.zY))))else((yr a.1 0).bind fun b=>
 (ssl a.1 1 17).bind fun c=>
 (ssl a.1 17 (a.1.length)).bind fun d=>
 (km n (zB.mk (wrap .i64 b) c d)).bind fun f=>
 some (f,(yE.mk (zB.mk (wrap .i64 b) c d))))))
theorem WC {n a1 m0 r}:kQ n a1 m0=some r→AC mx 218 [qp 0, .agg (zb.cells a1)] [yE.cells m0] (qi r.1) [yE.cells r.2]:=
 fnL Tryz.func218 rfl<|rgL<|rgL<|bFL (rgL<|rKL A7)<|bC 2 A4 Uh fun d=>rgL<|bFL (rgL<|rKL A7)<|bEL fun e hE=>rgF hE ⟨44,[(0,qp 0),(5,qs d.1),(27,qb e)]⟩ ⟨[yE.cells m0],[]⟩ (gFL 3 23 (eJ A7)<|eJ A7)<|bFL (rgL<|rKL A3)<|bEL fun f a=>bEL fun g b=>bEL fun i c=>lfL (fun z=>zm [0,1,2,3,4,5,6,7,8,9,10,11] [11] [[],[],[1],[1,2],[],[4],[],[6],[1,2,3,4,5,6,7],[0,1,2,3,4,5,6,7,8],[0,1,2,3,4,5,6,7,8,9],[0,1,2,3,4,5,6,7,8,9,10]] [] [(0,qp 0)] ⟨[[qi (wrap .i64 f),qs g,qs i]],[]⟩ (dS [0,1]<|dP (zS a)<|dS [3,4]<|dP (zO b)<|dS [6]<|dP (xc c)<|dS [8,9,10]<|dF (zr 7 (xc c) (zr 5 (zO b) (zr 2 (zS a) zW)))<|dE A3) z)<|bC 4 A2 Zq fun j=>rKL A3
def jQ (n:Nat)(a0:Cn):Option (zB×Int):=
 (pp n a0).bind fun d=>
 if d.2 !=0 then(some ((zB.mk 0 ([]:Cn) ([]:Cn)),d.2))else(if d.1.zF !=48 then(some ((zB.mk 0 ([]:Cn) ([]:Cn)),5))else((bb n d.1.zd).bind fun a=>
 if a.2 !=0 then(some ((zB.mk 0 ([]:Cn) ([]:Cn)),a.2))else(if(a.1.length:Int)==0 then(some ((zB.mk 0 ([]:Cn) ([]:Cn)),3))else((zM a.1 0).bind fun f=>
 (jG n f (yE.mk (zB.mk 0 ([]:Cn) ([]:Cn)))).bind fun b=>
 if b.1 !=0 then(some ((zB.mk 0 ([]:Cn) ([]:Cn)),b.1))else((lsl a.1 1 (a.1.length)).bind fun e=>
 if(e.length:Int)==0 then(some ((zB.mk 0 ([]:Cn) ([]:Cn)),3))else((zM e 0).bind fun g=>
 (kQ n g (yE.mk (zB.mk b.2.pW.zA b.2.pW.wj b.2.pW.zY))).bind fun c=>
 if c.1 !=0 then(some ((zB.mk 0 ([]:Cn) ([]:Cn)),c.1))else((lsl e 1 (e.length)).bind fun i=>
 if decide ((i.length:Int)>0)then(some ((zB.mk 0 ([]:Cn) ([]:Cn)),4))else(some ((zB.mk c.2.pW.zA c.2.pW.wj c.2.pW.zY),0)))))))))
theorem UL {n a0 r}:jQ n a0=some r→AC mx 167 [qs a0] [] (.tuple [.agg (zB.cells r.1),qi r.2]) []:=
 fnL Tryz.func167 rfl<|rgL<|rgL<|bC 1 A4 p6 fun l=>rgL<|bFL (rgL<|rKL A8)<|rgL<|bFL (rgL<|rKL A8)<|bC 2 A8 bp fun a=>rgL<|bFL (rgL<|rKL A8)<|rgL<|rgL<|zo<|yV (wk (fr':=⟨63,[(2,qp 0),(4,qp 1),(7,ql 3 zb.cells a.1),(8,qp 2),(35, .sl 1 [[.func (.func 217) [] []],[.func (.func 218) [] []]] .exact),(36,qi 2),(37,qi 0)]⟩) (st':=⟨[[qi 0,qs [],qs []],[qi 0,qs [],qs []],[qi 0,qs [],qs []]],[]⟩) ⟨[0,1,3],4,[],0⟩)<|lfL (fun z=>Gd 12 z)<|GX<|rgL<|bTL<|zo<|rgL<|cP 1 (xF a.1)<|bFL (rgL<|ya<|yf<|wo<|yf<|rJ A8)<|bEL fun m b=>bEL fun o c=>rCL (kPL 2 (yN b)<|kCL 4 Aw (Yt c) edL)<|rgL<|bFL (rgL<|ya<|yf<|wo<|yf<|rJ A8)<|bEL fun d e=>xo zJ (kPL 1 (Ql e) edL)<|zp<|z8 VK<|XG<|rgL<|bTL<|zo<|rgL<|cP 1 (xF d)<|bFL (rgL<|ya<|yf<|wo<|yf<|rJ A8)<|bEL fun s f=>bEL fun u g=>rCL (kPL 2 (yN f)<|kCL 4 Aw (WC g) edL)<|rgL<|bFL (rgL<|ya<|yf<|wo<|yf<|rJ A8)<|bEL fun i j=>xo zJ (kPL 1 (Ql j) edL)<|zp<|z8 VK<|XG<|rgL<|bNL<|bW<|XW<|UJ<|cP 1 (xF i)<|bFL (rgL<|rKL A8)<|rgL<|rKL A8
def xg (n:Nat):Nat→(List ze)→(List zb)→Bool→(List zb)→Bool→Option ((List ze)×(List zb)×Bool×(List zb)×Bool)
 |0,_,_,_,_,_=>none
 | k+1,d,e,f,a,g=>
  if decide ((a.length:Int)>0)then((yA n (zu.mk a g)).bind fun b=>
  (qr n b.1).bind fun o=>
  (yA n o).bind fun i=>
  (dN n i.1.uE).bind fun j=>
  (zR n j.2 (zu.mk e f)).bind fun s=>
  (yA n i.2).bind fun c=>
  (jQ n c.1.uE).bind fun l=>
  (zR n l.2 s).bind fun m=>
  (if m.yp=true then(some true)else(if c.2.yp=true then(some true)else(some (decide ((c.2.f_l.length:Int)>0))))).bind fun u=>
  (jR 64 d ([(ze.mk j.1 l.1)]:List ze)).bind fun v=>
  xg n k v m.f_l u b.2.f_l b.2.yp)else(some (d,e,f,a,g))
def u7 (n:Nat)(a1:Cn)(m0:zu):Option ((List ze)×zu):=
 (uY n a1).bind fun b=>
 (xg n  n ([]:List ze) m0.f_l m0.yp b.f_l b.yp).bind fun a=>
 (if a.2.2.1=true then(some true)else(some a.2.2.2.2)).bind fun c=>
 some (a.1,(zu.mk a.2.1 c))
theorem WF {n a1 m0 r}:u7 n a1 m0=some r→AC mx 107 [qp 0,qs a1] [zu.cells m0] (ql 4 ze.cells r.1) [zu.cells r.2]:=
 fnL Tryz.func107 rfl<|rgL<|rgL<|bC 1 A2 pN fun b=>blL (fun a=>⟨83,[(0,qp 0),(5, .sl 4 (List.map ze.cells a.1) (.fam 0 (a.1.length))),(6,qp 1)]⟩) (fun a=>⟨[[ql 3 zb.cells a.2.1,qb a.2.2.1],[ql 3 zb.cells a.2.2.2.1,qb a.2.2.2.2]],[a.1.length]⟩) (fun a=>yV (wk (fr':=⟨83,[(0,qp 0),(5,qn),(6,qp 1)]⟩) (st':=⟨[zu.cells m0,zu.cells b],[]⟩) A5)<|yV Wk.nilFam<|lpL (fun k x=>xg n  k x.1 x.2.1 x.2.2.1 x.2.2.2.1 x.2.2.2.2) (([]:List ze),m0.f_l,m0.yp,b.f_l,b.yp) Ap (fun x=>⟨83,[(0,qp 0),(5, .sl 4 (List.map ze.cells x.1) (.fam 0 (x.1.length))),(6,qp 1)]⟩) (fun x=>⟨[[ql 3 zb.cells x.2.1,qb x.2.2.1],[ql 3 zb.cells x.2.2.2.1,qb x.2.2.2.2]],[x.1.length]⟩) fun k x=>by obtain⟨c,E,F,i,G⟩:=x; rw [xg]; exact cP 4 (xF i)<|bFL (zo<|bEL fun d j=>bEL fun H l=>rCL (kCL 1 Cf (xS j)<|kCL 2 Ao (gH l) edL)<|bEL fun I m=>bEL fun o s=>rCL (kCL 1 ⟨[2],3,[],1⟩ (xS m)<|kCL 3 Al (XV s) edL)<|bC 2 C5 xD fun J=>bEL fun u v=>bEL fun w A=>rCL (kCL 1 ⟨[2],4,[],1⟩ (xS v)<|kCL 3 C4 (UL A) edL)<|bC 2 ⟨[0],5,[],1⟩ xD fun f=>bEL fun g hE=>rgF hE ⟨83,[(0,qp 0),(5, .sl 4 (List.map ze.cells c) (.fam 0 (c.length))),(6,qp 1),(8,qp 2),(10,qp 3)]⟩ ⟨[[ql 3 zb.cells f.f_l,qb g],zu.cells d.2,[ql 1 (cL 3 za.cells) o.1.zh],zB.cells w.1],[c.length]⟩ (gFL 6 47 (eJ Ch)<|gFL 12 53 (eJ Ch)<|kPL 16 (xF u.2.f_l)<|eJ Ch)<|bEL fun B C=>xo (j3 (P:=Tryz.prog) (gl:=gl0 mx) zl) (lfL (fun z=>kA 5 0 ze.cells (e:=68) (e2:=68) (sz:=4) (bytes:=64) (b2:=64) (tok2:= .exact) C z) edL)<|zp fun h=>⟨(B,f.f_l,g,d.2.f_l,d.2.yp),h,wk ⟨[0,1],4,[0],1⟩⟩)<|xjL<|jnL Ap) fun a=>bEL fun D hE=>rgF hE ⟨83,[(5, .sl 4 (List.map ze.cells a.1) (.fam 0 (a.1.length)))]⟩ ⟨[[ql 3 zb.cells a.2.1,qb D]],[a.1.length]⟩ (gFL 6 74 (eJ C3)<|eJ C3)<|rgL<|rKL Ax
def jE (n:Nat)(m0:zu):Option (zz×zu):=
 (yA n m0).bind fun l=>
 (yG n l.1.zF l.1.zd).bind fun m=>
 (zR n m.2 l.2).bind fun I=>
 (yR n 128 I).bind fun a=>
 (if a.2.1=true then((yw n a.1.zd).bind fun B=>
 (zR n B.2 a.2.2).bind fun C=>
 some (C.f_l,C.yp,B.1))else(some (a.2.2.f_l,a.2.2.yp,([]:Cn)))).bind fun e=>
 (yR n 129 (zu.mk e.1 e.2.1)).bind fun b=>
 (if b.2.1=true then((jp n b.1.zd).bind fun D=>
 (zR n D.2 b.2.2).bind fun E=>
 some (E.f_l,E.yp,D.1))else(some (b.2.2.f_l,b.2.2.yp,0))).bind fun f=>
 (yR n 162 (zu.mk f.1 f.2.1)).bind fun c=>
 (if c.2.1=true then((ve n c.1.zd c.2.2).bind fun o=>
 some (o.2.f_l,o.2.yp,o.1))else(some (c.2.2.f_l,c.2.2.yp,([]:List Cn)))).bind fun g=>
 (vd n 131 (zu.mk g.1 g.2.1)).bind fun s=>
 (vd n 132 s.2).bind fun u=>
 (vd n 133 u.2).bind fun v=>
 (yR n 166 v.2).bind fun d=>
 (if d.2.1=true then((ur n d.1.zd).bind fun F=>
 (zR n F.2 d.2.2).bind fun G=>
 some (G.f_l,G.yp,F.1))else(some (d.2.2.f_l,d.2.2.yp,([]:List zc)))).bind fun i=>
 (xH n 2 (zu.mk i.1 i.2.1)).bind fun w=>
 (vd n 135 w.2).bind fun A=>
 (yR n 168 A.2).bind fun j=>
 if j.2.1=true then((u7 n j.1.zd j.2.2).bind fun H=>
 some ((zz.mk m.1 e.2.2 f.2.2 g.2.2 s.1 u.1 v.1 i.2.2 w.1 A.1 H.1),H.2))else(some ((zz.mk m.1 e.2.2 f.2.2 g.2.2 s.1 u.1 v.1 i.2.2 w.1 A.1 ([]:List ze)),j.2.2))
theorem VG {n m0 r}:jE n m0=some r→AC mx 72 [qp 0] [zu.cells m0] (.agg (zz.cells r.1)) [zu.cells r.2]:=
 fnL Tryz.func72 rfl<|rgL<|rgL<|rgL<|bC 1 Ab xS fun s=>bC 4 Ae Ka fun e=>bC 2 Ar xD fun u=>bC 1 Ar vu fun v=>rgL<|cuL (fun a=>⟨116,[(0,qp 0),(2,qp 1),(3,qp 2)]⟩) (fun a=>⟨[[ql 3 zb.cells a.1,qb a.2.1],[qi 0,qs [],qi 0,qn,qb false,qb false,qb false,qn,qi 0,qb false,qn],[qi e.1,qs a.2.2,qi 0,qn,qb false,qb false,qb false,qn,qi 0,qb false,qn]],[]⟩) (fun a=>bFL (bC 2 Ak pA fun w=>bEL fun A f=>xo zl (kCL 2 ⟨[0],5,[],0⟩ (xD f) edL)<|jnL ⟨[0,1,2],5,[],0⟩)<|jnL ⟨[0,1,2],5,[],0⟩) fun a=>bC 1 Ab vu fun B=>rgL<|cuL (fun b=>⟨116,[(0,qp 0),(2,qp 1),(3,qp 2)]⟩) (fun b=>⟨[[ql 3 zb.cells b.1,qb b.2.1],[qi 0,qs [],qi 0,qn,qb false,qb false,qb false,qn,qi 0,qb false,qn],[qi e.1,qs a.2.2,qi b.2.2,qn,qb false,qb false,qb false,qn,qi 0,qb false,qn]],[]⟩) (fun b=>bFL (bC 2 Ae KI fun C=>bEL fun D g=>xo zl (kCL 2 Ar (xD g) edL)<|jnL Ad)<|jnL Ad) fun b=>bC 1 Ab vu fun E=>rgL<|cuL (fun c=>⟨116,[(0,qp 0),(2,qp 1),(3,qp 2)]⟩) (fun c=>⟨[[ql 3 zb.cells c.1,qb c.2.1],[qi 0,qs [],qi 0,qn,qb false,qb false,qb false,qn,qi 0,qb false,qn],[qi e.1,qs a.2.2,qi b.2.2,ql 1 cS c.2.2,qb false,qb false,qb false,qn,qi 0,qb false,qn]],[]⟩) (fun c=>bFL (bEL fun F i=>xo zl (kCL 3 Ar (ZZ i) edL)<|jnL Ad)<|jnL Ad) fun c=>bC 1 Ab kK fun j=>bC 1 Ab kK fun l=>bC 1 Ab kK fun m=>bC 1 Ab vu fun G=>rgL<|cuL (fun d=>⟨116,[(0,qp 0),(2,qp 1),(3,qp 2)]⟩) (fun d=>⟨[[ql 3 zb.cells d.1,qb d.2.1],[qi 0,qs [],qi 0,qn,qb false,qb false,qb false,qn,qi 0,qb false,qn],[qi e.1,qs a.2.2,qi b.2.2,ql 1 cS c.2.2,qb j.1,qb l.1,qb m.1,ql 3 zc.cells d.2.2,qi 0,qb false,qn]],[]⟩) (fun d=>bFL (bC 2 Ae Uf fun H=>bEL fun I o=>xo zl (kCL 2 Ar (xD o) edL)<|jnL Ad)<|jnL Ad) fun d=>bC 1 Ab js fun J=>bC 1 Ab kK fun K=>bC 1 Ab vu fun L=>rgL<|bFL (bC 3 Ar WF fun M=>rgL<|rKL Ar)<|rgL<|rKL Ar
end Go.Abs
end
