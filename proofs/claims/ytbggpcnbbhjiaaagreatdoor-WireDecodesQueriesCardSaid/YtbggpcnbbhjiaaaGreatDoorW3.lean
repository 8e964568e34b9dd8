/- For each Go function: if its typed Lean form gives some result, the call returns that result (printed by a program of this hand). Condition: the typed form gives some result. -/
import Derived.Test.YtbggpcnbbhjiaaaGreatDoorW2
set_option linter.unusedVariables false
set_option linter.unusedSimpArgs false
set_option linter.unnecessarySimpa false
section
set_option maxRecDepth 100000
set_option maxHeartbeats 0
namespace Go.Abs
open Go Go.Proofs IntKind
variable {mx:Int}
def yT (n:Nat)(a0:zz):Nat→Int→(List (Cn×Bool))→Option (Ctl Int (List (Cn×Bool)))
 |0,_,_=>none
 | k+1,a,b=>
  if decide (a<(a0.zi.length:Int))then((zM a0.zi a).bind fun c=>
  (gi n c).bind fun d=>
  if !d then(some (.ret 11))else(yT n a0 k (wrap .i64 (a+1)) (J6 c true b)))else(some (.nxt b))
def xz (n:Nat)(a0:zz):Nat→Int→Option (Ctl Int Unit)
 |0,_=>none
 | k+1,a=>
  if decide (a<(a0.zy.length:Int))then((zM a0.zy a).bind fun b=>
  (wT n (zc.mk b.zG b.yl (zv.mk b.zt.zh)) false).bind fun c=>
  if c !=0 then(some (.ret c))else(xz n a0 k (wrap .i64 (a+1))))else(some (.nxt ()))
def xB (n:Nat)(a0:zz):Nat→Int→Option (Ctl Int Unit)
 |0,_=>none
 | k+1,b=>
  if decide (b<(a0.zg.length:Int))then((zM a0.zg b).bind fun a=>
  (jU n (zv.mk a.zt.zh)).bind fun c=>
  if c !=0 then(some (.ret c))else(if(a.zt.zh.length:Int)==0 then(some (.ret 14))else((km n (zB.mk a.zP.zA a.zP.wj a.zP.zY)).bind fun d=>
  if d !=0 then(some (.ret d))else(xB n a0 k (wrap .i64 (b+1))))))else(some (.nxt ()))
def vC (n:Nat)(a0:zz):Option Int:=
 (if decide (a0.uu<0)then(some true)else(some (decide (a0.uu>254033452799)))).bind fun a=>
 if a then(some 12)else((if !(a0.zC==([]:Cn))then((gi n a0.zC).bind fun b=>
 some (!b))else(some false)).bind fun c=>
 if c then(some 11)else((if decide (a0.yk<0)then(some true)else(if decide (a0.yk>511)then(some true)else(if decide (a0.ye<1)then(some true)else(some (decide (a0.ye>8)))))).bind fun d=>
 if d then(some 1)else((if decide ((a0.zi.length:Int)>8)then(some true)else(if decide ((a0.zy.length:Int)>16)then(some true)else(some (decide ((a0.zg.length:Int)>64))))).bind fun e=>
 if e then(some 2)else(yb (yT n a0 n 0 ([]:List (Cn×Bool))) (fun r=>some r) (fun f=>
 if decide ((f.length:Int)<(a0.zi.length:Int))then(some 10)else(yb (xz n a0 n 0) (fun r=>some r) (fun g=>
 yb (xB n a0 n 0) (fun r=>some r) (fun i=>
 some 0))))))))
theorem UM {n a0 r}:vC n a0=some r→AC mx 42 [.agg (zz.cells a0)] [] (qi r) []:=
 fnL Tryz.func42 rfl<|rgL<|zo<|bEL fun g hE=>rgF hE ⟨126,[(1,qp 0),(13,qb g)]⟩ ⟨[zz.cells a0],[]⟩ (gFL 4 17 (eJ A3)<|eJ A3)<|bFL (rgL<|ya<|yf<|rJ A2)<|bEL fun i hE=>rgF hE ⟨126,[(1,qp 0),(22,qb i)]⟩ ⟨[zz.cells a0],[]⟩ (gFL 4 26 (bEL fun B j=>kCL 6 A2 (Zg j)<|eJ A3)<|eJ A3)<|bFL (rgL<|ya<|yf<|rJ A2)<|bEL fun l hE=>rgF hE ⟨126,[(1,qp 0),(32,qb l)]⟩ ⟨[zz.cells a0],[]⟩ (gFL 4 36 (eJ A3)<|gFL 9 41 (eJ A3)<|gFL 14 46 (eJ A3)<|eJ A3)<|bFL (rgL<|ya<|yf<|rJ A2)<|bEL fun m hE=>rgF hE ⟨126,[(1,qp 0),(51,qb m)]⟩ ⟨[zz.cells a0],[]⟩ (kPL 2 (ue a0.zi)<|gFL 5 56 (eJ A3)<|kPL 7 (gg a0.zy)<|gFL 11 62 (eJ A3)<|kPL 13 (bZ a0.zg)<|eJ A3)<|bFL (rgL<|ya<|yf<|rJ A2)<|zp<|rgL<|cP 2 (ue a0.zi)<|bcL (fun a=>⟨126,[(1,qp 0),(3, .mapv 1)]⟩) (fun a=>⟨[zz.cells a0,[.mp (mpc vB a)]],[]⟩) (fun C o=>lpL (fun k x=>yT n a0 k x.1 x.2) (0,([]:List (Cn×Bool))) A5 (fun x=>⟨126,[(1,qp 0),(3, .mapv 1),(70,ql 1 cS a0.zi),(71,qi (a0.zi.length)),(72,qi x.1)]⟩) (fun x=>⟨[zz.cells a0,[.mp (mpc vB x.2)]],[]⟩) fun k x=>by obtain⟨s,d⟩:=x; rw [yT]; exact rgL<|bFL (zo<|bP 0 ww fun f=>bC 1 A4 Zg fun D=>bFL (rgL<|hKL o<|rJ A4)<|xo zJ (lfL (fun z=>kV 2 2 0 1 (zc0 (T:=tyT) (c:=vB) (e:=d) (k:=f) true (kt:=9) (et:=4) O8 (fun _=>rfl)) z) edL)<|zp<|z8 zl fun h=>⟨(wrap .i64 (s+1),J6 f true d),h,wk A5⟩)<|xjL<|jCL A5) fun a=>rCL (kPL 1 (zc5 (c:=vB) (e:=a))<|kPL 4 (ue a0.zi) edL)<|bFL (rgL<|rKL A4)<|cP 2 (gg a0.zy)<|bcL (fun _=>⟨126,[(1,qp 0)]⟩) (fun _=>⟨[zz.cells a0],[]⟩) (fun E u=>lpL (fun k x=>xz n a0 k x) 0 A7 (fun x=>⟨126,[(1,qp 0),(89,ql 3 zc.cells a0.zy),(90,qi (a0.zy.length)),(91,qi x)]⟩) (fun x=>⟨[zz.cells a0],[]⟩) fun k v=>by rw [xz]; exact rgL<|bFL (zo<|bP 0 vN fun F=>bC 1 A4 Z5 fun G=>rgL<|bFL (rgL<|hKL u<|rJ A4)<|zp<|z8 zl fun h=>⟨wrap .i64 (v+1),h,wk A7⟩)<|xjL<|jCL A3) fun H=>cP 2 (bZ a0.zg)<|bcL (fun _=>⟨126,[]⟩) (fun _=>⟨[],[]⟩) (fun I b=>lpL (fun k x=>xB n a0 k x) 0 A2 (fun x=>⟨126,[(102,ql 4 ze.cells a0.zg),(103,qi (a0.zg.length)),(104,qi x)]⟩) (fun x=>⟨[],[]⟩) fun k w=>by rw [xB]; exact rgL<|bFL (zo<|bP 0 jF fun A=>bC 2 A2 gc fun J=>rgL<|bFL (rgL<|hKL b<|rJ A2)<|cP 3 (ga A.zt.zh)<|bFL (rgL<|hKL b<|rJ A2)<|bC 2 A2 Zq fun K=>rgL<|bFL (rgL<|hKL b<|rJ A2)<|zp<|z8 zl fun h=>⟨wrap .i64 (w+1),h,wk A2⟩)<|xjL<|jCL A1) fun L=>rgL<|rKL A1
def bh (n:Nat)(a0:Int):Nat→Int→Option Int
 |0,_=>none
 | k+1,a=>
  (pw n (wrap .i64 (a+1))).bind fun b=>
  if decide (b≤(wrap .i64 (Int.tdiv a0 86400)))then(bh n a0 k (wrap .i64 (a+1)))else(some a)
def bn (n:Nat)(b:Int):Nat→Int→Int→Option (Int×Int)
 |0,_,_=>none
 | k+1,c,a=>
  (bt n b a).bind fun d=>
  if decide (c≥d)then((bt n b a).bind fun e=>
  bn n b k (wrap .i64 (c-e)) (wrap .i64 (a+1)))else(some (c,a))
def Yz (n:Nat)(a0:Int):Option (yg×Int):=
 (if decide (a0<0)then(some true)else(some (decide (a0>254033452799)))).bind fun c=>
 if c then(some ((yg.mk 0 0 0 0 0 0),1))else((bh n a0 n (wrap .i64 ((1950:Int)+(wrap .i64 (Int.tdiv (wrap .i64 (Int.tdiv a0 86400)) 366))))).bind fun a=>
 (pw n a).bind fun d=>
 (bn n a n (wrap .i64 ((wrap .i64 (Int.tdiv a0 86400))-d)) 1).bind fun b=>
 some ((yg.mk a b.2 (wrap .i64 (b.1+1)) (wrap .i64 (Int.tdiv (Int.tmod a0 86400) 3600)) (Int.tmod (wrap .i64 (Int.tdiv (Int.tmod a0 86400) 60)) 60) (Int.tmod (Int.tmod a0 86400) 60)),0))
theorem Ks {n a0 r}:Yz n a0=some r→AC mx 113 [qi a0] [] (.tuple [.agg (yg.cells r.1),qi r.2]) []:=
 fnL Tryz.func113 rfl<|rgL<|bEL fun c hE=>rgF hE ⟨57,[(0,qi a0),(2,qp 0),(13,qb c)]⟩ ⟨[[qi 0,qi 0,qi 0,qi 0,qi 0,qi 0]],[]⟩ (gFL 3 10 (eJ A3)<|eJ A3)<|bFL (rgL<|rKL A2)<|rgL<|rgL<|blL (fun a=>⟨57,[(2,qp 0),(4,qi (wrap .i64 (Int.tdiv a0 86400))),(5,qi (Int.tmod a0 86400)),(6,qi a)]⟩) (fun a=>⟨[[qi 0,qi 0,qi 0,qi 0,qi 0,qi 0]],[]⟩) (fun a=>lpL (fun k x=>bh n a0 k x) (wrap .i64 ((1950:Int)+(wrap .i64 (Int.tdiv (wrap .i64 (Int.tdiv a0 86400)) 366)))) A3 (fun x=>⟨57,[(2,qp 0),(4,qi (wrap .i64 (Int.tdiv a0 86400))),(5,qi (Int.tmod a0 86400)),(6,qi x)]⟩) (fun x=>⟨[[qi 0,qi 0,qi 0,qi 0,qi 0,qi 0]],[]⟩) fun k d=>by rw [bh]; exact bC 2 A2 ZM fun j=>bFL (zo<|z8 (j3 (P:=Tryz.prog) (gl:=gl0 mx) zl)<|zp fun h=>⟨wrap .i64 (d+1),h,wk A3⟩)<|xjL<|jnL A3) fun a=>bC 2 A2 ZM fun e=>rgL<|blL (fun b=>⟨57,[(2,qp 0),(4,qi b.1),(5,qi (Int.tmod a0 86400)),(6,qi a),(7,qi b.2)]⟩) (fun b=>⟨[[qi 0,qi 0,qi 0,qi 0,qi 0,qi 0]],[]⟩) (fun b=>lpL (fun k x=>bn n a k x.1 x.2) (wrap .i64 ((wrap .i64 (Int.tdiv a0 86400))-e),1) A3 (fun x=>⟨57,[(2,qp 0),(4,qi x.1),(5,qi (Int.tmod a0 86400)),(6,qi a),(7,qi x.2)]⟩) (fun x=>⟨[[qi 0,qi 0,qi 0,qi 0,qi 0,qi 0]],[]⟩) fun k x=>by obtain⟨f,g⟩:=x; rw [bn]; exact bC 3 A2 pf fun l=>bFL (zo<|bC 3 A2 pf fun i=>z8 (j3 (P:=Tryz.prog) (gl:=gl0 mx) zl)<|zp fun h=>⟨(wrap .i64 (f-i),wrap .i64 (g+1)),h,wk A3⟩)<|xjL<|jnL A3) fun b=>rgL<|rKL A2
def Z4 (n:Nat)(a2:Int):Nat→Nat→Int→(List Int)→Option (Nat×(List Int))
 |0,_,_,_=>none
 | k+1,a,b,c=>
  if decide (b<a2)then((Yd 1 a c ([48]:List Int)).bind fun d=>
  Z4 n a2 k (a+List.length ([48]:List Int)) (wrap .i64 (b+1)) d)else(some (a,c))
def ZU (n:Nat) (b:(Nat×(List Int))):Nat→Int→Int→(List Int)→Option (List Int)
 |0,_,_,_=>none
 | k+1,c,a,d=>
  if decide (a≥((0:Nat):Int))then((gu b.1 a).bind fun e=>
  (Wt d (e*1) (wrap .u8 (wrap .i64 ((48:Int)+(Int.tmod c 10))))).bind fun f=>
  ZU n b k (wrap .i64 (Int.tdiv c 10)) (wrap .i64 (a-1)) f)else(some d)
def ZH (n:Nat)(a1 a2:Int):Option (Nat×(List Int)):=
 (Z4 n a2 n 0 0 ([]:List Int)).bind fun a=>
 (ZU n a n a1 (wrap .i64 (((a.1:Nat):Int)-1)) a.2).bind fun b=>
 some (a.1,b)
theorem UT {n a1 a2 r}:ZH n a1 a2=some r→AC mx 114 [qn,qi a1,qi a2] [] (.own 0 r.1 1) [[.buf (List.map (vI .u8) r.2)]]:=
 fnL Tryz.func114 rfl<|yV (Wk.nilO 0 0 1 O8)<|yV (wk (fr':=⟨38,[(0, .own 0 0 1),(1,qi a1),(2,qi a2)]⟩) (st':=⟨[[.buf (List.map (vI .u8) ([]:List Int))]],[]⟩) A3)<|rgL<|rgL<|rgL<|blL (fun a=>⟨38,[(0, .own 0 a.1 1),(1,qi a1),(7,qi ((0:Nat):Int))]⟩) (fun a=>⟨[[.buf (List.map (vI .u8) a.2)]],[]⟩) (fun a=>lpL (fun k x=>Z4 n a2 k x.1 x.2.1 x.2.2) (0,0,([]:List Int)) A3 (fun x=>⟨38,[(0, .own 0 x.1 1),(1,qi a1),(2,qi a2),(7,qi ((0:Nat):Int)),(8,qi x.2.1)]⟩) (fun x=>⟨[[.buf (List.map (vI .u8) x.2.2)]],[]⟩) fun k x=>by obtain⟨f,i,j⟩:=x; rw [Z4]; exact rgL<|bFL (zo<|bEL fun m o=>xo zJ (lfL (fun z=>kV 2 1 0 0 (W2 (T:=tyT) (c:=(vI .u8)) (l:=j) (l2:=([48]:List Int)) (n:=f) (e:=5) (e2:=5) (bytes:=1) (b2:=1) (tok2:= .exact) O8 o) z) edL)<|zp<|z8 zl fun h=>⟨(f+List.length ([48]:List Int),wrap .i64 (i+1),m),h,wk A9⟩)<|xjL<|jnL A3) fun a=>rgL<|blL (fun d=>⟨38,[(0, .own 0 a.1 1)]⟩) (fun d=>⟨[[.buf (List.map (vI .u8) d)]],[]⟩) (fun d=>lpL (fun k x=>ZU n a k x.1 x.2.1 x.2.2) (a1,wrap .i64 (((a.1:Nat):Int)-1),a.2) A3 (fun x=>⟨38,[(0, .own 0 a.1 1),(1,qi x.1),(7,qi ((0:Nat):Int)),(9,qi x.2.1)]⟩) (fun x=>⟨[[.buf (List.map (vI .u8) x.2.2)]],[]⟩) fun k x=>by obtain⟨g,s,u⟩:=x; rw [ZU]; exact rgL<|bFL (zo<|bEL fun v w=>bEL fun A B=>rCL (kPL 6 (pb (id:=0) (e:=5) (sz:=1) (b:=1) w)<|lfL (fun z=>kV 7 1 0 0 (da (T:=tyT) (t:=5) (c:=(vI .u8)) (l:=u) (off:=(v*1)) (x:=wrap .u8 (wrap .i64 ((48:Int)+(Int.tmod g 10)))) (uI .u8) O8 B) z) edL)<|z8 zJ<|zp<|z8 zl fun h=>⟨(wrap .i64 (Int.tdiv g 10),wrap .i64 (s-1),A),h,wk A3⟩)<|xjL<|jnL A3) fun d=>rgL<|rKL A3
def jD (n:Nat)(a2:Int):Nat→Nat→Int→(List Int)→Option (Nat×(List Int))
 |0,_,_,_=>none
 | k+1,a,b,c=>
  if decide (b<a2)then((Yd 1 a c ([48]:List Int)).bind fun d=>
  jD n a2 k (a+List.length ([48]:List Int)) (wrap .i64 (b+1)) d)else(some (a,c))
def qj (n:Nat) (a0:Nat) (b:(Nat×(List Int))):Nat→Int→Int→(List Int)→Option (List Int)
 |0,_,_,_=>none
 | k+1,c,a,d=>
  if decide (a≥((a0:Nat):Int))then((gu b.1 a).bind fun e=>
  (Wt d (e*1) (wrap .u8 (wrap .i64 ((48:Int)+(Int.tmod c 10))))).bind fun f=>
  qj n a0 b k (wrap .i64 (Int.tdiv c 10)) (wrap .i64 (a-1)) f)else(some d)
def YB (n a0:Nat)(a1 a2:Int)(m0:List Int):Option (Nat×(List Int)):=
 (jD n a2 n a0 0 m0).bind fun a=>
 (qj n a0 a n a1 (wrap .i64 (((a.1:Nat):Int)-1)) a.2).bind fun b=>
 some (a.1,b)
theorem Kk {n a0 a1 a2 m0 r}:YB n a0 a1 a2 m0=some r→AC mx 114 [.own 0 a0 1,qi a1,qi a2] [[.buf (List.map (vI .u8) m0)]] (.own 1 r.1 1) [[],[.buf (List.map (vI .u8) r.2)]]:=
 fnL Tryz.func114 rfl<|yV (Wk.mov (cells:= [.buf (List.map (vI .u8) m0)]) 0 0 a0 1 1 O8)<|yV (wk (fr':=⟨38,[(0, .own 1 a0 1),(1,qi a1),(2,qi a2)]⟩) (st':=⟨[[],[.buf (List.map (vI .u8) m0)]],[]⟩) A5)<|rgL<|rgL<|rgL<|blL (fun a=>⟨38,[(0, .own 1 a.1 1),(1,qi a1),(7,qi ((a0:Nat):Int))]⟩) (fun a=>⟨[[],[.buf (List.map (vI .u8) a.2)]],[]⟩) (fun a=>lpL (fun k x=>jD n a2 k x.1 x.2.1 x.2.2) (a0,0,m0) A5 (fun x=>⟨38,[(0, .own 1 x.1 1),(1,qi a1),(2,qi a2),(7,qi ((a0:Nat):Int)),(8,qi x.2.1)]⟩) (fun x=>⟨[[],[.buf (List.map (vI .u8) x.2.2)]],[]⟩) fun k x=>by obtain⟨f,i,j⟩:=x; rw [jD]; exact rgL<|bFL (zo<|bEL fun m o=>xo zJ (lfL (fun z=>kV 2 2 0 1 (W2 (T:=tyT) (c:=(vI .u8)) (l:=j) (l2:=([48]:List Int)) (n:=f) (e:=5) (e2:=5) (bytes:=1) (b2:=1) (tok2:= .exact) O8 o) z) edL)<|zp<|z8 zl fun h=>⟨(f+List.length ([48]:List Int),wrap .i64 (i+1),m),h,wk Aq⟩)<|xjL<|jnL A5) fun a=>rgL<|blL (fun d=>⟨38,[(0, .own 1 a.1 1)]⟩) (fun d=>⟨[[],[.buf (List.map (vI .u8) d)]],[]⟩) (fun d=>lpL (fun k x=>qj n a0 a k x.1 x.2.1 x.2.2) (a1,wrap .i64 (((a.1:Nat):Int)-1),a.2) A5 (fun x=>⟨38,[(0, .own 1 a.1 1),(1,qi x.1),(7,qi ((a0:Nat):Int)),(9,qi x.2.1)]⟩) (fun x=>⟨[[],[.buf (List.map (vI .u8) x.2.2)]],[]⟩) fun k x=>by obtain⟨g,s,u⟩:=x; rw [qj]; exact rgL<|bFL (zo<|bEL fun v w=>bEL fun A B=>rCL (kPL 6 (pb (id:=1) (e:=5) (sz:=1) (b:=1) w)<|lfL (fun z=>kV 7 2 0 1 (da (T:=tyT) (t:=5) (c:=(vI .u8)) (l:=u) (off:=(v*1)) (x:=wrap .u8 (wrap .i64 ((48:Int)+(Int.tmod g 10)))) (uI .u8) O8 B) z) edL)<|z8 zJ<|zp<|z8 zl fun h=>⟨(wrap .i64 (Int.tdiv g 10),wrap .i64 (s-1),A),h,wk A5⟩)<|xjL<|jnL A5) fun d=>rgL<|rKL A5
def br (n:Nat)(a1:List Cn):Nat→Int→Int→Option (Ctl (Cn×Int) Int)
 |0,_,_=>none
 | k+1,a,b=>
  if decide (b<(a1.length:Int))then((zM a1 b).bind fun c=>
  if decide ((c.length:Int)>(wrap .i64 ((131072:Int)-a)))then(some (.ret (([]:Cn),6)))else(br n a1 k (wrap .i64 (a+(c.length:Int))) (wrap .i64 (b+1))))else(some (.nxt a))
def vb (n:Nat)(a0:Int)(a1:List Cn):Option (Cn×Int):=
 (if decide (a0<0)then(some true)else(if decide (a0>255)then(some true)else(some ((uU .i64 a0 31)==31)))).bind fun b=>
 if b then(some (([]:Cn),5))else(yb (br n a1 n 0 0) (fun r=>some r) (fun a=>
 (if decide (a<128)then((gP 1 ([wrap .u8 a0]:List Int) ([wrap .u8 a]:List Int)).bind fun c=>
 some c)else(if decide (a<256)then((gP 1 ([wrap .u8 a0]:List Int) ([129,wrap .u8 a]:List Int)).bind fun d=>
 some d)else(if decide (a<65536)then((gP 1 ([wrap .u8 a0]:List Int) ([130,wrap .u8 (Int.fdiv a 256),wrap .u8 a]:List Int)).bind fun e=>
 some e)else((gP 1 ([wrap .u8 a0]:List Int) ([131,wrap .u8 (Int.fdiv a 65536),wrap .u8 (Int.fdiv a 256),wrap .u8 a]:List Int)).bind fun f=>
 some f)))).bind fun g=>
 (WY n a1 ([]:Cn)).bind fun i=>
 (um (b2s g) i).bind fun j=>
 some (j,0)))
theorem wU {n a0 a1 r}:vb n a0 a1=some r→AC mx 115 [qi a0,ql 1 cS a1] [] (.tuple [qs r.1,qi r.2]) []:=
 fnL Tryz.func115 rfl<|rgL<|bEL fun d hE=>rgF hE ⟨83,[(0,qi a0),(1,ql 1 cS a1),(20,qb d)]⟩ ⟨[],[]⟩ (gFL 3 12 (eJ A1)<|gFL 7 16 (eJ A1)<|eJ A1)<|bFL (rgL<|rKL A1)<|rgL<|cP 1 (ue a1)<|bcL (fun b=>⟨83,[(0,qi a0),(1,ql 1 cS a1),(6,qi b)]⟩) (fun b=>⟨[],[]⟩) (fun A f=>lpL (fun k x=>br n a1 k x.1 x.2) (0,0) A1 (fun x=>⟨83,[(0,qi a0),(1,ql 1 cS a1),(6,qi x.1),(21,ql 1 cS a1),(22,qi (a1.length)),(23,qi x.2)]⟩) (fun x=>⟨[],[]⟩) fun k x=>by obtain⟨g,i⟩:=x; rw [br]; exact rgL<|bFL (zo<|bP 0 ww fun j=>rgL<|bFL (rgL<|hKL f<|rJ A1)<|z8 zJ<|zp<|z8 zl fun h=>⟨(wrap .i64 (g+(j.length:Int)),wrap .i64 (i+1)),h,wk A1⟩)<|xjL<|jCL A1) fun b=>rgL<|blL (fun a=>⟨83,[(1,ql 1 cS a1),(9, .sl 1 (List.map (cI .u8) a) (.fam 0 (a.length)))]⟩) (fun a=>⟨[],[a.length]⟩) (fun a=>rgL<|bFL (bEL fun B l=>xo zX (lfL (fun z=>kV 4 0 0 0 (XQ (T:=tyT) (c:=(cI .u8)) (e:=5) (e2:=5) (sz:=1) (bytes:=1) (b2:=1) (tok2:= .exact) (cell:=none) O8 l) z) edL)<|jnL A6)<|rgL<|bFL (bEL fun C m=>xo zX (lfL (fun z=>kV 4 0 0 0 (XQ (T:=tyT) (c:=(cI .u8)) (e:=5) (e2:=5) (sz:=1) (bytes:=1) (b2:=1) (tok2:= .exact) (cell:=none) O8 m) z) edL)<|jnL A6)<|rgL<|bFL (bEL fun D o=>xo zX (lfL (fun z=>kV 7 0 0 0 (XQ (T:=tyT) (c:=(cI .u8)) (e:=5) (e2:=5) (sz:=1) (bytes:=1) (b2:=1) (tok2:= .exact) (cell:=none) O8 o) z) edL)<|jnL A6)<|bEL fun E s=>xo zX (lfL (fun z=>kV 10 0 0 0 (XQ (T:=tyT) (c:=(cI .u8)) (e:=5) (e2:=5) (sz:=1) (bytes:=1) (b2:=1) (tok2:= .exact) (cell:=none) O8 s) z) edL)<|jnL A6) fun a=>bEL fun F u=>bEL fun v w=>lfL (fun z=>zm [0,1,2,3,4,5,6] [3] [[],[0],[],[2],[0,1,2,3],[0,1,2,3,4],[0,1,2,3,4,5]] [] [(4,qs v),(5,qi 0)] ⟨[],[]⟩ (dS [0]<|dP (nY a)<|dS [2]<|dC (zr 1 (nY a) zW) Aa (GL u)<|dP (zK w)<|dS [5,6]<|dE Aa) z)<|rKL A1
def uD (n:Nat)(a:(yg×Int)):Nat→Nat→Int→(List Int)→Option (Nat×(List Int))
 |0,_,_,_=>none
 | k+1,c,b,d=>
  if decide (b<(List.length ([a.1.qF,a.1.pT,a.1.pL,a.1.ko,a.1.kr]:List Int):Int))then((zM ([a.1.qF,a.1.pT,a.1.pL,a.1.ko,a.1.kr]:List Int) b).bind fun f=>
  (YB n c f 2 d).bind fun e=>
  uD n a k e.1 (wrap .i64 (b+1)) e.2)else(some (c,d))
def ud (n:Nat)(a0:Int):Option (Cn×Int):=
 (Yz n a0).bind fun a=>
 if a.2 !=0 then(some (([]:Cn),a.2))else((ZH n (Int.tmod a.1.bw 100) 2).bind fun c=>
 (if decide (a.1.bw≥2050)then((ZH n a.1.bw 4).bind fun d=>
 some (24,d.1,d.2))else(some (23,c.1,c.2))).bind fun b=>
 (uD n a n b.2.1 0 b.2.2).bind fun e=>
 (Ke e.1 e.2).bind fun g=>
 (vb n b.1 ([g,([90]:Cn)]:List Cn)).bind fun f=>
 some (f.1,f.2))
theorem Qs {n a0 r}:ud n a0=some r→AC mx 44 [qi a0] [] (.tuple [qs r.1,qi r.2]) []:=
 fnL Tryz.func44 rfl<|rgL<|bC 1 A1 Ks fun a=>rgL<|bFL (rgL<|rKL A2)<|rgL<|bC 3 A2 UT fun l=>rgL<|cuL (fun b=>⟨55,[(4,qp 0),(6,qi b.1),(7, .own 1 b.2.1 1)]⟩) (fun b=>⟨[yg.cells a.1,[.buf (List.map (vI .u8) b.2.2)]],[]⟩) (fun b=>bFL (rgL<|bEL fun m e=>xo zl (kCL 2 A4 (UT e) edL)<|jnL Aq)<|jnL A5) fun b=>cP 11 (tu ([a.1.qF,a.1.pT,a.1.pL,a.1.ko,a.1.kr]:List Int))<|blL (fun c=>⟨55,[(6,qi b.1),(7, .own 0 c.1 1)]⟩) (fun c=>⟨[[.buf (List.map (vI .u8) c.2)]],[]⟩) (fun c=>lpL (fun k x=>uD n a k x.1 x.2.1 x.2.2) (b.2.1,0,b.2.2) A9 (fun x=>⟨55,[(6,qi b.1),(7, .own 0 x.1 1),(38, .sl 1 (List.map (cI .i64) ([a.1.qF,a.1.pT,a.1.pL,a.1.ko,a.1.kr]:List Int)) .exact),(39,qi (List.length ([a.1.qF,a.1.pT,a.1.pL,a.1.ko,a.1.kr]:List Int):Int)),(40,qi x.2.1)]⟩) (fun x=>⟨[[.buf (List.map (vI .u8) x.2.2)]],[]⟩) fun k x=>by obtain⟨o,f,s⟩:=x; rw [uD]; exact rgL<|bFL (zo<|bP 0 Vq fun u=>bEL fun d g=>xo zJ (kCL 2 A3 (Kk g) edL)<|zp<|z8 zl fun h=>⟨(d.1,wrap .i64 (f+1),d.2),h,wk A9⟩)<|xjL<|jnL A3) fun c=>bEL fun v i=>bEL fun w j=>rCL (kPL 2 (Kr i)<|kCL 4 A2 (wU j) edL)<|rKL A2
def ym (n:Nat)(a1:Cn)(a2:Int)(m0:zn):Option zn:=
 if m0.f_e==0 then((um m0.f_b a1).bind fun a=>
 some (zn.mk a a2))else(some m0)
theorem yW {n a1 a2 m0 r}:ym n a1 a2 m0=some r→AC mx 43 [qp 0,qs a1,qi a2] [zn.cells m0] (.tuple []) [zn.cells r]:=
 fnL Tryz.func43 rfl<|rgL<|bFL (bEL fun b a=>xo ZX (kPL 7 (zK a) edL)<|nJ A3)<|nJ A3
def kY (n:Nat)(a1:Int):Nat→Int→Option Int
 |0,_=>none
 | k+1,a=>
  (WA .i64 a1 (wrap .u64 ((7:Int)*(wrap .u64 a)))).bind fun b=>
  if decide (b>0)then(kY n a1 k (wrap .i64 (a+1)))else(some a)
def qE (n:Nat)(a1:Int):Nat→Nat→Int→(List Int)→Option (Nat×(List Int))
 |0,_,_,_=>none
 | k+1,a,b,c=>
  if decide (b>0)then((WA .i64 a1 (wrap .u64 ((7:Int)*(wrap .u64 b)))).bind fun d=>
  (Yd 1 a c ([wrap .u8 (ior .i64 (uU .i64 d 127) 128)]:List Int)).bind fun e=>
  qE n a1 k (a+List.length ([wrap .u8 (ior .i64 (uU .i64 d 127) 128)]:List Int)) (wrap .i64 (b-1)) e)else(some (a,c))
def Ug (n:Nat)(a1:Int):Option (Nat×(List Int)):=
 (kY n a1 n 1).bind fun b=>
 (qE n a1 n 0 (wrap .i64 (b-1)) ([]:List Int)).bind fun a=>
 (Yd 1 a.1 a.2 ([wrap .u8 (uU .i64 a1 127)]:List Int)).bind fun c=>
 some (a.1+List.length ([wrap .u8 (uU .i64 a1 127)]:List Int),c)
theorem Dg {n a1 r}:Ug n a1=some r→AC mx 117 [qn,qi a1] [] (.own 0 r.1 1) [[.buf (List.map (vI .u8) r.2)]]:=
 fnL Tryz.func117 rfl<|yV (Wk.nilO 0 0 1 O8)<|yV (wk (fr':=⟨38,[(0, .own 0 0 1),(1,qi a1)]⟩) (st':=⟨[[.buf (List.map (vI .u8) ([]:List Int))]],[]⟩) A3)<|rgL<|rgL<|blL (fun b=>⟨38,[(0, .own 0 0 1),(1,qi a1),(5,qi b)]⟩) (fun b=>⟨[[.buf (List.map (vI .u8) ([]:List Int))]],[]⟩) (fun b=>lpL (fun k x=>kY n a1 k x) 1 A3 (fun x=>⟨38,[(0, .own 0 0 1),(1,qi a1),(5,qi x)]⟩) (fun x=>⟨[[.buf (List.map (vI .u8) ([]:List Int))]],[]⟩) fun k g=>by rw [kY]; exact bP 4 Yh fun v=>bFL (zo<|z8 (j3 (P:=Tryz.prog) (gl:=gl0 mx) zl)<|zp fun h=>⟨wrap .i64 (g+1),h,wk A3⟩)<|xjL<|jnL A3) fun b=>rgL<|blL (fun a=>⟨38,[(0, .own 0 a.1 1),(1,qi a1)]⟩) (fun a=>⟨[[.buf (List.map (vI .u8) a.2)]],[]⟩) (fun a=>lpL (fun k x=>qE n a1 k x.1 x.2.1 x.2.2) (0,wrap .i64 (b-1),([]:List Int)) A3 (fun x=>⟨38,[(0, .own 0 x.1 1),(1,qi a1),(6,qi x.2.1)]⟩) (fun x=>⟨[[.buf (List.map (vI .u8) x.2.2)]],[]⟩) fun k x=>by obtain⟨d,i,j⟩:=x; rw [qE]; exact rgL<|bFL (zo<|bEL fun f m=>bEL fun o s=>xo zJ (kPL 5 (Yh m)<|lfL (fun z=>kV 10 1 0 0 (W2 (T:=tyT) (c:=(vI .u8)) (l:=j) (l2:=([wrap .u8 (ior .i64 (uU .i64 f 127) 128)]:List Int)) (n:=d) (e:=5) (e2:=5) (bytes:=1) (b2:=1) (tok2:= .exact) O8 s) z) edL)<|zp<|z8 zl fun h=>⟨(d+List.length ([wrap .u8 (ior .i64 (uU .i64 f 127) 128)]:List Int),wrap .i64 (i-1),o),h,wk A9⟩)<|xjL<|jnL A3) fun a=>bEL fun w u=>rCL (lfL (fun z=>kV 5 1 0 0 (W2 (T:=tyT) (c:=(vI .u8)) (l:=a.2) (l2:=([wrap .u8 (uU .i64 a1 127)]:List Int)) (n:=a.1) (e:=5) (e2:=5) (bytes:=1) (b2:=1) (tok2:= .exact) O8 u) z) edL)<|rKL A9
def bQ (n:Nat)(a1:Int):Nat→Int→Option Int
 |0,_=>none
 | k+1,a=>
  (WA .i64 a1 (wrap .u64 ((7:Int)*(wrap .u64 a)))).bind fun b=>
  if decide (b>0)then(bQ n a1 k (wrap .i64 (a+1)))else(some a)
def bR (n:Nat)(a1:Int):Nat→Nat→Int→(List Int)→Option (Nat×(List Int))
 |0,_,_,_=>none
 | k+1,a,b,c=>
  if decide (b>0)then((WA .i64 a1 (wrap .u64 ((7:Int)*(wrap .u64 b)))).bind fun d=>
  (Yd 1 a c ([wrap .u8 (ior .i64 (uU .i64 d 127) 128)]:List Int)).bind fun e=>
  bR n a1 k (a+List.length ([wrap .u8 (ior .i64 (uU .i64 d 127) 128)]:List Int)) (wrap .i64 (b-1)) e)else(some (a,c))
def XB (n a0:Nat)(a1:Int)(m0:List Int):Option (Nat×(List Int)):=
 (bQ n a1 n 1).bind fun b=>
 (bR n a1 n a0 (wrap .i64 (b-1)) m0).bind fun a=>
 (Yd 1 a.1 a.2 ([wrap .u8 (uU .i64 a1 127)]:List Int)).bind fun c=>
 some (a.1+List.length ([wrap .u8 (uU .i64 a1 127)]:List Int),c)
theorem Bn {n a0 a1 m0 r}:XB n a0 a1 m0=some r→AC mx 117 [.own 0 a0 1,qi a1] [[.buf (List.map (vI .u8) m0)]] (.own 1 r.1 1) [[],[.buf (List.map (vI .u8) r.2)]]:=
 fnL Tryz.func117 rfl<|yV (Wk.mov (cells:= [.buf (List.map (vI .u8) m0)]) 0 0 a0 1 1 O8)<|yV (wk (fr':=⟨38,[(0, .own 1 a0 1),(1,qi a1)]⟩) (st':=⟨[[],[.buf (List.map (vI .u8) m0)]],[]⟩) A5)<|rgL<|rgL<|blL (fun b=>⟨38,[(0, .own 1 a0 1),(1,qi a1),(5,qi b)]⟩) (fun b=>⟨[[],[.buf (List.map (vI .u8) m0)]],[]⟩) (fun b=>lpL (fun k x=>bQ n a1 k x) 1 A5 (fun x=>⟨38,[(0, .own 1 a0 1),(1,qi a1),(5,qi x)]⟩) (fun x=>⟨[[],[.buf (List.map (vI .u8) m0)]],[]⟩) fun k g=>by rw [bQ]; exact bP 4 Yh fun v=>bFL (zo<|z8 (j3 (P:=Tryz.prog) (gl:=gl0 mx) zl)<|zp fun h=>⟨wrap .i64 (g+1),h,wk A5⟩)<|xjL<|jnL A5) fun b=>rgL<|blL (fun a=>⟨38,[(0, .own 1 a.1 1),(1,qi a1)]⟩) (fun a=>⟨[[],[.buf (List.map (vI .u8) a.2)]],[]⟩) (fun a=>lpL (fun k x=>bR n a1 k x.1 x.2.1 x.2.2) (a0,wrap .i64 (b-1),m0) A5 (fun x=>⟨38,[(0, .own 1 x.1 1),(1,qi a1),(6,qi x.2.1)]⟩) (fun x=>⟨[[],[.buf (List.map (vI .u8) x.2.2)]],[]⟩) fun k x=>by obtain⟨d,i,j⟩:=x; rw [bR]; exact rgL<|bFL (zo<|bEL fun f m=>bEL fun o s=>xo zJ (kPL 5 (Yh m)<|lfL (fun z=>kV 10 2 0 1 (W2 (T:=tyT) (c:=(vI .u8)) (l:=j) (l2:=([wrap .u8 (ior .i64 (uU .i64 f 127) 128)]:List Int)) (n:=d) (e:=5) (e2:=5) (bytes:=1) (b2:=1) (tok2:= .exact) O8 s) z) edL)<|zp<|z8 zl fun h=>⟨(d+List.length ([wrap .u8 (ior .i64 (uU .i64 f 127) 128)]:List Int),wrap .i64 (i-1),o),h,wk Aq⟩)<|xjL<|jnL A5) fun a=>bEL fun w u=>rCL (lfL (fun z=>kV 5 2 0 1 (W2 (T:=tyT) (c:=(vI .u8)) (l:=a.2) (l2:=([wrap .u8 (uU .i64 a1 127)]:List Int)) (n:=a.1) (e:=5) (e2:=5) (bytes:=1) (b2:=1) (tok2:= .exact) O8 u) z) edL)<|rKL Aq
def qk (n:Nat)(a:List Int):Nat→Nat→Int→(List Int)→Option (Nat×(List Int))
 |0,_,_,_=>none
 | k+1,c,b,d=>
  if decide (b<(a.length:Int))then((zM a b).bind fun f=>
  (XB n c f d).bind fun e=>
  qk n a k e.1 (wrap .i64 (b+1)) e.2)else(some (c,d))
def ba (n:Nat)(a0:Cn):Option (Cn×Int):=
 ((YR n a0).bind fun d=>
 onE d (some ([]:List Int)) (fun e=>some e)).bind fun a=>
 (lne a).bind fun l=>
 (zM a 0).bind fun f=>
 (zM a 1).bind fun g=>
 (Ug n (wrap .i64 ((wrap .i64 ((40:Int)*f))+g))).bind fun b=>
 (lsl a 2 (a.length)).bind fun i=>
 (qk n i n b.1 0 b.2).bind fun c=>
 (Ke c.1 c.2).bind fun j=>
 some (j,0)
theorem pC {n a0 r}:ba n a0=some r→AC mx 45 [qs a0] [] (.tuple [qs r.1,qi r.2]) []:=
 fnL Tryz.func45 rfl<|rgL<|bEL fun l hE=>rgF hE ⟨34,[(4,ql 1 (cI .i64) l)]⟩ ⟨[],[]⟩ (bEL fun m o=>kCL 1 A1 (U7 o) fun h=>by cases m with|none=>exact imA (onN h) (eJ A1)|some A=>exact imA (onS h) (eJ A1))<|bP 1 (rA (c:=(cI .i64)) (e:=3) (sz:=1) (b:=8) (tok:= .none)) fun B=>bNL<|bEL fun C g=>bEL fun D i=>bEL fun d s=>lfL (fun z=>zm [0,1,2,3,4,5,6,7,8,9] [8] [[],[0],[0,1],[0,1,2],[],[4],[4,5],[0,1,2,3,4,5,6],[0,1,2,3,4,5,6,7],[0,1,2,3,4,5,6,7,8]] [4] [(5, .own 0 d.1 1)] ⟨[[.buf (List.map (vI .u8) d.2)]],[]⟩ (dS [0]<|dP (uz g)<|dS [2,3,4]<|dP (uz i)<|dS [6,7]<|dC (zr 5 (uz i) (zr 1 (uz g) zW)) A1 (Dg s)<|dS [9]<|dE A3) z)<|bEL fun f u=>rCL (kPL 1 (dm u)<|kPL 2 (YF f) edL)<|blL (fun a=>⟨34,[(5, .own 0 a.1 1)]⟩) (fun a=>⟨[[.buf (List.map (vI .u8) a.2)]],[]⟩) (fun a=>lpL (fun k x=>qk n f k x.1 x.2.1 x.2.2) (d.1,0,d.2) A3 (fun x=>⟨34,[(5, .own 0 x.1 1),(22,ql 1 (cI .i64) f),(23,qi (f.length)),(24,qi x.2.1)]⟩) (fun x=>⟨[[.buf (List.map (vI .u8) x.2.2)]],[]⟩) fun k x=>by obtain⟨E,v,F⟩:=x; rw [qk]; exact rgL<|bFL (zo<|bP 0 uz fun G=>bEL fun j w=>xo zJ (kCL 2 A3 (Bn w) edL)<|zp<|z8 zl fun h=>⟨(j.1,wrap .i64 (v+1),j.2),h,wk A9⟩)<|xjL<|jnL A3) fun a=>bP 1 Kr fun H=>rKL A2
def zZ (n:Nat)(a1:Int)(a2:Cn)(m0:zn):Option zn:=
 (vb n a1 ([a2]:List Cn)).bind fun a=>
 (ym n a.1 a.2 m0).bind fun b=>
 some b
theorem yO {n a1 a2 m0 r}:zZ n a1 a2 m0=some r→AC mx 46 [qp 0,qi a1,qs a2] [zn.cells m0] (.tuple []) [zn.cells r]:=
 fnL Tryz.func46 rfl<|bEL fun c a=>bEL fun d b=>xo ZX (kCL 4 A2 (wU a)<|kCL 7 A3 (yW b) edL)<|nJ A3
def gE (n:Nat)(a0:Int):Nat→Int→Option Int
 |0,_=>none
 | k+1,a=>
  (WA .i64 a0 (wrap .u64 a)).bind fun b=>
  if decide (b>0)then(gE n a0 k (wrap .i64 (a+1)))else(some a)
def gK (n:Nat)(d a0:Int)(c:Nat):Nat→Int→(List Int)→Option (List Int)
 |0,_,_=>none
 | k+1,a,b=>
  if decide (a<d)then(((WA .i64 a0 (wrap .u64 a)).bind fun e=>
  if(uU .i64 e 1)==1 then((gu c (wrap .i64 ((1:Int)+(wrap .i64 (Int.tdiv a 8))))).bind fun f=>
  ((b)[(f*1)]?).bind fun g=>
  (Uy .u8 1 (wrap .u64 ((7:Int)-(wrap .u64 (Int.tmod a 8))))).bind fun i=>
  (gu c (wrap .i64 ((1:Int)+(wrap .i64 (Int.tdiv a 8))))).bind fun j=>
  (Wt b (j*1) (ior .u8 g i)).bind fun l=>
  some l)else(some b)).bind fun m=>
  gK n d a0 c k (wrap .i64 (a+1)) m)else(some b)
def bj (n:Nat)(a0:Int):Option (Cn×Int):=
 (if decide (a0<0)then(some true)else(some (decide (a0>65535)))).bind fun c=>
 if c then(some (([]:Cn),1))else((gE n a0 n 0).bind fun b=>
 (Kg 1 (wrap .i64 ((1:Int)+(wrap .i64 (Int.tdiv (wrap .i64 (b+7)) 8)))) (wrap .i64 ((1:Int)+(wrap .i64 (Int.tdiv (wrap .i64 (b+7)) 8))))).bind fun a=>
 (gu a 0).bind fun d=>
 (Wt (List.replicate a (0:Int)) (d*1) (wrap .u8 (wrap .i64 ((wrap .i64 ((8:Int)*(wrap .i64 (((a:Nat):Int)-1))))-b)))).bind fun e=>
 (gK n b a0 a n 0 e).bind fun f=>
 (Ke a f).bind fun g=>
 some (g,0))
theorem Ju {n a0 r}:bj n a0=some r→AC mx 47 [qi a0] [] (.tuple [qs r.1,qi r.2]) []:=
 fnL Tryz.func47 rfl<|rgL<|bEL fun m hE=>rgF hE ⟨60,[(0,qi a0),(12,qb m)]⟩ ⟨[],[]⟩ (gFL 3 9 (eJ A1)<|eJ A1)<|bFL (rgL<|rKL A1)<|rgL<|blL (fun a=>⟨60,[(0,qi a0),(4,qi a)]⟩) (fun a=>⟨[],[]⟩) (fun a=>lpL (fun k x=>gE n a0 k x) 0 A1 (fun x=>⟨60,[(0,qi a0),(4,qi x)]⟩) (fun x=>⟨[],[]⟩) fun k o=>by rw [gE]; exact bP 3 Yh fun K=>bFL (zo<|z8 (j3 (P:=Tryz.prog) (gl:=gl0 mx) zl)<|zp fun h=>⟨wrap .i64 (o+1),h,wk A1⟩)<|xjL<|jnL A1) fun a=>bEL fun d s=>rCL (lfL (fun z=>kV 4 0 0 0 (BM (T:=tyT) (e:=5) (k1:= .i64) (k2:= .i64) (bytes:=1) (cell:=none) (c:=(vI .u8)) (uI .u8) 0 ⟨O8,O8⟩ s) z) edL)<|bEL fun u v=>bEL fun w A=>rCL (kPL 8 (pb (id:=0) (e:=5) (sz:=1) (b:=1) v)<|lfL (fun z=>kV 9 1 0 0 (da (T:=tyT) (t:=5) (c:=(vI .u8)) (l:=List.replicate d (0:Int)) (off:=(u*1)) (x:=wrap .u8 (wrap .i64 ((wrap .i64 ((8:Int)*(wrap .i64 (((d:Nat):Int)-1))))-a))) (uI .u8) O8 A) z) edL)<|rgL<|blL (fun g=>⟨60,[(5, .own 0 d 1)]⟩) (fun g=>⟨[[.buf (List.map (vI .u8) g)]],[]⟩) (fun g=>lpL (fun k x=>gK n a a0 d k x.1 x.2) (0,w) A3 (fun x=>⟨60,[(0,qi a0),(5, .own 0 d 1),(34,qi a),(35,qi x.1)]⟩) (fun x=>⟨[[.buf (List.map (vI .u8) x.2)]],[]⟩) fun k x=>by obtain⟨i,j⟩:=x; rw [gK]; exact rgL<|bFL (blL (fun f=>⟨60,[(0,qi a0),(5, .own 0 d 1),(34,qi a),(35,qi i)]⟩) (fun f=>⟨[[.buf (List.map (vI .u8) f)]],[]⟩) (fun f=>rgL<|bP 3 Yh fun L=>bFL (bEL fun B C=>bEL fun D E=>bEL fun F G=>bEL fun H I=>bEL fun M J=>xo zX (kPL 4 (pb (id:=0) (e:=5) (sz:=1) (b:=1) C)<|kPL 5 (pD (c:=(vI .u8)) (l:=j) (off:=(B*1)) E)<|kPL 10 (DL G)<|kPL 12 (pb (id:=0) (e:=5) (sz:=1) (b:=1) I)<|lfL (fun z=>kV 13 1 0 0 (da (T:=tyT) (t:=5) (c:=(vI .u8)) (l:=j) (off:=(H*1)) (x:=ior .u8 D F) (uI .u8) O8 J) z) edL)<|jnL A3)<|jnL A3) fun f=>z8 zl fun h=>⟨(wrap .i64 (i+1),f),h,wk A3⟩)<|xjL<|jnL A3) fun g=>bP 1 Kr fun N=>rKL A2
def Ub (n:Nat)(m0:zn):Option zn:=
 some m0
theorem Bm {n m0 r}:Ub n m0=some r→AC mx 49 [qp 0] [zn.cells m0] (.func (.func 118) [qp 0] []) [zn.cells r]:=
 fnL Tryz.func49 rfl<|rgL<|rgL<|rKL A3
def dz (n:Nat)(a1:Cn)(m0:zn):Option zn:=
 (ba n a1).bind fun a=>
 (ym n ([]:Cn) a.2 m0).bind fun b=>
 (zZ n 6 a.1 b).bind fun c=>
 some c
theorem Uw {n a1 m0 r}:dz n a1 m0=some r→AC mx 118 [qp 0,qs a1] [zn.cells m0] (.tuple []) [zn.cells r]:=
 fnL Tryz.func118 rfl<|bC 1 A2 pC fun b=>bC 2 A3 yW fun c=>bEL fun d a=>xo ZX (kCL 2 A3 (yO a) edL)<|nJ A3
def v7 (n:Nat)(a2:List Cn):Nat→Int→Cn→Int→Option (Cn×Int)
 |0,_,_,_=>none
 | k+1,a,b,c=>
  if decide (a<(a2.length:Int))then((zM a2 a).bind fun e=>
  (dz n e (zn.mk b c)).bind fun d=>
  v7 n a2 k (wrap .i64 (a+1)) d.f_b d.f_e)else(some (b,c))
def j0 (n:Nat)(a1:Int)(a2:List Cn)(m0:zn):Option zn:=
 (Ub n (zn.mk ([]:Cn) 0)).bind fun a=>
 (v7 n a2 n 0 a.f_b a.f_e).bind fun b=>
 (ym n ([]:Cn) b.2 m0).bind fun c=>
 (zZ n a1 b.1 c).bind fun d=>
 some d
theorem ZO {n a1 a2 m0 r}:j0 n a1 a2 m0=some r→AC mx 48 [qp 0,qi a1,ql 1 cS a2, .func (.func 49) [] []] [zn.cells m0] (.tuple []) [zn.cells r]:=
 fnL Tryz.func48 rfl<|rgL<|bC 1 A9 Bm fun b=>cP 1 (ue a2)<|blL (fun a=>⟨33,[(0,qp 0),(1,qi a1),(8,qp 1)]⟩) (fun a=>⟨[zn.cells m0,[qs a.1,qi a.2]],[]⟩) (fun a=>lpL (fun k x=>v7 n a2 k x.1 x.2.1 x.2.2) (0,b.f_b,b.f_e) A5 (fun x=>⟨33,[(0,qp 0),(1,qi a1),(8,qp 1),(9, .func (.func 118) [qp 1] []),(14,ql 1 cS a2),(15,qi (a2.length)),(16,qi x.1)]⟩) (fun x=>⟨[zn.cells m0,[qs x.2.1,qi x.2.2]],[]⟩) fun k x=>by obtain⟨d,g,i⟩:=x; rw [v7]; exact rgL<|bFL (zo<|bP 0 ww fun j=>bEL fun c e=>xo zJ (kCL 2 A9 (Uw e) edL)<|zp<|z8 zl fun h=>⟨(wrap .i64 (d+1),c.f_b,c.f_e),h,wk A5⟩)<|xjL<|jnL A5) fun a=>bC 3 A7 yW fun l=>bEL fun m f=>xo ZX (kCL 4 A7 (yO f) edL)<|nJ A7
def Zr (n:Nat)(a0:Bool):Option Cn:=
 if a0 then(some ([255]:Cn))else(some ([0]:Cn))
theorem Ut {n a0 r}:Zr n a0=some r→AC mx 119 [qb a0] [] (qs r) []:=
 fnL Tryz.func119 rfl<|rgL<|rgL<|bFL (rgL<|rKL A1)<|rgL<|rKL A1
def vZ (n:Nat)(a1:Int)(a2:Bool)(m0:zn):Option zn:=
 if a2 then((Zr n true).bind fun a=>
 (zZ n a1 a m0).bind fun b=>
 some b)else(some m0)
theorem j6 {n a1 a2 m0 r}:vZ n a1 a2 m0=some r→AC mx 50 [qp 0,qi a1,qb a2] [zn.cells m0] (.tuple []) [zn.cells r]:=
 fnL Tryz.func50 rfl<|rgL<|bFL (bEL fun c a=>bEL fun d b=>xo ZX (kCL 2 A2 (Ut a)<|kCL 3 A3 (yO b) edL)<|nJ A3)<|nJ A3
def qB (n:Nat)(a0:za):Option (Cn×Int):=
 (ba n a0.xx).bind fun a=>
 if a.2 !=0 then(some (([]:Cn),a.2))else((vb n 6 ([a.1]:List Cn)).bind fun b=>
 if b.2 !=0 then(some (([]:Cn),b.2))else((vb n a0.zG ([a0.vg]:List Cn)).bind fun c=>
 if c.2 !=0 then(some (([]:Cn),c.2))else((vb n 48 ([b.1,c.1]:List Cn)).bind fun d=>
 some (d.1,d.2))))
theorem Xi {n a0 r}:qB n a0=some r→AC mx 214 [.agg (za.cells a0)] [] (.tuple [qs r.1,qi r.2]) []:=
 fnL Tryz.func214 rfl<|rgL<|bC 2 A2 pC fun a=>rgL<|bFL (rgL<|rKL A2)<|bC 2 A2 wU fun b=>rgL<|bFL (rgL<|rKL A2)<|bC 5 A2 wU fun c=>rgL<|bFL (rgL<|rKL A2)<|bC 3 A2 wU fun d=>rKL A2
def Xr (n:Nat)(a0:List Cn):Option Cn:=
 (Bf 16 a0).bind fun a=>
 (Qm n (a.length) a).bind fun b=>
 (UK n (a.length) ([]:Cn) b).bind fun c=>
 some c.1
theorem Bl {n a0 r}:Xr n a0=some r→AC mx 215 [ql 1 cS a0] [] (qs r) []:=
 fnL Tryz.func215 rfl<|rgL<|bEL fun b a=>rCL (lfL (fun z=>kV 1 0 0 0 (nr (T:=tyT) (c:=vS) (l2:=a0) (e:=9) (e2:=9) (bytes:=16) (b2:=16) (tok2:= .none) (cell:=none) O8 a) z) edL)<|bC 1 A3 lE fun d=>bC 1 A3 fg fun f=>rKL A2
def qz (n:Nat)(a:List za):Nat→(List Cn)→Int→Option (Ctl (Cn×Int) (List Cn))
 |0,_,_=>none
 | k+1,d,b=>
  if decide (b<(a.length:Int))then((zM a b).bind fun e=>
  (qB n e).bind fun c=>
  if c.2 !=0 then(some (.ret (([]:Cn),c.2)))else((jR 16 d ([c.1]:List Cn)).bind fun f=>
  qz n a k f (wrap .i64 (b+1))))else(some (.nxt d))
def qm (n:Nat)(a0:zv):Nat→(List Cn)→Int→Option (Ctl (Cn×Int) (List Cn))
 |0,_,_=>none
 | k+1,c,a=>
  if decide (a<(a0.zh.length:Int))then((zM a0.zh a).bind fun d=>
  yb (qz n d n ([]:List Cn) 0) (fun r=>some (.ret r)) (fun e=>
  (Xr n e).bind fun f=>
  (vb n 49 ([f]:List Cn)).bind fun b=>
  if b.2 !=0 then(some (.ret (([]:Cn),b.2)))else((jR 16 c ([b.1]:List Cn)).bind fun g=>
  qm n a0 k g (wrap .i64 (a+1)))))else(some (.nxt c))
def dH (n:Nat)(a0:zv):Option (Cn×Int):=
 (jU n a0).bind fun a=>
 if a !=0 then(some (([]:Cn),a))else(yb (qm n a0 n ([]:List Cn) 0) (fun r=>some r) (fun c=>
 (vb n 48 c).bind fun b=>
 some (b.1,b.2)))
theorem Wd {n a0 r}:dH n a0=some r→AC mx 164 [.agg [ql 1 (cL 3 za.cells) a0.zh]] [] (.tuple [qs r.1,qi r.2]) []:=
 fnL Tryz.func164 rfl<|rgL<|bC 1 A2 gc fun w=>rgL<|bFL (rgL<|rKL A2)<|rgL<|cP 2 (ga a0.zh)<|bcL (fun c=>⟨65,[(5, .sl 1 (List.map cS c) (.fam 0 (c.length)))]⟩) (fun c=>⟨[],[c.length]⟩) (fun A g=>yV (wk (fr':=⟨65,[(5,qn),(21,ql 1 (cL 3 za.cells) a0.zh),(22,qi (a0.zh.length)),(23,qi 0)]⟩) (st':=⟨[],[]⟩) A2)<|yV Wk.nilFam<|lpL (fun k x=>qm n a0 k x.1 x.2) (([]:List Cn),0) A6 (fun x=>⟨65,[(5, .sl 1 (List.map cS x.1) (.fam 0 (x.1.length))),(21,ql 1 (cL 3 za.cells) a0.zh),(22,qi (a0.zh.length)),(23,qi x.2)]⟩) (fun x=>⟨[],[x.1.length]⟩) fun k x=>by obtain⟨a,f⟩:=x; rw [qm]; exact rgL<|bFL (zo<|bP 0 ZD fun b=>rgL<|cP 1 (g9 b)<|bcL (fun d=>⟨65,[(5, .sl 1 (List.map cS a) (.fam 0 (a.length))),(8, .sl 1 (List.map cS d) (.fam 1 (d.length))),(21,ql 1 (cL 3 za.cells) a0.zh),(22,qi (a0.zh.length)),(23,qi f)]⟩) (fun d=>⟨[],[a.length,d.length]⟩) (fun B i=>yV (wk (fr':=⟨65,[(5, .sl 1 (List.map cS a) (.fam 0 (a.length))),(8,qn),(21,ql 1 (cL 3 za.cells) a0.zh),(22,qi (a0.zh.length)),(23,qi f),(27,ql 3 za.cells b),(28,qi (b.length)),(29,qi 0)]⟩) (st':=⟨[],[a.length]⟩) A6)<|yV Wk.nilFam<|lpL (fun k x=>qz n b k x.1 x.2) (([]:List Cn),0) ⟨[],0,[0,1],2⟩ (fun x=>⟨65,[(5, .sl 1 (List.map cS a) (.fam 0 (a.length))),(8, .sl 1 (List.map cS x.1) (.fam 1 (x.1.length))),(21,ql 1 (cL 3 za.cells) a0.zh),(22,qi (a0.zh.length)),(23,qi f),(27,ql 3 za.cells b),(28,qi (b.length)),(29,qi x.2)]⟩) (fun x=>⟨[],[a.length,x.1.length]⟩) fun k x=>by obtain⟨C,j⟩:=x; rw [qz]; exact rgL<|bFL (zo<|bP 0 ZF fun D=>bC 1 ⟨[],1,[],2⟩ Xi fun E=>rgL<|bFL (rgL<|hKL i<|yf<|wo<|hvL g<|yn<|rJ ⟨[],1,[],2⟩)<|bEL fun l m=>xo zJ (lfL (fun z=>kA 3 1 cS (e:=9) (e2:=9) (sz:=1) (bytes:=16) (b2:=16) (tok2:= .exact) m z) edL)<|zp<|z8 zl fun h=>⟨(l,wrap .i64 (j+1)),h,wk ⟨[],1,[0,1],2⟩⟩)<|xjL<|jCL ⟨[],0,[0,1],2⟩) fun d=>bEL fun F o=>bEL fun G s=>rCL (kCL 1 Ci (Bl o)<|kCL 3 Ci (wU s) edL)<|rgL<|bFL (rgL<|hKL g<|rJ Ci)<|bEL fun u v=>xo zJ (lfL (fun z=>kA 3 0 cS (e:=9) (e2:=9) (sz:=1) (bytes:=16) (b2:=16) (tok2:= .exact) v z) edL)<|zp<|z8 zl fun h=>⟨(u,wrap .i64 (f+1)),h,wk ⟨[],0,[0],2⟩⟩)<|xjL<|jCL A6) fun c=>bC 1 Aa wU fun H=>rKL Aa
def dL (n:Nat)(a0:zc)(a1:Bool):Option (Cn×Int):=
 (wT n (zc.mk a0.zG a0.yl (zv.mk a0.zt.zh)) a1).bind fun b=>
 if b !=0 then(some (([]:Cn),b))else(if a0.zG !=4 then((vb n (wrap .i64 ((128:Int)+a0.zG)) ([a0.yl]:List Cn)).bind fun c=>
 some (c.1,c.2))else((dH n (zv.mk a0.zt.zh)).bind fun a=>
 if a.2 !=0 then(some (([]:Cn),a.2))else((vb n (wrap .i64 ((160:Int)+a0.zG)) ([a.1]:List Cn)).bind fun d=>
 some (d.1,d.2))))
theorem J7 {n a0 a1 r}:dL n a0 a1=some r→AC mx 121 [.agg (zc.cells a0),qb a1] [] (.tuple [qs r.1,qi r.2]) []:=
 fnL Tryz.func121 rfl<|rgL<|bC 2 A2 Z5 fun a=>rgL<|bFL (rgL<|rKL A2)<|rgL<|bFL (bC 6 A2 wU fun b=>rKL A2)<|bC 2 A2 Wd fun c=>rgL<|bFL (rgL<|rKL A2)<|bC 5 A2 wU fun d=>rKL A2
def u6 (n:Nat)(a0:List zc):Nat→Cn→Int→Option (Ctl (Cn×Int) Cn)
 |0,_,_=>none
 | k+1,d,a=>
  if decide (a<(a0.length:Int))then((zM a0 a).bind fun b=>
  (dL n (zc.mk b.zG b.yl (zv.mk b.zt.zh)) false).bind fun c=>
  if c.2 !=0 then(some (.ret (([]:Cn),c.2)))else((um d c.1).bind fun e=>
  u6 n a0 k e (wrap .i64 (a+1))))else(some (.nxt d))
def kn (n:Nat)(a0:List zc):Option (Cn×Int):=
 (gQ n (a0.length:Int)).bind fun a=>
 if a !=0 then(some (([]:Cn),a))else(yb (u6 n a0 n ([]:Cn) 0) (fun r=>some r) (fun b=>
 some (b,0)))
theorem V1 {n a0 r}:kn n a0=some r→AC mx 51 [ql 3 zc.cells a0] [] (.tuple [qs r.1,qi r.2]) []:=
 fnL Tryz.func51 rfl<|rgL<|bEL fun g b=>rCL (kPL 1 (gg a0)<|kCL 2 A1 (WW b) edL)<|rgL<|bFL (rgL<|rKL A1)<|rgL<|cP 1 (gg a0)<|bcL (fun a=>⟨35,[(5,qs a)]⟩) (fun a=>⟨[],[]⟩) (fun i c=>lpL (fun k x=>u6 n a0 k x.1 x.2) (([]:Cn),0) A1 (fun x=>⟨35,[(5,qs x.1),(16,ql 3 zc.cells a0),(17,qi (a0.length)),(18,qi x.2)]⟩) (fun x=>⟨[],[]⟩) fun k x=>by obtain⟨j,d⟩:=x; rw [u6]; exact rgL<|bFL (zo<|bP 0 vN fun l=>bC 1 A2 J7 fun m=>rgL<|bFL (rgL<|hKL c<|rJ A2)<|bEL fun e f=>xo zJ (kPL 2 (zK f) edL)<|zp<|z8 zl fun h=>⟨(e,wrap .i64 (d+1)),h,wk A2⟩)<|xjL<|jCL A1) fun a=>rgL<|rKL A1
def bG (n:Nat):Nat→Int→Int→Option Int
 |0,_,_=>none
 | k+1,b,a=>
  (if decide (a<(-128))then(some true)else(some (decide (a>127)))).bind fun c=>
  if c then(bG n k (wrap .i64 (b+1)) (Int.fdiv a 256))else(some b)
def bH (n:Nat)(a a0:Int):Nat→(List Int)→Int→Option (List Int)
 |0,_,_=>none
 | k+1,c,b=>
  if decide (b<a)then((WA .i64 a0 (wrap .u64 ((8:Int)*(wrap .u64 (wrap .i64 ((wrap .i64 (a-1))-b)))))).bind fun d=>
  (jR 1 c ([wrap .u8 d]:List Int)).bind fun e=>
  bH n a a0 k e (wrap .i64 (b+1)))else(some c)
def dn (n:Nat)(a0:Int):Option Cn:=
 (bG n  n 1 a0).bind fun a=>
 (bH n a a0 n ([]:List Int) 0).bind fun b=>
 some (b2s b)
theorem Uu {n a0 r}:dn n a0=some r→AC mx 157 [qi a0] [] (qs r) []:=
 fnL Tryz.func157 rfl<|rgL<|rgL<|rgL<|blL (fun a=>⟨37,[(0,qi a0),(3,qi a)]⟩) (fun a=>⟨[],[]⟩) (fun a=>lpL (fun k x=>bG n  k x.1 x.2) (1,a0) A1 (fun x=>⟨37,[(0,qi a0),(3,qi x.1),(4,qi x.2)]⟩) (fun x=>⟨[],[]⟩) fun k x=>by obtain⟨c,d⟩:=x; rw [bG]; exact bEL fun f hE=>rgF hE ⟨37,[(0,qi a0),(3,qi c),(4,qi d),(13,qb f)]⟩ ⟨[],[]⟩ (gFL 3 10 (eJ A1)<|eJ A1)<|bFL (zo<|z8 zJ<|zp<|z8 zl fun h=>⟨(wrap .i64 (c+1),Int.fdiv d 256),h,wk A1⟩)<|xjL<|jnL A1) fun a=>rgL<|rgL<|blL (fun b=>⟨37,[(5, .sl 1 (List.map (cI .u8) b) (.fam 0 (b.length)))]⟩) (fun b=>⟨[],[b.length]⟩) (fun b=>yV (wk (fr':=⟨37,[(0,qi a0),(3,qi a),(5,qn),(18,qi a),(19,qi 0)]⟩) (st':=⟨[],[]⟩) A1)<|yV Wk.nilFam<|lpL (fun k x=>bH n a a0 k x.1 x.2) (([]:List Int),0) A6 (fun x=>⟨37,[(0,qi a0),(3,qi a),(5, .sl 1 (List.map (cI .u8) x.1) (.fam 0 (x.1.length))),(18,qi a),(19,qi x.2)]⟩) (fun x=>⟨[],[x.1.length]⟩) fun k x=>by obtain⟨m,g⟩:=x; rw [bH]; exact rgL<|bFL (zo<|rgL<|bEL fun o i=>bEL fun j l=>xo zJ (kPL 8 (Yh i)<|lfL (fun z=>kA 11 0 (cI .u8) (e:=5) (e2:=5) (sz:=1) (bytes:=1) (b2:=1) (tok2:= .exact) l z) edL)<|zp<|z8 zl fun h=>⟨(j,wrap .i64 (g+1)),h,wk A6⟩)<|xjL<|jnL A6) fun b=>rCL (lfL (fun z=>kB 1 b z) edL)<|rKL Aa
def jP (n:Nat)(a1 a2:Int)(m0:zn):Option zn:=
 (dn n a2).bind fun a=>
 (zZ n a1 a m0).bind fun b=>
 some b
theorem pE {n a1 a2 m0 r}:jP n a1 a2 m0=some r→AC mx 91 [qp 0,qi a1,qi a2] [zn.cells m0] (.tuple []) [zn.cells r]:=
 fnL Tryz.func91 rfl<|bEL fun c a=>bEL fun d b=>xo ZX (kCL 3 A2 (Uu a)<|kCL 4 A3 (yO b) edL)<|nJ A3
def ut (n:Nat)(a1:Int)(m0:zn):Option zn:=
 (jP n 2 a1 m0).bind fun a=>
 some a
theorem qL {n a1 m0 r}:ut n a1 m0=some r→AC mx 52 [qp 0,qi a1] [zn.cells m0] (.tuple []) [zn.cells r]:=
 fnL Tryz.func52 rfl<|bEL fun b a=>xo ZX (kCL 2 A3 (pE a) edL)<|nJ A3
def Xa (n:Nat)(m0:zn):Option zn:=
 some m0
theorem Qk {n m0 r}:Xa n m0=some r→AC mx 54 [qp 0] [zn.cells m0] (.func (.func 104) [qp 0] []) [zn.cells r]:=
 fnL Tryz.func54 rfl<|rgL<|rgL<|rKL A3
def dt (n:Nat)(a0:zB):Option Cn:=
 (um (b2s ([wrap .u8 a0.zA]:List Int)) a0.wj).bind fun a=>
 (um a a0.zY).bind fun b=>
 some b
theorem UA {n a0 r}:dt n a0=some r→AC mx 162 [.agg (zB.cells a0)] [] (qs r) []:=
 fnL Tryz.func162 rfl<|rgL<|bEL fun c a=>bEL fun d b=>rCL (lfL (fun z=>kB 4 ([wrap .u8 a0.zA]:List Int) z)<|kPL 7 (zK a)<|kPL 10 (zK b) edL)<|rKL A2
def Zi (n:Nat)(a0:Cn)(a1:Int):Option (Cn×Int):=
 (if decide (a1<0)then(some true)else(some (decide (a1>7)))).bind fun a=>
 if a then(some (([]:Cn),1))else((gy n a0 a1).bind fun b=>
 if !b then(some (([]:Cn),7))else((um (b2s ([wrap .u8 a1]:List Int)) a0).bind fun c=>
 some (c,0)))
theorem JS {n a0 a1 r}:Zi n a0 a1=some r→AC mx 161 [qs a0,qi a1] [] (.tuple [qs r.1,qi r.2]) []:=
 fnL Tryz.func161 rfl<|rgL<|bEL fun a hE=>rgF hE ⟨22,[(0,qs a0),(1,qi a1),(11,qb a)]⟩ ⟨[],[]⟩ (gFL 3 8 (eJ A1)<|eJ A1)<|bFL (rgL<|rKL A1)<|bC 2 A1 Vo fun c=>bFL (rgL<|rKL A1)<|bEL fun d b=>rCL (lfL (fun z=>kB 3 ([wrap .u8 a1]:List Int) z)<|kPL 5 (zK b) edL)<|rKL A1
def pj (n:Nat):Option Cn:=
 (ba n ([49,46,51,46,54,46,49,46,52,46,49,46,53,56,56,56,56,46,49,46,49]:Cn)).bind fun a=>
 (vb n 6 ([a.1]:List Cn)).bind fun b=>
 (vb n 48 ([b.1]:List Cn)).bind fun c=>
 some c.1
theorem Vw {n r}:pj n  =some r→AC mx 163 [] [] (qs r) []:=
 fnL Tryz.func163 rfl<|rgL<|bC 0 A1 pC fun a=>bC 2 A1 wU fun b=>bC 2 A1 wU fun c=>rgL<|rKL A1
def gq (n:Nat)(a0:zB):Option (Cn×Int):=
 (km n a0).bind fun c=>
 if c !=0 then(some (([]:Cn),c))else((dt n a0).bind fun e=>
 (Zi n e 0).bind fun a=>
 if a.2 !=0 then(some (([]:Cn),a.2))else((vb n 3 ([a.1]:List Cn)).bind fun b=>
 if b.2 !=0 then(some (([]:Cn),b.2))else((pj n).bind fun f=>
 (vb n 48 ([f,b.1]:List Cn)).bind fun d=>
 some (d.1,d.2))))
theorem YP {n a0 r}:gq n a0=some r→AC mx 103 [.agg (zB.cells a0)] [] (.tuple [qs r.1,qi r.2]) []:=
 fnL Tryz.func103 rfl<|rgL<|bC 1 A2 Zq fun e=>rgL<|bFL (rgL<|rKL A2)<|bEL fun f a=>bEL fun g b=>rCL (kCL 1 A2 (UA a)<|kCL 2 A2 (JS b) edL)<|rgL<|bFL (rgL<|rKL A2)<|bC 2 A2 wU fun i=>rgL<|bFL (rgL<|rKL A2)<|bEL fun j c=>bEL fun l d=>rCL (kCL 0 A2 (Vw c)<|kCL 3 A2 (wU d) edL)<|rKL A2
def jo (n:Nat)(a1:ze)(m0:zn):Option zn:=
 (dH n (zv.mk a1.zt.zh)).bind fun a=>
 (ym n a.1 a.2 (zn.mk ([]:Cn) 0)).bind fun d=>
 (gq n (zB.mk a1.zP.zA a1.zP.wj a1.zP.zY)).bind fun b=>
 (ym n b.1 b.2 d).bind fun c=>
 (ym n ([]:Cn) c.f_e m0).bind fun e=>
 (zZ n 48 c.f_b e).bind fun f=>
 some f
theorem pS {n a1 m0 r}:jo n a1 m0=some r→AC mx 104 [qp 0, .agg [ql 1 (cL 3 za.cells) a1.zt.zh,qi a1.zP.zA,qs a1.zP.wj,qs a1.zP.zY]] [zn.cells m0] (.tuple []) [zn.cells r]:=
 fnL Tryz.func104 rfl<|rgL<|rgL<|bEL fun f a=>bEL fun g b=>rCL (kCL 2 A8 (Wd a)<|kCL 5 Aw (yW b) edL)<|bEL fun i c=>bEL fun j d=>rCL (kCL 2 A8 (YP c)<|kCL 5 Aw (yW d) edL)<|bC 3 Ab yW fun l=>bEL fun m e=>xo ZX (kCL 3 Ab (yO e) edL)<|nJ Ab
def vy (n:Nat)(a2:List ze):Nat→Int→Cn→Int→Option (Cn×Int)
 |0,_,_,_=>none
 | k+1,b,c,d=>
  if decide (b<(a2.length:Int))then((zM a2 b).bind fun a=>
  (jo n (ze.mk (zv.mk a.zt.zh) (zB.mk a.zP.zA a.zP.wj a.zP.zY)) (zn.mk c d)).bind fun e=>
  vy n a2 k (wrap .i64 (b+1)) e.f_b e.f_e)else(some (c,d))
def qX (n:Nat)(a1:Int)(a2:List ze)(m0:zn):Option zn:=
 (Xa n (zn.mk ([]:Cn) 0)).bind fun a=>
 (vy n a2 n 0 a.f_b a.f_e).bind fun b=>
 (ym n ([]:Cn) b.2 m0).bind fun c=>
 (zZ n a1 b.1 c).bind fun d=>
 some d
theorem XY {n a1 a2 m0 r}:qX n a1 a2 m0=some r→AC mx 53 [qp 0,qi a1,ql 4 ze.cells a2, .func (.func 54) [] []] [zn.cells m0] (.tuple []) [zn.cells r]:=
 fnL Tryz.func53 rfl<|rgL<|bC 1 A9 Qk fun b=>cP 1 (bZ a2)<|blL (fun a=>⟨33,[(0,qp 0),(1,qi a1),(8,qp 1)]⟩) (fun a=>⟨[zn.cells m0,[qs a.1,qi a.2]],[]⟩) (fun a=>lpL (fun k x=>vy n a2 k x.1 x.2.1 x.2.2) (0,b.f_b,b.f_e) A5 (fun x=>⟨33,[(0,qp 0),(1,qi a1),(8,qp 1),(9, .func (.func 104) [qp 1] []),(14,ql 4 ze.cells a2),(15,qi (a2.length)),(16,qi x.1)]⟩) (fun x=>⟨[zn.cells m0,[qs x.2.1,qi x.2.2]],[]⟩) fun k x=>by obtain⟨d,g,i⟩:=x; rw [vy]; exact rgL<|bFL (zo<|bP 0 jF fun j=>bEL fun c e=>xo zJ (kCL 2 Ah (pS e) edL)<|zp<|z8 zl fun h=>⟨(wrap .i64 (d+1),c.f_b,c.f_e),h,wk As⟩)<|xjL<|jnL A5) fun a=>bC 3 A7 yW fun l=>bEL fun m f=>xo ZX (kCL 4 A7 (yO f) edL)<|nJ A7
def xw (n:Nat)(m0:zn):Option (Cn×Int×zn):=
 (vb n 48 ([m0.f_b]:List Cn)).bind fun a=>
 (if m0.f_e !=0 then(some true)else(some (a.2 !=0))).bind fun b=>
 if b then(some (([]:Cn),2,m0))else(some (a.1,0,m0))
theorem ki {n m0 r}:xw n m0=some r→AC mx 55 [qp 0] [zn.cells m0] (.tuple [qs r.1,qi r.2.1]) [zn.cells r.2.2]:=
 fnL Tryz.func55 rfl<|rgL<|bC 5 A2 wU fun a=>bEL fun b hE=>rgF hE ⟨25,[(4,qs a.1),(23,qb b)]⟩ ⟨[zn.cells m0],[]⟩ (gFL 6 20 (eJ A3)<|eJ A3)<|bFL (rgL<|rKL A3)<|rgL<|rKL A3
def yj (n:Nat)(a0:zz):Option (Cn×Int):=
 (vC n a0).bind fun e=>
 if e !=0 then(some (([]:Cn),e))else((ud n a0.uu).bind fun f=>
 (ym n f.1 f.2 (zn.mk ([]:Cn) 0)).bind fun c=>
 (if !(a0.zC==([]:Cn))then((ba n a0.zC).bind fun g=>
 (ym n ([]:Cn) g.2 c).bind fun C=>
 (zZ n 128 g.1 C).bind fun i=>
 some (i.f_b,i.f_e))else(some (c.f_b,c.f_e))).bind fun a=>
 (if a0.yk !=0 then((bj n a0.yk).bind fun j=>
 (ym n ([]:Cn) j.2 (zn.mk a.1 a.2)).bind fun D=>
 (zZ n 129 j.1 D).bind fun l=>
 some (l.f_b,l.f_e))else(some (a.1,a.2))).bind fun b=>
 (if decide ((a0.zi.length:Int)>0)then((j0 n 162 a0.zi (zn.mk b.1 b.2)).bind fun m=>
 some (m.f_b,m.f_e))else(some (b.1,b.2))).bind fun o=>
 (vZ n 131 a0.xI (zn.mk o.1 o.2)).bind fun E=>
 (vZ n 132 a0.xb E).bind fun F=>
 (vZ n 133 a0.jt F).bind fun d=>
 (if decide ((a0.zy.length:Int)>0)then((kn n a0.zy).bind fun s=>
 (ym n ([]:Cn) s.2 d).bind fun G=>
 (zZ n 166 s.1 G).bind fun u=>
 some (u.f_b,u.f_e))else(some (d.f_b,d.f_e))).bind fun v=>
 (ut n a0.ye (zn.mk v.1 v.2)).bind fun H=>
 (vZ n 135 a0.uc H).bind fun w=>
 if decide ((a0.zg.length:Int)>0)then((qX n 168 a0.zg w).bind fun I=>
 (xw n I).bind fun A=>
 some (A.1,A.2.1))else((xw n w).bind fun B=>
 some (B.1,B.2.1)))
theorem Z2 {n a0 r}:yj n a0=some r→AC mx 14 [.agg (zz.cells a0)] [] (.tuple [qs r.1,qi r.2]) []:=
 fnL Tryz.func14 rfl<|rgL<|bC 1 A2 UM fun m=>rgL<|bFL (rgL<|rKL A2)<|rgL<|bEL fun o e=>bEL fun s f=>rCL (kCL 2 A4 (Qs e)<|kCL 5 A9 (yW f) edL)<|rgL<|cuL (fun a=>⟨95,[(1,qp 0),(5,qp 1)]⟩) (fun a=>⟨[zz.cells a0,[qs a.1,qi a.2]],[]⟩) (fun a=>bFL (bC 2 A4 pC fun u=>bC 1 A9 yW fun v=>bEL fun w g=>xo zl (kCL 1 A9 (yO g) edL)<|jnL A5)<|jnL A5) fun a=>rgL<|cuL (fun b=>⟨95,[(1,qp 0),(5,qp 1)]⟩) (fun b=>⟨[zz.cells a0,[qs b.1,qi b.2]],[]⟩) (fun b=>bFL (bC 2 A4 Ju fun A=>bC 1 A9 yW fun B=>bEL fun C i=>xo zl (kCL 1 A9 (yO i) edL)<|jnL A5)<|jnL A5) fun b=>cP 2 (ue a0.zi)<|cuL (fun c=>⟨95,[(1,qp 0),(5,qp 1)]⟩) (fun c=>⟨[zz.cells a0,[qs c.1,qi c.2]],[]⟩) (fun c=>bFL (bEL fun D j=>xo zl (kCL 2 A9 (ZO j) edL)<|jnL A5)<|jnL A5) fun c=>bC 2 A9 j6 fun E=>bC 2 A9 j6 fun F=>bC 2 A9 j6 fun G=>cP 2 (gg a0.zy)<|cuL (fun d=>⟨95,[(1,qp 0),(5,qp 1)]⟩) (fun d=>⟨[zz.cells a0,[qs d.1,qi d.2]],[]⟩) (fun d=>bFL (bC 2 A4 V1 fun H=>bC 1 A9 yW fun I=>bEL fun J l=>xo zl (kCL 1 A9 (yO l) edL)<|jnL A5)<|jnL A5) fun d=>bC 2 A9 qL fun K=>bC 2 A9 j6 fun L=>cP 2 (bZ a0.zg)<|bFL (bC 2 A9 XY fun M=>bC 0 A9 ki fun N=>rKL A4)<|bC 0 A9 ki fun O=>rKL A4
def qI (n:Nat)(a0:Cn):Option (zz×Int):=
 (Z9 n a0).bind fun c=>
 if c !=0 then(some ((zz.mk 0 ([]:Cn) 0 ([]:List Cn) false false false ([]:List zc) 0 false ([]:List ze)),c))else((pp n a0).bind fun a=>
 if a.2 !=0 then(some ((zz.mk 0 ([]:Cn) 0 ([]:List Cn) false false false ([]:List zc) 0 false ([]:List ze)),a.2))else((qr n a.1).bind fun e=>
 (jE n e).bind fun b=>
 if b.2.yp=true then(some ((zz.mk 0 ([]:Cn) 0 ([]:List Cn) false false false ([]:List zc) 0 false ([]:List ze)),7))else((yj n b.1).bind fun d=>
 (if d.2 !=0 then(some true)else(some (!(d.1==a0)))).bind fun f=>
 if f then(some ((zz.mk 0 ([]:Cn) 0 ([]:List Cn) false false false ([]:List zc) 0 false ([]:List ze)),7))else(some (b.1,0)))))
theorem Xz {n a0 r}:qI n a0=some r→AC mx 71 [qs a0, .func (.func 72) [] [], .func (.func 14) [] []] [] (.tuple [.agg (zz.cells r.1),qi r.2]) []:=
 fnL Tryz.func71 rfl<|rgL<|rgL<|bC 1 A4 Un fun c=>rgL<|bFL (rgL<|rKL A4)<|bC 1 A4 p6 fun d=>rgL<|bFL (rgL<|rKL A8)<|bC 1 A8 gH fun e=>bC 2 Ay VG fun a=>rgL<|bFL (rgL<|rKL Ak)<|bC 2 Ak Z2 fun f=>bEL fun b hE=>rgF hE ⟨56,[(6,qp 0),(8,qp 1),(13,qp 2),(53,qb b)]⟩ ⟨[[qi 0,qs [],qi 0,qn,qb false,qb false,qb false,qn,qi 0,qb false,qn],[qi 0,qs [],qi 0,qn,qb false,qb false,qb false,qn,qi 0,qb false,qn],zz.cells a.1],[]⟩ (gFL 3 49 (eJ C1)<|eJ C1)<|bFL (rgL<|rKL A8)<|rgL<|rKL A8
def ji (n:Nat)(a0:Cn):Option (zz×Int):=
 (qI n a0).bind fun a=>
 some (a.1,a.2)
theorem Z7 {n a0 r}:ji n a0=some r→AC mx 18 [qs a0] [] (.tuple [.agg (zz.cells r.1),qi r.2]) []:=
 fnL Tryz.func18 rfl<|rgL<|bC 1 A2 Xz fun a=>rKL A2
def vX (n:Nat)(rc:zb→Int→Option Int)(a1:Int):Nat→Cn→Option (Ctl Int Unit)
 |0,_=>none
 | k+1,b=>
  if decide ((b.length:Int)>0)then((jn n b).bind fun a=>
  if a.2.2 !=0 then(some (.ret a.2.2))else(if decide ((wrap .i64 (a1+1))≥16)then(some (.ret 8))else((rc a.1 (wrap .i64 (a1+1))).bind fun c=>
  if c !=0 then(some (.ret c))else(vX n rc a1 k a.2.1))))else(some (.nxt ()))
def xR (n:Nat):Nat→zb→Int→Option Int
 |0,_,_=>none
 | kk+1,a0,a1=>
  if(Int.tmod (wrap .i64 (Int.tdiv a0.zF 32)) 2)==0 then(some 0)else(yb (vX n (xR n kk) a1 n a0.zd) (fun r=>some r) (fun a=>
  some 0))
theorem WE {n:Nat}:∀(kk:Nat) {a0:zb} {a1:Int} {r:Int} (_:xR n kk a0 a1=some r),AC mx 204 [.agg (zb.cells a0),qi a1] [] (qi r) []:=by
 intro kk
 induction kk with
 |zero=>intro a0 a1 r h; simp [xR]at h
 | succ kk ih=>
  intro a0 a1 r h
  rw [xR]at h
  exact imA h<|fnL Tryz.func204 rfl<|rgL<|rgL<|bFL (rgL<|rKL A2)<|rgL<|bcL (fun _=>⟨40,[]⟩) (fun _=>⟨[],[]⟩) (fun c a=>lpL (fun k x=>vX n (xR n kk) a1 k x) a0.zd A2 (fun x=>⟨40,[(1,qi a1),(5,qs x)]⟩) (fun x=>⟨[],[]⟩) fun k d=>by rw [vX]; exact rgL<|bFL (zo<|bC 1 A1 gv fun b=>rgL<|bFL (rgL<|hKL a<|rJ A2)<|rgL<|bFL (rgL<|hKL a<|rJ A2)<|bC 3 A2 ih fun e=>rgL<|bFL (rgL<|hKL a<|rJ A2)<|z8 (j3 (P:=Tryz.prog) (gl:=gl0 mx) zl)<|zp fun h=>⟨b.2.1,h,wk A2⟩)<|xjL<|jCL A1) fun f=>rgL<|rKL A1
def kM (n:Nat)(a0:Cn):Option Int:=
 (vH n a0).bind fun a=>
 if a.2 !=0 then(some a.2)else((xR n n a.1 0).bind fun b=>
 some b)
theorem Wj {n a0 r}:kM n a0=some r→AC mx 148 [qs a0] [] (qi r) []:=
 fnL Tryz.func148 rfl<|rgL<|bC 1 A1 jA fun a=>rgL<|bFL (rgL<|rKL A2)<|bC 1 A2 (WE _) fun b=>rKL A2
def vY (n:Nat)(a0:Cn):Option (zb×Int):=
 (kM n a0).bind fun a=>
 if a !=0 then(some ((zb.mk 0 ([]:Cn) ([]:Cn)),a))else((vH n a0).bind fun b=>
 some (b.1,b.2))
theorem WG {n a0 r}:vY n a0=some r→AC mx 73 [qs a0] [] (.tuple [.agg (zb.cells r.1),qi r.2]) []:=
 fnL Tryz.func73 rfl<|rgL<|bC 1 A2 Wj fun a=>rgL<|bFL (rgL<|rKL A2)<|bC 1 A2 jA fun b=>rKL A2
def qh (n:Nat)(a0:zb)(a1:Int):Option zq:=
 (xj n a0.zd).bind fun a=>
 (if a0.zF !=a1 then(some true)else(some (a.2 !=0))).bind fun b=>
 some (zq.mk a.1 0 b)
theorem pU {n a0 a1 r}:qh n a0 a1=some r→AC mx 74 [.agg (zb.cells a0),qi a1] [] (qp 0) [zq.cells r]:=
 fnL Tryz.func74 rfl<|rgL<|rgL<|bC 2 A4 uk fun a=>rgL<|bEL fun b hE=>rgF hE ⟨36,[(5,qp 0)]⟩ ⟨[[ql 3 zb.cells a.1,qi 0,qb b]],[]⟩ (gFL 6 29 (eJ A9)<|eJ A9)<|rgL<|rKL A3
def vA (n:Nat)(a0:Cn):Nat→Int→Int→Option (Ctl Int Int)
 |0,_,_=>none
 | k+1,b,a=>
  if decide (a<(a0.length:Int))then(((yr a0 a).bind fun c=>
  if decide (c<48)then(some true)else((yr a0 a).bind fun d=>
  some (decide (d>57)))).bind fun e=>
  if e then(some (.ret (-1)))else((yr a0 a).bind fun f=>
  vA n a0 k (wrap .i64 ((wrap .i64 ((10:Int)*b))+(wrap .i64 (wrap .u8 (f-48))))) (wrap .i64 (a+1))))else(some (.nxt b))
def zH (n:Nat)(a0:Cn):Option Int:=
 yb (vA n a0 n 0 0) (fun r=>some r) (fun a=>
 some a)
theorem wh {n a0 r}:zH n a0=some r→AC mx 149 [qs a0] [] (qi r) []:=
 fnL Tryz.func149 rfl<|rgL<|rgL<|rgL<|bcL (fun a=>⟨30,[(3,qi a)]⟩) (fun a=>⟨[],[]⟩) (fun l d=>lpL (fun k x=>vA n a0 k x.1 x.2) (0,0) A1 (fun x=>⟨30,[(0,qs a0),(3,qi x.1),(4,qi x.2)]⟩) (fun x=>⟨[],[]⟩) fun k x=>by obtain⟨b,c⟩:=x; rw [vA]; exact rgL<|bFL (zo<|bEL fun e hE=>rgF hE ⟨30,[(0,qs a0),(3,qi b),(4,qi c),(20,qb e)]⟩ ⟨[],[]⟩ (bEL fun m f=>kPL 2 (zS f)<|gFL 5 15 (eJ A1)<|bEL fun o g=>kPL 7 (zS g)<|eJ A1)<|bFL (rgL<|hKL d<|rJ A1)<|bEL fun i j=>xo zJ (kPL 4 (zS j) edL)<|zp<|z8 zl fun h=>⟨(wrap .i64 ((wrap .i64 ((10:Int)*b))+(wrap .i64 (wrap .u8 (i-48)))),wrap .i64 (c+1)),h,wk A1⟩)<|xjL<|jCL A1) fun a=>rgL<|rKL A1
def yU (n:Nat)(a0:yg):Nat→Int→Int→Option Int
 |0,_,_=>none
 | k+1,b,a=>
  if decide (a<a0.qF)then((wq n a0.bw a).bind fun c=>
  yU n a0 k (wrap .i64 (b+c)) (wrap .i64 (a+1)))else(some b)
def xX (n:Nat)(a0:yg):Option (Int×Int):=
 (if decide (a0.bw<1950)then(some true)else(if decide (a0.bw>9999)then(some true)else(if decide (a0.qF<1)then(some true)else(if decide (a0.qF>12)then(some true)else(if decide (a0.pT<1)then(some true)else((wq n a0.bw a0.qF).bind fun a=>
 if decide (a0.pT>a)then(some true)else(if decide (a0.pL<0)then(some true)else(if decide (a0.pL>23)then(some true)else(if decide (a0.ko<0)then(some true)else(if decide (a0.ko>59)then(some true)else(if decide (a0.kr<0)then(some true)else(some (decide (a0.kr>59)))))))))))))).bind fun b=>
 if b then(some (0,12))else((vx n a0.bw).bind fun c=>
 (yU n a0 n (wrap .i64 ((wrap .i64 (c+a0.pT))-1)) 1).bind fun d=>
 some (wrap .i64 ((wrap .i64 ((wrap .i64 ((wrap .i64 ((86400:Int)*d))+(wrap .i64 ((3600:Int)*a0.pL))))+(wrap .i64 ((60:Int)*a0.ko))))+a0.kr),0))
theorem Xy {n a0 r}:xX n a0=some r→AC mx 150 [.agg (yg.cells a0)] [] (.tuple [qi r.1,qi r.2]) []:=
 fnL Tryz.func150 rfl<|rgL<|bEL fun c hE=>lfL (fun z=>drw [0,1,2,3,4,5,6,7,8,9,10,11,12,13,14,15,16,17,18,19,20,21,22,23,24,25,26,27,28,29,30,31,32,33,34,35,36,37,38,39,40,41,42,43,44,45,46,47,48,49,50,51,52,53,54,55,56,57,58,59,60,61,62] [30] [[],[0],[0,1],[0,1,2],zx 0 4,zx 0 5,zx 0 6,zx 0 7,zx 0 8,zx 0 9,zx 0 10,zx 0 11,zx 0 12,zx 0 13,zx 0 14,zx 0 15,zx 0 16,zx 0 17,zx 0 18,zx 0 19,zx 0 20,zx 0 21,zx 0 22,zx 0 23,zx 0 24,zx 0 25,zx 0 24,zx 0 24 ++ [26],zx 0 24,zx 0 24 ++ [28],zx 0 24++zx 26 4,zx 0 31,zx 0 32,zx 0 33,zx 0 34,zx 0 35,zx 0 36,zx 0 37,zx 0 38,zx 0 39,zx 0 40,zx 0 41,zx 0 42,zx 0 43,zx 0 44,zx 0 45,zx 0 46,zx 0 47,zx 0 48,zx 0 49,zx 0 50,zx 0 51,zx 0 52,zx 0 53,zx 0 54,zx 0 55,zx 0 56,zx 0 57,zx 0 58,zx 0 59,zx 0 60,zx 0 61,zx 0 62] ⟨101,[(1,qp 0),(68,qb c)]⟩ ⟨[yg.cells a0],[]⟩ (have h:=hE; dS (zx 0 4)<|hF 9 h (fun h=>dS (zx 4 26)<|dF zW<|dS (zx 31 32)<|by cases h; exact dE A3) fun h=>dS (zx 4 5)<|hF 14 h (fun h=>dS (zx 9 21)<|dF zW<|dS (zx 31 32)<|by cases h; exact dE A3) fun h=>dS (zx 9 5)<|hF 19 h (fun h=>dS (zx 14 16)<|dF zW<|dS (zx 31 32)<|by cases h; exact dE A3) fun h=>dS (zx 14 5)<|hF 24 h (fun h=>dS (zx 19 11)<|dF zW<|dS (zx 31 32)<|by cases h; exact dE A3) fun h=>dS (zx 19 5)<|hF 29 h (fun h=>dS (zx 24 6)<|dF zW<|dS (zx 31 32)<|by cases h; exact dE A3) fun h=>bE h fun l d h=>dS (zx 24 6)<|dC zW A2 (qC d)<|dS [31,32,33]<|hF 39 h (fun h=>dS (zx 34 29)<|by cases h; exact dE A3) fun h=>dS (zx 34 5)<|hF 44 h (fun h=>dS (zx 39 24)<|by cases h; exact dE A3) fun h=>dS (zx 39 5)<|hF 49 h (fun h=>dS (zx 44 19)<|by cases h; exact dE A3) fun h=>dS (zx 44 5)<|hF 54 h (fun h=>dS (zx 49 14)<|by cases h; exact dE A3) fun h=>dS (zx 49 5)<|hF 59 h (fun h=>dS (zx 54 9)<|by cases h; exact dE A3) fun h=>dS (zx 54 5)<|hF 64 h (fun h=>dS (zx 59 4)<|by cases h; exact dE A3) fun h=>dS (zx 59 4)<|by cases h; exact dE A3) z)<|bFL (rgL<|rKL A2)<|bEL fun b e=>lfL (fun z=>zs [0,1,3,4,2,5,6,7] [2] [[],[0],[0,1],[],[3],[0,1,2,3,4],[0,1,2,3,4,5],[0,1,2,3,4,5,6]] [] [(1,qp 0),(4,qi (wrap .i64 ((wrap .i64 (b+a0.pT))-1)))] (dS [0,1,3,4]<|dC zW A2 (bu e)<|dS [5,6,7]<|dE A3) z)<|rgL<|blL (fun a=>⟨101,[(1,qp 0),(4,qi a)]⟩) (fun a=>⟨[yg.cells a0],[]⟩) (fun a=>lpL (fun k x=>yU n a0 k x.1 x.2) (wrap .i64 ((wrap .i64 (b+a0.pT))-1),1) A3 (fun x=>⟨101,[(1,qp 0),(4,qi x.1),(5,qi x.2)]⟩) (fun x=>⟨[yg.cells a0],[]⟩) fun k x=>by obtain⟨f,g⟩:=x; rw [yU]; exact rgL<|bFL (zo<|bEL fun i j=>xo zJ (kCL 4 A2 (qC j) edL)<|zp<|z8 zl fun h=>⟨(wrap .i64 (f+i),wrap .i64 (g+1)),h,wk A3⟩)<|xjL<|jnL A3) fun a=>rgL<|rKL A2
def zT (n:Nat)(a0:Int)(a1:Cn):Option (Int×Int):=
 (if a0 !=23 then(some (a0 !=24))else(some false)).bind fun d=>
 if d then(some (0,5))else((if a0==24 then(some 4)else(some 2)).bind fun a=>
 (if(a1.length:Int) !=(wrap .i64 (a+11))then(some true)else((yr a1 (wrap .i64 ((a1.length:Int)-1))).bind fun e=>
 if e !=90 then(some true)else((ssl a1 0 (wrap .i64 ((a1.length:Int)-1))).bind fun f=>
 (zH n f).bind fun g=>
 some (decide (g<0))))).bind fun i=>
 if i then(some (0,12))else((ssl a1 0 a).bind fun j=>
 (zH n j).bind fun b=>
 yb ((if a0==24 then(some (decide (b<2050)))else(some false)).bind fun l=>
 if l then(some (.ret (0,12)))else((if a0==23 then(some (decide (b≥50)))else(some false)).bind fun m=>
 if m then(some (.nxt (wrap .i64 (b+1900))))else(if a0==23 then(some (.nxt (wrap .i64 (b+2000))))else(some (.nxt b))))) (fun r=>some r) (fun o=>
 (ssl a1 a (wrap .i64 (a+2))).bind fun s=>
 (ssl a1 (wrap .i64 (a+2)) (wrap .i64 (a+4))).bind fun u=>
 (ssl a1 (wrap .i64 (a+4)) (wrap .i64 (a+6))).bind fun v=>
 (ssl a1 (wrap .i64 (a+6)) (wrap .i64 (a+8))).bind fun w=>
 (ssl a1 (wrap .i64 (a+8)) (wrap .i64 (a+10))).bind fun A=>
 (zH n s).bind fun B=>
 (zH n u).bind fun C=>
 (zH n v).bind fun D=>
 (zH n w).bind fun E=>
 (zH n A).bind fun F=>
 (xX n (yg.mk o B C D E F)).bind fun c=>
 some (c.1,c.2))))
theorem Yg {n a0 a1 r}:zT n a0 a1=some r→AC mx 75 [qi a0,qs a1] [] (.tuple [qi r.1,qi r.2]) []:=
 fnL Tryz.func75 rfl<|rgL<|bEL fun l hE=>rgF hE ⟨102,[(0,qi a0),(1,qs a1),(13,qb l)]⟩ ⟨[],[]⟩ (gFL 3 10 (eJ A1)<|eJ A1)<|bFL (rgL<|rKL A1)<|rgL<|rgL<|cuL (fun a=>⟨102,[(0,qi a0),(1,qs a1),(6,qi a)]⟩) (fun a=>⟨[],[]⟩) (fun a=>bFL (z8 zl<|jnL A1)<|jnL A1) fun a=>bEL fun m hE=>rgF hE ⟨102,[(0,qi a0),(1,qs a1),(6,qi a),(37,qb m)]⟩ ⟨[],[]⟩ (gFL 6 21 (eJ A1)<|bEL fun J o=>kPL 10 (zS o)<|gFL 14 29 (eJ A1)<|bEL fun K s=>bEL fun L u=>kPL 18 (xn s)<|kCL 19 A1 (wh u)<|eJ A1)<|bFL (rgL<|rKL A1)<|bEL fun M v=>bEL fun i w=>rCL (kPL 2 (xn v)<|kCL 3 A1 (wh w) edL)<|bcL (fun g=>⟨102,[(1,qs a1),(6,qi a),(7,qi g)]⟩) (fun g=>⟨[],[]⟩) (fun N A=>bEL fun B hE=>rgF hE ⟨102,[(0,qi a0),(1,qs a1),(6,qi a),(7,qi i),(42,qb B)]⟩ ⟨[],[]⟩ (gFL 3 45 (eJ A1)<|eJ A1)<|bFL (rgL<|ya<|hvL A<|yn<|rJ A1)<|bEL fun C hE=>rgF hE ⟨102,[(0,qi a0),(1,qs a1),(6,qi a),(7,qi i),(49,qb C)]⟩ ⟨[],[]⟩ (gFL 3 52 (eJ A1)<|eJ A1)<|bFL (z8 zX<|jCL A1)<|rgL<|bFL (z8 zX<|jCL A1)<|jCL A1) fun g=>bEL fun O b=>bEL fun P c=>bEL fun Q d=>bEL fun R e=>bEL fun S f=>bEL fun T D=>bEL fun U E=>bEL fun V F=>bEL fun W G=>bEL fun X H=>bEL fun j I=>lfL (fun z=>zs [0,1,2,3,4,5,7,8,9,10,11,12,14,15,16,17,18,19,21,22,23,24,25,26,28,29,30,31,32,33,6,13,20,27,34,35,36,37,38,39,40] [6,13,20,27,34,36] [[],[],[],[],[3],[1,2,3,4],[1,2,3,4,5],[],[],[8],[],[10],[7,8,9,10,11],[1,2,3,4,5,6,7,8,9,10,11,12],[],[],[15],[],[17],[14,15,16,17,18],[1,2,3,4,5,6,7,8,9,10,11,12,13,14,15,16,17,18,19],[],[],[22],[],[24],[21,22,23,24,25],[1,2,3,4,5,6,7,8,9,10,11,12,13,14,15,16,17,18,19,20,21,22,23,24,25,26],[],[],[29],[],[31],[28,29,30,31,32],[1,2,3,4,5,6,7,8,9,10,11,12,13,14,15,16,17,18,19,20,21,22,23,24,25,26,27,28,29,30,31,32,33],[0,1,2,3,4,5,6,7,8,9,10,11,12,13,14,15,16,17,18,19,20,21,22,23,24,25,26,27,28,29,30,31,32,33,34],[0,1,2,3,4,5,6,7,8,9,10,11,12,13,14,15,16,17,18,19,20,21,22,23,24,25,26,27,28,29,30,31,32,33,34,35],[0,1,2,3,4,5,6,7,8,9,10,11,12,13,14,15,16,17,18,19,20,21,22,23,24,25,26,27,28,29,30,31,32,33,34,35,36],[0,1,2,3,4,5,6,7,8,9,10,11,12,13,14,15,16,17,18,19,20,21,22,23,24,25,26,27,28,29,30,31,32,33,34,35,36],[0,1,2,3,4,5,6,7,8,9,10,11,12,13,14,15,16,17,18,19,20,21,22,23,24,25,26,27,28,29,30,31,32,33,34,35,36,37,38],[0,1,2,3,4,5,6,7,8,9,10,11,12,13,14,15,16,17,18,19,20,21,22,23,24,25,26,27,28,29,30,31,32,33,34,35,36,37,38,39]] [] [(4,qi j.1),(5,qi j.2)] (dS (zx 0 5)<|dP (zO b)<|dS (zx 7 5)<|dP (zO c)<|dS (zx 14 5)<|dP (zO d)<|dS (zx 21 5)<|dP (zO e)<|dS (zx 28 5)<|dP (zO f)<|dC (zr 33 (zO f) (zr 26 (zO e) (zr 19 (zO d) (zr 12 (zO c) (zr 5 (zO b) zW))))) A1 (wh D)<|dC (zr 33 (zO f) (zr 26 (zO e) (zr 19 (zO d) (zr 12 (zO c) (zr 5 (zO b) zW))))) A1 (wh E)<|dC (zr 33 (zO f) (zr 26 (zO e) (zr 19 (zO d) (zr 12 (zO c) (zr 5 (zO b) zW))))) A1 (wh F)<|dC (zr 33 (zO f) (zr 26 (zO e) (zr 19 (zO d) (zr 12 (zO c) (zr 5 (zO b) zW))))) A1 (wh G)<|dC (zr 33 (zO f) (zr 26 (zO e) (zr 19 (zO d) (zr 12 (zO c) (zr 5 (zO b) zW))))) A1 (wh H)<|dS [35]<|dC (zr 33 (zO f) (zr 26 (zO e) (zr 19 (zO d) (zr 12 (zO c) (zr 5 (zO b) zW))))) A1 (Xy I)<|dS (zx 37 4)<|dE A1) z)<|rKL A1
def zU (n:Nat)(a1:Int)(m0:zq):Option (zb×Bool×zq):=
 (if m0.gV=true then(some true)else(if decide (m0.dh≥(m0.f_l.length:Int))then(some true)else((zM m0.f_l m0.dh).bind fun a=>
 some (a.zF !=a1)))).bind fun b=>
 if b then(some ((zb.mk 0 ([]:Cn) ([]:Cn)),false,m0))else((zM m0.f_l (wrap .i64 ((wrap .i64 (m0.dh+1))-1))).bind fun c=>
 some (c,true,(zq.mk m0.f_l (wrap .i64 (m0.dh+1)) m0.gV)))
theorem xm {n a1 m0 r}:zU n a1 m0=some r→AC mx 76 [qp 0,qi a1] [zq.cells m0] (.tuple [.agg (zb.cells r.1),qb r.2.1]) [zq.cells r.2.2]:=
 fnL Tryz.func76 rfl<|rgL<|bEL fun b hE=>lfL (fun z=>drw [0,1,2,3,4,5,6,7,8,9,10,11,12,13,14,15,16,17,18,19,20,21,22,23,24,25,26,27,28,29,30] [] [[],[0],[0,1],[0,1,2],zx 0 4,zx 0 5,zx 0 6,zx 0 7,zx 0 8,zx 0 5,zx 0 5 ++ [9],zx 0 5 ++ [9,10],zx 0 5 ++ [9,10,11],zx 0 5++zx 9 4,zx 0 14,zx 0 15,zx 0 16,zx 0 17,zx 0 18,zx 0 19,zx 0 20,zx 0 17,zx 0 17 ++ [21],zx 0 17 ++ [21,22],zx 0 17 ++ [21,22,23],zx 0 25,zx 0 26,zx 0 27,zx 0 17,zx 0 29,zx 0 30] ⟨56,[(0,qp 0),(4,qp 1),(36,qb b)]⟩ ⟨[zq.cells m0,[qi 0,qs [],qs []]],[]⟩ (have h:=hE; dS (zx 0 5)<|hF 10 h (fun h=>dS (zx 5 26)<|by cases h; exact dE A5) fun h=>dS (zx 5 8)<|dP (xF m0.f_l)<|dS [14,15,16]<|hF 22 h (fun h=>dS (zx 17 14)<|by cases h; exact dE A5) fun h=>bE h fun e c h=>dS (zx 17 8)<|dP (yN c)<|dS (zx 26 5)<|by cases h; exact dE A5) z)<|bFL (rgL<|rKL A7)<|rgL<|bEL fun d a=>lfL (fun z=>zm [0,1,2,3,4,5,6,7,8,9,10,11,12] [11] [[],[0],[0,1],[0,1,2],[],[4],[4,5],[4,5,6],[4,5,6,7],[0,1,2,3,4,5,6,7,8],[0,1,2,3,4,5,6,7,8,9],[0,1,2,3,4,5,6,7,8,9,10],[0,1,2,3,4,5,6,7,8,9,10,11]] [] [(4,qp 1),(5,qb true)] ⟨[[ql 3 zb.cells m0.f_l,qi (wrap .i64 (m0.dh+1)),qb m0.gV],zb.cells d],[]⟩ (dS (zx 0 9)<|dP (yN a)<|dS [10]<|dF (zr 9 (yN a) zW)<|dS [12]<|dE A5) z)<|rKL A7
def zL (n:Nat)(a0:Cn):Nat→Cn→Int→Bool→Int→Int→Option (Ctl (Cn×Int) (Cn×Bool))
 |0,_,_,_,_,_=>none
 | k+1,g,a,i,d,c=>
  if decide (c<(a0.length:Int))then(yb ((if !i then((yr a0 c).bind fun j=>
  some (j==128))else(some false)).bind fun l=>
  if l then(some (.ret (([]:Cn),11)))else((yr a0 c).bind fun b=>
  if decide ((wrap .i64 ((wrap .i64 ((128:Int)*a))+(wrap .i64 (Int.tmod b 128))))>2147483727)then(some (.ret (([]:Cn),11)))else((yr a0 c).bind fun e=>
  if decide (e≥128)then(some (.nxt (g,wrap .i64 ((wrap .i64 ((128:Int)*a))+(wrap .i64 (Int.tmod b 128))),decide (e≥128),d)))else(if d==0 then((z7 n n (if 2<(wrap .i64 (Int.tdiv (wrap .i64 ((wrap .i64 ((128:Int)*a))+(wrap .i64 (Int.tmod b 128)))) 40))then 2 else wrap .i64 (Int.tdiv (wrap .i64 ((wrap .i64 ((128:Int)*a))+(wrap .i64 (Int.tmod b 128)))) 40))).bind fun m=>
  (um m ([46]:Cn)).bind fun o=>
  (z7 n n (wrap .i64 ((wrap .i64 ((wrap .i64 ((128:Int)*a))+(wrap .i64 (Int.tmod b 128))))-(wrap .i64 ((40:Int)*(if 2<(wrap .i64 (Int.tdiv (wrap .i64 ((wrap .i64 ((128:Int)*a))+(wrap .i64 (Int.tmod b 128)))) 40))then 2 else wrap .i64 (Int.tdiv (wrap .i64 ((wrap .i64 ((128:Int)*a))+(wrap .i64 (Int.tmod b 128)))) 40))))))).bind fun s=>
  (um o s).bind fun u=>
  some (.nxt (u,0,decide (e≥128),2)))else((z7 n n (wrap .i64 ((wrap .i64 ((128:Int)*a))+(wrap .i64 (Int.tmod b 128))))).bind fun v=>
  (um ([46]:Cn) v).bind fun w=>
  (um g w).bind fun A=>
  if decide ((wrap .i64 (d+1))>12)then(some (.ret (([]:Cn),11)))else(some (.nxt (A,0,decide (e≥128),wrap .i64 (d+1))))))))) (fun r=>some (.ret r)) (fun f=>
  zL n a0 k f.1 f.2.1 f.2.2.1 f.2.2.2 (wrap .i64 (c+1))))else(some (.nxt (g,i)))
def zE (n:Nat)(a0:Cn):Option (Cn×Int):=
 yb (zL n a0 n ([]:Cn) 0 false 0 0) (fun r=>some r) (fun a=>
 (if(a0.length:Int)==0 then(some true)else(if a.2=true then(some true)else((wD n a.1).bind fun b=>
 some (!b)))).bind fun c=>
 if c then(some (([]:Cn),11))else(some (a.1,0)))
theorem jk {n a0 r}:zE n a0=some r→AC mx 77 [qs a0] [] (.tuple [qs r.1,qi r.2]) []:=
 fnL Tryz.func77 rfl<|rgL<|rgL<|rgL<|rgL<|bcL (fun b=>⟨74,[(0,qs a0),(4,qs b.1),(6,qb b.2)]⟩) (fun b=>⟨[],[]⟩) (fun D c=>lpL (fun k x=>zL n a0 k x.1 x.2.1 x.2.2.1 x.2.2.2.1 x.2.2.2.2) (([]:Cn),0,false,0,0) A1 (fun x=>⟨74,[(0,qs a0),(4,qs x.1),(5,qi x.2.1),(6,qb x.2.2.1),(7,qi x.2.2.2.1),(8,qi x.2.2.2.2)]⟩) (fun x=>⟨[],[]⟩) fun k x=>by obtain⟨f,g,E,i,d⟩:=x; rw [zL]; exact rgL<|bFL (bcL (fun a=>⟨74,[(0,qs a0),(4,qs a.1),(5,qi a.2.1),(6,qb a.2.2.1),(7,qi a.2.2.2),(8,qi d)]⟩) (fun a=>⟨[],[]⟩) (fun F e=>bEL fun j hE=>rgF hE ⟨74,[(0,qs a0),(4,qs f),(5,qi g),(7,qi i),(8,qi d),(23,qb j)]⟩ ⟨[],[]⟩ (gFL 3 18 (bEL fun G l=>kPL 5 (zS l)<|eJ A1)<|eJ A1)<|bFL (rgL<|ya<|hvL e<|yn<|wo<|hvL c<|yn<|rJ A1)<|bP 4 zS fun H=>rgL<|bFL (rgL<|ya<|hvL e<|yn<|wo<|hvL c<|yn<|rJ A1)<|bP 2 zS fun I=>rgL<|bFL (bW<|dM<|jCL A1)<|rgL<|bFL (rgL<|bEL fun J m=>bEL fun K o=>bEL fun L s=>bEL fun M u=>rCL (kCL 1 A1 (uK _ m)<|kPL 2 (zK o)<|kCL 7 A1 (uK _ s)<|kPL 8 (zK u) edL)<|rgL<|rgL<|bNL<|jCL A1)<|bEL fun N v=>bEL fun O w=>bEL fun P A=>rCL (kCL 2 A1 (uK _ v)<|kPL 3 (zK w)<|kPL 4 (zK A) edL)<|rgL<|rgL<|bFL (rgL<|ya<|hvL e<|yn<|wo<|hvL c<|yn<|rJ A1)<|jCL A1) fun a=>z8 zl fun h=>⟨(a.1,a.2.1,a.2.2.1,a.2.2.2,wrap .i64 (d+1)),h,wk A1⟩)<|xjL<|jCL A1) fun b=>bEL fun B hE=>rgF hE ⟨74,[(4,qs b.1),(72,qb B)]⟩ ⟨[],[]⟩ (gFL 4 65 (eJ A1)<|gFL 7 68 (eJ A1)<|bEL fun Q C=>kCL 8 A1 (jz C)<|eJ A1)<|bFL (rgL<|rKL A1)<|rgL<|rKL A1
def wn (n:Nat)(a0:Cn):Option (Cn×Int×Int):=
 (if(a0.length:Int)==0 then(some true)else((yr a0 0).bind fun a=>
 if decide (a>7)then(some true)else((yr a0 0).bind fun b=>
 if decide (b>0)then(if(a0.length:Int)==1 then(some true)else((yr a0 (wrap .i64 ((a0.length:Int)-1))).bind fun c=>
 (yr a0 0).bind fun d=>
 (Uy .i64 1 d).bind fun e=>
 (PC (wrap .i64 c) e).bind fun f=>
 some (f !=0)))else(some false)))).bind fun g=>
 if g then(some (([]:Cn),0,7))else((ssl a0 1 (a0.length)).bind fun i=>
 (yr a0 0).bind fun j=>
 some (i,wrap .i64 j,0))
theorem pX {n a0 r}:wn n a0=some r→AC mx 151 [qs a0] [] (.tuple [qs r.1,qi r.2.1,qi r.2.2]) []:=
 fnL Tryz.func151 rfl<|rgL<|bEL fun a hE=>lfL (fun z=>drw [0,1,2,3,4,5,6,7,8,9,10,11,12,13,14,15,16,17,18,19,20,21,22,23,24,25,26,27,28,29,30] [] [[],[0],[0,1],[0,1,2],zx 0 4,zx 0 5,zx 0 6,zx 0 7,zx 0 8,zx 0 9,zx 0 10,zx 0 11,zx 0 12,zx 0 13,zx 0 14,zx 0 15,zx 0 16,zx 0 17,zx 0 17,zx 0 17 ++ [18],zx 0 17 ++ [18,19],zx 0 21,zx 0 22,zx 0 17,zx 0 17 ++ [23],zx 0 17 ++ [23,24],zx 0 26,zx 0 27,zx 0 28,zx 0 29,zx 0 30] ⟨41,[(0,qs a0),(35,qb a)]⟩ ⟨[],[]⟩ (have h:=hE; dS (zx 0 4)<|hF 8 h (fun h=>dS (zx 4 27)<|by cases h; exact dE A1) fun h=>bE h fun o b h=>dS [4]<|dP (zS b)<|dS [6,7,8]<|hF 13 h (fun h=>dS (zx 9 22)<|by cases h; exact dE A1) fun h=>bE h fun s c h=>dS [9]<|dP (zS c)<|dS [11,12]<|hF 17 h (fun h=>dS (zx 13 4)<|hF 21 h (fun h=>dS (zx 17 14)<|by cases h; exact dE A1) fun h=>bE h fun u d h=>bE h fun v e h=>bE h fun w f h=>bE h fun A g h=>dS (zx 17 4)<|dP (zS d)<|dS [22,23]<|dP (zS e)<|dP (rE f)<|dP (BT g)<|dS (zx 27 4)<|by cases h; exact dE A1) fun h=>dS (zx 13 18)<|by cases h; exact dE A1) z)<|bFL (rgL<|rKL A1)<|bEL fun i j=>bEL fun l m=>lfL (fun z=>zs [0,1,2,3,4,5,6,7] [] [[],[0],[],[2],[2,3],[0,1],[0,1,2,3,4,5],[0,1,2,3,4,5,6]] [] [(2,qs i),(3,qi (wrap .i64 l)),(4,qi 0)] (dS [0]<|dP (xc j)<|dS [2]<|dP (zS m)<|dS (zx 4 4)<|dE A1) z)<|rKL A1
def vR (n:Nat)(b:(Cn×Int×Int)):Nat→Int→Int→Option Int
 |0,_,_=>none
 | k+1,c,a=>
  if decide (a<(wrap .i64 ((wrap .i64 ((8:Int)*(b.1.length:Int)))-b.2.1)))then(((yr b.1 (wrap .i64 (Int.tdiv a 8))).bind fun d=>
  (WA .u8 d (wrap .i64 ((7:Int)-(Int.tmod a 8)))).bind fun e=>
  if(Int.tmod e 2)==1 then((Uy .i64 1 a).bind fun f=>
  some (ior .i64 c f))else(some c)).bind fun g=>
  vR n b k g (wrap .i64 (a+1)))else(some c)
def y6 (n:Nat)(a0:Cn):Option (Int×Int):=
 (wn n a0).bind fun a=>
 if a.2.2 !=0 then(some (0,a.2.2))else((if decide ((wrap .i64 ((wrap .i64 ((8:Int)*(a.1.length:Int)))-a.2.1))>0)then((yr a.1 (wrap .i64 ((a.1.length:Int)-1))).bind fun b=>
 (WA .u8 b a.2.1).bind fun c=>
 some ((Int.tmod c 2)==0))else(some false)).bind fun d=>
 if d then(some (0,7))else(if decide ((wrap .i64 ((wrap .i64 ((8:Int)*(a.1.length:Int)))-a.2.1))>16)then(some (0,1))else((vR n a n 0 0).bind fun e=>
 some (e,0))))
theorem Wl {n a0 r}:y6 n a0=some r→AC mx 78 [qs a0] [] (.tuple [qi r.1,qi r.2]) []:=
 fnL Tryz.func78 rfl<|rgL<|bC 1 A1 pX fun a=>rgL<|bFL (rgL<|rKL A1)<|rgL<|bEL fun e hE=>rgF hE ⟨59,[(4,qs a.1),(7,qi (wrap .i64 ((wrap .i64 ((8:Int)*(a.1.length:Int)))-a.2.1))),(36,qb e)]⟩ ⟨[],[]⟩ (gFL 3 26 (bEL fun m f=>bEL fun o g=>kPL 7 (zS f)<|kPL 9 (Jl g)<|eJ A1)<|eJ A1)<|bFL (rgL<|rKL A1)<|rgL<|bFL (rgL<|rKL A1)<|rgL<|rgL<|blL (fun c=>⟨59,[(8,qi c)]⟩) (fun c=>⟨[],[]⟩) (fun c=>lpL (fun k x=>vR n a k x.1 x.2) (0,0) A1 (fun x=>⟨59,[(4,qs a.1),(7,qi (wrap .i64 ((wrap .i64 ((8:Int)*(a.1.length:Int)))-a.2.1))),(8,qi x.1),(9,qi x.2)]⟩) (fun x=>⟨[],[]⟩) fun k x=>by obtain⟨s,d⟩:=x; rw [vR]; exact rgL<|bFL (blL (fun b=>⟨59,[(4,qs a.1),(7,qi (wrap .i64 ((wrap .i64 ((8:Int)*(a.1.length:Int)))-a.2.1))),(8,qi b),(9,qi d)]⟩) (fun b=>⟨[],[]⟩) (fun b=>bEL fun u i=>bEL fun v j=>rCL (kPL 3 (zS i)<|kPL 7 (Jl j) edL)<|bFL (bEL fun w l=>xo zX (kPL 2 (Dr l) edL)<|jnL A1)<|jnL A1) fun b=>z8 zl fun h=>⟨(b,wrap .i64 (d+1)),h,wk A1⟩)<|xjL<|jnL A1) fun c=>rgL<|rKL A1
def yo (n:Nat) (a:((List zb)×Int)):Nat→(List Cn)→Int→Bool→Option ((List Cn)×Bool)
 |0,_,_,_=>none
 | k+1,c,b,d=>
  if decide (b<(a.1.length:Int))then((zM a.1 b).bind fun f=>
  (zE n f.zd).bind fun e=>
  (if d then(some true)else(some (e.2 !=0))).bind fun g=>
  (jR 16 c ([e.1]:List Cn)).bind fun i=>
  yo n a k i (wrap .i64 (b+1)) g)else(some (c,d))
def yB (n:Nat)(a1:zb)(m0:zq):Option ((List Cn)×zq):=
 (xj n a1.zd).bind fun a=>
 (if m0.gV=true then(some true)else(some (a.2 !=0))).bind fun c=>
 (yo n a n ([]:List Cn) 0 c).bind fun b=>
 some (b.1,(zq.mk m0.f_l m0.dh b.2))
theorem pV {n a1 m0 r}:yB n a1 m0=some r→AC mx 79 [qp 0, .agg (zb.cells a1)] [zq.cells m0] (ql 1 cS r.1) [zq.cells r.2]:=
 fnL Tryz.func79 rfl<|rgL<|rgL<|bC 2 A4 uk fun b=>bEL fun c hE=>rgF hE ⟨59,[(0,qp 0),(5,qn),(6,ql 3 zb.cells b.1)]⟩ ⟨[[ql 3 zb.cells m0.f_l,qi m0.dh,qb c]],[]⟩ (gFL 6 22 (eJ A7)<|eJ A7)<|rgL<|blL (fun a=>⟨59,[(5, .sl 1 (List.map cS a.1) (.fam 0 (a.1.length)))]⟩) (fun a=>⟨[[ql 3 zb.cells m0.f_l,qi m0.dh,qb a.2]],[a.1.length]⟩) (fun a=>yV (wk (fr':=⟨59,[(0,qp 0),(5,qn),(6,ql 3 zb.cells b.1),(8,qi 0)]⟩) (st':=⟨[[ql 3 zb.cells m0.f_l,qi m0.dh,qb c]],[]⟩) A3)<|yV Wk.nilFam<|lpL (fun k x=>yo n b k x.1 x.2.1 x.2.2) (([]:List Cn),0,c) Ai (fun x=>⟨59,[(0,qp 0),(5, .sl 1 (List.map cS x.1) (.fam 0 (x.1.length))),(6,ql 3 zb.cells b.1),(8,qi x.2.1)]⟩) (fun x=>⟨[[ql 3 zb.cells m0.f_l,qi m0.dh,qb x.2.2]],[x.1.length]⟩) fun k x=>by obtain⟨d,f,s⟩:=x; rw [yo]; exact cP 2 (xF b.1)<|bFL (zo<|bEL fun u i=>bEL fun j l=>rCL (kPL 2 (yN i)<|kCL 5 Aj (jk l) edL)<|bEL fun g hE=>rgF hE ⟨59,[(0,qp 0),(5, .sl 1 (List.map cS d) (.fam 0 (d.length))),(6,ql 3 zb.cells b.1),(8,qi f),(9,qs j.1)]⟩ ⟨[[ql 3 zb.cells m0.f_l,qi m0.dh,qb g]],[d.length]⟩ (gFL 6 48 (eJ Ai)<|eJ Ai)<|bEL fun m o=>xo zJ (lfL (fun z=>kA 3 0 cS (e:=9) (e2:=9) (sz:=1) (bytes:=16) (b2:=16) (tok2:= .exact) o z) edL)<|zp<|z8 zl fun h=>⟨(m,wrap .i64 (f+1),g),h,wk Ai⟩)<|xjL<|jnL Ai) fun a=>rgL<|rKL Ax
def yL (n:Nat)(a1:Int)(m0:zq):Option (Bool×zq):=
 (zU n a1 m0).bind fun a=>
 some (a.2.1,a.2.2)
theorem uL {n a1 m0 r}:yL n a1 m0=some r→AC mx 80 [qp 0,qi a1] [zq.cells m0] (qb r.1) [zq.cells r.2]:=
 fnL Tryz.func80 rfl<|rgL<|bC 2 A3 xm fun a=>rgL<|rKL A7
def va (n:Nat)(a0:zb)(a1:Int):Option (zI×Int):=
 if a0.zF !=a1 then(some ((zI.mk ([]:List zb) 0),5))else((xj n a0.zd).bind fun a=>
 some ((zI.mk a.1 0),a.2))
theorem jq {n a0 a1 r}:va n a0 a1=some r→AC mx 205 [.agg (zb.cells a0),qi a1] [] (.tuple [.agg (zI.cells r.1),qi r.2]) []:=
 fnL Tryz.func205 rfl<|rgL<|rgL<|bFL (rgL<|rKL A4)<|bC 2 A4 uk fun a=>rgL<|rKL A4
def wr (n:Nat)(a0:List zb):Nat→Int→Option (Ctl Bool Unit)
 |0,_=>none
 | k+1,a=>
  if decide (a<(a0.length:Int))then((zM a0 a).bind fun b=>
  (zM a0 (wrap .i64 (a-1))).bind fun c=>
  if Op.bytesLess b.uE c.uE then(some (.ret false))else(wr n a0 k (wrap .i64 (a+1))))else(some (.nxt ()))
def jS (n:Nat)(a0:List zb):Option Bool:=
 yb (wr n a0 n 1) (fun r=>some r) (fun a=>
 some true)
theorem YZ {n a0 r}:jS n a0=some r→AC mx 206 [ql 3 zb.cells a0] [] (qb r) []:=
 fnL Tryz.func206 rfl<|rgL<|rgL<|bcL (fun _=>⟨22,[]⟩) (fun _=>⟨[],[]⟩) (fun g b=>lpL (fun k x=>wr n a0 k x) 1 A1 (fun x=>⟨22,[(0,ql 3 zb.cells a0),(3,qi x)]⟩) (fun x=>⟨[],[]⟩) fun k a=>by rw [wr]; exact cP 2 (xF a0)<|bFL (zo<|bEL fun c d=>bEL fun e f=>lfL (fun z=>zs [0,1,2,3,4,5,6,7,8,9,10,11] [] [[],[],[0,1],[0,1,2],[0,1,2,3],[],[],[6],[5,6,7],[5,6,7,8],[5,6,7,8,9],[0,1,2,3,4,5,6,7,8,9,10]] [0] [(3,qi a),(21,qb (Op.bytesLess c.uE e.uE))] (dS [0,1]<|dP (yN d)<|dS (zx 3 5)<|dP (yN f)<|dS [9,10,11]<|dE A1) z)<|bFL (rgL<|hKL b<|rJ A1)<|zp<|z8 zl fun h=>⟨wrap .i64 (a+1),h,wk A1⟩)<|xjL<|jCL A1) fun i=>rgL<|rKL A1
def yi (n:Nat)(a1:Int)(m0:zI):Option (zb×Int×zI):=
 if decide (m0.xk≥(m0.f_L.length:Int))then(some ((zb.mk 0 ([]:Cn) ([]:Cn)),3,m0))else((zM m0.f_L m0.xk).bind fun a=>
 (if decide (a1≥0)then(some (a.zF !=a1))else(some false)).bind fun b=>
 if b then(some ((zb.mk 0 ([]:Cn) ([]:Cn)),5,m0))else(some (a,0,(zI.mk m0.f_L (wrap .i64 (m0.xk+1))))))
theorem w9 {n a1 m0 r}:yi n a1 m0=some r→AC mx 208 [qp 0,qi a1] [zI.cells m0] (.tuple [.agg (zb.cells r.1),qi r.2.1]) [zI.cells r.2.2]:=
 fnL Tryz.func208 rfl<|rgL<|lfL (fun z=>zs [0,1,2,3,4,5,6,7,8,9] [] [[],[0],[0,1],[0,1,2],[],[4],[4,5],[4,5,6],[4,5,6,7],[0,1,2,3,4,5,6,7,8]] [] [(0,qp 0),(1,qi a1),(4,qp 1),(16,qb (decide (m0.xk≥(m0.f_L.length:Int))))] (dS (zx 0 8)<|dP (xF m0.f_L)<|dS [9]<|dE A5) z)<|bFL (rgL<|rKL A7)<|bEL fun b a=>lfL (fun z=>zm [0,1,2,3,4,5,6,7,8,9,10,11] [10,11] [[],[0],[0,1],[0,1,2],[],[4],[4,5],[4,5,6],[0,1,2,3,4,5,6,7],[0,1,2,3,4,5,6,7,8],[],[0,1,2,3,4,5,6,7,8,9,10]] [] [(0,qp 0),(1,qi a1),(4,qp 1),(6,qp 2)] ⟨[zI.cells m0,[qi 0,qs [],qs []],zb.cells b],[]⟩ (dS (zx 0 8)<|dP (yN a)<|dS [9]<|dF (zr 8 (yN a) zW)<|dF (zr 8 (yN a) zW)<|dE Ac) z)<|bEL fun c hE=>rgF hE ⟨45,[(0,qp 0),(4,qp 1),(6,qp 2),(35,qb c)]⟩ ⟨[zI.cells m0,[qi 0,qs [],qs []],zb.cells b],[]⟩ (gFL 3 30 (eJ Ac)<|eJ Ac)<|bFL (rgL<|rKL Ab)<|rgL<|rgL<|rKL Ab
def w5 (n:Nat)(m0:zI):Option (Int×zI):=
 if decide (m0.xk<(m0.f_L.length:Int))then(some (4,m0))else(some (0,m0))
theorem qw {n m0 r}:w5 n m0=some r→AC mx 210 [qp 0] [zI.cells m0] (qi r.1) [zI.cells r.2]:=
 fnL Tryz.func210 rfl<|rgL<|lfL (fun z=>zs [0,1,2,3,4,5,6,7,8,9] [] [[],[0],[0,1],[0,1,2],[],[4],[4,5],[4,5,6],[4,5,6,7],[0,1,2,3,4,5,6,7,8]] [] [(12,qb (decide (m0.xk<(m0.f_L.length:Int))))] (dS (zx 0 8)<|dP (xF m0.f_L)<|dS [9]<|dE A3) z)<|bFL (rgL<|rKL A3)<|rgL<|rKL A3
def jM (n:Nat)(a0:zb):Option (za×Int):=
 (va n a0 48).bind fun c=>
 if c.2 !=0 then(some ((za.mk ([]:Cn) 0 ([]:Cn)),c.2))else((yi n 6 c.1).bind fun b=>
 if b.2.1 !=0 then(some ((za.mk ([]:Cn) 0 ([]:Cn)),b.2.1))else((zE n b.1.zd).bind fun d=>
 if d.2 !=0 then(some ((za.mk ([]:Cn) 0 ([]:Cn)),d.2))else((yi n (-1) b.2.2).bind fun a=>
 if a.2.1 !=0 then(some ((za.mk ([]:Cn) 0 ([]:Cn)),a.2.1))else((if a.1.zF !=12 then(if a.1.zF !=19 then(some (a.1.zF !=22))else(some false))else(some false)).bind fun f=>
 if f then(some ((za.mk ([]:Cn) 0 ([]:Cn)),5))else((w5 n a.2.2).bind fun e=>
 if e.1 !=0 then(some ((za.mk ([]:Cn) 0 ([]:Cn)),e.1))else(some ((za.mk d.1 a.1.zF a.1.zd),0)))))))
theorem YJ {n a0 r}:jM n a0=some r→AC mx 207 [.agg (zb.cells a0)] [] (.tuple [.agg (za.cells r.1),qi r.2]) []:=
 fnL Tryz.func207 rfl<|rgL<|rgL<|bC 1 A8 jq fun d=>rgL<|bFL (rgL<|rKL Ae)<|bC 0 Ay w9 fun e=>rgL<|bFL (rgL<|rKL Ak)<|bC 2 Ak jk fun b=>rgL<|bFL (rgL<|rKL Ak)<|bC 0 ⟨[3],5,[],0⟩ w9 fun a=>rgL<|bFL (rgL<|rKL C6)<|bEL fun c hE=>rgF hE ⟨72,[(2,qp 0),(4,qp 1),(5,qp 2),(8,qs b.1),(9,qp 3),(59,qb c)]⟩ ⟨[[qs ([]:Cn),qi 0,qs []],[qs ([]:Cn),qi 0,qs []],zI.cells a.2.2,zb.cells a.1],[]⟩ (gFL 4 50 (gFL 9 55 (eJ Cj)<|eJ Cj)<|eJ Cj)<|bFL (rgL<|rKL Ae)<|bC 0 ⟨[2],4,[],0⟩ qw fun f=>rgL<|bFL (rgL<|rKL Ae)<|rgL<|rKL Ae
def wb (n:Nat)(a:(zI×Int)):Nat→(List za)→Int→Option (Ctl (zv×Int) (List za))
 |0,_,_=>none
 | k+1,d,b=>
  if decide (b<(a.1.f_L.length:Int))then((zM a.1.f_L b).bind fun e=>
  (jM n e).bind fun c=>
  if c.2 !=0 then(some (.ret ((zv.mk ([]:List (List za))),c.2)))else((jR 40 d ([c.1]:List za)).bind fun f=>
  wb n a k f (wrap .i64 (b+1))))else(some (.nxt d))
def wf (n:Nat)(b:(zI×Int)):Nat→Int→(List (List za))→Option (Ctl (zv×Int) (List (List za)))
 |0,_,_=>none
 | k+1,c,d=>
  if decide (c<(b.1.f_L.length:Int))then((zM b.1.f_L c).bind fun e=>
  (va n e 49).bind fun a=>
  if a.2 !=0 then(some (.ret ((zv.mk ([]:List (List za))),a.2)))else((jS n a.1.f_L).bind fun f=>
  if !f then(some (.ret ((zv.mk ([]:List (List za))),9)))else(yb (wb n a n ([]:List za) 0) (fun r=>some (.ret r)) (fun g=>
  (jR 24 d ([g]:List (List za))).bind fun i=>
  wf n b k (wrap .i64 (c+1)) i))))else(some (.nxt d))
def uA (n:Nat)(a0:Cn):Option (zv×Int):=
 (vH n a0).bind fun a=>
 if a.2 !=0 then(some ((zv.mk ([]:List (List za))),a.2))else((va n a.1 48).bind fun b=>
 if b.2 !=0 then(some ((zv.mk ([]:List (List za))),b.2))else(yb (wf n b n 0 ([]:List (List za))) (fun r=>some r) (fun c=>
 (y8 n (zv.mk c)).bind fun d=>
 if d !=0 then(some ((zv.mk ([]:List (List za))),d))else(some ((zv.mk c),0)))))
theorem gX {n a0 r}:uA n a0=some r→AC mx 154 [qs a0] [] (.tuple [.agg [ql 1 (cL 3 za.cells) r.1.zh],qi r.2]) []:=
 fnL Tryz.func154 rfl<|rgL<|rgL<|bC 1 A4 jA fun v=>rgL<|bFL (rgL<|rKL A8)<|bC 1 A8 jq fun a=>rgL<|bFL (rgL<|rKL Ae)<|rgL<|cP 2 (xF a.1.f_L)<|bcL (fun d=>⟨95,[(2,qp 0),(4,qp 1),(8,qp 2)]⟩) (fun d=>⟨[[qn],[qn],[.sl 1 (List.map (cL 3 za.cells) d) (.fam 0 (d.length))]],[d.length]⟩) (fun w i=>yV (wk (fr':=⟨95,[(2,qp 0),(4,qp 1),(8,qp 2),(40,ql 3 zb.cells a.1.f_L),(41,qi (a.1.f_L.length)),(42,qi 0)]⟩) (st':=⟨[[qn],[qn],[qn]],[]⟩) C1)<|yV Wk.nilFam<|lpL (fun k x=>wf n a k x.1 x.2) (0,([]:List (List za))) Af (fun x=>⟨95,[(2,qp 0),(4,qp 1),(8,qp 2),(40,ql 3 zb.cells a.1.f_L),(41,qi (a.1.f_L.length)),(42,qi x.1)]⟩) (fun x=>⟨[[qn],[qn],[.sl 1 (List.map (cL 3 za.cells) x.2) (.fam 0 (x.2.length))]],[x.2.length]⟩) fun k x=>by obtain⟨g,b⟩:=x; rw [wf]; exact rgL<|bFL (zo<|bP 0 yN fun A=>bC 1 C4 jq fun c=>rgL<|bFL (rgL<|hKL i<|rJ Ck)<|bC 2 Ck YZ fun B=>bFL (rgL<|hKL i<|rJ Ck)<|rgL<|cP 2 (xF c.1.f_L)<|bcL (fun f=>⟨95,[(2,qp 0),(4,qp 1),(8,qp 2),(13, .sl 3 (List.map za.cells f) (.fam 1 (f.length))),(40,ql 3 zb.cells a.1.f_L),(41,qi (a.1.f_L.length)),(42,qi g)]⟩) (fun f=>⟨[[qn],[qn],[.sl 1 (List.map (cL 3 za.cells) b) (.fam 0 (b.length))]],[b.length,f.length]⟩) (fun C j=>yV (wk (fr':=⟨95,[(2,qp 0),(4,qp 1),(8,qp 2),(13,qn),(40,ql 3 zb.cells a.1.f_L),(41,qi (a.1.f_L.length)),(42,qi g),(61,ql 3 zb.cells c.1.f_L),(62,qi (c.1.f_L.length)),(63,qi 0)]⟩) (st':=⟨[[qn],[qn],[.sl 1 (List.map (cL 3 za.cells) b) (.fam 0 (b.length))]],[b.length]⟩) C7)<|yV Wk.nilFam<|lpL (fun k x=>wb n c k x.1 x.2) (([]:List za),0) Am (fun x=>⟨95,[(2,qp 0),(4,qp 1),(8,qp 2),(13, .sl 3 (List.map za.cells x.1) (.fam 1 (x.1.length))),(40,ql 3 zb.cells a.1.f_L),(41,qi (a.1.f_L.length)),(42,qi g),(61,ql 3 zb.cells c.1.f_L),(62,qi (c.1.f_L.length)),(63,qi x.2)]⟩) (fun x=>⟨[[qn],[qn],[.sl 1 (List.map (cL 3 za.cells) b) (.fam 0 (b.length))]],[b.length,x.1.length]⟩) fun k x=>by obtain⟨D,l⟩:=x; rw [wb]; exact rgL<|bFL (zo<|bP 0 yN fun E=>bC 1 ⟨[],4,[],2⟩ YJ fun F=>rgL<|bFL (rgL<|hKL j<|yf<|wo<|hvL i<|yn<|rJ ⟨[],5,[],2⟩)<|bEL fun m o=>xo zJ (lfL (fun z=>kA 3 1 za.cells (e:=140) (e2:=140) (sz:=3) (bytes:=40) (b2:=40) (tok2:= .exact) o z) edL)<|zp<|z8 zl fun h=>⟨(m,wrap .i64 (l+1)),h,wk ⟨[0,1,2],5,[0,1],2⟩⟩)<|xjL<|jCL Am) fun f=>bEL fun s u=>xo zJ (lfL (fun z=>kA 4 0 (cL 3 za.cells) (e:=141) (e2:=141) (sz:=1) (bytes:=24) (b2:=24) (tok2:= .exact) u z) edL)<|zp<|z8 zl fun h=>⟨(wrap .i64 (g+1),s),h,wk Au⟩)<|xjL<|jCL Af) fun d=>bC 1 Al jm fun G=>rgL<|bFL (rgL<|rKL Al)<|rgL<|rKL Al
def uV (n:Nat)(a0:zb)(a1:Bool):Option (zc×Int):=
 yb ((if a0.zF==129 then(some (a0.zF==129))else(if a0.zF==130 then(some (a0.zF==130))else(some (a0.zF==135)))).bind fun d=>
 if d then(some (.nxt (wrap .i64 (a0.zF-128),a0.zd,([]:List (List za)))))else(if a0.zF==164 then((uA n a0.zd).bind fun b=>
 if b.2 !=0 then(some (.ret ((zc.mk 0 ([]:Cn) (zv.mk ([]:List (List za)))),b.2)))else(some (.nxt (4,([]:Cn),b.1.zh))))else(some (.ret ((zc.mk 0 ([]:Cn) (zv.mk ([]:List (List za)))),5))))) (fun r=>some r) (fun a=>
 (yZ n (zc.mk a.1 a.2.1 (zv.mk a.2.2)) a1).bind fun c=>
 if c !=0 then(some ((zc.mk 0 ([]:Cn) (zv.mk ([]:List (List za)))),c))else(some ((zc.mk a.1 a.2.1 (zv.mk a.2.2)),0)))
theorem ZL {n a0 a1 r}:uV n a0 a1=some r→AC mx 152 [.agg (zb.cells a0),qb a1] [] (.tuple [.agg (zc.cells r.1),qi r.2]) []:=
 fnL Tryz.func152 rfl<|rgL<|rgL<|rgL<|bcL (fun a=>⟨46,[(1,qb a1),(4,qp 0),(6,qp 1)]⟩) (fun a=>⟨[[qi 0,qs [],qn],[qi a.1,qs a.2.1,ql 1 (cL 3 za.cells) a.2.2]],[]⟩) (fun d c=>rgL<|cuL (fun b=>⟨46,[(1,qb a1),(2,qp 0),(4,qp 1),(6,qp 2),(12,qi a0.zF),(14,qb b)]⟩) (fun b=>⟨[zb.cells a0,[qi 0,qs [],qn],[qi 0,qs [],qn]],[]⟩) (fun b=>bFL (jnL Ac)<|rgL<|bFL (jnL Ac)<|z8 zl<|jnL Ac) fun b=>bFL (z8 zX<|jCL Az)<|rgL<|bFL (bC 2 A8 gX fun e=>rgL<|bFL (rgL<|ya<|hvL c<|yn<|rJ Ae)<|z8 zX<|jCL ⟨[1,2],4,[],0⟩)<|rgL<|ya<|hvL c<|yn<|rJ A8) fun a=>bC 2 A4 jY fun f=>rgL<|bFL (rgL<|rKL A4)<|rgL<|rKL A4
def we (n:Nat) (b:((List zb)×Int)):Nat→(List zc)→Int→Option (Ctl ((List zc)×Int) (List zc))
 |0,_,_=>none
 | k+1,d,c=>
  if decide (c<(b.1.length:Int))then((zM b.1 c).bind fun e=>
  (uV n e false).bind fun a=>
  if a.2 !=0 then(some (.ret (([]:List zc),a.2)))else((jR 48 d ([(zc.mk a.1.zG a.1.yl (zv.mk a.1.zt.zh))]:List zc)).bind fun f=>
  we n b k f (wrap .i64 (c+1))))else(some (.nxt d))
def w7 (n:Nat)(a0:Cn):Option ((List zc)×Int):=
 (xj n a0).bind fun a=>
 if a.2 !=0 then(some (([]:List zc),a.2))else(if(a.1.length:Int)==0 then(some (([]:List zc),7))else(if decide ((a.1.length:Int)>16)then(some (([]:List zc),2))else(yb (we n a n ([]:List zc) 0) (fun r=>some r) (fun b=>
 some (b,0)))))
theorem Yo {n a0 r}:w7 n a0=some r→AC mx 81 [qs a0] [] (.tuple [ql 3 zc.cells r.1,qi r.2]) []:=
 fnL Tryz.func81 rfl<|rgL<|bC 1 A1 uk fun a=>rgL<|bFL (rgL<|rKL A1)<|cP 1 (xF a.1)<|bFL (rgL<|rKL A1)<|cP 1 (xF a.1)<|bFL (rgL<|rKL A1)<|rgL<|cP 1 (xF a.1)<|bcL (fun b=>⟨45,[(6, .sl 3 (List.map zc.cells b) (.fam 0 (b.length)))]⟩) (fun b=>⟨[],[b.length]⟩) (fun i c=>yV (wk (fr':=⟨45,[(6,qn),(25,ql 3 zb.cells a.1),(26,qi (a.1.length)),(27,qi 0)]⟩) (st':=⟨[],[]⟩) A1)<|yV Wk.nilFam<|lpL (fun k x=>we n a k x.1 x.2) (([]:List zc),0) A6 (fun x=>⟨45,[(6, .sl 3 (List.map zc.cells x.1) (.fam 0 (x.1.length))),(25,ql 3 zb.cells a.1),(26,qi (a.1.length)),(27,qi x.2)]⟩) (fun x=>⟨[],[x.1.length]⟩) fun k x=>by obtain⟨j,d⟩:=x; rw [we]; exact rgL<|bFL (zo<|bP 0 yN fun l=>bC 1 Aj ZL fun m=>rgL<|bFL (rgL<|hKL c<|rJ Ao)<|bEL fun f g=>xo zJ (lfL (fun z=>kA 3 0 zc.cells (e:=59) (e2:=59) (sz:=3) (bytes:=48) (b2:=48) (tok2:= .exact) g z) edL)<|zp<|z8 zl fun h=>⟨(f,wrap .i64 (d+1)),h,wk Cg⟩)<|xjL<|jCL A6) fun b=>rgL<|rKL Aa
def yv (n:Nat)(a1:Int)(m0:zq):Option (zb×zq):=
 (zU n a1 m0).bind fun a=>
 (if a.2.2.gV=true then(some true)else(some (!a.2.1))).bind fun b=>
 some (a.1,(zq.mk a.2.2.f_l a.2.2.dh b))
theorem j4 {n a1 m0 r}:yv n a1 m0=some r→AC mx 96 [qp 0,qi a1] [zq.cells m0] (.agg (zb.cells r.1)) [zq.cells r.2]:=
 fnL Tryz.func96 rfl<|rgL<|bC 2 A7 xm fun a=>bEL fun b hE=>rgF hE ⟨25,[(4,qp 1),(5,qp 2)]⟩ ⟨[[ql 3 zb.cells a.2.2.f_l,qi a.2.2.dh,qb b],[qi 0,qs [],qs []],zb.cells a.1],[]⟩ (gFL 6 18 (eJ Ac)<|eJ Ac)<|rgL<|rKL Ab
def w6 (n:Nat)(a0:Cn):Nat→Int→Int→Option Int
 |0,_,_=>none
 | k+1,b,a=>
  if decide (a<(a0.length:Int))then((yr a0 a).bind fun c=>
  w6 n a0 k (ior .u64 (wrap .u64 (b*256)) (wrap .u64 c)) (wrap .i64 (a+1)))else(some b)
def un (n:Nat)(a0:Cn):Option (Int×Int):=
 (if(a0.length:Int)==0 then(some true)else(if decide ((a0.length:Int)>1)then((yr a0 0).bind fun a=>
 if a==0 then((yr a0 1).bind fun b=>
 if decide (b<128)then(some true)else((yr a0 0).bind fun c=>
 if c==255 then((yr a0 1).bind fun d=>
 some (decide (d≥128)))else(some false)))else((yr a0 0).bind fun e=>
 if e==255 then((yr a0 1).bind fun f=>
 some (decide (f≥128)))else(some false)))else(some false))).bind fun g=>
 if g then(some (0,7))else(if decide ((a0.length:Int)>8)then(some (0,1))else((yr a0 0).bind fun i=>
 (if decide (i≥128)then(some 18446744073709551615)else(some 0)).bind fun j=>
 (w6 n a0 n j 0).bind fun l=>
 some (wrap .i64 l,0)))
theorem Xm {n a0 r}:un n a0=some r→AC mx 153 [qs a0] [] (.tuple [qi r.1,qi r.2]) []:=
 fnL Tryz.func153 rfl<|rgL<|bEL fun c hE=>rgF hE ⟨55,[(0,qs a0),(33,qb c)]⟩ ⟨[],[]⟩ (gFL 4 9 (eJ A1)<|gFL 8 13 (bEL fun u d=>kPL 9 (zS d)<|gFL 12 17 (bEL fun v e=>kPL 13 (zS e)<|gFL 17 22 (eJ A1)<|bEL fun w f=>kPL 18 (zS f)<|gFL 21 26 (bEL fun A g=>kPL 22 (zS g)<|eJ A1)<|eJ A1)<|bEL fun B i=>kPL 18 (zS i)<|gFL 21 26 (bEL fun C j=>kPL 22 (zS j)<|eJ A1)<|eJ A1)<|eJ A1)<|bFL (rgL<|rKL A1)<|rgL<|bFL (rgL<|rKL A1)<|rgL<|bP 1 zS fun D=>cuL (fun a=>⟨55,[(0,qs a0),(4, .int .u64 a)]⟩) (fun a=>⟨[],[]⟩) (fun a=>bFL (z8 zl<|jnL A1)<|jnL A1) fun a=>rgL<|blL (fun b=>⟨55,[(4, .int .u64 b)]⟩) (fun b=>⟨[],[]⟩) (fun b=>lpL (fun k x=>w6 n a0 k x.1 x.2) (a,0) A1 (fun x=>⟨55,[(0,qs a0),(4, .int .u64 x.1),(5,qi x.2)]⟩) (fun x=>⟨[],[]⟩) fun k x=>by obtain⟨l,m⟩:=x; rw [w6]; exact rgL<|bFL (zo<|bEL fun o s=>xo zJ (kPL 4 (zS s) edL)<|zp<|z8 zl fun h=>⟨(ior .u64 (wrap .u64 (l*256)) (wrap .u64 o),wrap .i64 (m+1)),h,wk A1⟩)<|xjL<|jnL A1) fun b=>rgL<|rKL A1
def xO (n:Nat)(a1:Int)(m0:zq):Option (Int×zq):=
 (yv n a1 m0).bind fun a=>
 (un n a.1.zd).bind fun b=>
 (if a.2.gV=true then(some true)else(some (b.2 !=0))).bind fun c=>
 some (b.1,(zq.mk a.2.f_l a.2.dh c))
theorem Zs {n a1 m0 r}:xO n a1 m0=some r→AC mx 82 [qp 0,qi a1] [zq.cells m0] (qi r.1) [zq.cells r.2]:=
 fnL Tryz.func82 rfl<|rgL<|bEL fun a b=>bEL fun c d=>rCL (kCL 2 A3 (j4 b)<|kCL 4 A2 (Xm d) edL)<|bEL fun e hE=>rgF hE ⟨27,[(5,qi c.1)]⟩ ⟨[[ql 3 zb.cells a.2.f_l,qi a.2.dh,qb e]],[]⟩ (gFL 6 20 (eJ A3)<|eJ A3)<|rgL<|rKL A3
def xQ (n:Nat)(a0:zb):Option Int:=
 (va n a0 48).bind fun b=>
 if b.2 !=0 then(some b.2)else((yi n 6 b.1).bind fun a=>
 if a.2.1 !=0 then(some a.2.1)else((zE n a.1.zd).bind fun c=>
 if c.2 !=0 then(some c.2)else((if !(c.1==([49,46,51,46,54,46,49,46,52,46,49,46,53,56,56,56,56,46,49,46,49]:Cn))then(some true)else((w5 n a.2.2).bind fun d=>
 some (d.1 !=0))).bind fun e=>
 if e then(some 16)else(some 0))))
theorem Zt {n a0 r}:xQ n a0=some r→AC mx 209 [.agg (zb.cells a0)] [] (qi r) []:=
 fnL Tryz.func209 rfl<|rgL<|bC 1 A2 jq fun c=>rgL<|bFL (rgL<|rKL A4)<|bC 0 A9 w9 fun d=>rgL<|bFL (rgL<|rKL A8)<|bC 2 A8 jk fun e=>rgL<|bFL (rgL<|rKL A8)<|bEL fun a hE=>rgF hE ⟨37,[(36,qb a)]⟩ ⟨[],[]⟩ (gFL 3 33 (eJ A8)<|bEL fun f b=>kCL 3 Ah (qw b)<|eJ A8)<|bFL (rgL<|rKL A1)<|rgL<|rKL A1
def wi (n:Nat)(a0:Cn):Option (zB×Int):=
 (vH n a0).bind fun d=>
 if d.2 !=0 then(some ((zB.mk 0 ([]:Cn) ([]:Cn)),d.2))else((va n d.1 48).bind fun e=>
 if e.2 !=0 then(some ((zB.mk 0 ([]:Cn) ([]:Cn)),e.2))else((yi n (-1) e.1).bind fun b=>
 if b.2.1 !=0 then(some ((zB.mk 0 ([]:Cn) ([]:Cn)),b.2.1))else((xQ n b.1).bind fun f=>
 if f !=0 then(some ((zB.mk 0 ([]:Cn) ([]:Cn)),f))else((yi n 3 b.2.2).bind fun c=>
 if c.2.1 !=0 then(some ((zB.mk 0 ([]:Cn) ([]:Cn)),c.2.1))else((wn n c.1.zd).bind fun a=>
 if a.2.2 !=0 then(some ((zB.mk 0 ([]:Cn) ([]:Cn)),a.2.2))else((if a.2.1 !=0 then(some true)else(some ((a.1.length:Int) !=33))).bind fun o=>
 if o then(some ((zB.mk 0 ([]:Cn) ([]:Cn)),18))else((yr a.1 0).bind fun g=>
 (ssl a.1 1 17).bind fun i=>
 (ssl a.1 17 (a.1.length)).bind fun j=>
 (wB n (zB.mk (wrap .i64 g) i j)).bind fun l=>
 if l !=0 then(some ((zB.mk 0 ([]:Cn) ([]:Cn)),l))else((w5 n c.2.2).bind fun m=>
 if m.1 !=0 then(some ((zB.mk 0 ([]:Cn) ([]:Cn)),m.1))else(some ((zB.mk (wrap .i64 g) i j),0))))))))))
theorem YV {n a0 r}:wi n a0=some r→AC mx 155 [qs a0] [] (.tuple [.agg (zB.cells r.1),qi r.2]) []:=
 fnL Tryz.func155 rfl<|rgL<|rgL<|bC 1 A4 jA fun l=>rgL<|bFL (rgL<|rKL A8)<|bC 1 A8 jq fun m=>rgL<|bFL (rgL<|rKL Ae)<|bC 0 Ay w9 fun o=>rgL<|bFL (rgL<|rKL Ak)<|bC 1 Ak Zt fun s=>rgL<|bFL (rgL<|rKL Ak)<|bC 0 ⟨[3],5,[],0⟩ w9 fun d=>rgL<|bFL (rgL<|rKL C6)<|bC 2 C6 pX fun e=>rgL<|bFL (rgL<|rKL C6)<|bEL fun f hE=>rgF hE ⟨96,[(2,qp 0),(4,qp 1),(7,qp 2),(11,qs e.1),(74,qb f)]⟩ ⟨[[qi 0,qs [],qs []],[qi 0,qs [],qs []],zI.cells d.2.2],[]⟩ (gFL 3 70 (eJ ⟨[0,1,3],6,[],0⟩)<|eJ ⟨[0,1,3],6,[],0⟩)<|bFL (rgL<|rKL A8)<|bEL fun g a=>bEL fun i b=>bEL fun j c=>lfL (fun z=>zm [0,1,2,3,4,5,6,7,8,9] [8,9] [[],[0],[0,1],[],[3],[],[5],[0,1,2,3,4,5,6],[],[0,1,2,3,4,5,6,7,8]] [] [(2,qp 0),(4,qp 1),(7,qp 2),(13,qp 3)] ⟨[[qi 0,qs [],qs []],[qi 0,qs [],qs []],zI.cells d.2.2,[qi (wrap .i64 g),qs i,qs j]],[]⟩ (dS [0]<|dP (zS a)<|dS [2,3]<|dP (zO b)<|dS [5]<|dP (xc c)<|dS [7]<|dF (zr 6 (xc c) (zr 4 (zO b) (zr 1 (zS a) zW)))<|dF (zr 6 (xc c) (zr 4 (zO b) (zr 1 (zS a) zW)))<|dE ⟨[0,1,2,3],4,[],0⟩) z)<|bC 1 Ae kj fun u=>rgL<|bFL (rgL<|rKL Ae)<|bC 0 ⟨[2],4,[],0⟩ qw fun v=>rgL<|bFL (rgL<|rKL Ae)<|rgL<|rKL Ae
def yu (n:Nat)(a1:List zb):Nat→(List ze)→Int→Bool→Option ((List ze)×Bool)
 |0,_,_,_=>none
 | k+1,b,a,c=>
  if decide (a<(a1.length:Int))then((zM a1 a).bind fun i=>
  (qh n i 48).bind fun j=>
  (yv n 48 j).bind fun d=>
  (uA n d.1.uE).bind fun e=>
  (yv n 48 d.2).bind fun f=>
  (wi n f.1.uE).bind fun g=>
  (if c then(some true)else(if f.2.gV=true then(some true)else(if e.2 !=0 then(some true)else(some (g.2 !=0))))).bind fun l=>
  (jR 64 b ([(ze.mk e.1 g.1)]:List ze)).bind fun m=>
  yu n a1 k m (wrap .i64 (a+1)) l)else(some (b,c))
def xL (n:Nat)(a1:List zb)(m0:zq):Option ((List ze)×zq):=
 (yu n a1 n ([]:List ze) 0 m0.gV).bind fun a=>
 some (a.1,(zq.mk m0.f_l m0.dh a.2))
theorem Zu {n a1 m0 r}:xL n a1 m0=some r→AC mx 83 [qp 0,ql 3 zb.cells a1] [zq.cells m0] (ql 4 ze.cells r.1) [zq.cells r.2]:=
 fnL Tryz.func83 rfl<|rgL<|rgL<|rgL<|blL (fun a=>⟨65,[(5, .sl 4 (List.map ze.cells a.1) (.fam 0 (a.1.length)))]⟩) (fun a=>⟨[[ql 3 zb.cells m0.f_l,qi m0.dh,qb a.2]],[a.1.length]⟩) (fun a=>yV (wk (fr':=⟨65,[(0,qp 0),(1,ql 3 zb.cells a1),(5,qn),(6,qi 0)]⟩) (st':=⟨[zq.cells m0],[]⟩) A3)<|yV Wk.nilFam<|lpL (fun k x=>yu n a1 k x.1 x.2.1 x.2.2) (([]:List ze),0,m0.gV) Ai (fun x=>⟨65,[(0,qp 0),(1,ql 3 zb.cells a1),(5, .sl 4 (List.map ze.cells x.1) (.fam 0 (x.1.length))),(6,qi x.2.1)]⟩) (fun x=>⟨[[ql 3 zb.cells m0.f_l,qi m0.dh,qb x.2.2]],[x.1.length]⟩) fun k x=>by obtain⟨b,c,w⟩:=x; rw [yu]; exact cP 2 (xF a1)<|bFL (zo<|bEL fun A f=>bEL fun B g=>rCL (kPL 2 (yN f)<|kCL 4 Aj (pU g) edL)<|bEL fun C i=>bEL fun j l=>rCL (kCL 1 Cf (j4 i)<|kCL 3 Ao (gX l) edL)<|bEL fun D m=>bEL fun o s=>rCL (kCL 1 ⟨[1],3,[],1⟩ (j4 m)<|kCL 3 Al (YV s) edL)<|bEL fun d hE=>rgF hE ⟨65,[(0,qp 0),(1,ql 3 zb.cells a1),(5, .sl 4 (List.map ze.cells b) (.fam 0 (b.length))),(6,qi c),(8,qp 1),(10,qp 2)]⟩ ⟨[[ql 3 zb.cells m0.f_l,qi m0.dh,qb d],[ql 1 (cL 3 za.cells) j.1.zh],zB.cells o.1],[b.length]⟩ (gFL 6 42 (eJ C8)<|gFL 12 48 (eJ C8)<|gFL 16 52 (eJ C8)<|eJ C8)<|bEL fun u v=>xo zJ (lfL (fun z=>kA 5 0 ze.cells (e:=68) (e2:=68) (sz:=4) (bytes:=64) (b2:=64) (tok2:= .exact) v z) edL)<|zp<|z8 zl fun h=>⟨(u,wrap .i64 (c+1),d),h,wk Cd⟩)<|xjL<|jnL Ai) fun a=>rgL<|rKL Ax
def yK (n:Nat)(a0:Cn):Option (zz×Int):=
 (vY n a0).bind fun m=>
 if m.2 !=0 then(some ((zz.mk 0 ([]:Cn) 0 ([]:List Cn) false false false ([]:List zc) 0 false ([]:List ze)),m.2))else((qh n m.1 48).bind fun b=>
 (if decide ((b.f_l.length:Int)>0)then((zM b.f_l 0).bind fun K=>
 (zM b.f_l 0).bind fun L=>
 (zT n K.zF L.zd).bind fun E=>
 (if b.gV=true then(some true)else(some (E.2 !=0))).bind fun M=>
 some (1,M,E.1))else(some (b.dh,b.gV,0))).bind fun i=>
 (zU n 128 (zq.mk b.f_l i.1 i.2.1)).bind fun c=>
 (if c.2.1=true then((zE n c.1.zd).bind fun F=>
 (if c.2.2.gV=true then(some true)else(some (F.2 !=0))).bind fun N=>
 some (N,F.1))else(some (c.2.2.gV,([]:Cn)))).bind fun o=>
 (zU n 129 (zq.mk c.2.2.f_l c.2.2.dh o.1)).bind fun d=>
 (if d.2.1=true then((y6 n d.1.zd).bind fun G=>
 (if d.2.2.gV=true then(some true)else(some (G.2 !=0))).bind fun O=>
 some (O,G.1))else(some (d.2.2.gV,0))).bind fun s=>
 (zU n 162 (zq.mk d.2.2.f_l d.2.2.dh s.1)).bind fun e=>
 (if e.2.1=true then((yB n e.1 e.2.2).bind fun j=>
 some (j.2.f_l,j.2.dh,j.2.gV,j.1))else(some (e.2.2.f_l,e.2.2.dh,e.2.2.gV,([]:List Cn)))).bind fun g=>
 (yL n 131 (zq.mk g.1 g.2.1 g.2.2.1)).bind fun u=>
 (yL n 132 u.2).bind fun v=>
 (yL n 133 v.2).bind fun w=>
 (zU n 166 w.2).bind fun f=>
 (if f.2.1=true then((w7 n f.1.zd).bind fun H=>
 (if f.2.2.gV=true then(some true)else(some (H.2 !=0))).bind fun P=>
 some (P,H.1))else(some (f.2.2.gV,([]:List zc)))).bind fun A=>
 (xO n 2 (zq.mk f.2.2.f_l f.2.2.dh A.1)).bind fun B=>
 (yL n 135 B.2).bind fun C=>
 (zU n 168 C.2).bind fun a=>
 (if a.2.1=true then((xj n a.1.zd).bind fun I=>
 (if a.2.2.gV=true then(some true)else(some (I.2 !=0))).bind fun Q=>
 (xL n I.1 (zq.mk a.2.2.f_l a.2.2.dh Q)).bind fun l=>
 some (l.2.f_l,l.2.dh,l.2.gV,l.1))else(some (a.2.2.f_l,a.2.2.dh,a.2.2.gV,([]:List ze)))).bind fun D=>
 (yh n (zz.mk i.2.2 o.2 s.2 g.2.2.2 u.1 v.1 w.1 A.2 B.1 C.1 D.2.2.2)).bind fun J=>
 (if D.2.2.1=true then(some true)else(if J.2 !=0 then(some true)else(some (!(J.1==a0))))).bind fun R=>
 if R then(some ((zz.mk 0 ([]:Cn) 0 ([]:List Cn) false false false ([]:List zc) 0 false ([]:List ze)),7))else(some ((zz.mk i.2.2 o.2 s.2 g.2.2.2 u.1 v.1 w.1 A.2 B.1 C.1 D.2.2.2),0)))
theorem Yc {n a0 r}:yK n a0=some r→AC mx 19 [qs a0] [] (.tuple [.agg (zz.cells r.1),qi r.2]) []:=
 fnL Tryz.func19 rfl<|rgL<|bC 1 A2 WG fun T=>rgL<|bFL (rgL<|rKL A4)<|bC 1 A4 pU fun l=>rgL<|cP 4 (xF l.f_l)<|cuL (fun a=>⟨228,[(0,qs a0),(2,qp 0),(6,qp 1),(7,qp 2)]⟩) (fun a=>⟨[[qi 0,qs [],qi 0,qn,qb false,qb false,qb false,qn,qi 0,qb false,qn],[ql 3 zb.cells l.f_l,qi a.1,qb a.2.1],[qi a.2.2,qs [],qi 0,qn,qb false,qb false,qb false,qn,qi 0,qb false,qn]],[]⟩) (fun a=>bFL (bEL fun U A=>bEL fun V B=>bEL fun u D=>lfL (fun z=>zm [0,1,2,3,4,5,6,7,8,9,10,11,12,13,14,15,16,17,18,19] [14] [[],[0],[0,1],[0,1,2],[0,1,2,3],[0,1,2,3,4],[0,1,2,3,4,5],[],[7],[7,8],[7,8,9],[7,8,9,10],[7,8,9,10,11],[7,8,9,10,11,12],[0,1,2,3,4,5,6,7,8,9,10,11,12,13],[0,1,2,3,4,5,6,7,8,9,10,11,12,13,14],[0,1,2,3,4,5,6,7,8,9,10,11,12,13,14,15],[0,1,2,3,4,5,6,7,8,9,10,11,12,13,14,15],[0,1,2,3,4,5,6,7,8,9,10,11,12,13,14,15,16],[0,1,2,3,4,5,6,7,8,9,10,11,12,13,14,15,16,17,18]] [] [(0,qs a0),(2,qp 0),(6,qp 1),(7,qp 2),(8,qi u.1),(9,qi u.2)] ⟨[[qi 0,qs [],qi 0,qn,qb false,qb false,qb false,qn,qi 0,qb false,qn],zq.cells l,[qi 0,qs [],qi 0,qn,qb false,qb false,qb false,qn,qi 0,qb false,qn]],[]⟩ (dS (zx 0 4)<|dP (yN A)<|dS (zx 5 6)<|dP (yN B)<|dS [12,13]<|dC (zr 11 (yN B) (zr 4 (yN A) zW)) Ae (Yg D)<|dS (zx 15 5)<|dE ⟨[0,2,3],4,[],0⟩) z)<|bEL fun E hE=>Gl hE zl ⟨228,[(0,qs a0),(2,qp 0),(6,qp 1),(7,qp 2)]⟩ ⟨[[qi 0,qs [],qi 0,qn,qb false,qb false,qb false,qn,qi 0,qb false,qn],[ql 3 zb.cells l.f_l,qi 1,qb E],[qi u.1,qs [],qi 0,qn,qb false,qb false,qb false,qn,qi 0,qb false,qn]],[]⟩ (gFL 8 72 (eJ Ac)<|eJ Ac)<|jnL Ac)<|jnL ⟨[0,2,3],4,[],0⟩) fun a=>bC 1 Ah xm fun m=>rgL<|cuL (fun b=>⟨228,[(0,qs a0),(2,qp 0),(6,qp 1),(7,qp 2)]⟩) (fun b=>⟨[[qi 0,qs [],qi 0,qn,qb false,qb false,qb false,qn,qi 0,qb false,qn],[ql 3 zb.cells m.2.2.f_l,qi m.2.2.dh,qb b.1],[qi a.2.2,qs b.2,qi 0,qn,qb false,qb false,qb false,qn,qi 0,qb false,qn]],[]⟩) (fun b=>bFL (bC 2 Ae jk fun F=>bEL fun G hE=>Gl hE zl ⟨228,[(0,qs a0),(2,qp 0),(6,qp 1),(7,qp 2)]⟩ ⟨[[qi 0,qs [],qi 0,qn,qb false,qb false,qb false,qn,qi 0,qb false,qn],[ql 3 zb.cells m.2.2.f_l,qi m.2.2.dh,qb G],[qi a.2.2,qs F.1,qi 0,qn,qb false,qb false,qb false,qn,qi 0,qb false,qn]],[]⟩ (gFL 7 99 (eJ Ad)<|eJ Ad)<|jnL Ac)<|jnL Ad) fun b=>bC 1 Ah xm fun o=>rgL<|cuL (fun d=>⟨228,[(0,qs a0),(2,qp 0),(6,qp 1),(7,qp 2)]⟩) (fun d=>⟨[[qi 0,qs [],qi 0,qn,qb false,qb false,qb false,qn,qi 0,qb false,qn],[ql 3 zb.cells o.2.2.f_l,qi o.2.2.dh,qb d.1],[qi a.2.2,qs b.2,qi d.2,qn,qb false,qb false,qb false,qn,qi 0,qb false,qn]],[]⟩) (fun d=>bFL (bC 2 Ae Wl fun H=>bEL fun I hE=>Gl hE zl ⟨228,[(0,qs a0),(2,qp 0),(6,qp 1),(7,qp 2)]⟩ ⟨[[qi 0,qs [],qi 0,qn,qb false,qb false,qb false,qn,qi 0,qb false,qn],[ql 3 zb.cells o.2.2.f_l,qi o.2.2.dh,qb I],[qi a.2.2,qs b.2,qi H.1,qn,qb false,qb false,qb false,qn,qi 0,qb false,qn]],[]⟩ (gFL 7 124 (eJ Ad)<|eJ Ad)<|jnL Ac)<|jnL Ad) fun d=>bC 1 Ah xm fun W=>rgL<|cuL (fun c=>⟨228,[(0,qs a0),(2,qp 0),(6,qp 1),(7,qp 2)]⟩) (fun c=>⟨[[qi 0,qs [],qi 0,qn,qb false,qb false,qb false,qn,qi 0,qb false,qn],[ql 3 zb.cells c.1,qi c.2.1,qb c.2.2.1],[qi a.2.2,qs b.2,qi d.2,ql 1 cS c.2.2.2,qb false,qb false,qb false,qn,qi 0,qb false,qn]],[]⟩) (fun c=>bFL (bEL fun X J=>xo zl (kCL 2 ⟨[1],4,[],0⟩ (pV J) edL)<|jnL Ad)<|jnL Ad) fun c=>bEL fun g K=>bEL fun i L=>bEL fun j M=>rCL (kCL 1 Ah (uL K)<|kCL 3 Ah (uL L)<|kCL 5 Ah (uL M) edL)<|bC 1 Ah xm fun s=>rgL<|cuL (fun e=>⟨228,[(0,qs a0),(2,qp 0),(6,qp 1),(7,qp 2)]⟩) (fun e=>⟨[[qi 0,qs [],qi 0,qn,qb false,qb false,qb false,qn,qi 0,qb false,qn],[ql 3 zb.cells s.2.2.f_l,qi s.2.2.dh,qb e.1],[qi a.2.2,qs b.2,qi d.2,ql 1 cS c.2.2.2,qb g.1,qb i.1,qb j.1,ql 3 zc.cells e.2,qi 0,qb false,qn]],[]⟩) (fun e=>bFL (bC 2 Ae Yo fun N=>bEL fun O hE=>Gl hE zl ⟨228,[(0,qs a0),(2,qp 0),(6,qp 1),(7,qp 2)]⟩ ⟨[[qi 0,qs [],qi 0,qn,qb false,qb false,qb false,qn,qi 0,qb false,qn],[ql 3 zb.cells s.2.2.f_l,qi s.2.2.dh,qb O],[qi a.2.2,qs b.2,qi d.2,ql 1 cS c.2.2.2,qb g.1,qb i.1,qb j.1,ql 3 zc.cells N.1,qi 0,qb false,qn]],[]⟩ (gFL 7 168 (eJ Ad)<|eJ Ad)<|jnL Ac)<|jnL Ad) fun e=>bC 1 Ah Zs fun v=>bC 1 Ah uL fun w=>bC 1 Ah xm fun C=>rgL<|cuL (fun f=>⟨228,[(0,qs a0),(2,qp 0),(6,qp 1),(7,qp 2)]⟩) (fun f=>⟨[[qi 0,qs [],qi 0,qn,qb false,qb false,qb false,qn,qi 0,qb false,qn],[ql 3 zb.cells f.1,qi f.2.1,qb f.2.2.1],[qi a.2.2,qs b.2,qi d.2,ql 1 cS c.2.2.2,qb g.1,qb i.1,qb j.1,ql 3 zc.cells e.2,qi v.1,qb w.1,ql 4 ze.cells f.2.2.2]],[]⟩) (fun f=>bFL (bC 2 Ae uk fun P=>bEL fun Q hE=>rgF hE ⟨228,[(0,qs a0),(2,qp 0),(6,qp 1),(7,qp 2),(26,ql 3 zb.cells P.1)]⟩ ⟨[[qi 0,qs [],qi 0,qn,qb false,qb false,qb false,qn,qi 0,qb false,qn],[ql 3 zb.cells C.2.2.f_l,qi C.2.2.dh,qb Q],[qi a.2.2,qs b.2,qi d.2,ql 1 cS c.2.2.2,qb g.1,qb i.1,qb j.1,ql 3 zc.cells e.2,qi v.1,qb w.1,qn]],[]⟩ (gFL 6 198 (eJ Ad)<|eJ Ad)<|bEL fun Y R=>xo zl (kCL 2 Ah (Zu R) edL)<|jnL Ac)<|jnL Ad) fun f=>bC 1 A8 gC fun Z=>bEL fun S hE=>rgF hE ⟨228,[(2,qp 0),(7,qp 1),(225,qb S)]⟩ ⟨[[qi 0,qs [],qi 0,qn,qb false,qb false,qb false,qn,qi 0,qb false,qn],[qi a.2.2,qs b.2,qi d.2,ql 1 cS c.2.2.2,qb g.1,qb i.1,qb j.1,ql 3 zc.cells e.2,qi v.1,qb w.1,ql 4 ze.cells f.2.2.2]],[]⟩ (gFL 5 217 (eJ Aq)<|gFL 9 221 (eJ Aq)<|eJ Aq)<|bFL (rgL<|rKL A4)<|rgL<|rKL A4
def ui (n:Nat)(a0 a1:List Cn):Nat→Int→Option (Ctl Bool Unit)
 |0,_=>none
 | k+1,a=>
  if decide (a<(a0.length:Int))then((zM a0 a).bind fun b=>
  (zM a1 a).bind fun c=>
  if !(b==c)then(some (.ret false))else(ui n a0 a1 k (wrap .i64 (a+1))))else(some (.nxt ()))
def bD (n:Nat)(a0 a1:List Cn):Option Bool:=
 if(a0.length:Int) !=(a1.length:Int)then(some false)else(yb (ui n a0 a1 n 0) (fun r=>some r) (fun a=>
 some true))
theorem Va {n a0 a1 r}:bD n a0 a1=some r→AC mx 84 [ql 1 cS a0,ql 1 cS a1] [] (qb r) []:=
 fnL Tryz.func84 rfl<|rgL<|rCL (kPL 1 (ue a0)<|kPL 3 (ue a1) edL)<|bFL (rgL<|rKL A1)<|rgL<|bcL (fun _=>⟨26,[]⟩) (fun _=>⟨[],[]⟩) (fun g b=>lpL (fun k x=>ui n a0 a1 k x) 0 A1 (fun x=>⟨26,[(0,ql 1 cS a0),(1,ql 1 cS a1),(5,qi x)]⟩) (fun x=>⟨[],[]⟩) fun k a=>by rw [ui]; exact cP 2 (ue a0)<|bFL (zo<|bEL fun c d=>bEL fun e f=>lfL (fun z=>zs [0,1,2,3,4,5,6,7,8] [] [[],[],[0,1],[0,1,2],[],[],[4,5],[4,5,6],[0,1,2,3,4,5,6,7]] [0,1] [(5,qi a),(25,qb (!(c==e)))] (dS [0,1]<|dP (ww d)<|dS [3,4,5]<|dP (ww f)<|dS [7,8]<|dE A1) z)<|bFL (rgL<|hKL b<|rJ A1)<|zp<|z8 zl fun h=>⟨wrap .i64 (a+1),h,wk A1⟩)<|xjL<|jCL A1) fun i=>rgL<|rKL A1
def wJ (n:Nat)(b:List za)(a:za):Nat→Bool→Int→Option Bool
 |0,_,_=>none
 | k+1,e,c=>
  if decide (c<(b.length:Int))then((zM b c).bind fun d=>
  (if e then(some true)else(some (a.xx==d.xx&&(a.zG==d.zG&&(a.vg==d.vg&&true))))).bind fun f=>
  wJ n b a k f (wrap .i64 (c+1)))else(some e)
def wI (n:Nat)(a:List za)(a1:zv)(c:Int):Nat→Int→Option (Ctl Bool Unit)
 |0,_=>none
 | k+1,b=>
  if decide (b<(a.length:Int))then((zM a b).bind fun d=>
  (zM a1.zh c).bind fun e=>
  (wJ n e d n false 0).bind fun f=>
  if !f then(some (.ret false))else(wI n a a1 c k (wrap .i64 (b+1))))else(some (.nxt ()))
def wK (n:Nat)(a0 a1:zv):Nat→Int→Option (Ctl Bool Unit)
 |0,_=>none
 | k+1,a=>
  if decide (a<(a0.zh.length:Int))then((zM a0.zh a).bind fun b=>
  (zM a1.zh a).bind fun c=>
  if(b.length:Int) !=(c.length:Int)then(some (.ret false))else((zM a0.zh a).bind fun d=>
  yb (wI n d a1 a n 0) (fun r=>some (.ret r)) (fun e=>
  wK n a0 a1 k (wrap .i64 (a+1)))))else(some (.nxt ()))
def wG (n:Nat)(a0 a1:zv):Option Bool:=
 if(a0.zh.length:Int) !=(a1.zh.length:Int)then(some false)else(yb (wK n a0 a1 n 0) (fun r=>some r) (fun a=>
 some true))
theorem dK {n a0 a1 r}:wG n a0 a1=some r→AC mx 108 [.agg [ql 1 (cL 3 za.cells) a0.zh], .agg [ql 1 (cL 3 za.cells) a1.zh]] [] (qb r) []:=
 fnL Tryz.func108 rfl<|rgL<|rCL (kPL 2 (ga a0.zh)<|kPL 5 (ga a1.zh) edL)<|bFL (rgL<|rKL A4)<|cP 2 (ga a0.zh)<|bcL (fun _=>⟨68,[]⟩) (fun _=>⟨[],[]⟩) (fun A g=>lpL (fun k x=>wK n a0 a1 k x) 0 A5 (fun x=>⟨68,[(2,qp 0),(3,qp 1),(20,qi (a0.zh.length)),(21,qi x)]⟩) (fun x=>⟨[[ql 1 (cL 3 za.cells) a0.zh],[ql 1 (cL 3 za.cells) a1.zh]],[]⟩) fun k a=>by rw [wK]; exact rgL<|bFL (zo<|rgL<|bEL fun i o=>bEL fun j s=>lfL (fun z=>zs [0,1,2,3,4,5,6,7,8,9,10,11,12] [] [[],[0],[],[0,1,2],[0,1,2,3],[0,1,2,3,4],[],[6],[],[6,7,8],[6,7,8,9],[6,7,8,9,10],[0,1,2,3,4,5,6,7,8,9,10,11]] [5,20,21] [(2,qp 0),(3,qp 1),(36,qb ((i.length:Int) !=(j.length:Int)))] (dS [0,1,2]<|dP (ZD o)<|dS [4]<|dP (g9 i)<|dS [6,7,8]<|dP (ZD s)<|dS [10]<|dP (g9 j)<|dS [12]<|dE A5) z)<|bFL (rgL<|hKL g<|rJ A4)<|bEL fun b u=>rCL (kPL 3 (ZD u)<|kPL 5 (g9 b) edL)<|rv zJ (fun _=>⟨68,[(2,qp 0),(3,qp 1),(20,qi (a0.zh.length)),(21,qi a)]⟩) (fun _=>⟨[[ql 1 (cL 3 za.cells) a0.zh],[ql 1 (cL 3 za.cells) a1.zh]],[]⟩) (fun B v=>lpL (fun k x=>wI n b a1 a k x) 0 A5 (fun x=>⟨68,[(2,qp 0),(3,qp 1),(5,qi a),(20,qi (a0.zh.length)),(21,qi a),(41,ql 3 za.cells b),(42,qi (b.length)),(43,qi x)]⟩) (fun x=>⟨[[ql 1 (cL 3 za.cells) a0.zh],[ql 1 (cL 3 za.cells) a1.zh]],[]⟩) fun k d=>by rw [wI]; exact rgL<|bFL (zo<|bP 0 ZF fun f=>rgL<|bEL fun c w=>rCL (kPL 3 (ZD w)<|kPL 5 (g9 c) edL)<|blL (fun e=>⟨68,[(2,qp 0),(3,qp 1),(5,qi a),(8,qb e),(20,qi (a0.zh.length)),(21,qi a),(41,ql 3 za.cells b),(42,qi (b.length)),(43,qi d)]⟩) (fun e=>⟨[[ql 1 (cL 3 za.cells) a0.zh],[ql 1 (cL 3 za.cells) a1.zh]],[]⟩) (fun e=>lpL (fun k x=>wJ n c f k x.1 x.2) (false,0) Ac (fun x=>⟨68,[(2,qp 0),(3,qp 1),(5,qi a),(7,qp 2),(8,qb x.1),(20,qi (a0.zh.length)),(21,qi a),(41,ql 3 za.cells b),(42,qi (b.length)),(43,qi d),(51,ql 3 za.cells c),(52,qi (c.length)),(53,qi x.2)]⟩) (fun x=>⟨[[ql 1 (cL 3 za.cells) a0.zh],[ql 1 (cL 3 za.cells) a1.zh],za.cells f],[]⟩) fun k x=>by obtain⟨C,l⟩:=x; rw [wJ]; exact rgL<|bFL (zo<|bP 0 ZF fun D=>bEL fun m hE=>Gl hE zJ ⟨68,[(2,qp 0),(3,qp 1),(5,qi a),(7,qp 2),(8,qb m),(20,qi (a0.zh.length)),(21,qi a),(41,ql 3 za.cells b),(42,qi (b.length)),(43,qi d),(51,ql 3 za.cells c),(52,qi (c.length)),(53,qi l)]⟩ ⟨[[ql 1 (cL 3 za.cells) a0.zh],[ql 1 (cL 3 za.cells) a1.zh],za.cells f],[]⟩ (gFL 2 58 (eJ Ad)<|eJ Ad)<|zp<|z8 zl fun h=>⟨(m,wrap .i64 (l+1)),h,wk Ac⟩)<|xjL<|jnL As) fun e=>rgL<|bFL (rgL<|hKL v<|yf<|wo<|hvL g<|yn<|rJ A4)<|zp<|z8 zl fun h=>⟨wrap .i64 (d+1),h,wk A5⟩)<|xjL<|jCL A5) fun E=>zp<|z8 zl fun h=>⟨wrap .i64 (a+1),h,wk A5⟩)<|xjL<|jCL A4) fun F=>rgL<|rKL A1
def xE (n:Nat)(a0 a1:List zc):Nat→Int→Option (Ctl Bool Unit)
 |0,_=>none
 | k+1,a=>
  if decide (a<(a0.length:Int))then(((zM a0 a).bind fun b=>
  (zM a1 a).bind fun c=>
  if b.zG !=c.zG then(some true)else((zM a0 a).bind fun d=>
  (zM a1 a).bind fun e=>
  if !(d.yl==e.yl)then(some true)else((zM a0 a).bind fun f=>
  (zM a1 a).bind fun g=>
  (wG n (zv.mk f.zt.zh) (zv.mk g.zt.zh)).bind fun i=>
  some (!i)))).bind fun j=>
  if j then(some (.ret false))else(xE n a0 a1 k (wrap .i64 (a+1))))else(some (.nxt ()))
def jl (n:Nat)(a0 a1:List zc):Option Bool:=
 if(a0.length:Int) !=(a1.length:Int)then(some false)else(yb (xE n a0 a1 n 0) (fun r=>some r) (fun a=>
 some true))
theorem ZP {n a0 a1 r}:jl n a0 a1=some r→AC mx 85 [ql 3 zc.cells a0,ql 3 zc.cells a1] [] (qb r) []:=
 fnL Tryz.func85 rfl<|rgL<|rCL (kPL 1 (gg a0)<|kPL 3 (gg a1) edL)<|bFL (rgL<|rKL A1)<|cP 1 (gg a0)<|bcL (fun _=>⟨55,[]⟩) (fun _=>⟨[],[]⟩) (fun m i=>lpL (fun k x=>xE n a0 a1 k x) 0 A1 (fun x=>⟨55,[(0,ql 3 zc.cells a0),(1,ql 3 zc.cells a1),(12,qi (a0.length)),(13,qi x)]⟩) (fun x=>⟨[],[]⟩) fun k e=>by rw [xE]; exact rgL<|bFL (zo<|rgL<|bEL fun j hE=>lfL (fun z=>drw [0,1,2,3,4,5,6,7,8,9,10,11,12,13,14,15,16,17,18,19,20,21,22,23,24,25,26,27,28,29,30,31,32,33,34,35,36,37] [35] [[],[],[0,1],[0,1,2],zx 0 4,[],[],[5,6],[5,6,7],zx 5 4,zx 0 10,zx 0 11,zx 0 12,zx 0 12,zx 0 14,zx 0 15,zx 0 16,zx 0 12,zx 0 12,zx 0 12 ++ [17,18],zx 0 12 ++ [17,18,19],zx 0 12++zx 17 4,zx 0 22,zx 0 23,zx 0 24,zx 0 25,zx 0 25,zx 0 27,zx 0 28,zx 0 29,zx 0 25,zx 0 25,zx 0 25 ++ [30,31],zx 0 25 ++ [30,31,32],zx 0 25++zx 30 4,zx 0 35,zx 0 36,zx 0 37] ⟨55,[(0,ql 3 zc.cells a0),(1,ql 3 zc.cells a1),(12,qi (a0.length)),(13,qi e),(53,qb j)]⟩ ⟨[],[]⟩ (have h:=hE; bE h fun o a h=>bE h fun s b h=>dS [0,1]<|dP (vN a)<|dS (zx 3 4)<|dP (vN b)<|dS (zx 8 4)<|hF 27 h (fun h=>dS (zx 12 23)<|dF (zr 7 (vN b) (zr 2 (vN a) zW))<|dS [36,37]<|by cases h; exact dE A1) fun h=>bE h fun u c h=>bE h fun v d h=>dS [12,13]<|dP (vN c)<|dS (zx 15 4)<|dP (vN d)<|dS (zx 20 5)<|hF 40 h (fun h=>dS (zx 25 10)<|dF (zr 19 (vN d) (zr 14 (vN c) (zr 7 (vN b) (zr 2 (vN a) zW))))<|dS [36,37]<|by cases h; exact dE A1) fun h=>bE h fun w f h=>bE h fun A g h=>bE h fun B l h=>dS [25,26]<|dP (vN f)<|dS (zx 28 4)<|dP (vN g)<|dS [33,34]<|dC (zr 32 (vN g) (zr 27 (vN f) (zr 19 (vN d) (zr 14 (vN c) (zr 7 (vN b) (zr 2 (vN a) zW)))))) A1 (dK l)<|dS [36,37]<|by cases h; exact dE A1) z)<|bFL (rgL<|hKL i<|rJ A1)<|zp<|z8 zl fun h=>⟨wrap .i64 (e+1),h,wk A1⟩)<|xjL<|jCL A1) fun C=>rgL<|rKL A1
def xN (n:Nat)(a0 a1:List ze):Nat→Int→Option (Ctl Bool Unit)
 |0,_=>none
 | k+1,a=>
  if decide (a<(a0.length:Int))then(((zM a0 a).bind fun b=>
  (zM a1 a).bind fun c=>
  if !(b.zP.zA==c.zP.zA&&(b.zP.wj==c.zP.wj&&(b.zP.zY==c.zP.zY&&true)))then(some true)else((zM a0 a).bind fun d=>
  (zM a1 a).bind fun e=>
  (wG n (zv.mk d.zt.zh) (zv.mk e.zt.zh)).bind fun f=>
  some (!f))).bind fun g=>
  if g then(some (.ret false))else(xN n a0 a1 k (wrap .i64 (a+1))))else(some (.nxt ()))
def ju (n:Nat)(a0 a1:List ze):Option Bool:=
 if(a0.length:Int) !=(a1.length:Int)then(some false)else(yb (xN n a0 a1 n 0) (fun r=>some r) (fun a=>
 some true))
theorem Yb {n a0 a1 r}:ju n a0 a1=some r→AC mx 39 [ql 4 ze.cells a0,ql 4 ze.cells a1] [] (qb r) []:=
 fnL Tryz.func39 rfl<|rgL<|rCL (kPL 1 (bZ a0)<|kPL 3 (bZ a1) edL)<|bFL (rgL<|rKL A1)<|rgL<|bcL (fun _=>⟨42,[]⟩) (fun _=>⟨[],[]⟩) (fun j f=>lpL (fun k x=>xN n a0 a1 k x) 0 A1 (fun x=>⟨42,[(0,ql 4 ze.cells a0),(1,ql 4 ze.cells a1),(5,qi x)]⟩) (fun x=>⟨[],[]⟩) fun k c=>by rw [xN]; exact cP 2 (bZ a0)<|bFL (zo<|bEL fun g hE=>lfL (fun z=>drw [0,1,2,3,4,5,6,7,8,9,10,11,12,13,14,15,16,17,18,19,20,21,22,23,24] [22] [[],[],[0,1],[0,1,2],zx 0 4,[],[],[5,6],[5,6,7],zx 5 4,zx 0 10,zx 0 11,zx 0 12,zx 0 12,zx 0 14,zx 0 15,zx 0 16,zx 0 12,zx 0 12,zx 0 12 ++ [17,18],zx 0 12 ++ [17,18,19],zx 0 12++zx 17 4,zx 0 22,zx 0 23,zx 0 24] ⟨42,[(0,ql 4 ze.cells a0),(1,ql 4 ze.cells a1),(5,qi c),(41,qb g)]⟩ ⟨[],[]⟩ (have h:=hE; bE h fun l a h=>bE h fun m b h=>dS [0,1]<|dP (jF a)<|dS (zx 3 4)<|dP (jF b)<|dS (zx 8 4)<|hF 28 h (fun h=>dS (zx 12 10)<|dF (zr 7 (jF b) (zr 2 (jF a) zW))<|dS [23,24]<|by cases h; exact dE A1) fun h=>bE h fun o d h=>bE h fun s e h=>bE h fun u i h=>dS [12,13]<|dP (jF d)<|dS (zx 15 4)<|dP (jF e)<|dS [20,21]<|dC (zr 19 (jF e) (zr 14 (jF d) (zr 7 (jF b) (zr 2 (jF a) zW)))) A1 (dK i)<|dS [23,24]<|by cases h; exact dE A1) z)<|bFL (rgL<|hKL f<|rJ A1)<|zp<|z8 zl fun h=>⟨wrap .i64 (c+1),h,wk A1⟩)<|xjL<|jCL A1) fun v=>rgL<|rKL A1
def wg (n:Nat)(a0 a1:zz):Option Bool:=
 (if a0.uu==a1.uu then(if a0.zC==a1.zC then(if a0.yk==a1.yk then((bD n a0.zi a1.zi).bind fun a=>
 if a then(if a0.xI==a1.xI then(if a0.xb==a1.xb then(if a0.jt==a1.jt then((jl n a0.zy a1.zy).bind fun b=>
 if b then(if a0.ye==a1.ye then(if a0.uc==a1.uc then((ju n a0.zg a1.zg).bind fun c=>
 some c)else(some false))else(some false))else(some false))else(some false))else(some false))else(some false))else(some false))else(some false))else(some false))else(some false)).bind fun d=>
 some d
theorem YK {n a0 a1 r}:wg n a0 a1=some r→AC mx 20 [.agg (zz.cells a0), .agg (zz.cells a1)] [] (qb r) []:=
 fnL Tryz.func20 rfl<|rgL<|bEL fun a hE=>rgF hE ⟨80,[(4,qb a)]⟩ ⟨[],[]⟩ (gFL 6 10 (gFL 13 17 (gFL 20 24 (bEL fun e b=>kCL 24 A4 (Va b)<|gFL 27 31 (gFL 34 38 (gFL 41 45 (gFL 48 52 (bEL fun f c=>kCL 52 A4 (ZP c)<|gFL 55 59 (gFL 62 66 (gFL 69 73 (bEL fun g d=>kCL 73 A4 (Yb d)<|eJ A4)<|eJ A4)<|eJ A4)<|eJ A4)<|eJ A4)<|eJ A4)<|eJ A4)<|eJ A4)<|eJ A4)<|eJ A4)<|eJ A4)<|rKL A1
def qQ (n:Nat)(a0:List ze):Nat→Int→Option (Ctl (Cn×Int) Unit)
 |0,_=>none
 | k+1,b=>
  if decide (b<(a0.length:Int))then((zM a0 b).bind fun a=>
  (jU n (zv.mk a.zt.zh)).bind fun c=>
  if c !=0 then(some (.ret (([]:Cn),c)))else(if(a.zt.zh.length:Int)==0 then(some (.ret (([]:Cn),14)))else((gq n (zB.mk a.zP.zA a.zP.wj a.zP.zY)).bind fun d=>
  if d.2 !=0 then(some (.ret (([]:Cn),d.2)))else(qQ n a0 k (wrap .i64 (b+1))))))else(some (.nxt ()))
def qG (n:Nat)(a0:List ze):Nat→Int→Cn→Int→Option (Cn×Int)
 |0,_,_,_=>none
 | k+1,b,c,d=>
  if decide (b<(a0.length:Int))then((zM a0 b).bind fun a=>
  (jo n (ze.mk (zv.mk a.zt.zh) (zB.mk a.zP.zA a.zP.wj a.zP.zY)) (zn.mk c d)).bind fun e=>
  qG n a0 k (wrap .i64 (b+1)) e.f_b e.f_e)else(some (c,d))
def Yf (n:Nat)(a0:List ze):Option (Cn×Int):=
 if decide ((a0.length:Int)>64)then(some (([]:Cn),2))else(yb (qQ n a0 n 0) (fun r=>some r) (fun c=>
 (qG n a0 n 0 ([]:Cn) 0).bind fun a=>
 (xw n (zn.mk a.1 a.2)).bind fun b=>
 some (b.1,b.2.1)))
theorem W3 {n a0 r}:Yf n a0=some r→AC mx 35 [ql 4 ze.cells a0] [] (.tuple [qs r.1,qi r.2]) []:=
 fnL Tryz.func35 rfl<|rgL<|cP 1 (bZ a0)<|bFL (rgL<|rKL A1)<|cP 1 (bZ a0)<|bcL (fun _=>⟨54,[(0,ql 4 ze.cells a0)]⟩) (fun _=>⟨[],[]⟩) (fun i b=>lpL (fun k x=>qQ n a0 k x) 0 A1 (fun x=>⟨54,[(0,ql 4 ze.cells a0),(15,ql 4 ze.cells a0),(16,qi (a0.length)),(17,qi x)]⟩) (fun x=>⟨[],[]⟩) fun k d=>by rw [qQ]; exact rgL<|bFL (zo<|bP 0 jF fun e=>bC 2 A2 gc fun j=>rgL<|bFL (rgL<|hKL b<|rJ A2)<|cP 3 (ga e.zt.zh)<|bFL (rgL<|hKL b<|rJ A2)<|bC 2 A2 YP fun l=>rgL<|bFL (rgL<|hKL b<|rJ A2)<|zp<|z8 zl fun h=>⟨wrap .i64 (d+1),h,wk A2⟩)<|xjL<|jCL A1) fun m=>rgL<|cP 1 (bZ a0)<|blL (fun a=>⟨54,[(9,qp 0)]⟩) (fun a=>⟨[[qs a.1,qi a.2]],[]⟩) (fun a=>lpL (fun k x=>qG n a0 k x.1 x.2.1 x.2.2) (0,([]:Cn),0) A3 (fun x=>⟨54,[(9,qp 0),(42,ql 4 ze.cells a0),(43,qi (a0.length)),(44,qi x.1)]⟩) (fun x=>⟨[[qs x.2.1,qi x.2.2]],[]⟩) fun k x=>by obtain⟨f,o,s⟩:=x; rw [qG]; exact rgL<|bFL (zo<|bP 0 jF fun u=>bEL fun c g=>xo zJ (kCL 1 A7 (pS g) edL)<|zp<|z8 zl fun h=>⟨(wrap .i64 (f+1),c.f_b,c.f_e),h,wk A7⟩)<|xjL<|jnL A3) fun a=>bC 0 A3 ki fun v=>rKL A2
def pa (n:Nat)(a0:Int):Option Bool:=
 (if decide (a0≥0)then(some (decide (a0<64)))else(some false)).bind fun a=>
 some a
theorem pZ {n a0 r}:pa n a0=some r→AC mx 87 [qi a0] [] (qb r) []:=
 fnL Tryz.func87 rfl<|rgL<|bEL fun a hE=>rgF hE ⟨9,[(2,qb a)]⟩ ⟨[],[]⟩ (gFL 3 5 (eJ A1)<|eJ A1)<|rKL A1
def Uq (n:Nat)(m0:zn):Option zn:=
 some m0
theorem JW {n m0 r}:Uq n m0=some r→AC mx 90 [qp 0] [zn.cells m0] (.func (.func 52) [qp 0] []) [zn.cells r]:=
 fnL Tryz.func90 rfl<|rgL<|rgL<|rKL A3
end Go.Abs
end
