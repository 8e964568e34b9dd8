/- For each Go function: if its typed Lean form gives some result, the call returns that result (printed by a program of this hand). Condition: the typed form gives some result. -/
import Derived.Test.YtbggpcnbbhjiaaaGreatDoorW2
set_option linter.unusedVariables false
set_option linter.unusedSimpArgs false
set_option linter.unnecessarySimpa false
section
set_option maxRecDepth 100000
set_option maxHeartbeats 0
namespace Go.Abs
open Go Go.Proofs IntKind
variable {mx:Int}
def yT (n:Nat)(a0:zz):Nat→Int→(List (Cd×Bool))→Option (Ctl Int (List (Cd×Bool)))
 |0,_,_=>none
 | k+1,a,b=>
  if decide (a<(a0.ze.length:Int))then((zV a0.ze a).bind fun c=>
  (bM n c).bind fun d=>
  if !d then(some (.ret 11))else(yT n a0 k (wrap .i64 (a+1)) (Jb c true b)))else(some (.nxt b))
def xF (n:Nat)(a0:zz):Nat→Int→Option (Ctl Int Unit)
 |0,_=>none
 | k+1,a=>
  if decide (a<(a0.zw.length:Int))then((zV a0.zw a).bind fun b=>
  (wR n (zd.mk b.zG b.yy (zC.mk b.zo.zg)) false).bind fun c=>
  if c !=0 then(some (.ret c))else(xF n a0 k (wrap .i64 (a+1))))else(some (.nxt ()))
def xH (n:Nat)(a0:zz):Nat→Int→Option (Ctl Int Unit)
 |0,_=>none
 | k+1,b=>
  if decide (b<(a0.zf.length:Int))then((zV a0.zf b).bind fun a=>
  (jE n (zC.mk a.zo.zg)).bind fun c=>
  if c !=0 then(some (.ret c))else(if(a.zo.zg.length:Int)==0 then(some (.ret 14))else((qN n (zF.mk a.zK.zy a.zK.wL a.zK.zY)).bind fun d=>
  if d !=0 then(some (.ret d))else(xH n a0 k (wrap .i64 (b+1))))))else(some (.nxt ()))
def vz (n:Nat)(a0:zz):Option Int:=
 (if decide (a0.uB<0)then(some true)else(some (decide (a0.uB>254033452799)))).bind fun a=>
 if a then(some 12)else((if !(a0.zB==([]:Cd))then((bM n a0.zB).bind fun b=>
 some (!b))else(some false)).bind fun c=>
 if c then(some 11)else((if decide (a0.yk<0)then(some true)else(if decide (a0.yk>511)then(some true)else(if decide (a0.yj<1)then(some true)else(some (decide (a0.yj>8)))))).bind fun d=>
 if d then(some 1)else((if decide ((a0.ze.length:Int)>8)then(some true)else(if decide ((a0.zw.length:Int)>16)then(some true)else(some (decide ((a0.zf.length:Int)>64))))).bind fun e=>
 if e then(some 2)else(z8 (yT n a0 n 0 ([]:List (Cd×Bool))) (fun r=>some r) (fun f=>
 if decide ((f.length:Int)<(a0.ze.length:Int))then(some 10)else(z8 (xF n a0 n 0) (fun r=>some r) (fun g=>
 z8 (xH n a0 n 0) (fun r=>some r) (fun i=>
 some 0))))))))
theorem VJ {n a0 r}:vz n a0=some r→AC mx 42 [.agg (zz.cells a0)] [] (qi r) []:=
 fnL Tryz.func42 rfl<|rgL<|zp<|bEL fun g hE=>rgF hE ⟨126,[(1,qp 0),(13,qb g)]⟩ ⟨[zz.cells a0],[]⟩ (gFL 4 17 (eJ A3)<|eJ A3)<|bFL (rgL<|yu<|yO<|rJ A2)<|bEL fun i hE=>rgF hE ⟨126,[(1,qp 0),(22,qb i)]⟩ ⟨[zz.cells a0],[]⟩ (gFL 4 26 (bEL fun B j=>kCL 6 A2 (pE j)<|eJ A3)<|eJ A3)<|bFL (rgL<|yu<|yO<|rJ A2)<|bEL fun l hE=>rgF hE ⟨126,[(1,qp 0),(32,qb l)]⟩ ⟨[zz.cells a0],[]⟩ (gFL 4 36 (eJ A3)<|gFL 9 41 (eJ A3)<|gFL 14 46 (eJ A3)<|eJ A3)<|bFL (rgL<|yu<|yO<|rJ A2)<|bEL fun m hE=>rgF hE ⟨126,[(1,qp 0),(51,qb m)]⟩ ⟨[zz.cells a0],[]⟩ (kPL 2 (uu a0.ze)<|gFL 5 56 (eJ A3)<|kPL 7 (bA a0.zw)<|gFL 11 62 (eJ A3)<|kPL 13 (qO a0.zf)<|eJ A3)<|bFL (rgL<|yu<|yO<|rJ A2)<|zq<|rgL<|cP 2 (uu a0.ze)<|bcL (fun a=>⟨126,[(1,qp 0),(3, .mapv 1)]⟩) (fun a=>⟨[zz.cells a0,[.mp (mpc vB a)]],[]⟩) (fun C o=>lpL (fun k x=>yT n a0 k x.1 x.2) (0,([]:List (Cd×Bool))) A5 (fun x=>⟨126,[(1,qp 0),(3, .mapv 1),(70,ql 1 cS a0.ze),(71,qi (a0.ze.length)),(72,qi x.1)]⟩) (fun x=>⟨[zz.cells a0,[.mp (mpc vB x.2)]],[]⟩) fun k x=>by obtain⟨s,d⟩:=x; rw [yT]; exact rgL<|bFL (zp<|bP 0 vq fun f=>bC 1 A4 pE fun D=>bFL (rgL<|hKL o<|rJ A4)<|wO zS (lfL (fun z=>kV 2 2 0 1 (zbp (T:=tyT) (c:=vB) (e:=d) (k:=f) true (kt:=9) (et:=4) O7 (fun _=>rfl)) z) edL)<|zq<|yl zn fun h=>⟨(wrap .i64 (s+1),Jb f true d),h,wk A5⟩)<|xjL<|jCL A5) fun a=>rCL (kPL 1 (zbu (c:=vB) (e:=a))<|kPL 4 (uu a0.ze) edL)<|bFL (rgL<|rKL A4)<|cP 2 (bA a0.zw)<|bcL (fun _=>⟨126,[(1,qp 0)]⟩) (fun _=>⟨[zz.cells a0],[]⟩) (fun E u=>lpL (fun k x=>xF n a0 k x) 0 A8 (fun x=>⟨126,[(1,qp 0),(89,ql 3 zd.cells a0.zw),(90,qi (a0.zw.length)),(91,qi x)]⟩) (fun x=>⟨[zz.cells a0],[]⟩) fun k v=>by rw [xF]; exact rgL<|bFL (zp<|bP 0 vG fun F=>bC 1 A4 ZB fun G=>rgL<|bFL (rgL<|hKL u<|rJ A4)<|zq<|yl zn fun h=>⟨wrap .i64 (v+1),h,wk A8⟩)<|xjL<|jCL A3) fun H=>cP 2 (qO a0.zf)<|bcL (fun _=>⟨126,[]⟩) (fun _=>⟨[],[]⟩) (fun I b=>lpL (fun k x=>xH n a0 k x) 0 A2 (fun x=>⟨126,[(102,ql 4 zj.cells a0.zf),(103,qi (a0.zf.length)),(104,qi x)]⟩) (fun x=>⟨[],[]⟩) fun k w=>by rw [xH]; exact rgL<|bFL (zp<|bP 0 u6 fun A=>bC 2 A2 bJ fun J=>rgL<|bFL (rgL<|hKL b<|rJ A2)<|cP 3 (bQ A.zo.zg)<|bFL (rgL<|hKL b<|rJ A2)<|bC 2 A2 pO fun K=>rgL<|bFL (rgL<|hKL b<|rJ A2)<|zq<|yl zn fun h=>⟨wrap .i64 (w+1),h,wk A2⟩)<|xjL<|jCL A1) fun L=>rgL<|rKL A1
def kz (n:Nat)(a0:Int):Nat→Int→Option Int
 |0,_=>none
 | k+1,a=>
  (dN n (wrap .i64 (a+1))).bind fun b=>
  if decide (b≤(wrap .i64 (Int.tdiv a0 86400)))then(kz n a0 k (wrap .i64 (a+1)))else(some a)
def kI (n:Nat)(b:Int):Nat→Int→Int→Option (Int×Int)
 |0,_,_=>none
 | k+1,c,a=>
  (kO n b a).bind fun d=>
  if decide (c≥d)then((kO n b a).bind fun e=>
  kI n b k (wrap .i64 (c-e)) (wrap .i64 (a+1)))else(some (c,a))
def Z2 (n:Nat)(a0:Int):Option (yd×Int):=
 (if decide (a0<0)then(some true)else(some (decide (a0>254033452799)))).bind fun c=>
 if c then(some ((yd.mk 0 0 0 0 0 0),1))else((kz n a0 n (wrap .i64 ((1950:Int)+(wrap .i64 (Int.tdiv (wrap .i64 (Int.tdiv a0 86400)) 366))))).bind fun a=>
 (dN n a).bind fun d=>
 (kI n a n (wrap .i64 ((wrap .i64 (Int.tdiv a0 86400))-d)) 1).bind fun b=>
 some ((yd.mk a b.2 (wrap .i64 (b.1+1)) (wrap .i64 (Int.tdiv (Int.tmod a0 86400) 3600)) (Int.tmod (wrap .i64 (Int.tdiv (Int.tmod a0 86400) 60)) 60) (Int.tmod (Int.tmod a0 86400) 60)),0))
theorem Qw {n a0 r}:Z2 n a0=some r→AC mx 113 [qi a0] [] (.tuple [.agg (yd.cells r.1),qi r.2]) []:=
 fnL Tryz.func113 rfl<|rgL<|bEL fun c hE=>rgF hE ⟨57,[(0,qi a0),(2,qp 0),(13,qb c)]⟩ ⟨[[qi 0,qi 0,qi 0,qi 0,qi 0,qi 0]],[]⟩ (gFL 3 10 (eJ A3)<|eJ A3)<|bFL (rgL<|rKL A2)<|rgL<|rgL<|blL (fun a=>⟨57,[(2,qp 0),(4,qi (wrap .i64 (Int.tdiv a0 86400))),(5,qi (Int.tmod a0 86400)),(6,qi a)]⟩) (fun a=>⟨[[qi 0,qi 0,qi 0,qi 0,qi 0,qi 0]],[]⟩) (fun a=>lpL (fun k x=>kz n a0 k x) (wrap .i64 ((1950:Int)+(wrap .i64 (Int.tdiv (wrap .i64 (Int.tdiv a0 86400)) 366)))) A3 (fun x=>⟨57,[(2,qp 0),(4,qi (wrap .i64 (Int.tdiv a0 86400))),(5,qi (Int.tmod a0 86400)),(6,qi x)]⟩) (fun x=>⟨[[qi 0,qi 0,qi 0,qi 0,qi 0,qi 0]],[]⟩) fun k d=>by rw [kz]; exact bC 2 A2 Zi fun j=>bFL (zp<|yl (j7 (P:=Tryz.prog) (gl:=gl0 mx) zn)<|zq fun h=>⟨wrap .i64 (d+1),h,wk A3⟩)<|xjL<|jnL A3) fun a=>bC 2 A2 Zi fun e=>rgL<|blL (fun b=>⟨57,[(2,qp 0),(4,qi b.1),(5,qi (Int.tmod a0 86400)),(6,qi a),(7,qi b.2)]⟩) (fun b=>⟨[[qi 0,qi 0,qi 0,qi 0,qi 0,qi 0]],[]⟩) (fun b=>lpL (fun k x=>kI n a k x.1 x.2) (wrap .i64 ((wrap .i64 (Int.tdiv a0 86400))-e),1) A3 (fun x=>⟨57,[(2,qp 0),(4,qi x.1),(5,qi (Int.tmod a0 86400)),(6,qi a),(7,qi x.2)]⟩) (fun x=>⟨[[qi 0,qi 0,qi 0,qi 0,qi 0,qi 0]],[]⟩) fun k x=>by obtain⟨f,g⟩:=x; rw [kI]; exact bC 3 A2 dv fun l=>bFL (zp<|bC 3 A2 dv fun i=>yl (j7 (P:=Tryz.prog) (gl:=gl0 mx) zn)<|zq fun h=>⟨(wrap .i64 (f-i),wrap .i64 (g+1)),h,wk A3⟩)<|xjL<|jnL A3) fun b=>rgL<|rKL A2
def ZA (n:Nat)(a2:Int):Nat→Nat→Int→(List Int)→Option (Nat×(List Int))
 |0,_,_,_=>none
 | k+1,a,b,c=>
  if decide (b<a2)then((ZI 1 a c ([48]:List Int)).bind fun d=>
  ZA n a2 k (a+List.length ([48]:List Int)) (wrap .i64 (b+1)) d)else(some (a,c))
def Zo (n:Nat) (b:(Nat×(List Int))):Nat→Int→Int→(List Int)→Option (List Int)
 |0,_,_,_=>none
 | k+1,c,a,d=>
  if decide (a≥((0:Nat):Int))then((pq b.1 a).bind fun e=>
  (VT d (e*1) (wrap .u8 (wrap .i64 ((48:Int)+(Int.tmod c 10))))).bind fun f=>
  Zo n b k (wrap .i64 (Int.tdiv c 10)) (wrap .i64 (a-1)) f)else(some d)
def Za (n:Nat)(a1 a2:Int):Option (Nat×(List Int)):=
 (ZA n a2 n 0 0 ([]:List Int)).bind fun a=>
 (Zo n a n a1 (wrap .i64 (((a.1:Nat):Int)-1)) a.2).bind fun b=>
 some (a.1,b)
theorem VX {n a1 a2 r}:Za n a1 a2=some r→AC mx 114 [qn,qi a1,qi a2] [] (.own 0 r.1 1) [[.buf (List.map (vI .u8) r.2)]]:=
 fnL Tryz.func114 rfl<|xR (Wk.nilO 0 0 1 O7)<|xR (wk (fr':=⟨38,[(0, .own 0 0 1),(1,qi a1),(2,qi a2)]⟩) (st':=⟨[[.buf (List.map (vI .u8) ([]:List Int))]],[]⟩) A3)<|rgL<|rgL<|rgL<|blL (fun a=>⟨38,[(0, .own 0 a.1 1),(1,qi a1),(7,qi ((0:Nat):Int))]⟩) (fun a=>⟨[[.buf (List.map (vI .u8) a.2)]],[]⟩) (fun a=>lpL (fun k x=>ZA n a2 k x.1 x.2.1 x.2.2) (0,0,([]:List Int)) A3 (fun x=>⟨38,[(0, .own 0 x.1 1),(1,qi a1),(2,qi a2),(7,qi ((0:Nat):Int)),(8,qi x.2.1)]⟩) (fun x=>⟨[[.buf (List.map (vI .u8) x.2.2)]],[]⟩) fun k x=>by obtain⟨f,i,j⟩:=x; rw [ZA]; exact rgL<|bFL (zp<|bEL fun m o=>wO zS (lfL (fun z=>kV 2 1 0 0 (Wi (T:=tyT) (c:=(vI .u8)) (l:=j) (l2:=([48]:List Int)) (n:=f) (e:=5) (e2:=5) (bytes:=1) (b2:=1) (tok2:= .exact) O7 o) z) edL)<|zq<|yl zn fun h=>⟨(f+List.length ([48]:List Int),wrap .i64 (i+1),m),h,wk A9⟩)<|xjL<|jnL A3) fun a=>rgL<|blL (fun d=>⟨38,[(0, .own 0 a.1 1)]⟩) (fun d=>⟨[[.buf (List.map (vI .u8) d)]],[]⟩) (fun d=>lpL (fun k x=>Zo n a k x.1 x.2.1 x.2.2) (a1,wrap .i64 (((a.1:Nat):Int)-1),a.2) A3 (fun x=>⟨38,[(0, .own 0 a.1 1),(1,qi x.1),(7,qi ((0:Nat):Int)),(9,qi x.2.1)]⟩) (fun x=>⟨[[.buf (List.map (vI .u8) x.2.2)]],[]⟩) fun k x=>by obtain⟨g,s,u⟩:=x; rw [Zo]; exact rgL<|bFL (zp<|bEL fun v w=>bEL fun A B=>rCL (kPL 6 (pg (id:=0) (e:=5) (sz:=1) (b:=1) w)<|lfL (fun z=>kV 7 1 0 0 (Zu (T:=tyT) (t:=5) (c:=(vI .u8)) (l:=u) (off:=(v*1)) (x:=wrap .u8 (wrap .i64 ((48:Int)+(Int.tmod g 10)))) (uI .u8) O7 B) z) edL)<|yl zS<|zq<|yl zn fun h=>⟨(wrap .i64 (Int.tdiv g 10),wrap .i64 (s-1),A),h,wk A3⟩)<|xjL<|jnL A3) fun d=>rgL<|rKL A3
def jm (n:Nat)(a2:Int):Nat→Nat→Int→(List Int)→Option (Nat×(List Int))
 |0,_,_,_=>none
 | k+1,a,b,c=>
  if decide (b<a2)then((ZI 1 a c ([48]:List Int)).bind fun d=>
  jm n a2 k (a+List.length ([48]:List Int)) (wrap .i64 (b+1)) d)else(some (a,c))
def j0 (n:Nat) (a0:Nat) (b:(Nat×(List Int))):Nat→Int→Int→(List Int)→Option (List Int)
 |0,_,_,_=>none
 | k+1,c,a,d=>
  if decide (a≥((a0:Nat):Int))then((pq b.1 a).bind fun e=>
  (VT d (e*1) (wrap .u8 (wrap .i64 ((48:Int)+(Int.tmod c 10))))).bind fun f=>
  j0 n a0 b k (wrap .i64 (Int.tdiv c 10)) (wrap .i64 (a-1)) f)else(some d)
def Z4 (n a0:Nat)(a1 a2:Int)(m0:List Int):Option (Nat×(List Int)):=
 (jm n a2 n a0 0 m0).bind fun a=>
 (j0 n a0 a n a1 (wrap .i64 (((a.1:Nat):Int)-1)) a.2).bind fun b=>
 some (a.1,b)
theorem Qn {n a0 a1 a2 m0 r}:Z4 n a0 a1 a2 m0=some r→AC mx 114 [.own 0 a0 1,qi a1,qi a2] [[.buf (List.map (vI .u8) m0)]] (.own 1 r.1 1) [[],[.buf (List.map (vI .u8) r.2)]]:=
 fnL Tryz.func114 rfl<|xR (Wk.mov (cells:= [.buf (List.map (vI .u8) m0)]) 0 0 a0 1 1 O7)<|xR (wk (fr':=⟨38,[(0, .own 1 a0 1),(1,qi a1),(2,qi a2)]⟩) (st':=⟨[[],[.buf (List.map (vI .u8) m0)]],[]⟩) A5)<|rgL<|rgL<|rgL<|blL (fun a=>⟨38,[(0, .own 1 a.1 1),(1,qi a1),(7,qi ((a0:Nat):Int))]⟩) (fun a=>⟨[[],[.buf (List.map (vI .u8) a.2)]],[]⟩) (fun a=>lpL (fun k x=>jm n a2 k x.1 x.2.1 x.2.2) (a0,0,m0) A5 (fun x=>⟨38,[(0, .own 1 x.1 1),(1,qi a1),(2,qi a2),(7,qi ((a0:Nat):Int)),(8,qi x.2.1)]⟩) (fun x=>⟨[[],[.buf (List.map (vI .u8) x.2.2)]],[]⟩) fun k x=>by obtain⟨f,i,j⟩:=x; rw [jm]; exact rgL<|bFL (zp<|bEL fun m o=>wO zS (lfL (fun z=>kV 2 2 0 1 (Wi (T:=tyT) (c:=(vI .u8)) (l:=j) (l2:=([48]:List Int)) (n:=f) (e:=5) (e2:=5) (bytes:=1) (b2:=1) (tok2:= .exact) O7 o) z) edL)<|zq<|yl zn fun h=>⟨(f+List.length ([48]:List Int),wrap .i64 (i+1),m),h,wk Aj⟩)<|xjL<|jnL A5) fun a=>rgL<|blL (fun d=>⟨38,[(0, .own 1 a.1 1)]⟩) (fun d=>⟨[[],[.buf (List.map (vI .u8) d)]],[]⟩) (fun d=>lpL (fun k x=>j0 n a0 a k x.1 x.2.1 x.2.2) (a1,wrap .i64 (((a.1:Nat):Int)-1),a.2) A5 (fun x=>⟨38,[(0, .own 1 a.1 1),(1,qi x.1),(7,qi ((a0:Nat):Int)),(9,qi x.2.1)]⟩) (fun x=>⟨[[],[.buf (List.map (vI .u8) x.2.2)]],[]⟩) fun k x=>by obtain⟨g,s,u⟩:=x; rw [j0]; exact rgL<|bFL (zp<|bEL fun v w=>bEL fun A B=>rCL (kPL 6 (pg (id:=1) (e:=5) (sz:=1) (b:=1) w)<|lfL (fun z=>kV 7 2 0 1 (Zu (T:=tyT) (t:=5) (c:=(vI .u8)) (l:=u) (off:=(v*1)) (x:=wrap .u8 (wrap .i64 ((48:Int)+(Int.tmod g 10)))) (uI .u8) O7 B) z) edL)<|yl zS<|zq<|yl zn fun h=>⟨(wrap .i64 (Int.tdiv g 10),wrap .i64 (s-1),A),h,wk A5⟩)<|xjL<|jnL A5) fun d=>rgL<|rKL A5
def kN (n:Nat)(a1:List Cd):Nat→Int→Int→Option (Ctl (Cd×Int) Int)
 |0,_,_=>none
 | k+1,a,b=>
  if decide (b<(a1.length:Int))then((zV a1 b).bind fun c=>
  if decide ((c.length:Int)>(wrap .i64 ((131072:Int)-a)))then(some (.ret (([]:Cd),6)))else(kN n a1 k (wrap .i64 (a+(c.length:Int))) (wrap .i64 (b+1))))else(some (.nxt a))
def ve (n:Nat)(a0:Int)(a1:List Cd):Option (Cd×Int):=
 (if decide (a0<0)then(some true)else(if decide (a0>255)then(some true)else(some ((kY .i64 a0 31)==31)))).bind fun b=>
 if b then(some (([]:Cd),5))else(z8 (kN n a1 n 0 0) (fun r=>some r) (fun a=>
 (if decide (a<128)then((pb 1 ([wrap .u8 a0]:List Int) ([wrap .u8 a]:List Int)).bind fun c=>
 some c)else(if decide (a<256)then((pb 1 ([wrap .u8 a0]:List Int) ([129,wrap .u8 a]:List Int)).bind fun d=>
 some d)else(if decide (a<65536)then((pb 1 ([wrap .u8 a0]:List Int) ([130,wrap .u8 (Int.fdiv a 256),wrap .u8 a]:List Int)).bind fun e=>
 some e)else((pb 1 ([wrap .u8 a0]:List Int) ([131,wrap .u8 (Int.fdiv a 65536),wrap .u8 (Int.fdiv a 256),wrap .u8 a]:List Int)).bind fun f=>
 some f)))).bind fun g=>
 (Wc n a1 ([]:Cd)).bind fun i=>
 (jw (b2s g) i).bind fun j=>
 some (j,0)))
theorem wS {n a0 a1 r}:ve n a0 a1=some r→AC mx 115 [qi a0,ql 1 cS a1] [] (.tuple [qs r.1,qi r.2]) []:=
 fnL Tryz.func115 rfl<|rgL<|bEL fun d hE=>rgF hE ⟨83,[(0,qi a0),(1,ql 1 cS a1),(20,qb d)]⟩ ⟨[],[]⟩ (gFL 3 12 (eJ A1)<|gFL 7 16 (eJ A1)<|eJ A1)<|bFL (rgL<|rKL A1)<|rgL<|cP 1 (uu a1)<|bcL (fun b=>⟨83,[(0,qi a0),(1,ql 1 cS a1),(6,qi b)]⟩) (fun b=>⟨[],[]⟩) (fun A f=>lpL (fun k x=>kN n a1 k x.1 x.2) (0,0) A1 (fun x=>⟨83,[(0,qi a0),(1,ql 1 cS a1),(6,qi x.1),(21,ql 1 cS a1),(22,qi (a1.length)),(23,qi x.2)]⟩) (fun x=>⟨[],[]⟩) fun k x=>by obtain⟨g,i⟩:=x; rw [kN]; exact rgL<|bFL (zp<|bP 0 vq fun j=>rgL<|bFL (rgL<|hKL f<|rJ A1)<|yl zS<|zq<|yl zn fun h=>⟨(wrap .i64 (g+(j.length:Int)),wrap .i64 (i+1)),h,wk A1⟩)<|xjL<|jCL A1) fun b=>rgL<|blL (fun a=>⟨83,[(1,ql 1 cS a1),(9, .sl 1 (List.map (cI .u8) a) (.fam 0 (a.length)))]⟩) (fun a=>⟨[],[a.length]⟩) (fun a=>rgL<|bFL (bEL fun B l=>wO xh (lfL (fun z=>kV 4 0 0 0 (VS (T:=tyT) (c:=(cI .u8)) (e:=5) (e2:=5) (sz:=1) (bytes:=1) (b2:=1) (tok2:= .exact) (cell:=none) O7 l) z) edL)<|jnL A6)<|rgL<|bFL (bEL fun C m=>wO xh (lfL (fun z=>kV 4 0 0 0 (VS (T:=tyT) (c:=(cI .u8)) (e:=5) (e2:=5) (sz:=1) (bytes:=1) (b2:=1) (tok2:= .exact) (cell:=none) O7 m) z) edL)<|jnL A6)<|rgL<|bFL (bEL fun D o=>wO xh (lfL (fun z=>kV 7 0 0 0 (VS (T:=tyT) (c:=(cI .u8)) (e:=5) (e2:=5) (sz:=1) (bytes:=1) (b2:=1) (tok2:= .exact) (cell:=none) O7 o) z) edL)<|jnL A6)<|bEL fun E s=>wO xh (lfL (fun z=>kV 10 0 0 0 (VS (T:=tyT) (c:=(cI .u8)) (e:=5) (e2:=5) (sz:=1) (bytes:=1) (b2:=1) (tok2:= .exact) (cell:=none) O7 s) z) edL)<|jnL A6) fun a=>bEL fun F u=>bEL fun v w=>lfL (fun z=>zm [0,1,2,3,4,5,6] [3] [[],[0],[],[2],[0,1,2,3],[0,1,2,3,4],[0,1,2,3,4,5]] [] [(4,qs v),(5,qi 0)] ⟨[],[]⟩ (dS [0]<|dP (mD a)<|dS [2]<|dC (zr 1 (mD a) yb) Aa (Bz u)<|dP (zQ w)<|dS [5,6]<|dE Aa) z)<|rKL A1
def ut (n:Nat)(a:(yd×Int)):Nat→Nat→Int→(List Int)→Option (Nat×(List Int))
 |0,_,_,_=>none
 | k+1,c,b,d=>
  if decide (b<(List.length ([a.1.qo,a.1.pp,a.1.pf,a.1.qS,a.1.qW]:List Int):Int))then((zV ([a.1.qo,a.1.pp,a.1.pf,a.1.qS,a.1.qW]:List Int) b).bind fun f=>
  (Z4 n c f 2 d).bind fun e=>
  ut n a k e.1 (wrap .i64 (b+1)) e.2)else(some (c,d))
def vW (n:Nat)(a0:Int):Option (Cd×Int):=
 (Z2 n a0).bind fun a=>
 if a.2 !=0 then(some (([]:Cd),a.2))else((Za n (Int.tmod a.1.kZ 100) 2).bind fun c=>
 (if decide (a.1.kZ≥2050)then((Za n a.1.kZ 4).bind fun d=>
 some (24,d.1,d.2))else(some (23,c.1,c.2))).bind fun b=>
 (ut n a n b.2.1 0 b.2.2).bind fun e=>
 (Kt e.1 e.2).bind fun g=>
 (ve n b.1 ([g,([90]:Cd)]:List Cd)).bind fun f=>
 some (f.1,f.2))
theorem Jx {n a0 r}:vW n a0=some r→AC mx 44 [qi a0] [] (.tuple [qs r.1,qi r.2]) []:=
 fnL Tryz.func44 rfl<|rgL<|bC 1 A1 Qw fun a=>rgL<|bFL (rgL<|rKL A2)<|rgL<|bC 3 A2 VX fun l=>rgL<|cuL (fun b=>⟨55,[(4,qp 0),(6,qi b.1),(7, .own 1 b.2.1 1)]⟩) (fun b=>⟨[yd.cells a.1,[.buf (List.map (vI .u8) b.2.2)]],[]⟩) (fun b=>bFL (rgL<|bEL fun m e=>wO zn (kCL 2 A4 (VX e) edL)<|jnL Aj)<|jnL A5) fun b=>cP 11 (rm ([a.1.qo,a.1.pp,a.1.pf,a.1.qS,a.1.qW]:List Int))<|blL (fun c=>⟨55,[(6,qi b.1),(7, .own 0 c.1 1)]⟩) (fun c=>⟨[[.buf (List.map (vI .u8) c.2)]],[]⟩) (fun c=>lpL (fun k x=>ut n a k x.1 x.2.1 x.2.2) (b.2.1,0,b.2.2) A9 (fun x=>⟨55,[(6,qi b.1),(7, .own 0 x.1 1),(38, .sl 1 (List.map (cI .i64) ([a.1.qo,a.1.pp,a.1.pf,a.1.qS,a.1.qW]:List Int)) .exact),(39,qi (List.length ([a.1.qo,a.1.pp,a.1.pf,a.1.qS,a.1.qW]:List Int):Int)),(40,qi x.2.1)]⟩) (fun x=>⟨[[.buf (List.map (vI .u8) x.2.2)]],[]⟩) fun k x=>by obtain⟨o,f,s⟩:=x; rw [ut]; exact rgL<|bFL (zp<|bP 0 Qp fun u=>bEL fun d g=>wO zS (kCL 2 A3 (Qn g) edL)<|zq<|yl zn fun h=>⟨(d.1,wrap .i64 (f+1),d.2),h,wk A9⟩)<|xjL<|jnL A3) fun c=>bEL fun v i=>bEL fun w j=>rCL (kPL 2 (KX i)<|kCL 4 A2 (wS j) edL)<|rKL A2
def yh (n:Nat)(a1:Cd)(a2:Int)(m0:zk):Option zk:=
 if m0.f_e==0 then((jw m0.f_b a1).bind fun a=>
 some (zk.mk a a2))else(some m0)
theorem yY {n a1 a2 m0 r}:yh n a1 a2 m0=some r→AC mx 43 [qp 0,qs a1,qi a2] [zk.cells m0] (.tuple []) [zk.cells r]:=
 fnL Tryz.func43 rfl<|rgL<|bFL (bEL fun b a=>wO Zr (kPL 7 (zQ a) edL)<|nJ A3)<|nJ A3
def kn (n:Nat)(a1:Int):Nat→Int→Option Int
 |0,_=>none
 | k+1,a=>
  (Wr .i64 a1 (wrap .u64 ((7:Int)*(wrap .u64 a)))).bind fun b=>
  if decide (b>0)then(kn n a1 k (wrap .i64 (a+1)))else(some a)
def qm (n:Nat)(a1:Int):Nat→Nat→Int→(List Int)→Option (Nat×(List Int))
 |0,_,_,_=>none
 | k+1,a,b,c=>
  if decide (b>0)then((Wr .i64 a1 (wrap .u64 ((7:Int)*(wrap .u64 b)))).bind fun d=>
  (ZI 1 a c ([wrap .u8 (ior .i64 (kY .i64 d 127) 128)]:List Int)).bind fun e=>
  qm n a1 k (a+List.length ([wrap .u8 (ior .i64 (kY .i64 d 127) 128)]:List Int)) (wrap .i64 (b-1)) e)else(some (a,c))
def Vj (n:Nat)(a1:Int):Option (Nat×(List Int)):=
 (kn n a1 n 1).bind fun b=>
 (qm n a1 n 0 (wrap .i64 (b-1)) ([]:List Int)).bind fun a=>
 (ZI 1 a.1 a.2 ([wrap .u8 (kY .i64 a1 127)]:List Int)).bind fun c=>
 some (a.1+List.length ([wrap .u8 (kY .i64 a1 127)]:List Int),c)
theorem B4 {n a1 r}:Vj n a1=some r→AC mx 117 [qn,qi a1] [] (.own 0 r.1 1) [[.buf (List.map (vI .u8) r.2)]]:=
 fnL Tryz.func117 rfl<|xR (Wk.nilO 0 0 1 O7)<|xR (wk (fr':=⟨38,[(0, .own 0 0 1),(1,qi a1)]⟩) (st':=⟨[[.buf (List.map (vI .u8) ([]:List Int))]],[]⟩) A3)<|rgL<|rgL<|blL (fun b=>⟨38,[(0, .own 0 0 1),(1,qi a1),(5,qi b)]⟩) (fun b=>⟨[[.buf (List.map (vI .u8) ([]:List Int))]],[]⟩) (fun b=>lpL (fun k x=>kn n a1 k x) 1 A3 (fun x=>⟨38,[(0, .own 0 0 1),(1,qi a1),(5,qi x)]⟩) (fun x=>⟨[[.buf (List.map (vI .u8) ([]:List Int))]],[]⟩) fun k g=>by rw [kn]; exact bP 4 ZR fun v=>bFL (zp<|yl (j7 (P:=Tryz.prog) (gl:=gl0 mx) zn)<|zq fun h=>⟨wrap .i64 (g+1),h,wk A3⟩)<|xjL<|jnL A3) fun b=>rgL<|blL (fun a=>⟨38,[(0, .own 0 a.1 1),(1,qi a1)]⟩) (fun a=>⟨[[.buf (List.map (vI .u8) a.2)]],[]⟩) (fun a=>lpL (fun k x=>qm n a1 k x.1 x.2.1 x.2.2) (0,wrap .i64 (b-1),([]:List Int)) A3 (fun x=>⟨38,[(0, .own 0 x.1 1),(1,qi a1),(6,qi x.2.1)]⟩) (fun x=>⟨[[.buf (List.map (vI .u8) x.2.2)]],[]⟩) fun k x=>by obtain⟨d,i,j⟩:=x; rw [qm]; exact rgL<|bFL (zp<|bEL fun f m=>bEL fun o s=>wO zS (kPL 5 (ZR m)<|lfL (fun z=>kV 10 1 0 0 (Wi (T:=tyT) (c:=(vI .u8)) (l:=j) (l2:=([wrap .u8 (ior .i64 (kY .i64 f 127) 128)]:List Int)) (n:=d) (e:=5) (e2:=5) (bytes:=1) (b2:=1) (tok2:= .exact) O7 s) z) edL)<|zq<|yl zn fun h=>⟨(d+List.length ([wrap .u8 (ior .i64 (kY .i64 f 127) 128)]:List Int),wrap .i64 (i-1),o),h,wk A9⟩)<|xjL<|jnL A3) fun a=>bEL fun w u=>rCL (lfL (fun z=>kV 5 1 0 0 (Wi (T:=tyT) (c:=(vI .u8)) (l:=a.2) (l2:=([wrap .u8 (kY .i64 a1 127)]:List Int)) (n:=a.1) (e:=5) (e2:=5) (bytes:=1) (b2:=1) (tok2:= .exact) O7 u) z) edL)<|rKL A9
def bt (n:Nat)(a1:Int):Nat→Int→Option Int
 |0,_=>none
 | k+1,a=>
  (Wr .i64 a1 (wrap .u64 ((7:Int)*(wrap .u64 a)))).bind fun b=>
  if decide (b>0)then(bt n a1 k (wrap .i64 (a+1)))else(some a)
def bu (n:Nat)(a1:Int):Nat→Nat→Int→(List Int)→Option (Nat×(List Int))
 |0,_,_,_=>none
 | k+1,a,b,c=>
  if decide (b>0)then((Wr .i64 a1 (wrap .u64 ((7:Int)*(wrap .u64 b)))).bind fun d=>
  (ZI 1 a c ([wrap .u8 (ior .i64 (kY .i64 d 127) 128)]:List Int)).bind fun e=>
  bu n a1 k (a+List.length ([wrap .u8 (ior .i64 (kY .i64 d 127) 128)]:List Int)) (wrap .i64 (b-1)) e)else(some (a,c))
def Y4 (n a0:Nat)(a1:Int)(m0:List Int):Option (Nat×(List Int)):=
 (bt n a1 n 1).bind fun b=>
 (bu n a1 n a0 (wrap .i64 (b-1)) m0).bind fun a=>
 (ZI 1 a.1 a.2 ([wrap .u8 (kY .i64 a1 127)]:List Int)).bind fun c=>
 some (a.1+List.length ([wrap .u8 (kY .i64 a1 127)]:List Int),c)
theorem Kn {n a0 a1 m0 r}:Y4 n a0 a1 m0=some r→AC mx 117 [.own 0 a0 1,qi a1] [[.buf (List.map (vI .u8) m0)]] (.own 1 r.1 1) [[],[.buf (List.map (vI .u8) r.2)]]:=
 fnL Tryz.func117 rfl<|xR (Wk.mov (cells:= [.buf (List.map (vI .u8) m0)]) 0 0 a0 1 1 O7)<|xR (wk (fr':=⟨38,[(0, .own 1 a0 1),(1,qi a1)]⟩) (st':=⟨[[],[.buf (List.map (vI .u8) m0)]],[]⟩) A5)<|rgL<|rgL<|blL (fun b=>⟨38,[(0, .own 1 a0 1),(1,qi a1),(5,qi b)]⟩) (fun b=>⟨[[],[.buf (List.map (vI .u8) m0)]],[]⟩) (fun b=>lpL (fun k x=>bt n a1 k x) 1 A5 (fun x=>⟨38,[(0, .own 1 a0 1),(1,qi a1),(5,qi x)]⟩) (fun x=>⟨[[],[.buf (List.map (vI .u8) m0)]],[]⟩) fun k g=>by rw [bt]; exact bP 4 ZR fun v=>bFL (zp<|yl (j7 (P:=Tryz.prog) (gl:=gl0 mx) zn)<|zq fun h=>⟨wrap .i64 (g+1),h,wk A5⟩)<|xjL<|jnL A5) fun b=>rgL<|blL (fun a=>⟨38,[(0, .own 1 a.1 1),(1,qi a1)]⟩) (fun a=>⟨[[],[.buf (List.map (vI .u8) a.2)]],[]⟩) (fun a=>lpL (fun k x=>bu n a1 k x.1 x.2.1 x.2.2) (a0,wrap .i64 (b-1),m0) A5 (fun x=>⟨38,[(0, .own 1 x.1 1),(1,qi a1),(6,qi x.2.1)]⟩) (fun x=>⟨[[],[.buf (List.map (vI .u8) x.2.2)]],[]⟩) fun k x=>by obtain⟨d,i,j⟩:=x; rw [bu]; exact rgL<|bFL (zp<|bEL fun f m=>bEL fun o s=>wO zS (kPL 5 (ZR m)<|lfL (fun z=>kV 10 2 0 1 (Wi (T:=tyT) (c:=(vI .u8)) (l:=j) (l2:=([wrap .u8 (ior .i64 (kY .i64 f 127) 128)]:List Int)) (n:=d) (e:=5) (e2:=5) (bytes:=1) (b2:=1) (tok2:= .exact) O7 s) z) edL)<|zq<|yl zn fun h=>⟨(d+List.length ([wrap .u8 (ior .i64 (kY .i64 f 127) 128)]:List Int),wrap .i64 (i-1),o),h,wk Aj⟩)<|xjL<|jnL A5) fun a=>bEL fun w u=>rCL (lfL (fun z=>kV 5 2 0 1 (Wi (T:=tyT) (c:=(vI .u8)) (l:=a.2) (l2:=([wrap .u8 (kY .i64 a1 127)]:List Int)) (n:=a.1) (e:=5) (e2:=5) (bytes:=1) (b2:=1) (tok2:= .exact) O7 u) z) edL)<|rKL Aj
def j8 (n:Nat)(a:List Int):Nat→Nat→Int→(List Int)→Option (Nat×(List Int))
 |0,_,_,_=>none
 | k+1,c,b,d=>
  if decide (b<(a.length:Int))then((zV a b).bind fun f=>
  (Y4 n c f d).bind fun e=>
  j8 n a k e.1 (wrap .i64 (b+1)) e.2)else(some (c,d))
def kp (n:Nat)(a0:Cd):Option (Cd×Int):=
 ((Yk n a0).bind fun d=>
 onE d (some ([]:List Int)) (fun e=>some e)).bind fun a=>
 (lne a).bind fun l=>
 (zV a 0).bind fun f=>
 (zV a 1).bind fun g=>
 (Vj n (wrap .i64 ((wrap .i64 ((40:Int)*f))+g))).bind fun b=>
 (lsl a 2 (a.length)).bind fun i=>
 (j8 n i n b.1 0 b.2).bind fun c=>
 (Kt c.1 c.2).bind fun j=>
 some (j,0)
theorem dX {n a0 r}:kp n a0=some r→AC mx 45 [qs a0] [] (.tuple [qs r.1,qi r.2]) []:=
 fnL Tryz.func45 rfl<|rgL<|bEL fun l hE=>rgF hE ⟨34,[(4,ql 1 (cI .i64) l)]⟩ ⟨[],[]⟩ (bEL fun m o=>kCL 1 A1 (Ub o) fun h=>by cases m with|none=>exact imA (onN h) (eJ A1)|some A=>exact imA (onS h) (eJ A1))<|bP 1 (nW (c:=(cI .i64)) (e:=3) (sz:=1) (b:=8) (tok:= .none)) fun B=>bNL<|bEL fun C g=>bEL fun D i=>bEL fun d s=>lfL (fun z=>zm [0,1,2,3,4,5,6,7,8,9] [8] [[],[0],[0,1],[0,1,2],[],[4],[4,5],[0,1,2,3,4,5,6],[0,1,2,3,4,5,6,7],[0,1,2,3,4,5,6,7,8]] [4] [(5, .own 0 d.1 1)] ⟨[[.buf (List.map (vI .u8) d.2)]],[]⟩ (dS [0]<|dP (xY g)<|dS [2,3,4]<|dP (xY i)<|dS [6,7]<|dC (zr 5 (xY i) (zr 1 (xY g) yb)) A1 (B4 s)<|dS [9]<|dE A3) z)<|bEL fun f u=>rCL (kPL 1 (gP u)<|kPL 2 (bD f) edL)<|blL (fun a=>⟨34,[(5, .own 0 a.1 1)]⟩) (fun a=>⟨[[.buf (List.map (vI .u8) a.2)]],[]⟩) (fun a=>lpL (fun k x=>j8 n f k x.1 x.2.1 x.2.2) (d.1,0,d.2) A3 (fun x=>⟨34,[(5, .own 0 x.1 1),(22,ql 1 (cI .i64) f),(23,qi (f.length)),(24,qi x.2.1)]⟩) (fun x=>⟨[[.buf (List.map (vI .u8) x.2.2)]],[]⟩) fun k x=>by obtain⟨E,v,F⟩:=x; rw [j8]; exact rgL<|bFL (zp<|bP 0 xY fun G=>bEL fun j w=>wO zS (kCL 2 A3 (Kn w) edL)<|zq<|yl zn fun h=>⟨(j.1,wrap .i64 (v+1),j.2),h,wk A9⟩)<|xjL<|jnL A3) fun a=>bP 1 KX fun H=>rKL A2
def z6 (n:Nat)(a1:Int)(a2:Cd)(m0:zk):Option zk:=
 (ve n a1 ([a2]:List Cd)).bind fun a=>
 (yh n a.1 a.2 m0).bind fun b=>
 some b
theorem yQ {n a1 a2 m0 r}:z6 n a1 a2 m0=some r→AC mx 46 [qp 0,qi a1,qs a2] [zk.cells m0] (.tuple []) [zk.cells r]:=
 fnL Tryz.func46 rfl<|bEL fun c a=>bEL fun d b=>wO Zr (kCL 4 A2 (wS a)<|kCL 7 A3 (yY b) edL)<|nJ A3
def gm (n:Nat)(a0:Int):Nat→Int→Option Int
 |0,_=>none
 | k+1,a=>
  (Wr .i64 a0 (wrap .u64 a)).bind fun b=>
  if decide (b>0)then(gm n a0 k (wrap .i64 (a+1)))else(some a)
def gr (n:Nat)(d a0:Int)(c:Nat):Nat→Int→(List Int)→Option (List Int)
 |0,_,_=>none
 | k+1,a,b=>
  if decide (a<d)then(((Wr .i64 a0 (wrap .u64 a)).bind fun e=>
  if(kY .i64 e 1)==1 then((pq c (wrap .i64 ((1:Int)+(wrap .i64 (Int.tdiv a 8))))).bind fun f=>
  ((b)[(f*1)]?).bind fun g=>
  (Je .u8 1 (wrap .u64 ((7:Int)-(wrap .u64 (Int.tmod a 8))))).bind fun i=>
  (pq c (wrap .i64 ((1:Int)+(wrap .i64 (Int.tdiv a 8))))).bind fun j=>
  (VT b (j*1) (ior .u8 g i)).bind fun l=>
  some l)else(some b)).bind fun m=>
  gr n d a0 c k (wrap .i64 (a+1)) m)else(some b)
def kG (n:Nat)(a0:Int):Option (Cd×Int):=
 (if decide (a0<0)then(some true)else(some (decide (a0>65535)))).bind fun c=>
 if c then(some (([]:Cd),1))else((gm n a0 n 0).bind fun b=>
 (BP 1 (wrap .i64 ((1:Int)+(wrap .i64 (Int.tdiv (wrap .i64 (b+7)) 8)))) (wrap .i64 ((1:Int)+(wrap .i64 (Int.tdiv (wrap .i64 (b+7)) 8))))).bind fun a=>
 (pq a 0).bind fun d=>
 (VT (List.replicate a (0:Int)) (d*1) (wrap .u8 (wrap .i64 ((wrap .i64 ((8:Int)*(wrap .i64 (((a:Nat):Int)-1))))-b)))).bind fun e=>
 (gr n b a0 a n 0 e).bind fun f=>
 (Kt a f).bind fun g=>
 some (g,0))
theorem Uy {n a0 r}:kG n a0=some r→AC mx 47 [qi a0] [] (.tuple [qs r.1,qi r.2]) []:=
 fnL Tryz.func47 rfl<|rgL<|bEL fun m hE=>rgF hE ⟨60,[(0,qi a0),(12,qb m)]⟩ ⟨[],[]⟩ (gFL 3 9 (eJ A1)<|eJ A1)<|bFL (rgL<|rKL A1)<|rgL<|blL (fun a=>⟨60,[(0,qi a0),(4,qi a)]⟩) (fun a=>⟨[],[]⟩) (fun a=>lpL (fun k x=>gm n a0 k x) 0 A1 (fun x=>⟨60,[(0,qi a0),(4,qi x)]⟩) (fun x=>⟨[],[]⟩) fun k o=>by rw [gm]; exact bP 3 ZR fun K=>bFL (zp<|yl (j7 (P:=Tryz.prog) (gl:=gl0 mx) zn)<|zq fun h=>⟨wrap .i64 (o+1),h,wk A1⟩)<|xjL<|jnL A1) fun a=>bEL fun d s=>rCL (lfL (fun z=>kV 4 0 0 0 (DN (T:=tyT) (e:=5) (k1:= .i64) (k2:= .i64) (bytes:=1) (cell:=none) (c:=(vI .u8)) (uI .u8) 0 ⟨O7,O7⟩ s) z) edL)<|bEL fun u v=>bEL fun w A=>rCL (kPL 8 (pg (id:=0) (e:=5) (sz:=1) (b:=1) v)<|lfL (fun z=>kV 9 1 0 0 (Zu (T:=tyT) (t:=5) (c:=(vI .u8)) (l:=List.replicate d (0:Int)) (off:=(u*1)) (x:=wrap .u8 (wrap .i64 ((wrap .i64 ((8:Int)*(wrap .i64 (((d:Nat):Int)-1))))-a))) (uI .u8) O7 A) z) edL)<|rgL<|blL (fun g=>⟨60,[(5, .own 0 d 1)]⟩) (fun g=>⟨[[.buf (List.map (vI .u8) g)]],[]⟩) (fun g=>lpL (fun k x=>gr n a a0 d k x.1 x.2) (0,w) A3 (fun x=>⟨60,[(0,qi a0),(5, .own 0 d 1),(34,qi a),(35,qi x.1)]⟩) (fun x=>⟨[[.buf (List.map (vI .u8) x.2)]],[]⟩) fun k x=>by obtain⟨i,j⟩:=x; rw [gr]; exact rgL<|bFL (blL (fun f=>⟨60,[(0,qi a0),(5, .own 0 d 1),(34,qi a),(35,qi i)]⟩) (fun f=>⟨[[.buf (List.map (vI .u8) f)]],[]⟩) (fun f=>rgL<|bP 3 ZR fun L=>bFL (bEL fun B C=>bEL fun D E=>bEL fun F G=>bEL fun H I=>bEL fun M J=>wO xh (kPL 4 (pg (id:=0) (e:=5) (sz:=1) (b:=1) C)<|kPL 5 (Us (c:=(vI .u8)) (l:=j) (off:=(B*1)) E)<|kPL 10 (Gs G)<|kPL 12 (pg (id:=0) (e:=5) (sz:=1) (b:=1) I)<|lfL (fun z=>kV 13 1 0 0 (Zu (T:=tyT) (t:=5) (c:=(vI .u8)) (l:=j) (off:=(H*1)) (x:=ior .u8 D F) (uI .u8) O7 J) z) edL)<|jnL A3)<|jnL A3) fun f=>yl zn fun h=>⟨(wrap .i64 (i+1),f),h,wk A3⟩)<|xjL<|jnL A3) fun g=>bP 1 KX fun N=>rKL A2
def YX (n:Nat)(m0:zk):Option zk:=
 some m0
theorem Km {n m0 r}:YX n m0=some r→AC mx 49 [qp 0] [zk.cells m0] (.func (.func 118) [qp 0] []) [zk.cells r]:=
 fnL Tryz.func49 rfl<|rgL<|rgL<|rKL A3
def gV (n:Nat)(a1:Cd)(m0:zk):Option zk:=
 (kp n a1).bind fun a=>
 (yh n ([]:Cd) a.2 m0).bind fun b=>
 (z6 n 6 a.1 b).bind fun c=>
 some c
theorem Vw {n a1 m0 r}:gV n a1 m0=some r→AC mx 118 [qp 0,qs a1] [zk.cells m0] (.tuple []) [zk.cells r]:=
 fnL Tryz.func118 rfl<|bC 1 A2 dX fun b=>bC 2 A3 yY fun c=>bEL fun d a=>wO Zr (kCL 2 A3 (yQ a) edL)<|nJ A3
def vT (n:Nat)(a2:List Cd):Nat→Int→Cd→Int→Option (Cd×Int)
 |0,_,_,_=>none
 | k+1,a,b,c=>
  if decide (a<(a2.length:Int))then((zV a2 a).bind fun e=>
  (gV n e (zk.mk b c)).bind fun d=>
  vT n a2 k (wrap .i64 (a+1)) d.f_b d.f_e)else(some (b,c))
def ug (n:Nat)(a1:Int)(a2:List Cd)(m0:zk):Option zk:=
 (YX n (zk.mk ([]:Cd) 0)).bind fun a=>
 (vT n a2 n 0 a.f_b a.f_e).bind fun b=>
 (yh n ([]:Cd) b.2 m0).bind fun c=>
 (z6 n a1 b.1 c).bind fun d=>
 some d
theorem Zk {n a1 a2 m0 r}:ug n a1 a2 m0=some r→AC mx 48 [qp 0,qi a1,ql 1 cS a2, .func (.func 49) [] []] [zk.cells m0] (.tuple []) [zk.cells r]:=
 fnL Tryz.func48 rfl<|rgL<|bC 1 A9 Km fun b=>cP 1 (uu a2)<|blL (fun a=>⟨33,[(0,qp 0),(1,qi a1),(8,qp 1)]⟩) (fun a=>⟨[zk.cells m0,[qs a.1,qi a.2]],[]⟩) (fun a=>lpL (fun k x=>vT n a2 k x.1 x.2.1 x.2.2) (0,b.f_b,b.f_e) A5 (fun x=>⟨33,[(0,qp 0),(1,qi a1),(8,qp 1),(9, .func (.func 118) [qp 1] []),(14,ql 1 cS a2),(15,qi (a2.length)),(16,qi x.1)]⟩) (fun x=>⟨[zk.cells m0,[qs x.2.1,qi x.2.2]],[]⟩) fun k x=>by obtain⟨d,g,i⟩:=x; rw [vT]; exact rgL<|bFL (zp<|bP 0 vq fun j=>bEL fun c e=>wO zS (kCL 2 A9 (Vw e) edL)<|zq<|yl zn fun h=>⟨(wrap .i64 (d+1),c.f_b,c.f_e),h,wk A5⟩)<|xjL<|jnL A5) fun a=>bC 3 A8 yY fun l=>bEL fun m f=>wO Zr (kCL 4 A8 (yQ f) edL)<|nJ A8
def pP (n:Nat)(a0:Bool):Option Cd:=
 if a0 then(some ([255]:Cd))else(some ([0]:Cd))
theorem Vu {n a0 r}:pP n a0=some r→AC mx 119 [qb a0] [] (qs r) []:=
 fnL Tryz.func119 rfl<|rgL<|rgL<|bFL (rgL<|rKL A1)<|rgL<|rKL A1
def vQ (n:Nat)(a1:Int)(a2:Bool)(m0:zk):Option zk:=
 if a2 then((pP n true).bind fun a=>
 (z6 n a1 a m0).bind fun b=>
 some b)else(some m0)
theorem jR {n a1 a2 m0 r}:vQ n a1 a2 m0=some r→AC mx 50 [qp 0,qi a1,qb a2] [zk.cells m0] (.tuple []) [zk.cells r]:=
 fnL Tryz.func50 rfl<|rgL<|bFL (bEL fun c a=>bEL fun d b=>wO Zr (kCL 2 A2 (Vu a)<|kCL 3 A3 (yQ b) edL)<|nJ A3)<|nJ A3
def qh (n:Nat)(a0:zb):Option (Cd×Int):=
 (kp n a0.wi).bind fun a=>
 if a.2 !=0 then(some (([]:Cd),a.2))else((ve n 6 ([a.1]:List Cd)).bind fun b=>
 if b.2 !=0 then(some (([]:Cd),b.2))else((ve n a0.zG ([a0.vA]:List Cd)).bind fun c=>
 if c.2 !=0 then(some (([]:Cd),c.2))else((ve n 48 ([b.1,c.1]:List Cd)).bind fun d=>
 some (d.1,d.2))))
theorem YK {n a0 r}:qh n a0=some r→AC mx 214 [.agg (zb.cells a0)] [] (.tuple [qs r.1,qi r.2]) []:=
 fnL Tryz.func214 rfl<|rgL<|bC 2 A2 dX fun a=>rgL<|bFL (rgL<|rKL A2)<|bC 2 A2 wS fun b=>rgL<|bFL (rgL<|rKL A2)<|bC 5 A2 wS fun c=>rgL<|bFL (rgL<|rKL A2)<|bC 3 A2 wS fun d=>rKL A2
def YT (n:Nat)(a0:List Cd):Option Cd:=
 (Kf 16 a0).bind fun a=>
 (Jr n (a.length) a).bind fun b=>
 (VH n (a.length) ([]:Cd) b).bind fun c=>
 some c.1
theorem Kl {n a0 r}:YT n a0=some r→AC mx 215 [ql 1 cS a0] [] (qs r) []:=
 fnL Tryz.func215 rfl<|rgL<|bEL fun b a=>rCL (lfL (fun z=>kV 1 0 0 0 (lP (T:=tyT) (c:=vS) (l2:=a0) (e:=9) (e2:=9) (bytes:=16) (b2:=16) (tok2:= .none) (cell:=none) O7 a) z) edL)<|bC 1 A3 eX fun d=>bC 1 A3 cg fun f=>rKL A2
def qf (n:Nat)(a:List zb):Nat→(List Cd)→Int→Option (Ctl (Cd×Int) (List Cd))
 |0,_,_=>none
 | k+1,d,b=>
  if decide (b<(a.length:Int))then((zV a b).bind fun e=>
  (qh n e).bind fun c=>
  if c.2 !=0 then(some (.ret (([]:Cd),c.2)))else((gL 16 d ([c.1]:List Cd)).bind fun f=>
  qf n a k f (wrap .i64 (b+1))))else(some (.nxt d))
def j9 (n:Nat)(a0:zC):Nat→(List Cd)→Int→Option (Ctl (Cd×Int) (List Cd))
 |0,_,_=>none
 | k+1,c,a=>
  if decide (a<(a0.zg.length:Int))then((zV a0.zg a).bind fun d=>
  z8 (qf n d n ([]:List Cd) 0) (fun r=>some (.ret r)) (fun e=>
  (YT n e).bind fun f=>
  (ve n 49 ([f]:List Cd)).bind fun b=>
  if b.2 !=0 then(some (.ret (([]:Cd),b.2)))else((gL 16 c ([b.1]:List Cd)).bind fun g=>
  j9 n a0 k g (wrap .i64 (a+1)))))else(some (.nxt c))
def gY (n:Nat)(a0:zC):Option (Cd×Int):=
 (jE n a0).bind fun a=>
 if a !=0 then(some (([]:Cd),a))else(z8 (j9 n a0 n ([]:List Cd) 0) (fun r=>some r) (fun c=>
 (ve n 48 c).bind fun b=>
 some (b.1,b.2)))
theorem Xv {n a0 r}:gY n a0=some r→AC mx 164 [.agg [ql 1 (cL 3 zb.cells) a0.zg]] [] (.tuple [qs r.1,qi r.2]) []:=
 fnL Tryz.func164 rfl<|rgL<|bC 1 A2 bJ fun w=>rgL<|bFL (rgL<|rKL A2)<|rgL<|cP 2 (bQ a0.zg)<|bcL (fun c=>⟨65,[(5, .sl 1 (List.map cS c) (.fam 0 (c.length)))]⟩) (fun c=>⟨[],[c.length]⟩) (fun A g=>xR (wk (fr':=⟨65,[(5,qn),(21,ql 1 (cL 3 zb.cells) a0.zg),(22,qi (a0.zg.length)),(23,qi 0)]⟩) (st':=⟨[],[]⟩) A2)<|xR Wk.nilFam<|lpL (fun k x=>j9 n a0 k x.1 x.2) (([]:List Cd),0) A6 (fun x=>⟨65,[(5, .sl 1 (List.map cS x.1) (.fam 0 (x.1.length))),(21,ql 1 (cL 3 zb.cells) a0.zg),(22,qi (a0.zg.length)),(23,qi x.2)]⟩) (fun x=>⟨[],[x.1.length]⟩) fun k x=>by obtain⟨a,f⟩:=x; rw [j9]; exact rgL<|bFL (zp<|bP 0 p7 fun b=>rgL<|cP 1 (gH b)<|bcL (fun d=>⟨65,[(5, .sl 1 (List.map cS a) (.fam 0 (a.length))),(8, .sl 1 (List.map cS d) (.fam 1 (d.length))),(21,ql 1 (cL 3 zb.cells) a0.zg),(22,qi (a0.zg.length)),(23,qi f)]⟩) (fun d=>⟨[],[a.length,d.length]⟩) (fun B i=>xR (wk (fr':=⟨65,[(5, .sl 1 (List.map cS a) (.fam 0 (a.length))),(8,qn),(21,ql 1 (cL 3 zb.cells) a0.zg),(22,qi (a0.zg.length)),(23,qi f),(27,ql 3 zb.cells b),(28,qi (b.length)),(29,qi 0)]⟩) (st':=⟨[],[a.length]⟩) A6)<|xR Wk.nilFam<|lpL (fun k x=>qf n b k x.1 x.2) (([]:List Cd),0) ⟨[],0,[0,1],2⟩ (fun x=>⟨65,[(5, .sl 1 (List.map cS a) (.fam 0 (a.length))),(8, .sl 1 (List.map cS x.1) (.fam 1 (x.1.length))),(21,ql 1 (cL 3 zb.cells) a0.zg),(22,qi (a0.zg.length)),(23,qi f),(27,ql 3 zb.cells b),(28,qi (b.length)),(29,qi x.2)]⟩) (fun x=>⟨[],[a.length,x.1.length]⟩) fun k x=>by obtain⟨C,j⟩:=x; rw [qf]; exact rgL<|bFL (zp<|bP 0 pY fun D=>bC 1 ⟨[],1,[],2⟩ YK fun E=>rgL<|bFL (rgL<|hKL i<|yO<|wx<|hvL g<|yi<|rJ ⟨[],1,[],2⟩)<|bEL fun l m=>wO zS (lfL (fun z=>kA 3 1 cS (e:=9) (e2:=9) (sz:=1) (bytes:=16) (b2:=16) (tok2:= .exact) m z) edL)<|zq<|yl zn fun h=>⟨(l,wrap .i64 (j+1)),h,wk ⟨[],1,[0,1],2⟩⟩)<|xjL<|jCL ⟨[],0,[0,1],2⟩) fun d=>bEL fun F o=>bEL fun G s=>rCL (kCL 1 Ca (Kl o)<|kCL 3 Ca (wS s) edL)<|rgL<|bFL (rgL<|hKL g<|rJ Ca)<|bEL fun u v=>wO zS (lfL (fun z=>kA 3 0 cS (e:=9) (e2:=9) (sz:=1) (bytes:=16) (b2:=16) (tok2:= .exact) v z) edL)<|zq<|yl zn fun h=>⟨(u,wrap .i64 (f+1)),h,wk ⟨[],0,[0],2⟩⟩)<|xjL<|jCL A6) fun c=>bC 1 Aa wS fun H=>rKL Aa
def da (n:Nat)(a0:zd)(a1:Bool):Option (Cd×Int):=
 (wR n (zd.mk a0.zG a0.yy (zC.mk a0.zo.zg)) a1).bind fun b=>
 if b !=0 then(some (([]:Cd),b))else(if a0.zG !=4 then((ve n (wrap .i64 ((128:Int)+a0.zG)) ([a0.yy]:List Cd)).bind fun c=>
 some (c.1,c.2))else((gY n (zC.mk a0.zo.zg)).bind fun a=>
 if a.2 !=0 then(some (([]:Cd),a.2))else((ve n (wrap .i64 ((160:Int)+a0.zG)) ([a.1]:List Cd)).bind fun d=>
 some (d.1,d.2))))
theorem Jd {n a0 a1 r}:da n a0 a1=some r→AC mx 121 [.agg (zd.cells a0),qb a1] [] (.tuple [qs r.1,qi r.2]) []:=
 fnL Tryz.func121 rfl<|rgL<|bC 2 A2 ZB fun a=>rgL<|bFL (rgL<|rKL A2)<|rgL<|bFL (bC 6 A2 wS fun b=>rKL A2)<|bC 2 A2 Xv fun c=>rgL<|bFL (rgL<|rKL A2)<|bC 5 A2 wS fun d=>rKL A2
def uP (n:Nat)(a0:List zd):Nat→Cd→Int→Option (Ctl (Cd×Int) Cd)
 |0,_,_=>none
 | k+1,d,a=>
  if decide (a<(a0.length:Int))then((zV a0 a).bind fun b=>
  (da n (zd.mk b.zG b.yy (zC.mk b.zo.zg)) false).bind fun c=>
  if c.2 !=0 then(some (.ret (([]:Cd),c.2)))else((jw d c.1).bind fun e=>
  uP n a0 k e (wrap .i64 (a+1))))else(some (.nxt d))
def qQ (n:Nat)(a0:List zd):Option (Cd×Int):=
 (gx n (a0.length:Int)).bind fun a=>
 if a !=0 then(some (([]:Cd),a))else(z8 (uP n a0 n ([]:Cd) 0) (fun r=>some r) (fun b=>
 some (b,0)))
theorem W6 {n a0 r}:qQ n a0=some r→AC mx 51 [ql 3 zd.cells a0] [] (.tuple [qs r.1,qi r.2]) []:=
 fnL Tryz.func51 rfl<|rgL<|bEL fun g b=>rCL (kPL 1 (bA a0)<|kCL 2 A1 (Wa b) edL)<|rgL<|bFL (rgL<|rKL A1)<|rgL<|cP 1 (bA a0)<|bcL (fun a=>⟨35,[(5,qs a)]⟩) (fun a=>⟨[],[]⟩) (fun i c=>lpL (fun k x=>uP n a0 k x.1 x.2) (([]:Cd),0) A1 (fun x=>⟨35,[(5,qs x.1),(16,ql 3 zd.cells a0),(17,qi (a0.length)),(18,qi x.2)]⟩) (fun x=>⟨[],[]⟩) fun k x=>by obtain⟨j,d⟩:=x; rw [uP]; exact rgL<|bFL (zp<|bP 0 vG fun l=>bC 1 A2 Jd fun m=>rgL<|bFL (rgL<|hKL c<|rJ A2)<|bEL fun e f=>wO zS (kPL 2 (zQ f) edL)<|zq<|yl zn fun h=>⟨(e,wrap .i64 (d+1)),h,wk A2⟩)<|xjL<|jCL A1) fun a=>rgL<|rKL A1
def bh (n:Nat):Nat→Int→Int→Option Int
 |0,_,_=>none
 | k+1,b,a=>
  (if decide (a<(-128))then(some true)else(some (decide (a>127)))).bind fun c=>
  if c then(bh n k (wrap .i64 (b+1)) (Int.fdiv a 256))else(some b)
def bi (n:Nat)(a a0:Int):Nat→(List Int)→Int→Option (List Int)
 |0,_,_=>none
 | k+1,c,b=>
  if decide (b<a)then((Wr .i64 a0 (wrap .u64 ((8:Int)*(wrap .u64 (wrap .i64 ((wrap .i64 (a-1))-b)))))).bind fun d=>
  (gL 1 c ([wrap .u8 d]:List Int)).bind fun e=>
  bi n a a0 k e (wrap .i64 (b+1)))else(some c)
def gO (n:Nat)(a0:Int):Option Cd:=
 (bh n  n 1 a0).bind fun a=>
 (bi n a a0 n ([]:List Int) 0).bind fun b=>
 some (b2s b)
theorem Vv {n a0 r}:gO n a0=some r→AC mx 157 [qi a0] [] (qs r) []:=
 fnL Tryz.func157 rfl<|rgL<|rgL<|rgL<|blL (fun a=>⟨37,[(0,qi a0),(3,qi a)]⟩) (fun a=>⟨[],[]⟩) (fun a=>lpL (fun k x=>bh n  k x.1 x.2) (1,a0) A1 (fun x=>⟨37,[(0,qi a0),(3,qi x.1),(4,qi x.2)]⟩) (fun x=>⟨[],[]⟩) fun k x=>by obtain⟨c,d⟩:=x; rw [bh]; exact bEL fun f hE=>rgF hE ⟨37,[(0,qi a0),(3,qi c),(4,qi d),(13,qb f)]⟩ ⟨[],[]⟩ (gFL 3 10 (eJ A1)<|eJ A1)<|bFL (zp<|yl zS<|zq<|yl zn fun h=>⟨(wrap .i64 (c+1),Int.fdiv d 256),h,wk A1⟩)<|xjL<|jnL A1) fun a=>rgL<|rgL<|blL (fun b=>⟨37,[(5, .sl 1 (List.map (cI .u8) b) (.fam 0 (b.length)))]⟩) (fun b=>⟨[],[b.length]⟩) (fun b=>xR (wk (fr':=⟨37,[(0,qi a0),(3,qi a),(5,qn),(18,qi a),(19,qi 0)]⟩) (st':=⟨[],[]⟩) A1)<|xR Wk.nilFam<|lpL (fun k x=>bi n a a0 k x.1 x.2) (([]:List Int),0) A6 (fun x=>⟨37,[(0,qi a0),(3,qi a),(5, .sl 1 (List.map (cI .u8) x.1) (.fam 0 (x.1.length))),(18,qi a),(19,qi x.2)]⟩) (fun x=>⟨[],[x.1.length]⟩) fun k x=>by obtain⟨m,g⟩:=x; rw [bi]; exact rgL<|bFL (zp<|rgL<|bEL fun o i=>bEL fun j l=>wO zS (kPL 8 (ZR i)<|lfL (fun z=>kA 11 0 (cI .u8) (e:=5) (e2:=5) (sz:=1) (bytes:=1) (b2:=1) (tok2:= .exact) l z) edL)<|zq<|yl zn fun h=>⟨(j,wrap .i64 (g+1)),h,wk A6⟩)<|xjL<|jnL A6) fun b=>rCL (lfL (fun z=>kB 1 b z) edL)<|rKL Aa
def jz (n:Nat)(a1 a2:Int)(m0:zk):Option zk:=
 (gO n a2).bind fun a=>
 (z6 n a1 a m0).bind fun b=>
 some b
theorem pa {n a1 a2 m0 r}:jz n a1 a2 m0=some r→AC mx 91 [qp 0,qi a1,qi a2] [zk.cells m0] (.tuple []) [zk.cells r]:=
 fnL Tryz.func91 rfl<|bEL fun c a=>bEL fun d b=>wO Zr (kCL 3 A2 (Vv a)<|kCL 4 A3 (yQ b) edL)<|nJ A3
def ui (n:Nat)(a1:Int)(m0:zk):Option zk:=
 (jz n 2 a1 m0).bind fun a=>
 some a
theorem qt {n a1 m0 r}:ui n a1 m0=some r→AC mx 52 [qp 0,qi a1] [zk.cells m0] (.tuple []) [zk.cells r]:=
 fnL Tryz.func52 rfl<|bEL fun b a=>wO Zr (kCL 2 A3 (pa a) edL)<|nJ A3
def YE (n:Nat)(m0:zk):Option zk:=
 some m0
theorem Jq {n m0 r}:YE n m0=some r→AC mx 54 [qp 0] [zk.cells m0] (.func (.func 104) [qp 0] []) [zk.cells r]:=
 fnL Tryz.func54 rfl<|rgL<|rgL<|rKL A3
def gQ (n:Nat)(a0:zF):Option Cd:=
 (jw (b2s ([wrap .u8 a0.zy]:List Int)) a0.wL).bind fun a=>
 (jw a a0.zY).bind fun b=>
 some b
theorem Vy {n a0 r}:gQ n a0=some r→AC mx 162 [.agg (zF.cells a0)] [] (qs r) []:=
 fnL Tryz.func162 rfl<|rgL<|bEL fun c a=>bEL fun d b=>rCL (lfL (fun z=>kB 4 ([wrap .u8 a0.zy]:List Int) z)<|kPL 7 (zQ a)<|kPL 10 (zQ b) edL)<|rKL A2
def pG (n:Nat)(a0:Cd)(a1:Int):Option (Cd×Int):=
 (if decide (a1<0)then(some true)else(some (decide (a1>7)))).bind fun a=>
 if a then(some (([]:Cd),1))else((ge n a0 a1).bind fun b=>
 if !b then(some (([]:Cd),7))else((jw (b2s ([wrap .u8 a1]:List Int)) a0).bind fun c=>
 some (c,0)))
theorem UW {n a0 a1 r}:pG n a0 a1=some r→AC mx 161 [qs a0,qi a1] [] (.tuple [qs r.1,qi r.2]) []:=
 fnL Tryz.func161 rfl<|rgL<|bEL fun a hE=>rgF hE ⟨22,[(0,qs a0),(1,qi a1),(11,qb a)]⟩ ⟨[],[]⟩ (gFL 3 8 (eJ A1)<|eJ A1)<|bFL (rgL<|rKL A1)<|bC 2 A1 Wz fun c=>bFL (rgL<|rKL A1)<|bEL fun d b=>rCL (lfL (fun z=>kB 3 ([wrap .u8 a1]:List Int) z)<|kPL 5 (zQ b) edL)<|rKL A1
def dB (n:Nat):Option Cd:=
 (kp n ([49,46,51,46,54,46,49,46,52,46,49,46,53,56,56,56,56,46,49,46,49]:Cd)).bind fun a=>
 (ve n 6 ([a.1]:List Cd)).bind fun b=>
 (ve n 48 ([b.1]:List Cd)).bind fun c=>
 some c.1
theorem WF {n r}:dB n  =some r→AC mx 163 [] [] (qs r) []:=
 fnL Tryz.func163 rfl<|rgL<|bC 0 A1 dX fun a=>bC 2 A1 wS fun b=>bC 2 A1 wS fun c=>rgL<|rKL A1
def bU (n:Nat)(a0:zF):Option (Cd×Int):=
 (qN n a0).bind fun c=>
 if c !=0 then(some (([]:Cd),c))else((gQ n a0).bind fun e=>
 (pG n e 0).bind fun a=>
 if a.2 !=0 then(some (([]:Cd),a.2))else((ve n 3 ([a.1]:List Cd)).bind fun b=>
 if b.2 !=0 then(some (([]:Cd),b.2))else((dB n).bind fun f=>
 (ve n 48 ([f,b.1]:List Cd)).bind fun d=>
 some (d.1,d.2))))
theorem Yh {n a0 r}:bU n a0=some r→AC mx 103 [.agg (zF.cells a0)] [] (.tuple [qs r.1,qi r.2]) []:=
 fnL Tryz.func103 rfl<|rgL<|bC 1 A2 pO fun e=>rgL<|bFL (rgL<|rKL A2)<|bEL fun f a=>bEL fun g b=>rCL (kCL 1 A2 (Vy a)<|kCL 2 A2 (UW b) edL)<|rgL<|bFL (rgL<|rKL A2)<|bC 2 A2 wS fun i=>rgL<|bFL (rgL<|rKL A2)<|bEL fun j c=>bEL fun l d=>rCL (kCL 0 A2 (WF c)<|kCL 3 A2 (wS d) edL)<|rKL A2
def uk (n:Nat)(a1:zj)(m0:zk):Option zk:=
 (gY n (zC.mk a1.zo.zg)).bind fun a=>
 (yh n a.1 a.2 (zk.mk ([]:Cd) 0)).bind fun d=>
 (bU n (zF.mk a1.zK.zy a1.zK.wL a1.zK.zY)).bind fun b=>
 (yh n b.1 b.2 d).bind fun c=>
 (yh n ([]:Cd) c.f_e m0).bind fun e=>
 (z6 n 48 c.f_b e).bind fun f=>
 some f
theorem pn {n a1 m0 r}:uk n a1 m0=some r→AC mx 104 [qp 0, .agg [ql 1 (cL 3 zb.cells) a1.zo.zg,qi a1.zK.zy,qs a1.zK.wL,qs a1.zK.zY]] [zk.cells m0] (.tuple []) [zk.cells r]:=
 fnL Tryz.func104 rfl<|rgL<|rgL<|bEL fun f a=>bEL fun g b=>rCL (kCL 2 A7 (Xv a)<|kCL 5 Ao (yY b) edL)<|bEL fun i c=>bEL fun j d=>rCL (kCL 2 A7 (Yh c)<|kCL 5 Ao (yY d) edL)<|bC 3 Ae yY fun l=>bEL fun m e=>wO Zr (kCL 3 Ae (yQ e) edL)<|nJ Ae
def vw (n:Nat)(a2:List zj):Nat→Int→Cd→Int→Option (Cd×Int)
 |0,_,_,_=>none
 | k+1,b,c,d=>
  if decide (b<(a2.length:Int))then((zV a2 b).bind fun a=>
  (uk n (zj.mk (zC.mk a.zo.zg) (zF.mk a.zK.zy a.zK.wL a.zK.zY)) (zk.mk c d)).bind fun e=>
  vw n a2 k (wrap .i64 (b+1)) e.f_b e.f_e)else(some (c,d))
def qE (n:Nat)(a1:Int)(a2:List zj)(m0:zk):Option zk:=
 (YE n (zk.mk ([]:Cd) 0)).bind fun a=>
 (vw n a2 n 0 a.f_b a.f_e).bind fun b=>
 (yh n ([]:Cd) b.2 m0).bind fun c=>
 (z6 n a1 b.1 c).bind fun d=>
 some d
theorem Xp {n a1 a2 m0 r}:qE n a1 a2 m0=some r→AC mx 53 [qp 0,qi a1,ql 4 zj.cells a2, .func (.func 54) [] []] [zk.cells m0] (.tuple []) [zk.cells r]:=
 fnL Tryz.func53 rfl<|rgL<|bC 1 A9 Jq fun b=>cP 1 (qO a2)<|blL (fun a=>⟨33,[(0,qp 0),(1,qi a1),(8,qp 1)]⟩) (fun a=>⟨[zk.cells m0,[qs a.1,qi a.2]],[]⟩) (fun a=>lpL (fun k x=>vw n a2 k x.1 x.2.1 x.2.2) (0,b.f_b,b.f_e) A5 (fun x=>⟨33,[(0,qp 0),(1,qi a1),(8,qp 1),(9, .func (.func 104) [qp 1] []),(14,ql 4 zj.cells a2),(15,qi (a2.length)),(16,qi x.1)]⟩) (fun x=>⟨[zk.cells m0,[qs x.2.1,qi x.2.2]],[]⟩) fun k x=>by obtain⟨d,g,i⟩:=x; rw [vw]; exact rgL<|bFL (zp<|bP 0 u6 fun j=>bEL fun c e=>wO zS (kCL 2 Af (pn e) edL)<|zq<|yl zn fun h=>⟨(wrap .i64 (d+1),c.f_b,c.f_e),h,wk ⟨[0,1],3,[],0⟩⟩)<|xjL<|jnL A5) fun a=>bC 3 A8 yY fun l=>bEL fun m f=>wO Zr (kCL 4 A8 (yQ f) edL)<|nJ A8
def xE (n:Nat)(m0:zk):Option (Cd×Int×zk):=
 (ve n 48 ([m0.f_b]:List Cd)).bind fun a=>
 (if m0.f_e !=0 then(some true)else(some (a.2 !=0))).bind fun b=>
 if b then(some (([]:Cd),2,m0))else(some (a.1,0,m0))
theorem qK {n m0 r}:xE n m0=some r→AC mx 55 [qp 0] [zk.cells m0] (.tuple [qs r.1,qi r.2.1]) [zk.cells r.2.2]:=
 fnL Tryz.func55 rfl<|rgL<|bC 5 A2 wS fun a=>bEL fun b hE=>rgF hE ⟨25,[(4,qs a.1),(23,qb b)]⟩ ⟨[zk.cells m0],[]⟩ (gFL 6 20 (eJ A3)<|eJ A3)<|bFL (rgL<|rKL A3)<|rgL<|rKL A3
def yg (n:Nat)(a0:zz):Option (Cd×Int):=
 (vz n a0).bind fun e=>
 if e !=0 then(some (([]:Cd),e))else((vW n a0.uB).bind fun f=>
 (yh n f.1 f.2 (zk.mk ([]:Cd) 0)).bind fun c=>
 (if !(a0.zB==([]:Cd))then((kp n a0.zB).bind fun g=>
 (yh n ([]:Cd) g.2 c).bind fun C=>
 (z6 n 128 g.1 C).bind fun i=>
 some (i.f_b,i.f_e))else(some (c.f_b,c.f_e))).bind fun a=>
 (if a0.yk !=0 then((kG n a0.yk).bind fun j=>
 (yh n ([]:Cd) j.2 (zk.mk a.1 a.2)).bind fun D=>
 (z6 n 129 j.1 D).bind fun l=>
 some (l.f_b,l.f_e))else(some (a.1,a.2))).bind fun b=>
 (if decide ((a0.ze.length:Int)>0)then((ug n 162 a0.ze (zk.mk b.1 b.2)).bind fun m=>
 some (m.f_b,m.f_e))else(some (b.1,b.2))).bind fun o=>
 (vQ n 131 a0.wr (zk.mk o.1 o.2)).bind fun E=>
 (vQ n 132 a0.xI E).bind fun F=>
 (vQ n 133 a0.jy F).bind fun d=>
 (if decide ((a0.zw.length:Int)>0)then((qQ n a0.zw).bind fun s=>
 (yh n ([]:Cd) s.2 d).bind fun G=>
 (z6 n 166 s.1 G).bind fun u=>
 some (u.f_b,u.f_e))else(some (d.f_b,d.f_e))).bind fun v=>
 (ui n a0.yj (zk.mk v.1 v.2)).bind fun H=>
 (vQ n 135 a0.uA H).bind fun w=>
 if decide ((a0.zf.length:Int)>0)then((qE n 168 a0.zf w).bind fun I=>
 (xE n I).bind fun A=>
 some (A.1,A.2.1))else((xE n w).bind fun B=>
 some (B.1,B.2.1)))
theorem Zy {n a0 r}:yg n a0=some r→AC mx 14 [.agg (zz.cells a0)] [] (.tuple [qs r.1,qi r.2]) []:=
 fnL Tryz.func14 rfl<|rgL<|bC 1 A2 VJ fun m=>rgL<|bFL (rgL<|rKL A2)<|rgL<|bEL fun o e=>bEL fun s f=>rCL (kCL 2 A4 (Jx e)<|kCL 5 A9 (yY f) edL)<|rgL<|cuL (fun a=>⟨95,[(1,qp 0),(5,qp 1)]⟩) (fun a=>⟨[zz.cells a0,[qs a.1,qi a.2]],[]⟩) (fun a=>bFL (bC 2 A4 dX fun u=>bC 1 A9 yY fun v=>bEL fun w g=>wO zn (kCL 1 A9 (yQ g) edL)<|jnL A5)<|jnL A5) fun a=>rgL<|cuL (fun b=>⟨95,[(1,qp 0),(5,qp 1)]⟩) (fun b=>⟨[zz.cells a0,[qs b.1,qi b.2]],[]⟩) (fun b=>bFL (bC 2 A4 Uy fun A=>bC 1 A9 yY fun B=>bEL fun C i=>wO zn (kCL 1 A9 (yQ i) edL)<|jnL A5)<|jnL A5) fun b=>cP 2 (uu a0.ze)<|cuL (fun c=>⟨95,[(1,qp 0),(5,qp 1)]⟩) (fun c=>⟨[zz.cells a0,[qs c.1,qi c.2]],[]⟩) (fun c=>bFL (bEL fun D j=>wO zn (kCL 2 A9 (Zk j) edL)<|jnL A5)<|jnL A5) fun c=>bC 2 A9 jR fun E=>bC 2 A9 jR fun F=>bC 2 A9 jR fun G=>cP 2 (bA a0.zw)<|cuL (fun d=>⟨95,[(1,qp 0),(5,qp 1)]⟩) (fun d=>⟨[zz.cells a0,[qs d.1,qi d.2]],[]⟩) (fun d=>bFL (bC 2 A4 W6 fun H=>bC 1 A9 yY fun I=>bEL fun J l=>wO zn (kCL 1 A9 (yQ l) edL)<|jnL A5)<|jnL A5) fun d=>bC 2 A9 qt fun K=>bC 2 A9 jR fun L=>cP 2 (qO a0.zf)<|bFL (bC 2 A9 Xp fun M=>bC 0 A9 qK fun N=>rKL A4)<|bC 0 A9 qK fun O=>rKL A4
def qq (n:Nat)(a0:Cd):Option (zz×Int):=
 (bW n a0).bind fun c=>
 if c !=0 then(some ((zz.mk 0 ([]:Cd) 0 ([]:List Cd) false false false ([]:List zd) 0 false ([]:List zj)),c))else((gT n a0).bind fun a=>
 if a.2 !=0 then(some ((zz.mk 0 ([]:Cd) 0 ([]:List Cd) false false false ([]:List zd) 0 false ([]:List zj)),a.2))else((jl n a.1).bind fun e=>
 (jn n e).bind fun b=>
 if b.2.z7=true then(some ((zz.mk 0 ([]:Cd) 0 ([]:List Cd) false false false ([]:List zd) 0 false ([]:List zj)),7))else((yg n b.1).bind fun d=>
 (if d.2 !=0 then(some true)else(some (!(d.1==a0)))).bind fun f=>
 if f then(some ((zz.mk 0 ([]:Cd) 0 ([]:List Cd) false false false ([]:List zd) 0 false ([]:List zj)),7))else(some (b.1,0)))))
theorem Y1 {n a0 r}:qq n a0=some r→AC mx 71 [qs a0, .func (.func 72) [] [], .func (.func 14) [] []] [] (.tuple [.agg (zz.cells r.1),qi r.2]) []:=
 fnL Tryz.func71 rfl<|rgL<|rgL<|bC 1 A4 YB fun c=>rgL<|bFL (rgL<|rKL A4)<|bC 1 A4 dl fun d=>rgL<|bFL (rgL<|rKL A7)<|bC 1 A7 qX fun e=>bC 2 Ap WQ fun a=>rgL<|bFL (rgL<|rKL Ag)<|bC 2 Ag Zy fun f=>bEL fun b hE=>rgF hE ⟨56,[(6,qp 0),(8,qp 1),(13,qp 2),(53,qb b)]⟩ ⟨[[qi 0,qs [],qi 0,qn,qb false,qb false,qb false,qn,qi 0,qb false,qn],[qi 0,qs [],qi 0,qn,qb false,qb false,qb false,qn,qi 0,qb false,qn],zz.cells a.1],[]⟩ (gFL 3 49 (eJ At)<|eJ At)<|bFL (rgL<|rKL A7)<|rgL<|rKL A7
def uV (n:Nat)(a0:Cd):Option (zz×Int):=
 (qq n a0).bind fun a=>
 some (a.1,a.2)
theorem ZD {n a0 r}:uV n a0=some r→AC mx 18 [qs a0] [] (.tuple [.agg (zz.cells r.1),qi r.2]) []:=
 fnL Tryz.func18 rfl<|rgL<|bC 1 A2 Y1 fun a=>rKL A2
def vP (n:Nat)(rc:za→Int→Option Int)(a1:Int):Nat→Cd→Option (Ctl Int Unit)
 |0,_=>none
 | k+1,b=>
  if decide ((b.length:Int)>0)then((u5 n b).bind fun a=>
  if a.2.2 !=0 then(some (.ret a.2.2))else(if decide ((wrap .i64 (a1+1))≥16)then(some (.ret 8))else((rc a.1 (wrap .i64 (a1+1))).bind fun c=>
  if c !=0 then(some (.ret c))else(vP n rc a1 k a.2.1))))else(some (.nxt ()))
def x7 (n:Nat):Nat→za→Int→Option Int
 |0,_,_=>none
 | kk+1,a0,a1=>
  if(Int.tmod (wrap .i64 (Int.tdiv a0.zA 32)) 2)==0 then(some 0)else(z8 (vP n (x7 n kk) a1 n a0.zc) (fun r=>some r) (fun a=>
  some 0))
theorem XK {n:Nat}:∀(kk:Nat) {a0:za} {a1:Int} {r:Int} (_:x7 n kk a0 a1=some r),AC mx 204 [.agg (za.cells a0),qi a1] [] (qi r) []:=by
 intro kk
 induction kk with
 |zero=>intro a0 a1 r h; simp [x7]at h
 | succ kk ih=>
  intro a0 a1 r h
  rw [x7]at h
  exact imA h<|fnL Tryz.func204 rfl<|rgL<|rgL<|bFL (rgL<|rKL A2)<|rgL<|bcL (fun _=>⟨40,[]⟩) (fun _=>⟨[],[]⟩) (fun c a=>lpL (fun k x=>vP n (x7 n kk) a1 k x) a0.zc A2 (fun x=>⟨40,[(1,qi a1),(5,qs x)]⟩) (fun x=>⟨[],[]⟩) fun k d=>by rw [vP]; exact rgL<|bFL (zp<|bC 1 A1 bY fun b=>rgL<|bFL (rgL<|hKL a<|rJ A2)<|rgL<|bFL (rgL<|hKL a<|rJ A2)<|bC 3 A2 ih fun e=>rgL<|bFL (rgL<|hKL a<|rJ A2)<|yl (j7 (P:=Tryz.prog) (gl:=gl0 mx) zn)<|zq fun h=>⟨b.2.1,h,wk A2⟩)<|xjL<|jCL A1) fun f=>rgL<|rKL A1
def uL (n:Nat)(a0:Cd):Option Int:=
 (uE n a0).bind fun a=>
 if a.2 !=0 then(some a.2)else((x7 n n a.1 0).bind fun b=>
 some b)
theorem Xz {n a0 r}:uL n a0=some r→AC mx 148 [qs a0] [] (qi r) []:=
 fnL Tryz.func148 rfl<|rgL<|bC 1 A1 qC fun a=>rgL<|bFL (rgL<|rKL A2)<|bC 1 A2 (XK _) fun b=>rKL A2
def xg (n:Nat)(a0:Cd):Option (za×Int):=
 (uL n a0).bind fun a=>
 if a !=0 then(some ((za.mk 0 ([]:Cd) ([]:Cd)),a))else((uE n a0).bind fun b=>
 some (b.1,b.2))
theorem br {n a0 r}:xg n a0=some r→AC mx 73 [qs a0] [] (.tuple [.agg (za.cells r.1),qi r.2]) []:=
 fnL Tryz.func73 rfl<|rgL<|bC 1 A2 Xz fun a=>rgL<|bFL (rgL<|rKL A2)<|bC 1 A2 qC fun b=>rKL A2
def vf (n:Nat)(a0:za)(a1:Int):Option zh:=
 (xL n a0.zc).bind fun a=>
 (if a0.zA !=a1 then(some true)else(some (a.2 !=0))).bind fun b=>
 some (zh.mk a.1 0 b)
theorem u7 {n a0 a1 r}:vf n a0 a1=some r→AC mx 74 [.agg (za.cells a0),qi a1] [] (qp 0) [zh.cells r]:=
 fnL Tryz.func74 rfl<|rgL<|rgL<|bC 2 A4 jc fun a=>rgL<|bEL fun b hE=>rgF hE ⟨36,[(5,qp 0)]⟩ ⟨[[ql 3 za.cells a.1,qi 0,qb b]],[]⟩ (gFL 6 29 (eJ A9)<|eJ A9)<|rgL<|rKL A3
def vx (n:Nat)(a0:Cd):Nat→Int→Int→Option (Ctl Int Int)
 |0,_,_=>none
 | k+1,b,a=>
  if decide (a<(a0.length:Int))then(((yw a0 a).bind fun c=>
  if decide (c<48)then(some true)else((yw a0 a).bind fun d=>
  some (decide (d>57)))).bind fun e=>
  if e then(some (.ret (-1)))else((yw a0 a).bind fun f=>
  vx n a0 k (wrap .i64 ((wrap .i64 ((10:Int)*b))+(wrap .i64 (wrap .u8 (f-48))))) (wrap .i64 (a+1))))else(some (.nxt b))
def zH (n:Nat)(a0:Cd):Option Int:=
 z8 (vx n a0 n 0 0) (fun r=>some r) (fun a=>
 some a)
theorem wt {n a0 r}:zH n a0=some r→AC mx 149 [qs a0] [] (qi r) []:=
 fnL Tryz.func149 rfl<|rgL<|rgL<|rgL<|bcL (fun a=>⟨30,[(3,qi a)]⟩) (fun a=>⟨[],[]⟩) (fun l d=>lpL (fun k x=>vx n a0 k x.1 x.2) (0,0) A1 (fun x=>⟨30,[(0,qs a0),(3,qi x.1),(4,qi x.2)]⟩) (fun x=>⟨[],[]⟩) fun k x=>by obtain⟨b,c⟩:=x; rw [vx]; exact rgL<|bFL (zp<|bEL fun e hE=>rgF hE ⟨30,[(0,qs a0),(3,qi b),(4,qi c),(20,qb e)]⟩ ⟨[],[]⟩ (bEL fun m f=>kPL 2 (zW f)<|gFL 5 15 (eJ A1)<|bEL fun o g=>kPL 7 (zW g)<|eJ A1)<|bFL (rgL<|hKL d<|rJ A1)<|bEL fun i j=>wO zS (kPL 4 (zW j) edL)<|zq<|yl zn fun h=>⟨(wrap .i64 ((wrap .i64 ((10:Int)*b))+(wrap .i64 (wrap .u8 (i-48)))),wrap .i64 (c+1)),h,wk A1⟩)<|xjL<|jCL A1) fun a=>rgL<|rKL A1
def yW (n:Nat)(a0:yd):Nat→Int→Int→Option Int
 |0,_,_=>none
 | k+1,b,a=>
  if decide (a<a0.qo)then((wy n a0.kZ a).bind fun c=>
  yW n a0 k (wrap .i64 (b+c)) (wrap .i64 (a+1)))else(some b)
def we (n:Nat)(a0:yd):Option (Int×Int):=
 (if decide (a0.kZ<1950)then(some true)else(if decide (a0.kZ>9999)then(some true)else(if decide (a0.qo<1)then(some true)else(if decide (a0.qo>12)then(some true)else(if decide (a0.pp<1)then(some true)else((wy n a0.kZ a0.qo).bind fun a=>
 if decide (a0.pp>a)then(some true)else(if decide (a0.pf<0)then(some true)else(if decide (a0.pf>23)then(some true)else(if decide (a0.qS<0)then(some true)else(if decide (a0.qS>59)then(some true)else(if decide (a0.qW<0)then(some true)else(some (decide (a0.qW>59)))))))))))))).bind fun b=>
 if b then(some (0,12))else((vv n a0.kZ).bind fun c=>
 (yW n a0 n (wrap .i64 ((wrap .i64 (c+a0.pp))-1)) 1).bind fun d=>
 some (wrap .i64 ((wrap .i64 ((wrap .i64 ((wrap .i64 ((86400:Int)*d))+(wrap .i64 ((3600:Int)*a0.pf))))+(wrap .i64 ((60:Int)*a0.qS))))+a0.qW),0))
theorem Y0 {n a0 r}:we n a0=some r→AC mx 150 [.agg (yd.cells a0)] [] (.tuple [qi r.1,qi r.2]) []:=
 fnL Tryz.func150 rfl<|rgL<|bEL fun c hE=>lfL (fun z=>drw [0,1,2,3,4,5,6,7,8,9,10,11,12,13,14,15,16,17,18,19,20,21,22,23,24,25,26,27,28,29,30,31,32,33,34,35,36,37,38,39,40,41,42,43,44,45,46,47,48,49,50,51,52,53,54,55,56,57,58,59,60,61,62] [30] [[],[0],[0,1],[0,1,2],zv 0 4,zv 0 5,zv 0 6,zv 0 7,zv 0 8,zv 0 9,zv 0 10,zv 0 11,zv 0 12,zv 0 13,zv 0 14,zv 0 15,zv 0 16,zv 0 17,zv 0 18,zv 0 19,zv 0 20,zv 0 21,zv 0 22,zv 0 23,zv 0 24,zv 0 25,zv 0 24,zv 0 24 ++ [26],zv 0 24,zv 0 24 ++ [28],zv 0 24++zv 26 4,zv 0 31,zv 0 32,zv 0 33,zv 0 34,zv 0 35,zv 0 36,zv 0 37,zv 0 38,zv 0 39,zv 0 40,zv 0 41,zv 0 42,zv 0 43,zv 0 44,zv 0 45,zv 0 46,zv 0 47,zv 0 48,zv 0 49,zv 0 50,zv 0 51,zv 0 52,zv 0 53,zv 0 54,zv 0 55,zv 0 56,zv 0 57,zv 0 58,zv 0 59,zv 0 60,zv 0 61,zv 0 62] ⟨101,[(1,qp 0),(68,qb c)]⟩ ⟨[yd.cells a0],[]⟩ (have h:=hE; dS (zv 0 4)<|hF 9 h (fun h=>dS (zv 4 26)<|dF yb<|dS (zv 31 32)<|by cases h; exact dE A3) fun h=>dS (zv 4 5)<|hF 14 h (fun h=>dS (zv 9 21)<|dF yb<|dS (zv 31 32)<|by cases h; exact dE A3) fun h=>dS (zv 9 5)<|hF 19 h (fun h=>dS (zv 14 16)<|dF yb<|dS (zv 31 32)<|by cases h; exact dE A3) fun h=>dS (zv 14 5)<|hF 24 h (fun h=>dS (zv 19 11)<|dF yb<|dS (zv 31 32)<|by cases h; exact dE A3) fun h=>dS (zv 19 5)<|hF 29 h (fun h=>dS (zv 24 6)<|dF yb<|dS (zv 31 32)<|by cases h; exact dE A3) fun h=>bE h fun l d h=>dS (zv 24 6)<|dC yb A2 (qj d)<|dS [31,32,33]<|hF 39 h (fun h=>dS (zv 34 29)<|by cases h; exact dE A3) fun h=>dS (zv 34 5)<|hF 44 h (fun h=>dS (zv 39 24)<|by cases h; exact dE A3) fun h=>dS (zv 39 5)<|hF 49 h (fun h=>dS (zv 44 19)<|by cases h; exact dE A3) fun h=>dS (zv 44 5)<|hF 54 h (fun h=>dS (zv 49 14)<|by cases h; exact dE A3) fun h=>dS (zv 49 5)<|hF 59 h (fun h=>dS (zv 54 9)<|by cases h; exact dE A3) fun h=>dS (zv 54 5)<|hF 64 h (fun h=>dS (zv 59 4)<|by cases h; exact dE A3) fun h=>dS (zv 59 4)<|by cases h; exact dE A3) z)<|bFL (rgL<|rKL A2)<|bEL fun b e=>lfL (fun z=>zs [0,1,3,4,2,5,6,7] [2] [[],[0],[0,1],[],[3],[0,1,2,3,4],[0,1,2,3,4,5],[0,1,2,3,4,5,6]] [] [(1,qp 0),(4,qi (wrap .i64 ((wrap .i64 (b+a0.pp))-1)))] (dS [0,1,3,4]<|dC yb A2 (kQ e)<|dS [5,6,7]<|dE A3) z)<|rgL<|blL (fun a=>⟨101,[(1,qp 0),(4,qi a)]⟩) (fun a=>⟨[yd.cells a0],[]⟩) (fun a=>lpL (fun k x=>yW n a0 k x.1 x.2) (wrap .i64 ((wrap .i64 (b+a0.pp))-1),1) A3 (fun x=>⟨101,[(1,qp 0),(4,qi x.1),(5,qi x.2)]⟩) (fun x=>⟨[yd.cells a0],[]⟩) fun k x=>by obtain⟨f,g⟩:=x; rw [yW]; exact rgL<|bFL (zp<|bEL fun i j=>wO zS (kCL 4 A2 (qj j) edL)<|zq<|yl zn fun h=>⟨(wrap .i64 (f+i),wrap .i64 (g+1)),h,wk A3⟩)<|xjL<|jnL A3) fun a=>rgL<|rKL A2
def zN (n:Nat)(a0:Int)(a1:Cd):Option (Int×Int):=
 (if a0 !=23 then(some (a0 !=24))else(some false)).bind fun d=>
 if d then(some (0,5))else((if a0==24 then(some 4)else(some 2)).bind fun a=>
 (if(a1.length:Int) !=(wrap .i64 (a+11))then(some true)else((yw a1 (wrap .i64 ((a1.length:Int)-1))).bind fun e=>
 if e !=90 then(some true)else((ssl a1 0 (wrap .i64 ((a1.length:Int)-1))).bind fun f=>
 (zH n f).bind fun g=>
 some (decide (g<0))))).bind fun i=>
 if i then(some (0,12))else((ssl a1 0 a).bind fun j=>
 (zH n j).bind fun b=>
 z8 ((if a0==24 then(some (decide (b<2050)))else(some false)).bind fun l=>
 if l then(some (.ret (0,12)))else((if a0==23 then(some (decide (b≥50)))else(some false)).bind fun m=>
 if m then(some (.nxt (wrap .i64 (b+1900))))else(if a0==23 then(some (.nxt (wrap .i64 (b+2000))))else(some (.nxt b))))) (fun r=>some r) (fun o=>
 (ssl a1 a (wrap .i64 (a+2))).bind fun s=>
 (ssl a1 (wrap .i64 (a+2)) (wrap .i64 (a+4))).bind fun u=>
 (ssl a1 (wrap .i64 (a+4)) (wrap .i64 (a+6))).bind fun v=>
 (ssl a1 (wrap .i64 (a+6)) (wrap .i64 (a+8))).bind fun w=>
 (ssl a1 (wrap .i64 (a+8)) (wrap .i64 (a+10))).bind fun A=>
 (zH n s).bind fun B=>
 (zH n u).bind fun C=>
 (zH n v).bind fun D=>
 (zH n w).bind fun E=>
 (zH n A).bind fun F=>
 (we n (yd.mk o B C D E F)).bind fun c=>
 some (c.1,c.2))))
theorem ZM {n a0 a1 r}:zN n a0 a1=some r→AC mx 75 [qi a0,qs a1] [] (.tuple [qi r.1,qi r.2]) []:=
 fnL Tryz.func75 rfl<|rgL<|bEL fun l hE=>rgF hE ⟨102,[(0,qi a0),(1,qs a1),(13,qb l)]⟩ ⟨[],[]⟩ (gFL 3 10 (eJ A1)<|eJ A1)<|bFL (rgL<|rKL A1)<|rgL<|rgL<|cuL (fun a=>⟨102,[(0,qi a0),(1,qs a1),(6,qi a)]⟩) (fun a=>⟨[],[]⟩) (fun a=>bFL (yl zn<|jnL A1)<|jnL A1) fun a=>bEL fun m hE=>rgF hE ⟨102,[(0,qi a0),(1,qs a1),(6,qi a),(37,qb m)]⟩ ⟨[],[]⟩ (gFL 6 21 (eJ A1)<|bEL fun J o=>kPL 10 (zW o)<|gFL 14 29 (eJ A1)<|bEL fun K s=>bEL fun L u=>kPL 18 (uQ s)<|kCL 19 A1 (wt u)<|eJ A1)<|bFL (rgL<|rKL A1)<|bEL fun M v=>bEL fun i w=>rCL (kPL 2 (uQ v)<|kCL 3 A1 (wt w) edL)<|bcL (fun g=>⟨102,[(1,qs a1),(6,qi a),(7,qi g)]⟩) (fun g=>⟨[],[]⟩) (fun N A=>bEL fun B hE=>rgF hE ⟨102,[(0,qi a0),(1,qs a1),(6,qi a),(7,qi i),(42,qb B)]⟩ ⟨[],[]⟩ (gFL 3 45 (eJ A1)<|eJ A1)<|bFL (rgL<|yu<|hvL A<|yi<|rJ A1)<|bEL fun C hE=>rgF hE ⟨102,[(0,qi a0),(1,qs a1),(6,qi a),(7,qi i),(49,qb C)]⟩ ⟨[],[]⟩ (gFL 3 52 (eJ A1)<|eJ A1)<|bFL (yl xh<|jCL A1)<|rgL<|bFL (yl xh<|jCL A1)<|jCL A1) fun g=>bEL fun O b=>bEL fun P c=>bEL fun Q d=>bEL fun R e=>bEL fun S f=>bEL fun T D=>bEL fun U E=>bEL fun V F=>bEL fun W G=>bEL fun X H=>bEL fun j I=>lfL (fun z=>zs [0,1,2,3,4,5,7,8,9,10,11,12,14,15,16,17,18,19,21,22,23,24,25,26,28,29,30,31,32,33,6,13,20,27,34,35,36,37,38,39,40] [6,13,20,27,34,36] [[],[],[],[],[3],[1,2,3,4],[1,2,3,4,5],[],[],[8],[],[10],[7,8,9,10,11],[1,2,3,4,5,6,7,8,9,10,11,12],[],[],[15],[],[17],[14,15,16,17,18],[1,2,3,4,5,6,7,8,9,10,11,12,13,14,15,16,17,18,19],[],[],[22],[],[24],[21,22,23,24,25],[1,2,3,4,5,6,7,8,9,10,11,12,13,14,15,16,17,18,19,20,21,22,23,24,25,26],[],[],[29],[],[31],[28,29,30,31,32],[1,2,3,4,5,6,7,8,9,10,11,12,13,14,15,16,17,18,19,20,21,22,23,24,25,26,27,28,29,30,31,32,33],[0,1,2,3,4,5,6,7,8,9,10,11,12,13,14,15,16,17,18,19,20,21,22,23,24,25,26,27,28,29,30,31,32,33,34],[0,1,2,3,4,5,6,7,8,9,10,11,12,13,14,15,16,17,18,19,20,21,22,23,24,25,26,27,28,29,30,31,32,33,34,35],[0,1,2,3,4,5,6,7,8,9,10,11,12,13,14,15,16,17,18,19,20,21,22,23,24,25,26,27,28,29,30,31,32,33,34,35,36],[0,1,2,3,4,5,6,7,8,9,10,11,12,13,14,15,16,17,18,19,20,21,22,23,24,25,26,27,28,29,30,31,32,33,34,35,36],[0,1,2,3,4,5,6,7,8,9,10,11,12,13,14,15,16,17,18,19,20,21,22,23,24,25,26,27,28,29,30,31,32,33,34,35,36,37,38],[0,1,2,3,4,5,6,7,8,9,10,11,12,13,14,15,16,17,18,19,20,21,22,23,24,25,26,27,28,29,30,31,32,33,34,35,36,37,38,39]] [] [(4,qi j.1),(5,qi j.2)] (dS (zv 0 5)<|dP (zX b)<|dS (zv 7 5)<|dP (zX c)<|dS (zv 14 5)<|dP (zX d)<|dS (zv 21 5)<|dP (zX e)<|dS (zv 28 5)<|dP (zX f)<|dC (zr 33 (zX f) (zr 26 (zX e) (zr 19 (zX d) (zr 12 (zX c) (zr 5 (zX b) yb))))) A1 (wt D)<|dC (zr 33 (zX f) (zr 26 (zX e) (zr 19 (zX d) (zr 12 (zX c) (zr 5 (zX b) yb))))) A1 (wt E)<|dC (zr 33 (zX f) (zr 26 (zX e) (zr 19 (zX d) (zr 12 (zX c) (zr 5 (zX b) yb))))) A1 (wt F)<|dC (zr 33 (zX f) (zr 26 (zX e) (zr 19 (zX d) (zr 12 (zX c) (zr 5 (zX b) yb))))) A1 (wt G)<|dC (zr 33 (zX f) (zr 26 (zX e) (zr 19 (zX d) (zr 12 (zX c) (zr 5 (zX b) yb))))) A1 (wt H)<|dS [35]<|dC (zr 33 (zX f) (zr 26 (zX e) (zr 19 (zX d) (zr 12 (zX c) (zr 5 (zX b) yb))))) A1 (Y0 I)<|dS (zv 37 4)<|dE A1) z)<|rKL A1
def zO (n:Nat)(a1:Int)(m0:zh):Option (za×Bool×zh):=
 (if m0.jP=true then(some true)else(if decide (m0.bI≥(m0.f_l.length:Int))then(some true)else((zV m0.f_l m0.bI).bind fun a=>
 some (a.zA !=a1)))).bind fun b=>
 if b then(some ((za.mk 0 ([]:Cd) ([]:Cd)),false,m0))else((zV m0.f_l (wrap .i64 ((wrap .i64 (m0.bI+1))-1))).bind fun c=>
 some (c,true,(zh.mk m0.f_l (wrap .i64 (m0.bI+1)) m0.jP)))
theorem xu {n a1 m0 r}:zO n a1 m0=some r→AC mx 76 [qp 0,qi a1] [zh.cells m0] (.tuple [.agg (za.cells r.1),qb r.2.1]) [zh.cells r.2.2]:=
 fnL Tryz.func76 rfl<|rgL<|bEL fun b hE=>lfL (fun z=>drw [0,1,2,3,4,5,6,7,8,9,10,11,12,13,14,15,16,17,18,19,20,21,22,23,24,25,26,27,28,29,30] [] [[],[0],[0,1],[0,1,2],zv 0 4,zv 0 5,zv 0 6,zv 0 7,zv 0 8,zv 0 5,zv 0 5 ++ [9],zv 0 5 ++ [9,10],zv 0 5 ++ [9,10,11],zv 0 5++zv 9 4,zv 0 14,zv 0 15,zv 0 16,zv 0 17,zv 0 18,zv 0 19,zv 0 20,zv 0 17,zv 0 17 ++ [21],zv 0 17 ++ [21,22],zv 0 17 ++ [21,22,23],zv 0 25,zv 0 26,zv 0 27,zv 0 17,zv 0 29,zv 0 30] ⟨56,[(0,qp 0),(4,qp 1),(36,qb b)]⟩ ⟨[zh.cells m0,[qi 0,qs [],qs []]],[]⟩ (have h:=hE; dS (zv 0 5)<|hF 10 h (fun h=>dS (zv 5 26)<|by cases h; exact dE A5) fun h=>dS (zv 5 8)<|dP (xT m0.f_l)<|dS [14,15,16]<|hF 22 h (fun h=>dS (zv 17 14)<|by cases h; exact dE A5) fun h=>bE h fun e c h=>dS (zv 17 8)<|dP (yN c)<|dS (zv 26 5)<|by cases h; exact dE A5) z)<|bFL (rgL<|rKL A8)<|rgL<|bEL fun d a=>lfL (fun z=>zm [0,1,2,3,4,5,6,7,8,9,10,11,12] [11] [[],[0],[0,1],[0,1,2],[],[4],[4,5],[4,5,6],[4,5,6,7],[0,1,2,3,4,5,6,7,8],[0,1,2,3,4,5,6,7,8,9],[0,1,2,3,4,5,6,7,8,9,10],[0,1,2,3,4,5,6,7,8,9,10,11]] [] [(4,qp 1),(5,qb true)] ⟨[[ql 3 za.cells m0.f_l,qi (wrap .i64 (m0.bI+1)),qb m0.jP],za.cells d],[]⟩ (dS (zv 0 9)<|dP (yN a)<|dS [10]<|dF (zr 9 (yN a) yb)<|dS [12]<|dE A5) z)<|rKL A8
def zJ (n:Nat)(a0:Cd):Nat→Cd→Int→Bool→Int→Int→Option (Ctl (Cd×Int) (Cd×Bool))
 |0,_,_,_,_,_=>none
 | k+1,g,a,i,d,c=>
  if decide (c<(a0.length:Int))then(z8 ((if !i then((yw a0 c).bind fun j=>
  some (j==128))else(some false)).bind fun l=>
  if l then(some (.ret (([]:Cd),11)))else((yw a0 c).bind fun b=>
  if decide ((wrap .i64 ((wrap .i64 ((128:Int)*a))+(wrap .i64 (Int.tmod b 128))))>2147483727)then(some (.ret (([]:Cd),11)))else((yw a0 c).bind fun e=>
  if decide (e≥128)then(some (.nxt (g,wrap .i64 ((wrap .i64 ((128:Int)*a))+(wrap .i64 (Int.tmod b 128))),decide (e≥128),d)))else(if d==0 then((yf n n (if 2<(wrap .i64 (Int.tdiv (wrap .i64 ((wrap .i64 ((128:Int)*a))+(wrap .i64 (Int.tmod b 128)))) 40))then 2 else wrap .i64 (Int.tdiv (wrap .i64 ((wrap .i64 ((128:Int)*a))+(wrap .i64 (Int.tmod b 128)))) 40))).bind fun m=>
  (jw m ([46]:Cd)).bind fun o=>
  (yf n n (wrap .i64 ((wrap .i64 ((wrap .i64 ((128:Int)*a))+(wrap .i64 (Int.tmod b 128))))-(wrap .i64 ((40:Int)*(if 2<(wrap .i64 (Int.tdiv (wrap .i64 ((wrap .i64 ((128:Int)*a))+(wrap .i64 (Int.tmod b 128)))) 40))then 2 else wrap .i64 (Int.tdiv (wrap .i64 ((wrap .i64 ((128:Int)*a))+(wrap .i64 (Int.tmod b 128)))) 40))))))).bind fun s=>
  (jw o s).bind fun u=>
  some (.nxt (u,0,decide (e≥128),2)))else((yf n n (wrap .i64 ((wrap .i64 ((128:Int)*a))+(wrap .i64 (Int.tmod b 128))))).bind fun v=>
  (jw ([46]:Cd) v).bind fun w=>
  (jw g w).bind fun A=>
  if decide ((wrap .i64 (d+1))>12)then(some (.ret (([]:Cd),11)))else(some (.nxt (A,0,decide (e≥128),wrap .i64 (d+1))))))))) (fun r=>some (.ret r)) (fun f=>
  zJ n a0 k f.1 f.2.1 f.2.2.1 f.2.2.2 (wrap .i64 (c+1))))else(some (.nxt (g,i)))
def zx (n:Nat)(a0:Cd):Option (Cd×Int):=
 z8 (zJ n a0 n ([]:Cd) 0 false 0 0) (fun r=>some r) (fun a=>
 (if(a0.length:Int)==0 then(some true)else(if a.2=true then(some true)else((xN n a.1).bind fun b=>
 some (!b)))).bind fun c=>
 if c then(some (([]:Cd),11))else(some (a.1,0)))
theorem uW {n a0 r}:zx n a0=some r→AC mx 77 [qs a0] [] (.tuple [qs r.1,qi r.2]) []:=
 fnL Tryz.func77 rfl<|rgL<|rgL<|rgL<|rgL<|bcL (fun b=>⟨74,[(0,qs a0),(4,qs b.1),(6,qb b.2)]⟩) (fun b=>⟨[],[]⟩) (fun D c=>lpL (fun k x=>zJ n a0 k x.1 x.2.1 x.2.2.1 x.2.2.2.1 x.2.2.2.2) (([]:Cd),0,false,0,0) A1 (fun x=>⟨74,[(0,qs a0),(4,qs x.1),(5,qi x.2.1),(6,qb x.2.2.1),(7,qi x.2.2.2.1),(8,qi x.2.2.2.2)]⟩) (fun x=>⟨[],[]⟩) fun k x=>by obtain⟨f,g,E,i,d⟩:=x; rw [zJ]; exact rgL<|bFL (bcL (fun a=>⟨74,[(0,qs a0),(4,qs a.1),(5,qi a.2.1),(6,qb a.2.2.1),(7,qi a.2.2.2),(8,qi d)]⟩) (fun a=>⟨[],[]⟩) (fun F e=>bEL fun j hE=>rgF hE ⟨74,[(0,qs a0),(4,qs f),(5,qi g),(7,qi i),(8,qi d),(23,qb j)]⟩ ⟨[],[]⟩ (gFL 3 18 (bEL fun G l=>kPL 5 (zW l)<|eJ A1)<|eJ A1)<|bFL (rgL<|yu<|hvL e<|yi<|wx<|hvL c<|yi<|rJ A1)<|bP 4 zW fun H=>rgL<|bFL (rgL<|yu<|hvL e<|yi<|wx<|hvL c<|yi<|rJ A1)<|bP 2 zW fun I=>rgL<|bFL (bz<|db<|jCL A1)<|rgL<|bFL (rgL<|bEL fun J m=>bEL fun K o=>bEL fun L s=>bEL fun M u=>rCL (kCL 1 A1 (qJ _ m)<|kPL 2 (zQ o)<|kCL 7 A1 (qJ _ s)<|kPL 8 (zQ u) edL)<|rgL<|rgL<|bNL<|jCL A1)<|bEL fun N v=>bEL fun O w=>bEL fun P A=>rCL (kCL 2 A1 (qJ _ v)<|kPL 3 (zQ w)<|kPL 4 (zQ A) edL)<|rgL<|rgL<|bFL (rgL<|yu<|hvL e<|yi<|wx<|hvL c<|yi<|rJ A1)<|jCL A1) fun a=>yl zn fun h=>⟨(a.1,a.2.1,a.2.2.1,a.2.2.2,wrap .i64 (d+1)),h,wk A1⟩)<|xjL<|jCL A1) fun b=>bEL fun B hE=>rgF hE ⟨74,[(4,qs b.1),(72,qb B)]⟩ ⟨[],[]⟩ (gFL 4 65 (eJ A1)<|gFL 7 68 (eJ A1)<|bEL fun Q C=>kCL 8 A1 (vX C)<|eJ A1)<|bFL (rgL<|rKL A1)<|rgL<|rKL A1
def ww (n:Nat)(a0:Cd):Option (Cd×Int×Int):=
 (if(a0.length:Int)==0 then(some true)else((yw a0 0).bind fun a=>
 if decide (a>7)then(some true)else((yw a0 0).bind fun b=>
 if decide (b>0)then(if(a0.length:Int)==1 then(some true)else((yw a0 (wrap .i64 ((a0.length:Int)-1))).bind fun c=>
 (yw a0 0).bind fun d=>
 (Je .i64 1 d).bind fun e=>
 (nL (wrap .i64 c) e).bind fun f=>
 some (f !=0)))else(some false)))).bind fun g=>
 if g then(some (([]:Cd),0,7))else((ssl a0 1 (a0.length)).bind fun i=>
 (yw a0 0).bind fun j=>
 some (i,wrap .i64 j,0))
theorem pv {n a0 r}:ww n a0=some r→AC mx 151 [qs a0] [] (.tuple [qs r.1,qi r.2.1,qi r.2.2]) []:=
 fnL Tryz.func151 rfl<|rgL<|bEL fun a hE=>lfL (fun z=>drw [0,1,2,3,4,5,6,7,8,9,10,11,12,13,14,15,16,17,18,19,20,21,22,23,24,25,26,27,28,29,30] [] [[],[0],[0,1],[0,1,2],zv 0 4,zv 0 5,zv 0 6,zv 0 7,zv 0 8,zv 0 9,zv 0 10,zv 0 11,zv 0 12,zv 0 13,zv 0 14,zv 0 15,zv 0 16,zv 0 17,zv 0 17,zv 0 17 ++ [18],zv 0 17 ++ [18,19],zv 0 21,zv 0 22,zv 0 17,zv 0 17 ++ [23],zv 0 17 ++ [23,24],zv 0 26,zv 0 27,zv 0 28,zv 0 29,zv 0 30] ⟨41,[(0,qs a0),(35,qb a)]⟩ ⟨[],[]⟩ (have h:=hE; dS (zv 0 4)<|hF 8 h (fun h=>dS (zv 4 27)<|by cases h; exact dE A1) fun h=>bE h fun o b h=>dS [4]<|dP (zW b)<|dS [6,7,8]<|hF 13 h (fun h=>dS (zv 9 22)<|by cases h; exact dE A1) fun h=>bE h fun s c h=>dS [9]<|dP (zW c)<|dS [11,12]<|hF 17 h (fun h=>dS (zv 13 4)<|hF 21 h (fun h=>dS (zv 17 14)<|by cases h; exact dE A1) fun h=>bE h fun u d h=>bE h fun v e h=>bE h fun w f h=>bE h fun A g h=>dS (zv 17 4)<|dP (zW d)<|dS [22,23]<|dP (zW e)<|dP (oi f)<|dP (nk g)<|dS (zv 27 4)<|by cases h; exact dE A1) fun h=>dS (zv 13 18)<|by cases h; exact dE A1) z)<|bFL (rgL<|rKL A1)<|bEL fun i j=>bEL fun l m=>lfL (fun z=>zs [0,1,2,3,4,5,6,7] [] [[],[0],[],[2],[2,3],[0,1],[0,1,2,3,4,5],[0,1,2,3,4,5,6]] [] [(2,qs i),(3,qi (wrap .i64 l)),(4,qi 0)] (dS [0]<|dP (v8 j)<|dS [2]<|dP (zW m)<|dS (zv 4 4)<|dE A1) z)<|rKL A1
def vK (n:Nat)(b:(Cd×Int×Int)):Nat→Int→Int→Option Int
 |0,_,_=>none
 | k+1,c,a=>
  if decide (a<(wrap .i64 ((wrap .i64 ((8:Int)*(b.1.length:Int)))-b.2.1)))then(((yw b.1 (wrap .i64 (Int.tdiv a 8))).bind fun d=>
  (Wr .u8 d (wrap .i64 ((7:Int)-(Int.tmod a 8)))).bind fun e=>
  if(Int.tmod e 2)==1 then((Je .i64 1 a).bind fun f=>
  some (ior .i64 c f))else(some c)).bind fun g=>
  vK n b k g (wrap .i64 (a+1)))else(some c)
def xe (n:Nat)(a0:Cd):Option (Int×Int):=
 (ww n a0).bind fun a=>
 if a.2.2 !=0 then(some (0,a.2.2))else((if decide ((wrap .i64 ((wrap .i64 ((8:Int)*(a.1.length:Int)))-a.2.1))>0)then((yw a.1 (wrap .i64 ((a.1.length:Int)-1))).bind fun b=>
 (Wr .u8 b a.2.1).bind fun c=>
 some ((Int.tmod c 2)==0))else(some false)).bind fun d=>
 if d then(some (0,7))else(if decide ((wrap .i64 ((wrap .i64 ((8:Int)*(a.1.length:Int)))-a.2.1))>16)then(some (0,1))else((vK n a n 0 0).bind fun e=>
 some (e,0))))
theorem XA {n a0 r}:xe n a0=some r→AC mx 78 [qs a0] [] (.tuple [qi r.1,qi r.2]) []:=
 fnL Tryz.func78 rfl<|rgL<|bC 1 A1 pv fun a=>rgL<|bFL (rgL<|rKL A1)<|rgL<|bEL fun e hE=>rgF hE ⟨59,[(4,qs a.1),(7,qi (wrap .i64 ((wrap .i64 ((8:Int)*(a.1.length:Int)))-a.2.1))),(36,qb e)]⟩ ⟨[],[]⟩ (gFL 3 26 (bEL fun m f=>bEL fun o g=>kPL 7 (zW f)<|kPL 9 (Uj g)<|eJ A1)<|eJ A1)<|bFL (rgL<|rKL A1)<|rgL<|bFL (rgL<|rKL A1)<|rgL<|rgL<|blL (fun c=>⟨59,[(8,qi c)]⟩) (fun c=>⟨[],[]⟩) (fun c=>lpL (fun k x=>vK n a k x.1 x.2) (0,0) A1 (fun x=>⟨59,[(4,qs a.1),(7,qi (wrap .i64 ((wrap .i64 ((8:Int)*(a.1.length:Int)))-a.2.1))),(8,qi x.1),(9,qi x.2)]⟩) (fun x=>⟨[],[]⟩) fun k x=>by obtain⟨s,d⟩:=x; rw [vK]; exact rgL<|bFL (blL (fun b=>⟨59,[(4,qs a.1),(7,qi (wrap .i64 ((wrap .i64 ((8:Int)*(a.1.length:Int)))-a.2.1))),(8,qi b),(9,qi d)]⟩) (fun b=>⟨[],[]⟩) (fun b=>bEL fun u i=>bEL fun v j=>rCL (kPL 3 (zW i)<|kPL 7 (Uj j) edL)<|bFL (bEL fun w l=>wO xh (kPL 2 (nQ l) edL)<|jnL A1)<|jnL A1) fun b=>yl zn fun h=>⟨(b,wrap .i64 (d+1)),h,wk A1⟩)<|xjL<|jnL A1) fun c=>rgL<|rKL A1
def zZ (n:Nat) (a:((List za)×Int)):Nat→(List Cd)→Int→Bool→Option ((List Cd)×Bool)
 |0,_,_,_=>none
 | k+1,c,b,d=>
  if decide (b<(a.1.length:Int))then((zV a.1 b).bind fun f=>
  (zx n f.zc).bind fun e=>
  (if d then(some true)else(some (e.2 !=0))).bind fun g=>
  (gL 16 c ([e.1]:List Cd)).bind fun i=>
  zZ n a k i (wrap .i64 (b+1)) g)else(some (c,d))
def z1 (n:Nat)(a1:za)(m0:zh):Option ((List Cd)×zh):=
 (xL n a1.zc).bind fun a=>
 (if m0.jP=true then(some true)else(some (a.2 !=0))).bind fun c=>
 (zZ n a n ([]:List Cd) 0 c).bind fun b=>
 some (b.1,(zh.mk m0.f_l m0.bI b.2))
theorem km {n a1 m0 r}:z1 n a1 m0=some r→AC mx 79 [qp 0, .agg (za.cells a1)] [zh.cells m0] (ql 1 cS r.1) [zh.cells r.2]:=
 fnL Tryz.func79 rfl<|rgL<|rgL<|bC 2 A4 jc fun b=>bEL fun c hE=>rgF hE ⟨59,[(0,qp 0),(5,qn),(6,ql 3 za.cells b.1)]⟩ ⟨[[ql 3 za.cells m0.f_l,qi m0.bI,qb c]],[]⟩ (gFL 6 22 (eJ A8)<|eJ A8)<|rgL<|blL (fun a=>⟨59,[(5, .sl 1 (List.map cS a.1) (.fam 0 (a.1.length)))]⟩) (fun a=>⟨[[ql 3 za.cells m0.f_l,qi m0.bI,qb a.2]],[a.1.length]⟩) (fun a=>xR (wk (fr':=⟨59,[(0,qp 0),(5,qn),(6,ql 3 za.cells b.1),(8,qi 0)]⟩) (st':=⟨[[ql 3 za.cells m0.f_l,qi m0.bI,qb c]],[]⟩) A3)<|xR Wk.nilFam<|lpL (fun k x=>zZ n b k x.1 x.2.1 x.2.2) (([]:List Cd),0,c) An (fun x=>⟨59,[(0,qp 0),(5, .sl 1 (List.map cS x.1) (.fam 0 (x.1.length))),(6,ql 3 za.cells b.1),(8,qi x.2.1)]⟩) (fun x=>⟨[[ql 3 za.cells m0.f_l,qi m0.bI,qb x.2.2]],[x.1.length]⟩) fun k x=>by obtain⟨d,f,s⟩:=x; rw [zZ]; exact cP 2 (xT b.1)<|bFL (zp<|bEL fun u i=>bEL fun j l=>rCL (kPL 2 (yN i)<|kCL 5 Ah (uW l) edL)<|bEL fun g hE=>rgF hE ⟨59,[(0,qp 0),(5, .sl 1 (List.map cS d) (.fam 0 (d.length))),(6,ql 3 za.cells b.1),(8,qi f),(9,qs j.1)]⟩ ⟨[[ql 3 za.cells m0.f_l,qi m0.bI,qb g]],[d.length]⟩ (gFL 6 48 (eJ An)<|eJ An)<|bEL fun m o=>wO zS (lfL (fun z=>kA 3 0 cS (e:=9) (e2:=9) (sz:=1) (bytes:=16) (b2:=16) (tok2:= .exact) o z) edL)<|zq<|yl zn fun h=>⟨(m,wrap .i64 (f+1),g),h,wk An⟩)<|xjL<|jnL An) fun a=>rgL<|rKL Av
def yL (n:Nat)(a1:Int)(m0:zh):Option (Bool×zh):=
 (zO n a1 m0).bind fun a=>
 some (a.2.1,a.2.2)
theorem uz {n a1 m0 r}:yL n a1 m0=some r→AC mx 80 [qp 0,qi a1] [zh.cells m0] (qb r.1) [zh.cells r.2]:=
 fnL Tryz.func80 rfl<|rgL<|bC 2 A3 xu fun a=>rgL<|rKL A8
def vd (n:Nat)(a0:za)(a1:Int):Option (zI×Int):=
 if a0.zA !=a1 then(some ((zI.mk ([]:List za) 0),5))else((xL n a0.zc).bind fun a=>
 some ((zI.mk a.1 0),a.2))
theorem ja {n a0 a1 r}:vd n a0 a1=some r→AC mx 205 [.agg (za.cells a0),qi a1] [] (.tuple [.agg (zI.cells r.1),qi r.2]) []:=
 fnL Tryz.func205 rfl<|rgL<|rgL<|bFL (rgL<|rKL A4)<|bC 2 A4 jc fun a=>rgL<|rKL A4
def wA (n:Nat)(a0:List za):Nat→Int→Option (Ctl Bool Unit)
 |0,_=>none
 | k+1,a=>
  if decide (a<(a0.length:Int))then((zV a0 a).bind fun b=>
  (zV a0 (wrap .i64 (a-1))).bind fun c=>
  if Op.bytesLess b.jL c.jL then(some (.ret false))else(wA n a0 k (wrap .i64 (a+1))))else(some (.nxt ()))
def jC (n:Nat)(a0:List za):Option Bool:=
 z8 (wA n a0 n 1) (fun r=>some r) (fun a=>
 some true)
theorem Yt {n a0 r}:jC n a0=some r→AC mx 206 [ql 3 za.cells a0] [] (qb r) []:=
 fnL Tryz.func206 rfl<|rgL<|rgL<|bcL (fun _=>⟨22,[]⟩) (fun _=>⟨[],[]⟩) (fun g b=>lpL (fun k x=>wA n a0 k x) 1 A1 (fun x=>⟨22,[(0,ql 3 za.cells a0),(3,qi x)]⟩) (fun x=>⟨[],[]⟩) fun k a=>by rw [wA]; exact cP 2 (xT a0)<|bFL (zp<|bEL fun c d=>bEL fun e f=>lfL (fun z=>zs [0,1,2,3,4,5,6,7,8,9,10,11] [] [[],[],[0,1],[0,1,2],[0,1,2,3],[],[],[6],[5,6,7],[5,6,7,8],[5,6,7,8,9],[0,1,2,3,4,5,6,7,8,9,10]] [0] [(3,qi a),(21,qb (Op.bytesLess c.jL e.jL))] (dS [0,1]<|dP (yN d)<|dS (zv 3 5)<|dP (yN f)<|dS [9,10,11]<|dE A1) z)<|bFL (rgL<|hKL b<|rJ A1)<|zq<|yl zn fun h=>⟨wrap .i64 (a+1),h,wk A1⟩)<|xjL<|jCL A1) fun i=>rgL<|rKL A1
def ye (n:Nat)(a1:Int)(m0:zI):Option (za×Int×zI):=
 if decide (m0.eA≥(m0.f_L.length:Int))then(some ((za.mk 0 ([]:Cd) ([]:Cd)),3,m0))else((zV m0.f_L m0.eA).bind fun a=>
 (if decide (a1≥0)then(some (a.zA !=a1))else(some false)).bind fun b=>
 if b then(some ((za.mk 0 ([]:Cd) ([]:Cd)),5,m0))else(some (a,0,(zI.mk m0.f_L (wrap .i64 (m0.eA+1))))))
theorem w8 {n a1 m0 r}:ye n a1 m0=some r→AC mx 208 [qp 0,qi a1] [zI.cells m0] (.tuple [.agg (za.cells r.1),qi r.2.1]) [zI.cells r.2.2]:=
 fnL Tryz.func208 rfl<|rgL<|lfL (fun z=>zs [0,1,2,3,4,5,6,7,8,9] [] [[],[0],[0,1],[0,1,2],[],[4],[4,5],[4,5,6],[4,5,6,7],[0,1,2,3,4,5,6,7,8]] [] [(0,qp 0),(1,qi a1),(4,qp 1),(16,qb (decide (m0.eA≥(m0.f_L.length:Int))))] (dS (zv 0 8)<|dP (xT m0.f_L)<|dS [9]<|dE A5) z)<|bFL (rgL<|rKL A8)<|bEL fun b a=>lfL (fun z=>zm [0,1,2,3,4,5,6,7,8,9,10,11] [10,11] [[],[0],[0,1],[0,1,2],[],[4],[4,5],[4,5,6],[0,1,2,3,4,5,6,7],[0,1,2,3,4,5,6,7,8],[],[0,1,2,3,4,5,6,7,8,9,10]] [] [(0,qp 0),(1,qi a1),(4,qp 1),(6,qp 2)] ⟨[zI.cells m0,[qi 0,qs [],qs []],za.cells b],[]⟩ (dS (zv 0 8)<|dP (yN a)<|dS [9]<|dF (zr 8 (yN a) yb)<|dF (zr 8 (yN a) yb)<|dE Ad) z)<|bEL fun c hE=>rgF hE ⟨45,[(0,qp 0),(4,qp 1),(6,qp 2),(35,qb c)]⟩ ⟨[zI.cells m0,[qi 0,qs [],qs []],za.cells b],[]⟩ (gFL 3 30 (eJ Ad)<|eJ Ad)<|bFL (rgL<|rKL Ae)<|rgL<|rgL<|rKL Ae
def wZ (n:Nat)(m0:zI):Option (Int×zI):=
 if decide (m0.eA<(m0.f_L.length:Int))then(some (4,m0))else(some (0,m0))
theorem qd {n m0 r}:wZ n m0=some r→AC mx 210 [qp 0] [zI.cells m0] (qi r.1) [zI.cells r.2]:=
 fnL Tryz.func210 rfl<|rgL<|lfL (fun z=>zs [0,1,2,3,4,5,6,7,8,9] [] [[],[0],[0,1],[0,1,2],[],[4],[4,5],[4,5,6],[4,5,6,7],[0,1,2,3,4,5,6,7,8]] [] [(12,qb (decide (m0.eA<(m0.f_L.length:Int))))] (dS (zv 0 8)<|dP (xT m0.f_L)<|dS [9]<|dE A3) z)<|bFL (rgL<|rKL A3)<|rgL<|rKL A3
def jx (n:Nat)(a0:za):Option (zb×Int):=
 (vd n a0 48).bind fun c=>
 if c.2 !=0 then(some ((zb.mk ([]:Cd) 0 ([]:Cd)),c.2))else((ye n 6 c.1).bind fun b=>
 if b.2.1 !=0 then(some ((zb.mk ([]:Cd) 0 ([]:Cd)),b.2.1))else((zx n b.1.zc).bind fun d=>
 if d.2 !=0 then(some ((zb.mk ([]:Cd) 0 ([]:Cd)),d.2))else((ye n (-1) b.2.2).bind fun a=>
 if a.2.1 !=0 then(some ((zb.mk ([]:Cd) 0 ([]:Cd)),a.2.1))else((if a.1.zA !=12 then(if a.1.zA !=19 then(some (a.1.zA !=22))else(some false))else(some false)).bind fun f=>
 if f then(some ((zb.mk ([]:Cd) 0 ([]:Cd)),5))else((wZ n a.2.2).bind fun e=>
 if e.1 !=0 then(some ((zb.mk ([]:Cd) 0 ([]:Cd)),e.1))else(some ((zb.mk d.1 a.1.zA a.1.zc),0)))))))
theorem Yb {n a0 r}:jx n a0=some r→AC mx 207 [.agg (za.cells a0)] [] (.tuple [.agg (zb.cells r.1),qi r.2]) []:=
 fnL Tryz.func207 rfl<|rgL<|rgL<|bC 1 A7 ja fun d=>rgL<|bFL (rgL<|rKL Ab)<|bC 0 Ap w8 fun e=>rgL<|bFL (rgL<|rKL Ag)<|bC 2 Ag uW fun b=>rgL<|bFL (rgL<|rKL Ag)<|bC 0 ⟨[3],5,[],0⟩ w8 fun a=>rgL<|bFL (rgL<|rKL Ay)<|bEL fun c hE=>rgF hE ⟨72,[(2,qp 0),(4,qp 1),(5,qp 2),(8,qs b.1),(9,qp 3),(59,qb c)]⟩ ⟨[[qs ([]:Cd),qi 0,qs []],[qs ([]:Cd),qi 0,qs []],zI.cells a.2.2,za.cells a.1],[]⟩ (gFL 4 50 (gFL 9 55 (eJ Cb)<|eJ Cb)<|eJ Cb)<|bFL (rgL<|rKL Ab)<|bC 0 Az qd fun f=>rgL<|bFL (rgL<|rKL Ab)<|rgL<|rKL Ab
def wj (n:Nat)(a:(zI×Int)):Nat→(List zb)→Int→Option (Ctl (zC×Int) (List zb))
 |0,_,_=>none
 | k+1,d,b=>
  if decide (b<(a.1.f_L.length:Int))then((zV a.1.f_L b).bind fun e=>
  (jx n e).bind fun c=>
  if c.2 !=0 then(some (.ret ((zC.mk ([]:List (List zb))),c.2)))else((gL 40 d ([c.1]:List zb)).bind fun f=>
  wj n a k f (wrap .i64 (b+1))))else(some (.nxt d))
def wq (n:Nat)(b:(zI×Int)):Nat→Int→(List (List zb))→Option (Ctl (zC×Int) (List (List zb)))
 |0,_,_=>none
 | k+1,c,d=>
  if decide (c<(b.1.f_L.length:Int))then((zV b.1.f_L c).bind fun e=>
  (vd n e 49).bind fun a=>
  if a.2 !=0 then(some (.ret ((zC.mk ([]:List (List zb))),a.2)))else((jC n a.1.f_L).bind fun f=>
  if !f then(some (.ret ((zC.mk ([]:List (List zb))),9)))else(z8 (wj n a n ([]:List zb) 0) (fun r=>some (.ret r)) (fun g=>
  (gL 24 d ([g]:List (List zb))).bind fun i=>
  wq n b k (wrap .i64 (c+1)) i))))else(some (.nxt d))
def uo (n:Nat)(a0:Cd):Option (zC×Int):=
 (uE n a0).bind fun a=>
 if a.2 !=0 then(some ((zC.mk ([]:List (List zb))),a.2))else((vd n a.1 48).bind fun b=>
 if b.2 !=0 then(some ((zC.mk ([]:List (List zb))),b.2))else(z8 (wq n b n 0 ([]:List (List zb))) (fun r=>some r) (fun c=>
 (xf n (zC.mk c)).bind fun d=>
 if d !=0 then(some ((zC.mk ([]:List (List zb))),d))else(some ((zC.mk c),0)))))
theorem gB {n a0 r}:uo n a0=some r→AC mx 154 [qs a0] [] (.tuple [.agg [ql 1 (cL 3 zb.cells) r.1.zg],qi r.2]) []:=
 fnL Tryz.func154 rfl<|rgL<|rgL<|bC 1 A4 qC fun v=>rgL<|bFL (rgL<|rKL A7)<|bC 1 A7 ja fun a=>rgL<|bFL (rgL<|rKL Ab)<|rgL<|cP 2 (xT a.1.f_L)<|bcL (fun d=>⟨95,[(2,qp 0),(4,qp 1),(8,qp 2)]⟩) (fun d=>⟨[[qn],[qn],[.sl 1 (List.map (cL 3 zb.cells) d) (.fam 0 (d.length))]],[d.length]⟩) (fun w i=>xR (wk (fr':=⟨95,[(2,qp 0),(4,qp 1),(8,qp 2),(40,ql 3 za.cells a.1.f_L),(41,qi (a.1.f_L.length)),(42,qi 0)]⟩) (st':=⟨[[qn],[qn],[qn]],[]⟩) At)<|xR Wk.nilFam<|lpL (fun k x=>wq n a k x.1 x.2) (0,([]:List (List zb))) Aw (fun x=>⟨95,[(2,qp 0),(4,qp 1),(8,qp 2),(40,ql 3 za.cells a.1.f_L),(41,qi (a.1.f_L.length)),(42,qi x.1)]⟩) (fun x=>⟨[[qn],[qn],[.sl 1 (List.map (cL 3 zb.cells) x.2) (.fam 0 (x.2.length))]],[x.2.length]⟩) fun k x=>by obtain⟨g,b⟩:=x; rw [wq]; exact rgL<|bFL (zp<|bP 0 yN fun A=>bC 1 As ja fun c=>rgL<|bFL (rgL<|hKL i<|rJ Cc)<|bC 2 Cc Yt fun B=>bFL (rgL<|hKL i<|rJ Cc)<|rgL<|cP 2 (xT c.1.f_L)<|bcL (fun f=>⟨95,[(2,qp 0),(4,qp 1),(8,qp 2),(13, .sl 3 (List.map zb.cells f) (.fam 1 (f.length))),(40,ql 3 za.cells a.1.f_L),(41,qi (a.1.f_L.length)),(42,qi g)]⟩) (fun f=>⟨[[qn],[qn],[.sl 1 (List.map (cL 3 zb.cells) b) (.fam 0 (b.length))]],[b.length,f.length]⟩) (fun C j=>xR (wk (fr':=⟨95,[(2,qp 0),(4,qp 1),(8,qp 2),(13,qn),(40,ql 3 za.cells a.1.f_L),(41,qi (a.1.f_L.length)),(42,qi g),(61,ql 3 za.cells c.1.f_L),(62,qi (c.1.f_L.length)),(63,qi 0)]⟩) (st':=⟨[[qn],[qn],[.sl 1 (List.map (cL 3 zb.cells) b) (.fam 0 (b.length))]],[b.length]⟩) C1)<|xR Wk.nilFam<|lpL (fun k x=>wj n c k x.1 x.2) (([]:List zb),0) ⟨[0,1,2],3,[0,1],2⟩ (fun x=>⟨95,[(2,qp 0),(4,qp 1),(8,qp 2),(13, .sl 3 (List.map zb.cells x.1) (.fam 1 (x.1.length))),(40,ql 3 za.cells a.1.f_L),(41,qi (a.1.f_L.length)),(42,qi g),(61,ql 3 za.cells c.1.f_L),(62,qi (c.1.f_L.length)),(63,qi x.2)]⟩) (fun x=>⟨[[qn],[qn],[.sl 1 (List.map (cL 3 zb.cells) b) (.fam 0 (b.length))]],[b.length,x.1.length]⟩) fun k x=>by obtain⟨D,l⟩:=x; rw [wj]; exact rgL<|bFL (zp<|bP 0 yN fun E=>bC 1 ⟨[],4,[],2⟩ Yb fun F=>rgL<|bFL (rgL<|hKL j<|yO<|wx<|hvL i<|yi<|rJ ⟨[],5,[],2⟩)<|bEL fun m o=>wO zS (lfL (fun z=>kA 3 1 zb.cells (e:=140) (e2:=140) (sz:=3) (bytes:=40) (b2:=40) (tok2:= .exact) o z) edL)<|zq<|yl zn fun h=>⟨(m,wrap .i64 (l+1)),h,wk ⟨[0,1,2],5,[0,1],2⟩⟩)<|xjL<|jCL ⟨[0,1,2],3,[0,1],2⟩) fun f=>bEL fun s u=>wO zS (lfL (fun z=>kA 4 0 (cL 3 zb.cells) (e:=141) (e2:=141) (sz:=1) (bytes:=24) (b2:=24) (tok2:= .exact) u z) edL)<|zq<|yl zn fun h=>⟨(wrap .i64 (g+1),s),h,wk ⟨[0,1,2],3,[0],2⟩⟩)<|xjL<|jCL Aw) fun d=>bC 1 Ai uY fun G=>rgL<|bFL (rgL<|rKL Ai)<|rgL<|rKL Ai
def uH (n:Nat)(a0:za)(a1:Bool):Option (zd×Int):=
 z8 ((if a0.zA==129 then(some (a0.zA==129))else(if a0.zA==130 then(some (a0.zA==130))else(some (a0.zA==135)))).bind fun d=>
 if d then(some (.nxt (wrap .i64 (a0.zA-128),a0.zc,([]:List (List zb)))))else(if a0.zA==164 then((uo n a0.zc).bind fun b=>
 if b.2 !=0 then(some (.ret ((zd.mk 0 ([]:Cd) (zC.mk ([]:List (List zb)))),b.2)))else(some (.nxt (4,([]:Cd),b.1.zg))))else(some (.ret ((zd.mk 0 ([]:Cd) (zC.mk ([]:List (List zb)))),5))))) (fun r=>some r) (fun a=>
 (xb n (zd.mk a.1 a.2.1 (zC.mk a.2.2)) a1).bind fun c=>
 if c !=0 then(some ((zd.mk 0 ([]:Cd) (zC.mk ([]:List (List zb)))),c))else(some ((zd.mk a.1 a.2.1 (zC.mk a.2.2)),0)))
theorem Ze {n a0 a1 r}:uH n a0 a1=some r→AC mx 152 [.agg (za.cells a0),qb a1] [] (.tuple [.agg (zd.cells r.1),qi r.2]) []:=
 fnL Tryz.func152 rfl<|rgL<|rgL<|rgL<|bcL (fun a=>⟨46,[(1,qb a1),(4,qp 0),(6,qp 1)]⟩) (fun a=>⟨[[qi 0,qs [],qn],[qi a.1,qs a.2.1,ql 1 (cL 3 zb.cells) a.2.2]],[]⟩) (fun d c=>rgL<|cuL (fun b=>⟨46,[(1,qb a1),(2,qp 0),(4,qp 1),(6,qp 2),(12,qi a0.zA),(14,qb b)]⟩) (fun b=>⟨[za.cells a0,[qi 0,qs [],qn],[qi 0,qs [],qn]],[]⟩) (fun b=>bFL (jnL Ad)<|rgL<|bFL (jnL Ad)<|yl zn<|jnL Ad) fun b=>bFL (yl xh<|jCL Ar)<|rgL<|bFL (bC 2 A7 gB fun e=>rgL<|bFL (rgL<|yu<|hvL c<|yi<|rJ Ab)<|yl xh<|jCL ⟨[1,2],4,[],0⟩)<|rgL<|yu<|hvL c<|yi<|rJ A7) fun a=>bC 2 A4 jJ fun f=>rgL<|bFL (rgL<|rKL A4)<|rgL<|rKL A4
def wo (n:Nat) (b:((List za)×Int)):Nat→(List zd)→Int→Option (Ctl ((List zd)×Int) (List zd))
 |0,_,_=>none
 | k+1,d,c=>
  if decide (c<(b.1.length:Int))then((zV b.1 c).bind fun e=>
  (uH n e false).bind fun a=>
  if a.2 !=0 then(some (.ret (([]:List zd),a.2)))else((gL 48 d ([(zd.mk a.1.zG a.1.yy (zC.mk a.1.zo.zg))]:List zd)).bind fun f=>
  wo n b k f (wrap .i64 (c+1))))else(some (.nxt d))
def w6 (n:Nat)(a0:Cd):Option ((List zd)×Int):=
 (xL n a0).bind fun a=>
 if a.2 !=0 then(some (([]:List zd),a.2))else(if(a.1.length:Int)==0 then(some (([]:List zd),7))else(if decide ((a.1.length:Int)>16)then(some (([]:List zd),2))else(z8 (wo n a n ([]:List zd) 0) (fun r=>some r) (fun b=>
 some (b,0)))))
theorem ZQ {n a0 r}:w6 n a0=some r→AC mx 81 [qs a0] [] (.tuple [ql 3 zd.cells r.1,qi r.2]) []:=
 fnL Tryz.func81 rfl<|rgL<|bC 1 A1 jc fun a=>rgL<|bFL (rgL<|rKL A1)<|cP 1 (xT a.1)<|bFL (rgL<|rKL A1)<|cP 1 (xT a.1)<|bFL (rgL<|rKL A1)<|rgL<|cP 1 (xT a.1)<|bcL (fun b=>⟨45,[(6, .sl 3 (List.map zd.cells b) (.fam 0 (b.length)))]⟩) (fun b=>⟨[],[b.length]⟩) (fun i c=>xR (wk (fr':=⟨45,[(6,qn),(25,ql 3 za.cells a.1),(26,qi (a.1.length)),(27,qi 0)]⟩) (st':=⟨[],[]⟩) A1)<|xR Wk.nilFam<|lpL (fun k x=>wo n a k x.1 x.2) (([]:List zd),0) A6 (fun x=>⟨45,[(6, .sl 3 (List.map zd.cells x.1) (.fam 0 (x.1.length))),(25,ql 3 za.cells a.1),(26,qi (a.1.length)),(27,qi x.2)]⟩) (fun x=>⟨[],[x.1.length]⟩) fun k x=>by obtain⟨j,d⟩:=x; rw [wo]; exact rgL<|bFL (zp<|bP 0 yN fun l=>bC 1 Ah Ze fun m=>rgL<|bFL (rgL<|hKL c<|rJ Am)<|bEL fun f g=>wO zS (lfL (fun z=>kA 3 0 zd.cells (e:=59) (e2:=59) (sz:=3) (bytes:=48) (b2:=48) (tok2:= .exact) g z) edL)<|zq<|yl zn fun h=>⟨(f,wrap .i64 (d+1)),h,wk C8⟩)<|xjL<|jCL A6) fun b=>rgL<|rKL Aa
def ya (n:Nat)(a1:Int)(m0:zh):Option (za×zh):=
 (zO n a1 m0).bind fun a=>
 (if a.2.2.jP=true then(some true)else(some (!a.2.1))).bind fun b=>
 some (a.1,(zh.mk a.2.2.f_l a.2.2.bI b))
theorem w9 {n a1 m0 r}:ya n a1 m0=some r→AC mx 96 [qp 0,qi a1] [zh.cells m0] (.agg (za.cells r.1)) [zh.cells r.2]:=
 fnL Tryz.func96 rfl<|rgL<|bC 2 A8 xu fun a=>bEL fun b hE=>rgF hE ⟨25,[(4,qp 1),(5,qp 2)]⟩ ⟨[[ql 3 za.cells a.2.2.f_l,qi a.2.2.bI,qb b],[qi 0,qs [],qs []],za.cells a.1],[]⟩ (gFL 6 18 (eJ Ad)<|eJ Ad)<|rgL<|rKL Ae
def w5 (n:Nat)(a0:Cd):Nat→Int→Int→Option Int
 |0,_,_=>none
 | k+1,b,a=>
  if decide (a<(a0.length:Int))then((yw a0 a).bind fun c=>
  w5 n a0 k (ior .u64 (wrap .u64 (b*256)) (wrap .u64 c)) (wrap .i64 (a+1)))else(some b)
def ud (n:Nat)(a0:Cd):Option (Int×Int):=
 (if(a0.length:Int)==0 then(some true)else(if decide ((a0.length:Int)>1)then((yw a0 0).bind fun a=>
 if a==0 then((yw a0 1).bind fun b=>
 if decide (b<128)then(some true)else((yw a0 0).bind fun c=>
 if c==255 then((yw a0 1).bind fun d=>
 some (decide (d≥128)))else(some false)))else((yw a0 0).bind fun e=>
 if e==255 then((yw a0 1).bind fun f=>
 some (decide (f≥128)))else(some false)))else(some false))).bind fun g=>
 if g then(some (0,7))else(if decide ((a0.length:Int)>8)then(some (0,1))else((yw a0 0).bind fun i=>
 (if decide (i≥128)then(some 18446744073709551615)else(some 0)).bind fun j=>
 (w5 n a0 n j 0).bind fun l=>
 some (wrap .i64 l,0)))
theorem YO {n a0 r}:ud n a0=some r→AC mx 153 [qs a0] [] (.tuple [qi r.1,qi r.2]) []:=
 fnL Tryz.func153 rfl<|rgL<|bEL fun c hE=>rgF hE ⟨55,[(0,qs a0),(33,qb c)]⟩ ⟨[],[]⟩ (gFL 4 9 (eJ A1)<|gFL 8 13 (bEL fun u d=>kPL 9 (zW d)<|gFL 12 17 (bEL fun v e=>kPL 13 (zW e)<|gFL 17 22 (eJ A1)<|bEL fun w f=>kPL 18 (zW f)<|gFL 21 26 (bEL fun A g=>kPL 22 (zW g)<|eJ A1)<|eJ A1)<|bEL fun B i=>kPL 18 (zW i)<|gFL 21 26 (bEL fun C j=>kPL 22 (zW j)<|eJ A1)<|eJ A1)<|eJ A1)<|bFL (rgL<|rKL A1)<|rgL<|bFL (rgL<|rKL A1)<|rgL<|bP 1 zW fun D=>cuL (fun a=>⟨55,[(0,qs a0),(4, .int .u64 a)]⟩) (fun a=>⟨[],[]⟩) (fun a=>bFL (yl zn<|jnL A1)<|jnL A1) fun a=>rgL<|blL (fun b=>⟨55,[(4, .int .u64 b)]⟩) (fun b=>⟨[],[]⟩) (fun b=>lpL (fun k x=>w5 n a0 k x.1 x.2) (a,0) A1 (fun x=>⟨55,[(0,qs a0),(4, .int .u64 x.1),(5,qi x.2)]⟩) (fun x=>⟨[],[]⟩) fun k x=>by obtain⟨l,m⟩:=x; rw [w5]; exact rgL<|bFL (zp<|bEL fun o s=>wO zS (kPL 4 (zW s) edL)<|zq<|yl zn fun h=>⟨(ior .u64 (wrap .u64 (l*256)) (wrap .u64 o),wrap .i64 (m+1)),h,wk A1⟩)<|xjL<|jnL A1) fun b=>rgL<|rKL A1
def yc (n:Nat)(a1:Int)(m0:zh):Option (Int×zh):=
 (ya n a1 m0).bind fun a=>
 (ud n a.1.zc).bind fun b=>
 (if a.2.jP=true then(some true)else(some (b.2 !=0))).bind fun c=>
 some (b.1,(zh.mk a.2.f_l a.2.bI c))
theorem wu {n a1 m0 r}:yc n a1 m0=some r→AC mx 82 [qp 0,qi a1] [zh.cells m0] (qi r.1) [zh.cells r.2]:=
 fnL Tryz.func82 rfl<|rgL<|bEL fun a b=>bEL fun c d=>rCL (kCL 2 A3 (w9 b)<|kCL 4 A2 (YO d) edL)<|bEL fun e hE=>rgF hE ⟨27,[(5,qi c.1)]⟩ ⟨[[ql 3 za.cells a.2.f_l,qi a.2.bI,qb e]],[]⟩ (gFL 6 20 (eJ A3)<|eJ A3)<|rgL<|rKL A3
def xX (n:Nat)(a0:za):Option Int:=
 (vd n a0 48).bind fun b=>
 if b.2 !=0 then(some b.2)else((ye n 6 b.1).bind fun a=>
 if a.2.1 !=0 then(some a.2.1)else((zx n a.1.zc).bind fun c=>
 if c.2 !=0 then(some c.2)else((if !(c.1==([49,46,51,46,54,46,49,46,52,46,49,46,53,56,56,56,56,46,49,46,49]:Cd))then(some true)else((wZ n a.2.2).bind fun d=>
 some (d.1 !=0))).bind fun e=>
 if e then(some 16)else(some 0))))
theorem pR {n a0 r}:xX n a0=some r→AC mx 209 [.agg (za.cells a0)] [] (qi r) []:=
 fnL Tryz.func209 rfl<|rgL<|bC 1 A2 ja fun c=>rgL<|bFL (rgL<|rKL A4)<|bC 0 A9 w8 fun d=>rgL<|bFL (rgL<|rKL A7)<|bC 2 A7 uW fun e=>rgL<|bFL (rgL<|rKL A7)<|bEL fun a hE=>rgF hE ⟨37,[(36,qb a)]⟩ ⟨[],[]⟩ (gFL 3 33 (eJ A7)<|bEL fun f b=>kCL 3 Af (qd b)<|eJ A7)<|bFL (rgL<|rKL A1)<|rgL<|rKL A1
def wv (n:Nat)(a0:Cd):Option (zF×Int):=
 (uE n a0).bind fun d=>
 if d.2 !=0 then(some ((zF.mk 0 ([]:Cd) ([]:Cd)),d.2))else((vd n d.1 48).bind fun e=>
 if e.2 !=0 then(some ((zF.mk 0 ([]:Cd) ([]:Cd)),e.2))else((ye n (-1) e.1).bind fun b=>
 if b.2.1 !=0 then(some ((zF.mk 0 ([]:Cd) ([]:Cd)),b.2.1))else((xX n b.1).bind fun f=>
 if f !=0 then(some ((zF.mk 0 ([]:Cd) ([]:Cd)),f))else((ye n 3 b.2.2).bind fun c=>
 if c.2.1 !=0 then(some ((zF.mk 0 ([]:Cd) ([]:Cd)),c.2.1))else((ww n c.1.zc).bind fun a=>
 if a.2.2 !=0 then(some ((zF.mk 0 ([]:Cd) ([]:Cd)),a.2.2))else((if a.2.1 !=0 then(some true)else(some ((a.1.length:Int) !=33))).bind fun o=>
 if o then(some ((zF.mk 0 ([]:Cd) ([]:Cd)),18))else((yw a.1 0).bind fun g=>
 (ssl a.1 1 17).bind fun i=>
 (ssl a.1 17 (a.1.length)).bind fun j=>
 (wH n (zF.mk (wrap .i64 g) i j)).bind fun l=>
 if l !=0 then(some ((zF.mk 0 ([]:Cd) ([]:Cd)),l))else((wZ n c.2.2).bind fun m=>
 if m.1 !=0 then(some ((zF.mk 0 ([]:Cd) ([]:Cd)),m.1))else(some ((zF.mk (wrap .i64 g) i j),0))))))))))
theorem Yp {n a0 r}:wv n a0=some r→AC mx 155 [qs a0] [] (.tuple [.agg (zF.cells r.1),qi r.2]) []:=
 fnL Tryz.func155 rfl<|rgL<|rgL<|bC 1 A4 qC fun l=>rgL<|bFL (rgL<|rKL A7)<|bC 1 A7 ja fun m=>rgL<|bFL (rgL<|rKL Ab)<|bC 0 Ap w8 fun o=>rgL<|bFL (rgL<|rKL Ag)<|bC 1 Ag pR fun s=>rgL<|bFL (rgL<|rKL Ag)<|bC 0 ⟨[3],5,[],0⟩ w8 fun d=>rgL<|bFL (rgL<|rKL Ay)<|bC 2 Ay pv fun e=>rgL<|bFL (rgL<|rKL Ay)<|bEL fun f hE=>rgF hE ⟨96,[(2,qp 0),(4,qp 1),(7,qp 2),(11,qs e.1),(74,qb f)]⟩ ⟨[[qi 0,qs [],qs []],[qi 0,qs [],qs []],zI.cells d.2.2],[]⟩ (gFL 3 70 (eJ ⟨[0,1,3],6,[],0⟩)<|eJ ⟨[0,1,3],6,[],0⟩)<|bFL (rgL<|rKL A7)<|bEL fun g a=>bEL fun i b=>bEL fun j c=>lfL (fun z=>zm [0,1,2,3,4,5,6,7,8,9] [8,9] [[],[0],[0,1],[],[3],[],[5],[0,1,2,3,4,5,6],[],[0,1,2,3,4,5,6,7,8]] [] [(2,qp 0),(4,qp 1),(7,qp 2),(13,qp 3)] ⟨[[qi 0,qs [],qs []],[qi 0,qs [],qs []],zI.cells d.2.2,[qi (wrap .i64 g),qs i,qs j]],[]⟩ (dS [0]<|dP (zW a)<|dS [2,3]<|dP (zX b)<|dS [5]<|dP (v8 c)<|dS [7]<|dF (zr 6 (v8 c) (zr 4 (zX b) (zr 1 (zW a) yb)))<|dF (zr 6 (v8 c) (zr 4 (zX b) (zr 1 (zW a) yb)))<|dE ⟨[0,1,2,3],4,[],0⟩) z)<|bC 1 Ab qL fun u=>rgL<|bFL (rgL<|rKL Ab)<|bC 0 Az qd fun v=>rgL<|bFL (rgL<|rKL Ab)<|rgL<|rKL Ab
def ym (n:Nat)(a1:List za):Nat→(List zj)→Int→Bool→Option ((List zj)×Bool)
 |0,_,_,_=>none
 | k+1,b,a,c=>
  if decide (a<(a1.length:Int))then((zV a1 a).bind fun i=>
  (vf n i 48).bind fun j=>
  (ya n 48 j).bind fun d=>
  (uo n d.1.jL).bind fun e=>
  (ya n 48 d.2).bind fun f=>
  (wv n f.1.jL).bind fun g=>
  (if c then(some true)else(if f.2.jP=true then(some true)else(if e.2 !=0 then(some true)else(some (g.2 !=0))))).bind fun l=>
  (gL 64 b ([(zj.mk e.1 g.1)]:List zj)).bind fun m=>
  ym n a1 k m (wrap .i64 (a+1)) l)else(some (b,c))
def yH (n:Nat)(a1:List za)(m0:zh):Option ((List zj)×zh):=
 (ym n a1 n ([]:List zj) 0 m0.jP).bind fun a=>
 some (a.1,(zh.mk m0.f_l m0.bI a.2))
theorem kU {n a1 m0 r}:yH n a1 m0=some r→AC mx 83 [qp 0,ql 3 za.cells a1] [zh.cells m0] (ql 4 zj.cells r.1) [zh.cells r.2]:=
 fnL Tryz.func83 rfl<|rgL<|rgL<|rgL<|blL (fun a=>⟨65,[(5, .sl 4 (List.map zj.cells a.1) (.fam 0 (a.1.length)))]⟩) (fun a=>⟨[[ql 3 za.cells m0.f_l,qi m0.bI,qb a.2]],[a.1.length]⟩) (fun a=>xR (wk (fr':=⟨65,[(0,qp 0),(1,ql 3 za.cells a1),(5,qn),(6,qi 0)]⟩) (st':=⟨[zh.cells m0],[]⟩) A3)<|xR Wk.nilFam<|lpL (fun k x=>ym n a1 k x.1 x.2.1 x.2.2) (([]:List zj),0,m0.jP) An (fun x=>⟨65,[(0,qp 0),(1,ql 3 za.cells a1),(5, .sl 4 (List.map zj.cells x.1) (.fam 0 (x.1.length))),(6,qi x.2.1)]⟩) (fun x=>⟨[[ql 3 za.cells m0.f_l,qi m0.bI,qb x.2.2]],[x.1.length]⟩) fun k x=>by obtain⟨b,c,w⟩:=x; rw [ym]; exact cP 2 (xT a1)<|bFL (zp<|bEL fun A f=>bEL fun B g=>rCL (kPL 2 (yN f)<|kCL 4 Ah (u7 g) edL)<|bEL fun C i=>bEL fun j l=>rCL (kCL 1 C7 (w9 i)<|kCL 3 Am (gB l) edL)<|bEL fun D m=>bEL fun o s=>rCL (kCL 1 ⟨[1],3,[],1⟩ (w9 m)<|kCL 3 Ai (Yp s) edL)<|bEL fun d hE=>rgF hE ⟨65,[(0,qp 0),(1,ql 3 za.cells a1),(5, .sl 4 (List.map zj.cells b) (.fam 0 (b.length))),(6,qi c),(8,qp 1),(10,qp 2)]⟩ ⟨[[ql 3 za.cells m0.f_l,qi m0.bI,qb d],[ql 1 (cL 3 zb.cells) j.1.zg],zF.cells o.1],[b.length]⟩ (gFL 6 42 (eJ C3)<|gFL 12 48 (eJ C3)<|gFL 16 52 (eJ C3)<|eJ C3)<|bEL fun u v=>wO zS (lfL (fun z=>kA 5 0 zj.cells (e:=68) (e2:=68) (sz:=4) (bytes:=64) (b2:=64) (tok2:= .exact) v z) edL)<|zq<|yl zn fun h=>⟨(u,wrap .i64 (c+1),d),h,wk ⟨[0],3,[0],1⟩⟩)<|xjL<|jnL An) fun a=>rgL<|rKL Av
def yK (n:Nat)(a0:Cd):Option (zz×Int):=
 (xg n a0).bind fun m=>
 if m.2 !=0 then(some ((zz.mk 0 ([]:Cd) 0 ([]:List Cd) false false false ([]:List zd) 0 false ([]:List zj)),m.2))else((vf n m.1 48).bind fun b=>
 (if decide ((b.f_l.length:Int)>0)then((zV b.f_l 0).bind fun K=>
 (zV b.f_l 0).bind fun L=>
 (zN n K.zA L.zc).bind fun E=>
 (if b.jP=true then(some true)else(some (E.2 !=0))).bind fun M=>
 some (1,M,E.1))else(some (b.bI,b.jP,0))).bind fun i=>
 (zO n 128 (zh.mk b.f_l i.1 i.2.1)).bind fun c=>
 (if c.2.1=true then((zx n c.1.zc).bind fun F=>
 (if c.2.2.jP=true then(some true)else(some (F.2 !=0))).bind fun N=>
 some (N,F.1))else(some (c.2.2.jP,([]:Cd)))).bind fun o=>
 (zO n 129 (zh.mk c.2.2.f_l c.2.2.bI o.1)).bind fun d=>
 (if d.2.1=true then((xe n d.1.zc).bind fun G=>
 (if d.2.2.jP=true then(some true)else(some (G.2 !=0))).bind fun O=>
 some (O,G.1))else(some (d.2.2.jP,0))).bind fun s=>
 (zO n 162 (zh.mk d.2.2.f_l d.2.2.bI s.1)).bind fun e=>
 (if e.2.1=true then((z1 n e.1 e.2.2).bind fun j=>
 some (j.2.f_l,j.2.bI,j.2.jP,j.1))else(some (e.2.2.f_l,e.2.2.bI,e.2.2.jP,([]:List Cd)))).bind fun g=>
 (yL n 131 (zh.mk g.1 g.2.1 g.2.2.1)).bind fun u=>
 (yL n 132 u.2).bind fun v=>
 (yL n 133 v.2).bind fun w=>
 (zO n 166 w.2).bind fun f=>
 (if f.2.1=true then((w6 n f.1.zc).bind fun H=>
 (if f.2.2.jP=true then(some true)else(some (H.2 !=0))).bind fun P=>
 some (P,H.1))else(some (f.2.2.jP,([]:List zd)))).bind fun A=>
 (yc n 2 (zh.mk f.2.2.f_l f.2.2.bI A.1)).bind fun B=>
 (yL n 135 B.2).bind fun C=>
 (zO n 168 C.2).bind fun a=>
 (if a.2.1=true then((xL n a.1.zc).bind fun I=>
 (if a.2.2.jP=true then(some true)else(some (I.2 !=0))).bind fun Q=>
 (yH n I.1 (zh.mk a.2.2.f_l a.2.2.bI Q)).bind fun l=>
 some (l.2.f_l,l.2.bI,l.2.jP,l.1))else(some (a.2.2.f_l,a.2.2.bI,a.2.2.jP,([]:List zj)))).bind fun D=>
 (yp n (zz.mk i.2.2 o.2 s.2 g.2.2.2 u.1 v.1 w.1 A.2 B.1 C.1 D.2.2.2)).bind fun J=>
 (if D.2.2.1=true then(some true)else(if J.2 !=0 then(some true)else(some (!(J.1==a0))))).bind fun R=>
 if R then(some ((zz.mk 0 ([]:Cd) 0 ([]:List Cd) false false false ([]:List zd) 0 false ([]:List zj)),7))else(some ((zz.mk i.2.2 o.2 s.2 g.2.2.2 u.1 v.1 w.1 A.2 B.1 C.1 D.2.2.2),0)))
theorem ZH {n a0 r}:yK n a0=some r→AC mx 19 [qs a0] [] (.tuple [.agg (zz.cells r.1),qi r.2]) []:=
 fnL Tryz.func19 rfl<|rgL<|bC 1 A2 br fun T=>rgL<|bFL (rgL<|rKL A4)<|bC 1 A4 u7 fun l=>rgL<|cP 4 (xT l.f_l)<|cuL (fun a=>⟨228,[(0,qs a0),(2,qp 0),(6,qp 1),(7,qp 2)]⟩) (fun a=>⟨[[qi 0,qs [],qi 0,qn,qb false,qb false,qb false,qn,qi 0,qb false,qn],[ql 3 za.cells l.f_l,qi a.1,qb a.2.1],[qi a.2.2,qs [],qi 0,qn,qb false,qb false,qb false,qn,qi 0,qb false,qn]],[]⟩) (fun a=>bFL (bEL fun U A=>bEL fun V B=>bEL fun u D=>lfL (fun z=>zm [0,1,2,3,4,5,6,7,8,9,10,11,12,13,14,15,16,17,18,19] [14] [[],[0],[0,1],[0,1,2],[0,1,2,3],[0,1,2,3,4],[0,1,2,3,4,5],[],[7],[7,8],[7,8,9],[7,8,9,10],[7,8,9,10,11],[7,8,9,10,11,12],[0,1,2,3,4,5,6,7,8,9,10,11,12,13],[0,1,2,3,4,5,6,7,8,9,10,11,12,13,14],[0,1,2,3,4,5,6,7,8,9,10,11,12,13,14,15],[0,1,2,3,4,5,6,7,8,9,10,11,12,13,14,15],[0,1,2,3,4,5,6,7,8,9,10,11,12,13,14,15,16],[0,1,2,3,4,5,6,7,8,9,10,11,12,13,14,15,16,17,18]] [] [(0,qs a0),(2,qp 0),(6,qp 1),(7,qp 2),(8,qi u.1),(9,qi u.2)] ⟨[[qi 0,qs [],qi 0,qn,qb false,qb false,qb false,qn,qi 0,qb false,qn],zh.cells l,[qi 0,qs [],qi 0,qn,qb false,qb false,qb false,qn,qi 0,qb false,qn]],[]⟩ (dS (zv 0 4)<|dP (yN A)<|dS (zv 5 6)<|dP (yN B)<|dS [12,13]<|dC (zr 11 (yN B) (zr 4 (yN A) yb)) Ab (ZM D)<|dS (zv 15 5)<|dE ⟨[0,2,3],4,[],0⟩) z)<|bEL fun E hE=>BW hE zn ⟨228,[(0,qs a0),(2,qp 0),(6,qp 1),(7,qp 2)]⟩ ⟨[[qi 0,qs [],qi 0,qn,qb false,qb false,qb false,qn,qi 0,qb false,qn],[ql 3 za.cells l.f_l,qi 1,qb E],[qi u.1,qs [],qi 0,qn,qb false,qb false,qb false,qn,qi 0,qb false,qn]],[]⟩ (gFL 8 72 (eJ Ad)<|eJ Ad)<|jnL Ad)<|jnL ⟨[0,2,3],4,[],0⟩) fun a=>bC 1 Af xu fun m=>rgL<|cuL (fun b=>⟨228,[(0,qs a0),(2,qp 0),(6,qp 1),(7,qp 2)]⟩) (fun b=>⟨[[qi 0,qs [],qi 0,qn,qb false,qb false,qb false,qn,qi 0,qb false,qn],[ql 3 za.cells m.2.2.f_l,qi m.2.2.bI,qb b.1],[qi a.2.2,qs b.2,qi 0,qn,qb false,qb false,qb false,qn,qi 0,qb false,qn]],[]⟩) (fun b=>bFL (bC 2 Ab uW fun F=>bEL fun G hE=>BW hE zn ⟨228,[(0,qs a0),(2,qp 0),(6,qp 1),(7,qp 2)]⟩ ⟨[[qi 0,qs [],qi 0,qn,qb false,qb false,qb false,qn,qi 0,qb false,qn],[ql 3 za.cells m.2.2.f_l,qi m.2.2.bI,qb G],[qi a.2.2,qs F.1,qi 0,qn,qb false,qb false,qb false,qn,qi 0,qb false,qn]],[]⟩ (gFL 7 99 (eJ Ac)<|eJ Ac)<|jnL Ad)<|jnL Ac) fun b=>bC 1 Af xu fun o=>rgL<|cuL (fun d=>⟨228,[(0,qs a0),(2,qp 0),(6,qp 1),(7,qp 2)]⟩) (fun d=>⟨[[qi 0,qs [],qi 0,qn,qb false,qb false,qb false,qn,qi 0,qb false,qn],[ql 3 za.cells o.2.2.f_l,qi o.2.2.bI,qb d.1],[qi a.2.2,qs b.2,qi d.2,qn,qb false,qb false,qb false,qn,qi 0,qb false,qn]],[]⟩) (fun d=>bFL (bC 2 Ab XA fun H=>bEL fun I hE=>BW hE zn ⟨228,[(0,qs a0),(2,qp 0),(6,qp 1),(7,qp 2)]⟩ ⟨[[qi 0,qs [],qi 0,qn,qb false,qb false,qb false,qn,qi 0,qb false,qn],[ql 3 za.cells o.2.2.f_l,qi o.2.2.bI,qb I],[qi a.2.2,qs b.2,qi H.1,qn,qb false,qb false,qb false,qn,qi 0,qb false,qn]],[]⟩ (gFL 7 124 (eJ Ac)<|eJ Ac)<|jnL Ad)<|jnL Ac) fun d=>bC 1 Af xu fun W=>rgL<|cuL (fun c=>⟨228,[(0,qs a0),(2,qp 0),(6,qp 1),(7,qp 2)]⟩) (fun c=>⟨[[qi 0,qs [],qi 0,qn,qb false,qb false,qb false,qn,qi 0,qb false,qn],[ql 3 za.cells c.1,qi c.2.1,qb c.2.2.1],[qi a.2.2,qs b.2,qi d.2,ql 1 cS c.2.2.2,qb false,qb false,qb false,qn,qi 0,qb false,qn]],[]⟩) (fun c=>bFL (bEL fun X J=>wO zn (kCL 2 ⟨[1],4,[],0⟩ (km J) edL)<|jnL Ac)<|jnL Ac) fun c=>bEL fun g K=>bEL fun i L=>bEL fun j M=>rCL (kCL 1 Af (uz K)<|kCL 3 Af (uz L)<|kCL 5 Af (uz M) edL)<|bC 1 Af xu fun s=>rgL<|cuL (fun e=>⟨228,[(0,qs a0),(2,qp 0),(6,qp 1),(7,qp 2)]⟩) (fun e=>⟨[[qi 0,qs [],qi 0,qn,qb false,qb false,qb false,qn,qi 0,qb false,qn],[ql 3 za.cells s.2.2.f_l,qi s.2.2.bI,qb e.1],[qi a.2.2,qs b.2,qi d.2,ql 1 cS c.2.2.2,qb g.1,qb i.1,qb j.1,ql 3 zd.cells e.2,qi 0,qb false,qn]],[]⟩) (fun e=>bFL (bC 2 Ab ZQ fun N=>bEL fun O hE=>BW hE zn ⟨228,[(0,qs a0),(2,qp 0),(6,qp 1),(7,qp 2)]⟩ ⟨[[qi 0,qs [],qi 0,qn,qb false,qb false,qb false,qn,qi 0,qb false,qn],[ql 3 za.cells s.2.2.f_l,qi s.2.2.bI,qb O],[qi a.2.2,qs b.2,qi d.2,ql 1 cS c.2.2.2,qb g.1,qb i.1,qb j.1,ql 3 zd.cells N.1,qi 0,qb false,qn]],[]⟩ (gFL 7 168 (eJ Ac)<|eJ Ac)<|jnL Ad)<|jnL Ac) fun e=>bC 1 Af wu fun v=>bC 1 Af uz fun w=>bC 1 Af xu fun C=>rgL<|cuL (fun f=>⟨228,[(0,qs a0),(2,qp 0),(6,qp 1),(7,qp 2)]⟩) (fun f=>⟨[[qi 0,qs [],qi 0,qn,qb false,qb false,qb false,qn,qi 0,qb false,qn],[ql 3 za.cells f.1,qi f.2.1,qb f.2.2.1],[qi a.2.2,qs b.2,qi d.2,ql 1 cS c.2.2.2,qb g.1,qb i.1,qb j.1,ql 3 zd.cells e.2,qi v.1,qb w.1,ql 4 zj.cells f.2.2.2]],[]⟩) (fun f=>bFL (bC 2 Ab jc fun P=>bEL fun Q hE=>rgF hE ⟨228,[(0,qs a0),(2,qp 0),(6,qp 1),(7,qp 2),(26,ql 3 za.cells P.1)]⟩ ⟨[[qi 0,qs [],qi 0,qn,qb false,qb false,qb false,qn,qi 0,qb false,qn],[ql 3 za.cells C.2.2.f_l,qi C.2.2.bI,qb Q],[qi a.2.2,qs b.2,qi d.2,ql 1 cS c.2.2.2,qb g.1,qb i.1,qb j.1,ql 3 zd.cells e.2,qi v.1,qb w.1,qn]],[]⟩ (gFL 6 198 (eJ Ac)<|eJ Ac)<|bEL fun Y R=>wO zn (kCL 2 Af (kU R) edL)<|jnL Ad)<|jnL Ac) fun f=>bC 1 A7 ZJ fun Z=>bEL fun S hE=>rgF hE ⟨228,[(2,qp 0),(7,qp 1),(225,qb S)]⟩ ⟨[[qi 0,qs [],qi 0,qn,qb false,qb false,qb false,qn,qi 0,qb false,qn],[qi a.2.2,qs b.2,qi d.2,ql 1 cS c.2.2.2,qb g.1,qb i.1,qb j.1,ql 3 zd.cells e.2,qi v.1,qb w.1,ql 4 zj.cells f.2.2.2]],[]⟩ (gFL 5 217 (eJ Aj)<|gFL 9 221 (eJ Aj)<|eJ Aj)<|bFL (rgL<|rKL A4)<|rgL<|rKL A4
def ua (n:Nat)(a0 a1:List Cd):Nat→Int→Option (Ctl Bool Unit)
 |0,_=>none
 | k+1,a=>
  if decide (a<(a0.length:Int))then((zV a0 a).bind fun b=>
  (zV a1 a).bind fun c=>
  if !(b==c)then(some (.ret false))else(ua n a0 a1 k (wrap .i64 (a+1))))else(some (.nxt ()))
def uj (n:Nat)(a0 a1:List Cd):Option Bool:=
 if(a0.length:Int) !=(a1.length:Int)then(some false)else(z8 (ua n a0 a1 n 0) (fun r=>some r) (fun a=>
 some true))
theorem pt {n a0 a1 r}:uj n a0 a1=some r→AC mx 84 [ql 1 cS a0,ql 1 cS a1] [] (qb r) []:=
 fnL Tryz.func84 rfl<|rgL<|rCL (kPL 1 (uu a0)<|kPL 3 (uu a1) edL)<|bFL (rgL<|rKL A1)<|rgL<|bcL (fun _=>⟨26,[]⟩) (fun _=>⟨[],[]⟩) (fun g b=>lpL (fun k x=>ua n a0 a1 k x) 0 A1 (fun x=>⟨26,[(0,ql 1 cS a0),(1,ql 1 cS a1),(5,qi x)]⟩) (fun x=>⟨[],[]⟩) fun k a=>by rw [ua]; exact cP 2 (uu a0)<|bFL (zp<|bEL fun c d=>bEL fun e f=>lfL (fun z=>zs [0,1,2,3,4,5,6,7,8] [] [[],[],[0,1],[0,1,2],[],[],[4,5],[4,5,6],[0,1,2,3,4,5,6,7]] [0,1] [(5,qi a),(25,qb (!(c==e)))] (dS [0,1]<|dP (vq d)<|dS [3,4,5]<|dP (vq f)<|dS [7,8]<|dE A1) z)<|bFL (rgL<|hKL b<|rJ A1)<|zq<|yl zn fun h=>⟨wrap .i64 (a+1),h,wk A1⟩)<|xjL<|jCL A1) fun i=>rgL<|rKL A1
def wK (n:Nat)(b:List zb)(a:zb):Nat→Bool→Int→Option Bool
 |0,_,_=>none
 | k+1,e,c=>
  if decide (c<(b.length:Int))then((zV b c).bind fun d=>
  (if e then(some true)else(some (a.wi==d.wi&&(a.zG==d.zG&&(a.vA==d.vA&&true))))).bind fun f=>
  wK n b a k f (wrap .i64 (c+1)))else(some e)
def xi (n:Nat)(a:List zb)(a1:zC)(c:Int):Nat→Int→Option (Ctl Bool Unit)
 |0,_=>none
 | k+1,b=>
  if decide (b<(a.length:Int))then((zV a b).bind fun d=>
  (zV a1.zg c).bind fun e=>
  (wK n e d n false 0).bind fun f=>
  if !f then(some (.ret false))else(xi n a a1 c k (wrap .i64 (b+1))))else(some (.nxt ()))
def xl (n:Nat)(a0 a1:zC):Nat→Int→Option (Ctl Bool Unit)
 |0,_=>none
 | k+1,a=>
  if decide (a<(a0.zg.length:Int))then((zV a0.zg a).bind fun b=>
  (zV a1.zg a).bind fun c=>
  if(b.length:Int) !=(c.length:Int)then(some (.ret false))else((zV a0.zg a).bind fun d=>
  z8 (xi n d a1 a n 0) (fun r=>some (.ret r)) (fun e=>
  xl n a0 a1 k (wrap .i64 (a+1)))))else(some (.nxt ()))
def xo (n:Nat)(a0 a1:zC):Option Bool:=
 if(a0.zg.length:Int) !=(a1.zg.length:Int)then(some false)else(z8 (xl n a0 a1 n 0) (fun r=>some r) (fun a=>
 some true))
theorem g9 {n a0 a1 r}:xo n a0 a1=some r→AC mx 108 [.agg [ql 1 (cL 3 zb.cells) a0.zg], .agg [ql 1 (cL 3 zb.cells) a1.zg]] [] (qb r) []:=
 fnL Tryz.func108 rfl<|rgL<|rCL (kPL 2 (bQ a0.zg)<|kPL 5 (bQ a1.zg) edL)<|bFL (rgL<|rKL A4)<|cP 2 (bQ a0.zg)<|bcL (fun _=>⟨68,[]⟩) (fun _=>⟨[],[]⟩) (fun A g=>lpL (fun k x=>xl n a0 a1 k x) 0 A5 (fun x=>⟨68,[(2,qp 0),(3,qp 1),(20,qi (a0.zg.length)),(21,qi x)]⟩) (fun x=>⟨[[ql 1 (cL 3 zb.cells) a0.zg],[ql 1 (cL 3 zb.cells) a1.zg]],[]⟩) fun k a=>by rw [xl]; exact rgL<|bFL (zp<|rgL<|bEL fun i o=>bEL fun j s=>lfL (fun z=>zs [0,1,2,3,4,5,6,7,8,9,10,11,12] [] [[],[0],[],[0,1,2],[0,1,2,3],[0,1,2,3,4],[],[6],[],[6,7,8],[6,7,8,9],[6,7,8,9,10],[0,1,2,3,4,5,6,7,8,9,10,11]] [5,20,21] [(2,qp 0),(3,qp 1),(36,qb ((i.length:Int) !=(j.length:Int)))] (dS [0,1,2]<|dP (p7 o)<|dS [4]<|dP (gH i)<|dS [6,7,8]<|dP (p7 s)<|dS [10]<|dP (gH j)<|dS [12]<|dE A5) z)<|bFL (rgL<|hKL g<|rJ A4)<|bEL fun b u=>rCL (kPL 3 (p7 u)<|kPL 5 (gH b) edL)<|nV zS (fun _=>⟨68,[(2,qp 0),(3,qp 1),(20,qi (a0.zg.length)),(21,qi a)]⟩) (fun _=>⟨[[ql 1 (cL 3 zb.cells) a0.zg],[ql 1 (cL 3 zb.cells) a1.zg]],[]⟩) (fun B v=>lpL (fun k x=>xi n b a1 a k x) 0 A5 (fun x=>⟨68,[(2,qp 0),(3,qp 1),(5,qi a),(20,qi (a0.zg.length)),(21,qi a),(41,ql 3 zb.cells b),(42,qi (b.length)),(43,qi x)]⟩) (fun x=>⟨[[ql 1 (cL 3 zb.cells) a0.zg],[ql 1 (cL 3 zb.cells) a1.zg]],[]⟩) fun k d=>by rw [xi]; exact rgL<|bFL (zp<|bP 0 pY fun f=>rgL<|bEL fun c w=>rCL (kPL 3 (p7 w)<|kPL 5 (gH c) edL)<|blL (fun e=>⟨68,[(2,qp 0),(3,qp 1),(5,qi a),(8,qb e),(20,qi (a0.zg.length)),(21,qi a),(41,ql 3 zb.cells b),(42,qi (b.length)),(43,qi d)]⟩) (fun e=>⟨[[ql 1 (cL 3 zb.cells) a0.zg],[ql 1 (cL 3 zb.cells) a1.zg]],[]⟩) (fun e=>lpL (fun k x=>wK n c f k x.1 x.2) (false,0) Ad (fun x=>⟨68,[(2,qp 0),(3,qp 1),(5,qi a),(7,qp 2),(8,qb x.1),(20,qi (a0.zg.length)),(21,qi a),(41,ql 3 zb.cells b),(42,qi (b.length)),(43,qi d),(51,ql 3 zb.cells c),(52,qi (c.length)),(53,qi x.2)]⟩) (fun x=>⟨[[ql 1 (cL 3 zb.cells) a0.zg],[ql 1 (cL 3 zb.cells) a1.zg],zb.cells f],[]⟩) fun k x=>by obtain⟨C,l⟩:=x; rw [wK]; exact rgL<|bFL (zp<|bP 0 pY fun D=>bEL fun m hE=>BW hE zS ⟨68,[(2,qp 0),(3,qp 1),(5,qi a),(7,qp 2),(8,qb m),(20,qi (a0.zg.length)),(21,qi a),(41,ql 3 zb.cells b),(42,qi (b.length)),(43,qi d),(51,ql 3 zb.cells c),(52,qi (c.length)),(53,qi l)]⟩ ⟨[[ql 1 (cL 3 zb.cells) a0.zg],[ql 1 (cL 3 zb.cells) a1.zg],zb.cells f],[]⟩ (gFL 2 58 (eJ Ac)<|eJ Ac)<|zq<|yl zn fun h=>⟨(m,wrap .i64 (l+1)),h,wk Ad⟩)<|xjL<|jnL ⟨[0,1],3,[],0⟩) fun e=>rgL<|bFL (rgL<|hKL v<|yO<|wx<|hvL g<|yi<|rJ A4)<|zq<|yl zn fun h=>⟨wrap .i64 (d+1),h,wk A5⟩)<|xjL<|jCL A5) fun E=>zq<|yl zn fun h=>⟨wrap .i64 (a+1),h,wk A5⟩)<|xjL<|jCL A4) fun F=>rgL<|rKL A1
def xK (n:Nat)(a0 a1:List zd):Nat→Int→Option (Ctl Bool Unit)
 |0,_=>none
 | k+1,a=>
  if decide (a<(a0.length:Int))then(((zV a0 a).bind fun b=>
  (zV a1 a).bind fun c=>
  if b.zG !=c.zG then(some true)else((zV a0 a).bind fun d=>
  (zV a1 a).bind fun e=>
  if !(d.yy==e.yy)then(some true)else((zV a0 a).bind fun f=>
  (zV a1 a).bind fun g=>
  (xo n (zC.mk f.zo.zg) (zC.mk g.zo.zg)).bind fun i=>
  some (!i)))).bind fun j=>
  if j then(some (.ret false))else(xK n a0 a1 k (wrap .i64 (a+1))))else(some (.nxt ()))
def uX (n:Nat)(a0 a1:List zd):Option Bool:=
 if(a0.length:Int) !=(a1.length:Int)then(some false)else(z8 (xK n a0 a1 n 0) (fun r=>some r) (fun a=>
 some true))
theorem Zl {n a0 a1 r}:uX n a0 a1=some r→AC mx 85 [ql 3 zd.cells a0,ql 3 zd.cells a1] [] (qb r) []:=
 fnL Tryz.func85 rfl<|rgL<|rCL (kPL 1 (bA a0)<|kPL 3 (bA a1) edL)<|bFL (rgL<|rKL A1)<|cP 1 (bA a0)<|bcL (fun _=>⟨55,[]⟩) (fun _=>⟨[],[]⟩) (fun m i=>lpL (fun k x=>xK n a0 a1 k x) 0 A1 (fun x=>⟨55,[(0,ql 3 zd.cells a0),(1,ql 3 zd.cells a1),(12,qi (a0.length)),(13,qi x)]⟩) (fun x=>⟨[],[]⟩) fun k e=>by rw [xK]; exact rgL<|bFL (zp<|rgL<|bEL fun j hE=>lfL (fun z=>drw [0,1,2,3,4,5,6,7,8,9,10,11,12,13,14,15,16,17,18,19,20,21,22,23,24,25,26,27,28,29,30,31,32,33,34,35,36,37] [35] [[],[],[0,1],[0,1,2],zv 0 4,[],[],[5,6],[5,6,7],zv 5 4,zv 0 10,zv 0 11,zv 0 12,zv 0 12,zv 0 14,zv 0 15,zv 0 16,zv 0 12,zv 0 12,zv 0 12 ++ [17,18],zv 0 12 ++ [17,18,19],zv 0 12++zv 17 4,zv 0 22,zv 0 23,zv 0 24,zv 0 25,zv 0 25,zv 0 27,zv 0 28,zv 0 29,zv 0 25,zv 0 25,zv 0 25 ++ [30,31],zv 0 25 ++ [30,31,32],zv 0 25++zv 30 4,zv 0 35,zv 0 36,zv 0 37] ⟨55,[(0,ql 3 zd.cells a0),(1,ql 3 zd.cells a1),(12,qi (a0.length)),(13,qi e),(53,qb j)]⟩ ⟨[],[]⟩ (have h:=hE; bE h fun o a h=>bE h fun s b h=>dS [0,1]<|dP (vG a)<|dS (zv 3 4)<|dP (vG b)<|dS (zv 8 4)<|hF 27 h (fun h=>dS (zv 12 23)<|dF (zr 7 (vG b) (zr 2 (vG a) yb))<|dS [36,37]<|by cases h; exact dE A1) fun h=>bE h fun u c h=>bE h fun v d h=>dS [12,13]<|dP (vG c)<|dS (zv 15 4)<|dP (vG d)<|dS (zv 20 5)<|hF 40 h (fun h=>dS (zv 25 10)<|dF (zr 19 (vG d) (zr 14 (vG c) (zr 7 (vG b) (zr 2 (vG a) yb))))<|dS [36,37]<|by cases h; exact dE A1) fun h=>bE h fun w f h=>bE h fun A g h=>bE h fun B l h=>dS [25,26]<|dP (vG f)<|dS (zv 28 4)<|dP (vG g)<|dS [33,34]<|dC (zr 32 (vG g) (zr 27 (vG f) (zr 19 (vG d) (zr 14 (vG c) (zr 7 (vG b) (zr 2 (vG a) yb)))))) A1 (g9 l)<|dS [36,37]<|by cases h; exact dE A1) z)<|bFL (rgL<|hKL i<|rJ A1)<|zq<|yl zn fun h=>⟨wrap .i64 (e+1),h,wk A1⟩)<|xjL<|jCL A1) fun C=>rgL<|rKL A1
def yJ (n:Nat)(a0 a1:List zj):Nat→Int→Option (Ctl Bool Unit)
 |0,_=>none
 | k+1,a=>
  if decide (a<(a0.length:Int))then(((zV a0 a).bind fun b=>
  (zV a1 a).bind fun c=>
  if !(b.zK.zy==c.zK.zy&&(b.zK.wL==c.zK.wL&&(b.zK.zY==c.zK.zY&&true)))then(some true)else((zV a0 a).bind fun d=>
  (zV a1 a).bind fun e=>
  (xo n (zC.mk d.zo.zg) (zC.mk e.zo.zg)).bind fun f=>
  some (!f))).bind fun g=>
  if g then(some (.ret false))else(yJ n a0 a1 k (wrap .i64 (a+1))))else(some (.nxt ()))
def xM (n:Nat)(a0 a1:List zj):Option Bool:=
 if(a0.length:Int) !=(a1.length:Int)then(some false)else(z8 (yJ n a0 a1 n 0) (fun r=>some r) (fun a=>
 some true))
theorem gg {n a0 a1 r}:xM n a0 a1=some r→AC mx 39 [ql 4 zj.cells a0,ql 4 zj.cells a1] [] (qb r) []:=
 fnL Tryz.func39 rfl<|rgL<|rCL (kPL 1 (qO a0)<|kPL 3 (qO a1) edL)<|bFL (rgL<|rKL A1)<|rgL<|bcL (fun _=>⟨42,[]⟩) (fun _=>⟨[],[]⟩) (fun j f=>lpL (fun k x=>yJ n a0 a1 k x) 0 A1 (fun x=>⟨42,[(0,ql 4 zj.cells a0),(1,ql 4 zj.cells a1),(5,qi x)]⟩) (fun x=>⟨[],[]⟩) fun k c=>by rw [yJ]; exact cP 2 (qO a0)<|bFL (zp<|bEL fun g hE=>lfL (fun z=>drw [0,1,2,3,4,5,6,7,8,9,10,11,12,13,14,15,16,17,18,19,20,21,22,23,24] [22] [[],[],[0,1],[0,1,2],zv 0 4,[],[],[5,6],[5,6,7],zv 5 4,zv 0 10,zv 0 11,zv 0 12,zv 0 12,zv 0 14,zv 0 15,zv 0 16,zv 0 12,zv 0 12,zv 0 12 ++ [17,18],zv 0 12 ++ [17,18,19],zv 0 12++zv 17 4,zv 0 22,zv 0 23,zv 0 24] ⟨42,[(0,ql 4 zj.cells a0),(1,ql 4 zj.cells a1),(5,qi c),(41,qb g)]⟩ ⟨[],[]⟩ (have h:=hE; bE h fun l a h=>bE h fun m b h=>dS [0,1]<|dP (u6 a)<|dS (zv 3 4)<|dP (u6 b)<|dS (zv 8 4)<|hF 28 h (fun h=>dS (zv 12 10)<|dF (zr 7 (u6 b) (zr 2 (u6 a) yb))<|dS [23,24]<|by cases h; exact dE A1) fun h=>bE h fun o d h=>bE h fun s e h=>bE h fun u i h=>dS [12,13]<|dP (u6 d)<|dS (zv 15 4)<|dP (u6 e)<|dS [20,21]<|dC (zr 19 (u6 e) (zr 14 (u6 d) (zr 7 (u6 b) (zr 2 (u6 a) yb)))) A1 (g9 i)<|dS [23,24]<|by cases h; exact dE A1) z)<|bFL (rgL<|hKL f<|rJ A1)<|zq<|yl zn fun h=>⟨wrap .i64 (c+1),h,wk A1⟩)<|xjL<|jCL A1) fun v=>rgL<|rKL A1
def vl (n:Nat)(a0 a1:zz):Option Bool:=
 (if a0.uB==a1.uB then(if a0.zB==a1.zB then(if a0.yk==a1.yk then((uj n a0.ze a1.ze).bind fun a=>
 if a then(if a0.wr==a1.wr then(if a0.xI==a1.xI then(if a0.jy==a1.jy then((uX n a0.zw a1.zw).bind fun b=>
 if b then(if a0.yj==a1.yj then(if a0.uA==a1.uA then((xM n a0.zf a1.zf).bind fun c=>
 some c)else(some false))else(some false))else(some false))else(some false))else(some false))else(some false))else(some false))else(some false))else(some false))else(some false)).bind fun d=>
 some d
theorem Yc {n a0 a1 r}:vl n a0 a1=some r→AC mx 20 [.agg (zz.cells a0), .agg (zz.cells a1)] [] (qb r) []:=
 fnL Tryz.func20 rfl<|rgL<|bEL fun a hE=>rgF hE ⟨80,[(4,qb a)]⟩ ⟨[],[]⟩ (gFL 6 10 (gFL 13 17 (gFL 20 24 (bEL fun e b=>kCL 24 A4 (pt b)<|gFL 27 31 (gFL 34 38 (gFL 41 45 (gFL 48 52 (bEL fun f c=>kCL 52 A4 (Zl c)<|gFL 55 59 (gFL 62 66 (gFL 69 73 (bEL fun g d=>kCL 73 A4 (gg d)<|eJ A4)<|eJ A4)<|eJ A4)<|eJ A4)<|eJ A4)<|eJ A4)<|eJ A4)<|eJ A4)<|eJ A4)<|eJ A4)<|eJ A4)<|rKL A1
def uc (n:Nat)(a0:List zj):Nat→Int→Option (Ctl (Cd×Int) Unit)
 |0,_=>none
 | k+1,b=>
  if decide (b<(a0.length:Int))then((zV a0 b).bind fun a=>
  (jE n (zC.mk a.zo.zg)).bind fun c=>
  if c !=0 then(some (.ret (([]:Cd),c)))else(if(a.zo.zg.length:Int)==0 then(some (.ret (([]:Cd),14)))else((bU n (zF.mk a.zK.zy a.zK.wL a.zK.zY)).bind fun d=>
  if d.2 !=0 then(some (.ret (([]:Cd),d.2)))else(uc n a0 k (wrap .i64 (b+1))))))else(some (.nxt ()))
def vY (n:Nat)(a0:List zj):Nat→Int→Cd→Int→Option (Cd×Int)
 |0,_,_,_=>none
 | k+1,b,c,d=>
  if decide (b<(a0.length:Int))then((zV a0 b).bind fun a=>
  (uk n (zj.mk (zC.mk a.zo.zg) (zF.mk a.zK.zy a.zK.wL a.zK.zY)) (zk.mk c d)).bind fun e=>
  vY n a0 k (wrap .i64 (b+1)) e.f_b e.f_e)else(some (c,d))
def jX (n:Nat)(a0:List zj):Option (Cd×Int):=
 if decide ((a0.length:Int)>64)then(some (([]:Cd),2))else(z8 (uc n a0 n 0) (fun r=>some r) (fun c=>
 (vY n a0 n 0 ([]:Cd) 0).bind fun a=>
 (xE n (zk.mk a.1 a.2)).bind fun b=>
 some (b.1,b.2.1)))
theorem po {n a0 r}:jX n a0=some r→AC mx 35 [ql 4 zj.cells a0] [] (.tuple [qs r.1,qi r.2]) []:=
 fnL Tryz.func35 rfl<|rgL<|cP 1 (qO a0)<|bFL (rgL<|rKL A1)<|cP 1 (qO a0)<|bcL (fun _=>⟨54,[(0,ql 4 zj.cells a0)]⟩) (fun _=>⟨[],[]⟩) (fun i b=>lpL (fun k x=>uc n a0 k x) 0 A1 (fun x=>⟨54,[(0,ql 4 zj.cells a0),(15,ql 4 zj.cells a0),(16,qi (a0.length)),(17,qi x)]⟩) (fun x=>⟨[],[]⟩) fun k d=>by rw [uc]; exact rgL<|bFL (zp<|bP 0 u6 fun e=>bC 2 A2 bJ fun j=>rgL<|bFL (rgL<|hKL b<|rJ A2)<|cP 3 (bQ e.zo.zg)<|bFL (rgL<|hKL b<|rJ A2)<|bC 2 A2 Yh fun l=>rgL<|bFL (rgL<|hKL b<|rJ A2)<|zq<|yl zn fun h=>⟨wrap .i64 (d+1),h,wk A2⟩)<|xjL<|jCL A1) fun m=>rgL<|cP 1 (qO a0)<|blL (fun a=>⟨54,[(9,qp 0)]⟩) (fun a=>⟨[[qs a.1,qi a.2]],[]⟩) (fun a=>lpL (fun k x=>vY n a0 k x.1 x.2.1 x.2.2) (0,([]:Cd),0) A3 (fun x=>⟨54,[(9,qp 0),(42,ql 4 zj.cells a0),(43,qi (a0.length)),(44,qi x.1)]⟩) (fun x=>⟨[[qs x.2.1,qi x.2.2]],[]⟩) fun k x=>by obtain⟨f,o,s⟩:=x; rw [vY]; exact rgL<|bFL (zp<|bP 0 u6 fun u=>bEL fun c g=>wO zS (kCL 1 A8 (pn g) edL)<|zq<|yl zn fun h=>⟨(wrap .i64 (f+1),c.f_b,c.f_e),h,wk A8⟩)<|xjL<|jnL A3) fun a=>bC 0 A3 qK fun v=>rKL A2
def jY (n:Nat)(a0:Int):Option Bool:=
 (if decide (a0≥0)then(some (decide (a0<64)))else(some false)).bind fun a=>
 some a
theorem pw {n a0 r}:jY n a0=some r→AC mx 87 [qi a0] [] (qb r) []:=
 fnL Tryz.func87 rfl<|rgL<|bEL fun a hE=>rgF hE ⟨9,[(2,qb a)]⟩ ⟨[],[]⟩ (gFL 3 5 (eJ A1)<|eJ A1)<|rKL A1
def YC (n:Nat)(m0:zk):Option zk:=
 some m0
theorem U0 {n m0 r}:YC n m0=some r→AC mx 90 [qp 0] [zk.cells m0] (.func (.func 52) [qp 0] []) [zk.cells r]:=
 fnL Tryz.func90 rfl<|rgL<|rgL<|rKL A3
end Go.Abs
end
