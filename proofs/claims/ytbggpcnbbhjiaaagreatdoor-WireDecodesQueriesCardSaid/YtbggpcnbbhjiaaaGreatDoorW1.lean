/- For each Go function: if its typed Lean form gives some result, the call returns that result (printed by a program of this hand). Condition: the typed form gives some result. -/
import Derived.Test.YtbggpcnbbhjiaaaGreatDoorT3
set_option linter.unusedVariables false
set_option linter.unusedSimpArgs false
set_option linter.unnecessarySimpa false
section
set_option maxRecDepth 100000
set_option maxHeartbeats 0
namespace Go.Abs
open Go Go.Proofs IntKind
abbrev A1:Ren:=⟨[],0,[],0⟩
abbrev A2:Ren:=⟨[],1,[],0⟩
abbrev A3:Ren:=⟨[0],1,[],0⟩
abbrev A4:Ren:=⟨[],2,[],0⟩
abbrev A5:Ren:=⟨[0,1],2,[],0⟩
abbrev A6:Ren:=⟨[],0,[0],1⟩
abbrev A7:Ren:=⟨[0],2,[],0⟩
abbrev A8:Ren:=⟨[],3,[],0⟩
abbrev A9:Ren:=⟨[1],2,[],0⟩
abbrev Aa:Ren:=⟨[],0,[],1⟩
abbrev Ab:Ren:=⟨[0],3,[],0⟩
abbrev Ac:Ren:=⟨[0,1,2],3,[],0⟩
abbrev Ad:Ren:=⟨[0,1,2],4,[],0⟩
abbrev Ae:Ren:=⟨[],4,[],0⟩
abbrev Af:Ren:=⟨[0,1,2],3,[0],1⟩
abbrev Ag:Ren:=⟨[0],3,[],1⟩
abbrev Ah:Ren:=⟨[1],3,[],0⟩
abbrev Ai:Ren:=⟨[0],1,[0],1⟩
abbrev Aj:Ren:=⟨[],1,[],1⟩
abbrev Ak:Ren:=⟨[],5,[],0⟩
abbrev Al:Ren:=⟨[],3,[],1⟩
abbrev Am:Ren:=⟨[0,1,2],3,[0,1],2⟩
abbrev An:Ren:=⟨[0],3,[],2⟩
abbrev Ao:Ren:=⟨[],2,[],1⟩
abbrev Ap:Ren:=⟨[0,1],2,[0],1⟩
abbrev Aq:Ren:=⟨[0,2],3,[],0⟩
abbrev Ar:Ren:=⟨[0],4,[],0⟩
abbrev As:Ren:=⟨[0,1],3,[],0⟩
abbrev Au:Ren:=⟨[0,1,2],3,[0],2⟩
abbrev Av:Ren:=⟨[0,1,2],3,[1],2⟩
abbrev Aw:Ren:=⟨[2],3,[],0⟩
abbrev Ax:Ren:=⟨[0],1,[],1⟩
abbrev Ay:Ren:=⟨[3],4,[],0⟩
abbrev Az:Ren:=⟨[1,2],3,[],0⟩
abbrev C1:Ren:=⟨[0,1,4],5,[],0⟩
abbrev C3:Ren:=⟨[0],2,[0],1⟩
abbrev C4:Ren:=⟨[],4,[],1⟩
abbrev C5:Ren:=⟨[0],4,[],1⟩
abbrev C6:Ren:=⟨[],6,[],0⟩
abbrev C7:Ren:=⟨[0,1,2],5,[0],1⟩
abbrev C8:Ren:=⟨[0,2,3],4,[0],1⟩
abbrev C9:Ren:=⟨[0,1,2,3],4,[0],1⟩
abbrev Ca:Ren:=⟨[0,1],2,[0,1,2],3⟩
abbrev Cb:Ren:=⟨[],2,[],3⟩
abbrev Cc:Ren:=⟨[],3,[],2⟩
abbrev Cd:Ren:=⟨[0],3,[0],1⟩
abbrev Ce:Ren:=⟨[],1,[0],1⟩
abbrev Cf:Ren:=⟨[1],2,[],1⟩
abbrev Cg:Ren:=⟨[],2,[0],1⟩
abbrev Ch:Ren:=⟨[0,1,3,4],5,[0],1⟩
abbrev Ci:Ren:=⟨[],0,[],2⟩
abbrev Cj:Ren:=⟨[1,2,3,5],6,[],0⟩
abbrev Ck:Ren:=⟨[],5,[],1⟩
abbrev Cm:Ren:=⟨[0,1,2,3],4,[0,1],2⟩
abbrev Cn:=List UInt8
section
variable {gl:Nat→List V} {ops:Array Oper} {K K2:AFr→St→Prop} {s0:St} {c:Code} {cs:List Code} {AQ:Exit→AFr→St→Prop} {id id':Nat} {fr:AFr} {st:St} {p:Prop} {α β:Type} {e:Option α} {g:α→Option β} {u:β}
noncomputable abbrev KJ (ops:Array Oper) (gl:Nat→List V) (fr:AFr) (st:St) (k:Nat) (R:Ren) (r:V) (st2:St):Cfg:=gn (qy tyT gl ops 0 k (fr,st)) (xC ops k) (V.ren R r) (fun st=>St.after R st st2)
noncomputable abbrev Kn (ops:Array Oper) (gl:Nat→List V) (fr:AFr) (st:St) (k:Nat) (v:V):Cfg:=Wz (qy tyT gl ops 0 k (fr,st)) (xC ops k) v
theorem cC (k:Nat) (R:Ren) {f:FuncId} {args1:List V} {st1 st2:St} {r:V} (hc:uQ Tryz.prog gl f args1 st1 (Out r st2)) (h2:Im p (zw Tryz.prog gl s0 (c::cs) AQ (Y0 tyT gl ops (k+1) (KJ ops gl fr st k R r st2)).1 (Y0 tyT gl ops (k+1) (KJ ops gl fr st k R r st2)).2)) (hb:goB tyT gl ops 0 k (fr,st) R f args1 st1=true:=by kernel_rfl) (he:Bc R st1 args1=goR tyT gl ops 0 k (fr,st) R args1 st1:=by kernel_rfl) (hn:Us tyT gl ops (k+1) (KJ ops gl fr st k R r st2)=true:=by kernel_rfl):Im p (zw Tryz.prog gl s0 (.region id ops false::c::cs) AQ fr st):=rCL (kCL k R hc (edL hn) hb he) h2
theorem bC (k:Nat) (R:Ren) {f:FuncId} {args1:List V} {st1:St} {st2:α→St} {r:α→V} (hc:∀ {a},e=some a→uQ Tryz.prog gl f args1 st1 (Out (r a) (st2 a))) (h2:∀a,Im (g a=some u) (zw Tryz.prog gl s0 (c::cs) AQ (Y0 tyT gl ops (k+1) (KJ ops gl fr st k R (r a) (st2 a))).1 (Y0 tyT gl ops (k+1) (KJ ops gl fr st k R (r a) (st2 a))).2)) (hb:goB tyT gl ops 0 k (fr,st) R f args1 st1=true:=by kernel_rfl) (he:Bc R st1 args1=goR tyT gl ops 0 k (fr,st) R args1 st1:=by kernel_rfl) (hn:∀a,Us tyT gl ops (k+1) (KJ ops gl fr st k R (r a) (st2 a))=true:=by intro _; kernel_rfl):Im (e.bind g=some u) (zw Tryz.prog gl s0 (.region id ops false::c::cs) AQ fr st):=bEL fun a ha=>cC k R (hc ha) (h2 a) hb he (hn a)
theorem cP (k:Nat) {q:Option V} {v:V} (hq:q=some v) (h2:Im p (zw Tryz.prog gl s0 (c::cs) AQ (Y0 tyT gl ops (k+1) (Kn ops gl fr st k v)).1 (Y0 tyT gl ops (k+1) (Kn ops gl fr st k v)).2)) (he:YH tyT gl ops 0 k (fr,st)=Z1 q (qy tyT gl ops 0 k (fr,st)).2:=by kernel_rfl) (hn:Us tyT gl ops (k+1) (Kn ops gl fr st k v)=true:=by kernel_rfl):Im p (zw Tryz.prog gl s0 (.region id ops false::c::cs) AQ fr st):=rCL (kPL k hq (edL hn) (Nat.ble_eq_true_of_le (Nat.zero_le k)) he) h2
theorem bP (k:Nat) {q:Option V} {v:α→V} (hq:∀ {a},e=some a→q=some (v a)) (h2:∀a,Im (g a=some u) (zw Tryz.prog gl s0 (c::cs) AQ (Y0 tyT gl ops (k+1) (Kn ops gl fr st k (v a))).1 (Y0 tyT gl ops (k+1) (Kn ops gl fr st k (v a))).2)) (he:YH tyT gl ops 0 k (fr,st)=Z1 q (qy tyT gl ops 0 k (fr,st)).2:=by kernel_rfl) (hn:∀a,Us tyT gl ops (k+1) (Kn ops gl fr st k (v a))=true:=by intro _; kernel_rfl):Im (e.bind g=some u) (zw Tryz.prog gl s0 (.region id ops false::c::cs) AQ fr st):=bEL fun a ha=>cP k (hq ha) (h2 a) he (hn a)
theorem rKL {P:Prop} (R:Ren) (q:Tg R→P:=by intro t h; cases h; exact zbU (rtT t)):P:=q .mk
theorem xjL {Y:Type} {F:Y→AFr} {S:Y→St} {L:Y→Prop} (hx:Im p (Ye s0 F S L fr st)):Im p (zw Tryz.prog gl s0 (.exit id::cs) (uy K (dv s0 id F S L AQ)) fr st):=bW (XW (dM hx))
theorem hKL {A Y Y2 Z:Type} {o:Ctl A Y} {g:A→Option Z} {x:A} {r:Z} {F:Y2→AFr} {S:Y2→St} {L:Y2→Prop} (hr:∀x,o= .ret x→g x=some r) (h:Im (g x=some r) (AQ .ret fr st)):Im (some (.ret x)=some o) (zw Tryz.prog gl s0 (.ret::cs) (Zy id (uy K (uy K2 (dv s0 id' F S L AQ)))) fr st):=ya (yf (wo (hvL hr (yn h))))
def zx:Nat→Nat→List Nat
  |_,0=> []
  |a,n+1=>a::zx (a+1) n
theorem YF (l):type_of% (@bM _ (cI .i64) l 3 1 1 8 .none):=bM
theorem uz {l n x}:type_of% (@u5 _ (cI .i64) l n x 3 1 8 .none):=u5
theorem BT {a b c}:type_of% (@sM .i64 a b c (tyT 3).d):=sM
theorem VL {l n x}:type_of% (@u5 _ cS l n x 9 1 16 .exact):=u5
theorem Vq {l n x}:type_of% (@u5 _ (cI .i64) l n x 3 1 8 .exact):=u5
theorem ue (l):type_of% (@bM _ cS l 9 1 1 16 .none):=bM
theorem ww {l n x}:type_of% (@u5 _ cS l n x 9 1 16 .none):=u5
theorem ob (l) (tok):type_of% (@bM _ cS l 9 1 1 16 tok):=bM
theorem gN (tok) {l n x}:type_of% (@u5 _ cS l n x 9 1 16 tok):=u5
theorem zaz {l n x}:type_of% (@u5 _ za.cells l n x 140 3 40 .exact):=u5
theorem t6 (l) (tok):type_of% (@bM _ za.cells l 140 3 3 40 tok):=bM
theorem o9 (tok) {l n x}:type_of% (@u5 _ za.cells l n x 140 3 40 tok):=u5
theorem zK {s t u}:type_of% (@sO s t u (tyT 9).d):=sO
theorem jC {l n x}:type_of% (@u5 _ (cI .u32) l n x 223 1 4 .none):=u5
theorem rG {l n x}:type_of% (@u5 _ (cI .u32) l n x 223 1 4 .exact):=u5
theorem Kq {a b c}:type_of% (@W4 .i64 .i64 a b c (tyT 3).d):=W4
theorem zO {s t lo hi}:type_of% (@zb9 s t lo hi .i64 .i64):=zb9
theorem zaH (l):type_of% (@bM _ (cI .u32) l 223 1 1 4 .none):=bM
theorem xn {s t hi}:type_of% (@fa s t hi .i64):=fa
theorem Dr {a b c}:type_of% (@U2 .i64 .i64 a b c (tyT 3).d):=U2
theorem tZ (l):type_of% (@bM _ (cL 1 cS) l 23 1 1 24 .none):=bM
theorem DA {l n x}:type_of% (@u5 _ (cL 1 cS) l n x 23 1 24 .none):=u5
theorem xc {s t lo}:type_of% (@P4 s t lo .i64):=P4
theorem Ge (l) (tok):type_of% (@bM _ (cI .i64) l 3 1 1 8 tok):=bM
theorem Yk (tok) {l n x}:type_of% (@u5 _ (cI .i64) l n x 3 1 8 tok):=u5
theorem jh {l t hi}:type_of% (@Q2 _ cS l t hi .i64 9 1 16 .none):=Q2
theorem jd {l t lo}:type_of% (@YY _ cS l t lo .i64 9 1 16 .none):=YY
theorem g9 (l):type_of% (@bM _ za.cells l 140 3 3 40 .none):=bM
theorem ZF {l n x}:type_of% (@u5 _ za.cells l n x 140 3 40 .none):=u5
theorem ga (l):type_of% (@bM _ (cL 3 za.cells) l 141 1 1 24 .none):=bM
theorem ZD {l n x}:type_of% (@u5 _ (cL 3 za.cells) l n x 141 1 24 .none):=u5
theorem gg (l):type_of% (@bM _ zc.cells l 59 3 3 48 .none):=bM
theorem bZ (l):type_of% (@bM _ ze.cells l 68 4 4 64 .none):=bM
theorem vN {l n x}:type_of% (@u5 _ zc.cells l n x 59 3 48 .none):=u5
theorem jF {l n x}:type_of% (@u5 _ ze.cells l n x 68 4 64 .none):=u5
theorem dm {l t lo}:type_of% (@YY _ (cI .i64) l t lo .i64 3 1 8 .none):=YY
theorem Jl {a b c}:type_of% (@W4 .u8 .i64 a b c (tyT 5).d):=W4
theorem rf {a b c}:type_of% (@W4 .u64 .i64 a b c (tyT 192).d):=W4
theorem UD (l):type_of% (@bM _ (cI .u8) l 5 1 1 1 .none):=bM
theorem dU {l n x}:type_of% (@u5 _ (cI .u8) l n x 5 1 1 .none):=u5
theorem mB {l t lo}:type_of% (@YY _ (cI .u8) l t lo .i64 5 1 1 .none):=YY
theorem xF (l):type_of% (@bM _ zb.cells l 103 3 3 40 .none):=bM
theorem yN {l n x}:type_of% (@u5 _ zb.cells l n x 103 3 40 .none):=u5
theorem DH {a b c}:type_of% (@U2 .i64 .u64 a b c (tyT 3).d):=U2
theorem Ql {l t lo}:type_of% (@YY _ zb.cells l t lo .i64 103 3 40 .none):=YY
theorem DL {a b c}:type_of% (@U2 .u8 .u64 a b c (tyT 5).d):=U2
theorem oS {a b c}:type_of% (@W4 .u8 .u64 a b c (tyT 5).d):=W4
theorem lP {l t hi}:type_of% (@Q2 _ za.cells l t hi .i64 140 3 40 .none):=Q2
theorem tu (l):type_of% (@bM _ (cI .i64) l 3 1 1 8 .exact):=bM
theorem Yh {a b c}:type_of% (@W4 .i64 .u64 a b c (tyT 3).d):=W4
theorem rE {a b c}:type_of% (@U2 .i64 .u8 a b c (tyT 3).d):=U2
theorem tU (l):type_of% (@bM _ cS l 9 1 1 16 .exact):=bM
end
variable {mx:Int}
def pJ (n:Nat)(a0:List Int):Option zf:=
 some (zf.mk a0 0)
theorem VZ {n a0 r}:pJ n a0=some r→AC mx 13 [ql 1 (cI .i64) a0] [] (qp 0) [[ql 1 (cI .i64) r.f_L,qi r.xk]]:=
 fnL Tryz.func13 rfl<|rgL<|rgL<|rKL A3
def zj (n:Nat)(a1:Int)(m0:zf):Option (Int×zf):=
 if decide (m0.xk≥(m0.f_L.length:Int))then(some (0,m0))else((zM m0.f_L (wrap .i64 ((wrap .i64 (m0.xk+1))-1))).bind fun a=>
 (PC a a1).bind fun b=>
 (PC (wrap .i64 (b+a1)) a1).bind fun c=>
 some (c,(zf.mk m0.f_L (wrap .i64 (m0.xk+1)))))
theorem zk {n a1 m0 r}:zj n a1 m0=some r→AC mx 29 [qp 0,qi a1] [[ql 1 (cI .i64) m0.f_L,qi m0.xk]] (qi r.1) [[ql 1 (cI .i64) r.2.f_L,qi r.2.xk]]:=
 fnL Tryz.func29 rfl<|rgL<|lfL (fun z=>zs [0,1,2,3,4,5,6,7,8,9] [] [[],[0],[0,1],[0,1,2],[],[4],[4,5],[4,5,6],[4,5,6,7],[0,1,2,3,4,5,6,7,8]] [] [(0,qp 0),(1,qi a1),(14,qb (decide (m0.xk≥(m0.f_L.length:Int))))] (dS (zx 0 8)<|dP (YF m0.f_L)<|dS [9]<|dE A3) z)<|bFL (rgL<|rKL A3)<|rgL<|bEL fun e a=>bEL fun f b=>bEL fun c d=>lfL (fun z=>zs [0,1,2,3,4,5,6,7,8,9,10,11,12,13,14,15,16,17] [] [[],[0],[0,1],[0,1,2],[],[4],[4,5],[4,5,6],[4,5,6,7],[0,1,2,3,4,5,6,7,8],[0,1,2,3,4,5,6,7,8,9],[],[0,1,2,3,4,5,6,7,8,9,10,11],[],[0,1,2,3,4,5,6,7,8,9,10,11,12,13],[],[0,1,2,3,4,5,6,7,8,9,10,11,12,13,14,15],[0,1,2,3,4,5,6,7,8,9,10,11,12,13,14,15,16]] [] [(4,qi c)] (dS (zx 0 9)<|dP (uz a)<|dS [10,11]<|dP (BT b)<|dS [13,14,15]<|dP (BT d)<|dS [17]<|dE A3) z)<|rKL A3
def dq (n:Nat)(a0:Int):Option Cn:=
 (zM ([([49,46,50,46,51,46,49]:Cn),([49,46,50,46,51,46,50]:Cn),([49,46,50,46,51,46,51]:Cn),([49,46,50,46,51,46,52]:Cn),([49,46,50,46,51,46,53]:Cn),([50,46,57,57,57,46,49]:Cn),([50,46,57,57,57,46,50]:Cn),([49,46,50,46,51]:Cn),([50,46,53,46,50,57,46,51,50,46,48]:Cn)]:List Cn) (Int.tmod a0 9)).bind fun a=>
 some a
theorem Wh {n a0 r}:dq n a0=some r→AC mx 156 [qi a0] [] (qs r) []:=
 fnL Tryz.func156 rfl<|rgL<|bP 3 VL fun a=>rKL A1
def wM (n:Nat):Nat→(List Cn)→Int→(List Int)→Int→Option ((List Cn)×(List Int)×Int)
 |0,_,_,_,_=>none
 | k+1,b,c,d,e=>
  if decide (c>0)then((zj n 5 (zf.mk d e)).bind fun a=>
  (zM ([0,1,2,3,8]:List Int) a.1).bind fun f=>
  (dq n f).bind fun g=>
  (jR 16 b ([g]:List Cn)).bind fun i=>
  wM n k i (wrap .i64 (c-1)) a.2.f_L a.2.xk)else(some (b,d,e))
def qc (n:Nat)(a1:Int)(m0:zf):Option ((List Cn)×zf):=
 (zj n (wrap .i64 (a1+1)) m0).bind fun a=>
 (wM n  n ([]:List Cn) a.1 a.2.f_L a.2.xk).bind fun b=>
 some (b.1,(zf.mk b.2.1 b.2.2))
theorem Y1 {n a1 m0 r}:qc n a1 m0=some r→ACf mx 86 [qp 0,qi a1] [[ql 1 (cI .i64) m0.f_L,qi m0.xk]] (.sl 1 (List.map cS r.1) (.fam 0 (r.1.length))) [[ql 1 (cI .i64) r.2.f_L,qi r.2.xk]] [r.1.length]:=
 fnL Tryz.func86 rfl<|rgL<|rgL<|bC 3 A3 zk fun b=>blL (fun a=>⟨25,[(5, .sl 1 (List.map cS a.1) (.fam 0 (a.1.length)))]⟩) (fun a=>⟨[[ql 1 (cI .i64) a.2.1,qi a.2.2]],[a.1.length]⟩) (fun a=>yV (wk (fr':=⟨25,[(0,qp 0),(5,qn),(6,qi b.1)]⟩) (st':=⟨[[ql 1 (cI .i64) b.2.f_L,qi b.2.xk]],[]⟩) A3)<|yV Wk.nilFam<|lpL (fun k x=>wM n  k x.1 x.2.1 x.2.2.1 x.2.2.2) (([]:List Cn),b.1,b.2.f_L,b.2.xk) Ai (fun x=>⟨25,[(0,qp 0),(5, .sl 1 (List.map cS x.1) (.fam 0 (x.1.length))),(6,qi x.2.1)]⟩) (fun x=>⟨[[ql 1 (cI .i64) x.2.2.1,qi x.2.2.2]],[x.1.length]⟩) fun k x=>by obtain⟨m,d,o,s⟩:=x; rw [wM]; exact rgL<|bFL (zo<|bEL fun c f=>bEL fun u g=>bEL fun v i=>bEL fun j l=>xo zJ (kCL 3 Ax (zk f)<|kPL 4 (Vq g)<|kCL 6 Aj (Wh i)<|lfL (fun z=>kA 8 0 cS (e:=9) (e2:=9) (sz:=1) (bytes:=16) (b2:=16) (tok2:= .exact) l z) edL)<|zp<|z8 zl fun h=>⟨(j,wrap .i64 (d-1),c.2.f_L,c.2.xk),h,wk Ai⟩)<|xjL<|jnL Ai) fun a=>rgL<|rKL Ai
def w3 (n:Nat)(a:List Cn)(c:Cn):Nat→Bool→Int→Option Bool
 |0,_,_=>none
 | k+1,d,b=>
  if decide (b<(a.length:Int))then((zM a b).bind fun e=>
  (if d then(some true)else(some (e==c))).bind fun f=>
  w3 n a c k f (wrap .i64 (b+1)))else(some d)
def wX (n:Nat)(a0:List Cn):Nat→(List Cn)→Int→Option (List Cn)
 |0,_,_=>none
 | k+1,a,b=>
  if decide (b<(a0.length:Int))then(((zM a0 b).bind fun c=>
  (w3 n a c n false 0).bind fun d=>
  if !d then((jR 16 a ([c]:List Cn)).bind fun e=>
  some e)else(some a)).bind fun f=>
  wX n a0 k f (wrap .i64 (b+1)))else(some a)
def bJ (n:Nat)(a0:List Cn):Option (List Cn):=
 (wX n a0 n ([]:List Cn) 0).bind fun a=>
 some a
theorem Vd {n a0 r}:bJ n a0=some r→ACf mx 109 [ql 1 cS a0] [] (.sl 1 (List.map cS r) (.fam 0 (r.length))) [] [r.length]:=
 fnL Tryz.func109 rfl<|rgL<|rgL<|cP 1 (ue a0)<|blL (fun c=>⟨36,[(3, .sl 1 (List.map cS c) (.fam 0 (c.length)))]⟩) (fun c=>⟨[],[c.length]⟩) (fun c=>yV (wk (fr':=⟨36,[(3,qn),(9,ql 1 cS a0),(10,qi (a0.length)),(11,qi 0)]⟩) (st':=⟨[],[]⟩) A1)<|yV Wk.nilFam<|lpL (fun k x=>wX n a0 k x.1 x.2) (([]:List Cn),0) A6 (fun x=>⟨36,[(3, .sl 1 (List.map cS x.1) (.fam 0 (x.1.length))),(9,ql 1 cS a0),(10,qi (a0.length)),(11,qi x.2)]⟩) (fun x=>⟨[],[x.1.length]⟩) fun k x=>by obtain⟨a,d⟩:=x; rw [wX]; exact rgL<|bFL (blL (fun b=>⟨36,[(3, .sl 1 (List.map cS b) (.fam 0 (b.length))),(9,ql 1 cS a0),(10,qi (a0.length)),(11,qi d)]⟩) (fun b=>⟨[],[b.length]⟩) (fun b=>bP 0 ww fun f=>rgL<|cP 1 (ob a (.fam 0 (a.length)))<|blL (fun g=>⟨36,[(3, .sl 1 (List.map cS a) (.fam 0 (a.length))),(5,qs f),(6,qb g),(9,ql 1 cS a0),(10,qi (a0.length)),(11,qi d)]⟩) (fun g=>⟨[],[a.length]⟩) (fun g=>lpL (fun k x=>w3 n a f k x.1 x.2) (false,0) A6 (fun x=>⟨36,[(3, .sl 1 (List.map cS a) (.fam 0 (a.length))),(5,qs f),(6,qb x.1),(9,ql 1 cS a0),(10,qi (a0.length)),(11,qi d),(15, .sl 1 (List.map cS a) (.fam 0 (a.length))),(16,qi (a.length)),(17,qi x.2)]⟩) (fun x=>⟨[],[a.length]⟩) fun k x=>by obtain⟨m,i⟩:=x; rw [w3]; exact rgL<|bFL (zo<|bP 0 (gN (.fam 0 (a.length))) fun o=>bEL fun j hE=>Gl hE zJ ⟨36,[(3, .sl 1 (List.map cS a) (.fam 0 (a.length))),(5,qs f),(6,qb j),(9,ql 1 cS a0),(10,qi (a0.length)),(11,qi d),(15, .sl 1 (List.map cS a) (.fam 0 (a.length))),(16,qi (a.length)),(17,qi i)]⟩ ⟨[],[a.length]⟩ (gFL 2 22 (eJ A6)<|eJ A6)<|zp<|z8 zl fun h=>⟨(j,wrap .i64 (i+1)),h,wk A6⟩)<|xjL<|jnL A6) fun g=>rgL<|bFL (bEL fun s l=>xo zX (lfL (fun z=>kA 3 0 cS (e:=9) (e2:=9) (sz:=1) (bytes:=16) (b2:=16) (tok2:= .exact) l z) edL)<|jnL A6)<|jnL A6) fun b=>z8 zl fun h=>⟨(b,wrap .i64 (d+1)),h,wk A6⟩)<|xjL<|jnL A6) fun c=>rgL<|rKL A6
def j5 (n:Nat)(m0:zf):Option (za×zf):=
 (zj n 12 m0).bind fun a=>
 (zM ([(za.mk ([50,46,53,46,52,46,51]:Cn) 12 ([65,110,110]:Cn)),(za.mk ([50,46,53,46,52,46,51]:Cn) 19 ([32,97,110,110]:Cn)),(za.mk ([50,46,53,46,52,46,51]:Cn) 12 ([103,114,195,182,195,159,101]:Cn)),(za.mk ([50,46,53,46,52,46,54]:Cn) 19 ([85,83]:Cn)),(za.mk ([50,46,53,46,52,46,49,48]:Cn) 19 ([69,120,97,109,112,108,101,32,32,67,111,114,112]:Cn)),(za.mk ([50,46,53,46,52,46,49,48]:Cn) 12 ([101,120,97,109,112,108,101,32,99,111,114,112]:Cn)),(za.mk ([50,46,53,46,52,46,49,49]:Cn) 22 ([97,44,98,43,99,61,100,92,101]:Cn)),(za.mk ([48,46,57,46,50,51,52,50,46,49,57,50,48,48,51,48,48,46,49,48,48,46,49,46,50,53]:Cn) 22 ([111,114,103]:Cn)),(za.mk ([49,46,50,46,56,52,48,46,49,49,51,53,52,57,46,49,46,57,46,49]:Cn) 22 ([97,110,110,64,101,120,97,109,112,108,101,46,111,114,103]:Cn)),(za.mk ([49,46,50,46,56,52,48,46,49,49,51,53,52,57,46,49,46,57,46,49]:Cn) 22 ([110,111,32,97,100,100,114,101,115,115]:Cn)),(za.mk ([50,46,53,46,52,46,57,57]:Cn) 19 ([120]:Cn)),(za.mk ([50,46,53,46,52,46,55]:Cn) 12 ([76]:Cn))]:List za) a.1).bind fun b=>
 some (b,a.2)
theorem Y3 {n m0 r}:j5 n m0=some r→AC mx 101 [qp 0] [[ql 1 (cI .i64) m0.f_L,qi m0.xk]] (.agg (za.cells r.1)) [[ql 1 (cI .i64) r.2.f_L,qi r.2.xk]]:=
 fnL Tryz.func101 rfl<|rgL<|bEL fun c a=>bEL fun d b=>rCL (kCL 14 A7 (zk a)<|kPL 15 (zaz b) edL)<|rKL A7
def vp (n:Nat):Nat→(List za)→Int→(List Int)→Int→Option ((List za)×(List Int)×Int)
 |0,_,_,_,_=>none
 | k+1,b,d,e,f=>
  if decide (d>0)then(((j5 n (zf.mk e f)).bind fun a=>
  (if(b.length:Int)==0 then(some true)else((zM b 0).bind fun g=>
  some (!(g.xx==a.1.xx)))).bind fun i=>
  if i then((jR 40 b ([a.1]:List za)).bind fun j=>
  some (j,a.2.f_L,a.2.xk))else(some (b,a.2.f_L,a.2.xk))).bind fun c=>
  vp n k c.1 (wrap .i64 (d-1)) c.2.1 c.2.2)else(some (b,e,f))
def vn (n:Nat):Nat→Int→(List Int)→Int→(List (List za))→Option ((List Int)×Int×(List (List za)))
 |0,_,_,_,_=>none
 | k+1,c,d,e,f=>
  if decide (c>0)then((zj n 5 (zf.mk d e)).bind fun a=>
  (vp n n ([]:List za) (wrap .i64 ((1:Int)+(wrap .i64 (Int.tdiv a.1 4)))) a.2.f_L a.2.xk).bind fun b=>
  (jR 24 f ([b.1]:List (List za))).bind fun g=>
  vn n k (wrap .i64 (c-1)) b.2.1 b.2.2 g)else(some (d,e,f))
def vF (n:Nat)(m0:zf):Option (zv×zf):=
 (zj n 4 m0).bind fun a=>
 (vn n  n a.1 a.2.f_L a.2.xk ([]:List (List za))).bind fun b=>
 some ((zv.mk b.2.2),(zf.mk b.1 b.2.1))
theorem gR {n m0 r}:vF n m0=some r→AC mx 34 [qp 0] [[ql 1 (cI .i64) m0.f_L,qi m0.xk]] (.agg [ql 1 (cL 3 za.cells) r.1.zh]) [[ql 1 (cI .i64) r.2.f_L,qi r.2.xk]]:=
 fnL Tryz.func34 rfl<|rgL<|rgL<|bC 1 Ab zk fun f=>blL (fun d=>⟨48,[(2,qp 1),(3,qp 2)]⟩) (fun d=>⟨[[ql 1 (cI .i64) d.1,qi d.2.1],[qn],[.sl 1 (List.map (cL 3 za.cells) d.2.2) (.fam 0 (d.2.2.length))]],[d.2.2.length]⟩) (fun d=>yV (wk (fr':=⟨48,[(0,qp 0),(2,qp 1),(3,qp 2),(4,qi f.1)]⟩) (st':=⟨[[ql 1 (cI .i64) f.2.f_L,qi f.2.xk],[qn],[qn]],[]⟩) Ac)<|yV Wk.nilFam<|lpL (fun k x=>vn n  k x.1 x.2.1 x.2.2.1 x.2.2.2) (f.1,f.2.f_L,f.2.xk,([]:List (List za))) Af (fun x=>⟨48,[(0,qp 0),(2,qp 1),(3,qp 2),(4,qi x.1)]⟩) (fun x=>⟨[[ql 1 (cI .i64) x.2.1,qi x.2.2.1],[qn],[.sl 1 (List.map (cL 3 za.cells) x.2.2.2) (.fam 0 (x.2.2.2.length))]],[x.2.2.2.length]⟩) fun k x=>by obtain⟨g,A,B,a⟩:=x; rw [vn]; exact rgL<|bFL (zo<|rgL<|bC 1 Ag zk fun i=>blL (fun c=>⟨48,[(0,qp 0),(2,qp 1),(3,qp 2),(4,qi g),(5, .sl 3 (List.map za.cells c.1) (.fam 1 (c.1.length)))]⟩) (fun c=>⟨[[ql 1 (cI .i64) c.2.1,qi c.2.2],[qn],[.sl 1 (List.map (cL 3 za.cells) a) (.fam 0 (a.length))]],[a.length,c.1.length]⟩) (fun c=>yV (wk (fr':=⟨48,[(0,qp 0),(2,qp 1),(3,qp 2),(4,qi g),(5,qn),(6,qi (wrap .i64 ((1:Int)+(wrap .i64 (Int.tdiv i.1 4)))))]⟩) (st':=⟨[[ql 1 (cI .i64) i.2.f_L,qi i.2.xk],[qn],[.sl 1 (List.map (cL 3 za.cells) a) (.fam 0 (a.length))]],[a.length]⟩) Af)<|yV Wk.nilFam<|lpL (fun k x=>vp n  k x.1 x.2.1 x.2.2.1 x.2.2.2) (([]:List za),wrap .i64 ((1:Int)+(wrap .i64 (Int.tdiv i.1 4))),i.2.f_L,i.2.xk) Am (fun x=>⟨48,[(0,qp 0),(2,qp 1),(3,qp 2),(4,qi g),(5, .sl 3 (List.map za.cells x.1) (.fam 1 (x.1.length))),(6,qi x.2.1)]⟩) (fun x=>⟨[[ql 1 (cI .i64) x.2.2.1,qi x.2.2.2],[qn],[.sl 1 (List.map (cL 3 za.cells) a) (.fam 0 (a.length))]],[a.length,x.1.length]⟩) fun k x=>by obtain⟨j,l,C,D⟩:=x; rw [vp]; exact rgL<|bFL (blL (fun b=>⟨48,[(0,qp 0),(2,qp 1),(3,qp 2),(4,qi g),(5, .sl 3 (List.map za.cells b.1) (.fam 1 (b.1.length))),(6,qi l)]⟩) (fun b=>⟨[[ql 1 (cI .i64) b.2.1,qi b.2.2],[qn],[.sl 1 (List.map (cL 3 za.cells) a) (.fam 0 (a.length))]],[a.length,b.1.length]⟩) (fun b=>bC 1 An Y3 fun m=>bEL fun o hE=>lfL (fun z=>drw [0,1,2,3,4,5,6,7,8,9,10,11] [] [[],[0],[0,1],[0,1,2],zx 0 4,zx 0 5,zx 0 6,zx 0 7,zx 0 4,zx 0 4 ++ [8],zx 0 10,zx 0 11] ⟨48,[(0,qp 0),(2,qp 1),(3,qp 2),(4,qi g),(5, .sl 3 (List.map za.cells j) (.fam 1 (j.length))),(6,qi l),(7,qp 3),(36,qb o)]⟩ ⟨[[ql 1 (cI .i64) m.2.f_L,qi m.2.xk],[qn],[.sl 1 (List.map (cL 3 za.cells) a) (.fam 0 (a.length))],za.cells m.1],[a.length,j.length]⟩ (have h:=hE; dS [0]<|dP (t6 j (.fam 1 (j.length)))<|dS [2,3]<|hF 28 h (fun h=>dS (zx 4 8)<|by cases h; exact dE Cm) fun h=>bE h fun E s h=>dS [4]<|dP (o9 (.fam 1 (j.length)) s)<|dS (zx 6 6)<|by cases h; exact dE Cm) z)<|bFL (bEL fun F u=>xo zX (lfL (fun z=>kA 3 1 za.cells (e:=140) (e2:=140) (sz:=3) (bytes:=40) (b2:=40) (tok2:= .exact) u z) edL)<|jnL ⟨[0,1,2],4,[0,1],2⟩)<|jnL ⟨[0,1,2],4,[0,1],2⟩) fun b=>z8 zl fun h=>⟨(b.1,wrap .i64 (l-1),b.2.1,b.2.2),h,wk Am⟩)<|xjL<|jnL Am) fun c=>bEL fun v w=>xo zJ (lfL (fun z=>kA 4 0 (cL 3 za.cells) (e:=141) (e2:=141) (sz:=1) (bytes:=24) (b2:=24) (tok2:= .exact) w z) edL)<|zp<|z8 zl fun h=>⟨(wrap .i64 (g-1),c.2.1,c.2.2,v),h,wk Au⟩)<|xjL<|jnL Af) fun d=>rgL<|rKL Ag
def xf (n:Nat)(m0:zf):Option (zc×zf):=
 (zj n 4 m0).bind fun a=>
 if a.1==0 then((zj n 6 a.2).bind fun b=>
 (zM ([([97,110,110,64,101,120,97,109,112,108,101,46,111,114,103]:Cn),([65,78,78,64,101,120,97,109,112,108,101,46,111,114,103]:Cn),([97,110,110,64,69,120,97,109,112,108,101,46,79,82,71]:Cn),([98,46,99,64,109,97,105,108,46,101,120,97,109,112,108,101,46,111,114,103]:Cn),([120,64,111,114,103]:Cn),([97,39,98,64,97,46,98]:Cn)]:List Cn) b.1).bind fun f=>
 some ((zc.mk 1 f (zv.mk ([]:List (List za)))),b.2))else(if a.1==1 then((zj n 7 a.2).bind fun c=>
 (zM ([([101,120,97,109,112,108,101,46,111,114,103]:Cn),([119,119,119,46,101,120,97,109,112,108,101,46,111,114,103]:Cn),([87,87,87,46,69,120,97,109,112,108,101,46,111,114,103]:Cn),([42,46,101,120,97,109,112,108,101,46,111,114,103]:Cn),([97,46,98]:Cn),([111,114,103]:Cn),([109,121,101,120,97,109,112,108,101,46,111,114,103]:Cn)]:List Cn) c.1).bind fun g=>
 some ((zc.mk 2 g (zv.mk ([]:List (List za)))),c.2))else(if a.1==2 then((zj n 4 a.2).bind fun d=>
 (zM ([([10,0,0,1]:Cn),([10,1,2,3]:Cn),([192,168,1,7]:Cn),([32,1,13,184,0,0,0,0,0,0,0,0,0,0,0,1]:Cn)]:List Cn) d.1).bind fun i=>
 some ((zc.mk 7 i (zv.mk ([]:List (List za)))),d.2))else((vF n a.2).bind fun e=>
 some ((zc.mk 4 ([]:Cn) e.1),e.2))))
theorem jN {n m0 r}:xf n m0=some r→AC mx 30 [qp 0] [[ql 1 (cI .i64) m0.f_L,qi m0.xk]] (.agg (zc.cells r.1)) [[ql 1 (cI .i64) r.2.f_L,qi r.2.xk]]:=
 fnL Tryz.func30 rfl<|rgL<|bC 1 A7 zk fun g=>zo<|rgL<|bFL (bEL fun i a=>bEL fun j b=>rCL (kCL 2 A7 (zk a)<|kPL 3 (VL b) edL)<|ya<|yf<|rJ A7)<|rgL<|bFL (bEL fun l c=>bEL fun m d=>rCL (kCL 2 A7 (zk c)<|kPL 3 (VL d) edL)<|ya<|yf<|rJ A7)<|rgL<|bFL (bEL fun o e=>bEL fun s f=>rCL (kCL 2 A7 (zk e)<|kPL 3 (VL f) edL)<|ya<|yf<|rJ A7)<|zp<|bC 1 A7 gR fun u=>rKL A7
def dr (n:Nat)(a0:Int):Option Int:=
 (zM ([0,2,4,12,6,1,14,3]:List Int) (Int.tmod a0 8)).bind fun a=>
 some a
theorem Wm {n a0 r}:dr n a0=some r→AC mx 168 [qi a0] [] (qi r) []:=
 fnL Tryz.func168 rfl<|rgL<|bP 3 Vq fun a=>rKL A1
def z7 (n:Nat):Nat→Int→Option Cn
 |0,_=>none
 | kk+1,a0=>
  if decide (a0<10)then(some (b2s ([wrap .u8 (wrap .i64 ((48:Int)+a0))]:List Int)))else(((z7 n kk) (wrap .i64 (Int.tdiv a0 10))).bind fun a=>
  (um a (b2s ([wrap .u8 (wrap .i64 ((48:Int)+(Int.tmod a0 10)))]:List Int))).bind fun b=>
  some b)
theorem uK {n:Nat}:∀(kk:Nat) {a0:Int} {r:Cn} (_:z7 n kk a0=some r),AC mx 99 [qi a0] [] (qs r) []:=by
 intro kk
 induction kk with
 |zero=>intro a0 r h; simp [z7]at h
 | succ kk ih=>
  intro a0 r h
  rw [z7]at h
  exact imA h<|fnL Tryz.func99 rfl<|rgL<|rgL<|bFL (rCL (lfL (fun z=>kB 4 ([wrap .u8 (wrap .i64 ((48:Int)+a0))]:List Int) z) edL)<|rKL A1)<|bEL fun d a=>bEL fun b c=>lfL (fun z=>zs [0,1,3,4,5,6,7,8,2,9,10] [2] [[],[0],[0,1],[],[3],[3,4],[3,4,5],[3,4,5,6],[3,4,5,6,7],[0,1,2,3,4,5,6,7,8],[0,1,2,3,4,5,6,7,8,9]] [] [(2,qs b)] (dS [0,1,3,4,5,6,7]<|dP (nY ([wrap .u8 (wrap .i64 ((48:Int)+(Int.tmod a0 10)))]:List Int))<|dC (zr 8 (nY ([wrap .u8 (wrap .i64 ((48:Int)+(Int.tmod a0 10)))]:List Int)) zW) A1 (ih a)<|dP (zK c)<|dS [10]<|dE A1) z)<|rKL A1
def jc (n:Nat)(a0:Int):Option zv:=
 (z7 n n (wrap .i64 (Int.tdiv (Int.tmod a0 8) 2))).bind fun b=>
 (um ([67,65,32]:Cn) b).bind fun c=>
 (if decide ((Int.tmod a0 16)≥8)then((z7 n n (wrap .i64 (Int.tdiv (Int.tmod a0 8) 2))).bind fun d=>
 (um ([32,99,97,32,32]:Cn) d).bind fun e=>
 some e)else(some c)).bind fun a=>
 if(Int.tmod a0 2)==1 then((gP 24 ([([(za.mk ([50,46,53,46,52,46,49,48]:Cn) 19 a)]:List za)]:List (List za)) ([([(za.mk ([50,46,53,46,52,46,49,49]:Cn) 12 ([85,110,105,116]:Cn))]:List za)]:List (List za))).bind fun f=>
 some (zv.mk f))else(some (zv.mk ([([(za.mk ([50,46,53,46,52,46,49,48]:Cn) 19 a)]:List za)]:List (List za))))
theorem Xb {n a0 r}:jc n a0=some r→AC mx 32 [qi a0] [] (.agg [ql 1 (cL 3 za.cells) r.zh]) []:=
 fnL Tryz.func32 rfl<|rgL<|bEL fun j b=>bEL fun l d=>rCL (kCL 3 A2 (uK _ b)<|kPL 4 (zK d) edL)<|rgL<|cuL (fun a=>⟨34,[(0,qi a0),(2,qp 0),(3,qs a)]⟩) (fun a=>⟨[[qn]],[]⟩) (fun a=>bFL (bEL fun m f=>bEL fun o g=>xo zl (kCL 3 A2 (uK _ f)<|kPL 4 (zK g) edL)<|jnL A3)<|jnL A3) fun a=>rgL<|rgL<|bFL (bEL fun s i=>rCL (lfL (fun z=>kV 5 2 0 2 (XQ (T:=tyT) (c:=(cL 3 za.cells)) (e:=141) (e2:=141) (sz:=1) (bytes:=24) (b2:=24) (tok2:= .exact) (cell:=none) O8 i) z) edL)<|rgL<|rKL Ao)<|rgL<|rKL A4
def jf (n:Nat)(a0:Int):Option Cn:=
 some (b2s ([wrap .u8 (Int.fdiv a0 16777216),wrap .u8 (Int.fdiv a0 65536),wrap .u8 (Int.fdiv a0 256),wrap .u8 a0]:List Int))
theorem jO {n a0 r}:jf n a0=some r→AC mx 159 [qi a0] [] (qs r) []:=
 fnL Tryz.func159 rfl<|rgL<|rCL (lfL (fun z=>kB 12 ([wrap .u8 (Int.fdiv a0 16777216),wrap .u8 (Int.fdiv a0 65536),wrap .u8 (Int.fdiv a0 256),wrap .u8 a0]:List Int) z) edL)<|rKL A1
def wH (n:Nat)(a1:Cn):Nat→Int→(List Int)→Option (List Int)
 |0,_,_=>none
 | k+1,a,b=>
  if decide (a<16)then((yr a1 (wrap .i64 ((4:Int)*a))).bind fun c=>
  (yr a1 (wrap .i64 ((wrap .i64 ((4:Int)*a))+1))).bind fun d=>
  (yr a1 (wrap .i64 ((wrap .i64 ((4:Int)*a))+2))).bind fun e=>
  (yr a1 (wrap .i64 ((wrap .i64 ((4:Int)*a))+3))).bind fun f=>
  (gu 64 a).bind fun g=>
  (Wt b (0+g*1) (ior .u32 (ior .u32 (ior .u32 (wrap .u32 ((wrap .u32 c)*16777216)) (wrap .u32 ((wrap .u32 d)*65536))) (wrap .u32 ((wrap .u32 e)*256))) (wrap .u32 f))).bind fun i=>
  wH n a1 k (wrap .i64 (a+1)) i)else(some b)
def wC (n:Nat):Nat→Int→(List Int)→Option (List Int)
 |0,_,_=>none
 | k+1,a,b=>
  if decide (a<64)then((gu 64 (wrap .i64 (a-15))).bind fun e=>
  ((b)[(0+e*1)]?).bind fun c=>
  (gu 64 (wrap .i64 (a-2))).bind fun f=>
  ((b)[(0+f*1)]?).bind fun d=>
  (gu 64 (wrap .i64 (a-16))).bind fun g=>
  ((b)[(0+g*1)]?).bind fun i=>
  (gu 64 (wrap .i64 (a-7))).bind fun j=>
  ((b)[(0+j*1)]?).bind fun l=>
  (gu 64 a).bind fun m=>
  (Wt b (0+m*1) (wrap .u32 ((wrap .u32 ((wrap .u32 (i+(pg .u32 (pg .u32 (ior .u32 (Int.fdiv c 128) (wrap .u32 (c*33554432))) (ior .u32 (Int.fdiv c 262144) (wrap .u32 (c*16384)))) (Int.fdiv c 8))))+l))+(pg .u32 (pg .u32 (ior .u32 (Int.fdiv d 131072) (wrap .u32 (d*32768))) (ior .u32 (Int.fdiv d 524288) (wrap .u32 (d*8192)))) (Int.fdiv d 1024))))).bind fun o=>
  wC n k (wrap .i64 (a+1)) o)else(some b)
def wF (n:Nat)(j:List Int):Nat→Int→Int→Int→Int→Int→Int→Int→Int→Int→Option (Int×Int×Int×Int×Int×Int×Int×Int)
 |0,_,_,_,_,_,_,_,_,_=>none
 | k+1,b,c,d,l,a,e,f,i,g=>
  if decide (g<64)then((zM ([1116352408,1899447441,3049323471,3921009573,961987163,1508970993,2453635748,2870763221,3624381080,310598401,607225278,1426881987,1925078388,2162078206,2614888103,3248222580,3835390401,4022224774,264347078,604807628,770255983,1249150122,1555081692,1996064986,2554220882,2821834349,2952996808,3210313671,3336571891,3584528711,113926993,338241895,666307205,773529912,1294757372,1396182291,1695183700,1986661051,2177026350,2456956037,2730485921,2820302411,3259730800,3345764771,3516065817,3600352804,4094571909,275423344,430227734,506948616,659060556,883997877,958139571,1322822218,1537002063,1747873779,1955562222,2024104815,2227730452,2361852424,2428436474,2756734187,3204031479,3329325298]:List Int) g).bind fun m=>
  (gu 64 g).bind fun s=>
  ((j)[(0+s*1)]?).bind fun o=>
  wF n j k (wrap .u32 ((wrap .u32 ((wrap .u32 ((wrap .u32 ((wrap .u32 (i+(pg .u32 (pg .u32 (ior .u32 (Int.fdiv a 64) (wrap .u32 (a*67108864))) (ior .u32 (Int.fdiv a 2048) (wrap .u32 (a*2097152)))) (ior .u32 (Int.fdiv a 33554432) (wrap .u32 (a*128))))))+(pg .u32 (uU .u32 a e) (uU .u32 (pg .u32 4294967295 a) f))))+m))+o))+(wrap .u32 ((pg .u32 (pg .u32 (ior .u32 (Int.fdiv b 4) (wrap .u32 (b*1073741824))) (ior .u32 (Int.fdiv b 8192) (wrap .u32 (b*524288)))) (ior .u32 (Int.fdiv b 4194304) (wrap .u32 (b*1024))))+(pg .u32 (pg .u32 (uU .u32 b c) (uU .u32 b d)) (uU .u32 c d)))))) b c d (wrap .u32 (l+(wrap .u32 ((wrap .u32 ((wrap .u32 ((wrap .u32 (i+(pg .u32 (pg .u32 (ior .u32 (Int.fdiv a 64) (wrap .u32 (a*67108864))) (ior .u32 (Int.fdiv a 2048) (wrap .u32 (a*2097152)))) (ior .u32 (Int.fdiv a 33554432) (wrap .u32 (a*128))))))+(pg .u32 (uU .u32 a e) (uU .u32 (pg .u32 4294967295 a) f))))+m))+o)))) a e f (wrap .i64 (g+1)))else(some (b,c,d,l,a,e,f,i))
def kW (n:Nat)(a0:List Int)(a1:Cn):Option (List Int):=
 (wH n a1 n 0 (List.replicate 64 (0:Int))).bind fun b=>
 (wC n  n 16 b).bind fun c=>
 (zM a0 0).bind fun d=>
 (zM a0 1).bind fun e=>
 (zM a0 2).bind fun f=>
 (zM a0 3).bind fun g=>
 (zM a0 4).bind fun i=>
 (zM a0 5).bind fun j=>
 (zM a0 6).bind fun l=>
 (zM a0 7).bind fun m=>
 (wF n c n d e f g i j l m 0).bind fun a=>
 (zM a0 0).bind fun o=>
 (zM a0 1).bind fun s=>
 (zM a0 2).bind fun u=>
 (zM a0 3).bind fun v=>
 (zM a0 4).bind fun w=>
 (zM a0 5).bind fun A=>
 (zM a0 6).bind fun B=>
 (zM a0 7).bind fun C=>
 some ([wrap .u32 (o+a.1),wrap .u32 (s+a.2.1),wrap .u32 (u+a.2.2.1),wrap .u32 (v+a.2.2.2.1),wrap .u32 (w+a.2.2.2.2.1),wrap .u32 (A+a.2.2.2.2.2.1),wrap .u32 (B+a.2.2.2.2.2.2.1),wrap .u32 (C+a.2.2.2.2.2.2.2)]:List Int)
theorem Wp {n a0 a1 r}:kW n a0 a1=some r→AC mx 211 [ql 1 (cI .u32) a0,qs a1] [] (ql 1 (cI .u32) r) []:=
 fnL Tryz.func211 rfl<|rgL<|rgL<|rgL<|yV (Wk.asBuf 0 (List.map (vI .u32) (List.replicate 64 (0:Int))) O8 O8 O1)<|rgL<|blL (fun j=>⟨266,[(0,ql 1 (cI .u32) a0),(5, .sl 1 (List.map (cI .u32) ([1116352408,1899447441,3049323471,3921009573,961987163,1508970993,2453635748,2870763221,3624381080,310598401,607225278,1426881987,1925078388,2162078206,2614888103,3248222580,3835390401,4022224774,264347078,604807628,770255983,1249150122,1555081692,1996064986,2554220882,2821834349,2952996808,3210313671,3336571891,3584528711,113926993,338241895,666307205,773529912,1294757372,1396182291,1695183700,1986661051,2177026350,2456956037,2730485921,2820302411,3259730800,3345764771,3516065817,3600352804,4094571909,275423344,430227734,506948616,659060556,883997877,958139571,1322822218,1537002063,1747873779,1955562222,2024104815,2227730452,2361852424,2428436474,2756734187,3204031479,3329325298]:List Int)) .exact),(6,qp 0)]⟩) (fun j=>⟨[[.buf (List.map (vI .u32) j)]],[]⟩) (fun j=>lpL (fun k x=>wH n a1 k x.1 x.2) (0,List.replicate 64 (0:Int)) A3 (fun x=>⟨266,[(0,ql 1 (cI .u32) a0),(1,qs a1),(5, .sl 1 (List.map (cI .u32) ([1116352408,1899447441,3049323471,3921009573,961987163,1508970993,2453635748,2870763221,3624381080,310598401,607225278,1426881987,1925078388,2162078206,2614888103,3248222580,3835390401,4022224774,264347078,604807628,770255983,1249150122,1555081692,1996064986,2554220882,2821834349,2952996808,3210313671,3336571891,3584528711,113926993,338241895,666307205,773529912,1294757372,1396182291,1695183700,1986661051,2177026350,2456956037,2730485921,2820302411,3259730800,3345764771,3516065817,3600352804,4094571909,275423344,430227734,506948616,659060556,883997877,958139571,1322822218,1537002063,1747873779,1955562222,2024104815,2227730452,2361852424,2428436474,2756734187,3204031479,3329325298]:List Int)) .exact),(6,qp 0),(7,qi x.1)]⟩) (fun x=>⟨[[.buf (List.map (vI .u32) x.2)]],[]⟩) fun k x=>by obtain⟨B,Z⟩:=x; rw [wH]; exact rgL<|bFL (zo<|bEL fun a2 C=>bEL fun a3 D=>bEL fun a4 E=>bEL fun a5 F=>bEL fun a6 G=>bEL fun H a7=>lfL (fun z=>zmN zJ [0,1,2,3,4,5,6,7,8,9,10,11,12,13,14,15,16,17,18,19,20,21,22,23,24,25,26,27,28,29,30,31] [31] [[],[],[],[2],[1,2,3],[1,2,3,4],[1,2,3,4,5],[],[],[8],[8,9],[7,8,9,10],[7,8,9,10,11],[7,8,9,10,11,12],[1,2,3,4,5,6,7,8,9,10,11,12,13],[],[],[16],[16,17],[15,16,17,18],[15,16,17,18,19],[15,16,17,18,19,20],[1,2,3,4,5,6,7,8,9,10,11,12,13,14,15,16,17,18,19,20,21],[],[],[24],[24,25],[23,24,25,26],[23,24,25,26,27],[1,2,3,4,5,6,7,8,9,10,11,12,13,14,15,16,17,18,19,20,21,22,23,24,25,26,27,28],[0,1,2,3,4,5,6,7,8,9,10,11,12,13,14,15,16,17,18,19,20,21,22,23,24,25,26,27,28,29],[0,1,2,3,4,5,6,7,8,9,10,11,12,13,14,15,16,17,18,19,20,21,22,23,24,25,26,27,28,29,30]] [0,5] [(1,qs a1),(6,qp 0),(7,qi B)] ⟨[[.buf (List.map (vI .u32) H)]],[]⟩ (dS (zx 0 4)<|dP (zS C)<|dS (zx 5 6)<|dP (zS D)<|dS (zx 12 7)<|dP (zS E)<|dS (zx 20 7)<|dP (zS F)<|dS [28,29]<|dP (We (id:=0) (off:=0) (sz:=1) G)<|dV (zr 30 (We (id:=0) (off:=0) (sz:=1) G) (zr 27 (zS F) (zr 19 (zS E) (zr 11 (zS D) (zr 4 (zS C) zW))))) 1 0 0 (da (T:=tyT) (t:=223) (c:=(vI .u32)) (l:=Z) (off:=(0+a6*1)) (x:=ior .u32 (ior .u32 (ior .u32 (wrap .u32 ((wrap .u32 a2)*16777216)) (wrap .u32 ((wrap .u32 a3)*65536))) (wrap .u32 ((wrap .u32 a4)*256))) (wrap .u32 a5)) (uI .u32) O8 a7)<|dE A3) z)<|zp<|z8 zl fun h=>⟨(wrap .i64 (B+1),H),h,wk A3⟩)<|xjL<|jnL A3) fun j=>rgL<|blL (fun e=>⟨266,[(0,ql 1 (cI .u32) a0),(5, .sl 1 (List.map (cI .u32) ([1116352408,1899447441,3049323471,3921009573,961987163,1508970993,2453635748,2870763221,3624381080,310598401,607225278,1426881987,1925078388,2162078206,2614888103,3248222580,3835390401,4022224774,264347078,604807628,770255983,1249150122,1555081692,1996064986,2554220882,2821834349,2952996808,3210313671,3336571891,3584528711,113926993,338241895,666307205,773529912,1294757372,1396182291,1695183700,1986661051,2177026350,2456956037,2730485921,2820302411,3259730800,3345764771,3516065817,3600352804,4094571909,275423344,430227734,506948616,659060556,883997877,958139571,1322822218,1537002063,1747873779,1955562222,2024104815,2227730452,2361852424,2428436474,2756734187,3204031479,3329325298]:List Int)) .exact),(6,qp 0)]⟩) (fun e=>⟨[[.buf (List.map (vI .u32) e)]],[]⟩) (fun e=>lpL (fun k x=>wC n  k x.1 x.2) (16,j) A3 (fun x=>⟨266,[(0,ql 1 (cI .u32) a0),(5, .sl 1 (List.map (cI .u32) ([1116352408,1899447441,3049323471,3921009573,961987163,1508970993,2453635748,2870763221,3624381080,310598401,607225278,1426881987,1925078388,2162078206,2614888103,3248222580,3835390401,4022224774,264347078,604807628,770255983,1249150122,1555081692,1996064986,2554220882,2821834349,2952996808,3210313671,3336571891,3584528711,113926993,338241895,666307205,773529912,1294757372,1396182291,1695183700,1986661051,2177026350,2456956037,2730485921,2820302411,3259730800,3345764771,3516065817,3600352804,4094571909,275423344,430227734,506948616,659060556,883997877,958139571,1322822218,1537002063,1747873779,1955562222,2024104815,2227730452,2361852424,2428436474,2756734187,3204031479,3329325298]:List Int)) .exact),(6,qp 0),(8,qi x.1)]⟩) (fun x=>⟨[[.buf (List.map (vI .u32) x.2)]],[]⟩) fun k x=>by obtain⟨a8,f⟩:=x; rw [wC]; exact rgL<|bFL (zo<|bEL fun a9 b0=>bEL fun g b1=>bEL fun b2 b3=>bEL fun i b4=>lfL (fun z=>zs [0,1,2,3,4,5,6,7,8,9] [] [[],[0],[0,1],[0,1,2],[],[4],[4,5],[4,5,6],[0,1,2,3],[0,1,2,3,4,5,6,7,8]] [0,5,8] [(6,qp 0),(9, .int .u32 g),(10, .int .u32 i)] (dS [0,1]<|dP (We (id:=0) (off:=0) (sz:=1) b0)<|dP (pD (c:=(vI .u32)) (l:=f) (off:=(0+a9*1)) b1)<|dS [4,5]<|dP (We (id:=0) (off:=0) (sz:=1) b3)<|dP (pD (c:=(vI .u32)) (l:=f) (off:=(0+b2*1)) b4)<|dS [8,9]<|dE A3) z)<|rgL<|rgL<|bEL fun I J=>bEL fun b5 K=>bEL fun L M=>bEL fun b6 N=>bEL fun b7 O=>bEL fun P b8=>lfL (fun z=>zmN zJ [0,1,2,3,4,5,6,7,8,9,10,11,12,13,14,15] [15] [[],[],[1],[1,2],[1,2,3],[],[1,2,3,4,5],[],[7],[7,8],[7,8,9],[1,2,3,4,5,6,7,8,9,10],[],[1,2,3,4,5,6,7,8,9,10,11,12],[0,1,2,3,4,5,6,7,8,9,10,11,12,13],[0,1,2,3,4,5,6,7,8,9,10,11,12,13,14]] [0,5,8] [(6,qp 0)] ⟨[[.buf (List.map (vI .u32) P)]],[]⟩ (dS [0,1,2]<|dP (We (id:=0) (off:=0) (sz:=1) J)<|dP (pD (c:=(vI .u32)) (l:=f) (off:=(0+I*1)) K)<|dS (zx 5 4)<|dP (We (id:=0) (off:=0) (sz:=1) M)<|dP (pD (c:=(vI .u32)) (l:=f) (off:=(0+L*1)) N)<|dS [11,12,13]<|dP (We (id:=0) (off:=0) (sz:=1) O)<|dV (zr 14 (We (id:=0) (off:=0) (sz:=1) O) (zr 10 (pD (c:=(vI .u32)) (l:=f) (off:=(0+L*1)) N) (zr 9 (We (id:=0) (off:=0) (sz:=1) M) (zr 4 (pD (c:=(vI .u32)) (l:=f) (off:=(0+I*1)) K) (zr 3 (We (id:=0) (off:=0) (sz:=1) J) zW))))) 1 0 0 (da (T:=tyT) (t:=223) (c:=(vI .u32)) (l:=f) (off:=(0+b7*1)) (x:=wrap .u32 ((wrap .u32 ((wrap .u32 (b5+(pg .u32 (pg .u32 (ior .u32 (Int.fdiv g 128) (wrap .u32 (g*33554432))) (ior .u32 (Int.fdiv g 262144) (wrap .u32 (g*16384)))) (Int.fdiv g 8))))+b6))+(pg .u32 (pg .u32 (ior .u32 (Int.fdiv i 131072) (wrap .u32 (i*32768))) (ior .u32 (Int.fdiv i 524288) (wrap .u32 (i*8192)))) (Int.fdiv i 1024)))) (uI .u32) O8 b8)<|dE A3) z)<|zp<|z8 zl fun h=>⟨(wrap .i64 (a8+1),P),h,wk A3⟩)<|xjL<|jnL A3) fun e=>bEL fun Q b9=>bEL fun R c0=>bEL fun S c1=>bEL fun U c2=>bEL fun V c3=>bEL fun W c4=>bEL fun X c5=>bEL fun Y c6=>lfL (fun z=>zs [0,1,2,3,4,5,6,7,8,9,10,11,12,13,14,15,16,17,18,19,20,21,22,23,24,25,26,27,28,29,30,31] [] [[],[0],[0,1],[],[3],[3,4],[],[6],[6,7],[],[9],[9,10],[],[12],[12,13],[],[15],[15,16],[],[18],[18,19],[],[21],[21,22],[0,1,2],[0,1,2,3,4,5,24],[0,1,2,3,4,5,6,7,8,24,25],[0,1,2,3,4,5,6,7,8,9,10,11,24,25,26],[0,1,2,3,4,5,6,7,8,9,10,11,12,13,14,24,25,26,27],[0,1,2,3,4,5,6,7,8,9,10,11,12,13,14,15,16,17,24,25,26,27,28],[0,1,2,3,4,5,6,7,8,9,10,11,12,13,14,15,16,17,18,19,20,24,25,26,27,28,29],[0,1,2,3,4,5,6,7,8,9,10,11,12,13,14,15,16,17,18,19,20,21,22,23,24,25,26,27,28,29,30]] [0,5] [(6,qp 0),(13, .int .u32 Q),(14, .int .u32 R),(15, .int .u32 S),(16, .int .u32 U),(17, .int .u32 V),(18, .int .u32 W),(19, .int .u32 X),(20, .int .u32 Y)] (dS [0]<|dP (jC b9)<|dS [2,3]<|dP (jC c0)<|dS [5,6]<|dP (jC c1)<|dS [8,9]<|dP (jC c2)<|dS [11,12]<|dP (jC c3)<|dS [14,15]<|dP (jC c4)<|dS [17,18]<|dP (jC c5)<|dS [20,21]<|dP (jC c6)<|dS (zx 23 9)<|dE A3) z)<|rgL<|blL (fun b=>⟨266,[(0,ql 1 (cI .u32) a0),(13, .int .u32 b.1),(14, .int .u32 b.2.1),(15, .int .u32 b.2.2.1),(16, .int .u32 b.2.2.2.1),(17, .int .u32 b.2.2.2.2.1),(18, .int .u32 b.2.2.2.2.2.1),(19, .int .u32 b.2.2.2.2.2.2.1),(20, .int .u32 b.2.2.2.2.2.2.2)]⟩) (fun b=>⟨[],[]⟩) (fun b=>lpL (fun k x=>wF n e k x.1 x.2.1 x.2.2.1 x.2.2.2.1 x.2.2.2.2.1 x.2.2.2.2.2.1 x.2.2.2.2.2.2.1 x.2.2.2.2.2.2.2.1 x.2.2.2.2.2.2.2.2) (Q,R,S,U,V,W,X,Y,0) A3 (fun x=>⟨266,[(0,ql 1 (cI .u32) a0),(5, .sl 1 (List.map (cI .u32) ([1116352408,1899447441,3049323471,3921009573,961987163,1508970993,2453635748,2870763221,3624381080,310598401,607225278,1426881987,1925078388,2162078206,2614888103,3248222580,3835390401,4022224774,264347078,604807628,770255983,1249150122,1555081692,1996064986,2554220882,2821834349,2952996808,3210313671,3336571891,3584528711,113926993,338241895,666307205,773529912,1294757372,1396182291,1695183700,1986661051,2177026350,2456956037,2730485921,2820302411,3259730800,3345764771,3516065817,3600352804,4094571909,275423344,430227734,506948616,659060556,883997877,958139571,1322822218,1537002063,1747873779,1955562222,2024104815,2227730452,2361852424,2428436474,2756734187,3204031479,3329325298]:List Int)) .exact),(6,qp 0),(13, .int .u32 x.1),(14, .int .u32 x.2.1),(15, .int .u32 x.2.2.1),(16, .int .u32 x.2.2.2.1),(17, .int .u32 x.2.2.2.2.1),(18, .int .u32 x.2.2.2.2.2.1),(19, .int .u32 x.2.2.2.2.2.2.1),(20, .int .u32 x.2.2.2.2.2.2.2.1),(21,qi x.2.2.2.2.2.2.2.2)]⟩) (fun x=>⟨[[.buf (List.map (vI .u32) e)]],[]⟩) fun k x=>by obtain⟨d,s,u,c7,a,m,o,v,c8⟩:=x; rw [wF]; exact rgL<|bFL (zo<|rgL<|bEL fun w c9=>bEL fun d0 d1=>bEL fun A d2=>lfL (fun z=>zs [0,1,2,3,4,5,6,7,8,9,10,11,12,13,14,15,16,17,18,19,20,21] [] [[],[],[0,1],[],[],[3,4],[],[6],[],[6,7,8],[3,4,5,6,7,8,9],[0,1,2,3,4,5,6,7,8,9,10],[],[],[12,13],[12,13,14],[0,1,2,3,4,5,6,7,8,9,10,11,12,13,14,15],[],[17],[17,18],[0,1,2,3,4,5,6,7,8,9,10,11,12,13,14,15,16,17,18,19],[0,1,2,3,4,5,6,7,8,9,10,11,12,13,14,15,16,17,18,19,20]] [0,5,13,14,15,16,17,18,19,21] [(6,qp 0),(23, .int .u32 (wrap .u32 ((wrap .u32 ((wrap .u32 ((wrap .u32 (v+(pg .u32 (pg .u32 (ior .u32 (Int.fdiv a 64) (wrap .u32 (a*67108864))) (ior .u32 (Int.fdiv a 2048) (wrap .u32 (a*2097152)))) (ior .u32 (Int.fdiv a 33554432) (wrap .u32 (a*128))))))+(pg .u32 (uU .u32 a m) (uU .u32 (pg .u32 4294967295 a) o))))+w))+A)))] (dS (zx 0 14)<|dP (rG c9)<|dS [15,16,17]<|dP (We (id:=0) (off:=0) (sz:=1) d1)<|dP (pD (c:=(vI .u32)) (l:=e) (off:=(0+d0*1)) d2)<|dS [20,21]<|dE A3) z)<|rgL<|rgL<|z8 zJ<|zp<|z8 zl fun h=>⟨(wrap .u32 ((wrap .u32 ((wrap .u32 ((wrap .u32 ((wrap .u32 (v+(pg .u32 (pg .u32 (ior .u32 (Int.fdiv a 64) (wrap .u32 (a*67108864))) (ior .u32 (Int.fdiv a 2048) (wrap .u32 (a*2097152)))) (ior .u32 (Int.fdiv a 33554432) (wrap .u32 (a*128))))))+(pg .u32 (uU .u32 a m) (uU .u32 (pg .u32 4294967295 a) o))))+w))+A))+(wrap .u32 ((pg .u32 (pg .u32 (ior .u32 (Int.fdiv d 4) (wrap .u32 (d*1073741824))) (ior .u32 (Int.fdiv d 8192) (wrap .u32 (d*524288)))) (ior .u32 (Int.fdiv d 4194304) (wrap .u32 (d*1024))))+(pg .u32 (pg .u32 (uU .u32 d s) (uU .u32 d u)) (uU .u32 s u))))),d,s,u,wrap .u32 (c7+(wrap .u32 ((wrap .u32 ((wrap .u32 ((wrap .u32 (v+(pg .u32 (pg .u32 (ior .u32 (Int.fdiv a 64) (wrap .u32 (a*67108864))) (ior .u32 (Int.fdiv a 2048) (wrap .u32 (a*2097152)))) (ior .u32 (Int.fdiv a 33554432) (wrap .u32 (a*128))))))+(pg .u32 (uU .u32 a m) (uU .u32 (pg .u32 4294967295 a) o))))+w))+A))),a,m,o,wrap .i64 (c8+1)),h,wk A3⟩)<|xjL<|jnL A2) fun b=>bEL fun d3 d4=>bEL fun d5 d6=>bEL fun d7 d8=>bEL fun d9 e0=>bEL fun e1 e2=>bEL fun e3 e4=>bEL fun e5 e6=>bEL fun e7 e8=>lfL (fun z=>zs [0,1,2,3,4,5,6,7,8,9,10,11,12,13,14,15,16,17,18,19,20,21,22,23,24,25,26,27,28,29,30,31,32,33,34,35,36,37,38,39,40,41] [] [[],[0],[0,1],[],[0,1,2,3],[],[5],[5,6],[],[5,6,7,8],[],[10],[10,11],[],[10,11,12,13],[],[15],[15,16],[],[15,16,17,18],[],[20],[20,21],[],[20,21,22,23],[],[25],[25,26],[],[25,26,27,28],[],[30],[30,31],[],[30,31,32,33],[],[35],[35,36],[],[35,36,37,38],[0,1,2,3,4,5,6,7,8,9,10,11,12,13,14,15,16,17,18,19,20,21,22,23,24,25,26,27,28,29,30,31,32,33,34,35,36,37,38,39],[0,1,2,3,4,5,6,7,8,9,10,11,12,13,14,15,16,17,18,19,20,21,22,23,24,25,26,27,28,29,30,31,32,33,34,35,36,37,38,39,40]] [] [(4, .sl 1 (List.map (cI .u32) ([wrap .u32 (d3+b.1),wrap .u32 (d5+b.2.1),wrap .u32 (d7+b.2.2.1),wrap .u32 (d9+b.2.2.2.1),wrap .u32 (e1+b.2.2.2.2.1),wrap .u32 (e3+b.2.2.2.2.2.1),wrap .u32 (e5+b.2.2.2.2.2.2.1),wrap .u32 (e7+b.2.2.2.2.2.2.2)]:List Int)) .exact)] (dS [0]<|dP (jC d4)<|dS (zx 2 4)<|dP (jC d6)<|dS (zx 7 4)<|dP (jC d8)<|dS (zx 12 4)<|dP (jC e0)<|dS (zx 17 4)<|dP (jC e2)<|dS (zx 22 4)<|dP (jC e4)<|dS (zx 27 4)<|dP (jC e6)<|dS (zx 32 4)<|dP (jC e8)<|dS (zx 37 5)<|dE A1) z)<|rKL A1
def vt (n:Nat)(a0:List Cn):Nat→Cn→Int→Option Cn
 |0,_,_=>none
 | k+1,b,a=>
  if decide (a<(a0.length:Int))then((zM a0 a).bind fun c=>
  (um b c).bind fun d=>
  vt n a0 k d (wrap .i64 (a+1)))else(some b)
def vw (n:Nat)(c:Cn)(b:Nat):Nat→Int→(List Int)→Option (List Int)
 |0,_,_=>none
 | k+1,a,d=>
  if decide (a<8)then((WA .i64 (wrap .i64 ((8:Int)*(c.length:Int))) (wrap .i64 ((8:Int)*a))).bind fun e=>
  (gu b (wrap .i64 ((wrap .i64 (((b:Nat):Int)-1))-a))).bind fun f=>
  (Wt d (f*1) (wrap .u8 e)).bind fun g=>
  vw n c b k (wrap .i64 (a+1)) g)else(some d)
def vk (n:Nat)(b:Cn):Nat→(List Int)→Int→Option (List Int)
 |0,_,_=>none
 | k+1,c,a=>
  if decide (a<(b.length:Int))then((ssl b a (wrap .i64 (a+64))).bind fun d=>
  (kW n c d).bind fun e=>
  vk n b k e (wrap .i64 (a+64)))else(some c)
def vz (n:Nat)(b:List Int):Nat→(List Int)→Int→Option (List Int)
 |0,_,_=>none
 | k+1,d,c=>
  if decide (c<(b.length:Int))then((zM b c).bind fun a=>
  (jR 1 d ([wrap .u8 (Int.fdiv a 16777216),wrap .u8 (Int.fdiv a 65536),wrap .u8 (Int.fdiv a 256),wrap .u8 a]:List Int)).bind fun e=>
  vz n b k e (wrap .i64 (c+1)))else(some d)
def qT (n:Nat)(a0:List Cn):Option Cn:=
 (vt n a0 n ([]:Cn) 0).bind fun a=>
 (if(wrap .i64 ((64:Int)-(Int.tmod (wrap .i64 ((a.length:Int)+9)) 64)))==64 then(some 0)else(some (wrap .i64 ((64:Int)-(Int.tmod (wrap .i64 ((a.length:Int)+9)) 64))))).bind fun c=>
 (Kg 1 (wrap .i64 ((9:Int)+c)) (wrap .i64 ((9:Int)+c))).bind fun b=>
 (gu b 0).bind fun d=>
 (Wt (List.replicate b (0:Int)) (d*1) 128).bind fun e=>
 (vw n a b n 0 e).bind fun f=>
 (Ke b f).bind fun g=>
 (um a g).bind fun i=>
 (vk n i n ([1779033703,3144134277,1013904242,2773480762,1359893119,2600822924,528734635,1541459225]:List Int) 0).bind fun j=>
 (Pm 1 32).bind fun m=>
 (vz n j n ([]:List Int) 0).bind fun l=>
 some (b2s l)
theorem ZE {n a0 r}:qT n a0=some r→AC mx 158 [ql 1 cS a0] [] (qs r) []:=
 fnL Tryz.func158 rfl<|rgL<|rgL<|cP 1 (ue a0)<|blL (fun a=>⟨97,[(3,qs a)]⟩) (fun a=>⟨[],[]⟩) (fun a=>lpL (fun k x=>vt n a0 k x.1 x.2) (([]:Cn),0) A1 (fun x=>⟨97,[(3,qs x.1),(15,ql 1 cS a0),(16,qi (a0.length)),(17,qi x.2)]⟩) (fun x=>⟨[],[]⟩) fun k x=>by obtain⟨W,o⟩:=x; rw [vt]; exact rgL<|bFL (zo<|bP 0 ww fun X=>bEL fun s u=>xo zJ (kPL 2 (zK u) edL)<|zp<|z8 zl fun h=>⟨(s,wrap .i64 (o+1)),h,wk A1⟩)<|xjL<|jnL A1) fun a=>rgL<|rgL<|rgL<|rgL<|cuL (fun g=>⟨97,[(3,qs a),(6, .sl 1 (List.map (cI .u32) ([1779033703,3144134277,1013904242,2773480762,1359893119,2600822924,528734635,1541459225]:List Int)) .exact),(7,qi (a.length)),(8,qi g)]⟩) (fun g=>⟨[],[]⟩) (fun g=>bFL (z8 zl<|jnL A1)<|jnL A1) fun g=>bEL fun i v=>rCL (lfL (fun z=>kV 2 0 0 0 (BM (T:=tyT) (e:=5) (k1:= .i64) (k2:= .i64) (bytes:=1) (cell:=none) (c:=(vI .u8)) (uI .u8) 0 ⟨O8,O8⟩ v) z) edL)<|bEL fun w A=>bEL fun B C=>rCL (kPL 1 (pb (id:=0) (e:=5) (sz:=1) (b:=1) A)<|lfL (fun z=>kV 2 1 0 0 (da (T:=tyT) (t:=5) (c:=(vI .u8)) (l:=List.replicate i (0:Int)) (off:=(w*1)) (x:=128) (uI .u8) O8 C) z) edL)<|rgL<|blL (fun j=>⟨97,[(3,qs a),(6, .sl 1 (List.map (cI .u32) ([1779033703,3144134277,1013904242,2773480762,1359893119,2600822924,528734635,1541459225]:List Int)) .exact),(9, .own 0 i 1)]⟩) (fun j=>⟨[[.buf (List.map (vI .u8) j)]],[]⟩) (fun j=>lpL (fun k x=>vw n a i k x.1 x.2) (0,B) A3 (fun x=>⟨97,[(3,qs a),(6, .sl 1 (List.map (cI .u32) ([1779033703,3144134277,1013904242,2773480762,1359893119,2600822924,528734635,1541459225]:List Int)) .exact),(7,qi (a.length)),(9, .own 0 i 1),(10,qi x.1)]⟩) (fun x=>⟨[[.buf (List.map (vI .u8) x.2)]],[]⟩) fun k x=>by obtain⟨D,E⟩:=x; rw [vw]; exact rgL<|bFL (zo<|bEL fun F G=>bEL fun H I=>bEL fun J K=>xo zJ (kPL 10 (Kq G)<|kPL 12 (pb (id:=0) (e:=5) (sz:=1) (b:=1) I)<|lfL (fun z=>kV 13 1 0 0 (da (T:=tyT) (t:=5) (c:=(vI .u8)) (l:=E) (off:=(H*1)) (x:=wrap .u8 F) (uI .u8) O8 K) z) edL)<|zp<|z8 zl fun h=>⟨(wrap .i64 (D+1),J),h,wk A3⟩)<|xjL<|jnL A3) fun j=>bEL fun Y L=>bEL fun m M=>rCL (kPL 2 (Kr L)<|kPL 3 (zK M) edL)<|rgL<|blL (fun d=>⟨97,[(6,ql 1 (cI .u32) d)]⟩) (fun d=>⟨[],[]⟩) (fun d=>lpL (fun k x=>vk n m k x.1 x.2) (([1779033703,3144134277,1013904242,2773480762,1359893119,2600822924,528734635,1541459225]:List Int),0) A2 (fun x=>⟨97,[(3,qs m),(6,ql 1 (cI .u32) x.1),(11,qi x.2)]⟩) (fun x=>⟨[],[]⟩) fun k x=>by obtain⟨Z,N⟩:=x; rw [vk]; exact rgL<|bFL (zo<|bEL fun a1 O=>bEL fun P Q=>xo zJ (kPL 5 (zO O)<|kCL 6 A1 (Wp Q) edL)<|zp<|z8 zl fun h=>⟨(P,wrap .i64 (N+64)),h,wk A1⟩)<|xjL<|jnL A1) fun d=>bEL fun a2 R=>rCL (lfL (fun z=>kV 0 0 0 0 (tD (T:=tyT) (e:=5) (k1:= .i64) (k2:= .i64) (bytes:=1) (cell:=none) (c:=(vI .u8)) (uI .u8) 0 ⟨O8,O8⟩ R) z) edL)<|cP 1 (zaH d)<|blL (fun f=>⟨97,[(12, .sl 1 (List.map (cI .u8) f) (.fam 0 (f.length)))]⟩) (fun f=>⟨[],[f.length]⟩) (fun f=>lpL (fun k x=>vz n d k x.1 x.2) (([]:List Int),0) A6 (fun x=>⟨97,[(12, .sl 1 (List.map (cI .u8) x.1) (.fam 0 (x.1.length))),(74,ql 1 (cI .u32) d),(75,qi (d.length)),(76,qi x.2)]⟩) (fun x=>⟨[],[x.1.length]⟩) fun k x=>by obtain⟨a3,S⟩:=x; rw [vz]; exact rgL<|bFL (zo<|bP 0 jC fun a4=>bEL fun U V=>xo zJ (lfL (fun z=>kA 13 0 (cI .u8) (e:=5) (e2:=5) (sz:=1) (bytes:=1) (b2:=1) (tok2:= .exact) V z) edL)<|zp<|z8 zl fun h=>⟨(U,wrap .i64 (S+1)),h,wk A6⟩)<|xjL<|jnL A6) fun f=>rCL (lfL (fun z=>kB 1 f z) edL)<|rKL Aa
def vG (n:Nat)(a0:Int):Option Cn:=
 (jf n a0).bind fun a=>
 (qT n ([([115,101,101,100]:Cn),a]:List Cn)).bind fun b=>
 some b
theorem ZB {n a0 r}:vG n a0=some r→AC mx 100 [qi a0] [] (qs r) []:=
 fnL Tryz.func100 rfl<|rgL<|bEL fun c a=>bEL fun d b=>rCL (kCL 1 A1 (jO a)<|kCL 3 A1 (ZE b) edL)<|rKL A1
def wQ (n:Nat)(a0:List Cn):Option Cn:=
 (qT n a0).bind fun a=>
 (ssl a 0 16).bind fun b=>
 some b
theorem jb {n a0 r}:wQ n a0=some r→AC mx 293 [ql 1 cS a0] [] (qs r) []:=
 fnL Tryz.func293 rfl<|rgL<|bEL fun c a=>bEL fun d b=>rCL (kCL 1 A1 (ZE a)<|kPL 2 (xn b) edL)<|rKL A1
def dy (n:Nat)(a0 a1:Cn)(a2:Int):Option Int:=
 (if(a0.length:Int) !=16 then(some true)else(some ((a1.length:Int) !=32))).bind fun a=>
 if a then(some 18)else((if decide (a2<0)then(some true)else(some (decide (a2≥256)))).bind fun b=>
 if b then(some 1)else(some 0))
theorem Wv {n a0 a1 a2 r}:dy n a0 a1 a2=some r→AC mx 314 [qs a0,qs a1,qi a2] [] (qi r) []:=
 fnL Tryz.func314 rfl<|rgL<|bEL fun a hE=>rgF hE ⟨21,[(2,qi a2),(14,qb a)]⟩ ⟨[],[]⟩ (gFL 4 10 (eJ A1)<|eJ A1)<|bFL (rgL<|rKL A1)<|bEL fun b hE=>rgF hE ⟨21,[(20,qb b)]⟩ ⟨[],[]⟩ (gFL 3 17 (eJ A1)<|eJ A1)<|bFL (rgL<|rKL A1)<|rgL<|rKL A1
def wv (n:Nat)(a0:Int):Option Cn:=
 some (b2s ([wrap .u8 a0]:List Int))
theorem jV {n a0 r}:wv n a0=some r→AC mx 237 [qi a0] [] (qs r) []:=
 fnL Tryz.func237 rfl<|rgL<|rCL (lfL (fun z=>kB 3 ([wrap .u8 a0]:List Int) z) edL)<|rKL A1
def kc (n:Nat)(a0:Cn)(a1 a2:Int):Option Cn:=
 (jf n a1).bind fun a=>
 (wv n a2).bind fun b=>
 (wQ n ([([83]:Cn),a0,a,b]:List Cn)).bind fun c=>
 some c
theorem XJ {n a0 a1 a2 r}:kc n a0 a1 a2=some r→AC mx 316 [qs a0,qi a1,qi a2] [] (qs r) []:=
 fnL Tryz.func316 rfl<|rgL<|bEL fun d a=>bEL fun e b=>bEL fun f c=>rCL (kCL 2 A1 (jO a)<|kCL 4 A1 (jV b)<|kCL 6 A1 (jb c) edL)<|rKL A1
def wZ (n:Nat)(a4 a1 a2:Int)(a0:Cn):Nat→Cn→Int→Option Cn
 |0,_,_=>none
 | k+1,b,a=>
  if decide (a<a4)then((jf n a1).bind fun c=>
  (wv n a2).bind fun d=>
  (wv n a).bind fun e=>
  (wQ n ([([67]:Cn),a0,c,d,e,b]:List Cn)).bind fun f=>
  wZ n a4 a1 a2 a0 k f (wrap .i64 (a+1)))else(some b)
def bL (n:Nat)(a0:Cn)(a1 a2 a3 a4:Int)(a5:Cn):Option Cn:=
 (wZ n a4 a1 a2 a0 n a5 a3).bind fun a=>
 some a
theorem W5 {n a0 a1 a2 a3 a4 a5 r}:bL n a0 a1 a2 a3 a4 a5=some r→AC mx 315 [qs a0,qi a1,qi a2,qi a3,qi a4,qs a5] [] (qs r) []:=
 fnL Tryz.func315 rfl<|rgL<|rgL<|blL (fun a=>⟨31,[(5,qs a)]⟩) (fun a=>⟨[],[]⟩) (fun a=>lpL (fun k x=>wZ n a4 a1 a2 a0 k x.1 x.2) (a5,a3) A1 (fun x=>⟨31,[(0,qs a0),(1,qi a1),(2,qi a2),(4,qi a4),(5,qs x.1),(13,qi x.2)]⟩) (fun x=>⟨[],[]⟩) fun k x=>by obtain⟨i,b⟩:=x; rw [wZ]; exact rgL<|bFL (zo<|bEL fun j c=>bEL fun l d=>bEL fun m e=>bEL fun f g=>xo zJ (kCL 2 A1 (jO c)<|kCL 4 A1 (jV d)<|kCL 6 A1 (jV e)<|kCL 9 A1 (jb g) edL)<|zp<|z8 zl fun h=>⟨(f,wrap .i64 (b+1)),h,wk A1⟩)<|xjL<|jnL A1) fun a=>rgL<|rKL A1
def xy (n:Nat)(a1:Cn)(a2:Int)(a0:Cn):Nat→Cn→Int→Option Cn
 |0,_,_=>none
 | k+1,b,a=>
  if decide (a<35)then((kc n a1 a2 a).bind fun c=>
  (bL n a0 a2 a 0 15 c).bind fun d=>
  (um b d).bind fun e=>
  xy n a1 a2 a0 k e (wrap .i64 (a+1)))else(some b)
def qW (n:Nat)(a0 a1:Cn)(a2:Int):Option (Cn×Int):=
 (dy n a0 a1 a2).bind fun a=>
 if a !=0 then(some (([]:Cn),a))else((xy n a1 a2 a0 n ([]:Cn) 0).bind fun b=>
 (jf n a2).bind fun c=>
 (wQ n ([([76]:Cn),a0,c,b]:List Cn)).bind fun d=>
 some (d,0))
theorem XI {n a0 a1 a2 r}:qW n a0 a1 a2=some r→AC mx 294 [qs a0,qs a1,qi a2] [] (.tuple [qs r.1,qi r.2]) []:=
 fnL Tryz.func294 rfl<|rgL<|bC 3 A1 Wv fun j=>rgL<|bFL (rgL<|rKL A1)<|rgL<|rgL<|blL (fun a=>⟨38,[(0,qs a0),(2,qi a2),(9,qs a)]⟩) (fun a=>⟨[],[]⟩) (fun a=>lpL (fun k x=>xy n a1 a2 a0 k x.1 x.2) (([]:Cn),0) A1 (fun x=>⟨38,[(0,qs a0),(1,qs a1),(2,qi a2),(9,qs x.1),(10,qi x.2)]⟩) (fun x=>⟨[],[]⟩) fun k x=>by obtain⟨l,b⟩:=x; rw [xy]; exact rgL<|bFL (zo<|bEL fun m c=>bEL fun o d=>bEL fun e f=>xo zJ (kCL 7 A1 (XJ c)<|kCL 8 A1 (W5 d)<|kPL 9 (zK f) edL)<|zp<|z8 zl fun h=>⟨(e,wrap .i64 (b+1)),h,wk A1⟩)<|xjL<|jnL A1) fun a=>bEL fun s g=>bEL fun u i=>rCL (kCL 2 A1 (jO g)<|kCL 5 A1 (jb i) edL)<|rKL A1
def wL (n:Nat)(a1:Int)(b a0:Cn):Nat→(List Cn)→Int→Option (List Cn)
 |0,_,_=>none
 | k+1,c,a=>
  (Uy .i64 1 a1).bind fun d=>
  if decide (a<d)then((qW n b a0 a).bind fun e=>
  (jR 16 c ([e.1]:List Cn)).bind fun f=>
  wL n a1 b a0 k f (wrap .i64 (a+1)))else(some c)
def jw (n:Nat)(b:List Cn)(c:Int)(d:Cn):Nat→(List Cn)→Int→Option (List Cn)
 |0,_,_=>none
 | k+1,e,a=>
  if decide ((wrap .i64 (a+1))<(b.length:Int))then((zM b a).bind fun f=>
  (zM b (wrap .i64 (a+1))).bind fun g=>
  (wv n c).bind fun i=>
  (jf n (wrap .i64 (Int.tdiv a 2))).bind fun j=>
  (wQ n ([([78]:Cn),d,i,j,f,g]:List Cn)).bind fun l=>
  (jR 16 e ([l]:List Cn)).bind fun m=>
  jw n b c d k m (wrap .i64 (a+2)))else(some e)
def ua (n:Nat)(a1:Int)(b:Cn):Nat→(List Cn)→Int→(List (List Cn))→Option (List (List Cn))
 |0,_,_,_=>none
 | k+1,e,a,c=>
  if decide (a<a1)then((jw n e a b n ([]:List Cn) 0).bind fun d=>
  (jR 24 c ([d]:List (List Cn))).bind fun f=>
  ua n a1 b k d (wrap .i64 (a+1)) f)else(some c)
def j9 (n:Nat)(a0:Cn)(a1:Int):Option (yS×Int):=
 if(a0.length:Int) !=32 then(some ((yS.mk ([]:Cn) ([]:Cn) ([]:List (List Cn))),18))else((if decide (a1<0)then(some true)else(some (decide (a1>8)))).bind fun c=>
 if c then(some ((yS.mk ([]:Cn) ([]:Cn) ([]:List (List Cn))),1))else((wQ n ([([73]:Cn),a0]:List Cn)).bind fun a=>
 (wL n a1 a a0 n ([]:List Cn) 0).bind fun b=>
 (jR 24 [] ([b]:List (List Cn))).bind fun d=>
 (ua n a1 a n b 0 d).bind fun e=>
 some ((yS.mk a0 a e),0)))
theorem Y9 {n a0 a1 r}:j9 n a0 a1=some r→AC mx 271 [qs a0,qi a1] [] (.tuple [.agg (yS.cells r.1),qi r.2]) []:=
 fnL Tryz.func271 rfl<|rgL<|rgL<|bFL (rgL<|rKL A2)<|bEL fun o hE=>rgF hE ⟨95,[(0,qs a0),(1,qi a1),(4,qp 0),(23,qb o)]⟩ ⟨[[qs ([]:Cn),qs [],qn]],[]⟩ (gFL 3 20 (eJ A3)<|eJ A3)<|bFL (rgL<|rKL A2)<|bC 3 A2 jb fun b=>rgL<|rgL<|blL (fun d=>⟨95,[(1,qi a1),(4,qp 0),(6,qp 1),(7, .sl 1 (List.map cS d) (.fam 0 (d.length)))]⟩) (fun d=>⟨[[qs ([]:Cn),qs [],qn],[qs a0,qs b,qn]],[d.length]⟩) (fun d=>yV (wk (fr':=⟨95,[(0,qs a0),(1,qi a1),(4,qp 0),(6,qp 1),(7,qn),(8,qi 0)]⟩) (st':=⟨[[qs ([]:Cn),qs [],qn],[qs a0,qs b,qn]],[]⟩) A5)<|yV Wk.nilFam<|lpL (fun k x=>wL n a1 b a0 k x.1 x.2) (([]:List Cn),0) Ap (fun x=>⟨95,[(0,qs a0),(1,qi a1),(4,qp 0),(6,qp 1),(7, .sl 1 (List.map cS x.1) (.fam 0 (x.1.length))),(8,qi x.2)]⟩) (fun x=>⟨[[qs ([]:Cn),qs [],qn],[qs a0,qs b,qn]],[x.1.length]⟩) fun k x=>by obtain⟨I,s⟩:=x; rw [wL]; exact bP 2 Dr fun J=>bFL (zo<|bC 4 Ao XI fun K=>bEL fun u v=>xo zJ (lfL (fun z=>kA 3 0 cS (e:=9) (e2:=9) (sz:=1) (bytes:=16) (b2:=16) (tok2:= .exact) v z) edL)<|zp<|z8 zl fun h=>⟨(u,wrap .i64 (s+1)),h,wk Ap⟩)<|xjL<|jnL Ap) fun d=>bEL fun w A=>rCL (lfL (fun z=>kN 4 (cL 1 cS) (e:=23) (e2:=23) (sz:=1) (bytes:=24) (b2:=24) (tok2:= .exact) A z) edL)<|rgL<|blL (fun g=>⟨95,[(4,qp 0),(6,qp 1)]⟩) (fun g=>⟨[[qs ([]:Cn),qs [],qn],[qs a0,qs b, .sl 1 (List.map (cL 1 cS) g) (.fam 0 (g.length))]],[g.length]⟩) (fun g=>lpL (fun k x=>ua n a1 b k x.1 x.2.1 x.2.2) (d,0,w) ⟨[0,1],2,[0,1],2⟩ (fun x=>⟨95,[(1,qi a1),(4,qp 0),(6,qp 1),(7, .sl 1 (List.map cS x.1) (.fam 0 (x.1.length))),(11,qi x.2.1)]⟩) (fun x=>⟨[[qs ([]:Cn),qs [],qn],[qs a0,qs b, .sl 1 (List.map (cL 1 cS) x.2.2) (.fam 1 (x.2.2.length))]],[x.1.length,x.2.2.length]⟩) fun k x=>by obtain⟨a,l,c⟩:=x; rw [ua]; exact rgL<|bFL (zo<|rgL<|rgL<|blL (fun f=>⟨95,[(1,qi a1),(4,qp 0),(6,qp 1),(11,qi l),(12, .sl 1 (List.map cS f) (.fam 1 (f.length)))]⟩) (fun f=>⟨[[qs ([]:Cn),qs [],qn],[qs a0,qs b, .sl 1 (List.map (cL 1 cS) c) (.fam 0 (c.length))]],[c.length,f.length]⟩) (fun f=>yV (wk (fr':=⟨95,[(1,qi a1),(4,qp 0),(6,qp 1),(7, .sl 1 (List.map cS a) (.fam 0 (a.length))),(11,qi l),(12,qn),(13,qi 0)]⟩) (st':=⟨[[qs ([]:Cn),qs [],qn],[qs a0,qs b, .sl 1 (List.map (cL 1 cS) c) (.fam 1 (c.length))]],[a.length,c.length]⟩) ⟨[0,1],2,[0,1],2⟩)<|yV Wk.nilFam<|lpL (fun k x=>jw n a l b k x.1 x.2) (([]:List Cn),0) Ca (fun x=>⟨95,[(1,qi a1),(4,qp 0),(6,qp 1),(7, .sl 1 (List.map cS a) (.fam 0 (a.length))),(11,qi l),(12, .sl 1 (List.map cS x.1) (.fam 2 (x.1.length))),(13,qi x.2)]⟩) (fun x=>⟨[[qs ([]:Cn),qs [],qn],[qs a0,qs b, .sl 1 (List.map (cL 1 cS) c) (.fam 1 (c.length))]],[a.length,c.length,x.1.length]⟩) fun k x=>by obtain⟨L,B⟩:=x; rw [jw]; exact cP 3 (ob a (.fam 0 (a.length)))<|bFL (zo<|bEL fun M i=>bEL fun N j=>bEL fun O C=>bEL fun P D=>bEL fun Q E=>bEL fun m F=>lfL (fun z=>zmN zJ [0,1,2,3,5,6,8,9,10,11,12,13,14,15,16,4,7,17,18,19,20,21] [4,7,18,20,21] [[],[],[1],[],[3],[],[5],[3,4,5,6],[],[],[8,9],[8,9,10],[],[],[13],[12,13,14],[12,13,14,15],[1,2,3,4,5,6,7,8,9,10,11,12,13,14,15,16],[1,2,3,4,5,6,7,8,9,10,11,12,13,14,15,16,17],[1,2,3,4,5,6,7,8,9,10,11,12,13,14,15,16,17,18],[0,1,2,3,4,5,6,7,8,9,10,11,12,13,14,15,16,17,18,19],[0,1,2,3,4,5,6,7,8,9,10,11,12,13,14,15,16,17,18,19,20]] [7,11,13] [(1,qi a1),(4,qp 0),(6,qp 1),(12, .sl 1 (List.map cS m) (.fam 2 (m.length)))] ⟨[[qs ([]:Cn),qs [],qn],[qs a0,qs b, .sl 1 (List.map (cL 1 cS) c) (.fam 1 (c.length))]],[a.length,c.length,m.length]⟩ (dS [0,1,2,3,5,6,8,9]<|dP (gN (.fam 0 (a.length)) i)<|dS (zx 11 4)<|dP (gN (.fam 0 (a.length)) j)<|dS [16]<|dC (zr 15 (gN (.fam 0 (a.length)) j) (zr 10 (gN (.fam 0 (a.length)) i) zW)) Cb (jV C)<|dC (zr 15 (gN (.fam 0 (a.length)) j) (zr 10 (gN (.fam 0 (a.length)) i) zW)) Cb (jO D)<|dS [17]<|dC (zr 15 (gN (.fam 0 (a.length)) j) (zr 10 (gN (.fam 0 (a.length)) i) zW)) Cb (jb E)<|dS [19]<|dA (zr 15 (gN (.fam 0 (a.length)) j) (zr 10 (gN (.fam 0 (a.length)) i) zW)) 2 cS (e:=9) (e2:=9) (sz:=1) (bytes:=16) (b2:=16) (tok2:= .exact) F<|dF (zr 15 (gN (.fam 0 (a.length)) j) (zr 10 (gN (.fam 0 (a.length)) i) zW))<|dE Ca) z)<|zp<|z8 zl fun h=>⟨(m,wrap .i64 (B+2)),h,wk Ca⟩)<|xjL<|jnL ⟨[0,1],2,[1,2],3⟩) fun f=>rgL<|bEL fun G H=>xo zJ (lfL (fun z=>kA 4 0 (cL 1 cS) (e:=23) (e2:=23) (sz:=1) (bytes:=24) (b2:=24) (tok2:= .exact) H z) edL)<|zp<|z8 zl fun h=>⟨(f,wrap .i64 (l+1),G),h,wk ⟨[0,1],2,[1,0],2⟩⟩)<|xjL<|jnL ⟨[0,1],2,[1],2⟩) fun g=>rgL<|rKL Ao
def pk (n:Nat)(a0 a1:Int):Option yS:=
 (vG n a0).bind fun a=>
 (j9 n a a1).bind fun b=>
 some b.1
theorem Vr {n a0 a1 r}:pk n a0 a1=some r→AC mx 250 [qi a0,qi a1] [] (.agg (yS.cells r)) []:=
 fnL Tryz.func250 rfl<|rgL<|bEL fun c a=>bEL fun d b=>rCL (kCL 1 A2 (ZB a)<|kCL 3 A2 (Y9 b) edL)<|rgL<|rKL A4
def pr (n:Nat)(a0:Int):Option yS:=
 (pk n (wrap .i64 ((1000:Int)+(Int.tmod a0 8))) 0).bind fun a=>
 some a
theorem VJ {n a0 r}:pr n a0=some r→AC mx 220 [qi a0] [] (.agg (yS.cells r)) []:=
 fnL Tryz.func220 rfl<|rgL<|bC 3 A2 Vr fun a=>rKL A2
def ZT (n:Nat)(a0:yS):Option zB:=
 (zM a0.Vi (wrap .i64 ((a0.Vi.length:Int)-1))).bind fun a=>
 (zM a 0).bind fun b=>
 some (zB.mk (wrap .i64 ((a0.Vi.length:Int)-1)) a0.wj b)
theorem Wy {n a0 r}:ZT n a0=some r→AC mx 219 [.agg (yS.cells a0)] [] (.agg (zB.cells r)) []:=
 fnL Tryz.func219 rfl<|rgL<|cP 2 (tZ a0.Vi)<|bEL fun d a=>bEL fun c b=>lfL (fun z=>zm [0,1,2,3,4,5,6,7,8,9,10,11] [11] [[],[],[1],[],[3],[],[3,4,5],[3,4,5,6],[3,4,5,6,7],[3,4,5,6,7,8],[0,1,2,3,4,5,6,7,8,9],[0,1,2,3,4,5,6,7,8,9,10]] [] [(2,qp 0)] ⟨[[qi (wrap .i64 ((a0.Vi.length:Int)-1)),qs a0.wj,qs c]],[]⟩ (dS (zx 0 6)<|dP (DA a)<|dS [7]<|dP (ww b)<|dS [9,10]<|dF (zr 8 (ww b) (zr 6 (DA a) zW))<|dE A9) z)<|rKL A2
def qV (n:Nat)(a0:Int):Option zB:=
 (pr n a0).bind fun a=>
 (ZT n a).bind fun b=>
 some b
theorem XP {n a0 r}:qV n a0=some r→AC mx 169 [qi a0] [] (.agg (zB.cells r)) []:=
 fnL Tryz.func169 rfl<|rgL<|bEL fun c a=>bEL fun d b=>rCL (kCL 1 A2 (VJ a)<|kCL 2 A2 (Wy b) edL)<|rKL A2
def yz (n:Nat)(a0:Int):Option ze:=
 (dr n a0).bind fun a=>
 (jc n a).bind fun b=>
 (qV n a0).bind fun c=>
 some (ze.mk b c)
theorem vv {n a0 r}:yz n a0=some r→AC mx 110 [qi a0] [] (.agg [ql 1 (cL 3 za.cells) r.zt.zh,qi r.zP.zA,qs r.zP.wj,qs r.zP.zY]) []:=
 fnL Tryz.func110 rfl<|rgL<|bEL fun d a=>bEL fun e b=>bEL fun f c=>rCL (kCL 1 A2 (Wm a)<|kCL 2 A2 (Xb b)<|kCL 4 A2 (XP c) edL)<|rKL A2
def kw (n:Nat)(m0:zf):Option (Int×Cn×Int×(List Cn)×Bool×Bool×Bool×(List zc)×Int×Bool×(List ze)×zf):=
 (zj n 4 m0).bind fun s=>
 (zj n 6 s.2).bind fun u=>
 (zj n 6 u.2).bind fun v=>
 (zj n 6 v.2).bind fun w=>
 (zj n 3 w.2).bind fun A=>
 (zj n 4 A.2).bind fun B=>
 if B.1==1 then((qc n 3 B.2).bind fun G=>
 (bJ n G.1).bind fun J=>
 (zj n 8 G.2).bind fun a=>
 (if a.1==1 then(some (a.2.f_L,a.2.xk,([49,46,51,46,54,46,49,46,53,46,53,46,55,46,51,46,49]:Cn),0,([]:List zc),([]:List ze)))else(if a.1==2 then(some (a.2.f_L,a.2.xk,([]:Cn),1,([]:List zc),([]:List ze)))else(if a.1==3 then((xf n a.2).bind fun e=>
 some (e.2.f_L,e.2.xk,([]:Cn),0,([(zc.mk e.1.zG e.1.yl (zv.mk e.1.zt.zh))]:List zc),([]:List ze)))else(if a.1==4 then((zj n 4 a.2).bind fun C=>
 (yz n C.1).bind fun g=>
 some (C.2.f_L,C.2.xk,([]:Cn),0,([]:List zc),([(ze.mk (zv.mk g.zt.zh) (zB.mk g.zP.zA g.zP.wj g.zP.zY))]:List ze)))else(if a.1==5 then((zj n 4 a.2).bind fun H=>
 (yz n H.1).bind fun i=>
 (zj n 4 H.2).bind fun D=>
 (yz n D.1).bind fun j=>
 some (D.2.f_L,D.2.xk,([]:Cn),0,([]:List zc),([(ze.mk (zv.mk i.zt.zh) (zB.mk i.zP.zA i.zP.wj i.zP.zY)),(ze.mk (zv.mk j.zt.zh) (zB.mk j.zP.zA j.zP.wj j.zP.zY))]:List ze)))else(some (a.2.f_L,a.2.xk,([]:Cn),0,([]:List zc),([]:List ze)))))))).bind fun c=>
 some (2000,c.2.2.1,c.2.2.2.1,J,u.1==1,v.1==1,w.1==1,c.2.2.2.2.1,wrap .i64 ((1:Int)+s.1),A.1==1,c.2.2.2.2.2,(zf.mk c.1 c.2.1)))else((zj n 8 B.2).bind fun b=>
 (if b.1==1 then(some (b.2.f_L,b.2.xk,([49,46,51,46,54,46,49,46,53,46,53,46,55,46,51,46,49]:Cn),0,([]:List zc),([]:List ze)))else(if b.1==2 then(some (b.2.f_L,b.2.xk,([]:Cn),1,([]:List zc),([]:List ze)))else(if b.1==3 then((xf n b.2).bind fun f=>
 some (f.2.f_L,f.2.xk,([]:Cn),0,([(zc.mk f.1.zG f.1.yl (zv.mk f.1.zt.zh))]:List zc),([]:List ze)))else(if b.1==4 then((zj n 4 b.2).bind fun E=>
 (yz n E.1).bind fun l=>
 some (E.2.f_L,E.2.xk,([]:Cn),0,([]:List zc),([(ze.mk (zv.mk l.zt.zh) (zB.mk l.zP.zA l.zP.wj l.zP.zY))]:List ze)))else(if b.1==5 then((zj n 4 b.2).bind fun I=>
 (yz n I.1).bind fun m=>
 (zj n 4 I.2).bind fun F=>
 (yz n F.1).bind fun o=>
 some (F.2.f_L,F.2.xk,([]:Cn),0,([]:List zc),([(ze.mk (zv.mk m.zt.zh) (zB.mk m.zP.zA m.zP.wj m.zP.zY)),(ze.mk (zv.mk o.zt.zh) (zB.mk o.zP.zA o.zP.wj o.zP.zY))]:List ze)))else(some (b.2.f_L,b.2.xk,([]:Cn),0,([]:List zc),([]:List ze)))))))).bind fun d=>
 some (2000,d.2.2.1,d.2.2.2.1,([]:List Cn),u.1==1,v.1==1,w.1==1,d.2.2.2.2.1,wrap .i64 ((1:Int)+s.1),A.1==1,d.2.2.2.2.2,(zf.mk d.1 d.2.1)))
theorem WB {n m0 r}:kw n m0=some r→ACf mx 41 [qp 0] [[ql 1 (cI .i64) m0.f_L,qi m0.xk]] (.agg [qi r.1,qs r.2.1,qi r.2.2.1, .sl 1 (List.map cS r.2.2.2.1) (.fam 0 (r.2.2.2.1.length)),qb r.2.2.2.2.1,qb r.2.2.2.2.2.1,qb r.2.2.2.2.2.2.1, .sl 3 (List.map zc.cells r.2.2.2.2.2.2.2.1) .exact,qi r.2.2.2.2.2.2.2.2.1,qb r.2.2.2.2.2.2.2.2.2.1, .sl 4 (List.map ze.cells r.2.2.2.2.2.2.2.2.2.2.1) .exact]) [[ql 1 (cI .i64) r.2.2.2.2.2.2.2.2.2.2.2.f_L,qi r.2.2.2.2.2.2.2.2.2.2.2.xk]] [r.2.2.2.1.length]:=
 fnL Tryz.func41 rfl<|rgL<|bEL fun d j=>bEL fun e l=>bEL fun f m=>bEL fun g o=>bEL fun i s=>rCL (kCL 1 A7 (zk j)<|kCL 4 A7 (zk l)<|kCL 7 A7 (zk m)<|kCL 10 A7 (zk o)<|kCL 13 A7 (zk s) edL)<|bC 1 Ab zk fun N=>bFL (bEL fun O u=>bEL fun c v=>rCL (kCL 1 Ab (Y1 u)<|kCL 2 Al (Vd v) edL)<|bC 1 An zk fun P=>blL (fun a=>⟨59,[(2,qp 1),(3,qp 2)]⟩) (fun a=>⟨[[ql 1 (cI .i64) a.1,qi a.2.1],[qi 0,qs [],qi 0,qn,qb false,qb false,qb false,qn,qi 0,qb false,qn],[qi 2000,qs a.2.2.1,qi a.2.2.2.1, .sl 1 (List.map cS c) (.fam 0 (c.length)),qb (e.1==1),qb (f.1==1),qb (g.1==1), .sl 3 (List.map zc.cells a.2.2.2.2.1) .exact,qi (wrap .i64 ((1:Int)+d.1)),qb (i.1==1), .sl 4 (List.map ze.cells a.2.2.2.2.2) .exact]],[c.length]⟩) (fun a=>rgL<|bFL (z8 zX<|jnL Av)<|rgL<|bFL (z8 zX<|jnL Av)<|rgL<|bFL (bEL fun Q w=>xo zX (kCL 1 An (jN w) edL)<|jnL Av)<|rgL<|bFL (bEL fun R A=>bEL fun S B=>xo zX (kCL 1 An (zk A)<|kCL 2 Cc (vv B) edL)<|jnL Av)<|rgL<|bFL (bEL fun T C=>bEL fun U D=>bEL fun V E=>bEL fun W F=>xo zX (kCL 1 An (zk C)<|kCL 2 Cc (vv D)<|kCL 4 An (zk E)<|kCL 5 Cc (vv F) edL)<|jnL Av)<|jnL Av) fun a=>rgL<|rKL Cd)<|bC 1 Ab zk fun X=>blL (fun b=>⟨59,[(2,qp 1),(3,qp 2)]⟩) (fun b=>⟨[[ql 1 (cI .i64) b.1,qi b.2.1],[qi 0,qs [],qi 0,qn,qb false,qb false,qb false,qn,qi 0,qb false,qn],[qi 2000,qs b.2.2.1,qi b.2.2.2.1,qn,qb (e.1==1),qb (f.1==1),qb (g.1==1), .sl 3 (List.map zc.cells b.2.2.2.2.1) .exact,qi (wrap .i64 ((1:Int)+d.1)),qb (i.1==1), .sl 4 (List.map ze.cells b.2.2.2.2.2) .exact]],[]⟩) (fun b=>rgL<|bFL (z8 zX<|jnL Ac)<|rgL<|bFL (z8 zX<|jnL Ac)<|rgL<|bFL (bEL fun Y G=>xo zX (kCL 1 Ab (jN G) edL)<|jnL Ac)<|rgL<|bFL (bEL fun Z H=>bEL fun a0 I=>xo zX (kCL 1 Ab (zk H)<|kCL 2 A8 (vv I) edL)<|jnL Ac)<|rgL<|bFL (bEL fun a1 J=>bEL fun a2 K=>bEL fun a3 L=>bEL fun a4 M=>xo zX (kCL 1 Ab (zk J)<|kCL 2 A8 (vv K)<|kCL 4 Ab (zk L)<|kCL 5 A8 (vv M) edL)<|jnL Ac)<|jnL Ac) fun b=>rgL<|yV Wk.nilFam<|rKL Cd
def gr (n:Nat)(m0:zf):Option (Int×zf):=
 (zj n 7 m0).bind fun a=>
 (zM ([0,1000,2000000000,3155759999,3155760000,254033452799,2400000000]:List Int) a.1).bind fun b=>
 some (b,a.2)
theorem VI {n m0 r}:gr n m0=some r→AC mx 28 [qp 0] [[ql 1 (cI .i64) m0.f_L,qi m0.xk]] (qi r.1) [[ql 1 (cI .i64) r.2.f_L,qi r.2.xk]]:=
 fnL Tryz.func28 rfl<|rgL<|bEL fun c a=>bEL fun d b=>rCL (kCL 2 A3 (zk a)<|kPL 3 (Vq b) edL)<|rKL A3
def je (n:Nat)(m0:zf):Option (zB×zf):=
 (zj n 50 m0).bind fun b=>
 (vG n b.1).bind fun a=>
 (ssl a 0 16).bind fun d=>
 (ssl a 16 (a.length)).bind fun e=>
 (zj n 9 b.2).bind fun c=>
 some ((zB.mk c.1 d e),c.2)
theorem Z8 {n m0 r}:je n m0=some r→AC mx 33 [qp 0] [[ql 1 (cI .i64) m0.f_L,qi m0.xk]] (.agg (zB.cells r.1)) [[ql 1 (cI .i64) r.2.f_L,qi r.2.xk]]:=
 fnL Tryz.func33 rfl<|rgL<|bEL fun j d=>bEL fun l e=>rCL (kCL 1 A7 (zk d)<|kCL 2 A4 (ZB e) edL)<|bEL fun f a=>bEL fun g b=>bEL fun c i=>lfL (fun z=>zm [0,2,3,4,5,1,6,7] [1,7] [[],[0],[],[2],[],[4],[0,1,2,3,4,5],[0,1,2,3,4,5,6]] [] [(2,qp 1)] ⟨[[ql 1 (cI .i64) c.2.f_L,qi c.2.xk],[qi c.1,qs f,qs g]],[]⟩ (dS [0,2]<|dP (xn a)<|dS [4]<|dP (xc b)<|dC (zr 5 (xc b) (zr 3 (xn a) zW)) A7 (zk i)<|dS [6]<|dF (zr 5 (xc b) (zr 3 (xn a) zW))<|dE A5) z)<|rKL A7
def kH (n:Nat)(m0:zf):Option (zz×zf):=
 (kw n m0).bind fun a=>
 (gr n a.2.2.2.2.2.2.2.2.2.2.2).bind fun o=>
 (zj n 512 o.2).bind fun s=>
 (zj n 3 s.2).bind fun b=>
 (if decide (b.1>0)then((xf n b.2).bind fun c=>
 (gP 48 a.2.2.2.2.2.2.2.1 ([(zc.mk c.1.zG c.1.yl (zv.mk c.1.zt.zh))]:List zc)).bind fun u=>
 if decide ((wrap .i64 (b.1-1))>0)then((xf n c.2).bind fun e=>
 (jR 48 u ([(zc.mk e.1.zG e.1.yl (zv.mk e.1.zt.zh))]:List zc)).bind fun B=>
 if decide ((wrap .i64 ((wrap .i64 (b.1-1))-1))>0)then(none)else(some (e.2.f_L,e.2.xk,B)))else(some (c.2.f_L,c.2.xk,u)))else(some (b.2.f_L,b.2.xk,a.2.2.2.2.2.2.2.1))).bind fun i=>
 (zj n 3 (zf.mk i.1 i.2.1)).bind fun d=>
 (if decide (d.1>0)then((vF n d.2).bind fun v=>
 (je n v.2).bind fun f=>
 (gP 64 a.2.2.2.2.2.2.2.2.2.2.1 ([(ze.mk v.1 f.1)]:List ze)).bind fun w=>
 if decide ((wrap .i64 (d.1-1))>0)then((vF n f.2).bind fun A=>
 (je n A.2).bind fun j=>
 (jR 64 w ([(ze.mk A.1 j.1)]:List ze)).bind fun C=>
 if decide ((wrap .i64 ((wrap .i64 (d.1-1))-1))>0)then(none)else(some (j.2.f_L,j.2.xk,C)))else(some (f.2.f_L,f.2.xk,w)))else(some (d.2.f_L,d.2.xk,a.2.2.2.2.2.2.2.2.2.2.1))).bind fun l=>
 (zj n 24 (zf.mk l.1 l.2.1)).bind fun g=>
 (if g.1==1 then(some (a.2.1,a.2.2.2.1,0))else(if g.1==2 then(some (([51,46,49]:Cn),a.2.2.2.1,a.2.2.2.2.2.2.2.2.1))else(if g.1==3 then((jR 16 a.2.2.2.1 ([([49,46,50,46,51]:Cn),([49,46,50,46,51]:Cn)]:List Cn)).bind fun D=>
 some (a.2.1,D,a.2.2.2.2.2.2.2.2.1))else(some (a.2.1,a.2.2.2.1,a.2.2.2.2.2.2.2.2.1))))).bind fun m=>
 some ((zz.mk o.1 m.1 s.1 m.2.1 a.2.2.2.2.1 a.2.2.2.2.2.1 a.2.2.2.2.2.2.1 i.2.2 m.2.2 a.2.2.2.2.2.2.2.2.2.1 l.2.2),g.2)
theorem Wn {n m0 r}:kH n m0=some r→AC mx 12 [qp 0] [[ql 1 (cI .i64) m0.f_L,qi m0.xk]] (.agg (zz.cells r.1)) [[ql 1 (cI .i64) r.2.f_L,qi r.2.xk]]:=
 fnL Tryz.func12 rfl<|rgL<|bC 1 A7 WB fun a=>bC 1 Ag VI fun d=>bC 1 Ag zk fun f=>bC 1 Ag zk fun j=>blL (fun b=>⟨59,[(0,qp 0),(2,qp 1),(3,qp 2)]⟩) (fun b=>⟨[[ql 1 (cI .i64) b.1,qi b.2.1],[qi 0,qs [],qi 0,qn,qb false,qb false,qb false,qn,qi 0,qb false,qn],[qi d.1,qs a.2.1,qi f.1, .sl 1 (List.map cS a.2.2.2.1) (.fam 0 (a.2.2.2.1.length)),qb a.2.2.2.2.1,qb a.2.2.2.2.2.1,qb a.2.2.2.2.2.2.1,ql 3 zc.cells b.2.2,qi a.2.2.2.2.2.2.2.2.1,qb a.2.2.2.2.2.2.2.2.2.1, .sl 4 (List.map ze.cells a.2.2.2.2.2.2.2.2.2.2.1) .exact]],[a.2.2.2.1.length]⟩) (fun b=>yV (wk (fr':=⟨59,[(0,qp 0),(2,qp 1),(3,qp 2),(4,qi j.1)]⟩) (st':=⟨[[ql 1 (cI .i64) j.2.f_L,qi j.2.xk],[qi 0,qs [],qi 0,qn,qb false,qb false,qb false,qn,qi 0,qb false,qn],[qi d.1,qs a.2.1,qi f.1, .sl 1 (List.map cS a.2.2.2.1) (.fam 0 (a.2.2.2.1.length)),qb a.2.2.2.2.1,qb a.2.2.2.2.2.1,qb a.2.2.2.2.2.2.1, .sl 3 (List.map zc.cells a.2.2.2.2.2.2.2.1) .exact,qi a.2.2.2.2.2.2.2.2.1,qb a.2.2.2.2.2.2.2.2.2.1, .sl 4 (List.map ze.cells a.2.2.2.2.2.2.2.2.2.2.1) .exact]],[a.2.2.2.1.length]⟩) Af)<|lfL (fun z=>Gd 3 z)<|GX<|rgL<|bFL (zo<|bEL fun v D=>bEL fun l E=>lfL (fun z=>zmN zJ [0,1,2,3,4,5,6,7] [3,5,7] [[],[0],[],[2],[2,3],[0,1,2,3,4],[0,1,2,3,4,5],[0,1,2,3,4,5,6]] [4] [(0,qp 0),(2,qp 1),(3,qp 2)] ⟨[[ql 1 (cI .i64) v.2.f_L,qi v.2.xk],[qi 0,qs [],qi 0,qn,qb false,qb false,qb false,qn,qi 0,qb false,qn],[qi d.1,qs a.2.1,qi f.1, .sl 1 (List.map cS a.2.2.2.1) (.fam 0 (a.2.2.2.1.length)),qb a.2.2.2.2.1,qb a.2.2.2.2.2.1,qb a.2.2.2.2.2.2.1, .sl 3 (List.map zc.cells l) (.fam 1 (l.length)),qi a.2.2.2.2.2.2.2.2.1,qb a.2.2.2.2.2.2.2.2.2.1, .sl 4 (List.map ze.cells a.2.2.2.2.2.2.2.2.2.2.1) .exact]],[a.2.2.2.1.length,l.length]⟩ (dS [0,1,2]<|dC zW Ag (jN D)<|dS [4]<|dV zW 3 1 3 (XQ (T:=tyT) (c:=zc.cells) (e:=59) (e2:=59) (sz:=3) (bytes:=48) (b2:=48) (tok2:= .exact) (cell:=none) O8 E)<|dS [6]<|dF zW<|dE Am) z)<|zp<|z8 VK<|XG<|rgL<|bFL (zo<|bEL fun w F=>bEL fun m G=>lfL (fun z=>zmN zJ [0,1,2,3,4,5,6,7] [3,5,7] [[],[0],[],[2],[2,3],[0,1,2,3,4],[0,1,2,3,4,5],[0,1,2,3,4,5,6]] [4] [(0,qp 0),(2,qp 1),(3,qp 2)] ⟨[[ql 1 (cI .i64) w.2.f_L,qi w.2.xk],[qi 0,qs [],qi 0,qn,qb false,qb false,qb false,qn,qi 0,qb false,qn],[qi d.1,qs a.2.1,qi f.1, .sl 1 (List.map cS a.2.2.2.1) (.fam 0 (a.2.2.2.1.length)),qb a.2.2.2.2.1,qb a.2.2.2.2.2.1,qb a.2.2.2.2.2.2.1, .sl 3 (List.map zc.cells m) (.fam 1 (m.length)),qi a.2.2.2.2.2.2.2.2.1,qb a.2.2.2.2.2.2.2.2.2.1, .sl 4 (List.map ze.cells a.2.2.2.2.2.2.2.2.2.2.1) .exact]],[a.2.2.2.1.length,m.length]⟩ (dS [0,1,2]<|dC zW An (jN F)<|dS [4]<|dA zW 1 zc.cells (e:=59) (e2:=59) (sz:=3) (bytes:=48) (b2:=48) (tok2:= .exact) G<|dS [6]<|dF zW<|dE Am) z)<|zp<|z8 VK<|XG<|rgL<|bFL nEL<|xjL<|jnL Au)<|xjL<|jnL Au)<|xjL<|jnL Af) fun b=>bC 1 Ag zk fun o=>blL (fun i=>⟨59,[(0,qp 0),(2,qp 1),(3,qp 2)]⟩) (fun i=>⟨[[ql 1 (cI .i64) i.1,qi i.2.1],[qi 0,qs [],qi 0,qn,qb false,qb false,qb false,qn,qi 0,qb false,qn],[qi d.1,qs a.2.1,qi f.1, .sl 1 (List.map cS a.2.2.2.1) (.fam 0 (a.2.2.2.1.length)),qb a.2.2.2.2.1,qb a.2.2.2.2.2.1,qb a.2.2.2.2.2.2.1,ql 3 zc.cells b.2.2,qi a.2.2.2.2.2.2.2.2.1,qb a.2.2.2.2.2.2.2.2.2.1,ql 4 ze.cells i.2.2]],[a.2.2.2.1.length]⟩) (fun i=>yV (wk (fr':=⟨59,[(0,qp 0),(2,qp 1),(3,qp 2),(5,qi o.1)]⟩) (st':=⟨[[ql 1 (cI .i64) o.2.f_L,qi o.2.xk],[qi 0,qs [],qi 0,qn,qb false,qb false,qb false,qn,qi 0,qb false,qn],[qi d.1,qs a.2.1,qi f.1, .sl 1 (List.map cS a.2.2.2.1) (.fam 0 (a.2.2.2.1.length)),qb a.2.2.2.2.1,qb a.2.2.2.2.2.1,qb a.2.2.2.2.2.2.1,ql 3 zc.cells b.2.2,qi a.2.2.2.2.2.2.2.2.1,qb a.2.2.2.2.2.2.2.2.2.1, .sl 4 (List.map ze.cells a.2.2.2.2.2.2.2.2.2.2.1) .exact]],[a.2.2.2.1.length]⟩) Af)<|lfL (fun z=>Gd 3 z)<|GX<|rgL<|bFL (zo<|bEL fun O H=>bEL fun A I=>bEL fun s J=>lfL (fun z=>zmN zJ [0,1,2,4,3,5,6,7,8,9,10] [3,5,8,10] [[],[0],[],[2],[],[2,3,4],[2,3,4,5],[2,3,4,5,6],[0,1,2,3,4,5,6,7],[0,1,2,3,4,5,6,7,8],[0,1,2,3,4,5,6,7,8,9]] [5] [(0,qp 0),(2,qp 1),(3,qp 2)] ⟨[[ql 1 (cI .i64) A.2.f_L,qi A.2.xk],[qi 0,qs [],qi 0,qn,qb false,qb false,qb false,qn,qi 0,qb false,qn],[qi d.1,qs a.2.1,qi f.1, .sl 1 (List.map cS a.2.2.2.1) (.fam 0 (a.2.2.2.1.length)),qb a.2.2.2.2.1,qb a.2.2.2.2.2.1,qb a.2.2.2.2.2.2.1,ql 3 zc.cells b.2.2,qi a.2.2.2.2.2.2.2.2.1,qb a.2.2.2.2.2.2.2.2.2.1, .sl 4 (List.map ze.cells s) (.fam 1 (s.length))]],[a.2.2.2.1.length,s.length]⟩ (dS [0,1,2,4]<|dC zW Ag (gR H)<|dC zW Ag (Z8 I)<|dS [6,7]<|dV zW 3 1 3 (XQ (T:=tyT) (c:=ze.cells) (e:=68) (e2:=68) (sz:=4) (bytes:=64) (b2:=64) (tok2:= .exact) (cell:=none) O8 J)<|dS [9]<|dF zW<|dE Am) z)<|zp<|z8 VK<|XG<|rgL<|bFL (zo<|bEL fun P K=>bEL fun B L=>bEL fun u M=>lfL (fun z=>zmN zJ [0,1,2,4,3,5,6,7,8,9,10] [3,5,8,10] [[],[0],[],[2],[],[2,3,4],[2,3,4,5],[2,3,4,5,6],[0,1,2,3,4,5,6,7],[0,1,2,3,4,5,6,7,8],[0,1,2,3,4,5,6,7,8,9]] [5] [(0,qp 0),(2,qp 1),(3,qp 2)] ⟨[[ql 1 (cI .i64) B.2.f_L,qi B.2.xk],[qi 0,qs [],qi 0,qn,qb false,qb false,qb false,qn,qi 0,qb false,qn],[qi d.1,qs a.2.1,qi f.1, .sl 1 (List.map cS a.2.2.2.1) (.fam 0 (a.2.2.2.1.length)),qb a.2.2.2.2.1,qb a.2.2.2.2.2.1,qb a.2.2.2.2.2.2.1,ql 3 zc.cells b.2.2,qi a.2.2.2.2.2.2.2.2.1,qb a.2.2.2.2.2.2.2.2.2.1, .sl 4 (List.map ze.cells u) (.fam 1 (u.length))]],[a.2.2.2.1.length,u.length]⟩ (dS [0,1,2,4]<|dC zW An (gR K)<|dC zW An (Z8 L)<|dS [6,7]<|dA zW 1 ze.cells (e:=68) (e2:=68) (sz:=4) (bytes:=64) (b2:=64) (tok2:= .exact) M<|dS [9]<|dF zW<|dE Am) z)<|zp<|z8 VK<|XG<|rgL<|bFL nEL<|xjL<|jnL Au)<|xjL<|jnL Au)<|xjL<|jnL Af) fun i=>bC 1 Ag zk fun C=>blL (fun g=>⟨59,[(2,qp 1),(3,qp 2)]⟩) (fun g=>⟨[[ql 1 (cI .i64) C.2.f_L,qi C.2.xk],[qi 0,qs [],qi 0,qn,qb false,qb false,qb false,qn,qi 0,qb false,qn],[qi d.1,qs g.1,qi f.1, .sl 1 (List.map cS g.2.1) (.fam 0 (g.2.1.length)),qb a.2.2.2.2.1,qb a.2.2.2.2.2.1,qb a.2.2.2.2.2.2.1,ql 3 zc.cells b.2.2,qi g.2.2,qb a.2.2.2.2.2.2.2.2.2.1,ql 4 ze.cells i.2.2]],[g.2.1.length]⟩) (fun g=>rgL<|bFL (z8 zX<|jnL Af)<|rgL<|bFL (z8 zX<|jnL Af)<|rgL<|bFL (bEL fun Q N=>xo zX (lfL (fun z=>kA 3 0 cS (e:=9) (e2:=9) (sz:=1) (bytes:=16) (b2:=16) (tok2:= .exact) N z) edL)<|jnL Af)<|jnL Af) fun g=>rgL<|rKL Ag
def w4 (n:Nat)(a:Cn):Nat→Int→Int→Option Int
 |0,_,_=>none
 | k+1,c,b=>
  if decide (b<(a.length:Int))then((yr a b).bind fun d=>
  w4 n a k (wrap .i64 ((wrap .i64 ((10:Int)*c))+(wrap .i64 (wrap .u8 (d-48))))) (wrap .i64 (b+1)))else(some c)
def y4 (n:Nat)(a0:Cn):Nat→(List Int)→Int→Int→Option (Ctl ((List Int)×Bool) (List Int))
 |0,_,_,_=>none
 | k+1,b,d,a=>
  if decide (a≤(a0.length:Int))then(yb ((if decide (a<(a0.length:Int))then((yr a0 a).bind fun g=>
  some (g !=46))else(some false)).bind fun i=>
  if i then(((yr a0 a).bind fun j=>
  if decide (j<48)then(some true)else((yr a0 a).bind fun l=>
  some (decide (l>57)))).bind fun m=>
  if m then(some (.ret (([]:List Int),false)))else(some (.nxt (b,d))))else((ssl a0 d a).bind fun c=>
  (if(c.length:Int)==0 then(some true)else(if decide ((c.length:Int)>10)then(some true)else(if decide ((c.length:Int)>1)then((yr c 0).bind fun o=>
  if o==48 then(some true)else(some ((b.length:Int)==12)))else(some ((b.length:Int)==12))))).bind fun s=>
  if s then(some (.ret (([]:List Int),false)))else((w4 n c n 0 0).bind fun e=>
  if decide (e>2147483647)then(some (.ret (([]:List Int),false)))else((jR 8 b ([e]:List Int)).bind fun u=>
  some (.nxt (u,wrap .i64 (a+1))))))) (fun r=>some (.ret r)) (fun f=>
  y4 n a0 k f.1 f.2 (wrap .i64 (a+1))))else(some (.nxt b))
def qf (n:Nat)(a0:Cn):Option ((List Int)×Bool):=
 yb (y4 n a0 n ([]:List Int) 0 0) (fun r=>some r) (fun a=>
 (if decide ((a.length:Int)<2)then(some true)else((zM a 0).bind fun b=>
 if decide (b>2)then(some true)else((zM a 0).bind fun c=>
 if decide (c<2)then((zM a 1).bind fun d=>
 some (decide (d>39)))else(some false)))).bind fun e=>
 if e then(some (([]:List Int),false))else(some (a,true)))
theorem Zc {n a0 r}:qf n a0=some r→AC mx 128 [qs a0] [] (.tuple [ql 1 (cI .i64) r.1,qb r.2]) []:=
 fnL Tryz.func128 rfl<|rgL<|rgL<|rgL<|rgL<|bcL (fun b=>⟨107,[(4, .sl 1 (List.map (cI .i64) b) (.fam 0 (b.length)))]⟩) (fun b=>⟨[],[b.length]⟩) (fun K g=>yV (wk (fr':=⟨107,[(0,qs a0),(4,qn),(5,qi 0),(6,qi 0)]⟩) (st':=⟨[],[]⟩) A1)<|yV Wk.nilFam<|lpL (fun k x=>y4 n a0 k x.1 x.2.1 x.2.2) (([]:List Int),0,0) A6 (fun x=>⟨107,[(0,qs a0),(4, .sl 1 (List.map (cI .i64) x.1) (.fam 0 (x.1.length))),(5,qi x.2.1),(6,qi x.2.2)]⟩) (fun x=>⟨[],[x.1.length]⟩) fun k x=>by obtain⟨a,l,d⟩:=x; rw [y4]; exact rgL<|bFL (bcL (fun c=>⟨107,[(0,qs a0),(4, .sl 1 (List.map (cI .i64) c.1) (.fam 0 (c.1.length))),(5,qi c.2),(6,qi d)]⟩) (fun c=>⟨[],[c.1.length]⟩) (fun L i=>bEL fun m hE=>rgF hE ⟨107,[(0,qs a0),(4, .sl 1 (List.map (cI .i64) a) (.fam 0 (a.length))),(5,qi l),(6,qi d),(25,qb m)]⟩ ⟨[],[a.length]⟩ (gFL 5 20 (bEL fun M o=>kPL 7 (zS o)<|eJ A6)<|eJ A6)<|bFL (bEL fun s hE=>rgF hE ⟨107,[(0,qs a0),(4, .sl 1 (List.map (cI .i64) a) (.fam 0 (a.length))),(5,qi l),(6,qi d),(35,qb s)]⟩ ⟨[],[a.length]⟩ (bEL fun N u=>kPL 2 (zS u)<|gFL 5 30 (eJ A6)<|bEL fun O v=>kPL 7 (zS v)<|eJ A6)<|bFL (rgL<|ya<|hvL i<|yn<|wo<|hvL g<|yn<|rJ Aa)<|bW<|dM<|jCL A6)<|bP 3 zO fun j=>bEL fun w hE=>rgF hE ⟨107,[(0,qs a0),(4, .sl 1 (List.map (cI .i64) a) (.fam 0 (a.length))),(6,qi d),(7,qs j),(62,qb w)]⟩ ⟨[],[a.length]⟩ (gFL 4 43 (eJ A6)<|gFL 9 48 (eJ A6)<|gFL 13 52 (bEL fun P A=>kPL 14 (zS A)<|gFL 19 58 (eJ A6)<|kPL 20 (Ge a (.fam 0 (a.length)))<|eJ A6)<|kPL 20 (Ge a (.fam 0 (a.length)))<|eJ A6)<|bFL (rgL<|ya<|hvL i<|yn<|wo<|hvL g<|yn<|rJ Aa)<|rgL<|rgL<|blL (fun f=>⟨107,[(0,qs a0),(4, .sl 1 (List.map (cI .i64) a) (.fam 0 (a.length))),(6,qi d),(8,qi f)]⟩) (fun f=>⟨[],[a.length]⟩) (fun f=>lpL (fun k x=>w4 n j k x.1 x.2) (0,0) A6 (fun x=>⟨107,[(0,qs a0),(4, .sl 1 (List.map (cI .i64) a) (.fam 0 (a.length))),(6,qi d),(7,qs j),(8,qi x.1),(9,qi x.2)]⟩) (fun x=>⟨[],[a.length]⟩) fun k x=>by obtain⟨B,C⟩:=x; rw [w4]; exact rgL<|bFL (zo<|bEL fun D E=>xo zJ (kPL 4 (zS E) edL)<|zp<|z8 zl fun h=>⟨(wrap .i64 ((wrap .i64 ((10:Int)*B))+(wrap .i64 (wrap .u8 (D-48)))),wrap .i64 (C+1)),h,wk A6⟩)<|xjL<|jnL A6) fun f=>rgL<|bFL (rgL<|ya<|hvL i<|yn<|wo<|hvL g<|yn<|rJ Aa)<|bEL fun Q F=>xo zX (lfL (fun z=>kA 3 0 (cI .i64) (e:=3) (e2:=3) (sz:=1) (bytes:=8) (b2:=8) (tok2:= .exact) F z) edL)<|jCL A6) fun c=>z8 zl fun h=>⟨(c.1,c.2,wrap .i64 (d+1)),h,wk A6⟩)<|xjL<|jCL A6) fun b=>bEL fun G hE=>rgF hE ⟨107,[(4, .sl 1 (List.map (cI .i64) b) (.fam 0 (b.length))),(105,qb G)]⟩ ⟨[],[b.length]⟩ (kPL 1 (Ge b (.fam 0 (b.length)))<|gFL 4 88 (eJ A6)<|bEL fun R H=>kPL 5 (Yk (.fam 0 (b.length)) H)<|gFL 10 94 (eJ A6)<|bEL fun S I=>kPL 11 (Yk (.fam 0 (b.length)) I)<|gFL 15 99 (bEL fun T J=>kPL 16 (Yk (.fam 0 (b.length)) J)<|eJ A6)<|eJ A6)<|bFL (rgL<|rKL Aa)<|rgL<|rKL Aa
def wD (n:Nat)(a0:Cn):Option Bool:=
 (qf n a0).bind fun a=>
 some a.2
theorem jz {n a0 r}:wD n a0=some r→AC mx 92 [qs a0] [] (qb r) []:=
 fnL Tryz.func92 rfl<|rgL<|bC 1 A1 Zc fun a=>rgL<|rKL A1
def uJ (n:Nat)(b a0:List Cn)(c:Int):Nat→Int→Option Int
 |0,_=>none
 | k+1,a=>
  (if decide (a>0)then((zM b (wrap .i64 (a-1))).bind fun d=>
  (zM a0 c).bind fun e=>
  some (!(Op.bytesLess d e)))else(some false)).bind fun f=>
  if f then(uJ n b a0 c k (wrap .i64 (a-1)))else(some a)
def uF (n:Nat)(a0:List Cn):Nat→(List Cn)→Int→Option (List Cn)
 |0,_,_=>none
 | k+1,a,b=>
  if decide (b<(a0.length:Int))then(((uJ n a a0 b n (a.length:Int)).bind fun c=>
  (if decide (c<(a.length:Int))then((zM a c).bind fun g=>
  (zM a0 b).bind fun i=>
  some (g==i))else(some false)).bind fun j=>
  if j then(some a)else(((lsl a 0 c).bind fun d=>
  (zM a0 b).bind fun e=>
  (lsl a c (a.length)).bind fun f=>
  if List.isEmpty d then((gP 16 ([]:List Cn) ([e]:List Cn)).bind fun l=>
  (jR 16 l f).bind fun m=>
  some m)else((gP 16 ([]:List Cn) d).bind fun o=>
  (jR 16 o ([e]:List Cn)).bind fun s=>
  (jR 16 s f).bind fun u=>
  some u)).bind fun v=>
  some v)).bind fun w=>
  uF n a0 k w (wrap .i64 (b+1)))else(some a)
def bX (n:Nat)(a0:List Cn):Option (List Cn):=
 (uF n a0 n ([]:List Cn) 0).bind fun a=>
 some a
theorem Vk {n a0 r}:bX n a0=some r→AC mx 122 [ql 1 cS a0] [] (ql 1 cS r) []:=
 fnL Tryz.func122 rfl<|rgL<|rgL<|rgL<|blL (fun m=>⟨61,[(3,ql 1 cS m)]⟩) (fun m=>⟨[],[]⟩) (fun m=>yV (wk (fr':=⟨61,[(0,ql 1 cS a0),(3,ql 1 cS ([]:List Cn)),(4,qi 0)]⟩) (st':=⟨[],[]⟩) A1)<|lpL (fun k x=>uF n a0 k x.1 x.2) (([]:List Cn),0) A1 (fun x=>⟨61,[(0,ql 1 cS a0),(3,ql 1 cS x.1),(4,qi x.2)]⟩) (fun x=>⟨[],[]⟩) fun k x=>by obtain⟨f,g⟩:=x; rw [uF]; exact cP 2 (ue a0)<|bFL (blL (fun i=>⟨61,[(0,ql 1 cS a0),(3,ql 1 cS i),(4,qi g)]⟩) (fun i=>⟨[],[]⟩) (fun i=>cP 1 (ue f)<|blL (fun j=>⟨61,[(0,ql 1 cS a0),(3,ql 1 cS f),(4,qi g),(5,qi j)]⟩) (fun j=>⟨[],[]⟩) (fun j=>lpL (fun k x=>uJ n f a0 g k x) (f.length:Int) A1 (fun x=>⟨61,[(0,ql 1 cS a0),(3,ql 1 cS f),(4,qi g),(5,qi x)]⟩) (fun x=>⟨[],[]⟩) fun k s=>by rw [uJ]; exact bEL fun u hE=>lfL (fun z=>drw [0,1,2,3,4,5,6,7,8,9,10,11,12,13] [] [[],[0],[0,1],[0,1,2],[0,1,2],[0,1,2,4],zx 0 6,zx 0 7,[0,1,2],[0,1,2],[0,1,2,8,9],[0,1,2,8,9,10],zx 0 12,zx 0 13] ⟨61,[(0,ql 1 cS a0),(3,ql 1 cS f),(4,qi g),(5,qi s),(27,qb u)]⟩ ⟨[],[]⟩ (have h:=hE; dS [0,1,2]<|hF 16 h (fun h=>bE h fun J v h=>bE h fun K w h=>dS [3,4,5]<|dP (ww v)<|dS [7,8,9]<|dP (ww w)<|dS [11,12,13]<|by cases h; exact dE A1) fun h=>dS (zx 3 11)<|by cases h; exact dE A1) z)<|bFL (zo<|z8 (j3 (P:=Tryz.prog) (gl:=gl0 mx) zl)<|zp fun h=>⟨wrap .i64 (s-1),h,wk A1⟩)<|xjL<|jnL A1) fun j=>bEL fun A hE=>lfL (fun z=>drw [0,1,2,3,4,5,6,7,8,9,10,11,12,13,14] [] [[],[],[1],[0,1,2],zx 0 4,zx 0 5,zx 0 5,zx 0 7,zx 0 8,zx 0 5,zx 0 5,zx 0 5 ++ [9,10],zx 0 5 ++ [9,10,11],zx 0 13,zx 0 14] ⟨61,[(0,ql 1 cS a0),(3,ql 1 cS f),(4,qi g),(5,qi j),(44,qb A)]⟩ ⟨[],[]⟩ (have h:=hE; dS [0,1]<|dP (ue f)<|dS [3,4]<|hF 34 h (fun h=>bE h fun L B h=>bE h fun M C h=>dS [5,6]<|dP (ww B)<|dS [8,9,10]<|dP (ww C)<|dS [12,13,14]<|by cases h; exact dE A1) fun h=>dS (zx 5 10)<|by cases h; exact dE A1) z)<|bFL (bW<|dM<|jnL A1)<|bEL fun o hE=>lfL (fun z=>zdI [0,1,2,3,5,6,7,8,9,11,12,13,4,10,14,15] [4,10,14,15] [[],[],[],[1,2],zx 0 4,[],[],[5,6],[5,6,7],zx 5 4,zx 0 10,[],[],[11,12],zx 0 14,zx 0 15] ⟨61,[(0,ql 1 cS a0),(3, .sl 1 (List.map cS o) (.fam 0 (o.length))),(4,qi g)]⟩ ⟨[],[o.length]⟩ zX (have h:=hE; bE h fun D a h=>bE h fun N b h=>bE h fun O d h=>dS [0,1,2]<|dP (jh a)<|dS [5,6]<|dP (ww b)<|dS [8,9,11,12]<|dP (jd d)<|kF h (fun hb h=>bE h fun Q E h=>bE h fun R F h=>dV (zr 13 (jd d) (zr 7 (ww b) (zr 3 (jh a) zW))) 0 0 0 (Pk (T:=tyT) (c:=cS) (l:=([]:List Cn)) (l2:=D) (e:=9) (e2:=9) (sz:=1) (bytes:=16) (b2:=16) (tok:= .exact) (tok2:= .none) (cell:=none) O8 hb)<|dV (zr 13 (jd d) (zr 7 (ww b) (zr 3 (jh a) zW))) 0 0 0 (XQ (T:=tyT) (c:=cS) (e:=9) (e2:=9) (sz:=1) (bytes:=16) (b2:=16) (tok2:= .exact) (cell:=none) O8 E)<|dA (zr 13 (jd d) (zr 7 (ww b) (zr 3 (jh a) zW))) 0 cS (e:=9) (e2:=9) (sz:=1) (bytes:=16) (b2:=16) (tok2:= .none) F<|dF (zr 13 (jd d) (zr 7 (ww b) (zr 3 (jh a) zW)))<|by cases h; exact dE A6) fun hb h=>bE h fun S G h=>bE h fun U H h=>bE h fun V I h=>dV (zr 13 (jd d) (zr 7 (ww b) (zr 3 (jh a) zW))) 0 0 0 (XQ (T:=tyT) (c:=cS) (e:=9) (e2:=9) (sz:=1) (bytes:=16) (b2:=16) (tok2:= .none) (cell:=none) O8 G)<|dA (zr 13 (jd d) (zr 7 (ww b) (zr 3 (jh a) zW))) 0 cS (e:=9) (e2:=9) (sz:=1) (bytes:=16) (b2:=16) (tok2:= .exact) H<|dA (zr 13 (jd d) (zr 7 (ww b) (zr 3 (jh a) zW))) 0 cS (e:=9) (e2:=9) (sz:=1) (bytes:=16) (b2:=16) (tok2:= .none) I<|dF (zr 13 (jd d) (zr 7 (ww b) (zr 3 (jh a) zW)))<|by cases h; exact dE A6) z)<|jnL Aa) fun i=>z8 zl fun h=>⟨(i,wrap .i64 (g+1)),h,wk A1⟩)<|xjL<|jnL A1) fun m=>rgL<|rKL A1
def wE (n:Nat)(a0:Cn)(a1:Int):Nat→(List Cn)→Int→Int→Option (List Cn)
 |0,_,_,_=>none
 | k+1,b,c,a=>
  if decide (a≤(a0.length:Int))then(((if a==(a0.length:Int)then(some true)else((yr a0 a).bind fun e=>
  some (e==a1))).bind fun f=>
  if f then((ssl a0 c a).bind fun g=>
  (jR 16 b ([g]:List Cn)).bind fun i=>
  some (i,wrap .i64 (a+1)))else(some (b,c))).bind fun d=>
  wE n a0 a1 k d.1 d.2 (wrap .i64 (a+1)))else(some b)
def v6 (n:Nat)(a0:Cn)(a1:Int):Option (List Cn):=
 (wE n a0 a1 n ([]:List Cn) 0 0).bind fun a=>
 some a
theorem pH {n a0 a1 r}:v6 n a0 a1=some r→AC mx 235 [qs a0,qu a1] [] (ql 1 cS r) []:=
 fnL Tryz.func235 rfl<|rgL<|rgL<|rgL<|rgL<|blL (fun b=>⟨35,[(5, .sl 1 (List.map cS b) (.fam 0 (b.length)))]⟩) (fun b=>⟨[],[b.length]⟩) (fun b=>yV (wk (fr':=⟨35,[(0,qs a0),(1,qu a1),(5,qn),(6,qi 0),(7,qi 0)]⟩) (st':=⟨[],[]⟩) A1)<|yV Wk.nilFam<|lpL (fun k x=>wE n a0 a1 k x.1 x.2.1 x.2.2) (([]:List Cn),0,0) A6 (fun x=>⟨35,[(0,qs a0),(1,qu a1),(5, .sl 1 (List.map cS x.1) (.fam 0 (x.1.length))),(6,qi x.2.1),(7,qi x.2.2)]⟩) (fun x=>⟨[],[x.1.length]⟩) fun k x=>by obtain⟨c,f,d⟩:=x; rw [wE]; exact rgL<|bFL (blL (fun a=>⟨35,[(0,qs a0),(1,qu a1),(5, .sl 1 (List.map cS a.1) (.fam 0 (a.1.length))),(6,qi a.2),(7,qi d)]⟩) (fun a=>⟨[],[a.1.length]⟩) (fun a=>bEL fun g hE=>rgF hE ⟨35,[(0,qs a0),(1,qu a1),(5, .sl 1 (List.map cS c) (.fam 0 (c.length))),(6,qi f),(7,qi d),(24,qb g)]⟩ ⟨[],[c.length]⟩ (gFL 5 18 (eJ A6)<|bEL fun m i=>kPL 7 (zS i)<|eJ A6)<|bFL (bEL fun o j=>bEL fun s l=>rCL (kPL 4 (zO j)<|lfL (fun z=>kA 6 0 cS (e:=9) (e2:=9) (sz:=1) (bytes:=16) (b2:=16) (tok2:= .exact) l z) edL)<|z8 zX<|jnL A6)<|jnL A6) fun a=>z8 zl fun h=>⟨(a.1,a.2,wrap .i64 (d+1)),h,wk A6⟩)<|xjL<|jnL A6) fun b=>rgL<|rKL Aa
def xV (n:Nat)(a0:Int):Option Bool:=
 (if decide (a0≥65)then(if decide (a0≤90)then(some true)else(if decide (a0≥97)then(if decide (a0≤122)then(some true)else(if decide (a0≥48)then(some (decide (a0≤57)))else(some false)))else(if decide (a0≥48)then(some (decide (a0≤57)))else(some false))))else(if decide (a0≥97)then(if decide (a0≤122)then(some true)else(if decide (a0≥48)then(some (decide (a0≤57)))else(some false)))else(if decide (a0≥48)then(some (decide (a0≤57)))else(some false)))).bind fun a=>
 some a
theorem j7 {n a0 r}:xV n a0=some r→AC mx 264 [qu a0] [] (qb r) []:=
 fnL Tryz.func264 rfl<|rgL<|bEL fun a hE=>rgF hE ⟨25,[(2,qb a)]⟩ ⟨[],[]⟩ (gFL 3 5 (gFL 7 9 (eJ A1)<|gFL 10 12 (gFL 15 17 (eJ A1)<|gFL 18 20 (eJ A1)<|eJ A1)<|gFL 18 20 (eJ A1)<|eJ A1)<|gFL 10 12 (gFL 15 17 (eJ A1)<|gFL 18 20 (eJ A1)<|eJ A1)<|gFL 18 20 (eJ A1)<|eJ A1)<|rKL A1
def uG (n:Nat)(a:Cn):Nat→Int→Option (Ctl Bool Unit)
 |0,_=>none
 | k+1,b=>
  if decide (b<(a.length:Int))then(((yr a b).bind fun c=>
  (xV n c).bind fun d=>
  if !d then((yr a b).bind fun e=>
  some (e !=45))else(some false)).bind fun f=>
  if f then(some (.ret false))else(uG n a k (wrap .i64 (b+1))))else(some (.nxt ()))
def uH (n:Nat)(b:List Cn):Nat→Int→Option (Ctl Bool Unit)
 |0,_=>none
 | k+1,c=>
  if decide (c<(b.length:Int))then((zM b c).bind fun a=>
  (if decide ((a.length:Int)<1)then(some true)else(if decide ((a.length:Int)>63)then(some true)else((yr a 0).bind fun d=>
  if d==45 then(some true)else((yr a (wrap .i64 ((a.length:Int)-1))).bind fun e=>
  some (e==45))))).bind fun f=>
  if f then(some (.ret false))else(yb (uG n a n 0) (fun r=>some (.ret r)) (fun g=>
  uH n b k (wrap .i64 (c+1)))))else(some (.nxt ()))
def jB (n:Nat)(a0:Cn):Option Bool:=
 if decide ((a0.length:Int)>128)then(some false)else((v6 n a0 46).bind fun a=>
 yb (uH n a n 0) (fun r=>some r) (fun b=>
 some true))
theorem de {n a0 r}:jB n a0=some r→AC mx 233 [qs a0] [] (qb r) []:=
 fnL Tryz.func233 rfl<|rgL<|rgL<|bFL (rgL<|rKL A1)<|bEL fun a f=>rCL (kCL 1 A1 (pH f)<|kPL 2 (ue a) edL)<|bcL (fun _=>⟨55,[]⟩) (fun _=>⟨[],[]⟩) (fun v d=>lpL (fun k x=>uH n a k x) 0 A1 (fun x=>⟨55,[(10,ql 1 cS a),(11,qi (a.length)),(12,qi x)]⟩) (fun x=>⟨[],[]⟩) fun k b=>by rw [uH]; exact rgL<|bFL (zo<|bP 0 ww fun c=>bEL fun g hE=>rgF hE ⟨55,[(4,qs c),(10,ql 1 cS a),(11,qi (a.length)),(12,qi b),(36,qb g)]⟩ ⟨[],[]⟩ (gFL 4 19 (eJ A1)<|gFL 9 24 (eJ A1)<|bEL fun w i=>kPL 10 (zS i)<|gFL 14 29 (eJ A1)<|bEL fun A j=>kPL 18 (zS j)<|eJ A1)<|bFL (rgL<|hKL d<|rJ A1)<|rgL<|rv zJ (fun _=>⟨55,[(10,ql 1 cS a),(11,qi (a.length)),(12,qi b)]⟩) (fun _=>⟨[],[]⟩) (fun B l=>lpL (fun k x=>uG n c k x) 0 A1 (fun x=>⟨55,[(4,qs c),(5,qi x),(10,ql 1 cS a),(11,qi (a.length)),(12,qi b)]⟩) (fun x=>⟨[],[]⟩) fun k e=>by rw [uG]; exact rgL<|bFL (zo<|bEL fun m hE=>rgF hE ⟨55,[(4,qs c),(5,qi e),(10,ql 1 cS a),(11,qi (a.length)),(12,qi b),(53,qb m)]⟩ ⟨[],[]⟩ (bEL fun C o=>bEL fun D s=>kPL 2 (zS o)<|kCL 3 A1 (j7 s)<|gFL 6 48 (bEL fun E u=>kPL 8 (zS u)<|eJ A1)<|eJ A1)<|bFL (rgL<|hKL l<|yf<|wo<|hvL d<|yn<|rJ A1)<|zp<|z8 zl fun h=>⟨wrap .i64 (e+1),h,wk A1⟩)<|xjL<|jCL A1) fun F=>zp<|z8 zl fun h=>⟨wrap .i64 (b+1),h,wk A1⟩)<|xjL<|jCL A1) fun G=>rgL<|rKL A1
def j8 (n:Nat)(a1:Cn)(a0:Int):Nat→Int→Option (Ctl Bool Unit)
 |0,_=>none
 | k+1,a=>
  if decide (a<(a1.length:Int))then((yr a1 a).bind fun b=>
  if b==a0 then(some (.ret true))else(j8 n a1 a0 k (wrap .i64 (a+1))))else(some (.nxt ()))
def xT (n:Nat)(a0:Int)(a1:Cn):Option Bool:=
 yb (j8 n a1 a0 n 0) (fun r=>some r) (fun a=>
 some false)
theorem bO {n a0 a1 r}:xT n a0 a1=some r→AC mx 265 [qu a0,qs a1] [] (qb r) []:=
 fnL Tryz.func265 rfl<|rgL<|rgL<|bcL (fun _=>⟨17,[]⟩) (fun _=>⟨[],[]⟩) (fun c a=>lpL (fun k x=>j8 n a1 a0 k x) 0 A1 (fun x=>⟨17,[(0,qu a0),(1,qs a1),(5,qi x)]⟩) (fun x=>⟨[],[]⟩) fun k b=>by rw [j8]; exact rgL<|bFL (zo<|bP 2 zS fun d=>bFL (rgL<|hKL a<|rJ A1)<|zp<|z8 zl fun h=>⟨wrap .i64 (b+1),h,wk A1⟩)<|xjL<|jCL A1) fun e=>rgL<|rKL A1
def xJ (n:Nat)(a0:Cn):Nat→Int→Option Int
 |0,_=>none
 | k+1,a=>
  (if decide (a<(a0.length:Int))then((yr a0 a).bind fun b=>
  some (b !=64))else(some false)).bind fun c=>
  if c then(xJ n a0 k (wrap .i64 (a+1)))else(some a)
def vO (n:Nat)(b:Int)(a0:Cn):Nat→Int→Option (Ctl (Cn×Cn×Bool) Unit)
 |0,_=>none
 | k+1,a=>
  if decide (a<b)then(((yr a0 a).bind fun c=>
  (xV n c).bind fun d=>
  if !d then((yr a0 a).bind fun e=>
  (xT n e ([33,35,36,37,38,39,42,43,45,47,61,63,94,95,96,123,124,125,126,46]:Cn)).bind fun f=>
  if !f then(some true)else((yr a0 a).bind fun g=>
  if g==46 then((yr a0 (wrap .i64 (a+1))).bind fun i=>
  some (i==46))else(some false)))else((yr a0 a).bind fun j=>
  if j==46 then((yr a0 (wrap .i64 (a+1))).bind fun l=>
  some (l==46))else(some false))).bind fun m=>
  if m then(some (.ret (([]:Cn),([]:Cn),false)))else(vO n b a0 k (wrap .i64 (a+1))))else(some (.nxt ()))
def dw (n:Nat)(a0:Cn):Option (Cn×Cn×Bool):=
 if decide ((a0.length:Int)>128)then(some (([]:Cn),([]:Cn),false))else((xJ n a0 n 0).bind fun a=>
 (if decide (a<1)then(some true)else(if decide (a>64)then(some true)else(if a==(a0.length:Int)then(some true)else((ssl a0 (wrap .i64 (a+1)) (a0.length)).bind fun b=>
 (jB n b).bind fun c=>
 if !c then(some true)else((yr a0 0).bind fun d=>
 if d==46 then(some true)else((yr a0 (wrap .i64 (a-1))).bind fun e=>
 some (e==46))))))).bind fun f=>
 if f then(some (([]:Cn),([]:Cn),false))else(yb (vO n a a0 n 0) (fun r=>some r) (fun j=>
 (ssl a0 0 a).bind fun g=>
 (ssl a0 (wrap .i64 (a+1)) (a0.length)).bind fun i=>
 some (g,i,true))))
theorem Wx {n a0 r}:dw n a0=some r→AC mx 234 [qs a0] [] (.tuple [qs r.1,qs r.2.1,qb r.2.2]) []:=
 fnL Tryz.func234 rfl<|rgL<|rgL<|bFL (rgL<|rKL A1)<|rgL<|blL (fun a=>⟨91,[(0,qs a0),(5,qi a)]⟩) (fun a=>⟨[],[]⟩) (fun a=>lpL (fun k x=>xJ n a0 k x) 0 A1 (fun x=>⟨91,[(0,qs a0),(5,qi x)]⟩) (fun x=>⟨[],[]⟩) fun k b=>by rw [xJ]; exact bEL fun d hE=>rgF hE ⟨91,[(0,qs a0),(5,qi b),(19,qb d)]⟩ ⟨[],[]⟩ (gFL 5 14 (bEL fun I e=>kPL 7 (zS e)<|eJ A1)<|eJ A1)<|bFL (zo<|z8 (j3 (P:=Tryz.prog) (gl:=gl0 mx) zl)<|zp fun h=>⟨wrap .i64 (b+1),h,wk A1⟩)<|xjL<|jnL A1) fun a=>bEL fun f hE=>rgF hE ⟨91,[(0,qs a0),(5,qi a),(53,qb f)]⟩ ⟨[],[]⟩ (gFL 3 24 (eJ A1)<|gFL 7 28 (eJ A1)<|gFL 13 34 (eJ A1)<|bEL fun J g=>bEL fun K i=>kPL 16 (xc g)<|kCL 17 A1 (de i)<|gFL 21 42 (eJ A1)<|bEL fun L j=>kPL 22 (zS j)<|gFL 26 47 (eJ A1)<|bEL fun M l=>kPL 29 (zS l)<|eJ A1)<|bFL (rgL<|rKL A1)<|rgL<|bcL (fun _=>⟨91,[(0,qs a0),(5,qi a)]⟩) (fun _=>⟨[],[]⟩) (fun N m=>lpL (fun k x=>vO n a a0 k x) 0 A1 (fun x=>⟨91,[(0,qs a0),(5,qi a),(6,qi x)]⟩) (fun x=>⟨[],[]⟩) fun k c=>by rw [vO]; exact rgL<|bFL (zo<|bEL fun o hE=>rgF hE ⟨91,[(0,qs a0),(5,qi a),(6,qi c),(83,qb o)]⟩ ⟨[],[]⟩ (bEL fun O s=>bEL fun Q u=>kPL 2 (zS s)<|kCL 3 A1 (j7 u)<|gFL 6 64 (bEL fun R v=>bEL fun S w=>kPL 8 (zS v)<|kCL 9 A1 (bO w)<|gFL 13 71 (eJ A1)<|bEL fun T A=>kPL 15 (zS A)<|gFL 18 76 (bEL fun U B=>kPL 21 (zS B)<|eJ A1)<|eJ A1)<|bEL fun V C=>kPL 15 (zS C)<|gFL 18 76 (bEL fun W D=>kPL 21 (zS D)<|eJ A1)<|eJ A1)<|bFL (rgL<|hKL m<|rJ A1)<|zp<|z8 zl fun h=>⟨wrap .i64 (c+1),h,wk A1⟩)<|xjL<|jCL A1) fun X=>bEL fun E F=>bEL fun G H=>lfL (fun z=>zs [0,1,2,3,4,5,6,7,8,9] [] [[],[],[0,1],[],[],[4],[3,4,5],[0,1,2],[0,1,2,3,4,5,6,7],[0,1,2,3,4,5,6,7,8]] [] [(2,qs E),(3,qs G),(4,qb true)] (dS [0,1]<|dP (xn F)<|dS [3,4,5]<|dP (xc H)<|dS [7,8,9]<|dE A1) z)<|rKL A1
def bK (n:Nat)(a0:Cn):Option Bool:=
 (dw n a0).bind fun a=>
 some a.2.2
theorem W8 {n a0 r}:bK n a0=some r→AC mx 179 [qs a0] [] (qb r) []:=
 fnL Tryz.func179 rfl<|rgL<|bC 1 A1 Wx fun a=>rgL<|rKL A1
def qO (n:Nat)(a0:Cn):Option Bool:=
 ((jB n a0).bind fun a=>
 if a then(some true)else(if decide ((a0.length:Int)≤128)then(if decide ((a0.length:Int)>2)then((ssl a0 0 2).bind fun b=>
 if b==([42,46]:Cn)then((ssl a0 2 (a0.length)).bind fun c=>
 (jB n c).bind fun d=>
 if d then((v6 n a0 46).bind fun e=>
 some (decide ((e.length:Int)>2)))else(some false))else(some false))else(some false))else(some false))).bind fun f=>
 some f
theorem Xx {n a0 r}:qO n a0=some r→AC mx 181 [qs a0] [] (qb r) []:=
 fnL Tryz.func181 rfl<|rgL<|bEL fun a hE=>rgF hE ⟨31,[(2,qb a)]⟩ ⟨[],[]⟩ (bEL fun i b=>kCL 1 A1 (de b)<|gFL 3 5 (eJ A1)<|gFL 7 9 (gFL 12 14 (bEL fun j c=>kPL 13 (xn c)<|gFL 17 19 (bEL fun l d=>bEL fun m e=>kPL 18 (xc d)<|kCL 19 A1 (de e)<|gFL 22 24 (bEL fun f g=>kCL 23 A1 (pH g)<|kPL 24 (ue f)<|eJ A1)<|eJ A1)<|eJ A1)<|eJ A1)<|eJ A1)<|rKL A1
def gx (n:Nat)(a0:Cn):Option Bool:=
 (if(a0.length:Int)==4 then(some true)else(some ((a0.length:Int)==16))).bind fun a=>
 some a
theorem XA {n a0 r}:gx n a0=some r→AC mx 183 [qs a0] [] (qb r) []:=
 fnL Tryz.func183 rfl<|rgL<|bEL fun a hE=>rgF hE ⟨11,[(2,qb a)]⟩ ⟨[],[]⟩ (gFL 4 6 (eJ A1)<|eJ A1)<|rKL A1
def xq (n:Nat)(a0:Cn)(b:Int):Nat→Int→Int→Option (Ctl Bool Int)
 |0,_,_=>none
 | k+1,c,a=>
  if decide (a≤1)then((yr a0 (wrap .i64 (b+a))).bind fun d=>
  if(wrap .u8 (Int.tdiv d 64)) !=2 then(some (.ret false))else((yr a0 (wrap .i64 (b+a))).bind fun e=>
  xq n a0 b k (wrap .i64 ((wrap .i64 ((64:Int)*c))+(wrap .i64 (Int.tmod e 64)))) (wrap .i64 (a+1))))else(some (.nxt c))
def xr (n:Nat)(a0:Cn)(b:Int):Nat→Int→Int→Option (Ctl Bool Int)
 |0,_,_=>none
 | k+1,c,a=>
  if decide (a≤2)then((yr a0 (wrap .i64 (b+a))).bind fun d=>
  if(wrap .u8 (Int.tdiv d 64)) !=2 then(some (.ret false))else((yr a0 (wrap .i64 (b+a))).bind fun e=>
  xr n a0 b k (wrap .i64 ((wrap .i64 ((64:Int)*c))+(wrap .i64 (Int.tmod e 64)))) (wrap .i64 (a+1))))else(some (.nxt c))
def xt (n:Nat)(a0:Cn)(b:Int):Nat→Int→Int→Option (Ctl Bool Int)
 |0,_,_=>none
 | k+1,c,a=>
  if decide (a≤3)then((yr a0 (wrap .i64 (b+a))).bind fun d=>
  if(wrap .u8 (Int.tdiv d 64)) !=2 then(some (.ret false))else((yr a0 (wrap .i64 (b+a))).bind fun e=>
  xt n a0 b k (wrap .i64 ((wrap .i64 ((64:Int)*c))+(wrap .i64 (Int.tmod e 64)))) (wrap .i64 (a+1))))else(some (.nxt c))
def xp (n:Nat)(a0:Cn):Nat→Int→Option (Ctl Bool Unit)
 |0,_=>none
 | k+1,a=>
  if decide (a<(a0.length:Int))then(yb ((yr a0 a).bind fun b=>
  (if decide (b<32)then(some true)else(some (b==127))).bind fun f=>
  if f then(some (.ret false))else(if decide (b<128)then(some (.nxt (wrap .i64 (a+1))))else((if decide (b≥192)then(some (decide (b<224)))else(some false)).bind fun g=>
  if g then(if decide ((wrap .i64 ((a0.length:Int)-a))≤1)then(some (.ret false))else(yb (xq n a0 a n (uU .i64 (wrap .i64 b) (wrap .i64 ((wrap .i64 ((1:Int)*32))-1))) 1) (fun r=>some (.ret r)) (fun c=>
  (if decide (c<128)then(some true)else(if decide (c>1114111)then(some true)else(if decide (c≥55296)then(some (decide (c<57344)))else(some false)))).bind fun i=>
  if i then(some (.ret false))else(some (.nxt (wrap .i64 (a+2)))))))else((if decide (b≥224)then(some (decide (b<240)))else(some false)).bind fun j=>
  if j then(if decide ((wrap .i64 ((a0.length:Int)-a))≤2)then(some (.ret false))else(yb (xr n a0 a n (uU .i64 (wrap .i64 b) (wrap .i64 ((wrap .i64 ((1:Int)*16))-1))) 1) (fun r=>some (.ret r)) (fun d=>
  (if decide (d<2048)then(some true)else(if decide (d>1114111)then(some true)else(if decide (d≥55296)then(some (decide (d<57344)))else(some false)))).bind fun l=>
  if l then(some (.ret false))else(some (.nxt (wrap .i64 (a+3)))))))else((if decide (b≥240)then(some (decide (b<248)))else(some false)).bind fun m=>
  if m then(if decide ((wrap .i64 ((a0.length:Int)-a))≤3)then(some (.ret false))else(yb (xt n a0 a n (uU .i64 (wrap .i64 b) (wrap .i64 ((wrap .i64 ((1:Int)*8))-1))) 1) (fun r=>some (.ret r)) (fun e=>
  (if decide (e<65536)then(some true)else(if decide (e>1114111)then(some true)else(if decide (e≥55296)then(some (decide (e<57344)))else(some false)))).bind fun o=>
  if o then(some (.ret false))else(some (.nxt (wrap .i64 (a+4)))))))else(some (.ret false))))))) (fun r=>some (.ret r)) (fun s=>
  xp n a0 k s))else(some (.nxt ()))
def dY (n:Nat)(a0:Cn):Option Bool:=
 yb (xp n a0 n 0) (fun r=>some r) (fun a=>
 some true)
theorem W7 {n a0 r}:dY n a0=some r→AC mx 284 [qs a0] [] (qb r) []:=
 fnL Tryz.func284 rfl<|rgL<|rgL<|bcL (fun _=>⟨103,[]⟩) (fun _=>⟨[],[]⟩) (fun O b=>lpL (fun k x=>xp n a0 k x) 0 A1 (fun x=>⟨103,[(0,qs a0),(3,qi x)]⟩) (fun x=>⟨[],[]⟩) fun k a=>by rw [xp]; exact rgL<|bFL (rv zl (fun e=>⟨103,[(0,qs a0),(3,qi e)]⟩) (fun e=>⟨[],[]⟩) (fun P c=>bP 2 zS fun d=>rgL<|zo<|bEL fun j hE=>rgF hE ⟨103,[(0,qs a0),(3,qi a),(4,qu d),(16,qb j)]⟩ ⟨[],[]⟩ (gFL 3 19 (eJ A1)<|eJ A1)<|bFL (rgL<|ya<|yf<|hvL c<|yn<|wo<|hvL b<|yn<|rJ A1)<|rgL<|bFL (rgL<|bW<|db<|dM<|jCL A1)<|bEL fun l hE=>rgF hE ⟨103,[(0,qs a0),(3,qi a),(4,qu d),(28,qb l)]⟩ ⟨[],[]⟩ (gFL 3 31 (eJ A1)<|eJ A1)<|bFL (z8 zJ<|zp<|rgL<|bFL (rgL<|ya<|hvL c<|yn<|wo<|hvL b<|yn<|rJ A1)<|rgL<|rgL<|bcL (fun f=>⟨103,[(0,qs a0),(3,qi a),(5,qi 1),(6,qi 128),(7,qi f)]⟩) (fun f=>⟨[],[]⟩) (fun Q m=>lpL (fun k x=>xq n a0 a k x.1 x.2) (uU .i64 (wrap .i64 d) (wrap .i64 ((wrap .i64 ((1:Int)*32))-1)),1) A1 (fun x=>⟨103,[(0,qs a0),(3,qi a),(5,qi 1),(6,qi 128),(7,qi x.1),(8,qi x.2)]⟩) (fun x=>⟨[],[]⟩) fun k x=>by obtain⟨o,s⟩:=x; rw [xq]; exact rgL<|bFL (zo<|bP 4 zS fun R=>bFL (rgL<|hKL m<|hvL c<|yn<|wo<|hvL b<|yn<|rJ A1)<|bEL fun u v=>xo zJ (kPL 6 (zS v) edL)<|zp<|z8 zl fun h=>⟨(wrap .i64 ((wrap .i64 ((64:Int)*o))+(wrap .i64 (Int.tmod u 64))),wrap .i64 (s+1)),h,wk A1⟩)<|xjL<|jCL A1) fun f=>bEL fun w hE=>rgF hE ⟨103,[(0,qs a0),(3,qi a),(5,qi 1),(98,qb w)]⟩ ⟨[],[]⟩ (gFL 4 87 (eJ A1)<|gFL 8 91 (eJ A1)<|gFL 11 94 (eJ A1)<|eJ A1)<|bFL (rgL<|ya<|hvL c<|yn<|wo<|hvL b<|yn<|rJ A1)<|z8 zX<|jCL A1)<|bEL fun A hE=>rgF hE ⟨103,[(0,qs a0),(3,qi a),(4,qu d),(35,qb A)]⟩ ⟨[],[]⟩ (gFL 3 38 (eJ A1)<|eJ A1)<|bFL (z8 zJ<|zp<|rgL<|bFL (rgL<|ya<|hvL c<|yn<|wo<|hvL b<|yn<|rJ A1)<|rgL<|rgL<|bcL (fun g=>⟨103,[(0,qs a0),(3,qi a),(5,qi 2),(6,qi 2048),(7,qi g)]⟩) (fun g=>⟨[],[]⟩) (fun S B=>lpL (fun k x=>xr n a0 a k x.1 x.2) (uU .i64 (wrap .i64 d) (wrap .i64 ((wrap .i64 ((1:Int)*16))-1)),1) A1 (fun x=>⟨103,[(0,qs a0),(3,qi a),(5,qi 2),(6,qi 2048),(7,qi x.1),(8,qi x.2)]⟩) (fun x=>⟨[],[]⟩) fun k x=>by obtain⟨C,D⟩:=x; rw [xr]; exact rgL<|bFL (zo<|bP 4 zS fun T=>bFL (rgL<|hKL B<|hvL c<|yn<|wo<|hvL b<|yn<|rJ A1)<|bEL fun E F=>xo zJ (kPL 6 (zS F) edL)<|zp<|z8 zl fun h=>⟨(wrap .i64 ((wrap .i64 ((64:Int)*C))+(wrap .i64 (Int.tmod E 64))),wrap .i64 (D+1)),h,wk A1⟩)<|xjL<|jCL A1) fun g=>bEL fun G hE=>rgF hE ⟨103,[(0,qs a0),(3,qi a),(5,qi 2),(98,qb G)]⟩ ⟨[],[]⟩ (gFL 4 87 (eJ A1)<|gFL 8 91 (eJ A1)<|gFL 11 94 (eJ A1)<|eJ A1)<|bFL (rgL<|ya<|hvL c<|yn<|wo<|hvL b<|yn<|rJ A1)<|z8 zX<|jCL A1)<|bEL fun H hE=>rgF hE ⟨103,[(0,qs a0),(3,qi a),(4,qu d),(42,qb H)]⟩ ⟨[],[]⟩ (gFL 3 45 (eJ A1)<|eJ A1)<|bFL (z8 zJ<|zp<|rgL<|bFL (rgL<|ya<|hvL c<|yn<|wo<|hvL b<|yn<|rJ A1)<|rgL<|rgL<|bcL (fun i=>⟨103,[(0,qs a0),(3,qi a),(5,qi 3),(6,qi 65536),(7,qi i)]⟩) (fun i=>⟨[],[]⟩) (fun U I=>lpL (fun k x=>xt n a0 a k x.1 x.2) (uU .i64 (wrap .i64 d) (wrap .i64 ((wrap .i64 ((1:Int)*8))-1)),1) A1 (fun x=>⟨103,[(0,qs a0),(3,qi a),(5,qi 3),(6,qi 65536),(7,qi x.1),(8,qi x.2)]⟩) (fun x=>⟨[],[]⟩) fun k x=>by obtain⟨J,K⟩:=x; rw [xt]; exact rgL<|bFL (zo<|bP 4 zS fun V=>bFL (rgL<|hKL I<|hvL c<|yn<|wo<|hvL b<|yn<|rJ A1)<|bEL fun L M=>xo zJ (kPL 6 (zS M) edL)<|zp<|z8 zl fun h=>⟨(wrap .i64 ((wrap .i64 ((64:Int)*J))+(wrap .i64 (Int.tmod L 64))),wrap .i64 (K+1)),h,wk A1⟩)<|xjL<|jCL A1) fun i=>bEL fun N hE=>rgF hE ⟨103,[(0,qs a0),(3,qi a),(5,qi 3),(98,qb N)]⟩ ⟨[],[]⟩ (gFL 4 87 (eJ A1)<|gFL 8 91 (eJ A1)<|gFL 11 94 (eJ A1)<|eJ A1)<|bFL (rgL<|ya<|hvL c<|yn<|wo<|hvL b<|yn<|rJ A1)<|z8 zX<|jCL A1)<|rgL<|ya<|yf<|hvL c<|yn<|wo<|hvL b<|yn<|rJ A1) fun e=>fun h=>⟨e,h,wk A1⟩)<|xjL<|jCL A1) fun W=>rgL<|rKL A1
def yX (n:Nat)(a1:Cn)(a0:Int):Nat→Int→Option (Ctl Bool Unit)
 |0,_=>none
 | k+1,a=>
  if decide (a<(a1.length:Int))then((if a0==22 then((yr a1 a).bind fun b=>
  if decide (b<32)then(some true)else((yr a1 a).bind fun c=>
  if decide (c>126)then(some true)else(if a0==19 then((yr a1 a).bind fun d=>
  (xV n d).bind fun e=>
  if !e then((yr a1 a).bind fun f=>
  (xT n f ([32,39,40,41,43,44,45,46,47,58,61,63]:Cn)).bind fun g=>
  some (!g))else(some false))else(some false))))else(if a0==19 then((yr a1 a).bind fun i=>
  (xV n i).bind fun j=>
  if !j then((yr a1 a).bind fun l=>
  (xT n l ([32,39,40,41,43,44,45,46,47,58,61,63]:Cn)).bind fun m=>
  some (!m))else(some false))else(some false))).bind fun o=>
  if o then(some (.ret false))else(yX n a1 a0 k (wrap .i64 (a+1))))else(some (.nxt ()))
def jT (n:Nat)(a0:Int)(a1:Cn):Option Bool:=
 if a0==12 then((dY n a1).bind fun a=>
 some a)else((if a0==19 then(some (a0==19))else(some (a0==22))).bind fun b=>
 if b then(yb (yX n a1 a0 n 0) (fun r=>some r) (fun c=>
 some true))else(some false))
theorem YO {n a0 a1 r}:jT n a0 a1=some r→AC mx 266 [qi a0,qs a1] [] (qb r) []:=
 fnL Tryz.func266 rfl<|rgL<|rgL<|zo<|rgL<|bFL (bC 1 A1 W7 fun v=>ya<|yf<|rJ A1)<|rgL<|cuL (fun a=>⟨52,[(0,qi a0),(1,qs a1),(11,qb a)]⟩) (fun a=>⟨[],[]⟩) (fun a=>bFL (jnL A1)<|z8 zl<|jnL A1) fun a=>bFL (rgL<|bcL (fun _=>⟨52,[]⟩) (fun _=>⟨[],[]⟩) (fun w c=>lpL (fun k x=>yX n a1 a0 k x) 0 A1 (fun x=>⟨52,[(0,qi a0),(1,qs a1),(5,qi x)]⟩) (fun x=>⟨[],[]⟩) fun k b=>by rw [yX]; exact rgL<|bFL (zo<|bEL fun d hE=>rgF hE ⟨52,[(0,qi a0),(1,qs a1),(5,qi b),(51,qb d)]⟩ ⟨[],[]⟩ (gFL 3 22 (bEL fun A e=>kPL 5 (zS e)<|gFL 8 27 (eJ A1)<|bEL fun B f=>kPL 10 (zS f)<|gFL 15 34 (eJ A1)<|gFL 18 37 (bEL fun C g=>bEL fun D i=>kPL 20 (zS g)<|kCL 21 A1 (j7 i)<|gFL 25 44 (bEL fun E j=>bEL fun F l=>kPL 27 (zS j)<|kCL 28 A1 (bO l)<|eJ A1)<|eJ A1)<|eJ A1)<|gFL 18 37 (bEL fun G m=>bEL fun H o=>kPL 20 (zS m)<|kCL 21 A1 (j7 o)<|gFL 25 44 (bEL fun I s=>bEL fun J u=>kPL 27 (zS s)<|kCL 28 A1 (bO u)<|eJ A1)<|eJ A1)<|eJ A1)<|bFL (rgL<|hKL c<|yf<|rJ A1)<|zp<|z8 zl fun h=>⟨wrap .i64 (b+1),h,wk A1⟩)<|xjL<|jCL A1) fun K=>rgL<|ya<|yf<|rJ A1)<|zp<|rgL<|rKL A1
def xe (n:Nat)(b:Int)(a0:List za)(c:za):Nat→Int→Option (Ctl Int Unit)
 |0,_=>none
 | k+1,a=>
  if decide (a<b)then((zM a0 a).bind fun d=>
  if d.xx==c.xx then(some (.ret 10))else(xe n b a0 c k (wrap .i64 (a+1))))else(some (.nxt ()))
def yH (n:Nat)(a0:List za):Nat→Int→Option (Ctl Int Unit)
 |0,_=>none
 | k+1,b=>
  if decide (b<(a0.length:Int))then((zM a0 b).bind fun a=>
  (wD n a.xx).bind fun c=>
  if !c then(some (.ret 11))else((if(a.vg.length:Int)==0 then(some true)else((jT n a.zG a.vg).bind fun d=>
  some (!d))).bind fun e=>
  if e then(some (.ret 13))else(if decide ((a.vg.length:Int)>64)then(some (.ret 2))else(yb (xe n b a0 a n 0) (fun r=>some (.ret r)) (fun f=>
  yH n a0 k (wrap .i64 (b+1)))))))else(some (.nxt ()))
def ux (n:Nat)(a0:List za):Option Int:=
 yb (yH n a0 n 0) (fun r=>some r) (fun a=>
 some 0)
theorem Zb {n a0 r}:ux n a0=some r→AC mx 236 [ql 3 za.cells a0] [] (qi r) []:=
 fnL Tryz.func236 rfl<|rgL<|cP 1 (g9 a0)<|bcL (fun _=>⟨47,[]⟩) (fun _=>⟨[],[]⟩) (fun l b=>lpL (fun k x=>yH n a0 k x) 0 A1 (fun x=>⟨47,[(0,ql 3 za.cells a0),(6,ql 3 za.cells a0),(7,qi (a0.length)),(8,qi x)]⟩) (fun x=>⟨[],[]⟩) fun k a=>by rw [yH]; exact rgL<|bFL (zo<|bP 1 ZF fun c=>bC 2 A2 jz fun m=>bFL (rgL<|hKL b<|rJ A2)<|bEL fun d hE=>rgF hE ⟨47,[(0,ql 3 za.cells a0),(3,qi a),(4,qp 0),(6,ql 3 za.cells a0),(7,qi (a0.length)),(8,qi a),(28,qb d)]⟩ ⟨[za.cells c],[]⟩ (gFL 5 21 (eJ A3)<|bEL fun o e=>kCL 9 A2 (YO e)<|eJ A3)<|bFL (rgL<|hKL b<|rJ A2)<|rgL<|bFL (rgL<|hKL b<|rJ A2)<|rgL<|rv zJ (fun _=>⟨47,[(0,ql 3 za.cells a0),(6,ql 3 za.cells a0),(7,qi (a0.length)),(8,qi a)]⟩) (fun _=>⟨[],[]⟩) (fun s f=>lpL (fun k x=>xe n a a0 c k x) 0 A3 (fun x=>⟨47,[(0,ql 3 za.cells a0),(3,qi a),(4,qp 0),(5,qi x),(6,ql 3 za.cells a0),(7,qi (a0.length)),(8,qi a)]⟩) (fun x=>⟨[za.cells c],[]⟩) fun k g=>by rw [xe]; exact rgL<|bFL (zo<|bEL fun i j=>lfL (fun z=>zs [0,1,2,3,4,5,6,7] [] [[],[],[0,1],[0,1,2],[0,1,2,3],[],[5],[0,1,2,3,4,5,6]] [0,3,5,6,7,8] [(4,qp 0),(45,qb (i.xx==c.xx))] (dS [0,1]<|dP (ZF j)<|dS (zx 3 5)<|dE A3) z)<|bFL (rgL<|hKL f<|yf<|wo<|hvL b<|yn<|rJ A2)<|zp<|z8 zl fun h=>⟨wrap .i64 (g+1),h,wk A3⟩)<|xjL<|jCL A2) fun u=>zp<|z8 zl fun h=>⟨wrap .i64 (a+1),h,wk A1⟩)<|xjL<|jCL A1) fun v=>rgL<|rKL A1
def wt (n:Nat)(a0:zv):Nat→Int→Option (Ctl Int Unit)
 |0,_=>none
 | k+1,a=>
  if decide (a<(a0.zh.length:Int))then((zM a0.zh a).bind fun b=>
  if(b.length:Int)==0 then(some (.ret 14))else(if decide ((b.length:Int)>4)then(some (.ret 2))else((ux n b).bind fun c=>
  if c !=0 then(some (.ret c))else(wt n a0 k (wrap .i64 (a+1))))))else(some (.nxt ()))
def y8 (n:Nat)(a0:zv):Option Int:=
 if decide ((a0.zh.length:Int)>8)then(some 2)else(yb (wt n a0 n 0) (fun r=>some r) (fun a=>
 some 0))
theorem jm {n a0 r}:y8 n a0=some r→AC mx 184 [.agg [ql 1 (cL 3 za.cells) a0.zh]] [] (qi r) []:=
 fnL Tryz.func184 rfl<|rgL<|cP 2 (ga a0.zh)<|bFL (rgL<|rKL A2)<|cP 2 (ga a0.zh)<|bcL (fun _=>⟨29,[]⟩) (fun _=>⟨[],[]⟩) (fun d a=>lpL (fun k x=>wt n a0 k x) 0 A2 (fun x=>⟨29,[(11,ql 1 (cL 3 za.cells) a0.zh),(12,qi (a0.zh.length)),(13,qi x)]⟩) (fun x=>⟨[],[]⟩) fun k c=>by rw [wt]; exact rgL<|bFL (zo<|bP 0 ZD fun b=>cP 1 (g9 b)<|bFL (rgL<|hKL a<|rJ A1)<|cP 1 (g9 b)<|bFL (rgL<|hKL a<|rJ A1)<|bC 1 A1 Zb fun e=>rgL<|bFL (rgL<|hKL a<|rJ A1)<|zp<|z8 zl fun h=>⟨wrap .i64 (c+1),h,wk A1⟩)<|xjL<|jCL A1) fun f=>rgL<|rKL A1
def yZ (n:Nat)(a0:zc)(a1:Bool):Option Int:=
 yb (if a0.zG==1 then((if a1 then(none)else(if !a1 then((bK n a0.yl).bind fun a=>
 some a)else(some false))).bind fun b=>
 some (.nxt b))else(if a0.zG==2 then((if a1 then(none)else(if !a1 then((qO n a0.yl).bind fun c=>
 some c)else(some false))).bind fun d=>
 some (.nxt d))else(if a0.zG==7 then((if a1 then(none)else(if !a1 then((gx n a0.yl).bind fun e=>
 some e)else(some false))).bind fun f=>
 some (.nxt f))else(if a0.zG==4 then(if !(a0.yl==([]:Cn))then(some (.ret 14))else((y8 n (zv.mk a0.zt.zh)).bind fun g=>
 some (.ret g)))else(some (.nxt false)))))) (fun r=>some r) (fun i=>
 (if !i then(some true)else(some (decide ((a0.zt.zh.length:Int)>0)))).bind fun j=>
 if j then(some 14)else(some 0))
theorem jY {n a0 a1 r}:yZ n a0 a1=some r→AC mx 123 [.agg (zc.cells a0),qb a1] [] (qi r) []:=
 fnL Tryz.func123 rfl<|rgL<|rgL<|rgL<|bcL (fun a=>⟨76,[(2,qp 0),(5,qb a)]⟩) (fun a=>⟨[zc.cells a0],[]⟩) (fun l b=>rgL<|bFL (bEL fun c hE=>Gl hE zX ⟨76,[(2,qp 0),(5,qb c)]⟩ ⟨[zc.cells a0],[]⟩ (gFL 2 11 nEL<|gFL 10 19 (bEL fun m d=>kCL 12 A2 (W8 d)<|eJ A3)<|eJ A3)<|jCL A3)<|rgL<|bFL (bEL fun e hE=>Gl hE zX ⟨76,[(2,qp 0),(5,qb e)]⟩ ⟨[zc.cells a0],[]⟩ (gFL 2 28 nEL<|gFL 10 36 (bEL fun o f=>kCL 12 A2 (Xx f)<|eJ A3)<|eJ A3)<|jCL A3)<|rgL<|bFL (bEL fun g hE=>Gl hE zX ⟨76,[(2,qp 0),(5,qb g)]⟩ ⟨[zc.cells a0],[]⟩ (gFL 2 45 nEL<|gFL 10 53 (bEL fun s i=>kCL 12 A2 (XA i)<|eJ A3)<|eJ A3)<|jCL A3)<|rgL<|bFL (rgL<|bFL (rgL<|ya<|hvL b<|yn<|rJ A2)<|bC 2 A2 jm fun u=>ya<|hvL b<|yn<|rJ A2)<|jCL A3) fun a=>bEL fun j hE=>rgF hE ⟨76,[(75,qb j)]⟩ ⟨[],[]⟩ (gFL 3 69 (eJ A2)<|kPL 6 (ga a0.zt.zh)<|eJ A2)<|bFL (rgL<|rKL A1)<|rgL<|rKL A1
def yM (n:Nat)(a0:ze):Option Int:=
 (y8 n (zv.mk a0.zt.zh)).bind fun a=>
 if a !=0 then(some a)else(if(a0.zt.zh.length:Int)==0 then(some 14)else(some 0))
theorem gB {n a0 r}:yM n a0=some r→AC mx 124 [.agg [ql 1 (cL 3 za.cells) a0.zt.zh,qi a0.zP.zA,qs a0.zP.wj,qs a0.zP.zY]] [] (qi r) []:=
 fnL Tryz.func124 rfl<|rgL<|bC 2 A2 jm fun a=>rgL<|bFL (rgL<|rKL A2)<|cP 3 (ga a0.zt.zh)<|bFL (rgL<|rKL A2)<|rgL<|rKL A2
def wB (n:Nat)(a0:zB):Option Int:=
 (if decide (a0.zA<0)then(some true)else(if decide (a0.zA>8)then(some true)else(if(a0.wj.length:Int) !=16 then(some true)else(some ((a0.zY.length:Int) !=16))))).bind fun a=>
 if a then(some 18)else(some 0)
theorem kj {n a0 r}:wB n a0=some r→AC mx 125 [.agg (zB.cells a0)] [] (qi r) []:=
 fnL Tryz.func125 rfl<|rgL<|bEL fun a hE=>rgF hE ⟨23,[(22,qb a)]⟩ ⟨[],[]⟩ (gFL 4 6 (eJ A2)<|gFL 9 11 (eJ A2)<|gFL 15 17 (eJ A2)<|eJ A2)<|bFL (rgL<|rKL A1)<|rgL<|rKL A1
def vT (n:Nat)(a0:zz):Nat→Int→Option (Ctl Int Unit)
 |0,_=>none
 | k+1,a=>
  if decide (a<(a0.zi.length:Int))then((zM a0.zi a).bind fun b=>
  (wD n b).bind fun c=>
  if !c then(some (.ret 11))else(vT n a0 k (wrap .i64 (a+1))))else(some (.nxt ()))
def vV (n:Nat)(a0:zz):Nat→Int→Option (Ctl Int Unit)
 |0,_=>none
 | k+1,a=>
  if decide (a<(a0.zy.length:Int))then((zM a0.zy a).bind fun b=>
  (yZ n (zc.mk b.zG b.yl (zv.mk b.zt.zh)) false).bind fun c=>
  if c !=0 then(some (.ret c))else(vV n a0 k (wrap .i64 (a+1))))else(some (.nxt ()))
def vL (n:Nat)(a0:zz):Nat→Int→Option (Ctl Int Unit)
 |0,_=>none
 | k+1,a=>
  if decide (a<(a0.zg.length:Int))then((zM a0.zg a).bind fun b=>
  (yM n (ze.mk (zv.mk b.zt.zh) (zB.mk b.zP.zA b.zP.wj b.zP.zY))).bind fun d=>
  if d !=0 then(some (.ret d))else((zM a0.zg a).bind fun c=>
  (wB n (zB.mk c.zP.zA c.zP.wj c.zP.zY)).bind fun e=>
  if e !=0 then(some (.ret e))else(vL n a0 k (wrap .i64 (a+1)))))else(some (.nxt ()))
def jX (n:Nat)(a0:zz):Option Int:=
 (if decide (a0.uu<0)then(some true)else(some (decide (a0.uu>254033452799)))).bind fun a=>
 if a then(some 12)else((if !(a0.zC==([]:Cn))then((wD n a0.zC).bind fun b=>
 some (!b))else(some false)).bind fun c=>
 if c then(some 11)else((if decide (a0.yk<0)then(some true)else(if decide (a0.yk>511)then(some true)else(if decide (a0.ye<1)then(some true)else(some (decide (a0.ye>8)))))).bind fun d=>
 if d then(some 1)else((if decide ((a0.zi.length:Int)>8)then(some true)else(if decide ((a0.zy.length:Int)>16)then(some true)else(some (decide ((a0.zg.length:Int)>64))))).bind fun e=>
 if e then(some 2)else(yb (vT n a0 n 0) (fun r=>some r) (fun g=>
 (bX n a0.zi).bind fun f=>
 if(f.length:Int) !=(a0.zi.length:Int)then(some 10)else(yb (vV n a0 n 0) (fun r=>some r) (fun i=>
 yb (vL n a0 n 0) (fun r=>some r) (fun j=>
 some 0))))))))
theorem Wo {n a0 r}:jX n a0=some r→AC mx 56 [.agg (zz.cells a0)] [] (qi r) []:=
 fnL Tryz.func56 rfl<|rgL<|zo<|bEL fun c hE=>rgF hE ⟨128,[(1,qp 0),(9,qb c)]⟩ ⟨[zz.cells a0],[]⟩ (gFL 4 13 (eJ A3)<|eJ A3)<|bFL (rgL<|ya<|yf<|rJ A2)<|bEL fun d hE=>rgF hE ⟨128,[(1,qp 0),(18,qb d)]⟩ ⟨[zz.cells a0],[]⟩ (gFL 4 22 (bEL fun F e=>kCL 6 A2 (jz e)<|eJ A3)<|eJ A3)<|bFL (rgL<|ya<|yf<|rJ A2)<|bEL fun f hE=>rgF hE ⟨128,[(1,qp 0),(28,qb f)]⟩ ⟨[zz.cells a0],[]⟩ (gFL 4 32 (eJ A3)<|gFL 9 37 (eJ A3)<|gFL 14 42 (eJ A3)<|eJ A3)<|bFL (rgL<|ya<|yf<|rJ A2)<|bEL fun g hE=>rgF hE ⟨128,[(1,qp 0),(47,qb g)]⟩ ⟨[zz.cells a0],[]⟩ (kPL 2 (ue a0.zi)<|gFL 5 52 (eJ A3)<|kPL 7 (gg a0.zy)<|gFL 11 58 (eJ A3)<|kPL 13 (bZ a0.zg)<|eJ A3)<|bFL (rgL<|ya<|yf<|rJ A2)<|zp<|rgL<|bcL (fun _=>⟨128,[(1,qp 0)]⟩) (fun _=>⟨[zz.cells a0],[]⟩) (fun G i=>lpL (fun k x=>vT n a0 k x) 0 A3 (fun x=>⟨128,[(1,qp 0),(3,qi x)]⟩) (fun x=>⟨[zz.cells a0],[]⟩) fun k j=>by rw [vT]; exact cP 3 (ue a0.zi)<|bFL (zo<|bEL fun H l=>bEL fun I m=>rCL (kPL 3 (ww l)<|kCL 5 A2 (jz m) edL)<|bFL (rgL<|hKL i<|rJ A2)<|zp<|z8 zl fun h=>⟨wrap .i64 (j+1),h,wk A3⟩)<|xjL<|jCL A3) fun J=>bEL fun a o=>lfL (fun z=>zs [0,1,4,5,6,2,3,7] [2] [[],[0],[0,1],[0,1,2],[],[4],[4,5],[0,1,2,3,4,5,6]] [] [(1,qp 0),(85,qb ((a.length:Int) !=(a0.zi.length:Int)))] (dS [0,1,4,5]<|dP (ue a0.zi)<|dC (zr 6 (ue a0.zi) zW) A2 (Vk o)<|dP (ue a)<|dS [7]<|dE A3) z)<|bFL (rgL<|rKL A2)<|rgL<|bcL (fun _=>⟨128,[(1,qp 0)]⟩) (fun _=>⟨[zz.cells a0],[]⟩) (fun K s=>lpL (fun k x=>vV n a0 k x) 0 A3 (fun x=>⟨128,[(1,qp 0),(4,qi x)]⟩) (fun x=>⟨[zz.cells a0],[]⟩) fun k u=>by rw [vV]; exact cP 3 (gg a0.zy)<|bFL (zo<|bEL fun L v=>bEL fun M w=>rCL (kPL 3 (vN v)<|kCL 5 A2 (jY w) edL)<|rgL<|bFL (rgL<|hKL s<|rJ A2)<|zp<|z8 zl fun h=>⟨wrap .i64 (u+1),h,wk A3⟩)<|xjL<|jCL A3) fun N=>rgL<|bcL (fun _=>⟨128,[]⟩) (fun _=>⟨[],[]⟩) (fun O b=>lpL (fun k x=>vL n a0 k x) 0 A3 (fun x=>⟨128,[(1,qp 0),(6,qi x)]⟩) (fun x=>⟨[zz.cells a0],[]⟩) fun k A=>by rw [vL]; exact cP 3 (bZ a0.zg)<|bFL (zo<|bEL fun P B=>bEL fun Q C=>rCL (kPL 3 (jF B)<|kCL 5 A2 (gB C) edL)<|rgL<|bFL (rgL<|hKL b<|rJ A2)<|bEL fun R D=>bEL fun S E=>rCL (kPL 3 (jF D)<|kCL 6 A2 (kj E) edL)<|rgL<|bFL (rgL<|hKL b<|rJ A2)<|zp<|z8 zl fun h=>⟨wrap .i64 (A+1),h,wk A3⟩)<|xjL<|jCL A2) fun T=>rgL<|rKL A1
def vx (n:Nat)(a0:Int):Option Int:=
 some (wrap .i64 ((wrap .i64 ((wrap .i64 ((365:Int)*(wrap .i64 (a0-1950))))+(wrap .i64 ((wrap .i64 ((wrap .i64 (Int.tdiv (wrap .i64 (a0-1)) 4))-(wrap .i64 (Int.tdiv (wrap .i64 (a0-1)) 100))))+(wrap .i64 (Int.tdiv (wrap .i64 (a0-1)) 400))))))-472))
theorem bu {n a0 r}:vx n a0=some r→AC mx 185 [qi a0] [] (qi r) []:=
 fnL Tryz.func185 rfl<|rgL<|rgL<|rgL<|rKL A1
def wq (n:Nat)(a0 a1:Int):Option Int:=
 (if a1==2 then(if(Int.tmod a0 4)==0 then(if(Int.tmod a0 100) !=0 then(some true)else(some ((Int.tmod a0 400)==0)))else(some false))else(some false)).bind fun a=>
 if a then(some 29)else((zM ([31,28,31,30,31,30,31,31,30,31,30,31]:List Int) (wrap .i64 (a1-1))).bind fun b=>
 some b)
theorem qC {n a0 a1 r}:wq n a0 a1=some r→AC mx 186 [qi a0,qi a1] [] (qi r) []:=
 fnL Tryz.func186 rfl<|rgL<|bEL fun a hE=>rgF hE ⟨27,[(1,qi a1),(21,qb a)]⟩ ⟨[],[]⟩ (gFL 3 7 (gFL 8 12 (gFL 12 16 (eJ A1)<|eJ A1)<|eJ A1)<|eJ A1)<|bFL (rgL<|rKL A1)<|bP 3 Vq fun b=>rKL A1
def xK (n:Nat)(a0:Int):Nat→Int→Option Int
 |0,_=>none
 | k+1,a=>
  (vx n (wrap .i64 (a+1))).bind fun b=>
  if decide (b≤(wrap .i64 (Int.tdiv a0 86400)))then(xK n a0 k (wrap .i64 (a+1)))else(some a)
def yQ (n:Nat)(b:Int):Nat→Int→Int→Option (Int×Int)
 |0,_,_=>none
 | k+1,c,a=>
  (wq n b a).bind fun d=>
  if decide (c≥d)then((wq n b a).bind fun e=>
  yQ n b k (wrap .i64 (c-e)) (wrap .i64 (a+1)))else(some (c,a))
def kR (n:Nat)(a0:Int):Option (yg×Int):=
 (if decide (a0<0)then(some true)else(some (decide (a0>254033452799)))).bind fun c=>
 if c then(some ((yg.mk 0 0 0 0 0 0),1))else((xK n a0 n (wrap .i64 ((1950:Int)+(wrap .i64 (Int.tdiv (wrap .i64 (Int.tdiv a0 86400)) 366))))).bind fun a=>
 (vx n a).bind fun d=>
 (yQ n a n (wrap .i64 ((wrap .i64 (Int.tdiv a0 86400))-d)) 1).bind fun b=>
 some ((yg.mk a b.2 (wrap .i64 (b.1+1)) (Int.tmod (wrap .i64 (Int.tdiv a0 3600)) 24) (Int.tmod (wrap .i64 (Int.tdiv a0 60)) 60) (Int.tmod a0 60)),0))
theorem Wu {n a0 r}:kR n a0=some r→AC mx 126 [qi a0] [] (.tuple [.agg (yg.cells r.1),qi r.2]) []:=
 fnL Tryz.func126 rfl<|rgL<|bEL fun c hE=>rgF hE ⟨55,[(0,qi a0),(2,qp 0),(12,qb c)]⟩ ⟨[[qi 0,qi 0,qi 0,qi 0,qi 0,qi 0]],[]⟩ (gFL 3 9 (eJ A3)<|eJ A3)<|bFL (rgL<|rKL A2)<|rgL<|rgL<|blL (fun a=>⟨55,[(0,qi a0),(2,qp 0),(4,qi (wrap .i64 (Int.tdiv a0 86400))),(5,qi a)]⟩) (fun a=>⟨[[qi 0,qi 0,qi 0,qi 0,qi 0,qi 0]],[]⟩) (fun a=>lpL (fun k x=>xK n a0 k x) (wrap .i64 ((1950:Int)+(wrap .i64 (Int.tdiv (wrap .i64 (Int.tdiv a0 86400)) 366)))) A3 (fun x=>⟨55,[(0,qi a0),(2,qp 0),(4,qi (wrap .i64 (Int.tdiv a0 86400))),(5,qi x)]⟩) (fun x=>⟨[[qi 0,qi 0,qi 0,qi 0,qi 0,qi 0]],[]⟩) fun k d=>by rw [xK]; exact bC 2 A2 bu fun l=>bFL (zo<|z8 (j3 (P:=Tryz.prog) (gl:=gl0 mx) zl)<|zp fun h=>⟨wrap .i64 (d+1),h,wk A3⟩)<|xjL<|jnL A3) fun a=>bC 2 A2 bu fun e=>rgL<|blL (fun b=>⟨55,[(0,qi a0),(2,qp 0),(4,qi b.1),(5,qi a),(6,qi b.2)]⟩) (fun b=>⟨[[qi 0,qi 0,qi 0,qi 0,qi 0,qi 0]],[]⟩) (fun b=>lpL (fun k x=>yQ n a k x.1 x.2) (wrap .i64 ((wrap .i64 (Int.tdiv a0 86400))-e),1) A3 (fun x=>⟨55,[(0,qi a0),(2,qp 0),(4,qi x.1),(5,qi a),(6,qi x.2)]⟩) (fun x=>⟨[[qi 0,qi 0,qi 0,qi 0,qi 0,qi 0]],[]⟩) fun k x=>by obtain⟨f,g⟩:=x; rw [yQ]; exact bC 3 A2 qC fun m=>bFL (zo<|bEL fun i j=>xo (j3 (P:=Tryz.prog) (gl:=gl0 mx) zl) (kCL 3 A2 (qC j) edL)<|zp fun h=>⟨(wrap .i64 (f-i),wrap .i64 (g+1)),h,wk A3⟩)<|xjL<|jnL A3) fun b=>rgL<|rKL A2
def qZ (n:Nat)(a1:Int):Nat→Cn→Option Cn
 |0,_=>none
 | k+1,a=>
  if decide ((a.length:Int)<a1)then((um ([48]:Cn) a).bind fun b=>
  qZ n a1 k b)else(some a)
def xa (n:Nat)(a0 a1:Int):Option Cn:=
 (z7 n n a0).bind fun a=>
 (qZ n a1 n a).bind fun b=>
 some b
theorem vl {n a0 a1 r}:xa n a0 a1=some r→AC mx 127 [qi a0,qi a1] [] (qs r) []:=
 fnL Tryz.func127 rfl<|rgL<|bC 1 A1 (uK _) fun b=>blL (fun a=>⟨15,[(5,qs a)]⟩) (fun a=>⟨[],[]⟩) (fun a=>lpL (fun k x=>qZ n a1 k x) b A1 (fun x=>⟨15,[(1,qi a1),(5,qs x)]⟩) (fun x=>⟨[],[]⟩) fun k e=>by rw [qZ]; exact rgL<|bFL (zo<|bEL fun c d=>xo (j3 (P:=Tryz.prog) (gl:=gl0 mx) zl) (kPL 1 (zK d) edL)<|zp fun h=>⟨c,h,wk A1⟩)<|xjL<|jnL A1) fun a=>rgL<|rKL A1
def wY (n:Nat)(a1:List Cn):Nat→Cn→Int→Option Cn
 |0,_,_=>none
 | k+1,b,a=>
  if decide (a<(a1.length:Int))then((zM a1 a).bind fun c=>
  (um b c).bind fun d=>
  wY n a1 k d (wrap .i64 (a+1)))else(some b)
def xi (n:Nat)(a0:Int)(a1:List Cn):Option (Cn×Int):=
 (if decide (a0<0)then(some true)else(if decide (a0>255)then(some true)else(some ((Int.tmod a0 32)==31)))).bind fun b=>
 if b then(some (([]:Cn),5))else((wY n a1 n ([]:Cn) 0).bind fun a=>
 if decide ((a.length:Int)>131072)then(some (([]:Cn),6))else((if decide ((a.length:Int)≥65536)then(some ([wrap .u8 a0,131,wrap .u8 (Int.fdiv (a.length:Int) 65536),wrap .u8 (Int.fdiv (a.length:Int) 256),wrap .u8 (a.length:Int)]:List Int))else(if decide ((a.length:Int)≥256)then(some ([wrap .u8 a0,130,wrap .u8 (Int.fdiv (a.length:Int) 256),wrap .u8 (a.length:Int)]:List Int))else(if decide ((a.length:Int)≥128)then(some ([wrap .u8 a0,129,wrap .u8 (a.length:Int)]:List Int))else(some ([wrap .u8 a0,wrap .u8 (a.length:Int)]:List Int))))).bind fun c=>
 (um (b2s c) a).bind fun d=>
 some (d,0)))
theorem uf {n a0 a1 r}:xi n a0 a1=some r→AC mx 64 [qi a0,ql 1 cS a1] [] (.tuple [qs r.1,qi r.2]) []:=
 fnL Tryz.func64 rfl<|rgL<|bEL fun c hE=>rgF hE ⟨78,[(0,qi a0),(1,ql 1 cS a1),(21,qb c)]⟩ ⟨[],[]⟩ (gFL 3 13 (eJ A1)<|gFL 7 17 (eJ A1)<|eJ A1)<|bFL (rgL<|rKL A1)<|rgL<|cP 1 (ue a1)<|blL (fun a=>⟨78,[(0,qi a0),(6,qs a)]⟩) (fun a=>⟨[],[]⟩) (fun a=>lpL (fun k x=>wY n a1 k x.1 x.2) (([]:Cn),0) A1 (fun x=>⟨78,[(0,qi a0),(6,qs x.1),(22,ql 1 cS a1),(23,qi (a1.length)),(24,qi x.2)]⟩) (fun x=>⟨[],[]⟩) fun k x=>by obtain⟨i,d⟩:=x; rw [wY]; exact rgL<|bFL (zo<|bP 0 ww fun j=>bEL fun e f=>xo zJ (kPL 2 (zK f) edL)<|zp<|z8 zl fun h=>⟨(e,wrap .i64 (d+1)),h,wk A1⟩)<|xjL<|jnL A1) fun a=>rgL<|rgL<|bFL (rgL<|rKL A1)<|rgL<|blL (fun b=>⟨78,[(6,qs a),(10,ql 1 (cI .u8) b)]⟩) (fun b=>⟨[],[]⟩) (fun b=>rgL<|bFL (z8 zX<|jnL A1)<|rgL<|bFL (z8 zX<|jnL A1)<|rgL<|bFL (z8 zX<|jnL A1)<|jnL A1) fun b=>bEL fun l g=>rCL (lfL (fun z=>kB 1 b z)<|kPL 3 (zK g) edL)<|rKL A1
def w8 (n:Nat)(a0:Int):Option (Cn×Int):=
 (kR n a0).bind fun a=>
 if a.2 !=0 then(some (([]:Cn),a.2))else((xa n a.1.qF 2).bind fun e=>
 (xa n a.1.pT 2).bind fun f=>
 (um e f).bind fun g=>
 (xa n a.1.pL 2).bind fun i=>
 (um g i).bind fun j=>
 (xa n a.1.ko 2).bind fun l=>
 (um j l).bind fun m=>
 (xa n a.1.kr 2).bind fun o=>
 (um m o).bind fun s=>
 (um s ([90]:Cn)).bind fun b=>
 if decide (a.1.bw<2050)then((xa n (Int.tmod a.1.bw 100) 2).bind fun u=>
 (um u b).bind fun v=>
 (xi n 23 ([v]:List Cn)).bind fun c=>
 some (c.1,c.2))else((xa n a.1.bw 4).bind fun w=>
 (um w b).bind fun A=>
 (xi n 24 ([A]:List Cn)).bind fun d=>
 some (d.1,d.2)))
theorem Yp {n a0 r}:w8 n a0=some r→AC mx 57 [qi a0] [] (.tuple [qs r.1,qi r.2]) []:=
 fnL Tryz.func57 rfl<|rgL<|bC 1 A1 Wu fun B=>rgL<|bFL (rgL<|rKL A2)<|bEL fun C d=>bEL fun D e=>bEL fun E a=>bEL fun F f=>bEL fun G b=>bEL fun H g=>bEL fun I c=>bEL fun J i=>bEL fun K j=>bEL fun l m=>lfL (fun z=>zs [0,1,3,4,7,8,11,12,15,16,2,5,6,9,10,13,14,17,18,19,20] [2,5,9,13,17] [[],[0],[0,1],[],[3],[0,1,2,3,4],[0,1,2,3,4,5],[],[7],[0,1,2,3,4,5,7,8],[0,1,2,3,4,5,6,7,8,9],[],[11],[0,1,2,3,4,5,7,8,9,11,12],[0,1,2,3,4,5,6,7,8,9,10,11,12,13],[],[15],[0,1,2,3,4,5,7,8,9,11,12,13,15,16],[0,1,2,3,4,5,6,7,8,9,10,11,12,13,14,15,16,17],[0,1,2,3,4,5,6,7,8,9,10,11,12,13,14,15,16,17,18],[0,1,2,3,4,5,6,7,8,9,10,11,12,13,14,15,16,17,18,19]] [] [(4,qp 0),(6,qs l)] (dS [0,1,3,4,7,8,11,12,15,16]<|dC zW A2 (vl d)<|dC zW A2 (vl e)<|dP (zK a)<|dC (zr 6 (zK a) zW) A2 (vl f)<|dP (zK b)<|dC (zr 10 (zK b) (zr 6 (zK a) zW)) A2 (vl g)<|dP (zK c)<|dC (zr 14 (zK c) (zr 10 (zK b) (zr 6 (zK a) zW))) A2 (vl i)<|dP (zK j)<|dP (zK m)<|dS [20]<|dE A3) z)<|rgL<|bFL (bEL fun L o=>bEL fun M s=>bEL fun N u=>rCL (kCL 3 A2 (vl o)<|kPL 5 (zK s)<|kCL 7 A2 (uf u) edL)<|rKL A2)<|bEL fun O v=>bEL fun P w=>bEL fun Q A=>rCL (kCL 2 A2 (vl v)<|kPL 4 (zK w)<|kCL 6 A2 (uf A) edL)<|rKL A2
def yD (n:Nat):Nat→Int→Nat→(List Int)→Option (Nat×(List Int))
 |0,_,_,_=>none
 | k+1,a,d,e=>
  (QZ d e).bind fun b=>
  if List.isEmpty b then(if(wrap .i64 (Int.tdiv a 128))==0 then(some (1,([wrap .u8 (Int.tmod a 128)]:List Int)))else(yD n k (wrap .i64 (Int.tdiv a 128)) 1 ([wrap .u8 (Int.tmod a 128)]:List Int)))else((Yd 1 1 ([wrap .u8 (Int.tmod a 128)]:List Int) b).bind fun c=>
  if(wrap .i64 (Int.tdiv a 128))==0 then(some (1+b.length,c))else(yD n k (wrap .i64 (Int.tdiv a 128)) (1+b.length) c))
def yY (n:Nat) (a:(Nat×(List Int))):Nat→Int→(List Int)→Option (List Int)
 |0,_,_=>none
 | k+1,b,c=>
  if decide ((wrap .i64 (b+1))<((a.1:Nat):Int))then((gu a.1 b).bind fun d=>
  ((c)[(d*1)]?).bind fun e=>
  (gu a.1 b).bind fun f=>
  (Wt c (f*1) (wrap .u8 (e+128))).bind fun g=>
  yY n a k (wrap .i64 (b+1)) g)else(some c)
def xA (n:Nat)(b:List Int):Nat→Nat→Int→(List Int)→Option (Nat×(List Int))
 |0,_,_,_=>none
 | k+1,a,c,d=>
  if decide (c<(b.length:Int))then(((zM b c).bind fun i=>
  (yD n n i 0 ([]:List Int)).bind fun e=>
  (yY n e n 0 e.2).bind fun j=>
  (QZ e.1 j).bind fun f=>
  if List.isEmpty f then(some (a,d))else((Yd 1 a d f).bind fun l=>
  some (a+f.length,l))).bind fun g=>
  xA n b k g.1 (wrap .i64 (c+1)) g.2)else(some (a,d))
def vm (n:Nat)(a0:Cn):Option (Cn×Int):=
 (qf n a0).bind fun a=>
 if !a.2 then(some (([]:Cn),11))else(((zM a.1 0).bind fun b=>
 (zM a.1 1).bind fun c=>
 (lsl a.1 2 (a.1.length)).bind fun d=>
 if List.isEmpty d then(some ([wrap .i64 ((wrap .i64 ((40:Int)*b))+c)]:List Int))else((gP 8 ([wrap .i64 ((wrap .i64 ((40:Int)*b))+c)]:List Int) d).bind fun f=>
 some f)).bind fun g=>
 (xA n g n 0 0 ([]:List Int)).bind fun e=>
 (Ke e.1 e.2).bind fun i=>
 some (i,0))
theorem dk {n a0 r}:vm n a0=some r→AC mx 58 [qs a0] [] (.tuple [qs r.1,qi r.2]) []:=
 fnL Tryz.func58 rfl<|rgL<|bC 1 A1 Zc fun r1=>rgL<|bFL (rgL<|rKL A1)<|bEL fun a hE=>lfL (fun z=>drw [0,1,2,3,4,5,6,7,8,9,10,11,12] [11,12] [[],[0],[0,1],[0,1,2],[],[4],[4,5],zx 0 7,zx 0 8,[],[9],zx 0 11,zx 0 12] ⟨65,[(4,ql 1 (cI .i64) a)]⟩ ⟨[],[]⟩ (have h:=hE; bE h fun G o h=>bE h fun H s h=>bE h fun I u h=>dS [0]<|dP (uz o)<|dS [2,3,4]<|dP (uz s)<|dS (zx 6 4)<|dP (dm u)<|kF h (fun hb h=>dV (zr 10 (dm u) (zr 5 (uz s) (zr 1 (uz o) zW))) 0 0 0 (Pk (T:=tyT) (c:=(cI .i64)) (l:=([wrap .i64 ((wrap .i64 ((40:Int)*G))+H)]:List Int)) (l2:=I) (e:=3) (e2:=3) (sz:=1) (bytes:=8) (b2:=8) (tok:= .exact) (tok2:= .none) (cell:=none) O8 hb)<|dF (zr 10 (dm u) (zr 5 (uz s) (zr 1 (uz o) zW)))<|by cases h; exact dE A1) fun hb h=>bE h fun x5 J h=>dV (zr 10 (dm u) (zr 5 (uz s) (zr 1 (uz o) zW))) 0 0 0 (XQ (T:=tyT) (c:=(cI .i64)) (e:=3) (e2:=3) (sz:=1) (bytes:=8) (b2:=8) (tok2:= .none) (cell:=none) O8 J)<|dF (zr 10 (dm u) (zr 5 (uz s) (zr 1 (uz o) zW)))<|by cases h; exact dE Aa) z)<|rgL<|cP 1 (YF a)<|blL (fun w=>⟨65,[(6, .own 0 w.1 1)]⟩) (fun w=>⟨[[.buf (List.map (vI .u8) w.2)]],[]⟩) (fun w=>yV (wk (fr':=⟨65,[(6,qn),(30,ql 1 (cI .i64) a),(31,qi (a.length)),(32,qi 0)]⟩) (st':=⟨[],[]⟩) A1)<|yV (Wk.nilO 6 0 1 O8)<|lpL (fun k x=>xA n a k x.1 x.2.1 x.2.2) (0,0,([]:List Int)) A3 (fun x=>⟨65,[(6, .own 0 x.1 1),(30,ql 1 (cI .i64) a),(31,qi (a.length)),(32,qi x.2.1)]⟩) (fun x=>⟨[[.buf (List.map (vI .u8) x.2.2)]],[]⟩) fun k x=>by obtain⟨d,f,i⟩:=x; rw [xA]; exact rgL<|bFL (blL (fun m=>⟨65,[(6, .own 0 m.1 1),(30,ql 1 (cI .i64) a),(31,qi (a.length)),(32,qi f)]⟩) (fun m=>⟨[[.buf (List.map (vI .u8) m.2)]],[]⟩) (fun m=>bP 0 uz fun D=>rgL<|blL (fun g=>⟨65,[(6, .own 0 d 1),(9, .own 1 g.1 1),(30,ql 1 (cI .i64) a),(31,qi (a.length)),(32,qi f)]⟩) (fun g=>⟨[[.buf (List.map (vI .u8) i)],[.buf (List.map (vI .u8) g.2)]],[]⟩) (fun g=>yV (wk (fr':=⟨65,[(6, .own 0 d 1),(8,qi D),(9,qn),(30,ql 1 (cI .i64) a),(31,qi (a.length)),(32,qi f)]⟩) (st':=⟨[[.buf (List.map (vI .u8) i)]],[]⟩) A3)<|yV (Wk.nilO 9 1 1 O8)<|lpL (fun k x=>yD n  k x.1 x.2.1 x.2.2) (D,0,([]:List Int)) A5 (fun x=>⟨65,[(6, .own 0 d 1),(8,qi x.1),(9, .own 1 x.2.1 1),(30,ql 1 (cI .i64) a),(31,qi (a.length)),(32,qi f)]⟩) (fun x=>⟨[[.buf (List.map (vI .u8) i)],[.buf (List.map (vI .u8) x.2.2)]],[]⟩) fun k x=>by obtain⟨j,K,L⟩:=x; rw [yD]; exact zo<|bEL fun B M=>yV (Wk.frz (c:=(vI .u8)) (l:=L) 9 1 K M O8)<|lfL (fun z=>mz z)<|lfL (fun z=>kL 3 (v:= .own 2 1 1) (cells:=List.map (vI .u8) ([wrap .u8 (Int.tmod j 128)]:List Int)) z)<|kFL (fun hb=>lfL (fun z=>kV 5 3 0 3 (Pp (T:=tyT) (n:=1) (c:=(vI .u8)) (l2:=B) (e:=5) (e2:=5) (bytes:=1) (b2:=1) (tok2:= .none) (cell:=none) (id:=2) O8 hb) z)<|lfL (fun z=>KO (⟨65,[(6, .own 0 d 1),(8,qi j),(9, .own 1 1 1),(30,ql 1 (cI .i64) a),(31,qi (a.length)),(32,qi f)]⟩) (⟨[[.buf (List.map (vI .u8) i)],[.buf (List.map (vI .u8) ([wrap .u8 (Int.tmod j 128)]:List Int))]],[]⟩) zJ (kE Aq) z)<|rgL<|rgL<|bFL (bW<|db<|XW<|dM<|jnL A5)<|zp fun h=>⟨(wrap .i64 (Int.tdiv j 128),1,([wrap .u8 (Int.tmod j 128)]:List Int)),h,wk A5⟩) fun hb=>bEL fun E N=>lfL (fun z=>kV 5 3 0 2 (W2 (T:=tyT) (c:=(vI .u8)) (l:=([wrap .u8 (Int.tmod j 128)]:List Int)) (l2:=B) (n:=1) (e:=5) (e2:=5) (bytes:=1) (b2:=1) (tok2:= .none) O8 N) z)<|lfL (fun z=>KO (⟨65,[(6, .own 0 d 1),(8,qi j),(9, .own 1 (1+B.length) 1),(30,ql 1 (cI .i64) a),(31,qi (a.length)),(32,qi f)]⟩) (⟨[[.buf (List.map (vI .u8) i)],[.buf (List.map (vI .u8) E)]],[]⟩) zJ (kE ⟨[0,3],4,[],0⟩) z)<|rgL<|rgL<|bFL (bW<|db<|XW<|dM<|jnL A5)<|zp fun h=>⟨(wrap .i64 (Int.tdiv j 128),1+B.length,E),h,wk A5⟩) fun g=>rgL<|blL (fun A=>⟨65,[(6, .own 0 d 1),(9, .own 1 g.1 1),(30,ql 1 (cI .i64) a),(31,qi (a.length)),(32,qi f)]⟩) (fun A=>⟨[[.buf (List.map (vI .u8) i)],[.buf (List.map (vI .u8) A)]],[]⟩) (fun A=>lpL (fun k x=>yY n g k x.1 x.2) (0,g.2) A5 (fun x=>⟨65,[(6, .own 0 d 1),(9, .own 1 g.1 1),(10,qi x.1),(30,ql 1 (cI .i64) a),(31,qi (a.length)),(32,qi f)]⟩) (fun x=>⟨[[.buf (List.map (vI .u8) i)],[.buf (List.map (vI .u8) x.2)]],[]⟩) fun k x=>by obtain⟨O,F⟩:=x; rw [yY]; exact rgL<|bFL (zo<|bEL fun P Q=>bEL fun R S=>bEL fun U V=>bEL fun W X=>xo zJ (kPL 2 (pb (id:=1) (e:=5) (sz:=1) (b:=1) Q)<|kPL 3 (pD (c:=(vI .u8)) (l:=F) (off:=(P*1)) S)<|kPL 5 (pb (id:=1) (e:=5) (sz:=1) (b:=1) V)<|lfL (fun z=>kV 6 2 0 1 (da (T:=tyT) (t:=5) (c:=(vI .u8)) (l:=F) (off:=(U*1)) (x:=wrap .u8 (R+128)) (uI .u8) O8 X) z) edL)<|zp<|z8 zl fun h=>⟨(wrap .i64 (O+1),W),h,wk A5⟩)<|xjL<|jnL A5) fun A=>bEL fun C Y=>yV (Wk.frz (c:=(vI .u8)) (l:=A) 9 1 g.1 Y O8)<|lfL (fun z=>mz z)<|kFL (fun hb=>lfL (fun z=>kV 2 2 0 2 (Pp (T:=tyT) (n:=d) (c:=(vI .u8)) (l2:=C) (e:=5) (e2:=5) (bytes:=1) (b2:=1) (tok2:= .none) (cell:=none) (id:=0) O8 hb) z)<|lfL (fun z=>KO (⟨65,[(6, .own 0 d 1),(30,ql 1 (cI .i64) a),(31,qi (a.length)),(32,qi f)]⟩) (⟨[[.buf (List.map (vI .u8) i)]],[]⟩) (j3 zX) (kE A7) z)<|jnL A3) fun hb=>bEL fun Z a1=>lfL (fun z=>kV 2 2 0 0 (W2 (T:=tyT) (c:=(vI .u8)) (l:=i) (l2:=C) (n:=d) (e:=5) (e2:=5) (bytes:=1) (b2:=1) (tok2:= .none) O8 a1) z)<|lfL (fun z=>KO (⟨65,[(6, .own 0 (d+C.length) 1),(30,ql 1 (cI .i64) a),(31,qi (a.length)),(32,qi f)]⟩) (⟨[[.buf (List.map (vI .u8) Z)]],[]⟩) (j3 zX) (kE Aw) z)<|jnL A3) fun m=>z8 zl fun h=>⟨(m.1,wrap .i64 (f+1),m.2),h,wk A3⟩)<|xjL<|jnL A3) fun w=>bP 1 Kr fun a4=>rKL A2
def zD (n:Nat)(a0:Int)(a1:List Cn):Option Cn:=
 (xi n a0 a1).bind fun a=>
 some a.1
theorem zN {n a0 a1 r}:zD n a0 a1=some r→AC mx 59 [qi a0,ql 1 cS a1] [] (qs r) []:=
 fnL Tryz.func59 rfl<|rgL<|bC 2 A1 uf fun a=>rgL<|rKL A1
def jv (n:Nat)(a0:Int):Nat→Int→Int→Option Int
 |0,_,_=>none
 | k+1,b,a=>
  if decide (a<16)then(((WA .i64 a0 a).bind fun c=>
  if(Int.tmod c 2)==1 then(some (wrap .i64 (a+1)))else(some b)).bind fun d=>
  jv n a0 k d (wrap .i64 (a+1)))else(some b)
def jy (n:Nat)(d a0:Int)(c:Nat):Nat→Int→(List Int)→Option (List Int)
 |0,_,_=>none
 | k+1,a,b=>
  if decide (a<d)then(((WA .i64 a0 a).bind fun e=>
  if(Int.tmod e 2)==1 then((gu c (wrap .i64 ((1:Int)+(wrap .i64 (Int.tdiv a 8))))).bind fun f=>
  ((b)[(f*1)]?).bind fun g=>
  (WA .u8 128 (Int.tmod a 8)).bind fun i=>
  (gu c (wrap .i64 ((1:Int)+(wrap .i64 (Int.tdiv a 8))))).bind fun j=>
  (Wt b (j*1) (ior .u8 g i)).bind fun l=>
  some l)else(some b)).bind fun m=>
  jy n d a0 c k (wrap .i64 (a+1)) m)else(some b)
def vK (n:Nat)(a0:Int):Option (Cn×Int):=
 (if decide (a0<0)then(some true)else(some (decide (a0>65535)))).bind fun c=>
 if c then(some (([]:Cn),1))else((jv n a0 n 0 0).bind fun a=>
 (Kg 1 (wrap .i64 ((1:Int)+(wrap .i64 (Int.tdiv (wrap .i64 (a+7)) 8)))) (wrap .i64 ((1:Int)+(wrap .i64 (Int.tdiv (wrap .i64 (a+7)) 8))))).bind fun b=>
 (gu b 0).bind fun d=>
 (Wt (List.replicate b (0:Int)) (d*1) (wrap .u8 (wrap .i64 ((wrap .i64 ((8:Int)*(wrap .i64 (Int.tdiv (wrap .i64 (a+7)) 8))))-a)))).bind fun e=>
 (jy n a a0 b n 0 e).bind fun f=>
 (Ke b f).bind fun g=>
 some (g,0))
theorem Y7 {n a0 r}:vK n a0=some r→AC mx 60 [qi a0] [] (.tuple [qs r.1,qi r.2]) []:=
 fnL Tryz.func60 rfl<|rgL<|bEL fun B hE=>rgF hE ⟨62,[(0,qi a0),(13,qb B)]⟩ ⟨[],[]⟩ (gFL 3 10 (eJ A1)<|eJ A1)<|bFL (rgL<|rKL A1)<|rgL<|rgL<|blL (fun a=>⟨62,[(0,qi a0),(4,qi a)]⟩) (fun a=>⟨[],[]⟩) (fun a=>lpL (fun k x=>jv n a0 k x.1 x.2) (0,0) A1 (fun x=>⟨62,[(0,qi a0),(4,qi x.1),(5,qi x.2)]⟩) (fun x=>⟨[],[]⟩) fun k x=>by obtain⟨M,m⟩:=x; rw [jv]; exact rgL<|bFL (blL (fun d=>⟨62,[(0,qi a0),(4,qi d),(5,qi m)]⟩) (fun d=>⟨[],[]⟩) (fun d=>bP 2 Kq fun N=>bFL (z8 zX<|jnL A1)<|jnL A1) fun d=>z8 zl fun h=>⟨(d,wrap .i64 (m+1)),h,wk A1⟩)<|xjL<|jnL A1) fun a=>bEL fun f C=>rCL (lfL (fun z=>kV 4 0 0 0 (BM (T:=tyT) (e:=5) (k1:= .i64) (k2:= .i64) (bytes:=1) (cell:=none) (c:=(vI .u8)) (uI .u8) 0 ⟨O8,O8⟩ C) z) edL)<|bEL fun D E=>bEL fun F G=>rCL (kPL 8 (pb (id:=0) (e:=5) (sz:=1) (b:=1) E)<|lfL (fun z=>kV 9 1 0 0 (da (T:=tyT) (t:=5) (c:=(vI .u8)) (l:=List.replicate f (0:Int)) (off:=(D*1)) (x:=wrap .u8 (wrap .i64 ((wrap .i64 ((8:Int)*(wrap .i64 (Int.tdiv (wrap .i64 (a+7)) 8))))-a))) (uI .u8) O8 G) z) edL)<|rgL<|blL (fun i=>⟨62,[(6, .own 0 f 1)]⟩) (fun i=>⟨[[.buf (List.map (vI .u8) i)]],[]⟩) (fun i=>lpL (fun k x=>jy n a a0 f k x.1 x.2) (0,F) A3 (fun x=>⟨62,[(0,qi a0),(4,qi a),(6, .own 0 f 1),(7,qi x.1)]⟩) (fun x=>⟨[[.buf (List.map (vI .u8) x.2)]],[]⟩) fun k x=>by obtain⟨o,j⟩:=x; rw [jy]; exact rgL<|bFL (blL (fun g=>⟨62,[(0,qi a0),(4,qi a),(6, .own 0 f 1),(7,qi o)]⟩) (fun g=>⟨[[.buf (List.map (vI .u8) g)]],[]⟩) (fun g=>bP 2 Kq fun O=>bFL (bEL fun s u=>bEL fun H v=>bEL fun I w=>bEL fun J A=>bEL fun K L=>lfL (fun z=>zmN zX [0,1,2,3,4,5,6,7,8,9,10,11] [11] [[],[],[1],[1,2],[0,1,2,3],[0,1,2,3,4],[],[6],[6,7],[0,1,2,3,4,5,6,7,8],[0,1,2,3,4,5,6,7,8,9],[0,1,2,3,4,5,6,7,8,9,10]] [6,7] [(0,qi a0),(4,qi a)] ⟨[[.buf (List.map (vI .u8) K)]],[]⟩ (dS (zx 0 4)<|dP (pb (id:=0) (e:=5) (sz:=1) (b:=1) u)<|dP (pD (c:=(vI .u8)) (l:=j) (off:=(s*1)) v)<|dS [6,7]<|dP (Jl w)<|dS [9]<|dP (pb (id:=0) (e:=5) (sz:=1) (b:=1) A)<|dV (zr 10 (pb (id:=0) (e:=5) (sz:=1) (b:=1) A) (zr 8 (Jl w) (zr 5 (pD (c:=(vI .u8)) (l:=j) (off:=(s*1)) v) (zr 4 (pb (id:=0) (e:=5) (sz:=1) (b:=1) u) zW)))) 1 0 0 (da (T:=tyT) (t:=5) (c:=(vI .u8)) (l:=j) (off:=(J*1)) (x:=ior .u8 H I) (uI .u8) O8 L)<|dE A3) z)<|jnL A3)<|jnL A3) fun g=>z8 zl fun h=>⟨(wrap .i64 (o+1),g),h,wk A3⟩)<|xjL<|jnL A3) fun i=>bP 1 Kr fun P=>rKL A2
def uM (n:Nat)(a0:Cn):Option Cn:=
 (vm n a0).bind fun a=>
 (zD n 6 ([a.1]:List Cn)).bind fun b=>
 some b
theorem gW {n a0 r}:uM n a0=some r→AC mx 129 [qs a0] [] (qs r) []:=
 fnL Tryz.func129 rfl<|rgL<|bC 1 A1 dk fun a=>bC 2 A1 zN fun b=>rKL A1
def uj (n:Nat)(a0:List Cn):Nat→Cn→Int→Option Cn
 |0,_,_=>none
 | k+1,b,a=>
  if decide (a<(a0.length:Int))then((zM a0 a).bind fun c=>
  (uM n c).bind fun d=>
  (um b d).bind fun e=>
  uj n a0 k e (wrap .i64 (a+1)))else(some b)
def qd (n:Nat)(a0:List Cn):Option Cn:=
 (uj n a0 n ([]:Cn) 0).bind fun a=>
 some a
theorem Vf {n a0 r}:qd n a0=some r→AC mx 61 [ql 1 cS a0] [] (qs r) []:=
 fnL Tryz.func61 rfl<|rgL<|rgL<|rgL<|blL (fun a=>⟨19,[(3,qs a)]⟩) (fun a=>⟨[],[]⟩) (fun a=>lpL (fun k x=>uj n a0 k x.1 x.2) (([]:Cn),0) A1 (fun x=>⟨19,[(0,ql 1 cS a0),(3,qs x.1),(4,qi x.2)]⟩) (fun x=>⟨[],[]⟩) fun k x=>by obtain⟨g,b⟩:=x; rw [uj]; exact cP 2 (ue a0)<|bFL (zo<|bEL fun i c=>bEL fun j d=>bEL fun e f=>xo zJ (kPL 3 (ww c)<|kCL 5 A1 (gW d)<|kPL 6 (zK f) edL)<|zp<|z8 zl fun h=>⟨(e,wrap .i64 (b+1)),h,wk A1⟩)<|xjL<|jnL A1) fun a=>rgL<|rKL A1
def kI (n:Nat)(a0:Bool):Option Cn:=
 if a0 then(some ([255]:Cn))else(some ([0]:Cn))
theorem Ys {n a0 r}:kI n a0=some r→AC mx 130 [qb a0] [] (qs r) []:=
 fnL Tryz.func130 rfl<|rgL<|rgL<|bFL (rgL<|rKL A1)<|rgL<|rKL A1
def uv (n:Nat)(a0:Int)(a1:Bool):Option Cn:=
 if !a1 then(some ([]:Cn))else((kI n true).bind fun a=>
 (zD n a0 ([a]:List Cn)).bind fun b=>
 some b)
theorem qM {n a0 a1 r}:uv n a0 a1=some r→AC mx 62 [qi a0,qb a1] [] (qs r) []:=
 fnL Tryz.func62 rfl<|rgL<|rgL<|bFL (rgL<|rKL A1)<|bEL fun c a=>bEL fun d b=>rCL (kCL 1 A1 (Ys a)<|kCL 3 A1 (zN b) edL)<|rKL A1
def wa (n:Nat)(a0:List za):Nat→(List Cn)→Int→Option (List Cn)
 |0,_,_=>none
 | k+1,c,a=>
  if decide (a<(a0.length:Int))then((zM a0 a).bind fun b=>
  (uM n b.xx).bind fun d=>
  (zD n b.zG ([b.vg]:List Cn)).bind fun e=>
  (zD n 48 ([d,e]:List Cn)).bind fun f=>
  (jR 16 c ([f]:List Cn)).bind fun g=>
  wa n a0 k g (wrap .i64 (a+1)))else(some c)
def jJ (n:Nat)(a0:List za):Option (List Cn):=
 (wa n a0 n ([]:List Cn) 0).bind fun a=>
 some a
theorem Yi {n a0 r}:jJ n a0=some r→AC mx 188 [ql 3 za.cells a0] [] (ql 1 cS r) []:=
 fnL Tryz.func188 rfl<|rgL<|rgL<|cP 1 (g9 a0)<|blL (fun a=>⟨28,[(3, .sl 1 (List.map cS a) (.fam 0 (a.length)))]⟩) (fun a=>⟨[],[a.length]⟩) (fun a=>yV (wk (fr':=⟨28,[(3,qn),(6,ql 3 za.cells a0),(7,qi (a0.length)),(8,qi 0)]⟩) (st':=⟨[],[]⟩) A1)<|yV Wk.nilFam<|lpL (fun k x=>wa n a0 k x.1 x.2) (([]:List Cn),0) A6 (fun x=>⟨28,[(3, .sl 1 (List.map cS x.1) (.fam 0 (x.1.length))),(6,ql 3 za.cells a0),(7,qi (a0.length)),(8,qi x.2)]⟩) (fun x=>⟨[],[x.1.length]⟩) fun k x=>by obtain⟨j,c⟩:=x; rw [wa]; exact rgL<|bFL (zo<|bP 0 ZF fun l=>bEL fun m d=>bEL fun o f=>bEL fun s g=>bEL fun b i=>lfL (fun z=>zmN zJ [0,1,2,4,5,6,7,8,3,9,10,11,12,13,14] [3,9,11,13,14] [[],[],[1],[1,2],[],[4],[],[6],[6,7],[1,2,3,4,5,6,7,8],[1,2,3,4,5,6,7,8,9],[1,2,3,4,5,6,7,8,9,10],[1,2,3,4,5,6,7,8,9,10,11],[0,1,2,3,4,5,6,7,8,9,10,11,12],[0,1,2,3,4,5,6,7,8,9,10,11,12,13]] [6,7] [(3, .sl 1 (List.map cS b) (.fam 0 (b.length))),(8,qi c)] ⟨[],[b.length]⟩ (dS [0,1,2,4,5,6,7,8]<|dC zW Aj (gW d)<|dC zW Aj (zN f)<|dS [10]<|dC zW Aj (zN g)<|dS [12]<|dA zW 0 cS (e:=9) (e2:=9) (sz:=1) (bytes:=16) (b2:=16) (tok2:= .exact) i<|dF zW<|dE Ce) z)<|zp<|z8 zl fun h=>⟨(b,wrap .i64 (c+1)),h,wk A6⟩)<|xjL<|jnL A6) fun a=>rgL<|rKL Aa
end Go.Abs
end
