/- For each Go function: if its typed Lean form gives some result, the call returns that result (printed by a program of this hand). Condition: the typed form gives some result. -/
import Derived.Test.YtbggpcnbbhjiaaaGreatDoorT3
set_option linter.unusedVariables false
set_option linter.unusedSimpArgs false
set_option linter.unnecessarySimpa false
section
set_option maxRecDepth 100000
set_option maxHeartbeats 0
namespace Go.Abs
open Go Go.Proofs IntKind
abbrev A1:Ren:=⟨[],0,[],0⟩
abbrev A2:Ren:=⟨[],1,[],0⟩
abbrev A3:Ren:=⟨[0],1,[],0⟩
abbrev A4:Ren:=⟨[],2,[],0⟩
abbrev A5:Ren:=⟨[0,1],2,[],0⟩
abbrev A6:Ren:=⟨[],0,[0],1⟩
abbrev A7:Ren:=⟨[],3,[],0⟩
abbrev A8:Ren:=⟨[0],2,[],0⟩
abbrev A9:Ren:=⟨[1],2,[],0⟩
abbrev Aa:Ren:=⟨[],0,[],1⟩
abbrev Ab:Ren:=⟨[],4,[],0⟩
abbrev Ac:Ren:=⟨[0,1,2],4,[],0⟩
abbrev Ad:Ren:=⟨[0,1,2],3,[],0⟩
abbrev Ae:Ren:=⟨[0],3,[],0⟩
abbrev Af:Ren:=⟨[1],3,[],0⟩
abbrev Ag:Ren:=⟨[],5,[],0⟩
abbrev Ah:Ren:=⟨[],1,[],1⟩
abbrev Ai:Ren:=⟨[],3,[],1⟩
abbrev Aj:Ren:=⟨[0,2],3,[],0⟩
abbrev Ak:Ren:=⟨[0],4,[],0⟩
abbrev Al:Ren:=⟨[0,1,2,3],4,[0],1⟩
abbrev Am:Ren:=⟨[],2,[],1⟩
abbrev An:Ren:=⟨[0],1,[0],1⟩
abbrev Ao:Ren:=⟨[2],3,[],0⟩
abbrev Ap:Ren:=⟨[3],4,[],0⟩
abbrev Aq:Ren:=⟨[0,1],2,[0],1⟩
abbrev Ar:Ren:=⟨[1,2],3,[],0⟩
abbrev As:Ren:=⟨[],4,[],1⟩
abbrev At:Ren:=⟨[0,1,4],5,[],0⟩
abbrev Au:Ren:=⟨[0],2,[0],1⟩
abbrev Av:Ren:=⟨[0],1,[],1⟩
abbrev Aw:Ren:=⟨[0,1,2],3,[0],1⟩
abbrev Ax:Ren:=⟨[0],4,[],1⟩
abbrev Ay:Ren:=⟨[],6,[],0⟩
abbrev Az:Ren:=⟨[2],4,[],0⟩
abbrev C1:Ren:=⟨[0,1,2],5,[0],1⟩
abbrev C3:Ren:=⟨[0,2,3],4,[0],1⟩
abbrev C4:Ren:=⟨[1],4,[],1⟩
abbrev C5:Ren:=⟨[0,2],4,[0],1⟩
abbrev C6:Ren:=⟨[],1,[0],1⟩
abbrev C7:Ren:=⟨[1],2,[],1⟩
abbrev C8:Ren:=⟨[],2,[0],1⟩
abbrev C9:Ren:=⟨[0,1,3,4],5,[0],1⟩
abbrev Ca:Ren:=⟨[],0,[],2⟩
abbrev Cb:Ren:=⟨[1,2,3,5],6,[],0⟩
abbrev Cc:Ren:=⟨[],5,[],1⟩
abbrev Cd:=List UInt8
section
variable {gl:Nat→List V} {ops:Array Oper} {K K2:AFr→St→Prop} {s0:St} {c:Code} {cs:List Code} {AQ:Exit→AFr→St→Prop} {id id':Nat} {fr:AFr} {st:St} {p:Prop} {α β:Type} {e:Option α} {g:α→Option β} {u:β}
noncomputable abbrev QN (ops:Array Oper) (gl:Nat→List V) (fr:AFr) (st:St) (k:Nat) (R:Ren) (r:V) (st2:St):Cfg:=gj (kl tyT gl ops 0 k (fr,st)) (xZ ops k) (V.ren R r) (fun st=>St.after R st st2)
noncomputable abbrev Qs (ops:Array Oper) (gl:Nat→List V) (fr:AFr) (st:St) (k:Nat) (v:V):Cfg:=XH (kl tyT gl ops 0 k (fr,st)) (xZ ops k) v
theorem cC (k:Nat) (R:Ren) {f:FuncId} {args1:List V} {st1 st2:St} {r:V} (hc:uR Tryz.prog gl f args1 st1 (Out r st2)) (h2:Im p (zt Tryz.prog gl s0 (c::cs) AQ (Yu tyT gl ops (k+1) (QN ops gl fr st k R r st2)).1 (Yu tyT gl ops (k+1) (QN ops gl fr st k R r st2)).2)) (hb:goB tyT gl ops 0 k (fr,st) R f args1 st1=true:=by kernel_rfl) (he:Kd R st1 args1=goR tyT gl ops 0 k (fr,st) R args1 st1:=by kernel_rfl) (hn:Vt tyT gl ops (k+1) (QN ops gl fr st k R r st2)=true:=by kernel_rfl):Im p (zt Tryz.prog gl s0 (.region id ops false::c::cs) AQ fr st):=rCL (kCL k R hc (edL hn) hb he) h2
theorem bC (k:Nat) (R:Ren) {f:FuncId} {args1:List V} {st1:St} {st2:α→St} {r:α→V} (hc:∀ {a},e=some a→uR Tryz.prog gl f args1 st1 (Out (r a) (st2 a))) (h2:∀a,Im (g a=some u) (zt Tryz.prog gl s0 (c::cs) AQ (Yu tyT gl ops (k+1) (QN ops gl fr st k R (r a) (st2 a))).1 (Yu tyT gl ops (k+1) (QN ops gl fr st k R (r a) (st2 a))).2)) (hb:goB tyT gl ops 0 k (fr,st) R f args1 st1=true:=by kernel_rfl) (he:Kd R st1 args1=goR tyT gl ops 0 k (fr,st) R args1 st1:=by kernel_rfl) (hn:∀a,Vt tyT gl ops (k+1) (QN ops gl fr st k R (r a) (st2 a))=true:=by intro _; kernel_rfl):Im (e.bind g=some u) (zt Tryz.prog gl s0 (.region id ops false::c::cs) AQ fr st):=bEL fun a ha=>cC k R (hc ha) (h2 a) hb he (hn a)
theorem cP (k:Nat) {q:Option V} {v:V} (hq:q=some v) (h2:Im p (zt Tryz.prog gl s0 (c::cs) AQ (Yu tyT gl ops (k+1) (Qs ops gl fr st k v)).1 (Yu tyT gl ops (k+1) (Qs ops gl fr st k v)).2)) (he:Xa tyT gl ops 0 k (fr,st)=Zw q (kl tyT gl ops 0 k (fr,st)).2:=by kernel_rfl) (hn:Vt tyT gl ops (k+1) (Qs ops gl fr st k v)=true:=by kernel_rfl):Im p (zt Tryz.prog gl s0 (.region id ops false::c::cs) AQ fr st):=rCL (kPL k hq (edL hn) (Nat.ble_eq_true_of_le (Nat.zero_le k)) he) h2
theorem bP (k:Nat) {q:Option V} {v:α→V} (hq:∀ {a},e=some a→q=some (v a)) (h2:∀a,Im (g a=some u) (zt Tryz.prog gl s0 (c::cs) AQ (Yu tyT gl ops (k+1) (Qs ops gl fr st k (v a))).1 (Yu tyT gl ops (k+1) (Qs ops gl fr st k (v a))).2)) (he:Xa tyT gl ops 0 k (fr,st)=Zw q (kl tyT gl ops 0 k (fr,st)).2:=by kernel_rfl) (hn:∀a,Vt tyT gl ops (k+1) (Qs ops gl fr st k (v a))=true:=by intro _; kernel_rfl):Im (e.bind g=some u) (zt Tryz.prog gl s0 (.region id ops false::c::cs) AQ fr st):=bEL fun a ha=>cP k (hq ha) (h2 a) he (hn a)
theorem rKL {P:Prop} (R:Ren) (q:Tg R→P:=by intro t h; cases h; exact zap (rtT t)):P:=q .mk
theorem xjL {Y:Type} {F:Y→AFr} {S:Y→St} {L:Y→Prop} (hx:Im p (ZK s0 F S L fr st)):Im p (zt Tryz.prog gl s0 (.exit id::cs) (un K (dH s0 id F S L AQ)) fr st):=bz (Xn (db hx))
theorem hKL {A Y Y2 Z:Type} {o:Ctl A Y} {g:A→Option Z} {x:A} {r:Z} {F:Y2→AFr} {S:Y2→St} {L:Y2→Prop} (hr:∀x,o= .ret x→g x=some r) (h:Im (g x=some r) (AQ .ret fr st)):Im (some (.ret x)=some o) (zt Tryz.prog gl s0 (.ret::cs) (pU id (un K (un K2 (dH s0 id' F S L AQ)))) fr st):=yu (yO (wx (hvL hr (yi h))))
def zv:Nat→Nat→List Nat
  |_,0=> []
  |a,n+1=>a::zv (a+1) n
theorem zQ {s t u}:type_of% (@rh s t u (tyT 9).d):=rh
theorem zX {s t lo hi}:type_of% (@zaE s t lo hi .i64 .i64):=zaE
theorem G6 (l) (tok):type_of% (@p8 _ (cI .i64) l 3 1 1 8 tok):=p8
theorem Xw (tok) {l n x}:type_of% (@gE _ (cI .i64) l n x 3 1 8 tok):=gE
theorem uu (l):type_of% (@p8 _ cS l 9 1 1 16 .none):=p8
theorem vq {l n x}:type_of% (@gE _ cS l n x 9 1 16 .none):=gE
theorem jO {l t hi}:type_of% (@J7 _ cS l t hi .i64 9 1 16 .none):=J7
theorem jM {l t lo}:type_of% (@Ys _ cS l t lo .i64 9 1 16 .none):=Ys
theorem v8 {s t lo}:type_of% (@DX s t lo .i64):=DX
theorem uQ {s t hi}:type_of% (@P6 s t hi .i64):=P6
theorem gH (l):type_of% (@p8 _ zb.cells l 140 3 3 40 .none):=p8
theorem pY {l n x}:type_of% (@gE _ zb.cells l n x 140 3 40 .none):=gE
theorem bQ (l):type_of% (@p8 _ (cL 3 zb.cells) l 141 1 1 24 .none):=p8
theorem p7 {l n x}:type_of% (@gE _ (cL 3 zb.cells) l n x 141 1 24 .none):=gE
theorem bA (l):type_of% (@p8 _ zd.cells l 59 3 3 48 .none):=p8
theorem qO (l):type_of% (@p8 _ zj.cells l 68 4 4 64 .none):=p8
theorem vG {l n x}:type_of% (@gE _ zd.cells l n x 59 3 48 .none):=gE
theorem u6 {l n x}:type_of% (@gE _ zj.cells l n x 68 4 64 .none):=gE
theorem Qp {l n x}:type_of% (@gE _ (cI .i64) l n x 3 1 8 .exact):=gE
theorem xY {l n x}:type_of% (@gE _ (cI .i64) l n x 3 1 8 .none):=gE
theorem gP {l t lo}:type_of% (@Ys _ (cI .i64) l t lo .i64 3 1 8 .none):=Ys
theorem bD (l):type_of% (@p8 _ (cI .i64) l 3 1 1 8 .none):=p8
theorem GK {a b c}:type_of% (@Wj .i64 .i64 a b c (tyT 3).d):=Wj
theorem Uj {a b c}:type_of% (@Wj .u8 .i64 a b c (tyT 5).d):=Wj
theorem nS {a b c}:type_of% (@Wj .u64 .i64 a b c (tyT 192).d):=Wj
theorem VP (l):type_of% (@p8 _ (cI .u8) l 5 1 1 1 .none):=p8
theorem df {l n x}:type_of% (@gE _ (cI .u8) l n x 5 1 1 .none):=gE
theorem fQ {l t lo}:type_of% (@Ys _ (cI .u8) l t lo .i64 5 1 1 .none):=Ys
theorem GJ {a b c}:type_of% (@V6 .i64 .u64 a b c (tyT 3).d):=V6
theorem xT (l):type_of% (@p8 _ za.cells l 103 3 3 40 .none):=p8
theorem yN {l n x}:type_of% (@gE _ za.cells l n x 103 3 40 .none):=gE
theorem UO {l t lo}:type_of% (@Ys _ za.cells l t lo .i64 103 3 40 .none):=Ys
theorem Gs {a b c}:type_of% (@V6 .u8 .u64 a b c (tyT 5).d):=V6
theorem nx {a b c}:type_of% (@Wj .u8 .u64 a b c (tyT 5).d):=Wj
theorem fu {l t hi}:type_of% (@J7 _ zb.cells l t hi .i64 140 3 40 .none):=J7
theorem rm (l):type_of% (@p8 _ (cI .i64) l 3 1 1 8 .exact):=p8
theorem ZR {a b c}:type_of% (@Wj .i64 .u64 a b c (tyT 3).d):=Wj
theorem oi {a b c}:type_of% (@V6 .i64 .u8 a b c (tyT 3).d):=V6
theorem nk {a b c}:type_of% (@re .i64 a b c (tyT 3).d):=re
theorem nQ {a b c}:type_of% (@V6 .i64 .i64 a b c (tyT 3).d):=V6
end
variable {mx:Int}
def yf (n:Nat):Nat→Int→Option Cd
 |0,_=>none
 | kk+1,a0=>
  if decide (a0<10)then(some (b2s ([wrap .u8 (wrap .i64 ((48:Int)+a0))]:List Int)))else(((yf n kk) (wrap .i64 (Int.tdiv a0 10))).bind fun a=>
  (jw a (b2s ([wrap .u8 (wrap .i64 ((48:Int)+(Int.tmod a0 10)))]:List Int))).bind fun b=>
  some b)
theorem qJ {n:Nat}:∀(kk:Nat) {a0:Int} {r:Cd} (_:yf n kk a0=some r),AC mx 99 [qi a0] [] (qs r) []:=by
 intro kk
 induction kk with
 |zero=>intro a0 r h; simp [yf]at h
 | succ kk ih=>
  intro a0 r h
  rw [yf]at h
  exact imA h<|fnL Tryz.func99 rfl<|rgL<|rgL<|bFL (rCL (lfL (fun z=>kB 4 ([wrap .u8 (wrap .i64 ((48:Int)+a0))]:List Int) z) edL)<|rKL A1)<|bEL fun d a=>bEL fun b c=>lfL (fun z=>zs [0,1,3,4,5,6,7,8,2,9,10] [2] [[],[0],[0,1],[],[3],[3,4],[3,4,5],[3,4,5,6],[3,4,5,6,7],[0,1,2,3,4,5,6,7,8],[0,1,2,3,4,5,6,7,8,9]] [] [(2,qs b)] (dS [0,1,3,4,5,6,7]<|dP (mD ([wrap .u8 (wrap .i64 ((48:Int)+(Int.tmod a0 10)))]:List Int))<|dC (zr 8 (mD ([wrap .u8 (wrap .i64 ((48:Int)+(Int.tmod a0 10)))]:List Int)) yb) A1 (ih a)<|dP (zQ c)<|dS [10]<|dE A1) z)<|rKL A1
def qU (n:Nat)(a0:Int):Option Cd:=
 some (b2s ([wrap .u8 a0]:List Int))
theorem W5 {n a0 r}:qU n a0=some r→AC mx 237 [qi a0] [] (qs r) []:=
 fnL Tryz.func237 rfl<|rgL<|rCL (lfL (fun z=>kB 3 ([wrap .u8 a0]:List Int) z) edL)<|rKL A1
def wY (n:Nat)(a:Cd):Nat→Int→Int→Option Int
 |0,_,_=>none
 | k+1,c,b=>
  if decide (b<(a.length:Int))then((yw a b).bind fun d=>
  wY n a k (wrap .i64 ((wrap .i64 ((10:Int)*c))+(wrap .i64 (wrap .u8 (d-48))))) (wrap .i64 (b+1)))else(some c)
def xd (n:Nat)(a0:Cd):Nat→(List Int)→Int→Int→Option (Ctl ((List Int)×Bool) (List Int))
 |0,_,_,_=>none
 | k+1,b,d,a=>
  if decide (a≤(a0.length:Int))then(z8 ((if decide (a<(a0.length:Int))then((yw a0 a).bind fun g=>
  some (g !=46))else(some false)).bind fun i=>
  if i then(((yw a0 a).bind fun j=>
  if decide (j<48)then(some true)else((yw a0 a).bind fun l=>
  some (decide (l>57)))).bind fun m=>
  if m then(some (.ret (([]:List Int),false)))else(some (.nxt (b,d))))else((ssl a0 d a).bind fun c=>
  (if(c.length:Int)==0 then(some true)else(if decide ((c.length:Int)>10)then(some true)else(if decide ((c.length:Int)>1)then((yw c 0).bind fun o=>
  if o==48 then(some true)else(some ((b.length:Int)==12)))else(some ((b.length:Int)==12))))).bind fun s=>
  if s then(some (.ret (([]:List Int),false)))else((wY n c n 0 0).bind fun e=>
  if decide (e>2147483647)then(some (.ret (([]:List Int),false)))else((gL 8 b ([e]:List Int)).bind fun u=>
  some (.nxt (u,wrap .i64 (a+1))))))) (fun r=>some (.ret r)) (fun f=>
  xd n a0 k f.1 f.2 (wrap .i64 (a+1))))else(some (.nxt b))
def jW (n:Nat)(a0:Cd):Option ((List Int)×Bool):=
 z8 (xd n a0 n ([]:List Int) 0 0) (fun r=>some r) (fun a=>
 (if decide ((a.length:Int)<2)then(some true)else((zV a 0).bind fun b=>
 if decide (b>2)then(some true)else((zV a 0).bind fun c=>
 if decide (c<2)then((zV a 1).bind fun d=>
 some (decide (d>39)))else(some false)))).bind fun e=>
 if e then(some (([]:List Int),false))else(some (a,true)))
theorem pA {n a0 r}:jW n a0=some r→AC mx 128 [qs a0] [] (.tuple [ql 1 (cI .i64) r.1,qb r.2]) []:=
 fnL Tryz.func128 rfl<|rgL<|rgL<|rgL<|rgL<|bcL (fun b=>⟨107,[(4, .sl 1 (List.map (cI .i64) b) (.fam 0 (b.length)))]⟩) (fun b=>⟨[],[b.length]⟩) (fun K g=>xR (wk (fr':=⟨107,[(0,qs a0),(4,qn),(5,qi 0),(6,qi 0)]⟩) (st':=⟨[],[]⟩) A1)<|xR Wk.nilFam<|lpL (fun k x=>xd n a0 k x.1 x.2.1 x.2.2) (([]:List Int),0,0) A6 (fun x=>⟨107,[(0,qs a0),(4, .sl 1 (List.map (cI .i64) x.1) (.fam 0 (x.1.length))),(5,qi x.2.1),(6,qi x.2.2)]⟩) (fun x=>⟨[],[x.1.length]⟩) fun k x=>by obtain⟨a,l,d⟩:=x; rw [xd]; exact rgL<|bFL (bcL (fun c=>⟨107,[(0,qs a0),(4, .sl 1 (List.map (cI .i64) c.1) (.fam 0 (c.1.length))),(5,qi c.2),(6,qi d)]⟩) (fun c=>⟨[],[c.1.length]⟩) (fun L i=>bEL fun m hE=>rgF hE ⟨107,[(0,qs a0),(4, .sl 1 (List.map (cI .i64) a) (.fam 0 (a.length))),(5,qi l),(6,qi d),(25,qb m)]⟩ ⟨[],[a.length]⟩ (gFL 5 20 (bEL fun M o=>kPL 7 (zW o)<|eJ A6)<|eJ A6)<|bFL (bEL fun s hE=>rgF hE ⟨107,[(0,qs a0),(4, .sl 1 (List.map (cI .i64) a) (.fam 0 (a.length))),(5,qi l),(6,qi d),(35,qb s)]⟩ ⟨[],[a.length]⟩ (bEL fun N u=>kPL 2 (zW u)<|gFL 5 30 (eJ A6)<|bEL fun O v=>kPL 7 (zW v)<|eJ A6)<|bFL (rgL<|yu<|hvL i<|yi<|wx<|hvL g<|yi<|rJ Aa)<|bz<|db<|jCL A6)<|bP 3 zX fun j=>bEL fun w hE=>rgF hE ⟨107,[(0,qs a0),(4, .sl 1 (List.map (cI .i64) a) (.fam 0 (a.length))),(6,qi d),(7,qs j),(62,qb w)]⟩ ⟨[],[a.length]⟩ (gFL 4 43 (eJ A6)<|gFL 9 48 (eJ A6)<|gFL 13 52 (bEL fun P A=>kPL 14 (zW A)<|gFL 19 58 (eJ A6)<|kPL 20 (G6 a (.fam 0 (a.length)))<|eJ A6)<|kPL 20 (G6 a (.fam 0 (a.length)))<|eJ A6)<|bFL (rgL<|yu<|hvL i<|yi<|wx<|hvL g<|yi<|rJ Aa)<|rgL<|rgL<|blL (fun f=>⟨107,[(0,qs a0),(4, .sl 1 (List.map (cI .i64) a) (.fam 0 (a.length))),(6,qi d),(8,qi f)]⟩) (fun f=>⟨[],[a.length]⟩) (fun f=>lpL (fun k x=>wY n j k x.1 x.2) (0,0) A6 (fun x=>⟨107,[(0,qs a0),(4, .sl 1 (List.map (cI .i64) a) (.fam 0 (a.length))),(6,qi d),(7,qs j),(8,qi x.1),(9,qi x.2)]⟩) (fun x=>⟨[],[a.length]⟩) fun k x=>by obtain⟨B,C⟩:=x; rw [wY]; exact rgL<|bFL (zp<|bEL fun D E=>wO zS (kPL 4 (zW E) edL)<|zq<|yl zn fun h=>⟨(wrap .i64 ((wrap .i64 ((10:Int)*B))+(wrap .i64 (wrap .u8 (D-48)))),wrap .i64 (C+1)),h,wk A6⟩)<|xjL<|jnL A6) fun f=>rgL<|bFL (rgL<|yu<|hvL i<|yi<|wx<|hvL g<|yi<|rJ Aa)<|bEL fun Q F=>wO xh (lfL (fun z=>kA 3 0 (cI .i64) (e:=3) (e2:=3) (sz:=1) (bytes:=8) (b2:=8) (tok2:= .exact) F z) edL)<|jCL A6) fun c=>yl zn fun h=>⟨(c.1,c.2,wrap .i64 (d+1)),h,wk A6⟩)<|xjL<|jCL A6) fun b=>bEL fun G hE=>rgF hE ⟨107,[(4, .sl 1 (List.map (cI .i64) b) (.fam 0 (b.length))),(105,qb G)]⟩ ⟨[],[b.length]⟩ (kPL 1 (G6 b (.fam 0 (b.length)))<|gFL 4 88 (eJ A6)<|bEL fun R H=>kPL 5 (Xw (.fam 0 (b.length)) H)<|gFL 10 94 (eJ A6)<|bEL fun S I=>kPL 11 (Xw (.fam 0 (b.length)) I)<|gFL 15 99 (bEL fun T J=>kPL 16 (Xw (.fam 0 (b.length)) J)<|eJ A6)<|eJ A6)<|bFL (rgL<|rKL Aa)<|rgL<|rKL Aa
def xN (n:Nat)(a0:Cd):Option Bool:=
 (jW n a0).bind fun a=>
 some a.2
theorem vX {n a0 r}:xN n a0=some r→AC mx 92 [qs a0] [] (qb r) []:=
 fnL Tryz.func92 rfl<|rgL<|bC 1 A1 pA fun a=>rgL<|rKL A1
def uy (n:Nat)(b a0:List Cd)(c:Int):Nat→Int→Option Int
 |0,_=>none
 | k+1,a=>
  (if decide (a>0)then((zV b (wrap .i64 (a-1))).bind fun d=>
  (zV a0 c).bind fun e=>
  some (!(Op.bytesLess d e)))else(some false)).bind fun f=>
  if f then(uy n b a0 c k (wrap .i64 (a-1)))else(some a)
def uv (n:Nat)(a0:List Cd):Nat→(List Cd)→Int→Option (List Cd)
 |0,_,_=>none
 | k+1,a,b=>
  if decide (b<(a0.length:Int))then(((uy n a a0 b n (a.length:Int)).bind fun c=>
  (if decide (c<(a.length:Int))then((zV a c).bind fun g=>
  (zV a0 b).bind fun i=>
  some (g==i))else(some false)).bind fun j=>
  if j then(some a)else(((lsl a 0 c).bind fun d=>
  (zV a0 b).bind fun e=>
  (lsl a c (a.length)).bind fun f=>
  if List.isEmpty d then((pb 16 ([]:List Cd) ([e]:List Cd)).bind fun l=>
  (gL 16 l f).bind fun m=>
  some m)else((pb 16 ([]:List Cd) d).bind fun o=>
  (gL 16 o ([e]:List Cd)).bind fun s=>
  (gL 16 s f).bind fun u=>
  some u)).bind fun v=>
  some v)).bind fun w=>
  uv n a0 k w (wrap .i64 (b+1)))else(some a)
def bG (n:Nat)(a0:List Cd):Option (List Cd):=
 (uv n a0 n ([]:List Cd) 0).bind fun a=>
 some a
theorem Wv {n a0 r}:bG n a0=some r→AC mx 122 [ql 1 cS a0] [] (ql 1 cS r) []:=
 fnL Tryz.func122 rfl<|rgL<|rgL<|rgL<|blL (fun m=>⟨61,[(3,ql 1 cS m)]⟩) (fun m=>⟨[],[]⟩) (fun m=>xR (wk (fr':=⟨61,[(0,ql 1 cS a0),(3,ql 1 cS ([]:List Cd)),(4,qi 0)]⟩) (st':=⟨[],[]⟩) A1)<|lpL (fun k x=>uv n a0 k x.1 x.2) (([]:List Cd),0) A1 (fun x=>⟨61,[(0,ql 1 cS a0),(3,ql 1 cS x.1),(4,qi x.2)]⟩) (fun x=>⟨[],[]⟩) fun k x=>by obtain⟨f,g⟩:=x; rw [uv]; exact cP 2 (uu a0)<|bFL (blL (fun i=>⟨61,[(0,ql 1 cS a0),(3,ql 1 cS i),(4,qi g)]⟩) (fun i=>⟨[],[]⟩) (fun i=>cP 1 (uu f)<|blL (fun j=>⟨61,[(0,ql 1 cS a0),(3,ql 1 cS f),(4,qi g),(5,qi j)]⟩) (fun j=>⟨[],[]⟩) (fun j=>lpL (fun k x=>uy n f a0 g k x) (f.length:Int) A1 (fun x=>⟨61,[(0,ql 1 cS a0),(3,ql 1 cS f),(4,qi g),(5,qi x)]⟩) (fun x=>⟨[],[]⟩) fun k s=>by rw [uy]; exact bEL fun u hE=>lfL (fun z=>drw [0,1,2,3,4,5,6,7,8,9,10,11,12,13] [] [[],[0],[0,1],[0,1,2],[0,1,2],[0,1,2,4],zv 0 6,zv 0 7,[0,1,2],[0,1,2],[0,1,2,8,9],[0,1,2,8,9,10],zv 0 12,zv 0 13] ⟨61,[(0,ql 1 cS a0),(3,ql 1 cS f),(4,qi g),(5,qi s),(27,qb u)]⟩ ⟨[],[]⟩ (have h:=hE; dS [0,1,2]<|hF 16 h (fun h=>bE h fun J v h=>bE h fun K w h=>dS [3,4,5]<|dP (vq v)<|dS [7,8,9]<|dP (vq w)<|dS [11,12,13]<|by cases h; exact dE A1) fun h=>dS (zv 3 11)<|by cases h; exact dE A1) z)<|bFL (zp<|yl (j7 (P:=Tryz.prog) (gl:=gl0 mx) zn)<|zq fun h=>⟨wrap .i64 (s-1),h,wk A1⟩)<|xjL<|jnL A1) fun j=>bEL fun A hE=>lfL (fun z=>drw [0,1,2,3,4,5,6,7,8,9,10,11,12,13,14] [] [[],[],[1],[0,1,2],zv 0 4,zv 0 5,zv 0 5,zv 0 7,zv 0 8,zv 0 5,zv 0 5,zv 0 5 ++ [9,10],zv 0 5 ++ [9,10,11],zv 0 13,zv 0 14] ⟨61,[(0,ql 1 cS a0),(3,ql 1 cS f),(4,qi g),(5,qi j),(44,qb A)]⟩ ⟨[],[]⟩ (have h:=hE; dS [0,1]<|dP (uu f)<|dS [3,4]<|hF 34 h (fun h=>bE h fun L B h=>bE h fun M C h=>dS [5,6]<|dP (vq B)<|dS [8,9,10]<|dP (vq C)<|dS [12,13,14]<|by cases h; exact dE A1) fun h=>dS (zv 5 10)<|by cases h; exact dE A1) z)<|bFL (bz<|db<|jnL A1)<|bEL fun o hE=>lfL (fun z=>zb5 [0,1,2,3,5,6,7,8,9,11,12,13,4,10,14,15] [4,10,14,15] [[],[],[],[1,2],zv 0 4,[],[],[5,6],[5,6,7],zv 5 4,zv 0 10,[],[],[11,12],zv 0 14,zv 0 15] ⟨61,[(0,ql 1 cS a0),(3, .sl 1 (List.map cS o) (.fam 0 (o.length))),(4,qi g)]⟩ ⟨[],[o.length]⟩ xh (have h:=hE; bE h fun D a h=>bE h fun N b h=>bE h fun O d h=>dS [0,1,2]<|dP (jO a)<|dS [5,6]<|dP (vq b)<|dS [8,9,11,12]<|dP (jM d)<|kF h (fun hb h=>bE h fun Q E h=>bE h fun R F h=>dV (zr 13 (jM d) (zr 7 (vq b) (zr 3 (jO a) yb))) 0 0 0 (Df (T:=tyT) (c:=cS) (l:=([]:List Cd)) (l2:=D) (e:=9) (e2:=9) (sz:=1) (bytes:=16) (b2:=16) (tok:= .exact) (tok2:= .none) (cell:=none) O7 hb)<|dV (zr 13 (jM d) (zr 7 (vq b) (zr 3 (jO a) yb))) 0 0 0 (VS (T:=tyT) (c:=cS) (e:=9) (e2:=9) (sz:=1) (bytes:=16) (b2:=16) (tok2:= .exact) (cell:=none) O7 E)<|dA (zr 13 (jM d) (zr 7 (vq b) (zr 3 (jO a) yb))) 0 cS (e:=9) (e2:=9) (sz:=1) (bytes:=16) (b2:=16) (tok2:= .none) F<|dF (zr 13 (jM d) (zr 7 (vq b) (zr 3 (jO a) yb)))<|by cases h; exact dE A6) fun hb h=>bE h fun S G h=>bE h fun U H h=>bE h fun V I h=>dV (zr 13 (jM d) (zr 7 (vq b) (zr 3 (jO a) yb))) 0 0 0 (VS (T:=tyT) (c:=cS) (e:=9) (e2:=9) (sz:=1) (bytes:=16) (b2:=16) (tok2:= .none) (cell:=none) O7 G)<|dA (zr 13 (jM d) (zr 7 (vq b) (zr 3 (jO a) yb))) 0 cS (e:=9) (e2:=9) (sz:=1) (bytes:=16) (b2:=16) (tok2:= .exact) H<|dA (zr 13 (jM d) (zr 7 (vq b) (zr 3 (jO a) yb))) 0 cS (e:=9) (e2:=9) (sz:=1) (bytes:=16) (b2:=16) (tok2:= .none) I<|dF (zr 13 (jM d) (zr 7 (vq b) (zr 3 (jO a) yb)))<|by cases h; exact dE A6) z)<|jnL Aa) fun i=>yl zn fun h=>⟨(i,wrap .i64 (g+1)),h,wk A1⟩)<|xjL<|jnL A1) fun m=>rgL<|rKL A1
def wI (n:Nat)(a0:Cd)(a1:Int):Nat→(List Cd)→Int→Int→Option (List Cd)
 |0,_,_,_=>none
 | k+1,b,c,a=>
  if decide (a≤(a0.length:Int))then(((if a==(a0.length:Int)then(some true)else((yw a0 a).bind fun e=>
  some (e==a1))).bind fun f=>
  if f then((ssl a0 c a).bind fun g=>
  (gL 16 b ([g]:List Cd)).bind fun i=>
  some (i,wrap .i64 (a+1)))else(some (b,c))).bind fun d=>
  wI n a0 a1 k d.1 d.2 (wrap .i64 (a+1)))else(some b)
def vR (n:Nat)(a0:Cd)(a1:Int):Option (List Cd):=
 (wI n a0 a1 n ([]:List Cd) 0 0).bind fun a=>
 some a
theorem pd {n a0 a1 r}:vR n a0 a1=some r→AC mx 235 [qs a0,qu a1] [] (ql 1 cS r) []:=
 fnL Tryz.func235 rfl<|rgL<|rgL<|rgL<|rgL<|blL (fun b=>⟨35,[(5, .sl 1 (List.map cS b) (.fam 0 (b.length)))]⟩) (fun b=>⟨[],[b.length]⟩) (fun b=>xR (wk (fr':=⟨35,[(0,qs a0),(1,qu a1),(5,qn),(6,qi 0),(7,qi 0)]⟩) (st':=⟨[],[]⟩) A1)<|xR Wk.nilFam<|lpL (fun k x=>wI n a0 a1 k x.1 x.2.1 x.2.2) (([]:List Cd),0,0) A6 (fun x=>⟨35,[(0,qs a0),(1,qu a1),(5, .sl 1 (List.map cS x.1) (.fam 0 (x.1.length))),(6,qi x.2.1),(7,qi x.2.2)]⟩) (fun x=>⟨[],[x.1.length]⟩) fun k x=>by obtain⟨c,f,d⟩:=x; rw [wI]; exact rgL<|bFL (blL (fun a=>⟨35,[(0,qs a0),(1,qu a1),(5, .sl 1 (List.map cS a.1) (.fam 0 (a.1.length))),(6,qi a.2),(7,qi d)]⟩) (fun a=>⟨[],[a.1.length]⟩) (fun a=>bEL fun g hE=>rgF hE ⟨35,[(0,qs a0),(1,qu a1),(5, .sl 1 (List.map cS c) (.fam 0 (c.length))),(6,qi f),(7,qi d),(24,qb g)]⟩ ⟨[],[c.length]⟩ (gFL 5 18 (eJ A6)<|bEL fun m i=>kPL 7 (zW i)<|eJ A6)<|bFL (bEL fun o j=>bEL fun s l=>rCL (kPL 4 (zX j)<|lfL (fun z=>kA 6 0 cS (e:=9) (e2:=9) (sz:=1) (bytes:=16) (b2:=16) (tok2:= .exact) l z) edL)<|yl xh<|jnL A6)<|jnL A6) fun a=>yl zn fun h=>⟨(a.1,a.2,wrap .i64 (d+1)),h,wk A6⟩)<|xjL<|jnL A6) fun b=>rgL<|rKL Aa
def wd (n:Nat)(a0:Int):Option Bool:=
 (if decide (a0≥65)then(if decide (a0≤90)then(some true)else(if decide (a0≥97)then(if decide (a0≤122)then(some true)else(if decide (a0≥48)then(some (decide (a0≤57)))else(some false)))else(if decide (a0≥48)then(some (decide (a0≤57)))else(some false))))else(if decide (a0≥97)then(if decide (a0≤122)then(some true)else(if decide (a0≥48)then(some (decide (a0≤57)))else(some false)))else(if decide (a0≥48)then(some (decide (a0≤57)))else(some false)))).bind fun a=>
 some a
theorem jS {n a0 r}:wd n a0=some r→AC mx 264 [qu a0] [] (qb r) []:=
 fnL Tryz.func264 rfl<|rgL<|bEL fun a hE=>rgF hE ⟨25,[(2,qb a)]⟩ ⟨[],[]⟩ (gFL 3 5 (gFL 7 9 (eJ A1)<|gFL 10 12 (gFL 15 17 (eJ A1)<|gFL 18 20 (eJ A1)<|eJ A1)<|gFL 18 20 (eJ A1)<|eJ A1)<|gFL 10 12 (gFL 15 17 (eJ A1)<|gFL 18 20 (eJ A1)<|eJ A1)<|gFL 18 20 (eJ A1)<|eJ A1)<|rKL A1
def uw (n:Nat)(a:Cd):Nat→Int→Option (Ctl Bool Unit)
 |0,_=>none
 | k+1,b=>
  if decide (b<(a.length:Int))then(((yw a b).bind fun c=>
  (wd n c).bind fun d=>
  if !d then((yw a b).bind fun e=>
  some (e !=45))else(some false)).bind fun f=>
  if f then(some (.ret false))else(uw n a k (wrap .i64 (b+1))))else(some (.nxt ()))
def ux (n:Nat)(b:List Cd):Nat→Int→Option (Ctl Bool Unit)
 |0,_=>none
 | k+1,c=>
  if decide (c<(b.length:Int))then((zV b c).bind fun a=>
  (if decide ((a.length:Int)<1)then(some true)else(if decide ((a.length:Int)>63)then(some true)else((yw a 0).bind fun d=>
  if d==45 then(some true)else((yw a (wrap .i64 ((a.length:Int)-1))).bind fun e=>
  some (e==45))))).bind fun f=>
  if f then(some (.ret false))else(z8 (uw n a n 0) (fun r=>some (.ret r)) (fun g=>
  ux n b k (wrap .i64 (c+1)))))else(some (.nxt ()))
def jj (n:Nat)(a0:Cd):Option Bool:=
 if decide ((a0.length:Int)>128)then(some false)else((vR n a0 46).bind fun a=>
 z8 (ux n a n 0) (fun r=>some r) (fun b=>
 some true))
theorem gJ {n a0 r}:jj n a0=some r→AC mx 233 [qs a0] [] (qb r) []:=
 fnL Tryz.func233 rfl<|rgL<|rgL<|bFL (rgL<|rKL A1)<|bEL fun a f=>rCL (kCL 1 A1 (pd f)<|kPL 2 (uu a) edL)<|bcL (fun _=>⟨55,[]⟩) (fun _=>⟨[],[]⟩) (fun v d=>lpL (fun k x=>ux n a k x) 0 A1 (fun x=>⟨55,[(10,ql 1 cS a),(11,qi (a.length)),(12,qi x)]⟩) (fun x=>⟨[],[]⟩) fun k b=>by rw [ux]; exact rgL<|bFL (zp<|bP 0 vq fun c=>bEL fun g hE=>rgF hE ⟨55,[(4,qs c),(10,ql 1 cS a),(11,qi (a.length)),(12,qi b),(36,qb g)]⟩ ⟨[],[]⟩ (gFL 4 19 (eJ A1)<|gFL 9 24 (eJ A1)<|bEL fun w i=>kPL 10 (zW i)<|gFL 14 29 (eJ A1)<|bEL fun A j=>kPL 18 (zW j)<|eJ A1)<|bFL (rgL<|hKL d<|rJ A1)<|rgL<|nV zS (fun _=>⟨55,[(10,ql 1 cS a),(11,qi (a.length)),(12,qi b)]⟩) (fun _=>⟨[],[]⟩) (fun B l=>lpL (fun k x=>uw n c k x) 0 A1 (fun x=>⟨55,[(4,qs c),(5,qi x),(10,ql 1 cS a),(11,qi (a.length)),(12,qi b)]⟩) (fun x=>⟨[],[]⟩) fun k e=>by rw [uw]; exact rgL<|bFL (zp<|bEL fun m hE=>rgF hE ⟨55,[(4,qs c),(5,qi e),(10,ql 1 cS a),(11,qi (a.length)),(12,qi b),(53,qb m)]⟩ ⟨[],[]⟩ (bEL fun C o=>bEL fun D s=>kPL 2 (zW o)<|kCL 3 A1 (jS s)<|gFL 6 48 (bEL fun E u=>kPL 8 (zW u)<|eJ A1)<|eJ A1)<|bFL (rgL<|hKL l<|yO<|wx<|hvL d<|yi<|rJ A1)<|zq<|yl zn fun h=>⟨wrap .i64 (e+1),h,wk A1⟩)<|xjL<|jCL A1) fun F=>zq<|yl zn fun h=>⟨wrap .i64 (b+1),h,wk A1⟩)<|xjL<|jCL A1) fun G=>rgL<|rKL A1
def jT (n:Nat)(a1:Cd)(a0:Int):Nat→Int→Option (Ctl Bool Unit)
 |0,_=>none
 | k+1,a=>
  if decide (a<(a1.length:Int))then((yw a1 a).bind fun b=>
  if b==a0 then(some (.ret true))else(jT n a1 a0 k (wrap .i64 (a+1))))else(some (.nxt ()))
def wb (n:Nat)(a0:Int)(a1:Cd):Option Bool:=
 z8 (jT n a1 a0 n 0) (fun r=>some r) (fun a=>
 some false)
theorem bq {n a0 a1 r}:wb n a0 a1=some r→AC mx 265 [qu a0,qs a1] [] (qb r) []:=
 fnL Tryz.func265 rfl<|rgL<|rgL<|bcL (fun _=>⟨17,[]⟩) (fun _=>⟨[],[]⟩) (fun c a=>lpL (fun k x=>jT n a1 a0 k x) 0 A1 (fun x=>⟨17,[(0,qu a0),(1,qs a1),(5,qi x)]⟩) (fun x=>⟨[],[]⟩) fun k b=>by rw [jT]; exact rgL<|bFL (zp<|bP 2 zW fun d=>bFL (rgL<|hKL a<|rJ A1)<|zq<|yl zn fun h=>⟨wrap .i64 (b+1),h,wk A1⟩)<|xjL<|jCL A1) fun e=>rgL<|rKL A1
def xO (n:Nat)(a0:Cd):Nat→Int→Option Int
 |0,_=>none
 | k+1,a=>
  (if decide (a<(a0.length:Int))then((yw a0 a).bind fun b=>
  some (b !=64))else(some false)).bind fun c=>
  if c then(xO n a0 k (wrap .i64 (a+1)))else(some a)
def vH (n:Nat)(b:Int)(a0:Cd):Nat→Int→Option (Ctl (Cd×Cd×Bool) Unit)
 |0,_=>none
 | k+1,a=>
  if decide (a<b)then(((yw a0 a).bind fun c=>
  (wd n c).bind fun d=>
  if !d then((yw a0 a).bind fun e=>
  (wb n e ([33,35,36,37,38,39,42,43,45,47,61,63,94,95,96,123,124,125,126,46]:Cd)).bind fun f=>
  if !f then(some true)else((yw a0 a).bind fun g=>
  if g==46 then((yw a0 (wrap .i64 (a+1))).bind fun i=>
  some (i==46))else(some false)))else((yw a0 a).bind fun j=>
  if j==46 then((yw a0 (wrap .i64 (a+1))).bind fun l=>
  some (l==46))else(some false))).bind fun m=>
  if m then(some (.ret (([]:Cd),([]:Cd),false)))else(vH n b a0 k (wrap .i64 (a+1))))else(some (.nxt ()))
def gS (n:Nat)(a0:Cd):Option (Cd×Cd×Bool):=
 if decide ((a0.length:Int)>128)then(some (([]:Cd),([]:Cd),false))else((xO n a0 n 0).bind fun a=>
 (if decide (a<1)then(some true)else(if decide (a>64)then(some true)else(if a==(a0.length:Int)then(some true)else((ssl a0 (wrap .i64 (a+1)) (a0.length)).bind fun b=>
 (jj n b).bind fun c=>
 if !c then(some true)else((yw a0 0).bind fun d=>
 if d==46 then(some true)else((yw a0 (wrap .i64 (a-1))).bind fun e=>
 some (e==46))))))).bind fun f=>
 if f then(some (([]:Cd),([]:Cd),false))else(z8 (vH n a a0 n 0) (fun r=>some r) (fun j=>
 (ssl a0 0 a).bind fun g=>
 (ssl a0 (wrap .i64 (a+1)) (a0.length)).bind fun i=>
 some (g,i,true))))
theorem XG {n a0 r}:gS n a0=some r→AC mx 234 [qs a0] [] (.tuple [qs r.1,qs r.2.1,qb r.2.2]) []:=
 fnL Tryz.func234 rfl<|rgL<|rgL<|bFL (rgL<|rKL A1)<|rgL<|blL (fun a=>⟨91,[(0,qs a0),(5,qi a)]⟩) (fun a=>⟨[],[]⟩) (fun a=>lpL (fun k x=>xO n a0 k x) 0 A1 (fun x=>⟨91,[(0,qs a0),(5,qi x)]⟩) (fun x=>⟨[],[]⟩) fun k b=>by rw [xO]; exact bEL fun d hE=>rgF hE ⟨91,[(0,qs a0),(5,qi b),(19,qb d)]⟩ ⟨[],[]⟩ (gFL 5 14 (bEL fun I e=>kPL 7 (zW e)<|eJ A1)<|eJ A1)<|bFL (zp<|yl (j7 (P:=Tryz.prog) (gl:=gl0 mx) zn)<|zq fun h=>⟨wrap .i64 (b+1),h,wk A1⟩)<|xjL<|jnL A1) fun a=>bEL fun f hE=>rgF hE ⟨91,[(0,qs a0),(5,qi a),(53,qb f)]⟩ ⟨[],[]⟩ (gFL 3 24 (eJ A1)<|gFL 7 28 (eJ A1)<|gFL 13 34 (eJ A1)<|bEL fun J g=>bEL fun K i=>kPL 16 (v8 g)<|kCL 17 A1 (gJ i)<|gFL 21 42 (eJ A1)<|bEL fun L j=>kPL 22 (zW j)<|gFL 26 47 (eJ A1)<|bEL fun M l=>kPL 29 (zW l)<|eJ A1)<|bFL (rgL<|rKL A1)<|rgL<|bcL (fun _=>⟨91,[(0,qs a0),(5,qi a)]⟩) (fun _=>⟨[],[]⟩) (fun N m=>lpL (fun k x=>vH n a a0 k x) 0 A1 (fun x=>⟨91,[(0,qs a0),(5,qi a),(6,qi x)]⟩) (fun x=>⟨[],[]⟩) fun k c=>by rw [vH]; exact rgL<|bFL (zp<|bEL fun o hE=>rgF hE ⟨91,[(0,qs a0),(5,qi a),(6,qi c),(83,qb o)]⟩ ⟨[],[]⟩ (bEL fun O s=>bEL fun Q u=>kPL 2 (zW s)<|kCL 3 A1 (jS u)<|gFL 6 64 (bEL fun R v=>bEL fun S w=>kPL 8 (zW v)<|kCL 9 A1 (bq w)<|gFL 13 71 (eJ A1)<|bEL fun T A=>kPL 15 (zW A)<|gFL 18 76 (bEL fun U B=>kPL 21 (zW B)<|eJ A1)<|eJ A1)<|bEL fun V C=>kPL 15 (zW C)<|gFL 18 76 (bEL fun W D=>kPL 21 (zW D)<|eJ A1)<|eJ A1)<|bFL (rgL<|hKL m<|rJ A1)<|zq<|yl zn fun h=>⟨wrap .i64 (c+1),h,wk A1⟩)<|xjL<|jCL A1) fun X=>bEL fun E F=>bEL fun G H=>lfL (fun z=>zs [0,1,2,3,4,5,6,7,8,9] [] [[],[],[0,1],[],[],[4],[3,4,5],[0,1,2],[0,1,2,3,4,5,6,7],[0,1,2,3,4,5,6,7,8]] [] [(2,qs E),(3,qs G),(4,qb true)] (dS [0,1]<|dP (uQ F)<|dS [3,4,5]<|dP (v8 H)<|dS [7,8,9]<|dE A1) z)<|rKL A1
def bm (n:Nat)(a0:Cd):Option Bool:=
 (gS n a0).bind fun a=>
 some a.2.2
theorem Wm {n a0 r}:bm n a0=some r→AC mx 179 [qs a0] [] (qb r) []:=
 fnL Tryz.func179 rfl<|rgL<|bC 1 A1 XG fun a=>rgL<|rKL A1
def qy (n:Nat)(a0:Cd):Option Bool:=
 ((jj n a0).bind fun a=>
 if a then(some true)else(if decide ((a0.length:Int)≤128)then(if decide ((a0.length:Int)>2)then((ssl a0 0 2).bind fun b=>
 if b==([42,46]:Cd)then((ssl a0 2 (a0.length)).bind fun c=>
 (jj n c).bind fun d=>
 if d then((vR n a0 46).bind fun e=>
 some (decide ((e.length:Int)>2)))else(some false))else(some false))else(some false))else(some false))).bind fun f=>
 some f
theorem YZ {n a0 r}:qy n a0=some r→AC mx 181 [qs a0] [] (qb r) []:=
 fnL Tryz.func181 rfl<|rgL<|bEL fun a hE=>rgF hE ⟨31,[(2,qb a)]⟩ ⟨[],[]⟩ (bEL fun i b=>kCL 1 A1 (gJ b)<|gFL 3 5 (eJ A1)<|gFL 7 9 (gFL 12 14 (bEL fun j c=>kPL 13 (uQ c)<|gFL 17 19 (bEL fun l d=>bEL fun m e=>kPL 18 (v8 d)<|kCL 19 A1 (gJ e)<|gFL 22 24 (bEL fun f g=>kCL 23 A1 (pd g)<|kPL 24 (uu f)<|eJ A1)<|eJ A1)<|eJ A1)<|eJ A1)<|eJ A1)<|rKL A1
def gd (n:Nat)(a0:Cd):Option Bool:=
 (if(a0.length:Int)==4 then(some true)else(some ((a0.length:Int)==16))).bind fun a=>
 some a
theorem Y3 {n a0 r}:gd n a0=some r→AC mx 183 [qs a0] [] (qb r) []:=
 fnL Tryz.func183 rfl<|rgL<|bEL fun a hE=>rgF hE ⟨11,[(2,qb a)]⟩ ⟨[],[]⟩ (gFL 4 6 (eJ A1)<|eJ A1)<|rKL A1
def xy (n:Nat)(a0:Cd)(b:Int):Nat→Int→Int→Option (Ctl Bool Int)
 |0,_,_=>none
 | k+1,c,a=>
  if decide (a≤1)then((yw a0 (wrap .i64 (b+a))).bind fun d=>
  if(wrap .u8 (Int.tdiv d 64)) !=2 then(some (.ret false))else((yw a0 (wrap .i64 (b+a))).bind fun e=>
  xy n a0 b k (wrap .i64 ((wrap .i64 ((64:Int)*c))+(wrap .i64 (Int.tmod e 64)))) (wrap .i64 (a+1))))else(some (.nxt c))
def xz (n:Nat)(a0:Cd)(b:Int):Nat→Int→Int→Option (Ctl Bool Int)
 |0,_,_=>none
 | k+1,c,a=>
  if decide (a≤2)then((yw a0 (wrap .i64 (b+a))).bind fun d=>
  if(wrap .u8 (Int.tdiv d 64)) !=2 then(some (.ret false))else((yw a0 (wrap .i64 (b+a))).bind fun e=>
  xz n a0 b k (wrap .i64 ((wrap .i64 ((64:Int)*c))+(wrap .i64 (Int.tmod e 64)))) (wrap .i64 (a+1))))else(some (.nxt c))
def xA (n:Nat)(a0:Cd)(b:Int):Nat→Int→Int→Option (Ctl Bool Int)
 |0,_,_=>none
 | k+1,c,a=>
  if decide (a≤3)then((yw a0 (wrap .i64 (b+a))).bind fun d=>
  if(wrap .u8 (Int.tdiv d 64)) !=2 then(some (.ret false))else((yw a0 (wrap .i64 (b+a))).bind fun e=>
  xA n a0 b k (wrap .i64 ((wrap .i64 ((64:Int)*c))+(wrap .i64 (Int.tmod e 64)))) (wrap .i64 (a+1))))else(some (.nxt c))
def xx (n:Nat)(a0:Cd):Nat→Int→Option (Ctl Bool Unit)
 |0,_=>none
 | k+1,a=>
  if decide (a<(a0.length:Int))then(z8 ((yw a0 a).bind fun b=>
  (if decide (b<32)then(some true)else(some (b==127))).bind fun f=>
  if f then(some (.ret false))else(if decide (b<128)then(some (.nxt (wrap .i64 (a+1))))else((if decide (b≥192)then(some (decide (b<224)))else(some false)).bind fun g=>
  if g then(if decide ((wrap .i64 ((a0.length:Int)-a))≤1)then(some (.ret false))else(z8 (xy n a0 a n (kY .i64 (wrap .i64 b) (wrap .i64 ((wrap .i64 ((1:Int)*32))-1))) 1) (fun r=>some (.ret r)) (fun c=>
  (if decide (c<128)then(some true)else(if decide (c>1114111)then(some true)else(if decide (c≥55296)then(some (decide (c<57344)))else(some false)))).bind fun i=>
  if i then(some (.ret false))else(some (.nxt (wrap .i64 (a+2)))))))else((if decide (b≥224)then(some (decide (b<240)))else(some false)).bind fun j=>
  if j then(if decide ((wrap .i64 ((a0.length:Int)-a))≤2)then(some (.ret false))else(z8 (xz n a0 a n (kY .i64 (wrap .i64 b) (wrap .i64 ((wrap .i64 ((1:Int)*16))-1))) 1) (fun r=>some (.ret r)) (fun d=>
  (if decide (d<2048)then(some true)else(if decide (d>1114111)then(some true)else(if decide (d≥55296)then(some (decide (d<57344)))else(some false)))).bind fun l=>
  if l then(some (.ret false))else(some (.nxt (wrap .i64 (a+3)))))))else((if decide (b≥240)then(some (decide (b<248)))else(some false)).bind fun m=>
  if m then(if decide ((wrap .i64 ((a0.length:Int)-a))≤3)then(some (.ret false))else(z8 (xA n a0 a n (kY .i64 (wrap .i64 b) (wrap .i64 ((wrap .i64 ((1:Int)*8))-1))) 1) (fun r=>some (.ret r)) (fun e=>
  (if decide (e<65536)then(some true)else(if decide (e>1114111)then(some true)else(if decide (e≥55296)then(some (decide (e<57344)))else(some false)))).bind fun o=>
  if o then(some (.ret false))else(some (.nxt (wrap .i64 (a+4)))))))else(some (.ret false))))))) (fun r=>some (.ret r)) (fun s=>
  xx n a0 k s))else(some (.nxt ()))
def dq (n:Nat)(a0:Cd):Option Bool:=
 z8 (xx n a0 n 0) (fun r=>some r) (fun a=>
 some true)
theorem Wl {n a0 r}:dq n a0=some r→AC mx 284 [qs a0] [] (qb r) []:=
 fnL Tryz.func284 rfl<|rgL<|rgL<|bcL (fun _=>⟨103,[]⟩) (fun _=>⟨[],[]⟩) (fun O b=>lpL (fun k x=>xx n a0 k x) 0 A1 (fun x=>⟨103,[(0,qs a0),(3,qi x)]⟩) (fun x=>⟨[],[]⟩) fun k a=>by rw [xx]; exact rgL<|bFL (nV zn (fun e=>⟨103,[(0,qs a0),(3,qi e)]⟩) (fun e=>⟨[],[]⟩) (fun P c=>bP 2 zW fun d=>rgL<|zp<|bEL fun j hE=>rgF hE ⟨103,[(0,qs a0),(3,qi a),(4,qu d),(16,qb j)]⟩ ⟨[],[]⟩ (gFL 3 19 (eJ A1)<|eJ A1)<|bFL (rgL<|yu<|yO<|hvL c<|yi<|wx<|hvL b<|yi<|rJ A1)<|rgL<|bFL (rgL<|bz<|gG<|db<|jCL A1)<|bEL fun l hE=>rgF hE ⟨103,[(0,qs a0),(3,qi a),(4,qu d),(28,qb l)]⟩ ⟨[],[]⟩ (gFL 3 31 (eJ A1)<|eJ A1)<|bFL (yl zS<|zq<|rgL<|bFL (rgL<|yu<|hvL c<|yi<|wx<|hvL b<|yi<|rJ A1)<|rgL<|rgL<|bcL (fun f=>⟨103,[(0,qs a0),(3,qi a),(5,qi 1),(6,qi 128),(7,qi f)]⟩) (fun f=>⟨[],[]⟩) (fun Q m=>lpL (fun k x=>xy n a0 a k x.1 x.2) (kY .i64 (wrap .i64 d) (wrap .i64 ((wrap .i64 ((1:Int)*32))-1)),1) A1 (fun x=>⟨103,[(0,qs a0),(3,qi a),(5,qi 1),(6,qi 128),(7,qi x.1),(8,qi x.2)]⟩) (fun x=>⟨[],[]⟩) fun k x=>by obtain⟨o,s⟩:=x; rw [xy]; exact rgL<|bFL (zp<|bP 4 zW fun R=>bFL (rgL<|hKL m<|hvL c<|yi<|wx<|hvL b<|yi<|rJ A1)<|bEL fun u v=>wO zS (kPL 6 (zW v) edL)<|zq<|yl zn fun h=>⟨(wrap .i64 ((wrap .i64 ((64:Int)*o))+(wrap .i64 (Int.tmod u 64))),wrap .i64 (s+1)),h,wk A1⟩)<|xjL<|jCL A1) fun f=>bEL fun w hE=>rgF hE ⟨103,[(0,qs a0),(3,qi a),(5,qi 1),(98,qb w)]⟩ ⟨[],[]⟩ (gFL 4 87 (eJ A1)<|gFL 8 91 (eJ A1)<|gFL 11 94 (eJ A1)<|eJ A1)<|bFL (rgL<|yu<|hvL c<|yi<|wx<|hvL b<|yi<|rJ A1)<|yl xh<|jCL A1)<|bEL fun A hE=>rgF hE ⟨103,[(0,qs a0),(3,qi a),(4,qu d),(35,qb A)]⟩ ⟨[],[]⟩ (gFL 3 38 (eJ A1)<|eJ A1)<|bFL (yl zS<|zq<|rgL<|bFL (rgL<|yu<|hvL c<|yi<|wx<|hvL b<|yi<|rJ A1)<|rgL<|rgL<|bcL (fun g=>⟨103,[(0,qs a0),(3,qi a),(5,qi 2),(6,qi 2048),(7,qi g)]⟩) (fun g=>⟨[],[]⟩) (fun S B=>lpL (fun k x=>xz n a0 a k x.1 x.2) (kY .i64 (wrap .i64 d) (wrap .i64 ((wrap .i64 ((1:Int)*16))-1)),1) A1 (fun x=>⟨103,[(0,qs a0),(3,qi a),(5,qi 2),(6,qi 2048),(7,qi x.1),(8,qi x.2)]⟩) (fun x=>⟨[],[]⟩) fun k x=>by obtain⟨C,D⟩:=x; rw [xz]; exact rgL<|bFL (zp<|bP 4 zW fun T=>bFL (rgL<|hKL B<|hvL c<|yi<|wx<|hvL b<|yi<|rJ A1)<|bEL fun E F=>wO zS (kPL 6 (zW F) edL)<|zq<|yl zn fun h=>⟨(wrap .i64 ((wrap .i64 ((64:Int)*C))+(wrap .i64 (Int.tmod E 64))),wrap .i64 (D+1)),h,wk A1⟩)<|xjL<|jCL A1) fun g=>bEL fun G hE=>rgF hE ⟨103,[(0,qs a0),(3,qi a),(5,qi 2),(98,qb G)]⟩ ⟨[],[]⟩ (gFL 4 87 (eJ A1)<|gFL 8 91 (eJ A1)<|gFL 11 94 (eJ A1)<|eJ A1)<|bFL (rgL<|yu<|hvL c<|yi<|wx<|hvL b<|yi<|rJ A1)<|yl xh<|jCL A1)<|bEL fun H hE=>rgF hE ⟨103,[(0,qs a0),(3,qi a),(4,qu d),(42,qb H)]⟩ ⟨[],[]⟩ (gFL 3 45 (eJ A1)<|eJ A1)<|bFL (yl zS<|zq<|rgL<|bFL (rgL<|yu<|hvL c<|yi<|wx<|hvL b<|yi<|rJ A1)<|rgL<|rgL<|bcL (fun i=>⟨103,[(0,qs a0),(3,qi a),(5,qi 3),(6,qi 65536),(7,qi i)]⟩) (fun i=>⟨[],[]⟩) (fun U I=>lpL (fun k x=>xA n a0 a k x.1 x.2) (kY .i64 (wrap .i64 d) (wrap .i64 ((wrap .i64 ((1:Int)*8))-1)),1) A1 (fun x=>⟨103,[(0,qs a0),(3,qi a),(5,qi 3),(6,qi 65536),(7,qi x.1),(8,qi x.2)]⟩) (fun x=>⟨[],[]⟩) fun k x=>by obtain⟨J,K⟩:=x; rw [xA]; exact rgL<|bFL (zp<|bP 4 zW fun V=>bFL (rgL<|hKL I<|hvL c<|yi<|wx<|hvL b<|yi<|rJ A1)<|bEL fun L M=>wO zS (kPL 6 (zW M) edL)<|zq<|yl zn fun h=>⟨(wrap .i64 ((wrap .i64 ((64:Int)*J))+(wrap .i64 (Int.tmod L 64))),wrap .i64 (K+1)),h,wk A1⟩)<|xjL<|jCL A1) fun i=>bEL fun N hE=>rgF hE ⟨103,[(0,qs a0),(3,qi a),(5,qi 3),(98,qb N)]⟩ ⟨[],[]⟩ (gFL 4 87 (eJ A1)<|gFL 8 91 (eJ A1)<|gFL 11 94 (eJ A1)<|eJ A1)<|bFL (rgL<|yu<|hvL c<|yi<|wx<|hvL b<|yi<|rJ A1)<|yl xh<|jCL A1)<|rgL<|yu<|yO<|hvL c<|yi<|wx<|hvL b<|yi<|rJ A1) fun e=>fun h=>⟨e,h,wk A1⟩)<|xjL<|jCL A1) fun W=>rgL<|rKL A1
def y6 (n:Nat)(a1:Cd)(a0:Int):Nat→Int→Option (Ctl Bool Unit)
 |0,_=>none
 | k+1,a=>
  if decide (a<(a1.length:Int))then((if a0==22 then((yw a1 a).bind fun b=>
  if decide (b<32)then(some true)else((yw a1 a).bind fun c=>
  if decide (c>126)then(some true)else(if a0==19 then((yw a1 a).bind fun d=>
  (wd n d).bind fun e=>
  if !e then((yw a1 a).bind fun f=>
  (wb n f ([32,39,40,41,43,44,45,46,47,58,61,63]:Cd)).bind fun g=>
  some (!g))else(some false))else(some false))))else(if a0==19 then((yw a1 a).bind fun i=>
  (wd n i).bind fun j=>
  if !j then((yw a1 a).bind fun l=>
  (wb n l ([32,39,40,41,43,44,45,46,47,58,61,63]:Cd)).bind fun m=>
  some (!m))else(some false))else(some false))).bind fun o=>
  if o then(some (.ret false))else(y6 n a1 a0 k (wrap .i64 (a+1))))else(some (.nxt ()))
def jD (n:Nat)(a0:Int)(a1:Cd):Option Bool:=
 if a0==12 then((dq n a1).bind fun a=>
 some a)else((if a0==19 then(some (a0==19))else(some (a0==22))).bind fun b=>
 if b then(z8 (y6 n a1 a0 n 0) (fun r=>some r) (fun c=>
 some true))else(some false))
theorem Yg {n a0 a1 r}:jD n a0 a1=some r→AC mx 266 [qi a0,qs a1] [] (qb r) []:=
 fnL Tryz.func266 rfl<|rgL<|rgL<|zp<|rgL<|bFL (bC 1 A1 Wl fun v=>yu<|yO<|rJ A1)<|rgL<|cuL (fun a=>⟨52,[(0,qi a0),(1,qs a1),(11,qb a)]⟩) (fun a=>⟨[],[]⟩) (fun a=>bFL (jnL A1)<|yl zn<|jnL A1) fun a=>bFL (rgL<|bcL (fun _=>⟨52,[]⟩) (fun _=>⟨[],[]⟩) (fun w c=>lpL (fun k x=>y6 n a1 a0 k x) 0 A1 (fun x=>⟨52,[(0,qi a0),(1,qs a1),(5,qi x)]⟩) (fun x=>⟨[],[]⟩) fun k b=>by rw [y6]; exact rgL<|bFL (zp<|bEL fun d hE=>rgF hE ⟨52,[(0,qi a0),(1,qs a1),(5,qi b),(51,qb d)]⟩ ⟨[],[]⟩ (gFL 3 22 (bEL fun A e=>kPL 5 (zW e)<|gFL 8 27 (eJ A1)<|bEL fun B f=>kPL 10 (zW f)<|gFL 15 34 (eJ A1)<|gFL 18 37 (bEL fun C g=>bEL fun D i=>kPL 20 (zW g)<|kCL 21 A1 (jS i)<|gFL 25 44 (bEL fun E j=>bEL fun F l=>kPL 27 (zW j)<|kCL 28 A1 (bq l)<|eJ A1)<|eJ A1)<|eJ A1)<|gFL 18 37 (bEL fun G m=>bEL fun H o=>kPL 20 (zW m)<|kCL 21 A1 (jS o)<|gFL 25 44 (bEL fun I s=>bEL fun J u=>kPL 27 (zW s)<|kCL 28 A1 (bq u)<|eJ A1)<|eJ A1)<|eJ A1)<|bFL (rgL<|hKL c<|yO<|rJ A1)<|zq<|yl zn fun h=>⟨wrap .i64 (b+1),h,wk A1⟩)<|xjL<|jCL A1) fun K=>rgL<|yu<|yO<|rJ A1)<|zq<|rgL<|rKL A1
def xm (n:Nat)(b:Int)(a0:List zb)(c:zb):Nat→Int→Option (Ctl Int Unit)
 |0,_=>none
 | k+1,a=>
  if decide (a<b)then((zV a0 a).bind fun d=>
  if d.wi==c.wi then(some (.ret 10))else(xm n b a0 c k (wrap .i64 (a+1))))else(some (.nxt ()))
def yF (n:Nat)(a0:List zb):Nat→Int→Option (Ctl Int Unit)
 |0,_=>none
 | k+1,b=>
  if decide (b<(a0.length:Int))then((zV a0 b).bind fun a=>
  (xN n a.wi).bind fun c=>
  if !c then(some (.ret 11))else((if(a.vA.length:Int)==0 then(some true)else((jD n a.zG a.vA).bind fun d=>
  some (!d))).bind fun e=>
  if e then(some (.ret 13))else(if decide ((a.vA.length:Int)>64)then(some (.ret 2))else(z8 (xm n b a0 a n 0) (fun r=>some (.ret r)) (fun f=>
  yF n a0 k (wrap .i64 (b+1)))))))else(some (.nxt ()))
def um (n:Nat)(a0:List zb):Option Int:=
 z8 (yF n a0 n 0) (fun r=>some r) (fun a=>
 some 0)
theorem pz {n a0 r}:um n a0=some r→AC mx 236 [ql 3 zb.cells a0] [] (qi r) []:=
 fnL Tryz.func236 rfl<|rgL<|cP 1 (gH a0)<|bcL (fun _=>⟨47,[]⟩) (fun _=>⟨[],[]⟩) (fun l b=>lpL (fun k x=>yF n a0 k x) 0 A1 (fun x=>⟨47,[(0,ql 3 zb.cells a0),(6,ql 3 zb.cells a0),(7,qi (a0.length)),(8,qi x)]⟩) (fun x=>⟨[],[]⟩) fun k a=>by rw [yF]; exact rgL<|bFL (zp<|bP 1 pY fun c=>bC 2 A2 vX fun m=>bFL (rgL<|hKL b<|rJ A2)<|bEL fun d hE=>rgF hE ⟨47,[(0,ql 3 zb.cells a0),(3,qi a),(4,qp 0),(6,ql 3 zb.cells a0),(7,qi (a0.length)),(8,qi a),(28,qb d)]⟩ ⟨[zb.cells c],[]⟩ (gFL 5 21 (eJ A3)<|bEL fun o e=>kCL 9 A2 (Yg e)<|eJ A3)<|bFL (rgL<|hKL b<|rJ A2)<|rgL<|bFL (rgL<|hKL b<|rJ A2)<|rgL<|nV zS (fun _=>⟨47,[(0,ql 3 zb.cells a0),(6,ql 3 zb.cells a0),(7,qi (a0.length)),(8,qi a)]⟩) (fun _=>⟨[],[]⟩) (fun s f=>lpL (fun k x=>xm n a a0 c k x) 0 A3 (fun x=>⟨47,[(0,ql 3 zb.cells a0),(3,qi a),(4,qp 0),(5,qi x),(6,ql 3 zb.cells a0),(7,qi (a0.length)),(8,qi a)]⟩) (fun x=>⟨[zb.cells c],[]⟩) fun k g=>by rw [xm]; exact rgL<|bFL (zp<|bEL fun i j=>lfL (fun z=>zs [0,1,2,3,4,5,6,7] [] [[],[],[0,1],[0,1,2],[0,1,2,3],[],[5],[0,1,2,3,4,5,6]] [0,3,5,6,7,8] [(4,qp 0),(45,qb (i.wi==c.wi))] (dS [0,1]<|dP (pY j)<|dS (zv 3 5)<|dE A3) z)<|bFL (rgL<|hKL f<|yO<|wx<|hvL b<|yi<|rJ A2)<|zq<|yl zn fun h=>⟨wrap .i64 (g+1),h,wk A3⟩)<|xjL<|jCL A2) fun u=>zq<|yl zn fun h=>⟨wrap .i64 (a+1),h,wk A1⟩)<|xjL<|jCL A1) fun v=>rgL<|rKL A1
def wB (n:Nat)(a0:zC):Nat→Int→Option (Ctl Int Unit)
 |0,_=>none
 | k+1,a=>
  if decide (a<(a0.zg.length:Int))then((zV a0.zg a).bind fun b=>
  if(b.length:Int)==0 then(some (.ret 14))else(if decide ((b.length:Int)>4)then(some (.ret 2))else((um n b).bind fun c=>
  if c !=0 then(some (.ret c))else(wB n a0 k (wrap .i64 (a+1))))))else(some (.nxt ()))
def xf (n:Nat)(a0:zC):Option Int:=
 if decide ((a0.zg.length:Int)>8)then(some 2)else(z8 (wB n a0 n 0) (fun r=>some r) (fun a=>
 some 0))
theorem uY {n a0 r}:xf n a0=some r→AC mx 184 [.agg [ql 1 (cL 3 zb.cells) a0.zg]] [] (qi r) []:=
 fnL Tryz.func184 rfl<|rgL<|cP 2 (bQ a0.zg)<|bFL (rgL<|rKL A2)<|cP 2 (bQ a0.zg)<|bcL (fun _=>⟨29,[]⟩) (fun _=>⟨[],[]⟩) (fun d a=>lpL (fun k x=>wB n a0 k x) 0 A2 (fun x=>⟨29,[(11,ql 1 (cL 3 zb.cells) a0.zg),(12,qi (a0.zg.length)),(13,qi x)]⟩) (fun x=>⟨[],[]⟩) fun k c=>by rw [wB]; exact rgL<|bFL (zp<|bP 0 p7 fun b=>cP 1 (gH b)<|bFL (rgL<|hKL a<|rJ A1)<|cP 1 (gH b)<|bFL (rgL<|hKL a<|rJ A1)<|bC 1 A1 pz fun e=>rgL<|bFL (rgL<|hKL a<|rJ A1)<|zq<|yl zn fun h=>⟨wrap .i64 (c+1),h,wk A1⟩)<|xjL<|jCL A1) fun f=>rgL<|rKL A1
def xb (n:Nat)(a0:zd)(a1:Bool):Option Int:=
 z8 (if a0.zG==1 then((if a1 then(none)else(if !a1 then((bm n a0.yy).bind fun a=>
 some a)else(some false))).bind fun b=>
 some (.nxt b))else(if a0.zG==2 then((if a1 then(none)else(if !a1 then((qy n a0.yy).bind fun c=>
 some c)else(some false))).bind fun d=>
 some (.nxt d))else(if a0.zG==7 then((if a1 then(none)else(if !a1 then((gd n a0.yy).bind fun e=>
 some e)else(some false))).bind fun f=>
 some (.nxt f))else(if a0.zG==4 then(if !(a0.yy==([]:Cd))then(some (.ret 14))else((xf n (zC.mk a0.zo.zg)).bind fun g=>
 some (.ret g)))else(some (.nxt false)))))) (fun r=>some r) (fun i=>
 (if !i then(some true)else(some (decide ((a0.zo.zg.length:Int)>0)))).bind fun j=>
 if j then(some 14)else(some 0))
theorem jJ {n a0 a1 r}:xb n a0 a1=some r→AC mx 123 [.agg (zd.cells a0),qb a1] [] (qi r) []:=
 fnL Tryz.func123 rfl<|rgL<|rgL<|rgL<|bcL (fun a=>⟨76,[(2,qp 0),(5,qb a)]⟩) (fun a=>⟨[zd.cells a0],[]⟩) (fun l b=>rgL<|bFL (bEL fun c hE=>BW hE xh ⟨76,[(2,qp 0),(5,qb c)]⟩ ⟨[zd.cells a0],[]⟩ (gFL 2 11 nEL<|gFL 10 19 (bEL fun m d=>kCL 12 A2 (Wm d)<|eJ A3)<|eJ A3)<|jCL A3)<|rgL<|bFL (bEL fun e hE=>BW hE xh ⟨76,[(2,qp 0),(5,qb e)]⟩ ⟨[zd.cells a0],[]⟩ (gFL 2 28 nEL<|gFL 10 36 (bEL fun o f=>kCL 12 A2 (YZ f)<|eJ A3)<|eJ A3)<|jCL A3)<|rgL<|bFL (bEL fun g hE=>BW hE xh ⟨76,[(2,qp 0),(5,qb g)]⟩ ⟨[zd.cells a0],[]⟩ (gFL 2 45 nEL<|gFL 10 53 (bEL fun s i=>kCL 12 A2 (Y3 i)<|eJ A3)<|eJ A3)<|jCL A3)<|rgL<|bFL (rgL<|bFL (rgL<|yu<|hvL b<|yi<|rJ A2)<|bC 2 A2 uY fun u=>yu<|hvL b<|yi<|rJ A2)<|jCL A3) fun a=>bEL fun j hE=>rgF hE ⟨76,[(75,qb j)]⟩ ⟨[],[]⟩ (gFL 3 69 (eJ A2)<|kPL 6 (bQ a0.zo.zg)<|eJ A2)<|bFL (rgL<|rKL A1)<|rgL<|rKL A1
def yr (n:Nat)(a0:zj):Option Int:=
 (xf n (zC.mk a0.zo.zg)).bind fun a=>
 if a !=0 then(some a)else(if(a0.zo.zg.length:Int)==0 then(some 14)else(some 0))
theorem gi {n a0 r}:yr n a0=some r→AC mx 124 [.agg [ql 1 (cL 3 zb.cells) a0.zo.zg,qi a0.zK.zy,qs a0.zK.wL,qs a0.zK.zY]] [] (qi r) []:=
 fnL Tryz.func124 rfl<|rgL<|bC 2 A2 uY fun a=>rgL<|bFL (rgL<|rKL A2)<|cP 3 (bQ a0.zo.zg)<|bFL (rgL<|rKL A2)<|rgL<|rKL A2
def wH (n:Nat)(a0:zF):Option Int:=
 (if decide (a0.zy<0)then(some true)else(if decide (a0.zy>8)then(some true)else(if(a0.wL.length:Int) !=16 then(some true)else(some ((a0.zY.length:Int) !=16))))).bind fun a=>
 if a then(some 18)else(some 0)
theorem qL {n a0 r}:wH n a0=some r→AC mx 125 [.agg (zF.cells a0)] [] (qi r) []:=
 fnL Tryz.func125 rfl<|rgL<|bEL fun a hE=>rgF hE ⟨23,[(22,qb a)]⟩ ⟨[],[]⟩ (gFL 4 6 (eJ A2)<|gFL 9 11 (eJ A2)<|gFL 15 17 (eJ A2)<|eJ A2)<|bFL (rgL<|rKL A1)<|rgL<|rKL A1
def vL (n:Nat)(a0:zz):Nat→Int→Option (Ctl Int Unit)
 |0,_=>none
 | k+1,a=>
  if decide (a<(a0.ze.length:Int))then((zV a0.ze a).bind fun b=>
  (xN n b).bind fun c=>
  if !c then(some (.ret 11))else(vL n a0 k (wrap .i64 (a+1))))else(some (.nxt ()))
def vN (n:Nat)(a0:zz):Nat→Int→Option (Ctl Int Unit)
 |0,_=>none
 | k+1,a=>
  if decide (a<(a0.zw.length:Int))then((zV a0.zw a).bind fun b=>
  (xb n (zd.mk b.zG b.yy (zC.mk b.zo.zg)) false).bind fun c=>
  if c !=0 then(some (.ret c))else(vN n a0 k (wrap .i64 (a+1))))else(some (.nxt ()))
def vE (n:Nat)(a0:zz):Nat→Int→Option (Ctl Int Unit)
 |0,_=>none
 | k+1,a=>
  if decide (a<(a0.zf.length:Int))then((zV a0.zf a).bind fun b=>
  (yr n (zj.mk (zC.mk b.zo.zg) (zF.mk b.zK.zy b.zK.wL b.zK.zY))).bind fun d=>
  if d !=0 then(some (.ret d))else((zV a0.zf a).bind fun c=>
  (wH n (zF.mk c.zK.zy c.zK.wL c.zK.zY)).bind fun e=>
  if e !=0 then(some (.ret e))else(vE n a0 k (wrap .i64 (a+1)))))else(some (.nxt ()))
def jI (n:Nat)(a0:zz):Option Int:=
 (if decide (a0.uB<0)then(some true)else(some (decide (a0.uB>254033452799)))).bind fun a=>
 if a then(some 12)else((if !(a0.zB==([]:Cd))then((xN n a0.zB).bind fun b=>
 some (!b))else(some false)).bind fun c=>
 if c then(some 11)else((if decide (a0.yk<0)then(some true)else(if decide (a0.yk>511)then(some true)else(if decide (a0.yj<1)then(some true)else(some (decide (a0.yj>8)))))).bind fun d=>
 if d then(some 1)else((if decide ((a0.ze.length:Int)>8)then(some true)else(if decide ((a0.zw.length:Int)>16)then(some true)else(some (decide ((a0.zf.length:Int)>64))))).bind fun e=>
 if e then(some 2)else(z8 (vL n a0 n 0) (fun r=>some r) (fun g=>
 (bG n a0.ze).bind fun f=>
 if(f.length:Int) !=(a0.ze.length:Int)then(some 10)else(z8 (vN n a0 n 0) (fun r=>some r) (fun i=>
 z8 (vE n a0 n 0) (fun r=>some r) (fun j=>
 some 0))))))))
theorem XB {n a0 r}:jI n a0=some r→AC mx 56 [.agg (zz.cells a0)] [] (qi r) []:=
 fnL Tryz.func56 rfl<|rgL<|zp<|bEL fun c hE=>rgF hE ⟨128,[(1,qp 0),(9,qb c)]⟩ ⟨[zz.cells a0],[]⟩ (gFL 4 13 (eJ A3)<|eJ A3)<|bFL (rgL<|yu<|yO<|rJ A2)<|bEL fun d hE=>rgF hE ⟨128,[(1,qp 0),(18,qb d)]⟩ ⟨[zz.cells a0],[]⟩ (gFL 4 22 (bEL fun F e=>kCL 6 A2 (vX e)<|eJ A3)<|eJ A3)<|bFL (rgL<|yu<|yO<|rJ A2)<|bEL fun f hE=>rgF hE ⟨128,[(1,qp 0),(28,qb f)]⟩ ⟨[zz.cells a0],[]⟩ (gFL 4 32 (eJ A3)<|gFL 9 37 (eJ A3)<|gFL 14 42 (eJ A3)<|eJ A3)<|bFL (rgL<|yu<|yO<|rJ A2)<|bEL fun g hE=>rgF hE ⟨128,[(1,qp 0),(47,qb g)]⟩ ⟨[zz.cells a0],[]⟩ (kPL 2 (uu a0.ze)<|gFL 5 52 (eJ A3)<|kPL 7 (bA a0.zw)<|gFL 11 58 (eJ A3)<|kPL 13 (qO a0.zf)<|eJ A3)<|bFL (rgL<|yu<|yO<|rJ A2)<|zq<|rgL<|bcL (fun _=>⟨128,[(1,qp 0)]⟩) (fun _=>⟨[zz.cells a0],[]⟩) (fun G i=>lpL (fun k x=>vL n a0 k x) 0 A3 (fun x=>⟨128,[(1,qp 0),(3,qi x)]⟩) (fun x=>⟨[zz.cells a0],[]⟩) fun k j=>by rw [vL]; exact cP 3 (uu a0.ze)<|bFL (zp<|bEL fun H l=>bEL fun I m=>rCL (kPL 3 (vq l)<|kCL 5 A2 (vX m) edL)<|bFL (rgL<|hKL i<|rJ A2)<|zq<|yl zn fun h=>⟨wrap .i64 (j+1),h,wk A3⟩)<|xjL<|jCL A3) fun J=>bEL fun a o=>lfL (fun z=>zs [0,1,4,5,6,2,3,7] [2] [[],[0],[0,1],[0,1,2],[],[4],[4,5],[0,1,2,3,4,5,6]] [] [(1,qp 0),(85,qb ((a.length:Int) !=(a0.ze.length:Int)))] (dS [0,1,4,5]<|dP (uu a0.ze)<|dC (zr 6 (uu a0.ze) yb) A2 (Wv o)<|dP (uu a)<|dS [7]<|dE A3) z)<|bFL (rgL<|rKL A2)<|rgL<|bcL (fun _=>⟨128,[(1,qp 0)]⟩) (fun _=>⟨[zz.cells a0],[]⟩) (fun K s=>lpL (fun k x=>vN n a0 k x) 0 A3 (fun x=>⟨128,[(1,qp 0),(4,qi x)]⟩) (fun x=>⟨[zz.cells a0],[]⟩) fun k u=>by rw [vN]; exact cP 3 (bA a0.zw)<|bFL (zp<|bEL fun L v=>bEL fun M w=>rCL (kPL 3 (vG v)<|kCL 5 A2 (jJ w) edL)<|rgL<|bFL (rgL<|hKL s<|rJ A2)<|zq<|yl zn fun h=>⟨wrap .i64 (u+1),h,wk A3⟩)<|xjL<|jCL A3) fun N=>rgL<|bcL (fun _=>⟨128,[]⟩) (fun _=>⟨[],[]⟩) (fun O b=>lpL (fun k x=>vE n a0 k x) 0 A3 (fun x=>⟨128,[(1,qp 0),(6,qi x)]⟩) (fun x=>⟨[zz.cells a0],[]⟩) fun k A=>by rw [vE]; exact cP 3 (qO a0.zf)<|bFL (zp<|bEL fun P B=>bEL fun Q C=>rCL (kPL 3 (u6 B)<|kCL 5 A2 (gi C) edL)<|rgL<|bFL (rgL<|hKL b<|rJ A2)<|bEL fun R D=>bEL fun S E=>rCL (kPL 3 (u6 D)<|kCL 6 A2 (qL E) edL)<|rgL<|bFL (rgL<|hKL b<|rJ A2)<|zq<|yl zn fun h=>⟨wrap .i64 (A+1),h,wk A3⟩)<|xjL<|jCL A2) fun T=>rgL<|rKL A1
def vv (n:Nat)(a0:Int):Option Int:=
 some (wrap .i64 ((wrap .i64 ((wrap .i64 ((365:Int)*(wrap .i64 (a0-1950))))+(wrap .i64 ((wrap .i64 ((wrap .i64 (Int.tdiv (wrap .i64 (a0-1)) 4))-(wrap .i64 (Int.tdiv (wrap .i64 (a0-1)) 100))))+(wrap .i64 (Int.tdiv (wrap .i64 (a0-1)) 400))))))-472))
theorem kQ {n a0 r}:vv n a0=some r→AC mx 185 [qi a0] [] (qi r) []:=
 fnL Tryz.func185 rfl<|rgL<|rgL<|rgL<|rKL A1
def wy (n:Nat)(a0 a1:Int):Option Int:=
 (if a1==2 then(if(Int.tmod a0 4)==0 then(if(Int.tmod a0 100) !=0 then(some true)else(some ((Int.tmod a0 400)==0)))else(some false))else(some false)).bind fun a=>
 if a then(some 29)else((zV ([31,28,31,30,31,30,31,31,30,31,30,31]:List Int) (wrap .i64 (a1-1))).bind fun b=>
 some b)
theorem qj {n a0 a1 r}:wy n a0 a1=some r→AC mx 186 [qi a0,qi a1] [] (qi r) []:=
 fnL Tryz.func186 rfl<|rgL<|bEL fun a hE=>rgF hE ⟨27,[(1,qi a1),(21,qb a)]⟩ ⟨[],[]⟩ (gFL 3 7 (gFL 8 12 (gFL 12 16 (eJ A1)<|eJ A1)<|eJ A1)<|eJ A1)<|bFL (rgL<|rKL A1)<|bP 3 Qp fun b=>rKL A1
def xQ (n:Nat)(a0:Int):Nat→Int→Option Int
 |0,_=>none
 | k+1,a=>
  (vv n (wrap .i64 (a+1))).bind fun b=>
  if decide (b≤(wrap .i64 (Int.tdiv a0 86400)))then(xQ n a0 k (wrap .i64 (a+1)))else(some a)
def yR (n:Nat)(b:Int):Nat→Int→Int→Option (Int×Int)
 |0,_,_=>none
 | k+1,c,a=>
  (wy n b a).bind fun d=>
  if decide (c≥d)then((wy n b a).bind fun e=>
  yR n b k (wrap .i64 (c-e)) (wrap .i64 (a+1)))else(some (c,a))
def ki (n:Nat)(a0:Int):Option (yd×Int):=
 (if decide (a0<0)then(some true)else(some (decide (a0>254033452799)))).bind fun c=>
 if c then(some ((yd.mk 0 0 0 0 0 0),1))else((xQ n a0 n (wrap .i64 ((1950:Int)+(wrap .i64 (Int.tdiv (wrap .i64 (Int.tdiv a0 86400)) 366))))).bind fun a=>
 (vv n a).bind fun d=>
 (yR n a n (wrap .i64 ((wrap .i64 (Int.tdiv a0 86400))-d)) 1).bind fun b=>
 some ((yd.mk a b.2 (wrap .i64 (b.1+1)) (Int.tmod (wrap .i64 (Int.tdiv a0 3600)) 24) (Int.tmod (wrap .i64 (Int.tdiv a0 60)) 60) (Int.tmod a0 60)),0))
theorem XE {n a0 r}:ki n a0=some r→AC mx 126 [qi a0] [] (.tuple [.agg (yd.cells r.1),qi r.2]) []:=
 fnL Tryz.func126 rfl<|rgL<|bEL fun c hE=>rgF hE ⟨55,[(0,qi a0),(2,qp 0),(12,qb c)]⟩ ⟨[[qi 0,qi 0,qi 0,qi 0,qi 0,qi 0]],[]⟩ (gFL 3 9 (eJ A3)<|eJ A3)<|bFL (rgL<|rKL A2)<|rgL<|rgL<|blL (fun a=>⟨55,[(0,qi a0),(2,qp 0),(4,qi (wrap .i64 (Int.tdiv a0 86400))),(5,qi a)]⟩) (fun a=>⟨[[qi 0,qi 0,qi 0,qi 0,qi 0,qi 0]],[]⟩) (fun a=>lpL (fun k x=>xQ n a0 k x) (wrap .i64 ((1950:Int)+(wrap .i64 (Int.tdiv (wrap .i64 (Int.tdiv a0 86400)) 366)))) A3 (fun x=>⟨55,[(0,qi a0),(2,qp 0),(4,qi (wrap .i64 (Int.tdiv a0 86400))),(5,qi x)]⟩) (fun x=>⟨[[qi 0,qi 0,qi 0,qi 0,qi 0,qi 0]],[]⟩) fun k d=>by rw [xQ]; exact bC 2 A2 kQ fun l=>bFL (zp<|yl (j7 (P:=Tryz.prog) (gl:=gl0 mx) zn)<|zq fun h=>⟨wrap .i64 (d+1),h,wk A3⟩)<|xjL<|jnL A3) fun a=>bC 2 A2 kQ fun e=>rgL<|blL (fun b=>⟨55,[(0,qi a0),(2,qp 0),(4,qi b.1),(5,qi a),(6,qi b.2)]⟩) (fun b=>⟨[[qi 0,qi 0,qi 0,qi 0,qi 0,qi 0]],[]⟩) (fun b=>lpL (fun k x=>yR n a k x.1 x.2) (wrap .i64 ((wrap .i64 (Int.tdiv a0 86400))-e),1) A3 (fun x=>⟨55,[(0,qi a0),(2,qp 0),(4,qi x.1),(5,qi a),(6,qi x.2)]⟩) (fun x=>⟨[[qi 0,qi 0,qi 0,qi 0,qi 0,qi 0]],[]⟩) fun k x=>by obtain⟨f,g⟩:=x; rw [yR]; exact bC 3 A2 qj fun m=>bFL (zp<|bEL fun i j=>wO (j7 (P:=Tryz.prog) (gl:=gl0 mx) zn) (kCL 3 A2 (qj j) edL)<|zq fun h=>⟨(wrap .i64 (f-i),wrap .i64 (g+1)),h,wk A3⟩)<|xjL<|jnL A3) fun b=>rgL<|rKL A2
def qG (n:Nat)(a1:Int):Nat→Cd→Option Cd
 |0,_=>none
 | k+1,a=>
  if decide ((a.length:Int)<a1)then((jw ([48]:Cd) a).bind fun b=>
  qG n a1 k b)else(some a)
def xk (n:Nat)(a0 a1:Int):Option Cd:=
 (yf n n a0).bind fun a=>
 (qG n a1 n a).bind fun b=>
 some b
theorem vn {n a0 a1 r}:xk n a0 a1=some r→AC mx 127 [qi a0,qi a1] [] (qs r) []:=
 fnL Tryz.func127 rfl<|rgL<|bC 1 A1 (qJ _) fun b=>blL (fun a=>⟨15,[(5,qs a)]⟩) (fun a=>⟨[],[]⟩) (fun a=>lpL (fun k x=>qG n a1 k x) b A1 (fun x=>⟨15,[(1,qi a1),(5,qs x)]⟩) (fun x=>⟨[],[]⟩) fun k e=>by rw [qG]; exact rgL<|bFL (zp<|bEL fun c d=>wO (j7 (P:=Tryz.prog) (gl:=gl0 mx) zn) (kPL 1 (zQ d) edL)<|zq fun h=>⟨c,h,wk A1⟩)<|xjL<|jnL A1) fun a=>rgL<|rKL A1
def wW (n:Nat)(a1:List Cd):Nat→Cd→Int→Option Cd
 |0,_,_=>none
 | k+1,b,a=>
  if decide (a<(a1.length:Int))then((zV a1 a).bind fun c=>
  (jw b c).bind fun d=>
  wW n a1 k d (wrap .i64 (a+1)))else(some b)
def yZ (n:Nat)(a0:Int)(a1:List Cd):Option (Cd×Int):=
 (if decide (a0<0)then(some true)else(if decide (a0>255)then(some true)else(some ((Int.tmod a0 32)==31)))).bind fun b=>
 if b then(some (([]:Cd),5))else((wW n a1 n ([]:Cd) 0).bind fun a=>
 if decide ((a.length:Int)>131072)then(some (([]:Cd),6))else((if decide ((a.length:Int)≥65536)then(some ([wrap .u8 a0,131,wrap .u8 (Int.fdiv (a.length:Int) 65536),wrap .u8 (Int.fdiv (a.length:Int) 256),wrap .u8 (a.length:Int)]:List Int))else(if decide ((a.length:Int)≥256)then(some ([wrap .u8 a0,130,wrap .u8 (Int.fdiv (a.length:Int) 256),wrap .u8 (a.length:Int)]:List Int))else(if decide ((a.length:Int)≥128)then(some ([wrap .u8 a0,129,wrap .u8 (a.length:Int)]:List Int))else(some ([wrap .u8 a0,wrap .u8 (a.length:Int)]:List Int))))).bind fun c=>
 (jw (b2s c) a).bind fun d=>
 some (d,0)))
theorem wX {n a0 a1 r}:yZ n a0 a1=some r→AC mx 64 [qi a0,ql 1 cS a1] [] (.tuple [qs r.1,qi r.2]) []:=
 fnL Tryz.func64 rfl<|rgL<|bEL fun c hE=>rgF hE ⟨78,[(0,qi a0),(1,ql 1 cS a1),(21,qb c)]⟩ ⟨[],[]⟩ (gFL 3 13 (eJ A1)<|gFL 7 17 (eJ A1)<|eJ A1)<|bFL (rgL<|rKL A1)<|rgL<|cP 1 (uu a1)<|blL (fun a=>⟨78,[(0,qi a0),(6,qs a)]⟩) (fun a=>⟨[],[]⟩) (fun a=>lpL (fun k x=>wW n a1 k x.1 x.2) (([]:Cd),0) A1 (fun x=>⟨78,[(0,qi a0),(6,qs x.1),(22,ql 1 cS a1),(23,qi (a1.length)),(24,qi x.2)]⟩) (fun x=>⟨[],[]⟩) fun k x=>by obtain⟨i,d⟩:=x; rw [wW]; exact rgL<|bFL (zp<|bP 0 vq fun j=>bEL fun e f=>wO zS (kPL 2 (zQ f) edL)<|zq<|yl zn fun h=>⟨(e,wrap .i64 (d+1)),h,wk A1⟩)<|xjL<|jnL A1) fun a=>rgL<|rgL<|bFL (rgL<|rKL A1)<|rgL<|blL (fun b=>⟨78,[(6,qs a),(10,ql 1 (cI .u8) b)]⟩) (fun b=>⟨[],[]⟩) (fun b=>rgL<|bFL (yl xh<|jnL A1)<|rgL<|bFL (yl xh<|jnL A1)<|rgL<|bFL (yl xh<|jnL A1)<|jnL A1) fun b=>bEL fun l g=>rCL (lfL (fun z=>kB 1 b z)<|kPL 3 (zQ g) edL)<|rKL A1
def w7 (n:Nat)(a0:Int):Option (Cd×Int):=
 (ki n a0).bind fun a=>
 if a.2 !=0 then(some (([]:Cd),a.2))else((xk n a.1.qo 2).bind fun e=>
 (xk n a.1.pp 2).bind fun f=>
 (jw e f).bind fun g=>
 (xk n a.1.pf 2).bind fun i=>
 (jw g i).bind fun j=>
 (xk n a.1.qS 2).bind fun l=>
 (jw j l).bind fun m=>
 (xk n a.1.qW 2).bind fun o=>
 (jw m o).bind fun s=>
 (jw s ([90]:Cd)).bind fun b=>
 if decide (a.1.kZ<2050)then((xk n (Int.tmod a.1.kZ 100) 2).bind fun u=>
 (jw u b).bind fun v=>
 (yZ n 23 ([v]:List Cd)).bind fun c=>
 some (c.1,c.2))else((xk n a.1.kZ 4).bind fun w=>
 (jw w b).bind fun A=>
 (yZ n 24 ([A]:List Cd)).bind fun d=>
 some (d.1,d.2)))
theorem ZS {n a0 r}:w7 n a0=some r→AC mx 57 [qi a0] [] (.tuple [qs r.1,qi r.2]) []:=
 fnL Tryz.func57 rfl<|rgL<|bC 1 A1 XE fun B=>rgL<|bFL (rgL<|rKL A2)<|bEL fun C d=>bEL fun D e=>bEL fun E a=>bEL fun F f=>bEL fun G b=>bEL fun H g=>bEL fun I c=>bEL fun J i=>bEL fun K j=>bEL fun l m=>lfL (fun z=>zs [0,1,3,4,7,8,11,12,15,16,2,5,6,9,10,13,14,17,18,19,20] [2,5,9,13,17] [[],[0],[0,1],[],[3],[0,1,2,3,4],[0,1,2,3,4,5],[],[7],[0,1,2,3,4,5,7,8],[0,1,2,3,4,5,6,7,8,9],[],[11],[0,1,2,3,4,5,7,8,9,11,12],[0,1,2,3,4,5,6,7,8,9,10,11,12,13],[],[15],[0,1,2,3,4,5,7,8,9,11,12,13,15,16],[0,1,2,3,4,5,6,7,8,9,10,11,12,13,14,15,16,17],[0,1,2,3,4,5,6,7,8,9,10,11,12,13,14,15,16,17,18],[0,1,2,3,4,5,6,7,8,9,10,11,12,13,14,15,16,17,18,19]] [] [(4,qp 0),(6,qs l)] (dS [0,1,3,4,7,8,11,12,15,16]<|dC yb A2 (vn d)<|dC yb A2 (vn e)<|dP (zQ a)<|dC (zr 6 (zQ a) yb) A2 (vn f)<|dP (zQ b)<|dC (zr 10 (zQ b) (zr 6 (zQ a) yb)) A2 (vn g)<|dP (zQ c)<|dC (zr 14 (zQ c) (zr 10 (zQ b) (zr 6 (zQ a) yb))) A2 (vn i)<|dP (zQ j)<|dP (zQ m)<|dS [20]<|dE A3) z)<|rgL<|bFL (bEL fun L o=>bEL fun M s=>bEL fun N u=>rCL (kCL 3 A2 (vn o)<|kPL 5 (zQ s)<|kCL 7 A2 (wX u) edL)<|rKL A2)<|bEL fun O v=>bEL fun P w=>bEL fun Q A=>rCL (kCL 2 A2 (vn v)<|kPL 4 (zQ w)<|kCL 6 A2 (wX A) edL)<|rKL A2
def yC (n:Nat):Nat→Int→Nat→(List Int)→Option (Nat×(List Int))
 |0,_,_,_=>none
 | k+1,a,d,e=>
  (J5 d e).bind fun b=>
  if List.isEmpty b then(if(wrap .i64 (Int.tdiv a 128))==0 then(some (1,([wrap .u8 (Int.tmod a 128)]:List Int)))else(yC n k (wrap .i64 (Int.tdiv a 128)) 1 ([wrap .u8 (Int.tmod a 128)]:List Int)))else((ZI 1 1 ([wrap .u8 (Int.tmod a 128)]:List Int) b).bind fun c=>
  if(wrap .i64 (Int.tdiv a 128))==0 then(some (1+b.length,c))else(yC n k (wrap .i64 (Int.tdiv a 128)) (1+b.length) c))
def xa (n:Nat) (a:(Nat×(List Int))):Nat→Int→(List Int)→Option (List Int)
 |0,_,_=>none
 | k+1,b,c=>
  if decide ((wrap .i64 (b+1))<((a.1:Nat):Int))then((pq a.1 b).bind fun d=>
  ((c)[(d*1)]?).bind fun e=>
  (pq a.1 b).bind fun f=>
  (VT c (f*1) (wrap .u8 (e+128))).bind fun g=>
  xa n a k (wrap .i64 (b+1)) g)else(some c)
def xG (n:Nat)(b:List Int):Nat→Nat→Int→(List Int)→Option (Nat×(List Int))
 |0,_,_,_=>none
 | k+1,a,c,d=>
  if decide (c<(b.length:Int))then(((zV b c).bind fun i=>
  (yC n n i 0 ([]:List Int)).bind fun e=>
  (xa n e n 0 e.2).bind fun j=>
  (J5 e.1 j).bind fun f=>
  if List.isEmpty f then(some (a,d))else((ZI 1 a d f).bind fun l=>
  some (a+f.length,l))).bind fun g=>
  xG n b k g.1 (wrap .i64 (c+1)) g.2)else(some (a,d))
def vp (n:Nat)(a0:Cd):Option (Cd×Int):=
 (jW n a0).bind fun a=>
 if !a.2 then(some (([]:Cd),11))else(((zV a.1 0).bind fun b=>
 (zV a.1 1).bind fun c=>
 (lsl a.1 2 (a.1.length)).bind fun d=>
 if List.isEmpty d then(some ([wrap .i64 ((wrap .i64 ((40:Int)*b))+c)]:List Int))else((pb 8 ([wrap .i64 ((wrap .i64 ((40:Int)*b))+c)]:List Int) d).bind fun f=>
 some f)).bind fun g=>
 (xG n g n 0 0 ([]:List Int)).bind fun e=>
 (Kt e.1 e.2).bind fun i=>
 some (i,0))
theorem gM {n a0 r}:vp n a0=some r→AC mx 58 [qs a0] [] (.tuple [qs r.1,qi r.2]) []:=
 fnL Tryz.func58 rfl<|rgL<|bC 1 A1 pA fun r1=>rgL<|bFL (rgL<|rKL A1)<|bEL fun a hE=>lfL (fun z=>drw [0,1,2,3,4,5,6,7,8,9,10,11,12] [11,12] [[],[0],[0,1],[0,1,2],[],[4],[4,5],zv 0 7,zv 0 8,[],[9],zv 0 11,zv 0 12] ⟨65,[(4,ql 1 (cI .i64) a)]⟩ ⟨[],[]⟩ (have h:=hE; bE h fun G o h=>bE h fun H s h=>bE h fun I u h=>dS [0]<|dP (xY o)<|dS [2,3,4]<|dP (xY s)<|dS (zv 6 4)<|dP (gP u)<|kF h (fun hb h=>dV (zr 10 (gP u) (zr 5 (xY s) (zr 1 (xY o) yb))) 0 0 0 (Df (T:=tyT) (c:=(cI .i64)) (l:=([wrap .i64 ((wrap .i64 ((40:Int)*G))+H)]:List Int)) (l2:=I) (e:=3) (e2:=3) (sz:=1) (bytes:=8) (b2:=8) (tok:= .exact) (tok2:= .none) (cell:=none) O7 hb)<|dF (zr 10 (gP u) (zr 5 (xY s) (zr 1 (xY o) yb)))<|by cases h; exact dE A1) fun hb h=>bE h fun x5 J h=>dV (zr 10 (gP u) (zr 5 (xY s) (zr 1 (xY o) yb))) 0 0 0 (VS (T:=tyT) (c:=(cI .i64)) (e:=3) (e2:=3) (sz:=1) (bytes:=8) (b2:=8) (tok2:= .none) (cell:=none) O7 J)<|dF (zr 10 (gP u) (zr 5 (xY s) (zr 1 (xY o) yb)))<|by cases h; exact dE Aa) z)<|rgL<|cP 1 (bD a)<|blL (fun w=>⟨65,[(6, .own 0 w.1 1)]⟩) (fun w=>⟨[[.buf (List.map (vI .u8) w.2)]],[]⟩) (fun w=>xR (wk (fr':=⟨65,[(6,qn),(30,ql 1 (cI .i64) a),(31,qi (a.length)),(32,qi 0)]⟩) (st':=⟨[],[]⟩) A1)<|xR (Wk.nilO 6 0 1 O7)<|lpL (fun k x=>xG n a k x.1 x.2.1 x.2.2) (0,0,([]:List Int)) A3 (fun x=>⟨65,[(6, .own 0 x.1 1),(30,ql 1 (cI .i64) a),(31,qi (a.length)),(32,qi x.2.1)]⟩) (fun x=>⟨[[.buf (List.map (vI .u8) x.2.2)]],[]⟩) fun k x=>by obtain⟨d,f,i⟩:=x; rw [xG]; exact rgL<|bFL (blL (fun m=>⟨65,[(6, .own 0 m.1 1),(30,ql 1 (cI .i64) a),(31,qi (a.length)),(32,qi f)]⟩) (fun m=>⟨[[.buf (List.map (vI .u8) m.2)]],[]⟩) (fun m=>bP 0 xY fun D=>rgL<|blL (fun g=>⟨65,[(6, .own 0 d 1),(9, .own 1 g.1 1),(30,ql 1 (cI .i64) a),(31,qi (a.length)),(32,qi f)]⟩) (fun g=>⟨[[.buf (List.map (vI .u8) i)],[.buf (List.map (vI .u8) g.2)]],[]⟩) (fun g=>xR (wk (fr':=⟨65,[(6, .own 0 d 1),(8,qi D),(9,qn),(30,ql 1 (cI .i64) a),(31,qi (a.length)),(32,qi f)]⟩) (st':=⟨[[.buf (List.map (vI .u8) i)]],[]⟩) A3)<|xR (Wk.nilO 9 1 1 O7)<|lpL (fun k x=>yC n  k x.1 x.2.1 x.2.2) (D,0,([]:List Int)) A5 (fun x=>⟨65,[(6, .own 0 d 1),(8,qi x.1),(9, .own 1 x.2.1 1),(30,ql 1 (cI .i64) a),(31,qi (a.length)),(32,qi f)]⟩) (fun x=>⟨[[.buf (List.map (vI .u8) i)],[.buf (List.map (vI .u8) x.2.2)]],[]⟩) fun k x=>by obtain⟨j,K,L⟩:=x; rw [yC]; exact zp<|bEL fun B M=>xR (Wk.frz (c:=(vI .u8)) (l:=L) 9 1 K M O7)<|lfL (fun z=>fR z)<|lfL (fun z=>kL 3 (v:= .own 2 1 1) (cells:=List.map (vI .u8) ([wrap .u8 (Int.tmod j 128)]:List Int)) z)<|kFL (fun hb=>lfL (fun z=>kV 5 3 0 3 (Dj (T:=tyT) (n:=1) (c:=(vI .u8)) (l2:=B) (e:=5) (e2:=5) (bytes:=1) (b2:=1) (tok2:= .none) (cell:=none) (id:=2) O7 hb) z)<|lfL (fun z=>QS (⟨65,[(6, .own 0 d 1),(8,qi j),(9, .own 1 1 1),(30,ql 1 (cI .i64) a),(31,qi (a.length)),(32,qi f)]⟩) (⟨[[.buf (List.map (vI .u8) i)],[.buf (List.map (vI .u8) ([wrap .u8 (Int.tmod j 128)]:List Int))]],[]⟩) zS (kE Aj) z)<|rgL<|rgL<|bFL (bz<|gG<|Xn<|db<|jnL A5)<|zq fun h=>⟨(wrap .i64 (Int.tdiv j 128),1,([wrap .u8 (Int.tmod j 128)]:List Int)),h,wk A5⟩) fun hb=>bEL fun E N=>lfL (fun z=>kV 5 3 0 2 (Wi (T:=tyT) (c:=(vI .u8)) (l:=([wrap .u8 (Int.tmod j 128)]:List Int)) (l2:=B) (n:=1) (e:=5) (e2:=5) (bytes:=1) (b2:=1) (tok2:= .none) O7 N) z)<|lfL (fun z=>QS (⟨65,[(6, .own 0 d 1),(8,qi j),(9, .own 1 (1+B.length) 1),(30,ql 1 (cI .i64) a),(31,qi (a.length)),(32,qi f)]⟩) (⟨[[.buf (List.map (vI .u8) i)],[.buf (List.map (vI .u8) E)]],[]⟩) zS (kE ⟨[0,3],4,[],0⟩) z)<|rgL<|rgL<|bFL (bz<|gG<|Xn<|db<|jnL A5)<|zq fun h=>⟨(wrap .i64 (Int.tdiv j 128),1+B.length,E),h,wk A5⟩) fun g=>rgL<|blL (fun A=>⟨65,[(6, .own 0 d 1),(9, .own 1 g.1 1),(30,ql 1 (cI .i64) a),(31,qi (a.length)),(32,qi f)]⟩) (fun A=>⟨[[.buf (List.map (vI .u8) i)],[.buf (List.map (vI .u8) A)]],[]⟩) (fun A=>lpL (fun k x=>xa n g k x.1 x.2) (0,g.2) A5 (fun x=>⟨65,[(6, .own 0 d 1),(9, .own 1 g.1 1),(10,qi x.1),(30,ql 1 (cI .i64) a),(31,qi (a.length)),(32,qi f)]⟩) (fun x=>⟨[[.buf (List.map (vI .u8) i)],[.buf (List.map (vI .u8) x.2)]],[]⟩) fun k x=>by obtain⟨O,F⟩:=x; rw [xa]; exact rgL<|bFL (zp<|bEL fun P Q=>bEL fun R S=>bEL fun U V=>bEL fun W X=>wO zS (kPL 2 (pg (id:=1) (e:=5) (sz:=1) (b:=1) Q)<|kPL 3 (Us (c:=(vI .u8)) (l:=F) (off:=(P*1)) S)<|kPL 5 (pg (id:=1) (e:=5) (sz:=1) (b:=1) V)<|lfL (fun z=>kV 6 2 0 1 (Zu (T:=tyT) (t:=5) (c:=(vI .u8)) (l:=F) (off:=(U*1)) (x:=wrap .u8 (R+128)) (uI .u8) O7 X) z) edL)<|zq<|yl zn fun h=>⟨(wrap .i64 (O+1),W),h,wk A5⟩)<|xjL<|jnL A5) fun A=>bEL fun C Y=>xR (Wk.frz (c:=(vI .u8)) (l:=A) 9 1 g.1 Y O7)<|lfL (fun z=>fR z)<|kFL (fun hb=>lfL (fun z=>kV 2 2 0 2 (Dj (T:=tyT) (n:=d) (c:=(vI .u8)) (l2:=C) (e:=5) (e2:=5) (bytes:=1) (b2:=1) (tok2:= .none) (cell:=none) (id:=0) O7 hb) z)<|lfL (fun z=>QS (⟨65,[(6, .own 0 d 1),(30,ql 1 (cI .i64) a),(31,qi (a.length)),(32,qi f)]⟩) (⟨[[.buf (List.map (vI .u8) i)]],[]⟩) (j7 xh) (kE A8) z)<|jnL A3) fun hb=>bEL fun Z a1=>lfL (fun z=>kV 2 2 0 0 (Wi (T:=tyT) (c:=(vI .u8)) (l:=i) (l2:=C) (n:=d) (e:=5) (e2:=5) (bytes:=1) (b2:=1) (tok2:= .none) O7 a1) z)<|lfL (fun z=>QS (⟨65,[(6, .own 0 (d+C.length) 1),(30,ql 1 (cI .i64) a),(31,qi (a.length)),(32,qi f)]⟩) (⟨[[.buf (List.map (vI .u8) Z)]],[]⟩) (j7 xh) (kE Ao) z)<|jnL A3) fun m=>yl zn fun h=>⟨(m.1,wrap .i64 (f+1),m.2),h,wk A3⟩)<|xjL<|jnL A3) fun w=>bP 1 KX fun a4=>rKL A2
def zD (n:Nat)(a0:Int)(a1:List Cd):Option Cd:=
 (yZ n a0 a1).bind fun a=>
 some a.1
theorem zP {n a0 a1 r}:zD n a0 a1=some r→AC mx 59 [qi a0,ql 1 cS a1] [] (qs r) []:=
 fnL Tryz.func59 rfl<|rgL<|bC 2 A1 wX fun a=>rgL<|rKL A1
def jd (n:Nat)(a0:Int):Nat→Int→Int→Option Int
 |0,_,_=>none
 | k+1,b,a=>
  if decide (a<16)then(((Wr .i64 a0 a).bind fun c=>
  if(Int.tmod c 2)==1 then(some (wrap .i64 (a+1)))else(some b)).bind fun d=>
  jd n a0 k d (wrap .i64 (a+1)))else(some b)
def jh (n:Nat)(d a0:Int)(c:Nat):Nat→Int→(List Int)→Option (List Int)
 |0,_,_=>none
 | k+1,a,b=>
  if decide (a<d)then(((Wr .i64 a0 a).bind fun e=>
  if(Int.tmod e 2)==1 then((pq c (wrap .i64 ((1:Int)+(wrap .i64 (Int.tdiv a 8))))).bind fun f=>
  ((b)[(f*1)]?).bind fun g=>
  (Wr .u8 128 (Int.tmod a 8)).bind fun i=>
  (pq c (wrap .i64 ((1:Int)+(wrap .i64 (Int.tdiv a 8))))).bind fun j=>
  (VT b (j*1) (ior .u8 g i)).bind fun l=>
  some l)else(some b)).bind fun m=>
  jh n d a0 c k (wrap .i64 (a+1)) m)else(some b)
def vD (n:Nat)(a0:Int):Option (Cd×Int):=
 (if decide (a0<0)then(some true)else(some (decide (a0>65535)))).bind fun c=>
 if c then(some (([]:Cd),1))else((jd n a0 n 0 0).bind fun a=>
 (BP 1 (wrap .i64 ((1:Int)+(wrap .i64 (Int.tdiv (wrap .i64 (a+7)) 8)))) (wrap .i64 ((1:Int)+(wrap .i64 (Int.tdiv (wrap .i64 (a+7)) 8))))).bind fun b=>
 (pq b 0).bind fun d=>
 (VT (List.replicate b (0:Int)) (d*1) (wrap .u8 (wrap .i64 ((wrap .i64 ((8:Int)*(wrap .i64 (Int.tdiv (wrap .i64 (a+7)) 8))))-a)))).bind fun e=>
 (jh n a a0 b n 0 e).bind fun f=>
 (Kt b f).bind fun g=>
 some (g,0))
theorem Yz {n a0 r}:vD n a0=some r→AC mx 60 [qi a0] [] (.tuple [qs r.1,qi r.2]) []:=
 fnL Tryz.func60 rfl<|rgL<|bEL fun B hE=>rgF hE ⟨62,[(0,qi a0),(13,qb B)]⟩ ⟨[],[]⟩ (gFL 3 10 (eJ A1)<|eJ A1)<|bFL (rgL<|rKL A1)<|rgL<|rgL<|blL (fun a=>⟨62,[(0,qi a0),(4,qi a)]⟩) (fun a=>⟨[],[]⟩) (fun a=>lpL (fun k x=>jd n a0 k x.1 x.2) (0,0) A1 (fun x=>⟨62,[(0,qi a0),(4,qi x.1),(5,qi x.2)]⟩) (fun x=>⟨[],[]⟩) fun k x=>by obtain⟨M,m⟩:=x; rw [jd]; exact rgL<|bFL (blL (fun d=>⟨62,[(0,qi a0),(4,qi d),(5,qi m)]⟩) (fun d=>⟨[],[]⟩) (fun d=>bP 2 GK fun N=>bFL (yl xh<|jnL A1)<|jnL A1) fun d=>yl zn fun h=>⟨(d,wrap .i64 (m+1)),h,wk A1⟩)<|xjL<|jnL A1) fun a=>bEL fun f C=>rCL (lfL (fun z=>kV 4 0 0 0 (DN (T:=tyT) (e:=5) (k1:= .i64) (k2:= .i64) (bytes:=1) (cell:=none) (c:=(vI .u8)) (uI .u8) 0 ⟨O7,O7⟩ C) z) edL)<|bEL fun D E=>bEL fun F G=>rCL (kPL 8 (pg (id:=0) (e:=5) (sz:=1) (b:=1) E)<|lfL (fun z=>kV 9 1 0 0 (Zu (T:=tyT) (t:=5) (c:=(vI .u8)) (l:=List.replicate f (0:Int)) (off:=(D*1)) (x:=wrap .u8 (wrap .i64 ((wrap .i64 ((8:Int)*(wrap .i64 (Int.tdiv (wrap .i64 (a+7)) 8))))-a))) (uI .u8) O7 G) z) edL)<|rgL<|blL (fun i=>⟨62,[(6, .own 0 f 1)]⟩) (fun i=>⟨[[.buf (List.map (vI .u8) i)]],[]⟩) (fun i=>lpL (fun k x=>jh n a a0 f k x.1 x.2) (0,F) A3 (fun x=>⟨62,[(0,qi a0),(4,qi a),(6, .own 0 f 1),(7,qi x.1)]⟩) (fun x=>⟨[[.buf (List.map (vI .u8) x.2)]],[]⟩) fun k x=>by obtain⟨o,j⟩:=x; rw [jh]; exact rgL<|bFL (blL (fun g=>⟨62,[(0,qi a0),(4,qi a),(6, .own 0 f 1),(7,qi o)]⟩) (fun g=>⟨[[.buf (List.map (vI .u8) g)]],[]⟩) (fun g=>bP 2 GK fun O=>bFL (bEL fun s u=>bEL fun H v=>bEL fun I w=>bEL fun J A=>bEL fun K L=>lfL (fun z=>zmN xh [0,1,2,3,4,5,6,7,8,9,10,11] [11] [[],[],[1],[1,2],[0,1,2,3],[0,1,2,3,4],[],[6],[6,7],[0,1,2,3,4,5,6,7,8],[0,1,2,3,4,5,6,7,8,9],[0,1,2,3,4,5,6,7,8,9,10]] [6,7] [(0,qi a0),(4,qi a)] ⟨[[.buf (List.map (vI .u8) K)]],[]⟩ (dS (zv 0 4)<|dP (pg (id:=0) (e:=5) (sz:=1) (b:=1) u)<|dP (Us (c:=(vI .u8)) (l:=j) (off:=(s*1)) v)<|dS [6,7]<|dP (Uj w)<|dS [9]<|dP (pg (id:=0) (e:=5) (sz:=1) (b:=1) A)<|dV (zr 10 (pg (id:=0) (e:=5) (sz:=1) (b:=1) A) (zr 8 (Uj w) (zr 5 (Us (c:=(vI .u8)) (l:=j) (off:=(s*1)) v) (zr 4 (pg (id:=0) (e:=5) (sz:=1) (b:=1) u) yb)))) 1 0 0 (Zu (T:=tyT) (t:=5) (c:=(vI .u8)) (l:=j) (off:=(J*1)) (x:=ior .u8 H I) (uI .u8) O7 L)<|dE A3) z)<|jnL A3)<|jnL A3) fun g=>yl zn fun h=>⟨(wrap .i64 (o+1),g),h,wk A3⟩)<|xjL<|jnL A3) fun i=>bP 1 KX fun P=>rKL A2
def uC (n:Nat)(a0:Cd):Option Cd:=
 (vp n a0).bind fun a=>
 (zD n 6 ([a.1]:List Cd)).bind fun b=>
 some b
theorem gz {n a0 r}:uC n a0=some r→AC mx 129 [qs a0] [] (qs r) []:=
 fnL Tryz.func129 rfl<|rgL<|bC 1 A1 gM fun a=>bC 2 A1 zP fun b=>rKL A1
def ub (n:Nat)(a0:List Cd):Nat→Cd→Int→Option Cd
 |0,_,_=>none
 | k+1,b,a=>
  if decide (a<(a0.length:Int))then((zV a0 a).bind fun c=>
  (uC n c).bind fun d=>
  (jw b d).bind fun e=>
  ub n a0 k e (wrap .i64 (a+1)))else(some b)
def vb (n:Nat)(a0:List Cd):Option Cd:=
 (ub n a0 n ([]:Cd) 0).bind fun a=>
 some a
theorem px {n a0 r}:vb n a0=some r→AC mx 61 [ql 1 cS a0] [] (qs r) []:=
 fnL Tryz.func61 rfl<|rgL<|rgL<|rgL<|blL (fun a=>⟨19,[(3,qs a)]⟩) (fun a=>⟨[],[]⟩) (fun a=>lpL (fun k x=>ub n a0 k x.1 x.2) (([]:Cd),0) A1 (fun x=>⟨19,[(0,ql 1 cS a0),(3,qs x.1),(4,qi x.2)]⟩) (fun x=>⟨[],[]⟩) fun k x=>by obtain⟨g,b⟩:=x; rw [ub]; exact cP 2 (uu a0)<|bFL (zp<|bEL fun i c=>bEL fun j d=>bEL fun e f=>wO zS (kPL 3 (vq c)<|kCL 5 A1 (gz d)<|kPL 6 (zQ f) edL)<|zq<|yl zn fun h=>⟨(e,wrap .i64 (b+1)),h,wk A1⟩)<|xjL<|jnL A1) fun a=>rgL<|rKL A1
def kd (n:Nat)(a0:Bool):Option Cd:=
 if a0 then(some ([255]:Cd))else(some ([0]:Cd))
theorem ZV {n a0 r}:kd n a0=some r→AC mx 130 [qb a0] [] (qs r) []:=
 fnL Tryz.func130 rfl<|rgL<|rgL<|bFL (rgL<|rKL A1)<|rgL<|rKL A1
def ul (n:Nat)(a0:Int)(a1:Bool):Option Cd:=
 if !a1 then(some ([]:Cd))else((kd n true).bind fun a=>
 (zD n a0 ([a]:List Cd)).bind fun b=>
 some b)
theorem qw {n a0 a1 r}:ul n a0 a1=some r→AC mx 62 [qi a0,qb a1] [] (qs r) []:=
 fnL Tryz.func62 rfl<|rgL<|rgL<|bFL (rgL<|rKL A1)<|bEL fun c a=>bEL fun d b=>rCL (kCL 1 A1 (ZV a)<|kCL 3 A1 (zP b) edL)<|rKL A1
def wh (n:Nat)(a0:List zb):Nat→(List Cd)→Int→Option (List Cd)
 |0,_,_=>none
 | k+1,c,a=>
  if decide (a<(a0.length:Int))then((zV a0 a).bind fun b=>
  (uC n b.wi).bind fun d=>
  (zD n b.zG ([b.vA]:List Cd)).bind fun e=>
  (zD n 48 ([d,e]:List Cd)).bind fun f=>
  (gL 16 c ([f]:List Cd)).bind fun g=>
  wh n a0 k g (wrap .i64 (a+1)))else(some c)
def jt (n:Nat)(a0:List zb):Option (List Cd):=
 (wh n a0 n ([]:List Cd) 0).bind fun a=>
 some a
theorem ZN {n a0 r}:jt n a0=some r→AC mx 188 [ql 3 zb.cells a0] [] (ql 1 cS r) []:=
 fnL Tryz.func188 rfl<|rgL<|rgL<|cP 1 (gH a0)<|blL (fun a=>⟨28,[(3, .sl 1 (List.map cS a) (.fam 0 (a.length)))]⟩) (fun a=>⟨[],[a.length]⟩) (fun a=>xR (wk (fr':=⟨28,[(3,qn),(6,ql 3 zb.cells a0),(7,qi (a0.length)),(8,qi 0)]⟩) (st':=⟨[],[]⟩) A1)<|xR Wk.nilFam<|lpL (fun k x=>wh n a0 k x.1 x.2) (([]:List Cd),0) A6 (fun x=>⟨28,[(3, .sl 1 (List.map cS x.1) (.fam 0 (x.1.length))),(6,ql 3 zb.cells a0),(7,qi (a0.length)),(8,qi x.2)]⟩) (fun x=>⟨[],[x.1.length]⟩) fun k x=>by obtain⟨j,c⟩:=x; rw [wh]; exact rgL<|bFL (zp<|bP 0 pY fun l=>bEL fun m d=>bEL fun o f=>bEL fun s g=>bEL fun b i=>lfL (fun z=>zmN zS [0,1,2,4,5,6,7,8,3,9,10,11,12,13,14] [3,9,11,13,14] [[],[],[1],[1,2],[],[4],[],[6],[6,7],[1,2,3,4,5,6,7,8],[1,2,3,4,5,6,7,8,9],[1,2,3,4,5,6,7,8,9,10],[1,2,3,4,5,6,7,8,9,10,11],[0,1,2,3,4,5,6,7,8,9,10,11,12],[0,1,2,3,4,5,6,7,8,9,10,11,12,13]] [6,7] [(3, .sl 1 (List.map cS b) (.fam 0 (b.length))),(8,qi c)] ⟨[],[b.length]⟩ (dS [0,1,2,4,5,6,7,8]<|dC yb Ah (gz d)<|dC yb Ah (zP f)<|dS [10]<|dC yb Ah (zP g)<|dS [12]<|dA yb 0 cS (e:=9) (e2:=9) (sz:=1) (bytes:=16) (b2:=16) (tok2:= .exact) i<|dF yb<|dE C6) z)<|zq<|yl zn fun h=>⟨(b,wrap .i64 (c+1)),h,wk A6⟩)<|xjL<|jnL A6) fun a=>rgL<|rKL Aa
end Go.Abs
end
