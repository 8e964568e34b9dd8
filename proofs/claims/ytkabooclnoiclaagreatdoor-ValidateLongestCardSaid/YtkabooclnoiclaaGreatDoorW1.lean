/- For each Go function: if its typed Lean form gives some result, the call returns that result (printed by a program of this hand). Condition: the typed form gives some result. -/
import Derived.Test.YtkabooclnoiclaaGreatDoorS
set_option linter.all false
section
section
namespace Go.Abs
open Go Go.Proofs IntKind
abbrev J:Ren:=⟨[],0,[],0⟩
abbrev A0:Ren:=⟨[0],1,[],0⟩
abbrev A1:Ren:=⟨[0,1,2],3,[],0⟩
abbrev A2:Ren:=⟨[0,1],2,[0],1⟩
abbrev A3:Ren:=⟨[0],1,[0],1⟩
abbrev A4:Ren:=⟨[],1,[],0⟩
abbrev A5:Ren:=⟨[],3,[],0⟩
abbrev A6:Ren:=⟨[],5,[],0⟩
abbrev A7:Ren:=⟨[0,1,2,3,4],5,[],0⟩
abbrev A8:Ren:=⟨[0,1],2,[],0⟩
abbrev A9:Ren:=⟨[],0,[0],1⟩
abbrev Aa:=List UInt8
def ty0:TI:=⟨true,1,0, .flat,(.tuple []),true,[],[]⟩
def ty2:TI:=⟨true,1,8,(.int .i64),(.int .i64 0),true,[],[]⟩
def ty3:TI:=⟨true,1,8,(.int .i64),(.int .i64 0),true,[],[]⟩
def ty4:TI:=⟨true,1,1, .bool,(.bool false),true,[],[]⟩
def ty5:TI:=⟨true,1,1,(.int .u8),(.int .u8 0),true,[],[]⟩
def ty6:TI:=⟨true,1,1,(.int .u8),(.int .u8 0),true,[],[]⟩
def ty8:TI:=⟨true,4,24,(.struct [(0,1),(1,1),(2,1),(3,1)]),(.agg [(.int .i64 0),(.int .i64 0),(.bool false),(.int .u8 0)]),true,[2,3,4,6],[(.int .i64),(.int .i64), .bool,(.int .u8)]⟩
def ty9:TI:=⟨true,1,16, .str,(.str []),true,[],[]⟩
def zar:TI:=⟨true,1,24,(.slice 9 1 16), .nilsl,true,[],[]⟩
def zaV:TI:=⟨true,1,24,(.slice 5 1 1), .nilsl,true,[],[]⟩
def sr:TI:=⟨true,1,8,(.int .u64),(.int .u64 0),true,[],[]⟩
def tJ:TI:=⟨true,1,4,(.int .u32),(.int .u32 0),true,[],[]⟩
def tc:TI:=⟨true,1,24,(.slice 284 1 4), .nilsl,true,[],[]⟩
def sL:TI:=⟨true,1,8,(.int .u64),(.int .u64 0),true,[],[]⟩
def sJ:TI:=⟨true,64,256,(.arr 64 1),(.agg [(.int .u32 0),(.int .u32 0),(.int .u32 0),(.int .u32 0),(.int .u32 0),(.int .u32 0),(.int .u32 0),(.int .u32 0),(.int .u32 0),(.int .u32 0),(.int .u32 0),(.int .u32 0),(.int .u32 0),(.int .u32 0),(.int .u32 0),(.int .u32 0),(.int .u32 0),(.int .u32 0),(.int .u32 0),(.int .u32 0),(.int .u32 0),(.int .u32 0),(.int .u32 0),(.int .u32 0),(.int .u32 0),(.int .u32 0),(.int .u32 0),(.int .u32 0),(.int .u32 0),(.int .u32 0),(.int .u32 0),(.int .u32 0),(.int .u32 0),(.int .u32 0),(.int .u32 0),(.int .u32 0),(.int .u32 0),(.int .u32 0),(.int .u32 0),(.int .u32 0),(.int .u32 0),(.int .u32 0),(.int .u32 0),(.int .u32 0),(.int .u32 0),(.int .u32 0),(.int .u32 0),(.int .u32 0),(.int .u32 0),(.int .u32 0),(.int .u32 0),(.int .u32 0),(.int .u32 0),(.int .u32 0),(.int .u32 0),(.int .u32 0),(.int .u32 0),(.int .u32 0),(.int .u32 0),(.int .u32 0),(.int .u32 0),(.int .u32 0),(.int .u32 0),(.int .u32 0)]),true,[],[]⟩
def rP:TI:=⟨true,1,8,(.ptr 440), .nilp,true,[],[]⟩
def sM:TI:=⟨true,8,32,(.arr 8 1),(.agg [(.int .u32 0),(.int .u32 0),(.int .u32 0),(.int .u32 0),(.int .u32 0),(.int .u32 0),(.int .u32 0),(.int .u32 0)]),true,[],[]⟩
def rz:TI:=⟨true,10,64,(.struct [(0,8),(8,1),(9,1)]),(.agg [(.int .u32 0),(.int .u32 0),(.int .u32 0),(.int .u32 0),(.int .u32 0),(.int .u32 0),(.int .u32 0),(.int .u32 0), .nilsl,(.int .i64 0)]),true,[438,94,3],[]⟩
def Qc:TT:=(.node (.node (.node (.node (.node .leaf 0 ty0 .leaf) 2 ty2 .leaf) 3 ty3 (.node .leaf 4 ty4 .leaf)) 5 ty5 (.node (.node (.node .leaf 6 ty6 .leaf) 8 ty8 .leaf) 9 ty9 (.node .leaf 23 zar .leaf))) 94 zaV (.node (.node (.node (.node .leaf 254 sr .leaf) 284 tJ .leaf) 285 tc (.node .leaf 332 sL .leaf)) 352 sJ (.node (.node .leaf 434 rP .leaf) 438 sM (.node .leaf 440 rz .leaf))))
set_option maxRecDepth 100000 in
theorem BF:Qc.toList.map (fun p=>ti Tryz.prog p.1)=Qc.toList.map (·.2):=O4
noncomputable def tyT (t:TypeId):TI:=match Qc.get t with|some v=>v|none=>ti Tryz.prog t
theorem wl:tyT=ti Tryz.prog:=TT.eq_of BF
def gl0 (mx:Int)(g:Nat):List V:= []
section
variable {gl:Nat→List V} {ops:Array Oper} {K:AFr→St→Prop} {s0:St} {cs:List Code} {AQ:Exit→AFr→St→Prop} {id:Nat} {fr fr':AFr} {st st':St} {i:Nat} {x:Cfg} {E:List Nat} {B:List (List Nat)} {rest seen:List Nat} {fx:List (Nat×Option V×V)}
theorem kP (k:Nat) {q:Option V} {v:V} (hq:q=some v) (h:ym Tryz.prog gl ops (k+1) (pT (wm tyT gl ops i k x) (z2 ops k) v) K)
 (hik:Nat.ble i k=true:=by kernel_rfl) (he:qz tyT gl ops i k x=u9 q (wm tyT gl ops i k x).2:=by kernel_rfl):ym Tryz.prog gl ops i x K:=PK wl k hq hik he h
theorem kC (k:Nat) (R:Ren) {f:FuncId} {args1:List V} {st1 st1':St} {r:V} (hc:z6 Tryz.prog gl f args1 st1 (Out r st1'))
 (h:ym Tryz.prog gl ops (k+1) (wW (wm tyT gl ops i k x) (z2 ops k) (V.ren R r) (fun st=>St.after R st st1')) K)
 (hb:goB tyT gl ops i k x R f args1 st1=true:=by kernel_rfl) (he:callL R st1 args1=goR tyT gl ops i k x R args1 st1:=by kernel_rfl):ym Tryz.prog gl ops i x K:=zaI wl k R hc hb he h
theorem kA (k t:Nat) {α:Type} (c:α→List V) {l l2 l':List α} {e e2:TypeId} {sz bytes b2:Nat} {tok2:Tok} (h1:w4 bytes l l2=some l')
 (h:ym Tryz.prog gl ops (k+1) (wW (wm tyT gl ops i k x) (z2 ops k) (.sl sz (l'.map c) (.fam t l'.length)) (fun st=>st.setFam t l'.length)) K)
 (hb:(Nat.ble i k&&bm tyT e sz bytes)=true:=by kernel_rfl) (he:((wm tyT gl ops i k x).2.fams[t]?,qz tyT gl ops i k x)=(some l.length,wn tyT (wm tyT gl ops i k x).2 (.slice e sz bytes) (.slice e2 sz b2) (.sl sz (l.map c) (.fam t l.length)) (.sl sz (l2.map c) tok2)):=by kernel_rfl):ym Tryz.prog gl ops i x K:=sE wl k t c h1 hb he h
theorem kB (k:Nat) (l:List Int) (h:ym Tryz.prog gl ops (k+1) (pT (wm tyT gl ops i k x) (z2 ops k) (.str (b2s l))) K)
 (hik:Nat.ble i k=true:=by kernel_rfl) (he:qz tyT gl ops i k x=u9 (match we (l.map (cI .u8))with|some b=>some (.str b)|none=>none) (wm tyT gl ops i k x).2:=by kernel_rfl):ym Tryz.prog gl ops i x K:=tS wl k l hik he h
theorem kV (k m f id:Nat) {cell:Option (List V)} {q:St→Option (V×St)} {v:V} {F:St→St} (hq:∀st:St,st.vars.length=m→st.fams.length=f→st.vars[id]? =cell→q st=some (v,F st))
 (h:ym Tryz.prog gl ops (k+1) (wW (wm tyT gl ops i k x) (z2 ops k) v F) K) (hik:Nat.ble i k=true:=by kernel_rfl)
 (he:((wm tyT gl ops i k x).2.vars.length,(wm tyT gl ops i k x).2.fams.length,(wm tyT gl ops i k x).2.vars[id]?,qz tyT gl ops i k x)=(m,f,cell,q (wm tyT gl ops i k x).2):=by kernel_rfl):ym Tryz.prog gl ops i x K:=nE wl k m f id hq hik he h
theorem dV {fx:List (Nat×Option V×V)} (hf:dm fx) (m f id:Nat) {cell:Option (List V)} {q:St→Option (V×St)} {v:V} {F:St→St} (hq:∀st:St,st.vars.length=m→st.fams.length=f→st.vars[id]? =cell→q st=some (v,F st))
 (h:aDC Tryz.prog gl ops E B rest (i::seen) (wW x (z2 ops i) v F) K) (hb:E.contains i=true:=by kernel_rfl)
 (he:(x.2.vars.length,x.2.fams.length,x.2.vars[id]?,BN tyT gl ops i x)=(m,f,cell,q x.2):=by kernel_rfl)
 (hs:(stX tyT gl ops E B i seen (wW x (z2 ops i) v F),svX ops E B fx i seen (wW x (z2 ops i) v F))=(stY tyT gl ops E B fx i seen (wW x (z2 ops i) v F),svY ops E B fx i seen (wW x (z2 ops i) v F)):=by kernel_rfl):aDC Tryz.prog gl ops E B (i::rest) seen x K:=oa wl hf m f id hq hb he hs h
theorem kE (R:Ren) (hb:fu tyT gl ops i x s0 R fr' st'=true:=by kernel_rfl) (he:wkL R fr' st'=lB tyT gl ops i x R fr' st':=by kernel_rfl):ym Tryz.prog gl ops i x (toW s0 fr' st'):=sX wl R hb he
theorem dS (os:List Nat) (h:aDC Tryz.prog gl ops E B rest (os.reverse++seen) (oK tyT gl ops E os x) K) (hb:n7 tyT gl ops E os x=true:=by kernel_rfl):aDC Tryz.prog gl ops E B (os++rest) seen x K:=rB wl os hb h
theorem dP {q:Option V} {v:V} (hq:q=some v) (h:aDC Tryz.prog gl ops E B rest (i::seen) (pT x (z2 ops i) v) K) (hb:Jd ops E i=true:=by kernel_rfl) (he:BN tyT gl ops i x=u9 q x.2:=by kernel_rfl):aDC Tryz.prog gl ops E B (i::rest) seen x K:=nS wl hq hb he h
theorem dF (hf:dm fx) (h:aDC Tryz.prog gl ops E B rest (i::seen) (Yq tyT gl ops i x) K) (hb:n6 tyT gl ops E i x=true:=by kernel_rfl)
 (hs:(stX tyT gl ops E B i seen (Yq tyT gl ops i x),svX ops E B fx i seen (Yq tyT gl ops i x))=(stY tyT gl ops E B fx i seen (Yq tyT gl ops i x),svY ops E B fx i seen (Yq tyT gl ops i x)):=by kernel_rfl):aDC Tryz.prog gl ops E B (i::rest) seen x K:=rG wl hf hb hs h
theorem dC (hf:dm fx) (R:Ren) {f:FuncId} {args1:List V} {st1 st1':St} {r:V} (hc:z6 Tryz.prog gl f args1 st1 (Out r st1')) (h:aDC Tryz.prog gl ops E B rest (i::seen) (wW x (z2 ops i) (V.ren R r) (fun st=>St.after R st st1')) K)
 (hb:oD ops E i x R f args1 st1=true:=by kernel_rfl) (he:callL R st1 args1=oh ops i x R args1 st1:=by kernel_rfl)
 (hs:(stX tyT gl ops E B i seen (wW x (z2 ops i) (V.ren R r) (fun st=>St.after R st st1')),svX ops E B fx i seen (wW x (z2 ops i) (V.ren R r) (fun st=>St.after R st st1')))=(stY tyT gl ops E B fx i seen (wW x (z2 ops i) (V.ren R r) (fun st=>St.after R st st1')),svY ops E B fx i seen (wW x (z2 ops i) (V.ren R r) (fun st=>St.after R st st1'))):=by kernel_rfl):aDC Tryz.prog gl ops E B (i::rest) seen x K:=zaY wl hf R hc hb he hs h
theorem dE (R:Ren) (hb:wkB s0 R x.1 x.2 fr' st'=true:=by kernel_rfl) (he:wkL R fr' st'=wkR R x.1 x.2 fr' st':=by kernel_rfl):aDC Tryz.prog gl ops E B [] seen x (toW s0 fr' st'):=rA R hb he
theorem wk (R:Ren) (hb:wkB s0 R fr st fr' st'=true:=by kernel_rfl) (he:wkL R fr' st'=wkR R fr st fr' st':=by kernel_rfl):Wk s0 fr st fr' st':=Wk.gen R hb he
theorem zm {c:Code} (order E:List Nat) (B:List (List Nat)) (ks:List Nat) (new:List (Nat×V)) (st':St) (h:aDC Tryz.prog gl ops E B order [] (fr,st) (toW s0 (Bt fr ks new) st')) (h2:ze Tryz.prog gl s0 (c::cs) AQ (Bt fr ks new) st')
 (hm:Tryz.prog.follows .mixedOrders=true:=by kernel_rfl) (hc:jG ops fr.n order E B=true:=by kernel_rfl):ze Tryz.prog gl s0 (.region id ops true::c::cs) AQ fr st:=J7 order E B _ _ hm hc zF h h2
theorem zs {c:Code} (order E:List Nat) (B:List (List Nat)) (ks:List Nat) (new:List (Nat×V)) (h:aDC Tryz.prog gl ops E B order [] (fr,st) (toW s0 (Bt fr ks new) st)) (h2:ze Tryz.prog gl s0 (c::cs) AQ (Bt fr ks new) st)
 (hm:Tryz.prog.follows .mixedOrders=true:=by kernel_rfl) (hc:jG ops fr.n order E B=true:=by kernel_rfl):ze Tryz.prog gl s0 (.region id ops true::c::cs) AQ fr st:=J7 order E B _ _ hm hc zF h h2
theorem zmN (hcl:Cl s0 (AQ .normal)) (order E:List Nat) (B:List (List Nat)) (ks:List Nat) (new:List (Nat×V)) (st':St) (h:aDC Tryz.prog gl ops E B order [] (fr,st) (toW s0 (Bt fr ks new) st')) (h2:ze Tryz.prog gl s0 [] AQ (Bt fr ks new) st')
 (hm:Tryz.prog.follows .mixedOrders=true:=by kernel_rfl) (hc:jG ops fr.n order E B=true:=by kernel_rfl):ze Tryz.prog gl s0 [.region id ops true] AQ fr st:=J7 order E B _ _ hm hc (ZJ hcl) h h2
theorem bF {α:Type} {c:Operand} {x y:Code} {t:Bool} {a b:Option α} {r:α} (h:(if t=true then a else b)=some r) (h1:a=some r→ze Tryz.prog gl s0 (x::cs) AQ fr st) (h2:b=some r→ze Tryz.prog gl s0 (y::cs) AQ fr st) (hc:fr.eval c= .bool t:=by kernel_rfl):ze Tryz.prog gl s0 (.cond c x y::cs) AQ fr st:=
 rc t hc (fun hb=>h1 (tR hb h)) (fun hb=>h2 (rD hb h))
theorem bT {c:Operand} {x y:Code} (h1:ze Tryz.prog gl s0 (x::cs) AQ fr st) (hc:fr.eval c= .bool true:=by kernel_rfl):ze Tryz.prog gl s0 (.cond c x y::cs) AQ fr st:=rc true hc (fun _=>h1) (fun hb=>Bool.noConfusion hb)
theorem bN {c:Operand} {x y:Code} (h2:ze Tryz.prog gl s0 (y::cs) AQ fr st) (hc:fr.eval c= .bool false:=by kernel_rfl):ze Tryz.prog gl s0 (.cond c x y::cs) AQ fr st:=rc false hc (fun hb=>Bool.noConfusion hb) (fun _=>h2)
theorem fnc {f:FuncId} {fn:Func} {c:Code} {args:List V} {Q:V→St→Prop} (hf:Tryz.prog.funcs[f]? =some fn) (hb:fn.body=some c) (h:ze Tryz.prog gl st [c] (uq Tryz.prog gl st fn Q) (qj fn.ntmps args) st)
 (hn : (fn.name == "runtime.NumGoroutine") = false := by kernel_rfl) (hl : Nat.ble args.length fn.ntmps = true := by kernel_rfl) : z6 Tryz.prog gl f args st Q := z6.ofB hf hb hn (iD hl) h
theorem rt {fn:Func} {r:V} (R:Ren)
 (hb:((xL tyT gl fr st fn.results.toList).isSome&&wkB s0 R ⟨1,[(0,ZU tyT gl fr st fn.results.toList)]⟩ st ⟨1,[(0,r)]⟩ st')=true:=by kernel_rfl)
 (hl:wkL R ⟨1,[(0,r)]⟩ st'=wkR R ⟨1,[(0,ZU tyT gl fr st fn.results.toList)]⟩ st ⟨1,[(0,r)]⟩ st':=by kernel_rfl):uq Tryz.prog gl s0 fn (Out r st') .ret fr st:=mA wl R (.inr rfl) hb hl
theorem rno {fn:Func} {r:V} (R:Ren)
 (hb:((xL tyT gl fr st fn.results.toList).isSome&&wkB s0 R ⟨1,[(0,ZU tyT gl fr st fn.results.toList)]⟩ st ⟨1,[(0,r)]⟩ st')=true:=by kernel_rfl)
 (hl:wkL R ⟨1,[(0,r)]⟩ st'=wkR R ⟨1,[(0,ZU tyT gl fr st fn.results.toList)]⟩ st ⟨1,[(0,r)]⟩ st':=by kernel_rfl):uq Tryz.prog gl s0 fn (Out r st') .normal fr st:=mA wl R (.inl rfl) hb hl
end
abbrev AC (mx:Int) (f:FuncId) (args:List V) (s:List (List V)) (r:V) (s':List (List V)):Prop:=z6 Tryz.prog (gl0 mx) f args ⟨s,[]⟩ (Out r ⟨s',[]⟩)
section
variable {gl:Nat→List V} {ops:Array Oper} {s0:St} {cs:List Code} {AQ:Exit→AFr→St→Prop} {id:Nat} {fr:AFr} {st:St} {i:Nat} {x y:Cfg} {c:Code}
theorem ed (hb:pJ tyT gl ops i x=true:=by kernel_rfl):ym Tryz.prog gl ops i x (toW s0 (qr tyT gl ops i x).1 (qr tyT gl ops i x).2):=QA wl hb
theorem rg (h2:ze Tryz.prog gl s0 (c::cs) AQ (qr tyT gl ops 0 (fr,st)).1 (qr tyT gl ops 0 (fr,st)).2) (hb:pJ tyT gl ops 0 (fr,st)=true:=by kernel_rfl):ze Tryz.prog gl s0 (.region id ops false::c::cs) AQ fr st:=Pl (y:=(fr,st)) (QA wl hb) h2
theorem rgN (hcl:Cl s0 (AQ .normal)) (h2:AQ .normal (qr tyT gl ops 0 (fr,st)).1 (qr tyT gl ops 0 (fr,st)).2) (hb:pJ tyT gl ops 0 (fr,st)=true:=by kernel_rfl):ze Tryz.prog gl s0 [.region id ops false] AQ fr st:=Kg (y:=(fr,st)) hcl (QA wl hb) h2
theorem rC (h:ym Tryz.prog gl ops 0 (fr,st) (toW s0 y.1 y.2)) (h2:ze Tryz.prog gl s0 (c::cs) AQ y.1 y.2):ze Tryz.prog gl s0 (.region id ops false::c::cs) AQ fr st:=Pl (y:=(fr,st)) h h2
theorem rCN (hcl:Cl s0 (AQ .normal)) (h:ym Tryz.prog gl ops 0 (fr,st) (toW s0 y.1 y.2)) (h2:AQ .normal y.1 y.2):ze Tryz.prog gl s0 [.region id ops false] AQ fr st:=Kg (y:=(fr,st)) hcl h h2
end
def Im (p q:Prop):Prop:=p→q
section
variable {gl:Nat→List V} {ops:Array Oper} {K:AFr→St→Prop} {s0:St} {c d:Code} {cs:List Code} {AQ:Exit→AFr→St→Prop} {id:Nat} {fr fr':AFr} {st st':St} {i:Nat} {x:Cfg} {E:List Nat} {B:List (List Nat)} {rest seen:List Nat} {fx:List (Nat×Option V×V)} {p Q:Prop}
theorem fnL {f : FuncId} {fn : Func} {args : List V} {Q : V → St → Prop} (hf : Tryz.prog.funcs[f]? = some fn) (hb : fn.body = some c) (h : Im (p) (ze Tryz.prog gl st (flat c []) (uq Tryz.prog gl st fn Q) (qj fn.ntmps args) st)) (hn : (fn.name == "runtime.NumGoroutine") = false := by kernel_rfl) (hl : Nat.ble args.length fn.ntmps = true := by kernel_rfl) : Im (p) (z6 Tryz.prog gl f args st Q) := fun k => fnc hf hb (vT _ (h k)) hn hl
theorem bEL {α β:Type} {x:Option α} {f:α→Option β} {y:β} (k:∀a,x=some a→Im (f a=some y) (Q)):Im (x.bind f=some y) (Q):=fun h=>bE h k
theorem lfL {A:Prop} (f:A→Q) (t:Im (p) (A)):Im (p) (Q):=fun z=>f (t z)
theorem imA (h:p) (t:Im (p) (Q)):Q:=t h
inductive Tg (R:Ren):Prop|mk
theorem rtT {fn:Func} {r:V} {R:Ren} (_:Tg R) (hb:((xL tyT gl fr st fn.results.toList).isSome&&wkB s0 R ⟨1,[(0,ZU tyT gl fr st fn.results.toList)]⟩ st ⟨1,[(0,r)]⟩ st')=true:=by kernel_rfl)
 (hl:wkL R ⟨1,[(0,r)]⟩ st'=wkR R ⟨1,[(0,ZU tyT gl fr st fn.results.toList)]⟩ st ⟨1,[(0,r)]⟩ st':=by kernel_rfl):uq Tryz.prog gl s0 fn (Out r st') .ret fr st:=rt R hb hl
theorem rnT {fn:Func} {r:V} {R:Ren} (_:Tg R) (hb:((xL tyT gl fr st fn.results.toList).isSome&&wkB s0 R ⟨1,[(0,ZU tyT gl fr st fn.results.toList)]⟩ st ⟨1,[(0,r)]⟩ st')=true:=by kernel_rfl)
 (hl:wkL R ⟨1,[(0,r)]⟩ st'=wkR R ⟨1,[(0,ZU tyT gl fr st fn.results.toList)]⟩ st ⟨1,[(0,r)]⟩ st':=by kernel_rfl):uq Tryz.prog gl s0 fn (Out r st') .normal fr st:=rno R hb hl
theorem rJ {P:Prop} (R:Ren) (q:Tg R→P:=by intro t h; cases h; exact rtT t):P:=q .mk
theorem nJ {P:Prop} (R:Ren) (q:Tg R→P:=by intro t h; cases h; exact rnT t):P:=q .mk
theorem rgL (h2:Im (p) (ze Tryz.prog gl s0 (c::cs) AQ (qr tyT gl ops 0 (fr,st)).1 (qr tyT gl ops 0 (fr,st)).2)) (hb:pJ tyT gl ops 0 (fr,st)=true:=by kernel_rfl):Im (p) (ze Tryz.prog gl s0 (.region id ops false::c::cs) AQ fr st):=fun k=>rg (h2 k) hb
theorem wj (hcl:Cl s0 (AQ .normal)) (h2:Im (p) (AQ .normal (qr tyT gl ops 0 (fr,st)).1 (qr tyT gl ops 0 (fr,st)).2)) (hb:pJ tyT gl ops 0 (fr,st)=true:=by kernel_rfl):Im (p) (ze Tryz.prog gl s0 [.region id ops false] AQ fr st):=fun k=>rgN hcl (h2 k) hb
theorem rCL {y:Cfg} (h:Im (True) (ym Tryz.prog gl ops 0 (fr,st) (toW s0 y.1 y.2))) (h2:Im (p) (ze Tryz.prog gl s0 (c::cs) AQ y.1 y.2)):Im (p) (ze Tryz.prog gl s0 (.region id ops false::c::cs) AQ fr st):=fun k=>rC (h trivial) (h2 k)
theorem uG {y:Cfg} (hcl:Cl s0 (AQ .normal)) (h:Im (True) (ym Tryz.prog gl ops 0 (fr,st) (toW s0 y.1 y.2))) (h2:Im (p) (AQ .normal y.1 y.2)):Im (p) (ze Tryz.prog gl s0 [.region id ops false] AQ fr st):=fun k=>rCN hcl (h trivial) (h2 k)
theorem edL (hb:pJ tyT gl ops i x=true:=by kernel_rfl):Im (p) (ym Tryz.prog gl ops i x (toW s0 (qr tyT gl ops i x).1 (qr tyT gl ops i x).2)):=fun _=>ed hb
theorem kPL (k:Nat) {q:Option V} {v:V} (hq:q=some v) (h:Im (p) (ym Tryz.prog gl ops (k+1) (pT (wm tyT gl ops i k x) (z2 ops k) v) K)) (hik:Nat.ble i k=true:=by kernel_rfl) (he:qz tyT gl ops i k x=u9 q (wm tyT gl ops i k x).2:=by kernel_rfl):Im (p) (ym Tryz.prog gl ops i x K):=fun z=>kP k hq (h z) hik he
theorem kCL (k:Nat) (R:Ren) {f:FuncId} {args1:List V} {st1 st1':St} {r:V} (hc:z6 Tryz.prog gl f args1 st1 (Out r st1')) (h:Im (p) (ym Tryz.prog gl ops (k+1) (wW (wm tyT gl ops i k x) (z2 ops k) (V.ren R r) (fun st=>St.after R st st1')) K)) (hb:goB tyT gl ops i k x R f args1 st1=true:=by kernel_rfl) (he:callL R st1 args1=goR tyT gl ops i k x R args1 st1:=by kernel_rfl):Im (p) (ym Tryz.prog gl ops i x K):=fun z=>kC k R hc (h z) hb he
theorem bFL {α:Type} {q:Operand} {x y:Code} {t:Bool} {a b:Option α} {r:α} (h1:Im (a=some r) (ze Tryz.prog gl s0 (flat x cs) AQ fr st)) (h2:Im (b=some r) (ze Tryz.prog gl s0 (flat y cs) AQ fr st)) (hc:fr.eval q= .bool t:=by kernel_rfl):Im ((if t=true then a else b)=some r) (ze Tryz.prog gl s0 (.cond q x y::cs) AQ fr st):=fun h=>bF h (fun k=>vT _ (h1 k)) (fun k=>vT _ (h2 k)) hc
theorem bTL {q:Operand} {x y:Code} (h1:Im (p) (ze Tryz.prog gl s0 (flat x cs) AQ fr st)) (hc:fr.eval q= .bool true:=by kernel_rfl):Im (p) (ze Tryz.prog gl s0 (.cond q x y::cs) AQ fr st):=fun k=>bT (vT _ (h1 k)) hc
theorem bNL {q:Operand} {x y:Code} (h1:Im (p) (ze Tryz.prog gl s0 (flat y cs) AQ fr st)) (hc:fr.eval q= .bool false:=by kernel_rfl):Im (p) (ze Tryz.prog gl s0 (.cond q x y::cs) AQ fr st):=fun k=>bN (vT _ (h1 k)) hc
theorem zx (h:Im (p) (ze Tryz.prog gl s0 (flat c []) (vS id (yG (ze Tryz.prog gl s0 cs AQ) AQ)) fr st)):Im (p) (ze Tryz.prog gl s0 (.block id c::cs) AQ fr st):=fun k=>Kf (vT _ (h k))
theorem U2 {n:Nat} (h:Im (p) (ze Tryz.prog gl s0 (flat c []) (yG (xT Tryz.prog gl s0 c AQ n) AQ) fr st)):Im (p) (xT Tryz.prog gl s0 c AQ (n+1) fr st):=fun k=>fe (vT _ (h k))
theorem yB {n:Nat} (h:Im (p) (ze Tryz.prog gl s0 (flat c []) (yG (xT Tryz.prog gl s0 c AQ n) AQ) fr st)):Im (p) (yG (xT Tryz.prog gl s0 c AQ (n+1)) AQ .normal fr st):=fun k=>GK (vT _ (h k))
theorem xj (h:Im (p) (AQ .ret fr st)):Im (p) (ze Tryz.prog gl s0 (.ret::cs) AQ fr st):=fun k=>sd (h k)
theorem yV (h:Im (p) (AQ (.exit id) fr st)):Im (p) (ze Tryz.prog gl s0 (.exit id::cs) AQ fr st):=fun k=>oM (h k)
theorem q7 (hw:Wk s0 fr st fr' st') (h:Im (p) (ze Tryz.prog gl s0 (c::cs) AQ fr' st')):Im (p) (ze Tryz.prog gl s0 (c::cs) AQ fr st):=fun k=>zaT hw (h k)
theorem yv (h:Im (p) (AQ (.exit id) fr st)):Im (p) (yG K AQ (.exit id) fr st):=h
theorem zC (h:Im (p) (K fr st)):Im (p) (vS id (yG K AQ) .normal fr st):=h
theorem Vu (h:Im (p) (K fr st)):Im (p) (vS id (yG K AQ) (.exit id) fr st):=fun k=>ls (h k)
theorem yM {Y:Type} {F:Y→AFr} {S:Y→St} {L:Y→Prop} (h:Im (p) (jh s0 F S L fr st)):Im (p) (qG s0 id F S L AQ (.exit id) fr st):=fun k=>lH (h k)
theorem jnL {Y:Type} {F:Y→AFr} {S:Y→St} {v y:Y} (R:Ren) (hb:wkB s0 R fr st (F v) (S v)=true:=by kernel_rfl) (he:wkL R (F v) (S v)=wkR R fr st (F v) (S v):=by kernel_rfl):Im (some v=some y) (jh s0 F S (fun z=>y=z) fr st):=fun h=>⟨v,sI h,Wk.gen R hb he⟩
theorem lpL {X Y:Type} (g:Nat→X→Option Y) {o:Y} {n:Nat} (x0:X) (R:Ren) (F:X→AFr) (S:X→St) (round:∀k x,Im (g (k+1) x=some o) (ze Tryz.prog gl s0 (flat c []) (yG (jh s0 F S (fun x=>g k x=some o)) AQ) (F x) (S x))) (h0:∀x,g 0 x=none:=by intro _; rfl) (hb:wkB s0 R fr st (F x0) (S x0)=true:=by kernel_rfl) (he:wkL R (F x0) (S x0)=wkR R fr st (F x0) (S x0):=by kernel_rfl):Im (g n x0=some o) (ze Tryz.prog gl s0 (.loop c::cs) AQ fr st):=
 fun h=>nC F S (fun k x=>g k x=some o) (fun x hx=>by rw [h0]at hx; cases hx) n x0 h (Wk.gen R hb he) fun k x h=>vT _ (round k x h)
theorem cuL {Y Z:Type} {o:Option Y} {f:Y→Option Z} {r:Z} (F:Y→AFr) (S:Y→St) (h1:∀y,Im (o=some y) (ze Tryz.prog gl s0 [c] (yG (jh s0 F S (fun z=>y=z)) AQ) fr st)) (h2:∀y,Im (f y=some r) (ze Tryz.prog gl s0 (d::cs) AQ (F y) (S y))):Im (o.bind f=some r) (ze Tryz.prog gl s0 (c::d::cs) AQ fr st):=fun h=>cuE h F S h1 h2
theorem blL {Y Z:Type} {o:Option Y} {f:Y→Option Z} {r:Z} (F:Y→AFr) (S:Y→St) (h1:∀y,Im (o=some y) (ze Tryz.prog gl s0 (flat c []) (qG s0 id F S (fun z=>y=z) AQ) fr st)) (h2:∀y,Im (f y=some r) (ze Tryz.prog gl s0 (d::cs) AQ (F y) (S y))):Im (o.bind f=some r) (ze Tryz.prog gl s0 (.block id c::d::cs) AQ fr st):=fun h=>blE h F S (fun y k=>vT _ (h1 y k)) h2
end
end Go.Abs
end
section
namespace Go.Abs
open Go.RowKit (Below)
open Go Go.Proofs IntKind
section
variable {P:Program} {T:TypeId→TI} {gl:Nat→List V} {ops:Array Oper} {K:AFr→St→Prop} {E:List Nat} {B:List (List Nat)}
end
section
variable {gl:Nat→List V} {ops:Array Oper} {K:AFr→St→Prop} {s0:St} {cs:List Code} {AQ:Exit→AFr→St→Prop} {id:Nat} {fr fr':AFr} {st st':St} {i:Nat} {x:Cfg} {E:List Nat} {B:List (List Nat)} {rest seen:List Nat} {fx:List (Nat×Option V×V)}
end
theorem fF {T:TypeId→TI} {l l':List Int} {s:Aa} {n id m f:Nat} {e:TypeId} {bytes:Nat} (ho:bm T e 1 bytes=true) (h:Ga bytes n l (s2b s)=some l'):
  ∀ st:St,st.vars.length=m→st.fams.length=f→st.vars[id]? =some [.buf (l.map (vI .u8))] →
   wn T st (.slice e 1 bytes) .str (.own id n 1) (.str s)=some (.own m (n+(s2b s).length) 1,(st.put id []).push [.buf (l'.map (vI .u8))]):=by
 intro st hm hf hc
 have h1:=nD (T:=T) (c:=vI .u8) (e:=e) (e2:=e) (bytes:=bytes) (b2:=bytes) (tok2:= .none) ho h st hm hf hc
 rw [←h1]
 have h2:(s2b s).map (fun x=> [vI .u8 x])=xG s:=by rw [Vq]; rfl
 rw [h2]
 rfl
section
variable {s0 st:St} {fr:AFr}
theorem VO.repl {G:Gh} {r:Nat} {cs:List V} {o:Obj} {i:Nat} {u v:V} (hi:cs[i]? =some u) (hu:(∀es,u≠ .mp es)∧(∀s p,u≠ .sit s p)∧(∀b,u≠ .buf b)) (hv:∀c,VR G u c→VR G v c) (h:VO G r cs o):VO G r (cs.set i v) o:=by
 cases h with
 | @cells _ C el h1 h2 h3=>
  refine .cells (by rw [List.length_set]; exact h1) ?_ h3
  intro k x c hx hc
  rw [List.getElem?_set]at hx
  split at hx
  ·rename_i e; subst e
   split at hx
   ·injection hx with hx; subst hx
    exact hv c (h2 _ _ _ hi hc)
   ·cases hx
  ·exact h2 k x c hx hc
 | @mp es _ _ _ _=>
  exfalso
  cases i with
  |zero=>simp at hi; exact hu.1 _ hi.symm
  |succ i=>simp at hi
 | sit s pos=>
  exfalso
  cases i with
  |zero=>simp at hi; exact hu.2.1 _ _ hi.symm
  |succ i=>simp at hi
 | buf _ _ _ _=>
  exfalso
  cases i with
  |zero=>simp at hi; exact hu.2.2 _ hi.symm
  |succ i=>simp at hi
theorem Wk.frzM {α:Type} {c:α→V} {l l':List α} {cs:List V} (j i id n:Nat) (hh:YT n l=some l') (h:(st.vars[j]?,cs[i]?,st.vars[id]?)=(some cs,some (.own id n 1),some [.buf (l.map c)])):
  Wk s0 fr st fr ((st.put id []).put j (cs.set i (.sl 1 (l'.map fun x=> [c x]) .none))):=by
 unfold YT at hh
 split at hh
 ·rename_i hle; injection hh with hh; subst hh
  injection h with hj h; injection h with hi hid
  have hne:j≠id:=fun e=>by
   subst e; rw [hj]at hid; injection hid with hid; subst hid
   cases i with
   |zero=>simp at hi
   |succ i=>simp at hi
  have hu:(∀es,V.own id n 1≠ .mp es)∧(∀s p,V.own id n 1≠ .sit s p)∧(∀b,V.own id n 1≠ .buf b):=⟨(fun _ e=>by cases e),(fun _ _ e=>by cases e),(fun _ e=>by cases e)⟩
  have hchunk:wh 1 n ((l.map c).take (n*1))=(l.take n).map fun x=> [c x]:=by
   have hl:(l.take n).length=n:=O3
   rw [Nat.mul_one,←List.map_take,←dK c (l.take n),hl]
  have hgone:V.gone cs=false:=by
   match cs,hi with
   | [],hi=>simp at hi
   | [x],hi=>
    cases i with
    |zero=>simp at hi; subst hi; rfl
    |succ i=>simp at hi
   |_::_::_,_=>simp [V.gone]
  intro gl w0 G0 G w a g1 g2 g3 g4
  have hle1:st.le (st.put id []):=St.le_put st id []
  have hle2:(st.put id []).le ((st.put id []).put j (cs.set i (.sl 1 ((l.take n).map fun x=> [c x]) .none))):=St.le_put _ _ _
  have hle3:=hle1.trans hle2
  have fin:∀G',Ext st G G'→Rel gl w0 G' (st.put id []) w→(∀x,VR G' (.own id n 1) x→VR G' (.sl 1 ((l.take n).map fun x=> [c x]) .none) x)→s0.le ((st.put id []).put j (cs.set i (.sl 1 ((l.take n).map fun x=> [c x]) .none)))∧∃G',Ext s0 G0 G'∧Rel gl w0 G' ((st.put id []).put j (cs.set i (.sl 1 ((l.take n).map fun x=> [c x]) .none))) w∧yi G' ((st.put id []).put j (cs.set i (.sl 1 ((l.take n).map fun x=> [c x]) .none))) fr a:=by
   intro G' hx hr hv
   have g5:=g4.ext hx hle1
   refine⟨g1.trans hle3,G',g2.trans g1 hx,hr.forget O2 (fun t p h=>h) ?_,g5.defers,g5.size,fun t=>⟨V.sc_mono hle2 _ (g5.slot t).1,(g5.slot t).2⟩⟩
   have hj':(st.put id []).vars[j]? =some cs:=by
    simp only [St.put,List.getElem?_set,hne.symm,if_false]; exact hj
   intro id' cc hc
   rcases St.put_get hc with⟨rfl,rfl⟩|⟨hne',hc⟩
   ·refine ⟨V.scs_mono hle2 _ ((V.scs_iff _ _).2 ?_), ?_⟩
    ·intro v hv'
     rcases List.mem_or_eq_of_mem_set hv' with hm|rfl
     ·exact(V.scs_iff _ _).1 (hr.sc _ _ hj') v hm
     ·simp [V.sc]
    ·intro hn
     exact⟨cs,hj',hgone,fun r o ho=>VO.repl hi hu hv ho⟩
   ·refine⟨V.scs_mono hle2 _ (hr.sc _ _ hc), ?_⟩
    intro hn
    exact⟨cc,hc,hn,fun r o ho=>ho⟩
  rcases Nat.eq_zero_or_pos n with hn0|hpos
  ·subst hn0
   refine fin G (.refl _ _) (g3.kill id) ?_
   intro x hx
   cases hx with
   |own k0 _ _ _=>exact absurd k0 (Nat.lt_irrefl _)
   |ownnil=>simp only [List.take_zero,List.map_nil]; exact .slnil _ _
  ·obtain ⟨b0,o0,m1,m2,m3,m4,m5⟩:=g3.vars j cs hj hgone
   have hown:∃x,VR G (.own id n 1) x:=by
    cases m4 with
    | @cells _ C el h1 h2 h3=>
     have hlt:i<cs.length:=by
      rcases Nat.lt_or_ge i cs.length with h|h
      ·exact h
      ·rw [List.getElem?_eq_none h]at hi; cases hi
     exact⟨C[i]' O0,h2 i _ _ hi O2⟩
    | _=>
     exfalso
     cases i with
     |zero=>simp at hi
     |succ i=>simp at hi
   obtain⟨x,hx⟩:=hown
   cases hx with
   |ownnil=>exact absurd hpos (Nat.lt_irrefl _)
   | @own _ _ _ b cap k0 k1 k2 k3=>
    obtain⟨G',r1,r2,r3⟩:=g3.freeze hid k1 k0 O1 (O5 hle) k2 k3 n
    have hf:Rel gl w0 G' (st.put id []) w:=by
     refine r1.forget (by simp [St.pushFam,St.put]) ?_ ?_
     ·intro t' q ht'
      have:t'<st.fams.length:=yo ht'
      simp only [St.pushFam,St.put]at ht' ⊢
      rw [List.getElem?_append_left this]; exact ht'
     ·intro x c hc
      exact⟨(g3.kill id).sc x c hc,fun hn=>⟨c,hc,hn,fun _ _ x=>x⟩⟩
    refine fin G' r2 hf ?_
    rw [hchunk]at r3
    intro y hy
    cases hy with
    |ownnil=>exact absurd hpos (Nat.lt_irrefl _)
    | @own _ _ _ b' cap' q0 q1 q2 q3=>
     have hb:b'=b:=by
      have:=r2.var id (yo hid)
      rw [q1,k1]at this; injection this
     subst hb
     have hlen:((l.take n).map fun x=> [c x]).length=n:=O3
     generalize hrows:((l.take n).map fun x=> [c x])=rows at r3 hlen ⊢
     subst hlen
     cases r3 with
     |sl e1 e2 e3=>exact .sl e1 trivial q2
 ·cases hh
end
section
variable {P:Program}
theorem DB {G:Gh} {w:World} {t el:TypeId} {n:Nat} {vs:List V} {x:Value} {k m:IntKind} {i:Nat} {z:Int} (hu:P.underlying t=some (.array n el)) (hok:((ti P el).ok,(ti P el).sz,(ti P el).d)=(true,1, .int m)) (hi:i<n) (hx:VR G (.agg vs) x) (hc:vs[i]? =some (.int m z)):
  (Instr.index t x (.int k i)).run P w= .ok (.int m z) w:=by
 injection hok with h1 hok; injection hok with h2 h3
 obtain⟨inf,d,hin,hdd,hsz,htd⟩:=qc h1
 have hne:(ti P el).d≠ .other:=by rw [h3]; simp
 have hag:(ti P el).d.agg=ja d:=by rw [htd]at hne ⊢; exact jj hne
 have hs1:inf.size=1:=by rw [←hsz]; exact h2
 have ha':(ti P el).d.agg=false:=by rw [h3]; rfl
 cases hx with
 | @agg _ ca hl hr=>
  have hlt:i<ca.size:=by rw [←hl]; exact yo hc
  have hv:=hr i _ (ca[i]) hc (by simp [hlt])
  have he:ca[i]= .int m z:=by
   generalize ca[i]=y at hv
   cases hv; rfl
  simp only [Instr.index,asIntOf,iB,iC,run_underlying hu,iA,Int.natCast_nonneg,Int.ofNat_lt,hi,and_self,if_true,zk hin,part,xx hdd,←hag,ha',Bool.false_eq_true,if_false,Int.toNat_natCast,hs1,Nat.mul_one]
  have:ca[i]? =some ca[i]:=by simp [hlt]
  rw [this,he]; rfl
theorem oE {gl:Nat→List V} {s0:St} {cs:List Code} {AQ:Exit→AFr→St→Prop} {id:Nat} {ops:Array Oper} {fr:AFr} {st:St} {t el n i a b:Nat} {k m:IntKind} {z:Int} {vs:List V} (fr':AFr) (st':St) (hcl:Cl s0 (ze P gl s0 cs AQ))
  (ho:(ops.toList.head?.map fun o=>(o.op,o.guard))=some (.index t (.tmp a) (.tmp b),none)) (hu:P.underlying t=some (.array n el)) (hok:((ti P el).ok,(ti P el).sz,(ti P el).d)=(true,1, .int m)) (hin:i<n)
  (hx:zq fr.l a= .agg vs) (hi:zq fr.l b= .int k i) (hc:vs[i]? =some (.int m z)) (h:ym P gl ops 1 (pT (fr,st) (z2 ops 0) (.int m z)) (toW s0 fr' st'))
  (h2:ze P gl s0 cs AQ fr' st'):ze P gl s0 (.region id ops false::cs) AQ fr st:=by
 refine wJ.of ?_
 intro w0 G w ac h1 hf
 refine wp_region ?_
 obtain ⟨o,rest,hops,hoo,hg⟩:∃o rest,ops.toList=o::rest∧o.op= .index t (.tmp a) (.tmp b)∧o.guard=none:=by
  cases hl:ops.toList with
  |nil=>rw [hl]at ho; simp at ho
  | cons o r=>
   rw [hl]at ho
   simp only [List.head?_cons,Option.map_some,Option.some.injEq,Prod.mk.injEq]at ho
   exact⟨o,r,rfl,ho.1,ho.2⟩
 have ho0:ops[0]? =some o:=by rw [←Array.getElem?_toList,hops]; rfl
 have hsz:ops.size=rest.length+1:=by rw [←Array.length_toList,hops]; rfl
 have hd:z2 ops 0=o.dst:=by simp [z2,Wj,ho0]
 rw [WC,hd]at h
 have hs1:=(hf.slot a).2
 have hs2:=(hf.slot b).2
 rw [hx]at hs1; rw [hi]at hs2
 have e1:ac.eval (.tmp b)= .int k i:=by
  show ac.tmps.getD b undef=_
  generalize ac.tmps.getD b undef=y at hs2
  cases hs2; rfl
 have hrun:=DB (w:=w) (k:=k) hu hok hin hs1 hc
 rw [List.range_eq_range',hsz,List.range'_succ]
 simp only [wpOps,ho0]
 rw [if_pos (by simp [Region.wanted,hg])]
 refine .inl ?_
 have he:(execOp ac.eval o).run P w= .ok (.value (.int m z)) w:=by
  have e0:ac.eval (.tmp a)=ac.tmps.getD a undef:=rfl
  simp only [execOp,hoo,iB,e1,e0,hrun,iA,iC]
 simp only [Oper.wp,he,Oper.upon]
 have hd1:ops.toList.drop 1=rest:=by rw [hops]; rfl
 unfold ym at h
 rw [hd1]at h
 refine bK (P:=P) (gl:=gl) (w0:=w0) (ops:=ops) rest 1 _ st G w _ hd1 h h1 (hf.put o.dst (by simp [V.sc]) (.int m z)) ?_
 intro fr2 st2 G2 a2 w2 m1 m2 m3 m4 m5
 exact⟨fr2,st2,G2,hcl _ _ _ _ m1 h2,m2,m3,m4,m5⟩
end
section
variable {gl:Nat→List V} {ops:Array Oper} {s0:St} {c:Code} {cs:List Code} {AQ:Exit→AFr→St→Prop} {id:Nat} {fr:AFr} {st:St} {p:Prop}
theorem oS {fr':AFr} {st':St} (hcl:Cl s0 (AQ .normal)) (hw:Wk s0 fr st fr' st') (h:Im p (AQ .normal fr' st')):Im p (AQ .normal fr st):=fun k=>hcl _ _ _ _ hw (h k)
theorem idL (t el n i a b:Nat) (m:IntKind) (z:Int) (vs:List V) (R:Ren) (fr':AFr) (st':St) (h2:Im p (ze Tryz.prog gl s0 (c::cs) AQ fr' st'))
  (ho:(ops.toList.head?.map fun o=>(o.op,o.guard))=some (.index t (.tmp a) (.tmp b),none):=by kernel_rfl) (hu:Tryz.prog.underlying t=some (.array n el):=by kernel_rfl) (hok:((ti Tryz.prog el).ok,(ti Tryz.prog el).sz,(ti Tryz.prog el).d)=(true,1, .int m):=by kernel_rfl) (hin:Nat.blt i n=true:=by kernel_rfl)
  (hx:zq fr.l a= .agg vs:=by kernel_rfl) (hi:zq fr.l b= .int .i64 i:=by kernel_rfl) (hc:vs[i]? =some (.int m z):=by kernel_rfl)
  (hb:fu tyT gl ops 1 (pT (fr,st) (z2 ops 0) (.int m z)) s0 R fr' st'=true:=by kernel_rfl) (he:wkL R fr' st'=lB tyT gl ops 1 (pT (fr,st) (z2 ops 0) (.int m z)) R fr' st':=by kernel_rfl):Im p (ze Tryz.prog gl s0 (.region id ops false::c::cs) AQ fr st):=
 fun k=>oE fr' st' zF ho hu hok (iD hin) hx hi hc (kE R hb he) (h2 k)
end
end Go.Abs
end
section
namespace Go.Abs
open Go Go.Proofs IntKind
structure zh where
 f_0:Int
 f_1:Int
 f_2:Int
 f_3:Int
 f_4:Int
 f_5:Int
 f_6:Int
 f_7:Int
def zh.cells (x:zh):List V:= [.int .u32 x.f_0, .int .u32 x.f_1, .int .u32 x.f_2, .int .u32 x.f_3, .int .u32 x.f_4, .int .u32 x.f_5, .int .u32 x.f_6, .int .u32 x.f_7]
structure zf where
 f_h:zh
 xq:(List Int)
 f_n:Int
def zf.cells (x:zf):List V:= [.int .u32 x.f_h.f_0, .int .u32 x.f_h.f_1, .int .u32 x.f_h.f_2, .int .u32 x.f_h.f_3, .int .u32 x.f_h.f_4, .int .u32 x.f_h.f_5, .int .u32 x.f_h.f_6, .int .u32 x.f_h.f_7,ql 1 (cI .u8) x.xq,qi x.f_n]
structure qD where
 f_0:Int
 f_1:Int
 f_2:Int
 f_3:Int
 f_4:Int
 f_5:Int
 f_6:Int
 f_7:Int
 f_8:Int
 f_9:Int
 f_10:Int
 f_11:Int
 f_12:Int
 f_13:Int
 f_14:Int
 f_15:Int
 f_16:Int
 f_17:Int
 f_18:Int
 f_19:Int
 f_20:Int
 f_21:Int
 f_22:Int
 f_23:Int
 f_24:Int
 f_25:Int
 f_26:Int
 f_27:Int
 f_28:Int
 f_29:Int
 f_30:Int
 f_31:Int
 f_32:Int
 f_33:Int
 f_34:Int
 f_35:Int
 f_36:Int
 f_37:Int
 f_38:Int
 f_39:Int
 f_40:Int
 f_41:Int
 f_42:Int
 f_43:Int
 f_44:Int
 f_45:Int
 f_46:Int
 f_47:Int
 f_48:Int
 f_49:Int
 f_50:Int
 f_51:Int
 f_52:Int
 f_53:Int
 f_54:Int
 f_55:Int
 f_56:Int
 f_57:Int
 f_58:Int
 f_59:Int
 f_60:Int
 f_61:Int
 f_62:Int
 f_63:Int
def qD.cells (x:qD):List V:= [.int .u32 x.f_0, .int .u32 x.f_1, .int .u32 x.f_2, .int .u32 x.f_3, .int .u32 x.f_4, .int .u32 x.f_5, .int .u32 x.f_6, .int .u32 x.f_7, .int .u32 x.f_8, .int .u32 x.f_9, .int .u32 x.f_10, .int .u32 x.f_11, .int .u32 x.f_12, .int .u32 x.f_13, .int .u32 x.f_14, .int .u32 x.f_15, .int .u32 x.f_16, .int .u32 x.f_17, .int .u32 x.f_18, .int .u32 x.f_19, .int .u32 x.f_20, .int .u32 x.f_21, .int .u32 x.f_22, .int .u32 x.f_23, .int .u32 x.f_24, .int .u32 x.f_25, .int .u32 x.f_26, .int .u32 x.f_27, .int .u32 x.f_28, .int .u32 x.f_29, .int .u32 x.f_30, .int .u32 x.f_31, .int .u32 x.f_32, .int .u32 x.f_33, .int .u32 x.f_34, .int .u32 x.f_35, .int .u32 x.f_36, .int .u32 x.f_37, .int .u32 x.f_38, .int .u32 x.f_39, .int .u32 x.f_40, .int .u32 x.f_41, .int .u32 x.f_42, .int .u32 x.f_43, .int .u32 x.f_44, .int .u32 x.f_45, .int .u32 x.f_46, .int .u32 x.f_47, .int .u32 x.f_48, .int .u32 x.f_49, .int .u32 x.f_50, .int .u32 x.f_51, .int .u32 x.f_52, .int .u32 x.f_53, .int .u32 x.f_54, .int .u32 x.f_55, .int .u32 x.f_56, .int .u32 x.f_57, .int .u32 x.f_58, .int .u32 x.f_59, .int .u32 x.f_60, .int .u32 x.f_61, .int .u32 x.f_62, .int .u32 x.f_63]
end Go.Abs
end
end
section
section
set_option maxRecDepth 100000
set_option maxHeartbeats 0
namespace Go.Abs
open Go Go.Proofs IntKind
variable {mx:Int}
def vz (n:Nat):Option zf:=
 some (zf.mk (zh.mk 0 0 0 0 0 0 0 0) ([]:List Int) 0)
theorem ph {n:Nat} {r:zf}:vz n  =some r→AC mx 384 [] [] (qp 0) [zf.cells r]:=by
 delta vz
 exact fnL Tryz.func384 rfl<|rgL<|rgL<|xj<|rJ A0
def xe (n:Nat):Option zh:=
 some (zh.mk 1779033703 3144134277 1013904242 2773480762 1359893119 2600822924 528734635 1541459225)
theorem uz {n:Nat} {r:zh}:xe n  =some r→AC mx 390 [] [] (.agg (zh.cells r)) []:=by
 delta xe
 exact fnL Tryz.func390 rfl<|rgL<|rgL<|xj<|rJ A4
def zQ (n:Nat)(a0 a1:Int):Option Int:=
 (Yi .u32 a0 a1).bind fun x1=>
 (PE .u32 a0 (wrap .u64 ((32:Int)-a1))).bind fun x2=>
 some (ior .u32 x1 x2)
theorem ye {n:Nat} {a0:Int} {a1:Int} {r:Int}:zQ n a0 a1=some r→AC mx 393 [.int .u32 a0, .int .u64 a1] [] (.int .u32 r) []:=by
 delta zQ
 exact fnL Tryz.func393 rfl<|rgL<|bEL fun x1 hx1=>bEL fun x2 hx2=>rCL (kPL 2 (Jq (k:= .u32) (d:=(tyT 284).d) (k':= .u64) hx1)<|kPL 6 (oQ (k:= .u32) (d:=(tyT 284).d) (k':= .u64) hx2) edL)<|xj<|rJ J
def wI (n:Nat):Option qD:=
 some (qD.mk 1116352408 1899447441 3049323471 3921009573 961987163 1508970993 2453635748 2870763221 3624381080 310598401 607225278 1426881987 1925078388 2162078206 2614888103 3248222580 3835390401 4022224774 264347078 604807628 770255983 1249150122 1555081692 1996064986 2554220882 2821834349 2952996808 3210313671 3336571891 3584528711 113926993 338241895 666307205 773529912 1294757372 1396182291 1695183700 1986661051 2177026350 2456956037 2730485921 2820302411 3259730800 3345764771 3516065817 3600352804 4094571909 275423344 430227734 506948616 659060556 883997877 958139571 1322822218 1537002063 1747873779 1955562222 2024104815 2227730452 2361852424 2428436474 2756734187 3204031479 3329325298)
theorem gX {n:Nat} {r:qD}:wI n  =some r→AC mx 394 [] [] (.agg (qD.cells r)) []:=by
 delta wI
 exact fnL Tryz.func394 rfl<|rgL<|q7 (Wk.asBuf 0 (List.map (vI .u32) (List.replicate 64 (0:Int))) O4 O4 O1)<|rgL<|xj<|rJ A4
def zK (n:Nat)(a1:List Int):Nat→Int→(List Int)→Option (List Int)
 |0,_,_=>none
 | k+1,v54,v55=>
  if(decide (v54<16))=true then((xW a1 (wrap .i64 ((4:Int)*v54))).bind fun x74=>
  (xW a1 (wrap .i64 ((wrap .i64 ((4:Int)*v54))+1))).bind fun x75=>
  (xW a1 (wrap .i64 ((wrap .i64 ((4:Int)*v54))+2))).bind fun x76=>
  (xW a1 (wrap .i64 ((wrap .i64 ((4:Int)*v54))+3))).bind fun x77=>
  (wZ 64 v54).bind fun x78=>
  (gA v55 (0+x78*1) (ior .u32 (ior .u32 (ior .u32 (wrap .u32 ((wrap .u32 x74)*16777216)) (wrap .u32 ((wrap .u32 x75)*65536))) (wrap .u32 ((wrap .u32 x76)*256))) (wrap .u32 x77))).bind fun x79=>
  zK n a1 k (wrap .i64 (v54+1)) x79)else(some v55)
def zM (n:Nat):Nat→Int→(List Int)→Option (List Int)
 |0,_,_=>none
 | k+1,v261,v262=>
  if(decide (v261<64))=true then((wZ 64 (wrap .i64 (v261-15))).bind fun x329=>
  ((v262)[(0+x329*1)]?).bind fun x330=>
  (wZ 64 (wrap .i64 (v261-15))).bind fun x331=>
  ((v262)[(0+x331*1)]?).bind fun x332=>
  (wZ 64 (wrap .i64 (v261-15))).bind fun x333=>
  ((v262)[(0+x333*1)]?).bind fun x334=>
  (zQ n x330 7).bind fun r335=>
  (zQ n x332 18).bind fun r336=>
  (wZ 64 (wrap .i64 (v261-2))).bind fun x337=>
  ((v262)[(0+x337*1)]?).bind fun x338=>
  (wZ 64 (wrap .i64 (v261-2))).bind fun x339=>
  ((v262)[(0+x339*1)]?).bind fun x340=>
  (wZ 64 (wrap .i64 (v261-2))).bind fun x341=>
  ((v262)[(0+x341*1)]?).bind fun x342=>
  (zQ n x338 17).bind fun r343=>
  (zQ n x340 19).bind fun r344=>
  (wZ 64 (wrap .i64 (v261-16))).bind fun x345=>
  ((v262)[(0+x345*1)]?).bind fun x346=>
  (wZ 64 (wrap .i64 (v261-7))).bind fun x347=>
  ((v262)[(0+x347*1)]?).bind fun x348=>
  (wZ 64 v261).bind fun x349=>
  (gA v262 (0+x349*1) (wrap .u32 ((wrap .u32 ((wrap .u32 (x346+(zE .u32 (zE .u32 r335 r336) (Int.fdiv x334 8))))+x348))+(zE .u32 (zE .u32 r343 r344) (Int.fdiv x342 1024))))).bind fun x350=>
  zM n k (wrap .i64 (v261+1)) x350)else(some v262)
def zS (n:Nat)(r351:qD)(y215:List Int):Nat→Int→Int→Int→Int→Int→Int→Int→Int→Int→Option (Int×Int×Int×Int×Int×Int×Int×Int)
 |0,_,_,_,_,_,_,_,_,_=>none
 | k+1,v451,v452,v453,v454,v455,v456,v457,v458,v459=>
  if(decide (v451<64))=true then((zQ n v456 6).bind fun r490=>
  (zQ n v456 11).bind fun r491=>
  (zQ n v456 25).bind fun r492=>
  (wZ 64 v451).bind fun x493=>
  ((([r351.f_0,r351.f_1,r351.f_2,r351.f_3,r351.f_4,r351.f_5,r351.f_6,r351.f_7,r351.f_8,r351.f_9,r351.f_10,r351.f_11,r351.f_12,r351.f_13,r351.f_14,r351.f_15,r351.f_16,r351.f_17,r351.f_18,r351.f_19,r351.f_20,r351.f_21,r351.f_22,r351.f_23,r351.f_24,r351.f_25,r351.f_26,r351.f_27,r351.f_28,r351.f_29,r351.f_30,r351.f_31,r351.f_32,r351.f_33,r351.f_34,r351.f_35,r351.f_36,r351.f_37,r351.f_38,r351.f_39,r351.f_40,r351.f_41,r351.f_42,r351.f_43,r351.f_44,r351.f_45,r351.f_46,r351.f_47,r351.f_48,r351.f_49,r351.f_50,r351.f_51,r351.f_52,r351.f_53,r351.f_54,r351.f_55,r351.f_56,r351.f_57,r351.f_58,r351.f_59,r351.f_60,r351.f_61,r351.f_62,r351.f_63]:List Int))[(0+x493*1)]?).bind fun x494=>
  (wZ 64 v451).bind fun x495=>
  ((y215)[(0+x495*1)]?).bind fun x496=>
  (zQ n v452 2).bind fun r497=>
  (zQ n v452 13).bind fun r498=>
  (zQ n v452 22).bind fun r499=>
  zS n r351 y215 k (wrap .i64 (v451+1)) (wrap .u32 ((wrap .u32 ((wrap .u32 ((wrap .u32 ((wrap .u32 ((wrap .u32 (v459+(zE .u32 (zE .u32 r490 r491) r492)))+(zE .u32 (xC .u32 v456 v457) (xC .u32 (zE .u32 4294967295 v456) v458))))+x494))+x496))+(zE .u32 (zE .u32 r497 r498) r499)))+(zE .u32 (zE .u32 (xC .u32 v452 v453) (xC .u32 v452 v454)) (xC .u32 v453 v454)))) v452 v453 v454 (wrap .u32 (v455+(wrap .u32 ((wrap .u32 ((wrap .u32 ((wrap .u32 (v459+(zE .u32 (zE .u32 r490 r491) r492)))+(zE .u32 (xC .u32 v456 v457) (xC .u32 (zE .u32 4294967295 v456) v458))))+x494))+x496)))) v456 v457 v458)else(some (v452,v453,v454,v455,v456,v457,v458,v459))
def zV (n:Nat)(a0:zh)(a1:List Int):Option zh:=
 (zK n a1 n 0 (List.replicate 64 (0:Int))).bind fun y40=>
 (zM n  n 16 y40).bind fun y215=>
 (wI n).bind fun r351=>
 (zS n r351 y215 n 0 a0.f_0 a0.f_1 a0.f_2 a0.f_3 a0.f_4 a0.f_5 a0.f_6 a0.f_7).bind fun y429=>
 some (zh.mk (wrap .u32 (y429.1+a0.f_0)) (wrap .u32 (y429.2.1+a0.f_1)) (wrap .u32 (y429.2.2.1+a0.f_2)) (wrap .u32 (y429.2.2.2.1+a0.f_3)) (wrap .u32 (y429.2.2.2.2.1+a0.f_4)) (wrap .u32 (y429.2.2.2.2.2.1+a0.f_5)) (wrap .u32 (y429.2.2.2.2.2.2.1+a0.f_6)) (wrap .u32 (y429.2.2.2.2.2.2.2+a0.f_7)))
theorem wS {n:Nat} {a0:zh} {a1:(List Int)} {r:zh}:zV n a0 a1=some r→AC mx 391 [.agg (zh.cells a0),ql 1 (cI .u8) a1] [] (.agg (zh.cells r)) []:=by
 delta zV
 exact fnL Tryz.func391 rfl<|rgL<|rgL<|q7 (Wk.asBuf 2 (List.map (vI .u32) (List.replicate 64 (0:Int))) O4 O4 O1)<|rgL<|blL (fun y40=>⟨217,[(2,qp 0),(4,qp 1),(5,qp 2)]⟩) (fun y40=>⟨[zh.cells a0,[.int .u32 0, .int .u32 0, .int .u32 0, .int .u32 0, .int .u32 0, .int .u32 0, .int .u32 0, .int .u32 0],[.buf (List.map (vI .u32) y40)]],[]⟩) (fun y40=>lpL (fun k x=>zK n a1 k x.1 x.2) (0,List.replicate 64 (0:Int)) A1 (fun x=>⟨217,[(1,ql 1 (cI .u8) a1),(2,qp 0),(4,qp 1),(5,qp 2),(6,qi x.1)]⟩) (fun x=>⟨[zh.cells a0,[.int .u32 0, .int .u32 0, .int .u32 0, .int .u32 0, .int .u32 0, .int .u32 0, .int .u32 0, .int .u32 0],[.buf (List.map (vI .u32) x.2)]],[]⟩) fun k x=>by obtain⟨v54,v55⟩:=x; rw [zK]; exact rgL<|bFL (zx<|bEL fun x74 hx74=>bEL fun x75 hx75=>bEL fun x76 hx76=>bEL fun x77 hx77=>bEL fun x78 hx78=>bEL fun x79 hx79=>lfL (fun z=>zmN zF [0,1,2,3,4,5,6,7,8,9,10,11,12,13,14,15,16,17,18,19,20,21,22,23,24,25,26,27,28,29,30,31,32,33,34,35] [35] [[],[],[],[2],[1,2,3],[1,2,3,4],[1,2,3,4,5],[1,2,3,4,5,6],[],[],[9],[9,10],[8,9,10,11],[8,9,10,11,12],[8,9,10,11,12,13],[8,9,10,11,12,13,14],[1,2,3,4,5,6,7,8,9,10,11,12,13,14,15],[],[],[18],[18,19],[17,18,19,20],[17,18,19,20,21],[17,18,19,20,21,22],[17,18,19,20,21,22,23],[1,2,3,4,5,6,7,8,9,10,11,12,13,14,15,16,17,18,19,20,21,22,23,24],[],[],[27],[27,28],[26,27,28,29],[26,27,28,29,30],[26,27,28,29,30,31],[1,2,3,4,5,6,7,8,9,10,11,12,13,14,15,16,17,18,19,20,21,22,23,24,25,26,27,28,29,30,31,32],[0,1,2,3,4,5,6,7,8,9,10,11,12,13,14,15,16,17,18,19,20,21,22,23,24,25,26,27,28,29,30,31,32,33],[0,1,2,3,4,5,6,7,8,9,10,11,12,13,14,15,16,17,18,19,20,21,22,23,24,25,26,27,28,29,30,31,32,33,34]] [1] [(2,qp 0),(4,qp 1),(5,qp 2),(6,qi v54)] ⟨[zh.cells a0,[.int .u32 0, .int .u32 0, .int .u32 0, .int .u32 0, .int .u32 0, .int .u32 0, .int .u32 0, .int .u32 0],[.buf (List.map (vI .u32) x79)]],[]⟩ (dS [0,1,2,3]<|dP (yE (c:=(cI .u8)) (e:=5) (sz:=1) (b:=1) (tok:= .none) hx74)<|dS [5,6,7,8,9,10,11]<|dP (yE (c:=(cI .u8)) (e:=5) (sz:=1) (b:=1) (tok:= .none) hx75)<|dS [13,14,15,16,17,18,19,20]<|dP (yE (c:=(cI .u8)) (e:=5) (sz:=1) (b:=1) (tok:= .none) hx76)<|dS [22,23,24,25,26,27,28,29]<|dP (yE (c:=(cI .u8)) (e:=5) (sz:=1) (b:=1) (tok:= .none) hx77)<|dS [31,32,33]<|dP (zT (id:=2) (off:=0) (sz:=1) hx78)<|dV (zD 34 (zT (id:=2) (off:=0) (sz:=1) hx78) (zD 30 (yE (c:=(cI .u8)) (e:=5) (sz:=1) (b:=1) (tok:= .none) hx77) (zD 21 (yE (c:=(cI .u8)) (e:=5) (sz:=1) (b:=1) (tok:= .none) hx76) (zD 12 (yE (c:=(cI .u8)) (e:=5) (sz:=1) (b:=1) (tok:= .none) hx75) (zD 4 (yE (c:=(cI .u8)) (e:=5) (sz:=1) (b:=1) (tok:= .none) hx74) xk))))) 3 0 2 (jw (T:=tyT) (t:=284) (c:=(vI .u32)) (l:=v55) (off:=(0+x78*1)) (x:=ior .u32 (ior .u32 (ior .u32 (wrap .u32 ((wrap .u32 x74)*16777216)) (wrap .u32 ((wrap .u32 x75)*65536))) (wrap .u32 ((wrap .u32 x76)*256))) (wrap .u32 x77)) (uI .u32) O4 hx79)<|dE A1) z)<|zC<|wj yn fun h=>⟨(wrap .i64 (v54+1),x79),h,wk A1⟩)<|yV<|yv<|yM<|jnL A1) fun y40=>rgL<|blL (fun y215=>⟨217,[(2,qp 0),(4,qp 1),(5,qp 2)]⟩) (fun y215=>⟨[zh.cells a0,[.int .u32 0, .int .u32 0, .int .u32 0, .int .u32 0, .int .u32 0, .int .u32 0, .int .u32 0, .int .u32 0],[.buf (List.map (vI .u32) y215)]],[]⟩) (fun y215=>lpL (fun k x=>zM n  k x.1 x.2) (16,y40) A1 (fun x=>⟨217,[(2,qp 0),(4,qp 1),(5,qp 2),(7,qi x.1)]⟩) (fun x=>⟨[zh.cells a0,[.int .u32 0, .int .u32 0, .int .u32 0, .int .u32 0, .int .u32 0, .int .u32 0, .int .u32 0, .int .u32 0],[.buf (List.map (vI .u32) x.2)]],[]⟩) fun k x=>by obtain⟨v261,v262⟩:=x; rw [zM]; exact rgL<|bFL (zx<|bEL fun x329 hx329=>bEL fun x330 hx330=>bEL fun x331 hx331=>bEL fun x332 hx332=>bEL fun x333 hx333=>bEL fun x334 hx334=>bEL fun r335 hr335=>bEL fun r336 hr336=>lfL (fun z=>zs [0,1,2,3,5,6,7,8,11,12,13,14,15,4,9,10,16,17] [4,9] [[],[0],[0,1],[0,1,2],[0,1,2,3],[],[5],[5,6],[5,6,7],[0,1,2,3,4,5,6,7,8],[0,1,2,3,4,5,6,7,8,9],[],[11],[11,12],[11,12,13],[11,12,13,14],[0,1,2,3,4,5,6,7,8,9,10,11,12,13,14,15],[0,1,2,3,4,5,6,7,8,9,10,11,12,13,14,15,16]] [7] [(2,qp 0),(4,qp 1),(5,qp 2),(8, .int .u32 (zE .u32 (zE .u32 r335 r336) (Int.fdiv x334 8)))] (dS [0,1]<|dP (zT (id:=2) (off:=0) (sz:=1) hx329)<|dP (zR (c:=(vI .u32)) (l:=v262) (off:=(0+x329*1)) hx330)<|dS [5,6]<|dP (zT (id:=2) (off:=0) (sz:=1) hx331)<|dP (zR (c:=(vI .u32)) (l:=v262) (off:=(0+x331*1)) hx332)<|dS [11,12]<|dP (zT (id:=2) (off:=0) (sz:=1) hx333)<|dP (zR (c:=(vI .u32)) (l:=v262) (off:=(0+x333*1)) hx334)<|dS [15]<|dC (zD 14 (zR (c:=(vI .u32)) (l:=v262) (off:=(0+x333*1)) hx334) (zD 13 (zT (id:=2) (off:=0) (sz:=1) hx333) (zD 8 (zR (c:=(vI .u32)) (l:=v262) (off:=(0+x331*1)) hx332) (zD 7 (zT (id:=2) (off:=0) (sz:=1) hx331) (zD 3 (zR (c:=(vI .u32)) (l:=v262) (off:=(0+x329*1)) hx330) (zD 2 (zT (id:=2) (off:=0) (sz:=1) hx329) xk)))))) A5 (ye hr335)<|dC (zD 14 (zR (c:=(vI .u32)) (l:=v262) (off:=(0+x333*1)) hx334) (zD 13 (zT (id:=2) (off:=0) (sz:=1) hx333) (zD 8 (zR (c:=(vI .u32)) (l:=v262) (off:=(0+x331*1)) hx332) (zD 7 (zT (id:=2) (off:=0) (sz:=1) hx331) (zD 3 (zR (c:=(vI .u32)) (l:=v262) (off:=(0+x329*1)) hx330) (zD 2 (zT (id:=2) (off:=0) (sz:=1) hx329) xk)))))) A5 (ye hr336)<|dS [10,16,17]<|dE A1) z)<|bEL fun x337 hx337=>bEL fun x338 hx338=>bEL fun x339 hx339=>bEL fun x340 hx340=>bEL fun x341 hx341=>bEL fun x342 hx342=>bEL fun r343 hr343=>bEL fun r344 hr344=>lfL (fun z=>zs [0,1,2,3,5,6,7,8,11,12,13,14,15,4,9,10,16,17] [4,9] [[],[0],[0,1],[0,1,2],[0,1,2,3],[],[5],[5,6],[5,6,7],[0,1,2,3,4,5,6,7,8],[0,1,2,3,4,5,6,7,8,9],[],[11],[11,12],[11,12,13],[11,12,13,14],[0,1,2,3,4,5,6,7,8,9,10,11,12,13,14,15],[0,1,2,3,4,5,6,7,8,9,10,11,12,13,14,15,16]] [7,8] [(2,qp 0),(4,qp 1),(5,qp 2),(9, .int .u32 (zE .u32 (zE .u32 r343 r344) (Int.fdiv x342 1024)))] (dS [0,1]<|dP (zT (id:=2) (off:=0) (sz:=1) hx337)<|dP (zR (c:=(vI .u32)) (l:=v262) (off:=(0+x337*1)) hx338)<|dS [5,6]<|dP (zT (id:=2) (off:=0) (sz:=1) hx339)<|dP (zR (c:=(vI .u32)) (l:=v262) (off:=(0+x339*1)) hx340)<|dS [11,12]<|dP (zT (id:=2) (off:=0) (sz:=1) hx341)<|dP (zR (c:=(vI .u32)) (l:=v262) (off:=(0+x341*1)) hx342)<|dS [15]<|dC (zD 14 (zR (c:=(vI .u32)) (l:=v262) (off:=(0+x341*1)) hx342) (zD 13 (zT (id:=2) (off:=0) (sz:=1) hx341) (zD 8 (zR (c:=(vI .u32)) (l:=v262) (off:=(0+x339*1)) hx340) (zD 7 (zT (id:=2) (off:=0) (sz:=1) hx339) (zD 3 (zR (c:=(vI .u32)) (l:=v262) (off:=(0+x337*1)) hx338) (zD 2 (zT (id:=2) (off:=0) (sz:=1) hx337) xk)))))) A5 (ye hr343)<|dC (zD 14 (zR (c:=(vI .u32)) (l:=v262) (off:=(0+x341*1)) hx342) (zD 13 (zT (id:=2) (off:=0) (sz:=1) hx341) (zD 8 (zR (c:=(vI .u32)) (l:=v262) (off:=(0+x339*1)) hx340) (zD 7 (zT (id:=2) (off:=0) (sz:=1) hx339) (zD 3 (zR (c:=(vI .u32)) (l:=v262) (off:=(0+x337*1)) hx338) (zD 2 (zT (id:=2) (off:=0) (sz:=1) hx337) xk)))))) A5 (ye hr344)<|dS [10,16,17]<|dE A1) z)<|bEL fun x345 hx345=>bEL fun x346 hx346=>bEL fun x347 hx347=>bEL fun x348 hx348=>bEL fun x349 hx349=>bEL fun x350 hx350=>lfL (fun z=>zmN zF [0,1,2,3,4,5,6,7,8,9,10,11,12,13,14,15] [15] [[],[],[1],[1,2],[1,2,3],[],[1,2,3,4,5],[],[7],[7,8],[7,8,9],[1,2,3,4,5,6,7,8,9,10],[],[1,2,3,4,5,6,7,8,9,10,11,12],[0,1,2,3,4,5,6,7,8,9,10,11,12,13],[0,1,2,3,4,5,6,7,8,9,10,11,12,13,14]] [7] [(2,qp 0),(4,qp 1),(5,qp 2)] ⟨[zh.cells a0,[.int .u32 0, .int .u32 0, .int .u32 0, .int .u32 0, .int .u32 0, .int .u32 0, .int .u32 0, .int .u32 0],[.buf (List.map (vI .u32) x350)]],[]⟩ (dS [0,1,2]<|dP (zT (id:=2) (off:=0) (sz:=1) hx345)<|dP (zR (c:=(vI .u32)) (l:=v262) (off:=(0+x345*1)) hx346)<|dS [5,6,7,8]<|dP (zT (id:=2) (off:=0) (sz:=1) hx347)<|dP (zR (c:=(vI .u32)) (l:=v262) (off:=(0+x347*1)) hx348)<|dS [11,12,13]<|dP (zT (id:=2) (off:=0) (sz:=1) hx349)<|dV (zD 14 (zT (id:=2) (off:=0) (sz:=1) hx349) (zD 10 (zR (c:=(vI .u32)) (l:=v262) (off:=(0+x347*1)) hx348) (zD 9 (zT (id:=2) (off:=0) (sz:=1) hx347) (zD 4 (zR (c:=(vI .u32)) (l:=v262) (off:=(0+x345*1)) hx346) (zD 3 (zT (id:=2) (off:=0) (sz:=1) hx345) xk))))) 3 0 2 (jw (T:=tyT) (t:=284) (c:=(vI .u32)) (l:=v262) (off:=(0+x349*1)) (x:=wrap .u32 ((wrap .u32 ((wrap .u32 (x346+(zE .u32 (zE .u32 r335 r336) (Int.fdiv x334 8))))+x348))+(zE .u32 (zE .u32 r343 r344) (Int.fdiv x342 1024)))) (uI .u32) O4 hx350)<|dE A1) z)<|zC<|wj yn fun h=>⟨(wrap .i64 (v261+1),x350),h,wk A1⟩)<|yV<|yv<|yM<|jnL A1) fun y215=>bEL fun r351 hr351=>rCL (kCL 0 A5 (gX hr351) edL)<|q7 (Wk.asBuf 3 (List.map (vI .u32) (([r351.f_0,r351.f_1,r351.f_2,r351.f_3,r351.f_4,r351.f_5,r351.f_6,r351.f_7,r351.f_8,r351.f_9,r351.f_10,r351.f_11,r351.f_12,r351.f_13,r351.f_14,r351.f_15,r351.f_16,r351.f_17,r351.f_18,r351.f_19,r351.f_20,r351.f_21,r351.f_22,r351.f_23,r351.f_24,r351.f_25,r351.f_26,r351.f_27,r351.f_28,r351.f_29,r351.f_30,r351.f_31,r351.f_32,r351.f_33,r351.f_34,r351.f_35,r351.f_36,r351.f_37,r351.f_38,r351.f_39,r351.f_40,r351.f_41,r351.f_42,r351.f_43,r351.f_44,r351.f_45,r351.f_46,r351.f_47,r351.f_48,r351.f_49,r351.f_50,r351.f_51,r351.f_52,r351.f_53,r351.f_54,r351.f_55,r351.f_56,r351.f_57,r351.f_58,r351.f_59,r351.f_60,r351.f_61,r351.f_62,r351.f_63]:List Int))) O4 O4 (Nat.zero_lt_succ _))<|rgL<|rgL<|blL (fun y429=>⟨217,[(2,qp 0),(4,qp 1),(11,qp 2)]⟩) (fun y429=>⟨[zh.cells a0,[.int .u32 0, .int .u32 0, .int .u32 0, .int .u32 0, .int .u32 0, .int .u32 0, .int .u32 0, .int .u32 0],[.int .u32 y429.1, .int .u32 y429.2.1, .int .u32 y429.2.2.1, .int .u32 y429.2.2.2.1, .int .u32 y429.2.2.2.2.1, .int .u32 y429.2.2.2.2.2.1, .int .u32 y429.2.2.2.2.2.2.1, .int .u32 y429.2.2.2.2.2.2.2]],[]⟩) (fun y429=>lpL (fun k x=>zS n r351 y215 k x.1 x.2.1 x.2.2.1 x.2.2.2.1 x.2.2.2.2.1 x.2.2.2.2.2.1 x.2.2.2.2.2.2.1 x.2.2.2.2.2.2.2.1 x.2.2.2.2.2.2.2.2) (0,a0.f_0,a0.f_1,a0.f_2,a0.f_3,a0.f_4,a0.f_5,a0.f_6,a0.f_7) A7 (fun x=>⟨217,[(2,qp 0),(4,qp 1),(5,qp 2),(10,qp 3),(11,qp 4),(12,qi x.1)]⟩) (fun x=>⟨[zh.cells a0,[.int .u32 0, .int .u32 0, .int .u32 0, .int .u32 0, .int .u32 0, .int .u32 0, .int .u32 0, .int .u32 0],[.buf (List.map (vI .u32) y215)],[.buf (List.map (vI .u32) ([r351.f_0,r351.f_1,r351.f_2,r351.f_3,r351.f_4,r351.f_5,r351.f_6,r351.f_7,r351.f_8,r351.f_9,r351.f_10,r351.f_11,r351.f_12,r351.f_13,r351.f_14,r351.f_15,r351.f_16,r351.f_17,r351.f_18,r351.f_19,r351.f_20,r351.f_21,r351.f_22,r351.f_23,r351.f_24,r351.f_25,r351.f_26,r351.f_27,r351.f_28,r351.f_29,r351.f_30,r351.f_31,r351.f_32,r351.f_33,r351.f_34,r351.f_35,r351.f_36,r351.f_37,r351.f_38,r351.f_39,r351.f_40,r351.f_41,r351.f_42,r351.f_43,r351.f_44,r351.f_45,r351.f_46,r351.f_47,r351.f_48,r351.f_49,r351.f_50,r351.f_51,r351.f_52,r351.f_53,r351.f_54,r351.f_55,r351.f_56,r351.f_57,r351.f_58,r351.f_59,r351.f_60,r351.f_61,r351.f_62,r351.f_63]:List Int))],[.int .u32 x.2.1, .int .u32 x.2.2.1, .int .u32 x.2.2.2.1, .int .u32 x.2.2.2.2.1, .int .u32 x.2.2.2.2.2.1, .int .u32 x.2.2.2.2.2.2.1, .int .u32 x.2.2.2.2.2.2.2.1, .int .u32 x.2.2.2.2.2.2.2.2]],[]⟩) fun k x=>by obtain⟨v451,v452,v453,v454,v455,v456,v457,v458,v459⟩:=x; rw [zS]; exact rgL<|bFL (zx<|bEL fun r490 hr490=>bEL fun r491 hr491=>bEL fun r492 hr492=>lfL (fun z=>zs [0,1,3,4,7,8,2,5,6,9,10,11] [2,5,9] [[],[0],[0,1],[],[3],[0,1,2,3,4],[0,1,2,3,4,5],[],[7],[0,1,2,3,4,5,7,8],[0,1,2,3,4,5,6,7,8,9],[0,1,2,3,4,5,6,7,8,9,10]] [12] [(2,qp 0),(4,qp 1),(5,qp 2),(10,qp 3),(11,qp 4),(13, .int .u32 (zE .u32 (zE .u32 r490 r491) r492))] (dS [0,1,3,4,7,8]<|dC xk A6 (ye hr490)<|dC xk A6 (ye hr491)<|dS [6]<|dC xk A6 (ye hr492)<|dS [10,11]<|dE A7) z)<|rgL<|bEL fun x493 hx493=>bEL fun x494 hx494=>bEL fun x495 hx495=>bEL fun x496 hx496=>lfL (fun z=>zs [0,1,2,3,4,5,6,7,8,9,10,11,12,13,14] [] [[],[0],[],[0,1,2],[],[0,1,2,3,4],[],[6],[6,7],[0,1,2,3,4,5,6,7,8],[],[10],[10,11],[0,1,2,3,4,5,6,7,8,9,10,11,12],[0,1,2,3,4,5,6,7,8,9,10,11,12,13]] [12] [(2,qp 0),(4,qp 1),(5,qp 2),(10,qp 3),(11,qp 4),(15, .int .u32 (wrap .u32 ((wrap .u32 ((wrap .u32 ((wrap .u32 (v459+(zE .u32 (zE .u32 r490 r491) r492)))+(zE .u32 (xC .u32 v456 v457) (xC .u32 (zE .u32 4294967295 v456) v458))))+x494))+x496)))] (dS [0,1,2,3,4,5,6]<|dP (zT (id:=3) (off:=0) (sz:=1) hx493)<|dP (zR (c:=(vI .u32)) (l:=([r351.f_0,r351.f_1,r351.f_2,r351.f_3,r351.f_4,r351.f_5,r351.f_6,r351.f_7,r351.f_8,r351.f_9,r351.f_10,r351.f_11,r351.f_12,r351.f_13,r351.f_14,r351.f_15,r351.f_16,r351.f_17,r351.f_18,r351.f_19,r351.f_20,r351.f_21,r351.f_22,r351.f_23,r351.f_24,r351.f_25,r351.f_26,r351.f_27,r351.f_28,r351.f_29,r351.f_30,r351.f_31,r351.f_32,r351.f_33,r351.f_34,r351.f_35,r351.f_36,r351.f_37,r351.f_38,r351.f_39,r351.f_40,r351.f_41,r351.f_42,r351.f_43,r351.f_44,r351.f_45,r351.f_46,r351.f_47,r351.f_48,r351.f_49,r351.f_50,r351.f_51,r351.f_52,r351.f_53,r351.f_54,r351.f_55,r351.f_56,r351.f_57,r351.f_58,r351.f_59,r351.f_60,r351.f_61,r351.f_62,r351.f_63]:List Int)) (off:=(0+x493*1)) hx494)<|dS [9,10]<|dP (zT (id:=2) (off:=0) (sz:=1) hx495)<|dP (zR (c:=(vI .u32)) (l:=y215) (off:=(0+x495*1)) hx496)<|dS [13,14]<|dE A7) z)<|bEL fun r497 hr497=>bEL fun r498 hr498=>bEL fun r499 hr499=>lfL (fun z=>zs [0,1,3,4,7,8,2,5,6,9,10,11] [2,5,9] [[],[0],[0,1],[],[3],[0,1,2,3,4],[0,1,2,3,4,5],[],[7],[0,1,2,3,4,5,7,8],[0,1,2,3,4,5,6,7,8,9],[0,1,2,3,4,5,6,7,8,9,10]] [12,15] [(2,qp 0),(4,qp 1),(5,qp 2),(10,qp 3),(11,qp 4),(16, .int .u32 (zE .u32 (zE .u32 r497 r498) r499))] (dS [0,1,3,4,7,8]<|dC xk A6 (ye hr497)<|dC xk A6 (ye hr498)<|dS [6]<|dC xk A6 (ye hr499)<|dS [10,11]<|dE A7) z)<|rgL<|wj zF<|zC<|wj yn fun h=>⟨(wrap .i64 (v451+1),wrap .u32 ((wrap .u32 ((wrap .u32 ((wrap .u32 ((wrap .u32 ((wrap .u32 (v459+(zE .u32 (zE .u32 r490 r491) r492)))+(zE .u32 (xC .u32 v456 v457) (xC .u32 (zE .u32 4294967295 v456) v458))))+x494))+x496))+(zE .u32 (zE .u32 r497 r498) r499)))+(zE .u32 (zE .u32 (xC .u32 v452 v453) (xC .u32 v452 v454)) (xC .u32 v453 v454))),v452,v453,v454,wrap .u32 (v455+(wrap .u32 ((wrap .u32 ((wrap .u32 ((wrap .u32 (v459+(zE .u32 (zE .u32 r490 r491) r492)))+(zE .u32 (xC .u32 v456 v457) (xC .u32 (zE .u32 4294967295 v456) v458))))+x494))+x496))),v456,v457,v458),h,wk A7⟩)<|yV<|yv<|yM<|jnL ⟨[0,1,4],5,[],0⟩) fun y429=>rgL<|zx<|q7 (wk (fr':=⟨217,[(2,qp 0),(4,qp 1),(11,qp 2),(204,qi 0)]⟩) (st':=⟨[zh.cells a0,[.int .u32 0, .int .u32 0, .int .u32 0, .int .u32 0, .int .u32 0, .int .u32 0, .int .u32 0, .int .u32 0],[.int .u32 y429.1, .int .u32 y429.2.1, .int .u32 y429.2.2.1, .int .u32 y429.2.2.2.1, .int .u32 y429.2.2.2.2.1, .int .u32 y429.2.2.2.2.2.1, .int .u32 y429.2.2.2.2.2.2.1, .int .u32 y429.2.2.2.2.2.2.2]],[]⟩) A1)<|lfL (fun z=>VK 9 z)<|U2<|rgL<|bTL<|zx<|rgL<|lfL (fun z=>zmN zF [0,1,2,3,4,5,6,7,8] [8] [[],[0],[0,1],[],[3],[3,4],[0,1,2,3,4,5],[0,1,2,3,4,5,6],[0,1,2,3,4,5,6,7]] [] [(2,qp 0),(4,qp 1),(11,qp 2),(204,qi 0)] ⟨[zh.cells a0,[.int .u32 0, .int .u32 0, .int .u32 0, .int .u32 0, .int .u32 0, .int .u32 0, .int .u32 0, .int .u32 0],[.int .u32 (wrap .u32 (y429.1+a0.f_0)), .int .u32 y429.2.1, .int .u32 y429.2.2.1, .int .u32 y429.2.2.2.1, .int .u32 y429.2.2.2.2.1, .int .u32 y429.2.2.2.2.2.1, .int .u32 y429.2.2.2.2.2.2.1, .int .u32 y429.2.2.2.2.2.2.2]],[]⟩ (dS [0,1,2,3,4,5,6,7]<|dF xk<|dE A1) z)<|zC<|wj yU<|yB<|rgL<|bTL<|zx<|rgL<|lfL (fun z=>zmN zF [0,1,2,3,4,5,6,7,8] [8] [[],[0],[0,1],[],[3],[3,4],[0,1,2,3,4,5],[0,1,2,3,4,5,6],[0,1,2,3,4,5,6,7]] [] [(2,qp 0),(4,qp 1),(11,qp 2),(204,qi 1)] ⟨[zh.cells a0,[.int .u32 0, .int .u32 0, .int .u32 0, .int .u32 0, .int .u32 0, .int .u32 0, .int .u32 0, .int .u32 0],[.int .u32 (wrap .u32 (y429.1+a0.f_0)), .int .u32 (wrap .u32 (y429.2.1+a0.f_1)), .int .u32 y429.2.2.1, .int .u32 y429.2.2.2.1, .int .u32 y429.2.2.2.2.1, .int .u32 y429.2.2.2.2.2.1, .int .u32 y429.2.2.2.2.2.2.1, .int .u32 y429.2.2.2.2.2.2.2]],[]⟩ (dS [0,1,2,3,4,5,6,7]<|dF xk<|dE A1) z)<|zC<|wj yU<|yB<|rgL<|bTL<|zx<|rgL<|lfL (fun z=>zmN zF [0,1,2,3,4,5,6,7,8] [8] [[],[0],[0,1],[],[3],[3,4],[0,1,2,3,4,5],[0,1,2,3,4,5,6],[0,1,2,3,4,5,6,7]] [] [(2,qp 0),(4,qp 1),(11,qp 2),(204,qi 2)] ⟨[zh.cells a0,[.int .u32 0, .int .u32 0, .int .u32 0, .int .u32 0, .int .u32 0, .int .u32 0, .int .u32 0, .int .u32 0],[.int .u32 (wrap .u32 (y429.1+a0.f_0)), .int .u32 (wrap .u32 (y429.2.1+a0.f_1)), .int .u32 (wrap .u32 (y429.2.2.1+a0.f_2)), .int .u32 y429.2.2.2.1, .int .u32 y429.2.2.2.2.1, .int .u32 y429.2.2.2.2.2.1, .int .u32 y429.2.2.2.2.2.2.1, .int .u32 y429.2.2.2.2.2.2.2]],[]⟩ (dS [0,1,2,3,4,5,6,7]<|dF xk<|dE A1) z)<|zC<|wj yU<|yB<|rgL<|bTL<|zx<|rgL<|lfL (fun z=>zmN zF [0,1,2,3,4,5,6,7,8] [8] [[],[0],[0,1],[],[3],[3,4],[0,1,2,3,4,5],[0,1,2,3,4,5,6],[0,1,2,3,4,5,6,7]] [] [(2,qp 0),(4,qp 1),(11,qp 2),(204,qi 3)] ⟨[zh.cells a0,[.int .u32 0, .int .u32 0, .int .u32 0, .int .u32 0, .int .u32 0, .int .u32 0, .int .u32 0, .int .u32 0],[.int .u32 (wrap .u32 (y429.1+a0.f_0)), .int .u32 (wrap .u32 (y429.2.1+a0.f_1)), .int .u32 (wrap .u32 (y429.2.2.1+a0.f_2)), .int .u32 (wrap .u32 (y429.2.2.2.1+a0.f_3)), .int .u32 y429.2.2.2.2.1, .int .u32 y429.2.2.2.2.2.1, .int .u32 y429.2.2.2.2.2.2.1, .int .u32 y429.2.2.2.2.2.2.2]],[]⟩ (dS [0,1,2,3,4,5,6,7]<|dF xk<|dE A1) z)<|zC<|wj yU<|yB<|rgL<|bTL<|zx<|rgL<|lfL (fun z=>zmN zF [0,1,2,3,4,5,6,7,8] [8] [[],[0],[0,1],[],[3],[3,4],[0,1,2,3,4,5],[0,1,2,3,4,5,6],[0,1,2,3,4,5,6,7]] [] [(2,qp 0),(4,qp 1),(11,qp 2),(204,qi 4)] ⟨[zh.cells a0,[.int .u32 0, .int .u32 0, .int .u32 0, .int .u32 0, .int .u32 0, .int .u32 0, .int .u32 0, .int .u32 0],[.int .u32 (wrap .u32 (y429.1+a0.f_0)), .int .u32 (wrap .u32 (y429.2.1+a0.f_1)), .int .u32 (wrap .u32 (y429.2.2.1+a0.f_2)), .int .u32 (wrap .u32 (y429.2.2.2.1+a0.f_3)), .int .u32 (wrap .u32 (y429.2.2.2.2.1+a0.f_4)), .int .u32 y429.2.2.2.2.2.1, .int .u32 y429.2.2.2.2.2.2.1, .int .u32 y429.2.2.2.2.2.2.2]],[]⟩ (dS [0,1,2,3,4,5,6,7]<|dF xk<|dE A1) z)<|zC<|wj yU<|yB<|rgL<|bTL<|zx<|rgL<|lfL (fun z=>zmN zF [0,1,2,3,4,5,6,7,8] [8] [[],[0],[0,1],[],[3],[3,4],[0,1,2,3,4,5],[0,1,2,3,4,5,6],[0,1,2,3,4,5,6,7]] [] [(2,qp 0),(4,qp 1),(11,qp 2),(204,qi 5)] ⟨[zh.cells a0,[.int .u32 0, .int .u32 0, .int .u32 0, .int .u32 0, .int .u32 0, .int .u32 0, .int .u32 0, .int .u32 0],[.int .u32 (wrap .u32 (y429.1+a0.f_0)), .int .u32 (wrap .u32 (y429.2.1+a0.f_1)), .int .u32 (wrap .u32 (y429.2.2.1+a0.f_2)), .int .u32 (wrap .u32 (y429.2.2.2.1+a0.f_3)), .int .u32 (wrap .u32 (y429.2.2.2.2.1+a0.f_4)), .int .u32 (wrap .u32 (y429.2.2.2.2.2.1+a0.f_5)), .int .u32 y429.2.2.2.2.2.2.1, .int .u32 y429.2.2.2.2.2.2.2]],[]⟩ (dS [0,1,2,3,4,5,6,7]<|dF xk<|dE A1) z)<|zC<|wj yU<|yB<|rgL<|bTL<|zx<|rgL<|lfL (fun z=>zmN zF [0,1,2,3,4,5,6,7,8] [8] [[],[0],[0,1],[],[3],[3,4],[0,1,2,3,4,5],[0,1,2,3,4,5,6],[0,1,2,3,4,5,6,7]] [] [(2,qp 0),(4,qp 1),(11,qp 2),(204,qi 6)] ⟨[zh.cells a0,[.int .u32 0, .int .u32 0, .int .u32 0, .int .u32 0, .int .u32 0, .int .u32 0, .int .u32 0, .int .u32 0],[.int .u32 (wrap .u32 (y429.1+a0.f_0)), .int .u32 (wrap .u32 (y429.2.1+a0.f_1)), .int .u32 (wrap .u32 (y429.2.2.1+a0.f_2)), .int .u32 (wrap .u32 (y429.2.2.2.1+a0.f_3)), .int .u32 (wrap .u32 (y429.2.2.2.2.1+a0.f_4)), .int .u32 (wrap .u32 (y429.2.2.2.2.2.1+a0.f_5)), .int .u32 (wrap .u32 (y429.2.2.2.2.2.2.1+a0.f_6)), .int .u32 y429.2.2.2.2.2.2.2]],[]⟩ (dS [0,1,2,3,4,5,6,7]<|dF xk<|dE A1) z)<|zC<|wj yU<|yB<|rgL<|bTL<|zx<|rgL<|lfL (fun z=>zmN zF [0,1,2,3,4,5,6,7,8] [8] [[],[0],[0,1],[],[3],[3,4],[0,1,2,3,4,5],[0,1,2,3,4,5,6],[0,1,2,3,4,5,6,7]] [] [(2,qp 0),(4,qp 1),(11,qp 2),(204,qi 7)] ⟨[zh.cells a0,[.int .u32 0, .int .u32 0, .int .u32 0, .int .u32 0, .int .u32 0, .int .u32 0, .int .u32 0, .int .u32 0],[.int .u32 (wrap .u32 (y429.1+a0.f_0)), .int .u32 (wrap .u32 (y429.2.1+a0.f_1)), .int .u32 (wrap .u32 (y429.2.2.1+a0.f_2)), .int .u32 (wrap .u32 (y429.2.2.2.1+a0.f_3)), .int .u32 (wrap .u32 (y429.2.2.2.2.1+a0.f_4)), .int .u32 (wrap .u32 (y429.2.2.2.2.2.1+a0.f_5)), .int .u32 (wrap .u32 (y429.2.2.2.2.2.2.1+a0.f_6)), .int .u32 (wrap .u32 (y429.2.2.2.2.2.2.2+a0.f_7))]],[]⟩ (dS [0,1,2,3,4,5,6,7]<|dF xk<|dE A1) z)<|zC<|wj yU<|yB<|rgL<|bNL<|yV<|yv<|Vu<|rgL<|xj<|rJ A5
def z7 (n:Nat):Nat→(List Int)→Int→Int→Int→Int→Int→Int→Int→Int→Option ((List Int)×Int×Int×Int×Int×Int×Int×Int×Int)
 |0,_,_,_,_,_,_,_,_,_=>none
 | k+1,v61,v62,v63,v64,v65,v66,v67,v68,v69=>
  if(decide ((v61.length:Int)≥64))=true then((lsl v61 0 64).bind fun x79=>
  (zV n (zh.mk v62 v63 v64 v65 v66 v67 v68 v69) x79).bind fun r80=>
  (lsl v61 64 (v61.length)).bind fun x81=>
  z7 n k x81 r80.f_0 r80.f_1 r80.f_2 r80.f_3 r80.f_4 r80.f_5 r80.f_6 r80.f_7)else(some (v61,v62,v63,v64,v65,v66,v67,v68,v69))
def yd (n:Nat)(a1:Aa)(m0:zf):Option zf:=
 if(a1==([]:Aa))=true then(some (zf.mk (zh.mk m0.f_h.f_0 m0.f_h.f_1 m0.f_h.f_2 m0.f_h.f_3 m0.f_h.f_4 m0.f_h.f_5 m0.f_h.f_6 m0.f_h.f_7) m0.xq m0.f_n))else((if(m0.f_n==0)=true then((xe n).bind fun r12=>
 some (r12.f_0,r12.f_1,r12.f_2,r12.f_3,r12.f_4,r12.f_5,r12.f_6,r12.f_7))else(some (m0.f_h.f_0,m0.f_h.f_1,m0.f_h.f_2,m0.f_h.f_3,m0.f_h.f_4,m0.f_h.f_5,m0.f_h.f_6,m0.f_h.f_7))).bind fun y10=>
 (pH 1 m0.xq).bind fun x13=>
 (Ga 1 (x13.length) x13 (s2b a1)).bind fun x14=>
 ((YT ((x13.length)+List.length (s2b a1)) x14).bind fun x54=>
 z7 n  n x54 y10.1 y10.2.1 y10.2.2.1 y10.2.2.2.1 y10.2.2.2.2.1 y10.2.2.2.2.2.1 y10.2.2.2.2.2.2.1 y10.2.2.2.2.2.2.2).bind fun y52=>
 (pH 1 y52.1).bind fun x82=>
 (YT (x82.length) x82).bind fun x83=>
 some (zf.mk (zh.mk y52.2.1 y52.2.2.1 y52.2.2.2.1 y52.2.2.2.2.1 y52.2.2.2.2.2.1 y52.2.2.2.2.2.2.1 y52.2.2.2.2.2.2.2.1 y52.2.2.2.2.2.2.2.2) x83 (wrap .i64 (m0.f_n+(a1.length:Int)))))
theorem jE {n:Nat} {a1:Aa} {m0:zf} {r:zf}:yd n a1 m0=some r→AC mx 385 [qp 0,qs a1] [zf.cells m0] (.tuple []) [zf.cells r]:=by
 delta yd
 exact fnL Tryz.func385 rfl<|rgL<|bFL (xj<|rJ A0)<|rgL<|cuL (fun y10=>⟨56,[(0,qp 0),(1,qs a1)]⟩) (fun y10=>⟨[[.int .u32 y10.1, .int .u32 y10.2.1, .int .u32 y10.2.2.1, .int .u32 y10.2.2.2.1, .int .u32 y10.2.2.2.2.1, .int .u32 y10.2.2.2.2.2.1, .int .u32 y10.2.2.2.2.2.2.1, .int .u32 y10.2.2.2.2.2.2.2,ql 1 (cI .u8) m0.xq,qi m0.f_n]],[]⟩) (fun y10=>bFL (bEL fun r12 hr12=>uG yn (kCL 1 A4 (uz hr12) edL)<|jnL A0)<|jnL A0) fun y10=>rgL<|bEL fun x13 hx13=>bEL fun x14 hx14=>rCL (lfL (fun z=>kV 4 1 0 1 (Ka (T:=tyT) (c:=(vI .u8)) (l2:=m0.xq) (e:=5) (e2:=5) (bytes:=1) (b2:=1) (tok2:= .none) (cell:=none) O4 hx13) z)<|lfL (fun z=>kV 6 2 0 1 (fF (T:=tyT) (l:=x13) (s:=a1) (n:=x13.length) (e:=5) (bytes:=1) O4 hx14) z) edL)<|blL (fun y52=>⟨56,[(0,qp 0),(4,ql 1 (cI .u8) y52.1)]⟩) (fun y52=>⟨[[.int .u32 y52.2.1, .int .u32 y52.2.2.1, .int .u32 y52.2.2.2.1, .int .u32 y52.2.2.2.2.1, .int .u32 y52.2.2.2.2.2.1, .int .u32 y52.2.2.2.2.2.2.1, .int .u32 y52.2.2.2.2.2.2.2.1, .int .u32 y52.2.2.2.2.2.2.2.2,ql 1 (cI .u8) m0.xq,qi (wrap .i64 (m0.f_n+(a1.length:Int)))]],[]⟩) (fun y52=>bEL fun x54 hx54=>q7 (Wk.frz (c:=(vI .u8)) (l:=x14) 4 2 ((x13.length)+List.length (s2b a1)) hx54 O4)<|lpL (fun k x=>z7 n  k x.1 x.2.1 x.2.2.1 x.2.2.2.1 x.2.2.2.2.1 x.2.2.2.2.2.1 x.2.2.2.2.2.2.1 x.2.2.2.2.2.2.2.1 x.2.2.2.2.2.2.2.2) (x54,y10.1,y10.2.1,y10.2.2.1,y10.2.2.2.1,y10.2.2.2.2.1,y10.2.2.2.2.2.1,y10.2.2.2.2.2.2.1,y10.2.2.2.2.2.2.2) ⟨[0],3,[],0⟩ (fun x=>⟨56,[(0,qp 0),(4,ql 1 (cI .u8) x.1)]⟩) (fun x=>⟨[[.int .u32 x.2.1, .int .u32 x.2.2.1, .int .u32 x.2.2.2.1, .int .u32 x.2.2.2.2.1, .int .u32 x.2.2.2.2.2.1, .int .u32 x.2.2.2.2.2.2.1, .int .u32 x.2.2.2.2.2.2.2.1, .int .u32 x.2.2.2.2.2.2.2.2,ql 1 (cI .u8) m0.xq,qi (wrap .i64 (m0.f_n+(a1.length:Int)))]],[]⟩) fun k x=>by obtain⟨v61,v62,v63,v64,v65,v66,v67,v68,v69⟩:=x; rw [z7]; exact rCL (kPL 1 (XC (c:=(cI .u8)) (l:=v61) (e:=5) (sz:=1) (sz':=1) (b:=1) (tok:= .none)) edL)<|bFL (zx<|bEL fun x79 hx79=>bEL fun r80 hr80=>lfL (fun z=>zm [0,1,2,3,4,5,6,7,8,9,10] [7,10] [[],[],[1],[1,2],[1,2,3],[],[5],[1,2,3,4,5,6],[0,1,2,3,4,5,6,7],[0,1,2,3,4,5,6,7,8],[0,1,2,3,4,5,6,7,8,9]] [4] [(0,qp 0)] ⟨[[.int .u32 r80.f_0, .int .u32 r80.f_1, .int .u32 r80.f_2, .int .u32 r80.f_3, .int .u32 r80.f_4, .int .u32 r80.f_5, .int .u32 r80.f_6, .int .u32 r80.f_7,ql 1 (cI .u8) m0.xq,qi (wrap .i64 (m0.f_n+(a1.length:Int)))]],[]⟩ (dS [0,1,2,3,4,5]<|dP (jz (k:= .i64) (c:=(cI .u8)) (e:=5) (sz:=1) (b:=1) (tok:= .none) hx79)<|dC (zD 6 (jz (k:= .i64) (c:=(cI .u8)) (e:=5) (sz:=1) (b:=1) (tok:= .none) hx79) xk) A4 (wS hr80)<|dS [8,9]<|dF (zD 6 (jz (k:= .i64) (c:=(cI .u8)) (e:=5) (sz:=1) (b:=1) (tok:= .none) hx79) xk)<|dE A0) z)<|bEL fun x81 hx81=>uG (ZJ (P:=Tryz.prog) (gl:=gl0 mx) yn) (kPL 1 (UC (k:= .i64) (c:=(cI .u8)) (e:=5) (sz:=1) (b:=1) (tok:= .none) hx81) edL)<|zC fun h=>⟨(x81,r80.f_0,r80.f_1,r80.f_2,r80.f_3,r80.f_4,r80.f_5,r80.f_6,r80.f_7),h,wk A0⟩)<|yV<|yv<|yM<|jnL A0) fun y52=>bEL fun x82 hx82=>uG Kn (lfL (fun z=>kV 2 1 0 1 (Ka (T:=tyT) (c:=(vI .u8)) (l2:=y52.1) (e:=5) (e2:=5) (bytes:=1) (b2:=1) (tok2:= .none) (cell:=none) O4 hx82) z) edL)<|bEL fun x83 hx83=>oS Kn (Wk.frzM (c:=(vI .u8)) (l:=x82) (cs:= [.int .u32 y52.2.1, .int .u32 y52.2.2.1, .int .u32 y52.2.2.2.1, .int .u32 y52.2.2.2.2.1, .int .u32 y52.2.2.2.2.2.1, .int .u32 y52.2.2.2.2.2.2.1, .int .u32 y52.2.2.2.2.2.2.2.1, .int .u32 y52.2.2.2.2.2.2.2.2, .own 1 (x82.length) 1,qi (wrap .i64 (m0.f_n+(a1.length:Int)))]) 0 8 1 (x82.length) hx83 O4)<|nJ ⟨[0],2,[],0⟩
def zZ (n:Nat):Nat→(List Int)→Option (List Int)
 |0,_=>none
 | k+1,v29=>
  if((Int.tmod (v29.length:Int) 64) !=56)=true then((w4 1 v29 ([0]:List Int)).bind fun x33=>
  zZ n k x33)else(some v29)
def zW (n:Nat) (y13:((List Int)×Int×Int×Int×Int×Int×Int×Int×Int×Int)):Nat→(List Int)→Int→Option (List Int)
 |0,_,_=>none
 | k+1,v51,v52=>
  if(decide (v52≥0))=true then((Yi .u64 (wrap .u64 ((wrap .u64 y13.2.1)*8)) (wrap .u64 ((8:Int)*(wrap .u64 v52)))).bind fun x59=>
  (w4 1 v51 ([wrap .u8 x59]:List Int)).bind fun x60=>
  zW n y13 k x60 (wrap .i64 (v52-1)))else(some v51)
def zY (n:Nat):Nat→(List Int)→Int→Int→Int→Int→Int→Int→Int→Int→Option (Int×Int×Int×Int×Int×Int×Int×Int)
 |0,_,_,_,_,_,_,_,_,_=>none
 | k+1,v104,v105,v106,v107,v108,v109,v110,v111,v112=>
  if(decide ((v104.length:Int)>0))=true then((lsl v104 0 64).bind fun x122=>
  (zV n (zh.mk v105 v106 v107 v108 v109 v110 v111 v112) x122).bind fun r123=>
  (lsl v104 64 (v104.length)).bind fun x124=>
  zY n k x124 r123.f_0 r123.f_1 r123.f_2 r123.f_3 r123.f_4 r123.f_5 r123.f_6 r123.f_7)else(some (v105,v106,v107,v108,v109,v110,v111,v112))
def yH (n:Nat)(m0:zf):Option (Aa×zf):=
 (xe n).bind fun r1=>
 (if(decide (m0.f_n>0))=true then((w4 1 ([]:List Int) m0.xq).bind fun x15=>
 some (x15,m0.f_n,m0.f_h.f_0,m0.f_h.f_1,m0.f_h.f_2,m0.f_h.f_3,m0.f_h.f_4,m0.f_h.f_5,m0.f_h.f_6,m0.f_h.f_7))else(some (([]:List Int),0,r1.f_0,r1.f_1,r1.f_2,r1.f_3,r1.f_4,r1.f_5,r1.f_6,r1.f_7))).bind fun y13=>
 (w4 1 y13.1 ([128]:List Int)).bind fun x16=>
 (zZ n  n x16).bind fun y25=>
 (zW n y13 n y25 7).bind fun y47=>
 (zY n  n y47 y13.2.2.1 y13.2.2.2.1 y13.2.2.2.2.1 y13.2.2.2.2.2.1 y13.2.2.2.2.2.2.1 y13.2.2.2.2.2.2.2.1 y13.2.2.2.2.2.2.2.2.1 y13.2.2.2.2.2.2.2.2.2).bind fun y96=>
 (w4 1 ([]:List Int) ([wrap .u8 (Int.fdiv y96.1 16777216),wrap .u8 (Int.fdiv y96.1 65536),wrap .u8 (Int.fdiv y96.1 256),wrap .u8 y96.1]:List Int)).bind fun x142=>
 (w4 1 x142 ([wrap .u8 (Int.fdiv y96.2.1 16777216),wrap .u8 (Int.fdiv y96.2.1 65536),wrap .u8 (Int.fdiv y96.2.1 256),wrap .u8 y96.2.1]:List Int)).bind fun x144=>
 (w4 1 x144 ([wrap .u8 (Int.fdiv y96.2.2.1 16777216),wrap .u8 (Int.fdiv y96.2.2.1 65536),wrap .u8 (Int.fdiv y96.2.2.1 256),wrap .u8 y96.2.2.1]:List Int)).bind fun x146=>
 (w4 1 x146 ([wrap .u8 (Int.fdiv y96.2.2.2.1 16777216),wrap .u8 (Int.fdiv y96.2.2.2.1 65536),wrap .u8 (Int.fdiv y96.2.2.2.1 256),wrap .u8 y96.2.2.2.1]:List Int)).bind fun x148=>
 (w4 1 x148 ([wrap .u8 (Int.fdiv y96.2.2.2.2.1 16777216),wrap .u8 (Int.fdiv y96.2.2.2.2.1 65536),wrap .u8 (Int.fdiv y96.2.2.2.2.1 256),wrap .u8 y96.2.2.2.2.1]:List Int)).bind fun x150=>
 (w4 1 x150 ([wrap .u8 (Int.fdiv y96.2.2.2.2.2.1 16777216),wrap .u8 (Int.fdiv y96.2.2.2.2.2.1 65536),wrap .u8 (Int.fdiv y96.2.2.2.2.2.1 256),wrap .u8 y96.2.2.2.2.2.1]:List Int)).bind fun x152=>
 (w4 1 x152 ([wrap .u8 (Int.fdiv y96.2.2.2.2.2.2.1 16777216),wrap .u8 (Int.fdiv y96.2.2.2.2.2.2.1 65536),wrap .u8 (Int.fdiv y96.2.2.2.2.2.2.1 256),wrap .u8 y96.2.2.2.2.2.2.1]:List Int)).bind fun x154=>
 (w4 1 x154 ([wrap .u8 (Int.fdiv y96.2.2.2.2.2.2.2 16777216),wrap .u8 (Int.fdiv y96.2.2.2.2.2.2.2 65536),wrap .u8 (Int.fdiv y96.2.2.2.2.2.2.2 256),wrap .u8 y96.2.2.2.2.2.2.2]:List Int)).bind fun x156=>
 some (b2s x156,(zf.mk (zh.mk m0.f_h.f_0 m0.f_h.f_1 m0.f_h.f_2 m0.f_h.f_3 m0.f_h.f_4 m0.f_h.f_5 m0.f_h.f_6 m0.f_h.f_7) m0.xq m0.f_n))
theorem qk {n:Nat} {m0:zf} {r:(Aa×zf)}:yH n m0=some r→AC mx 386 [qp 0] [zf.cells m0] (qs r.1) [zf.cells r.2]:=by
 delta yH
 exact fnL Tryz.func386 rfl<|rgL<|bEL fun r1 hr1=>rCL (kCL 0 A4 (uz hr1) edL)<|rgL<|rgL<|rgL<|q7 Wk.nilFam<|q7 (wk (fr':=⟨89,[(0,qp 0),(3,qp 1),(4, .sl 1 (List.map (cI .u8) ([]:List Int)) (.fam 0 (List.length ([]:List Int)))),(5,qi 0),(19,qb (decide (m0.f_n>0)))]⟩) (st':=⟨[zf.cells m0,zh.cells r1],[List.length ([]:List Int)]⟩) A2)<|cuL (fun y13=>⟨89,[(3,qp 1),(4, .sl 1 (List.map (cI .u8) y13.1) (.fam 0 (y13.1.length))),(5,qi y13.2.1)]⟩) (fun y13=>⟨[zf.cells m0,[.int .u32 y13.2.2.1, .int .u32 y13.2.2.2.1, .int .u32 y13.2.2.2.2.1, .int .u32 y13.2.2.2.2.2.1, .int .u32 y13.2.2.2.2.2.2.1, .int .u32 y13.2.2.2.2.2.2.2.1, .int .u32 y13.2.2.2.2.2.2.2.2.1, .int .u32 y13.2.2.2.2.2.2.2.2.2]],[y13.1.length]⟩) (fun y13=>bFL (lfL (fun z=>zm [0,1,2,3,4,5,6,7,8,9] [8] [[],[0],[0,1],[0,1,2],[],[4],[4,5],[4,5,6],[0,1,2,3],[0,1,2,3,4,5,6,7,8]] [4] [(0,qp 0),(3,qp 1),(5,qi m0.f_n)] ⟨[zf.cells m0,[.int .u32 m0.f_h.f_0, .int .u32 m0.f_h.f_1, .int .u32 m0.f_h.f_2, .int .u32 m0.f_h.f_3, .int .u32 m0.f_h.f_4, .int .u32 m0.f_h.f_5, .int .u32 m0.f_h.f_6, .int .u32 m0.f_h.f_7]],[List.length ([]:List Int)]⟩ (dS [0,1,2,3,4,5,6,7]<|dF xk<|dS [9]<|dE A2) z)<|bEL fun x15 hx15=>uG yn (lfL (fun z=>kA 5 0 (cI .u8) (e:=5) (e2:=5) (sz:=1) (bytes:=1) (b2:=1) (tok2:= .none) hx15 z) edL)<|jnL A2)<|jnL A2) fun y13=>bEL fun x16 hx16=>rCL (lfL (fun z=>kA 2 0 (cI .u8) (e:=5) (e2:=5) (sz:=1) (bytes:=1) (b2:=1) (tok2:= .exact) hx16 z) edL)<|blL (fun y25=>⟨89,[(3,qp 1),(4, .sl 1 (List.map (cI .u8) y25) (.fam 0 (y25.length))),(5,qi y13.2.1)]⟩) (fun y25=>⟨[zf.cells m0,[.int .u32 y13.2.2.1, .int .u32 y13.2.2.2.1, .int .u32 y13.2.2.2.2.1, .int .u32 y13.2.2.2.2.2.1, .int .u32 y13.2.2.2.2.2.2.1, .int .u32 y13.2.2.2.2.2.2.2.1, .int .u32 y13.2.2.2.2.2.2.2.2.1, .int .u32 y13.2.2.2.2.2.2.2.2.2]],[y25.length]⟩) (fun y25=>lpL (fun k x=>zZ n  k x) x16 A2 (fun x=>⟨89,[(3,qp 1),(4, .sl 1 (List.map (cI .u8) x) (.fam 0 (x.length))),(5,qi y13.2.1)]⟩) (fun x=>⟨[zf.cells m0,[.int .u32 y13.2.2.1, .int .u32 y13.2.2.2.1, .int .u32 y13.2.2.2.2.1, .int .u32 y13.2.2.2.2.2.1, .int .u32 y13.2.2.2.2.2.2.1, .int .u32 y13.2.2.2.2.2.2.2.1, .int .u32 y13.2.2.2.2.2.2.2.2.1, .int .u32 y13.2.2.2.2.2.2.2.2.2]],[x.length]⟩) fun k v29=>by rw [zZ]; exact rCL (kPL 1 (XC (c:=(cI .u8)) (l:=v29) (e:=5) (sz:=1) (sz':=1) (b:=1) (tok:=(.fam 0 (v29.length)))) edL)<|bFL (zx<|bEL fun x33 hx33=>uG (ZJ (P:=Tryz.prog) (gl:=gl0 mx) yn) (lfL (fun z=>kA 2 0 (cI .u8) (e:=5) (e2:=5) (sz:=1) (bytes:=1) (b2:=1) (tok2:= .exact) hx33 z) edL)<|zC fun h=>⟨x33,h,wk A2⟩)<|yV<|yv<|yM<|jnL A2) fun y25=>rgL<|blL (fun y47=>⟨89,[(3,qp 1),(4, .sl 1 (List.map (cI .u8) y47) (.fam 0 (y47.length)))]⟩) (fun y47=>⟨[zf.cells m0,[.int .u32 y13.2.2.1, .int .u32 y13.2.2.2.1, .int .u32 y13.2.2.2.2.1, .int .u32 y13.2.2.2.2.2.1, .int .u32 y13.2.2.2.2.2.2.1, .int .u32 y13.2.2.2.2.2.2.2.1, .int .u32 y13.2.2.2.2.2.2.2.2.1, .int .u32 y13.2.2.2.2.2.2.2.2.2]],[y47.length]⟩) (fun y47=>lpL (fun k x=>zW n y13 k x.1 x.2) (y25,7) A2 (fun x=>⟨89,[(3,qp 1),(4, .sl 1 (List.map (cI .u8) x.1) (.fam 0 (x.1.length))),(5,qi y13.2.1),(6,qi x.2)]⟩) (fun x=>⟨[zf.cells m0,[.int .u32 y13.2.2.1, .int .u32 y13.2.2.2.1, .int .u32 y13.2.2.2.2.1, .int .u32 y13.2.2.2.2.2.1, .int .u32 y13.2.2.2.2.2.2.1, .int .u32 y13.2.2.2.2.2.2.2.1, .int .u32 y13.2.2.2.2.2.2.2.2.1, .int .u32 y13.2.2.2.2.2.2.2.2.2]],[x.1.length]⟩) fun k x=>by obtain⟨v51,v52⟩:=x; rw [zW]; exact rgL<|bFL (zx<|bEL fun x59 hx59=>bEL fun x60 hx60=>uG zF (kPL 7 (Jq (k:= .u64) (d:=(tyT 332).d) (k':= .u64) hx59)<|lfL (fun z=>kA 10 0 (cI .u8) (e:=5) (e2:=5) (sz:=1) (bytes:=1) (b2:=1) (tok2:= .exact) hx60 z) edL)<|zC<|wj yn fun h=>⟨(x60,wrap .i64 (v52-1)),h,wk A2⟩)<|yV<|yv<|yM<|jnL A2) fun y47=>blL (fun y96=>⟨89,[(3,qp 1)]⟩) (fun y96=>⟨[zf.cells m0,[.int .u32 y96.1, .int .u32 y96.2.1, .int .u32 y96.2.2.1, .int .u32 y96.2.2.2.1, .int .u32 y96.2.2.2.2.1, .int .u32 y96.2.2.2.2.2.1, .int .u32 y96.2.2.2.2.2.2.1, .int .u32 y96.2.2.2.2.2.2.2]],[]⟩) (fun y96=>lpL (fun k x=>zY n  k x.1 x.2.1 x.2.2.1 x.2.2.2.1 x.2.2.2.2.1 x.2.2.2.2.2.1 x.2.2.2.2.2.2.1 x.2.2.2.2.2.2.2.1 x.2.2.2.2.2.2.2.2) (y47,y13.2.2.1,y13.2.2.2.1,y13.2.2.2.2.1,y13.2.2.2.2.2.1,y13.2.2.2.2.2.2.1,y13.2.2.2.2.2.2.2.1,y13.2.2.2.2.2.2.2.2.1,y13.2.2.2.2.2.2.2.2.2) ⟨[0,1],2,[],1⟩ (fun x=>⟨89,[(3,qp 1),(4,ql 1 (cI .u8) x.1)]⟩) (fun x=>⟨[zf.cells m0,[.int .u32 x.2.1, .int .u32 x.2.2.1, .int .u32 x.2.2.2.1, .int .u32 x.2.2.2.2.1, .int .u32 x.2.2.2.2.2.1, .int .u32 x.2.2.2.2.2.2.1, .int .u32 x.2.2.2.2.2.2.2.1, .int .u32 x.2.2.2.2.2.2.2.2]],[]⟩) fun k x=>by obtain⟨v104,v105,v106,v107,v108,v109,v110,v111,v112⟩:=x; rw [zY]; exact rCL (kPL 1 (XC (c:=(cI .u8)) (l:=v104) (e:=5) (sz:=1) (sz':=1) (b:=1) (tok:= .none)) edL)<|bFL (zx<|bEL fun x122 hx122=>bEL fun r123 hr123=>lfL (fun z=>zm [0,1,2,3,4] [3,4] [[],[],[1],[0,1,2],[0,1,2,3]] [4] [(3,qp 1)] ⟨[zf.cells m0,zh.cells r123],[]⟩ (dS [0,1]<|dP (jz (k:= .i64) (c:=(cI .u8)) (e:=5) (sz:=1) (b:=1) (tok:= .none) hx122)<|dC (zD 2 (jz (k:= .i64) (c:=(cI .u8)) (e:=5) (sz:=1) (b:=1) (tok:= .none) hx122) xk) ⟨[],2,[],0⟩ (wS hr123)<|dF (zD 2 (jz (k:= .i64) (c:=(cI .u8)) (e:=5) (sz:=1) (b:=1) (tok:= .none) hx122) xk)<|dE A8) z)<|bEL fun x124 hx124=>uG (ZJ (P:=Tryz.prog) (gl:=gl0 mx) yn) (kPL 1 (UC (k:= .i64) (c:=(cI .u8)) (e:=5) (sz:=1) (b:=1) (tok:= .none) hx124) edL)<|zC fun h=>⟨(x124,r123.f_0,r123.f_1,r123.f_2,r123.f_3,r123.f_4,r123.f_5,r123.f_6,r123.f_7),h,wk A8⟩)<|yV<|yv<|yM<|jnL A8) fun y96=>rgL<|rgL<|zx<|q7 (wk (fr':=⟨89,[(7,qn),(68, .agg [.int .u32 y96.1, .int .u32 y96.2.1, .int .u32 y96.2.2.1, .int .u32 y96.2.2.2.1, .int .u32 y96.2.2.2.2.1, .int .u32 y96.2.2.2.2.2.1, .int .u32 y96.2.2.2.2.2.2.1, .int .u32 y96.2.2.2.2.2.2.2]),(69,qi 0)]⟩) (st':=⟨[zf.cells m0],[]⟩) ⟨[0],2,[],0⟩)<|lfL (fun z=>VK 9 z)<|U2<|rgL<|q7 Wk.nilFam<|q7 (wk (fr':=⟨89,[(7, .sl 1 (List.map (cI .u8) ([]:List Int)) (.fam 0 (List.length ([]:List Int)))),(68, .agg [.int .u32 y96.1, .int .u32 y96.2.1, .int .u32 y96.2.2.1, .int .u32 y96.2.2.2.1, .int .u32 y96.2.2.2.2.1, .int .u32 y96.2.2.2.2.2.1, .int .u32 y96.2.2.2.2.2.2.1, .int .u32 y96.2.2.2.2.2.2.2]),(69,qi 0),(70,qb true)]⟩) (st':=⟨[zf.cells m0],[List.length ([]:List Int)]⟩) A3)<|bTL<|zx<|idL 438 284 8 0 68 69 .u32 y96.1 [.int .u32 y96.1, .int .u32 y96.2.1, .int .u32 y96.2.2.1, .int .u32 y96.2.2.2.1, .int .u32 y96.2.2.2.2.1, .int .u32 y96.2.2.2.2.2.1, .int .u32 y96.2.2.2.2.2.2.1, .int .u32 y96.2.2.2.2.2.2.2] A3 ⟨89,[(7, .sl 1 (List.map (cI .u8) ([]:List Int)) (.fam 0 (List.length ([]:List Int)))),(9, .int .u32 y96.1),(68, .agg [.int .u32 y96.1, .int .u32 y96.2.1, .int .u32 y96.2.2.1, .int .u32 y96.2.2.2.1, .int .u32 y96.2.2.2.2.1, .int .u32 y96.2.2.2.2.2.1, .int .u32 y96.2.2.2.2.2.2.1, .int .u32 y96.2.2.2.2.2.2.2]),(69,qi 0)]⟩ ⟨[zf.cells m0],[List.length ([]:List Int)]⟩<|bEL fun x142 hx142=>uG zF (lfL (fun z=>kA 13 0 (cI .u8) (e:=5) (e2:=5) (sz:=1) (bytes:=1) (b2:=1) (tok2:= .exact) hx142 z) edL)<|zC<|wj yU<|yB<|rgL<|bTL<|zx<|idL 438 284 8 1 68 69 .u32 y96.2.1 [.int .u32 y96.1, .int .u32 y96.2.1, .int .u32 y96.2.2.1, .int .u32 y96.2.2.2.1, .int .u32 y96.2.2.2.2.1, .int .u32 y96.2.2.2.2.2.1, .int .u32 y96.2.2.2.2.2.2.1, .int .u32 y96.2.2.2.2.2.2.2] A3 ⟨89,[(7, .sl 1 (List.map (cI .u8) x142) (.fam 0 (x142.length))),(9, .int .u32 y96.2.1),(68, .agg [.int .u32 y96.1, .int .u32 y96.2.1, .int .u32 y96.2.2.1, .int .u32 y96.2.2.2.1, .int .u32 y96.2.2.2.2.1, .int .u32 y96.2.2.2.2.2.1, .int .u32 y96.2.2.2.2.2.2.1, .int .u32 y96.2.2.2.2.2.2.2]),(69,qi 1)]⟩ ⟨[zf.cells m0],[x142.length]⟩<|bEL fun x144 hx144=>uG zF (lfL (fun z=>kA 13 0 (cI .u8) (e:=5) (e2:=5) (sz:=1) (bytes:=1) (b2:=1) (tok2:= .exact) hx144 z) edL)<|zC<|wj yU<|yB<|rgL<|bTL<|zx<|idL 438 284 8 2 68 69 .u32 y96.2.2.1 [.int .u32 y96.1, .int .u32 y96.2.1, .int .u32 y96.2.2.1, .int .u32 y96.2.2.2.1, .int .u32 y96.2.2.2.2.1, .int .u32 y96.2.2.2.2.2.1, .int .u32 y96.2.2.2.2.2.2.1, .int .u32 y96.2.2.2.2.2.2.2] A3 ⟨89,[(7, .sl 1 (List.map (cI .u8) x144) (.fam 0 (x144.length))),(9, .int .u32 y96.2.2.1),(68, .agg [.int .u32 y96.1, .int .u32 y96.2.1, .int .u32 y96.2.2.1, .int .u32 y96.2.2.2.1, .int .u32 y96.2.2.2.2.1, .int .u32 y96.2.2.2.2.2.1, .int .u32 y96.2.2.2.2.2.2.1, .int .u32 y96.2.2.2.2.2.2.2]),(69,qi 2)]⟩ ⟨[zf.cells m0],[x144.length]⟩<|bEL fun x146 hx146=>uG zF (lfL (fun z=>kA 13 0 (cI .u8) (e:=5) (e2:=5) (sz:=1) (bytes:=1) (b2:=1) (tok2:= .exact) hx146 z) edL)<|zC<|wj yU<|yB<|rgL<|bTL<|zx<|idL 438 284 8 3 68 69 .u32 y96.2.2.2.1 [.int .u32 y96.1, .int .u32 y96.2.1, .int .u32 y96.2.2.1, .int .u32 y96.2.2.2.1, .int .u32 y96.2.2.2.2.1, .int .u32 y96.2.2.2.2.2.1, .int .u32 y96.2.2.2.2.2.2.1, .int .u32 y96.2.2.2.2.2.2.2] A3 ⟨89,[(7, .sl 1 (List.map (cI .u8) x146) (.fam 0 (x146.length))),(9, .int .u32 y96.2.2.2.1),(68, .agg [.int .u32 y96.1, .int .u32 y96.2.1, .int .u32 y96.2.2.1, .int .u32 y96.2.2.2.1, .int .u32 y96.2.2.2.2.1, .int .u32 y96.2.2.2.2.2.1, .int .u32 y96.2.2.2.2.2.2.1, .int .u32 y96.2.2.2.2.2.2.2]),(69,qi 3)]⟩ ⟨[zf.cells m0],[x146.length]⟩<|bEL fun x148 hx148=>uG zF (lfL (fun z=>kA 13 0 (cI .u8) (e:=5) (e2:=5) (sz:=1) (bytes:=1) (b2:=1) (tok2:= .exact) hx148 z) edL)<|zC<|wj yU<|yB<|rgL<|bTL<|zx<|idL 438 284 8 4 68 69 .u32 y96.2.2.2.2.1 [.int .u32 y96.1, .int .u32 y96.2.1, .int .u32 y96.2.2.1, .int .u32 y96.2.2.2.1, .int .u32 y96.2.2.2.2.1, .int .u32 y96.2.2.2.2.2.1, .int .u32 y96.2.2.2.2.2.2.1, .int .u32 y96.2.2.2.2.2.2.2] A3 ⟨89,[(7, .sl 1 (List.map (cI .u8) x148) (.fam 0 (x148.length))),(9, .int .u32 y96.2.2.2.2.1),(68, .agg [.int .u32 y96.1, .int .u32 y96.2.1, .int .u32 y96.2.2.1, .int .u32 y96.2.2.2.1, .int .u32 y96.2.2.2.2.1, .int .u32 y96.2.2.2.2.2.1, .int .u32 y96.2.2.2.2.2.2.1, .int .u32 y96.2.2.2.2.2.2.2]),(69,qi 4)]⟩ ⟨[zf.cells m0],[x148.length]⟩<|bEL fun x150 hx150=>uG zF (lfL (fun z=>kA 13 0 (cI .u8) (e:=5) (e2:=5) (sz:=1) (bytes:=1) (b2:=1) (tok2:= .exact) hx150 z) edL)<|zC<|wj yU<|yB<|rgL<|bTL<|zx<|idL 438 284 8 5 68 69 .u32 y96.2.2.2.2.2.1 [.int .u32 y96.1, .int .u32 y96.2.1, .int .u32 y96.2.2.1, .int .u32 y96.2.2.2.1, .int .u32 y96.2.2.2.2.1, .int .u32 y96.2.2.2.2.2.1, .int .u32 y96.2.2.2.2.2.2.1, .int .u32 y96.2.2.2.2.2.2.2] A3 ⟨89,[(7, .sl 1 (List.map (cI .u8) x150) (.fam 0 (x150.length))),(9, .int .u32 y96.2.2.2.2.2.1),(68, .agg [.int .u32 y96.1, .int .u32 y96.2.1, .int .u32 y96.2.2.1, .int .u32 y96.2.2.2.1, .int .u32 y96.2.2.2.2.1, .int .u32 y96.2.2.2.2.2.1, .int .u32 y96.2.2.2.2.2.2.1, .int .u32 y96.2.2.2.2.2.2.2]),(69,qi 5)]⟩ ⟨[zf.cells m0],[x150.length]⟩<|bEL fun x152 hx152=>uG zF (lfL (fun z=>kA 13 0 (cI .u8) (e:=5) (e2:=5) (sz:=1) (bytes:=1) (b2:=1) (tok2:= .exact) hx152 z) edL)<|zC<|wj yU<|yB<|rgL<|bTL<|zx<|idL 438 284 8 6 68 69 .u32 y96.2.2.2.2.2.2.1 [.int .u32 y96.1, .int .u32 y96.2.1, .int .u32 y96.2.2.1, .int .u32 y96.2.2.2.1, .int .u32 y96.2.2.2.2.1, .int .u32 y96.2.2.2.2.2.1, .int .u32 y96.2.2.2.2.2.2.1, .int .u32 y96.2.2.2.2.2.2.2] A3 ⟨89,[(7, .sl 1 (List.map (cI .u8) x152) (.fam 0 (x152.length))),(9, .int .u32 y96.2.2.2.2.2.2.1),(68, .agg [.int .u32 y96.1, .int .u32 y96.2.1, .int .u32 y96.2.2.1, .int .u32 y96.2.2.2.1, .int .u32 y96.2.2.2.2.1, .int .u32 y96.2.2.2.2.2.1, .int .u32 y96.2.2.2.2.2.2.1, .int .u32 y96.2.2.2.2.2.2.2]),(69,qi 6)]⟩ ⟨[zf.cells m0],[x152.length]⟩<|bEL fun x154 hx154=>uG zF (lfL (fun z=>kA 13 0 (cI .u8) (e:=5) (e2:=5) (sz:=1) (bytes:=1) (b2:=1) (tok2:= .exact) hx154 z) edL)<|zC<|wj yU<|yB<|rgL<|bTL<|zx<|idL 438 284 8 7 68 69 .u32 y96.2.2.2.2.2.2.2 [.int .u32 y96.1, .int .u32 y96.2.1, .int .u32 y96.2.2.1, .int .u32 y96.2.2.2.1, .int .u32 y96.2.2.2.2.1, .int .u32 y96.2.2.2.2.2.1, .int .u32 y96.2.2.2.2.2.2.1, .int .u32 y96.2.2.2.2.2.2.2] A3 ⟨89,[(7, .sl 1 (List.map (cI .u8) x154) (.fam 0 (x154.length))),(9, .int .u32 y96.2.2.2.2.2.2.2),(68, .agg [.int .u32 y96.1, .int .u32 y96.2.1, .int .u32 y96.2.2.1, .int .u32 y96.2.2.2.1, .int .u32 y96.2.2.2.2.1, .int .u32 y96.2.2.2.2.2.1, .int .u32 y96.2.2.2.2.2.2.1, .int .u32 y96.2.2.2.2.2.2.2]),(69,qi 7)]⟩ ⟨[zf.cells m0],[x154.length]⟩<|bEL fun x156 hx156=>uG zF (lfL (fun z=>kA 13 0 (cI .u8) (e:=5) (e2:=5) (sz:=1) (bytes:=1) (b2:=1) (tok2:= .exact) hx156 z) edL)<|zC<|wj yU<|yB<|rgL<|bNL<|yV<|yv<|Vu<|rCL (lfL (fun z=>kB 1 x156 z) edL)<|xj<|rJ ⟨[0],1,[],1⟩
def yK (n:Nat)(a0:List Aa):Nat→Int→Int→Int→Int→Int→Int→Int→Int→Int→(List Int)→Int→Option (Int×Int×Int×Int×Int×Int×Int×Int×(List Int)×Int)
 |0,_,_,_,_,_,_,_,_,_,_,_=>none
 | k+1,v41,v42,v43,v44,v45,v46,v47,v48,v49,v50,v51=>
  if(decide (v41<(a0.length:Int)))=true then((xW a0 v41).bind fun x58=>
  (yd n x58 (zf.mk (zh.mk v42 v43 v44 v45 v46 v47 v48 v49) v50 v51)).bind fun r59=>
  yK n a0 k (wrap .i64 (v41+1)) r59.f_h.f_0 r59.f_h.f_1 r59.f_h.f_2 r59.f_h.f_3 r59.f_h.f_4 r59.f_h.f_5 r59.f_h.f_6 r59.f_h.f_7 r59.xq r59.f_n)else(some (v42,v43,v44,v45,v46,v47,v48,v49,v50,v51))
def vF (n:Nat)(a0:List Aa):Option Aa:=
 (vz n).bind fun r1=>
 (yK n a0 n 0 r1.f_h.f_0 r1.f_h.f_1 r1.f_h.f_2 r1.f_h.f_3 r1.f_h.f_4 r1.f_h.f_5 r1.f_h.f_6 r1.f_h.f_7 r1.xq r1.f_n).bind fun y35=>
 (yH n (zf.mk (zh.mk y35.1 y35.2.1 y35.2.2.1 y35.2.2.2.1 y35.2.2.2.2.1 y35.2.2.2.2.2.1 y35.2.2.2.2.2.2.1 y35.2.2.2.2.2.2.2.1) y35.2.2.2.2.2.2.2.2.1 y35.2.2.2.2.2.2.2.2.2)).bind fun r60=>
 some r60.1
theorem kn {n:Nat} {a0:(List Aa)} {r:Aa}:vF n a0=some r→AC mx 378 [ql 1 cS a0] [] (qs r) []:=by
 delta vF
 exact fnL Tryz.func378 rfl<|rgL<|bEL fun r1 hr1=>rCL (kCL 0 J (ph hr1) edL)<|rCL (kPL 1 (XC (c:=cS) (l:=a0) (e:=9) (sz:=1) (sz':=1) (b:=16) (tok:= .none)) edL)<|blL (fun y35=>⟨19,[(3,qp 0)]⟩) (fun y35=>⟨[[.int .u32 y35.1, .int .u32 y35.2.1, .int .u32 y35.2.2.1, .int .u32 y35.2.2.2.1, .int .u32 y35.2.2.2.2.1, .int .u32 y35.2.2.2.2.2.1, .int .u32 y35.2.2.2.2.2.2.1, .int .u32 y35.2.2.2.2.2.2.2.1,ql 1 (cI .u8) y35.2.2.2.2.2.2.2.2.1,qi y35.2.2.2.2.2.2.2.2.2]],[]⟩) (fun y35=>lpL (fun k x=>yK n a0 k x.1 x.2.1 x.2.2.1 x.2.2.2.1 x.2.2.2.2.1 x.2.2.2.2.2.1 x.2.2.2.2.2.2.1 x.2.2.2.2.2.2.2.1 x.2.2.2.2.2.2.2.2.1 x.2.2.2.2.2.2.2.2.2.1 x.2.2.2.2.2.2.2.2.2.2) (0,r1.f_h.f_0,r1.f_h.f_1,r1.f_h.f_2,r1.f_h.f_3,r1.f_h.f_4,r1.f_h.f_5,r1.f_h.f_6,r1.f_h.f_7,r1.xq,r1.f_n) A0 (fun x=>⟨19,[(3,qp 0),(7,ql 1 cS a0),(8,qi (a0.length:Int)),(9,qi x.1)]⟩) (fun x=>⟨[[.int .u32 x.2.1, .int .u32 x.2.2.1, .int .u32 x.2.2.2.1, .int .u32 x.2.2.2.2.1, .int .u32 x.2.2.2.2.2.1, .int .u32 x.2.2.2.2.2.2.1, .int .u32 x.2.2.2.2.2.2.2.1, .int .u32 x.2.2.2.2.2.2.2.2.1,ql 1 (cI .u8) x.2.2.2.2.2.2.2.2.2.1,qi x.2.2.2.2.2.2.2.2.2.2]],[]⟩) fun k x=>by obtain⟨v41,v42,v43,v44,v45,v46,v47,v48,v49,v50,v51⟩:=x; rw [yK]; exact rgL<|bFL (zx<|bEL fun x58 hx58=>rCL (kPL 0 (yE (c:=cS) (e:=9) (sz:=1) (b:=16) (tok:= .none) hx58) edL)<|bEL fun r59 hr59=>uG zF (kCL 2 A0 (jE hr59) edL)<|zC<|wj yn fun h=>⟨(wrap .i64 (v41+1),r59.f_h.f_0,r59.f_h.f_1,r59.f_h.f_2,r59.f_h.f_3,r59.f_h.f_4,r59.f_h.f_5,r59.f_h.f_6,r59.f_h.f_7,r59.xq,r59.f_n),h,wk A0⟩)<|yV<|yv<|yM<|jnL A0) fun y35=>bEL fun r60 hr60=>rCL (kCL 1 A0 (qk hr60) edL)<|xj<|rJ A4
def wo (n:Nat)(a0:List Aa):Option Aa:=
 (vF n a0).bind fun r1=>
 (ssl r1 0 16).bind fun x2=>
 some x2
theorem jA {n:Nat} {a0:(List Aa)} {r:Aa}:wo n a0=some r→AC mx 359 [ql 1 cS a0] [] (qs r) []:=by
 delta wo
 exact fnL Tryz.func359 rfl<|rgL<|bEL fun r1 hr1=>bEL fun x2 hx2=>rCL (kCL 1 J (kn hr1)<|kPL 2 (Uu (k:= .i64) hx2) edL)<|xj<|rJ J
def zB (n:Nat)(a1:Aa):Nat→Int→(List Int)→Option (List Int)
 |0,_,_=>none
 | k+1,v54,v55=>
  if(decide (v54<16))=true then((Ux a1 (wrap .i64 ((4:Int)*v54))).bind fun x74=>
  (Ux a1 (wrap .i64 ((wrap .i64 ((4:Int)*v54))+1))).bind fun x75=>
  (Ux a1 (wrap .i64 ((wrap .i64 ((4:Int)*v54))+2))).bind fun x76=>
  (Ux a1 (wrap .i64 ((wrap .i64 ((4:Int)*v54))+3))).bind fun x77=>
  (wZ 64 v54).bind fun x78=>
  (gA v55 (0+x78*1) (ior .u32 (ior .u32 (ior .u32 (wrap .u32 ((wrap .u32 x74)*16777216)) (wrap .u32 ((wrap .u32 x75)*65536))) (wrap .u32 ((wrap .u32 x76)*256))) (wrap .u32 x77))).bind fun x79=>
  zB n a1 k (wrap .i64 (v54+1)) x79)else(some v55)
def zz (n:Nat):Nat→Int→(List Int)→Option (List Int)
 |0,_,_=>none
 | k+1,v165,v166=>
  if(decide (v165<64))=true then((wZ 64 (wrap .i64 (v165-15))).bind fun x197=>
  ((v166)[(0+x197*1)]?).bind fun x198=>
  (wZ 64 (wrap .i64 (v165-2))).bind fun x199=>
  ((v166)[(0+x199*1)]?).bind fun x200=>
  (wZ 64 (wrap .i64 (v165-16))).bind fun x201=>
  ((v166)[(0+x201*1)]?).bind fun x202=>
  (wZ 64 (wrap .i64 (v165-7))).bind fun x203=>
  ((v166)[(0+x203*1)]?).bind fun x204=>
  (wZ 64 v165).bind fun x205=>
  (gA v166 (0+x205*1) (wrap .u32 ((wrap .u32 ((wrap .u32 (x202+(zE .u32 (zE .u32 (ior .u32 (Int.fdiv x198 128) (wrap .u32 (x198*33554432))) (ior .u32 (Int.fdiv x198 262144) (wrap .u32 (x198*16384)))) (Int.fdiv x198 8))))+x204))+(zE .u32 (zE .u32 (ior .u32 (Int.fdiv x200 131072) (wrap .u32 (x200*32768))) (ior .u32 (Int.fdiv x200 524288) (wrap .u32 (x200*8192)))) (Int.fdiv x200 1024))))).bind fun x206=>
  zz n k (wrap .i64 (v165+1)) x206)else(some v166)
def zA (n:Nat)(y143:List Int):Nat→Int→Int→Int→Int→Int→Int→Int→Int→Int→Option (Int×Int×Int×Int×Int×Int×Int×Int)
 |0,_,_,_,_,_,_,_,_,_=>none
 | k+1,v258,v259,v260,v261,v262,v263,v264,v265,v266=>
  if(decide (v266<64))=true then((xW ([1116352408,1899447441,3049323471,3921009573,961987163,1508970993,2453635748,2870763221,3624381080,310598401,607225278,1426881987,1925078388,2162078206,2614888103,3248222580,3835390401,4022224774,264347078,604807628,770255983,1249150122,1555081692,1996064986,2554220882,2821834349,2952996808,3210313671,3336571891,3584528711,113926993,338241895,666307205,773529912,1294757372,1396182291,1695183700,1986661051,2177026350,2456956037,2730485921,2820302411,3259730800,3345764771,3516065817,3600352804,4094571909,275423344,430227734,506948616,659060556,883997877,958139571,1322822218,1537002063,1747873779,1955562222,2024104815,2227730452,2361852424,2428436474,2756734187,3204031479,3329325298]:List Int) v266).bind fun x276=>
  (wZ 64 v266).bind fun x277=>
  ((y143)[(0+x277*1)]?).bind fun x278=>
  zA n y143 k (wrap .u32 ((wrap .u32 ((wrap .u32 ((wrap .u32 ((wrap .u32 (v265+(zE .u32 (zE .u32 (ior .u32 (Int.fdiv v262 64) (wrap .u32 (v262*67108864))) (ior .u32 (Int.fdiv v262 2048) (wrap .u32 (v262*2097152)))) (ior .u32 (Int.fdiv v262 33554432) (wrap .u32 (v262*128))))))+(zE .u32 (xC .u32 v262 v263) (xC .u32 (zE .u32 4294967295 v262) v264))))+x276))+x278))+(wrap .u32 ((zE .u32 (zE .u32 (ior .u32 (Int.fdiv v258 4) (wrap .u32 (v258*1073741824))) (ior .u32 (Int.fdiv v258 8192) (wrap .u32 (v258*524288)))) (ior .u32 (Int.fdiv v258 4194304) (wrap .u32 (v258*1024))))+(zE .u32 (zE .u32 (xC .u32 v258 v259) (xC .u32 v258 v260)) (xC .u32 v259 v260)))))) v258 v259 v260 (wrap .u32 (v261+(wrap .u32 ((wrap .u32 ((wrap .u32 ((wrap .u32 (v265+(zE .u32 (zE .u32 (ior .u32 (Int.fdiv v262 64) (wrap .u32 (v262*67108864))) (ior .u32 (Int.fdiv v262 2048) (wrap .u32 (v262*2097152)))) (ior .u32 (Int.fdiv v262 33554432) (wrap .u32 (v262*128))))))+(zE .u32 (xC .u32 v262 v263) (xC .u32 (zE .u32 4294967295 v262) v264))))+x276))+x278)))) v262 v263 v264 (wrap .i64 (v266+1)))else(some (v258,v259,v260,v261,v262,v263,v264,v265))
def yy (n:Nat)(a0:List Int)(a1:Aa):Option (List Int):=
 (zB n a1 n 0 (List.replicate 64 (0:Int))).bind fun y40=>
 (zz n  n 16 y40).bind fun y143=>
 (xW a0 0).bind fun x207=>
 (xW a0 1).bind fun x208=>
 (xW a0 2).bind fun x209=>
 (xW a0 3).bind fun x210=>
 (xW a0 4).bind fun x211=>
 (xW a0 5).bind fun x212=>
 (xW a0 6).bind fun x213=>
 (xW a0 7).bind fun x214=>
 (zA n y143 n x207 x208 x209 x210 x211 x212 x213 x214 0).bind fun y250=>
 (xW a0 0).bind fun x279=>
 (xW a0 1).bind fun x280=>
 (xW a0 2).bind fun x281=>
 (xW a0 3).bind fun x282=>
 (xW a0 4).bind fun x283=>
 (xW a0 5).bind fun x284=>
 (xW a0 6).bind fun x285=>
 (xW a0 7).bind fun x286=>
 some ([wrap .u32 (x279+y250.1),wrap .u32 (x280+y250.2.1),wrap .u32 (x281+y250.2.2.1),wrap .u32 (x282+y250.2.2.2.1),wrap .u32 (x283+y250.2.2.2.2.1),wrap .u32 (x284+y250.2.2.2.2.2.1),wrap .u32 (x285+y250.2.2.2.2.2.2.1),wrap .u32 (x286+y250.2.2.2.2.2.2.2)]:List Int)
theorem uF {n:Nat} {a0:(List Int)} {a1:Aa} {r:(List Int)}:yy n a0 a1=some r→AC mx 184 [ql 1 (cI .u32) a0,qs a1] [] (ql 1 (cI .u32) r) []:=by
 delta yy
 exact fnL Tryz.func184 rfl<|rgL<|rgL<|rgL<|q7 (Wk.asBuf 0 (List.map (vI .u32) (List.replicate 64 (0:Int))) O4 O4 O1)<|rgL<|blL (fun y40=>⟨266,[(0,ql 1 (cI .u32) a0),(5, .sl 1 (List.map (cI .u32) ([1116352408,1899447441,3049323471,3921009573,961987163,1508970993,2453635748,2870763221,3624381080,310598401,607225278,1426881987,1925078388,2162078206,2614888103,3248222580,3835390401,4022224774,264347078,604807628,770255983,1249150122,1555081692,1996064986,2554220882,2821834349,2952996808,3210313671,3336571891,3584528711,113926993,338241895,666307205,773529912,1294757372,1396182291,1695183700,1986661051,2177026350,2456956037,2730485921,2820302411,3259730800,3345764771,3516065817,3600352804,4094571909,275423344,430227734,506948616,659060556,883997877,958139571,1322822218,1537002063,1747873779,1955562222,2024104815,2227730452,2361852424,2428436474,2756734187,3204031479,3329325298]:List Int)) .exact),(6,qp 0)]⟩) (fun y40=>⟨[[.buf (List.map (vI .u32) y40)]],[]⟩) (fun y40=>lpL (fun k x=>zB n a1 k x.1 x.2) (0,List.replicate 64 (0:Int)) A0 (fun x=>⟨266,[(0,ql 1 (cI .u32) a0),(1,qs a1),(5, .sl 1 (List.map (cI .u32) ([1116352408,1899447441,3049323471,3921009573,961987163,1508970993,2453635748,2870763221,3624381080,310598401,607225278,1426881987,1925078388,2162078206,2614888103,3248222580,3835390401,4022224774,264347078,604807628,770255983,1249150122,1555081692,1996064986,2554220882,2821834349,2952996808,3210313671,3336571891,3584528711,113926993,338241895,666307205,773529912,1294757372,1396182291,1695183700,1986661051,2177026350,2456956037,2730485921,2820302411,3259730800,3345764771,3516065817,3600352804,4094571909,275423344,430227734,506948616,659060556,883997877,958139571,1322822218,1537002063,1747873779,1955562222,2024104815,2227730452,2361852424,2428436474,2756734187,3204031479,3329325298]:List Int)) .exact),(6,qp 0),(7,qi x.1)]⟩) (fun x=>⟨[[.buf (List.map (vI .u32) x.2)]],[]⟩) fun k x=>by obtain⟨v54,v55⟩:=x; rw [zB]; exact rgL<|bFL (zx<|bEL fun x74 hx74=>bEL fun x75 hx75=>bEL fun x76 hx76=>bEL fun x77 hx77=>bEL fun x78 hx78=>bEL fun x79 hx79=>lfL (fun z=>zmN zF [0,1,2,3,4,5,6,7,8,9,10,11,12,13,14,15,16,17,18,19,20,21,22,23,24,25,26,27,28,29,30,31] [31] [[],[],[],[2],[1,2,3],[1,2,3,4],[1,2,3,4,5],[],[],[8],[8,9],[7,8,9,10],[7,8,9,10,11],[7,8,9,10,11,12],[1,2,3,4,5,6,7,8,9,10,11,12,13],[],[],[16],[16,17],[15,16,17,18],[15,16,17,18,19],[15,16,17,18,19,20],[1,2,3,4,5,6,7,8,9,10,11,12,13,14,15,16,17,18,19,20,21],[],[],[24],[24,25],[23,24,25,26],[23,24,25,26,27],[1,2,3,4,5,6,7,8,9,10,11,12,13,14,15,16,17,18,19,20,21,22,23,24,25,26,27,28],[0,1,2,3,4,5,6,7,8,9,10,11,12,13,14,15,16,17,18,19,20,21,22,23,24,25,26,27,28,29],[0,1,2,3,4,5,6,7,8,9,10,11,12,13,14,15,16,17,18,19,20,21,22,23,24,25,26,27,28,29,30]] [0,5] [(1,qs a1),(6,qp 0),(7,qi v54)] ⟨[[.buf (List.map (vI .u32) x79)]],[]⟩ (dS [0,1,2,3]<|dP (q8 hx74)<|dS [5,6,7,8,9,10]<|dP (q8 hx75)<|dS [12,13,14,15,16,17,18]<|dP (q8 hx76)<|dS [20,21,22,23,24,25,26]<|dP (q8 hx77)<|dS [28,29]<|dP (zT (id:=0) (off:=0) (sz:=1) hx78)<|dV (zD 30 (zT (id:=0) (off:=0) (sz:=1) hx78) (zD 27 (q8 hx77) (zD 19 (q8 hx76) (zD 11 (q8 hx75) (zD 4 (q8 hx74) xk))))) 1 0 0 (jw (T:=tyT) (t:=284) (c:=(vI .u32)) (l:=v55) (off:=(0+x78*1)) (x:=ior .u32 (ior .u32 (ior .u32 (wrap .u32 ((wrap .u32 x74)*16777216)) (wrap .u32 ((wrap .u32 x75)*65536))) (wrap .u32 ((wrap .u32 x76)*256))) (wrap .u32 x77)) (uI .u32) O4 hx79)<|dE A0) z)<|zC<|wj yn fun h=>⟨(wrap .i64 (v54+1),x79),h,wk A0⟩)<|yV<|yv<|yM<|jnL A0) fun y40=>rgL<|blL (fun y143=>⟨266,[(0,ql 1 (cI .u32) a0),(5, .sl 1 (List.map (cI .u32) ([1116352408,1899447441,3049323471,3921009573,961987163,1508970993,2453635748,2870763221,3624381080,310598401,607225278,1426881987,1925078388,2162078206,2614888103,3248222580,3835390401,4022224774,264347078,604807628,770255983,1249150122,1555081692,1996064986,2554220882,2821834349,2952996808,3210313671,3336571891,3584528711,113926993,338241895,666307205,773529912,1294757372,1396182291,1695183700,1986661051,2177026350,2456956037,2730485921,2820302411,3259730800,3345764771,3516065817,3600352804,4094571909,275423344,430227734,506948616,659060556,883997877,958139571,1322822218,1537002063,1747873779,1955562222,2024104815,2227730452,2361852424,2428436474,2756734187,3204031479,3329325298]:List Int)) .exact),(6,qp 0)]⟩) (fun y143=>⟨[[.buf (List.map (vI .u32) y143)]],[]⟩) (fun y143=>lpL (fun k x=>zz n  k x.1 x.2) (16,y40) A0 (fun x=>⟨266,[(0,ql 1 (cI .u32) a0),(5, .sl 1 (List.map (cI .u32) ([1116352408,1899447441,3049323471,3921009573,961987163,1508970993,2453635748,2870763221,3624381080,310598401,607225278,1426881987,1925078388,2162078206,2614888103,3248222580,3835390401,4022224774,264347078,604807628,770255983,1249150122,1555081692,1996064986,2554220882,2821834349,2952996808,3210313671,3336571891,3584528711,113926993,338241895,666307205,773529912,1294757372,1396182291,1695183700,1986661051,2177026350,2456956037,2730485921,2820302411,3259730800,3345764771,3516065817,3600352804,4094571909,275423344,430227734,506948616,659060556,883997877,958139571,1322822218,1537002063,1747873779,1955562222,2024104815,2227730452,2361852424,2428436474,2756734187,3204031479,3329325298]:List Int)) .exact),(6,qp 0),(8,qi x.1)]⟩) (fun x=>⟨[[.buf (List.map (vI .u32) x.2)]],[]⟩) fun k x=>by obtain⟨v165,v166⟩:=x; rw [zz]; exact rgL<|bFL (zx<|bEL fun x197 hx197=>bEL fun x198 hx198=>bEL fun x199 hx199=>bEL fun x200 hx200=>lfL (fun z=>zs [0,1,2,3,4,5,6,7,8,9] [] [[],[0],[0,1],[0,1,2],[],[4],[4,5],[4,5,6],[0,1,2,3],[0,1,2,3,4,5,6,7,8]] [0,5,8] [(6,qp 0),(9, .int .u32 x198),(10, .int .u32 x200)] (dS [0,1]<|dP (zT (id:=0) (off:=0) (sz:=1) hx197)<|dP (zR (c:=(vI .u32)) (l:=v166) (off:=(0+x197*1)) hx198)<|dS [4,5]<|dP (zT (id:=0) (off:=0) (sz:=1) hx199)<|dP (zR (c:=(vI .u32)) (l:=v166) (off:=(0+x199*1)) hx200)<|dS [8,9]<|dE A0) z)<|rgL<|rgL<|bEL fun x201 hx201=>bEL fun x202 hx202=>bEL fun x203 hx203=>bEL fun x204 hx204=>bEL fun x205 hx205=>bEL fun x206 hx206=>lfL (fun z=>zmN zF [0,1,2,3,4,5,6,7,8,9,10,11,12,13,14,15] [15] [[],[],[1],[1,2],[1,2,3],[],[1,2,3,4,5],[],[7],[7,8],[7,8,9],[1,2,3,4,5,6,7,8,9,10],[],[1,2,3,4,5,6,7,8,9,10,11,12],[0,1,2,3,4,5,6,7,8,9,10,11,12,13],[0,1,2,3,4,5,6,7,8,9,10,11,12,13,14]] [0,5,8] [(6,qp 0)] ⟨[[.buf (List.map (vI .u32) x206)]],[]⟩ (dS [0,1,2]<|dP (zT (id:=0) (off:=0) (sz:=1) hx201)<|dP (zR (c:=(vI .u32)) (l:=v166) (off:=(0+x201*1)) hx202)<|dS [5,6,7,8]<|dP (zT (id:=0) (off:=0) (sz:=1) hx203)<|dP (zR (c:=(vI .u32)) (l:=v166) (off:=(0+x203*1)) hx204)<|dS [11,12,13]<|dP (zT (id:=0) (off:=0) (sz:=1) hx205)<|dV (zD 14 (zT (id:=0) (off:=0) (sz:=1) hx205) (zD 10 (zR (c:=(vI .u32)) (l:=v166) (off:=(0+x203*1)) hx204) (zD 9 (zT (id:=0) (off:=0) (sz:=1) hx203) (zD 4 (zR (c:=(vI .u32)) (l:=v166) (off:=(0+x201*1)) hx202) (zD 3 (zT (id:=0) (off:=0) (sz:=1) hx201) xk))))) 1 0 0 (jw (T:=tyT) (t:=284) (c:=(vI .u32)) (l:=v166) (off:=(0+x205*1)) (x:=wrap .u32 ((wrap .u32 ((wrap .u32 (x202+(zE .u32 (zE .u32 (ior .u32 (Int.fdiv x198 128) (wrap .u32 (x198*33554432))) (ior .u32 (Int.fdiv x198 262144) (wrap .u32 (x198*16384)))) (Int.fdiv x198 8))))+x204))+(zE .u32 (zE .u32 (ior .u32 (Int.fdiv x200 131072) (wrap .u32 (x200*32768))) (ior .u32 (Int.fdiv x200 524288) (wrap .u32 (x200*8192)))) (Int.fdiv x200 1024)))) (uI .u32) O4 hx206)<|dE A0) z)<|zC<|wj yn fun h=>⟨(wrap .i64 (v165+1),x206),h,wk A0⟩)<|yV<|yv<|yM<|jnL A0) fun y143=>bEL fun x207 hx207=>bEL fun x208 hx208=>bEL fun x209 hx209=>bEL fun x210 hx210=>bEL fun x211 hx211=>bEL fun x212 hx212=>bEL fun x213 hx213=>bEL fun x214 hx214=>lfL (fun z=>zs [0,1,2,3,4,5,6,7,8,9,10,11,12,13,14,15,16,17,18,19,20,21,22,23,24,25,26,27,28,29,30,31] [] [[],[0],[0,1],[],[3],[3,4],[],[6],[6,7],[],[9],[9,10],[],[12],[12,13],[],[15],[15,16],[],[18],[18,19],[],[21],[21,22],[0,1,2],[0,1,2,3,4,5,24],[0,1,2,3,4,5,6,7,8,24,25],[0,1,2,3,4,5,6,7,8,9,10,11,24,25,26],[0,1,2,3,4,5,6,7,8,9,10,11,12,13,14,24,25,26,27],[0,1,2,3,4,5,6,7,8,9,10,11,12,13,14,15,16,17,24,25,26,27,28],[0,1,2,3,4,5,6,7,8,9,10,11,12,13,14,15,16,17,18,19,20,24,25,26,27,28,29],[0,1,2,3,4,5,6,7,8,9,10,11,12,13,14,15,16,17,18,19,20,21,22,23,24,25,26,27,28,29,30]] [0,5] [(6,qp 0),(13, .int .u32 x207),(14, .int .u32 x208),(15, .int .u32 x209),(16, .int .u32 x210),(17, .int .u32 x211),(18, .int .u32 x212),(19, .int .u32 x213),(20, .int .u32 x214)] (dS [0]<|dP (yE (c:=(cI .u32)) (e:=284) (sz:=1) (b:=4) (tok:= .none) hx207)<|dS [2,3]<|dP (yE (c:=(cI .u32)) (e:=284) (sz:=1) (b:=4) (tok:= .none) hx208)<|dS [5,6]<|dP (yE (c:=(cI .u32)) (e:=284) (sz:=1) (b:=4) (tok:= .none) hx209)<|dS [8,9]<|dP (yE (c:=(cI .u32)) (e:=284) (sz:=1) (b:=4) (tok:= .none) hx210)<|dS [11,12]<|dP (yE (c:=(cI .u32)) (e:=284) (sz:=1) (b:=4) (tok:= .none) hx211)<|dS [14,15]<|dP (yE (c:=(cI .u32)) (e:=284) (sz:=1) (b:=4) (tok:= .none) hx212)<|dS [17,18]<|dP (yE (c:=(cI .u32)) (e:=284) (sz:=1) (b:=4) (tok:= .none) hx213)<|dS [20,21]<|dP (yE (c:=(cI .u32)) (e:=284) (sz:=1) (b:=4) (tok:= .none) hx214)<|dS [23,24,25,26,27,28,29,30,31]<|dE A0) z)<|rgL<|blL (fun y250=>⟨266,[(0,ql 1 (cI .u32) a0),(13, .int .u32 y250.1),(14, .int .u32 y250.2.1),(15, .int .u32 y250.2.2.1),(16, .int .u32 y250.2.2.2.1),(17, .int .u32 y250.2.2.2.2.1),(18, .int .u32 y250.2.2.2.2.2.1),(19, .int .u32 y250.2.2.2.2.2.2.1),(20, .int .u32 y250.2.2.2.2.2.2.2)]⟩) (fun y250=>⟨[],[]⟩) (fun y250=>lpL (fun k x=>zA n y143 k x.1 x.2.1 x.2.2.1 x.2.2.2.1 x.2.2.2.2.1 x.2.2.2.2.2.1 x.2.2.2.2.2.2.1 x.2.2.2.2.2.2.2.1 x.2.2.2.2.2.2.2.2) (x207,x208,x209,x210,x211,x212,x213,x214,0) A0 (fun x=>⟨266,[(0,ql 1 (cI .u32) a0),(5, .sl 1 (List.map (cI .u32) ([1116352408,1899447441,3049323471,3921009573,961987163,1508970993,2453635748,2870763221,3624381080,310598401,607225278,1426881987,1925078388,2162078206,2614888103,3248222580,3835390401,4022224774,264347078,604807628,770255983,1249150122,1555081692,1996064986,2554220882,2821834349,2952996808,3210313671,3336571891,3584528711,113926993,338241895,666307205,773529912,1294757372,1396182291,1695183700,1986661051,2177026350,2456956037,2730485921,2820302411,3259730800,3345764771,3516065817,3600352804,4094571909,275423344,430227734,506948616,659060556,883997877,958139571,1322822218,1537002063,1747873779,1955562222,2024104815,2227730452,2361852424,2428436474,2756734187,3204031479,3329325298]:List Int)) .exact),(6,qp 0),(13, .int .u32 x.1),(14, .int .u32 x.2.1),(15, .int .u32 x.2.2.1),(16, .int .u32 x.2.2.2.1),(17, .int .u32 x.2.2.2.2.1),(18, .int .u32 x.2.2.2.2.2.1),(19, .int .u32 x.2.2.2.2.2.2.1),(20, .int .u32 x.2.2.2.2.2.2.2.1),(21,qi x.2.2.2.2.2.2.2.2)]⟩) (fun x=>⟨[[.buf (List.map (vI .u32) y143)]],[]⟩) fun k x=>by obtain⟨v258,v259,v260,v261,v262,v263,v264,v265,v266⟩:=x; rw [zA]; exact rgL<|bFL (zx<|rgL<|bEL fun x276 hx276=>bEL fun x277 hx277=>bEL fun x278 hx278=>lfL (fun z=>zs [0,1,2,3,4,5,6,7,8,9,10,11,12,13,14,15,16,17,18,19,20,21] [] [[],[],[0,1],[],[],[3,4],[],[6],[],[6,7,8],[3,4,5,6,7,8,9],[0,1,2,3,4,5,6,7,8,9,10],[],[],[12,13],[12,13,14],[0,1,2,3,4,5,6,7,8,9,10,11,12,13,14,15],[],[17],[17,18],[0,1,2,3,4,5,6,7,8,9,10,11,12,13,14,15,16,17,18,19],[0,1,2,3,4,5,6,7,8,9,10,11,12,13,14,15,16,17,18,19,20]] [0,5,13,14,15,16,17,18,19,21] [(6,qp 0),(23, .int .u32 (wrap .u32 ((wrap .u32 ((wrap .u32 ((wrap .u32 (v265+(zE .u32 (zE .u32 (ior .u32 (Int.fdiv v262 64) (wrap .u32 (v262*67108864))) (ior .u32 (Int.fdiv v262 2048) (wrap .u32 (v262*2097152)))) (ior .u32 (Int.fdiv v262 33554432) (wrap .u32 (v262*128))))))+(zE .u32 (xC .u32 v262 v263) (xC .u32 (zE .u32 4294967295 v262) v264))))+x276))+x278)))] (dS [0,1,2,3,4,5,6,7,8,9,10,11,12,13]<|dP (yE (c:=(cI .u32)) (e:=284) (sz:=1) (b:=4) (tok:= .exact) hx276)<|dS [15,16,17]<|dP (zT (id:=0) (off:=0) (sz:=1) hx277)<|dP (zR (c:=(vI .u32)) (l:=y143) (off:=(0+x277*1)) hx278)<|dS [20,21]<|dE A0) z)<|rgL<|rgL<|wj zF<|zC<|wj yn fun h=>⟨(wrap .u32 ((wrap .u32 ((wrap .u32 ((wrap .u32 ((wrap .u32 (v265+(zE .u32 (zE .u32 (ior .u32 (Int.fdiv v262 64) (wrap .u32 (v262*67108864))) (ior .u32 (Int.fdiv v262 2048) (wrap .u32 (v262*2097152)))) (ior .u32 (Int.fdiv v262 33554432) (wrap .u32 (v262*128))))))+(zE .u32 (xC .u32 v262 v263) (xC .u32 (zE .u32 4294967295 v262) v264))))+x276))+x278))+(wrap .u32 ((zE .u32 (zE .u32 (ior .u32 (Int.fdiv v258 4) (wrap .u32 (v258*1073741824))) (ior .u32 (Int.fdiv v258 8192) (wrap .u32 (v258*524288)))) (ior .u32 (Int.fdiv v258 4194304) (wrap .u32 (v258*1024))))+(zE .u32 (zE .u32 (xC .u32 v258 v259) (xC .u32 v258 v260)) (xC .u32 v259 v260))))),v258,v259,v260,wrap .u32 (v261+(wrap .u32 ((wrap .u32 ((wrap .u32 ((wrap .u32 (v265+(zE .u32 (zE .u32 (ior .u32 (Int.fdiv v262 64) (wrap .u32 (v262*67108864))) (ior .u32 (Int.fdiv v262 2048) (wrap .u32 (v262*2097152)))) (ior .u32 (Int.fdiv v262 33554432) (wrap .u32 (v262*128))))))+(zE .u32 (xC .u32 v262 v263) (xC .u32 (zE .u32 4294967295 v262) v264))))+x276))+x278))),v262,v263,v264,wrap .i64 (v266+1)),h,wk A0⟩)<|yV<|yv<|yM<|jnL A4) fun y250=>bEL fun x279 hx279=>bEL fun x280 hx280=>bEL fun x281 hx281=>bEL fun x282 hx282=>bEL fun x283 hx283=>bEL fun x284 hx284=>bEL fun x285 hx285=>bEL fun x286 hx286=>lfL (fun z=>zs [0,1,2,3,4,5,6,7,8,9,10,11,12,13,14,15,16,17,18,19,20,21,22,23,24,25,26,27,28,29,30,31,32,33,34,35,36,37,38,39,40,41] [] [[],[0],[0,1],[],[0,1,2,3],[],[5],[5,6],[],[5,6,7,8],[],[10],[10,11],[],[10,11,12,13],[],[15],[15,16],[],[15,16,17,18],[],[20],[20,21],[],[20,21,22,23],[],[25],[25,26],[],[25,26,27,28],[],[30],[30,31],[],[30,31,32,33],[],[35],[35,36],[],[35,36,37,38],[0,1,2,3,4,5,6,7,8,9,10,11,12,13,14,15,16,17,18,19,20,21,22,23,24,25,26,27,28,29,30,31,32,33,34,35,36,37,38,39],[0,1,2,3,4,5,6,7,8,9,10,11,12,13,14,15,16,17,18,19,20,21,22,23,24,25,26,27,28,29,30,31,32,33,34,35,36,37,38,39,40]] [] [(4, .sl 1 (List.map (cI .u32) ([wrap .u32 (x279+y250.1),wrap .u32 (x280+y250.2.1),wrap .u32 (x281+y250.2.2.1),wrap .u32 (x282+y250.2.2.2.1),wrap .u32 (x283+y250.2.2.2.2.1),wrap .u32 (x284+y250.2.2.2.2.2.1),wrap .u32 (x285+y250.2.2.2.2.2.2.1),wrap .u32 (x286+y250.2.2.2.2.2.2.2)]:List Int)) .exact)] (dS [0]<|dP (yE (c:=(cI .u32)) (e:=284) (sz:=1) (b:=4) (tok:= .none) hx279)<|dS [2,3,4,5]<|dP (yE (c:=(cI .u32)) (e:=284) (sz:=1) (b:=4) (tok:= .none) hx280)<|dS [7,8,9,10]<|dP (yE (c:=(cI .u32)) (e:=284) (sz:=1) (b:=4) (tok:= .none) hx281)<|dS [12,13,14,15]<|dP (yE (c:=(cI .u32)) (e:=284) (sz:=1) (b:=4) (tok:= .none) hx282)<|dS [17,18,19,20]<|dP (yE (c:=(cI .u32)) (e:=284) (sz:=1) (b:=4) (tok:= .none) hx283)<|dS [22,23,24,25]<|dP (yE (c:=(cI .u32)) (e:=284) (sz:=1) (b:=4) (tok:= .none) hx284)<|dS [27,28,29,30]<|dP (yE (c:=(cI .u32)) (e:=284) (sz:=1) (b:=4) (tok:= .none) hx285)<|dS [32,33,34,35]<|dP (yE (c:=(cI .u32)) (e:=284) (sz:=1) (b:=4) (tok:= .none) hx286)<|dS [37,38,39,40,41]<|dE J) z)<|xj<|rJ J
def zG (n:Nat)(a0:List Aa):Nat→Aa→Int→Option Aa
 |0,_,_=>none
 | k+1,v22,v23=>
  if(decide (v23<(a0.length:Int)))=true then((xW a0 v23).bind fun x30=>
  (YZ v22 x30).bind fun x31=>
  zG n a0 k x31 (wrap .i64 (v23+1)))else(some v22)
def zH (n:Nat)(y16:Aa)(x35:Nat):Nat→Int→(List Int)→Option (List Int)
 |0,_,_=>none
 | k+1,v63,v64=>
  if(decide (v63<8))=true then((Yi .i64 (wrap .i64 ((8:Int)*(y16.length:Int))) (wrap .i64 ((8:Int)*v63))).bind fun x74=>
  (wZ x35 (wrap .i64 ((wrap .i64 (((x35:Nat):Int)-1))-v63))).bind fun x75=>
  (gA v64 (x75*1) (wrap .u8 x74)).bind fun x76=>
  zH n y16 x35 k (wrap .i64 (v63+1)) x76)else(some v64)
def zy (n:Nat)(x78:Aa):Nat→(List Int)→Int→Option (List Int)
 |0,_,_=>none
 | k+1,v100,v101=>
  if(decide (v101<(x78.length:Int)))=true then((ssl x78 v101 (wrap .i64 (v101+64))).bind fun x108=>
  (yy n v100 x108).bind fun r109=>
  zy n x78 k r109 (wrap .i64 (v101+64)))else(some v100)
def zI (n:Nat)(y94:List Int):Nat→(List Int)→Int→Option (List Int)
 |0,_,_=>none
 | k+1,v132,v133=>
  if(decide (v133<(y94.length:Int)))=true then((xW y94 v133).bind fun x140=>
  (w4 1 v132 ([wrap .u8 (Int.fdiv x140 16777216),wrap .u8 (Int.fdiv x140 65536),wrap .u8 (Int.fdiv x140 256),wrap .u8 x140]:List Int)).bind fun x141=>
  zI n y94 k x141 (wrap .i64 (v133+1)))else(some v132)
def yL (n:Nat)(a0:List Aa):Option Aa:=
 (zG n a0 n ([]:Aa) 0).bind fun y16=>
 (if((wrap .i64 ((64:Int)-(Int.tmod (wrap .i64 ((y16.length:Int)+9)) 64)))==64)=true then(some 0)else(some (wrap .i64 ((64:Int)-(Int.tmod (wrap .i64 ((y16.length:Int)+9)) 64))))).bind fun y33=>
 (U7 1 (wrap .i64 ((9:Int)+y33)) (wrap .i64 ((9:Int)+y33))).bind fun x35=>
 (wZ x35 0).bind fun x36=>
 (gA (List.replicate x35 (0:Int)) (x36*1) 128).bind fun x37=>
 (zH n y16 x35 n 0 x37).bind fun y57=>
 (eC x35 y57).bind fun x77=>
 (YZ y16 x77).bind fun x78=>
 (zy n x78 n ([1779033703,3144134277,1013904242,2773480762,1359893119,2600822924,528734635,1541459225]:List Int) 0).bind fun y94=>
 (Wg 1 32).bind fun x110=>
 (zI n y94 n ([]:List Int) 0).bind fun y126=>
 some (b2s y126)
theorem wB {n:Nat} {a0:(List Aa)} {r:Aa}:yL n a0=some r→AC mx 119 [ql 1 cS a0] [] (qs r) []:=by
 delta yL
 exact fnL Tryz.func119 rfl<|rgL<|rgL<|rCL (kPL 1 (XC (c:=cS) (l:=a0) (e:=9) (sz:=1) (sz':=1) (b:=16) (tok:= .none)) edL)<|blL (fun y16=>⟨97,[(3,qs y16)]⟩) (fun y16=>⟨[],[]⟩) (fun y16=>lpL (fun k x=>zG n a0 k x.1 x.2) (([]:Aa),0) J (fun x=>⟨97,[(3,qs x.1),(15,ql 1 cS a0),(16,qi (a0.length:Int)),(17,qi x.2)]⟩) (fun x=>⟨[],[]⟩) fun k x=>by obtain⟨v22,v23⟩:=x; rw [zG]; exact rgL<|bFL (zx<|bEL fun x30 hx30=>rCL (kPL 0 (yE (c:=cS) (e:=9) (sz:=1) (b:=16) (tok:= .none) hx30) edL)<|bEL fun x31 hx31=>uG zF (kPL 2 (JE (d:=(tyT 9).d) hx31) edL)<|zC<|wj yn fun h=>⟨(x31,wrap .i64 (v23+1)),h,wk J⟩)<|yV<|yv<|yM<|jnL J) fun y16=>rgL<|rgL<|rgL<|rgL<|cuL (fun y33=>⟨97,[(3,qs y16),(6, .sl 1 (List.map (cI .u32) ([1779033703,3144134277,1013904242,2773480762,1359893119,2600822924,528734635,1541459225]:List Int)) .exact),(7,qi (y16.length:Int)),(8,qi y33)]⟩) (fun y33=>⟨[],[]⟩) (fun y33=>bFL (wj yn<|jnL J)<|jnL J) fun y33=>bEL fun x35 hx35=>rCL (lfL (fun z=>kV 2 0 0 0 (lS (T:=tyT) (e:=5) (k1:= .i64) (k2:= .i64) (bytes:=1) (cell:=none) (c:=(vI .u8)) (uI .u8) 0 ⟨O4,O4⟩ hx35) z) edL)<|bEL fun x36 hx36=>bEL fun x37 hx37=>rCL (kPL 1 (Pv (id:=0) (e:=5) (sz:=1) (b:=1) hx36)<|lfL (fun z=>kV 2 1 0 0 (jw (T:=tyT) (t:=5) (c:=(vI .u8)) (l:=List.replicate x35 (0:Int)) (off:=(x36*1)) (x:=128) (uI .u8) O4 hx37) z) edL)<|rgL<|blL (fun y57=>⟨97,[(3,qs y16),(6, .sl 1 (List.map (cI .u32) ([1779033703,3144134277,1013904242,2773480762,1359893119,2600822924,528734635,1541459225]:List Int)) .exact),(9, .own 0 x35 1)]⟩) (fun y57=>⟨[[.buf (List.map (vI .u8) y57)]],[]⟩) (fun y57=>lpL (fun k x=>zH n y16 x35 k x.1 x.2) (0,x37) A0 (fun x=>⟨97,[(3,qs y16),(6, .sl 1 (List.map (cI .u32) ([1779033703,3144134277,1013904242,2773480762,1359893119,2600822924,528734635,1541459225]:List Int)) .exact),(7,qi (y16.length:Int)),(9, .own 0 x35 1),(10,qi x.1)]⟩) (fun x=>⟨[[.buf (List.map (vI .u8) x.2)]],[]⟩) fun k x=>by obtain⟨v63,v64⟩:=x; rw [zH]; exact rgL<|bFL (zx<|bEL fun x74 hx74=>bEL fun x75 hx75=>bEL fun x76 hx76=>uG zF (kPL 10 (Jq (k:= .i64) (d:=(tyT 3).d) (k':= .i64) hx74)<|kPL 12 (Pv (id:=0) (e:=5) (sz:=1) (b:=1) hx75)<|lfL (fun z=>kV 13 1 0 0 (jw (T:=tyT) (t:=5) (c:=(vI .u8)) (l:=v64) (off:=(x75*1)) (x:=wrap .u8 x74) (uI .u8) O4 hx76) z) edL)<|zC<|wj yn fun h=>⟨(wrap .i64 (v63+1),x76),h,wk A0⟩)<|yV<|yv<|yM<|jnL A0) fun y57=>bEL fun x77 hx77=>bEL fun x78 hx78=>rCL (kPL 2 (nY hx77)<|kPL 3 (JE (d:=(tyT 9).d) hx78) edL)<|rgL<|blL (fun y94=>⟨97,[(6,ql 1 (cI .u32) y94)]⟩) (fun y94=>⟨[],[]⟩) (fun y94=>lpL (fun k x=>zy n x78 k x.1 x.2) (([1779033703,3144134277,1013904242,2773480762,1359893119,2600822924,528734635,1541459225]:List Int),0) A4 (fun x=>⟨97,[(3,qs x78),(6,ql 1 (cI .u32) x.1),(11,qi x.2)]⟩) (fun x=>⟨[],[]⟩) fun k x=>by obtain⟨v100,v101⟩:=x; rw [zy]; exact rgL<|bFL (zx<|bEL fun x108 hx108=>bEL fun r109 hr109=>uG zF (kPL 5 (tO (k:= .i64) (k':= .i64) hx108)<|kCL 6 J (uF hr109) edL)<|zC<|wj yn fun h=>⟨(r109,wrap .i64 (v101+64)),h,wk J⟩)<|yV<|yv<|yM<|jnL J) fun y94=>bEL fun x110 hx110=>rCL (lfL (fun z=>kV 0 0 0 0 (Pw (T:=tyT) (e:=5) (k1:= .i64) (k2:= .i64) (bytes:=1) (cell:=none) (c:=(vI .u8)) (uI .u8) 0 ⟨O4,O4⟩ hx110) z) edL)<|rCL (kPL 1 (XC (c:=(cI .u32)) (l:=y94) (e:=284) (sz:=1) (sz':=1) (b:=4) (tok:= .none)) edL)<|blL (fun y126=>⟨97,[(12, .sl 1 (List.map (cI .u8) y126) (.fam 0 (y126.length)))]⟩) (fun y126=>⟨[],[y126.length]⟩) (fun y126=>lpL (fun k x=>zI n y94 k x.1 x.2) (([]:List Int),0) A9 (fun x=>⟨97,[(12, .sl 1 (List.map (cI .u8) x.1) (.fam 0 (x.1.length))),(74,ql 1 (cI .u32) y94),(75,qi (y94.length:Int)),(76,qi x.2)]⟩) (fun x=>⟨[],[x.1.length]⟩) fun k x=>by obtain⟨v132,v133⟩:=x; rw [zI]; exact rgL<|bFL (zx<|bEL fun x140 hx140=>rCL (kPL 0 (yE (c:=(cI .u32)) (e:=284) (sz:=1) (b:=4) (tok:= .none) hx140) edL)<|bEL fun x141 hx141=>uG zF (lfL (fun z=>kA 13 0 (cI .u8) (e:=5) (e2:=5) (sz:=1) (bytes:=1) (b2:=1) (tok2:= .exact) hx141 z) edL)<|zC<|wj yn fun h=>⟨(x141,wrap .i64 (v133+1)),h,wk A9⟩)<|yV<|yv<|yM<|jnL A9) fun y126=>rCL (lfL (fun z=>kB 1 y126 z) edL)<|xj<|rJ ⟨[],0,[],1⟩
def yg (n:Nat)(a0:List Aa):Option Aa:=
 (yL n a0).bind fun r1=>
 (ssl r1 0 16).bind fun x2=>
 some x2
theorem xd {n:Nat} {a0:(List Aa)} {r:Aa}:yg n a0=some r→AC mx 101 [ql 1 cS a0] [] (qs r) []:=by
 delta yg
 exact fnL Tryz.func101 rfl<|rgL<|bEL fun r1 hr1=>bEL fun x2 hx2=>rCL (kCL 1 J (wB hr1)<|kPL 2 (Uu (k:= .i64) hx2) edL)<|xj<|rJ J
def yA (n:Nat)(a0:Int):Option Aa:=
 some (b2s ([wrap .u8 (Int.fdiv a0 16777216),wrap .u8 (Int.fdiv a0 65536),wrap .u8 (Int.fdiv a0 256),wrap .u8 a0]:List Int))
theorem wO {n:Nat} {a0:Int} {r:Aa}:yA n a0=some r→AC mx 102 [qi a0] [] (qs r) []:=by
 delta yA
 exact fnL Tryz.func102 rfl<|rgL<|rCL (lfL (fun z=>kB 12 ([wrap .u8 (Int.fdiv a0 16777216),wrap .u8 (Int.fdiv a0 65536),wrap .u8 (Int.fdiv a0 256),wrap .u8 a0]:List Int) z) edL)<|xj<|rJ J
def zU (n:Nat)(a0:Int):Option Aa:=
 some (b2s ([wrap .u8 a0]:List Int))
theorem xE {n:Nat} {a0:Int} {r:Aa}:zU n a0=some r→AC mx 169 [qi a0] [] (qs r) []:=by
 delta zU
 exact fnL Tryz.func169 rfl<|rgL<|rCL (lfL (fun z=>kB 3 ([wrap .u8 a0]:List Int) z) edL)<|xj<|rJ J
def zO (n:Nat)(a4 a1 a2:Int)(a0:Aa):Nat→Aa→Int→Option Aa
 |0,_,_=>none
 | k+1,v38,v39=>
  if(decide (v39<a4))=true then((yA n a1).bind fun r52=>
  (zU n a2).bind fun r53=>
  (zU n v39).bind fun r54=>
  (yg n ([([67]:Aa),a0,r52,r53,r54,v38]:List Aa)).bind fun r55=>
  zO n a4 a1 a2 a0 k r55 (wrap .i64 (v39+1)))else(some v38)
def xc (n:Nat)(a0:Aa)(a1 a2 a3 a4:Int)(a5:Aa):Option Aa:=
 (zO n a4 a1 a2 a0 n a5 a3).bind fun y28=>
 some y28
theorem u3 {n:Nat} {a0:Aa} {a1:Int} {a2:Int} {a3:Int} {a4:Int} {a5:Aa} {r:Aa}:xc n a0 a1 a2 a3 a4 a5=some r→AC mx 157 [qs a0,qi a1,qi a2,qi a3,qi a4,qs a5] [] (qs r) []:=by
 delta xc
 exact fnL Tryz.func157 rfl<|rgL<|rgL<|blL (fun y28=>⟨31,[(5,qs y28)]⟩) (fun y28=>⟨[],[]⟩) (fun y28=>lpL (fun k x=>zO n a4 a1 a2 a0 k x.1 x.2) (a5,a3) J (fun x=>⟨31,[(0,qs a0),(1,qi a1),(2,qi a2),(4,qi a4),(5,qs x.1),(13,qi x.2)]⟩) (fun x=>⟨[],[]⟩) fun k x=>by obtain⟨v38,v39⟩:=x; rw [zO]; exact rgL<|bFL (zx<|bEL fun r52 hr52=>bEL fun r53 hr53=>bEL fun r54 hr54=>bEL fun r55 hr55=>uG zF (kCL 2 J (wO hr52)<|kCL 4 J (xE hr53)<|kCL 6 J (xE hr54)<|kCL 9 J (xd hr55) edL)<|zC<|wj yn fun h=>⟨(r55,wrap .i64 (v39+1)),h,wk J⟩)<|yV<|yv<|yM<|jnL J) fun y28=>rgL<|xj<|rJ J
def yR (n:Nat)(a0:Aa)(a1 a2:Int):Option Aa:=
 (yA n a1).bind fun r1=>
 (zU n a2).bind fun r2=>
 (yg n ([([83]:Aa),a0,r1,r2]:List Aa)).bind fun r3=>
 some r3
theorem ug {n:Nat} {a0:Aa} {a1:Int} {a2:Int} {r:Aa}:yR n a0 a1 a2=some r→AC mx 158 [qs a0,qi a1,qi a2] [] (qs r) []:=by
 delta yR
 exact fnL Tryz.func158 rfl<|rgL<|bEL fun r1 hr1=>bEL fun r2 hr2=>bEL fun r3 hr3=>rCL (kCL 2 J (wO hr1)<|kCL 4 J (xE hr2)<|kCL 6 J (xd hr3) edL)<|xj<|rJ J
def ky (n:Nat)(a0:Int):Option Aa:=
 some (b2s ([wrap .u8 (Int.fdiv a0 16777216),wrap .u8 (Int.fdiv a0 65536),wrap .u8 (Int.fdiv a0 256),wrap .u8 a0]:List Int))
theorem X8 {n:Nat} {a0:Int} {r:Aa}:ky n a0=some r→AC mx 375 [qi a0] [] (qs r) []:=by
 delta ky
 exact fnL Tryz.func375 rfl<|rgL<|rCL (lfL (fun z=>kB 12 ([wrap .u8 (Int.fdiv a0 16777216),wrap .u8 (Int.fdiv a0 65536),wrap .u8 (Int.fdiv a0 256),wrap .u8 a0]:List Int) z) edL)<|xj<|rJ J
def v7 (n:Nat)(a0:Int):Option Aa:=
 some (b2s ([wrap .u8 a0]:List Int))
theorem gF {n:Nat} {a0:Int} {r:Aa}:v7 n a0=some r→AC mx 376 [qi a0] [] (qs r) []:=by
 delta v7
 exact fnL Tryz.func376 rfl<|rgL<|rCL (lfL (fun z=>kB 3 ([wrap .u8 a0]:List Int) z) edL)<|xj<|rJ J
def xa (n:Nat)(a4 a1 a2:Int)(a0:Aa):Nat→Aa→Int→Option Aa
 |0,_,_=>none
 | k+1,v38,v39=>
  if(decide (v39<a4))=true then((ky n a1).bind fun r52=>
  (v7 n a2).bind fun r53=>
  (v7 n v39).bind fun r54=>
  (wo n ([([67]:Aa),a0,r52,r53,r54,v38]:List Aa)).bind fun r55=>
  xa n a4 a1 a2 a0 k r55 (wrap .i64 (v39+1)))else(some v38)
def uX (n:Nat)(a0:Aa)(a1 a2 a3 a4:Int)(a5:Aa):Option Aa:=
 (xa n a4 a1 a2 a0 n a5 a3).bind fun y28=>
 some y28
theorem Z2 {n:Nat} {a0:Aa} {a1:Int} {a2:Int} {a3:Int} {a4:Int} {a5:Aa} {r:Aa}:uX n a0 a1 a2 a3 a4 a5=some r→AC mx 357 [qs a0,qi a1,qi a2,qi a3,qi a4,qs a5] [] (qs r) []:=by
 delta uX
 exact fnL Tryz.func357 rfl<|rgL<|rgL<|blL (fun y28=>⟨31,[(5,qs y28)]⟩) (fun y28=>⟨[],[]⟩) (fun y28=>lpL (fun k x=>xa n a4 a1 a2 a0 k x.1 x.2) (a5,a3) J (fun x=>⟨31,[(0,qs a0),(1,qi a1),(2,qi a2),(4,qi a4),(5,qs x.1),(13,qi x.2)]⟩) (fun x=>⟨[],[]⟩) fun k x=>by obtain⟨v38,v39⟩:=x; rw [xa]; exact rgL<|bFL (zx<|bEL fun r52 hr52=>bEL fun r53 hr53=>bEL fun r54 hr54=>bEL fun r55 hr55=>uG zF (kCL 2 J (X8 hr52)<|kCL 4 J (gF hr53)<|kCL 6 J (gF hr54)<|kCL 9 J (jA hr55) edL)<|zC<|wj yn fun h=>⟨(r55,wrap .i64 (v39+1)),h,wk J⟩)<|yV<|yv<|yM<|jnL J) fun y28=>rgL<|xj<|rJ J
def ya (n:Nat):Nat→Int→Option Aa
 |0,_=>none
 | kk+1,a0=>
  if(decide (a0<10))=true then(some (b2s ([wrap .u8 (wrap .i64 ((48:Int)+a0))]:List Int)))else(((ya n kk) (wrap .i64 (Int.tdiv a0 10))).bind fun r1=>
  (YZ r1 (b2s ([wrap .u8 (wrap .i64 ((48:Int)+(Int.tmod a0 10)))]:List Int))).bind fun x2=>
  some x2)
theorem jD {n:Nat}:∀(kk:Nat) {a0:Int} {r:Aa} (_:ya n kk a0=some r),AC mx 71 [qi a0] [] (qs r) []:=by
 intro kk
 induction kk with
 |zero=>intro a0 r h; simp [ya]at h
 | succ kk ih=>
  intro a0 r h
  rw [ya]at h
  exact imA h<|fnL Tryz.func71 rfl<|rgL<|rgL<|bFL (rCL (lfL (fun z=>kB 4 ([wrap .u8 (wrap .i64 ((48:Int)+a0))]:List Int) z) edL)<|xj<|rJ J)<|bEL fun r1 hr1=>bEL fun x2 hx2=>lfL (fun z=>zs [0,1,3,4,5,6,7,8,2,9,10] [2] [[],[0],[0,1],[],[3],[3,4],[3,4,5],[3,4,5,6],[3,4,5,6,7],[0,1,2,3,4,5,6,7,8],[0,1,2,3,4,5,6,7,8,9]] [] [(2,qs x2)] (dS [0,1,3,4,5,6,7]<|dP (mV ([wrap .u8 (wrap .i64 ((48:Int)+(Int.tmod a0 10)))]:List Int))<|dC (zD 8 (mV ([wrap .u8 (wrap .i64 ((48:Int)+(Int.tmod a0 10)))]:List Int)) xk) J (ih hr1)<|dP (JE (d:=(tyT 9).d) hx2)<|dS [10]<|dE J) z)<|xj<|rJ J
end Go.Abs
end
end
