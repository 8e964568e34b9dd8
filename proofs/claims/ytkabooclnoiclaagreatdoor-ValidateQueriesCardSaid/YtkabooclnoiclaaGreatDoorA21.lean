/- Abstract values. No condition. -/
import Derived.Test.YtkabooclnoiclaaGreatDoorA20
set_option linter.all false
section
namespace Go.Abs
def oc {R α:Type} (l:List α) (K:List α->R):R:=match l with
 | []=>K []
 |x::r=>oc r fun a=>K (x::a)
def QH {R α:Type}:∀(l:List α) (K:List α->R),oc l K=K l
 | [],K=>rfl
 |x::r,K=>by simp only [oc]; rw [QH r]
def JC {R:Type} (cells:List V) (off:Nat) (new:List V) (K:List V->R):R:=match cells,off with
 |r,0=>oc (new++r.drop new.length) K
 | [],_+1=>K new
 |c::r,off+1=>JC r off new fun a=>K (c::a)
def Bj {R:Type}:∀(cells:List V) (off:Nat) (new:List V) (K:List V->R),JC cells off new K=K (cells.take off++new++cells.drop (off+new.length))
 |r,0,new,K=>by cases r<;>simp [JC,QH]
 | [],off+1,new,K=>by simp [JC]
 | c::r,off+1,new,K=>by
  simp only [JC]; rw [Bj r off new]
  congr 1
  have:off+1+new.length=(off+new.length)+1:=O0;rw [this]; simp
def Yb (place:Nat->Option (Nat×Nat)) (cells:List V):List (Nat×V)->Option (List V)
 | []=>some cells
 | (i,v)::c=>
  match place i with
  |none=>none
  | some (b,size)=>oc v.cells fun vc=>
   bif Nat.beq vc.length size&&Nat.ble (b+vc.length) cells.length&&V.isCells vc then JC cells b vc fun a=>Yb place a c else none
def Jm (place:Nat->Option (Nat×Nat)):∀(a:List (Nat×V)) (cells:List V),Yb place cells a=q9 place cells a
 | [],cells=>rfl
 | (i, v)::c,cells=>by
  simp only [Yb,q9]
  cases place i with
  |none=>rfl
  | some x=>
   obtain⟨b,size⟩:=x;simp only [QH]
   by_cases h:v.cells.length=size∧b+v.cells.length<=cells.length∧V.isCells v.cells=true
   ·have f:(Nat.beq v.cells.length size&&Nat.ble (b+v.cells.length) cells.length&&V.isCells v.cells)=true:=by
     simp only [iF,Nat.beq_eq,Nat.ble_eq]; exact⟨⟨h.1,h.2.1⟩,h.2.2⟩
    rw [iI h,f]; simp only [cond_true];rw [Bj,Jm place c,h.1]
   ·have f:(Nat.beq v.cells.length size&&Nat.ble (b+v.cells.length) cells.length&&V.isCells v.cells)=false:=by
     cases e:(Nat.beq v.cells.length size&&Nat.ble (b+v.cells.length) cells.length&&V.isCells v.cells)with
     |false=>rfl
     | true=>
      simp only [iF,Nat.beq_eq,Nat.ble_eq]at e;exact absurd ⟨e.1.1,e.1.2,e.2⟩ h
    rw [iH h,f]; rfl
def zby (T:TypeId->TI) (st:St) (s d:TI) (x:V):Option V:=
 if s.ok=true then
  match x with
  | .int _ n=>match d.d with
   | .int k=>some (.int k (k.wrap n))
   |_=>none
  | .str b=>match d.d with
   | .str=>some (.str b)
   | .slice e 1 _=>if(T e).d= .int .u8∧s.d= .str then some (.sl 1 (vT b) .none)else none
   |_=>none
  | .nilsl=>match s.d,d.d with
   | .slice e _ _, .str=>if(T e).d= .int .u8 then some (.str [])else none
   |_,_=>none
  | .sl 1 c _=>match s.d,d.d with
   | .slice e _ _, .str=>if(T e).d= .int .u8 then(match jp c with|some b=>some (.str b)|none=>none)else none
   |_,_=>none
  | .rsl id a len _ 1=>match s.d,d.d with
   | .slice e _ _, .str=>if(T e).d= .int .u8 then(match st.vars[id]? with
    |some cells=>if a+len<=cells.length∧V.live cells=true then(match vZ ((cells.drop a).take len)with|some b=>some (.str b)|none=>none)else none
    |none=>none)else none
   |_,_=>none
  | .own id n 1=>match s.d,d.d with
   | .slice e _ _, .str=>if(T e).d= .int .u8 then(match st.vars[id]? with
    |some [.buf cells]=>if n<=cells.length then(match vZ (cells.take n)with|some b=>some (.str b)|none=>none)else none
    |_=>none)else none
   |_,_=>none
  |_=>none
 else none
def vq (T:TypeId->TI) (st:St) (d dx:TD) (s x:V):Option (V×St):=
 match d with
 | .slice e b bytes=>
  if(T e).zok=true∧(T e).zero.cells.length=b∧0<bytes then
  match W0 st dx b x with
  |none=>none
  | some new=>
   if new.length=0 then(match s with| .nilsl=>some (.sl b [] (.fam st.fams.length 0),st.pushFam 0)| .sl a c f=>some (.sl a c f,st)| .own id n a=>some (.own id n a,st)|_=>none)else
   match s with
   | .nilsl=>if 0<b∧new.length*bytes<=140737488355328 then some (.sl b new (.fam st.fams.length new.length),st.pushFam new.length)else none
   | .sl a c f=>
    if a=b∧0<b∧(c.length+new.length)*bytes<=140737488355328 then
     match f with
     | .exact=>some (.sl b (c++new) (.fam st.fams.length (c++new).length),st.pushFam (c++new).length)
     | .fam t p=>if st.fams[t]? =some p then some (.sl b (c++new) (.fam t (p+new.length)),st.setFam t (p+new.length))else none
     | .none=>none
    else none
   | .own id n a=>
    if a=b∧0<b∧(n+new.length)*bytes<=140737488355328 then
     match st.vars[id]? with
     |some [.buf cells]=>if cells.length=n*b then some (.own st.vars.length (n+new.length) b,(st.put id []).push [.buf (cells++new.flatten)])else none
     |_=>none
    else none
   |_=>none
  else none
 |_=>none
def VD (T:TypeId->TI) (st:St) (d:TD) (l c:V):Option (V×St):=
 match d,l,c with
 | .slice e a bytes, .int _ l, .int _ c=>
  if 0<=l∧l<=c∧bytes*c<=140737488355328∧c<=140737488355328∧(T e).zok=true∧(T e).zero.cells.length=a∧0<a∧V.pcells (T e).zero.cells=true then
   (if l=0 then some (.sl a [] (.fam st.fams.length 0),st.pushFam 0)else some (.own st.vars.length l.toNat a,st.push [.buf (wC l.toNat (T e).zero.cells)]))
  else none
 |_,_,_=>none
def Zp (T:TypeId->TI) (st:St) (d:TD) (m k v:V):Option St:=
 match d,m,k with
 | .map kt _, .mapv id, .str b=>if(T kt).d= .str∧V.pure v=true then(match st.vars[id]? with
  |some [.mp a]=>match px (.str b) v a with|some es'=>some (st.put id [.mp es'])|none=>none
  |_=>none)else none
 |_,_,_=>none
def oO (T:TypeId->TI) (st:St) (d:TD) (m k:V) (ok:Bool):Option V:=
 match d,m,k with
 | .map kt et, .mapv id, .str b=>if(T kt).d= .str∧(T et).zok=true then(match st.vars[id]? with
  | some [.mp a]=>match JA b a with
   |some (some v)=>some (if ok then .tuple [v, .bool true]else v)
   |some none=>some (if ok then .tuple [(T et).zero, .bool false]else(T et).zero)
   |none=>none
  |_=>none)else none
 |_,_,_=>none
def X4 (T:TypeId->TI) (st:St) (d dx:TD) (x:V):Option (V×St):=
 match d with
 | .slice e a bytes=>
  if(T e).zok=true∧(T e).zero.cells.length=a∧0<bytes∧0<a then
  match W0 st dx a x with
  |none=>none
  |some new=>if new.length*bytes<=140737488355328 then some (.own st.vars.length new.length a,st.push [.buf new.flatten])else none
  else none
 |_=>none
def Z0 (T:TypeId->TI) (d:TD) (len:Nat) (a:List (Nat×V)):Option V:=
 match d with
 | .slice e b _=>
  if len*b<=16777216∧(T e).zok=true∧(T e).zero.cells.length=b∧0<b then
   match Yb (fun i=>some (i*b,b)) (wC len (T e).zero.cells) a with
   |some cells=>if V.pcells cells=true then some (.sl b (jw b len cells) .exact)else none
   |none=>none
  else none
 |_=>none
def pp (T:TypeId->TI) (d:TD) (len:Nat) (a:List (Nat×V)):Option V:=Z0 T d len (a.map fun p=>(p.1,V.pur p.2))
def Ka (t:TI) (a:List (Nat×V)):Option V:=
 if t.zok=true then
 match t.d with
 | .struct c=>match Yb (fun i=>c[i]?) t.zero.cells a with|some cells=>some (.agg cells)|none=>none
 | .arr _ b=>match Yb (fun i=>some (i*b,b)) t.zero.cells a with|some cells=>some (.agg cells)|none=>none
 |_=>none
 else none
def Wq (T:TypeId->TI) (st:St) (b:Builtin) (c:List TI) (args:List V):Option (V×St):=
 match b,c,args with
 | .len,[t],[.mapv id]=>match t.d,st.vars[id]? with| .map _ _,some [.mp a]=>some (.int .i64 (a.length/2:Nat),st)|_,_=>none
 | .len,[t],[x]=>match GQ t.d x with|some v=>some (v,st)|none=>none
 | .append,[t,tx],[s,x]=>vq T st t.d tx.d s x
 | .min,_,x::r=>match Ds x r with|some v=>some (v,st)|none=>none
 |_,_,_=>none
def Yi (T:TypeId->TI) (st:St) (b:Builtin) (args:List Operand) (tys:List TypeId) (ev:Operand->V):Option (V×St):=
 match b,args,tys with
 | .append,[.const (.slice none 0 0),x],[t,tx]=>X4 T st (T t).d (T tx).d (ev x)
 |b,args,tys=>Wq T st b (tys.map (T)) (args.map ev)
def vP (T:TypeId->TI) (gl:Nat->List V) (fr:AFr) (st:St):Op->Option (V×St)
 | .move x| .assign x=>some (fr.eval x,st)
 | .pick c a b=>match fr.eval c with| .bool t=>some (if t then fr.eval a else fr.eval b,st)|_=>none
 | .alloc e=>if(T e).zok=true∧V.isCells (T e).zero.cells=true then some (.ptr st.vars.length 0,st.push (T e).zero.cells)else none
 | .box _ x=>if V.isCells (fr.eval x).cells=true then some (.ptr st.vars.length 0,st.push (fr.eval x).cells)else none
 | .build t parts=>match Ka (T t) (parts.toList.map fun(i,x)=>(i,fr.eval x))with|some v=>some (v,st)|none=>none
 | .buildSlice t len parts=>match pp T (T t).d len (parts.toList.map fun(i,x)=>(i,fr.eval x))with|some v=>some (v,st)|none=>none
 | .load t a=>match Xc gl st (fr.eval a) (T t).sz (T t).d.agg with|some v=>if(T t).ok=true∧(T t).d≠ .other then some (v,st)else none|none=>none
 | .store t a x=>match YD st (fr.eval a) (fr.eval x) (T t).sz with|some st'=>if(T t).ok=true then some (.junk,st')else none|none=>none
 | .nilCheck x=>match fr.eval x with
  | .ptr id off=>some (.ptr id off,st)
  | .eptr a b=>some (.eptr a b,st)
  | .gptr g off=>some (.gptr g off,st)
  | .func (.func f) a b=>some (.func (.func f) a b,st)
  |_=>none
 | .binOp op t x y _=>if(T t).d≠ .other then(match YN op (T t).d (fr.eval x) (fr.eval y)with|some v=>some (v,st)|none=>(match V7 op (T t).eqs (fr.eval x) (fr.eval y)with|some v=>some (v,st)|none=>none))else none
 | .unOp op _ x=>match aun op (fr.eval x)with|some v=>some (v,st)|none=>none
 | .convert s d x=>match zby T st (T s) (T d) (fr.eval x)with|some v=>some (v,st)|none=>none
 | .extract t ix=>match fr.eval t with| .tuple vs=>(match vs[ix]? with|some v=>some (v,st)|none=>none)|_=>none
 | .fieldAddr s x f=>match(T s).d with
  | .struct fs=>match fs[f]? with
   |some (off,n)=>if n=0 then none else(match(fr.eval x).add off with|some v=>some (v,st)|none=>none)
   |none=>none
  |_=>none
 | .field s x f=>match Qu (T s) T (fr.eval x) f with|some v=>some (v,st)|none=>none
 | .indexAddr t x i=>match fr.eval i with
  | .int _ i=>(match vN (T t).d (fr.eval x) i with|some v=>some (v,st)|none=>none)
  |_=>none
 | .index t x i=>match fr.eval i with
  | .int _ i=>(match XN (T t).d (fr.eval x) i with|some v=>some (v,st)|none=>none)
  |_=>none
 | .slice t x lo hi mx=>match jk (T t).d (fr.eval x) (lo.map fr.eval) (hi.map fr.eval) (mx.map fr.eval)with|some v=>some (v,st)|none=>none
 | .makeSlice t l c=>VD T st (T t).d (fr.eval l) (fr.eval c)
 | .makeMap _ none=>some (.mapv st.vars.length,st.push [.mp []])
 | .mapUpdate t m k x=>match Zp T st (T t).d (fr.eval m) (fr.eval k) (fr.eval x)with|some st'=>some (.junk,st')|none=>none
 | .lookup t m k ok=>match oO T st (T t).d (fr.eval m) (fr.eval k) ok with|some v=>some (v,st)|none=>none
 | .range t x=>match(T t).d,fr.eval x with| .str, .str s=>some (.iter st.vars.length,st.push [.sit s 0])|_,_=>none
 | .next it true=>Wv st (fr.eval it)
 | .makeFunc fn first captured=>some (.func fn (first.toList.map fr.eval) (captured.toList.map fr.eval),st)
 | .call {callee:= .builtin b,args,argTypes}=>Yi T st b args.toList argTypes.toList fr.eval
 |_=>none
theorem jq (P:Program):vP (ti P)=xc P:=by
 have hf: @Yb= @q9:=by funext p c l; exact Jm p l c
 have h1:pp (ti P)=gf P:=by
  funext d len parts; unfold pp gf Z0 j5; rw [hf]; rfl
 have h2:Ka=VY:=by funext t parts; unfold Ka VY; rw [hf]; rfl
 funext gl fr st o
 cases o with
 |makeMap t r=>cases r<;>rfl
 |next it b=>cases b<;>rfl
 |build t parts=>simp only [vP,xc,h2]; rfl
 |buildSlice t len parts=>simp only [vP,xc,h1]; rfl
 | call c=>
  obtain⟨cal,args,tys⟩:=c
  cases cal with
  | builtin b=>
   have hb:Wq (ti P)=qN P:=by
    funext st b ts args; unfold Wq qN
    have ha:vq (ti P)=Y7 P:=by funext st d dx s x; rfl
    rw [ha]; rfl
   have ho:Yi (ti P)=jW P:=by
    funext st b args tys ev; unfold Yi jW; rw [hb]; rfl
   simp only [vP,xc,ho]
  |_=>rfl
 |_=>rfl
end Go.Abs
end
