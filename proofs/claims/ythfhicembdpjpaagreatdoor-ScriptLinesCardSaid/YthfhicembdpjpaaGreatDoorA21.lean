/- Abstract values: a part. No condition beyond each statement's own. -/
import Derived.Test.YthfhicembdpjpaaGreatDoorA20
set_option linter.all false
section
namespace Go.Abs
def GF {R α:Type} (l:List α) (K:List α→R):R:=match l with
 | []=>K []
 |x::r=>GF r fun r'=>K (x::r')
theorem Jb {R α:Type}:∀(l:List α) (K:List α→R),GF l K=K l
 | [],K=>rfl
 |x::r,K=>by simp only [GF]; rw [Jb r]
def UO {R:Type} (cells:List V) (off:Nat) (new:List V) (K:List V→R):R:=match cells,off with
 |r,0=>GF (new++r.drop new.length) K
 | [],_+1=>K new
 |c::r,off+1=>UO r off new fun r'=>K (c::r')
theorem JR {R:Type}:∀(cells:List V) (off:Nat) (new:List V) (K:List V→R),UO cells off new K=K (cells.take off++new++cells.drop (off+new.length))
 |r,0,new,K=>by cases r<;>simp [UO,Jb]
 | [],off+1,new,K=>by simp [UO]
 | c::r,off+1,new,K=>by
  simp only [UO]; rw [JR r off new]
  congr 1
  have:off+1+new.length=(off+new.length)+1:=O0
  rw [this]; simp
def Xw (place:Nat→Option (Nat×Nat)) (cells:List V):List (Nat×V)→Option (List V)
 | []=>some cells
 | (i,v)::rest=>
  match place i with
  |none=>none
  | some (off,size)=>GF v.cells fun vc=>
   bif Nat.beq vc.length size&&Nat.ble (off+vc.length) cells.length&&V.isCells vc then UO cells off vc fun cells'=>Xw place cells' rest else none
theorem UA (place:Nat→Option (Nat×Nat)):∀(parts:List (Nat×V)) (cells:List V),Xw place cells parts=d8 place cells parts
 | [],cells=>rfl
 | (i, v)::rest,cells=>by
  simp only [Xw,d8]
  cases place i with
  |none=>rfl
  | some x=>
   obtain⟨off,size⟩:=x
   simp only [Jb]
   by_cases h:v.cells.length=size∧off+v.cells.length≤cells.length∧V.isCells v.cells=true
   ·have hb:(Nat.beq v.cells.length size&&Nat.ble (off+v.cells.length) cells.length&&V.isCells v.cells)=true:=by
     simp only [iE,Nat.beq_eq,Nat.ble_eq]; exact⟨⟨h.1,h.2.1⟩,h.2.2⟩
    rw [if_pos h,hb]; simp only [cond_true]
    rw [JR,UA place rest,h.1]
   ·have hb:(Nat.beq v.cells.length size&&Nat.ble (off+v.cells.length) cells.length&&V.isCells v.cells)=false:=by
     cases hq:(Nat.beq v.cells.length size&&Nat.ble (off+v.cells.length) cells.length&&V.isCells v.cells)with
     |false=>rfl
     | true=>
      simp only [iE,Nat.beq_eq,Nat.ble_eq]at hq
      exact absurd ⟨hq.1.1,hq.1.2,hq.2⟩ h
    rw [if_neg h,hb]; rfl
def Py (T:TypeId→TI) (st:St) (s d:TI) (x:V):Option V:=
 if s.ok=true then
  match x with
  | .int _ n=>match d.d with
   | .int k=>some (.int k (k.wrap n))
   |_=>none
  | .str b=>match d.d with
   | .str=>some (.str b)
   | .slice e 1 _=>if(T e).d= .int .u8∧s.d= .str then some (.sl 1 (qB b) .none)else none
   |_=>none
  | .nilsl=>match s.d,d.d with
   | .slice e _ _, .str=>if(T e).d= .int .u8 then some (.str [])else none
   |_,_=>none
  | .sl 1 es _=>match s.d,d.d with
   | .slice e _ _, .str=>if(T e).d= .int .u8 then(match bB es with|some b=>some (.str b)|none=>none)else none
   |_,_=>none
  | .rsl id off len _ 1=>match s.d,d.d with
   | .slice e _ _, .str=>if(T e).d= .int .u8 then(match st.vars[id]? with
    |some cells=>if off+len≤cells.length∧V.live cells=true then(match k7 ((cells.drop off).take len)with|some b=>some (.str b)|none=>none)else none
    |none=>none)else none
   |_,_=>none
  | .own id n 1=>match s.d,d.d with
   | .slice e _ _, .str=>if(T e).d= .int .u8 then(match st.vars[id]? with
    |some [.buf cells]=>if n≤cells.length then(match k7 (cells.take n)with|some b=>some (.str b)|none=>none)else none
    |_=>none)else none
   |_,_=>none
  |_=>none
 else none
def vL (T:TypeId→TI) (st:St) (d dx:TD) (s x:V):Option (V×St):=
 match d with
 | .slice e sz bytes=>
  if(T e).zok=true∧(T e).zero.cells.length=sz∧0<bytes then
  match Wb st dx sz x with
  |none=>none
  | some new=>
   if new.length=0 then(match s with| .nilsl=>some (.sl sz [] (.fam st.fams.length 0),st.pushFam 0)| .sl sz' es tok=>some (.sl sz' es tok,st)| .own id n sz'=>some (.own id n sz',st)|_=>none)else
   match s with
   | .nilsl=>if 0<sz∧new.length*bytes≤140737488355328 then some (.sl sz new (.fam st.fams.length new.length),st.pushFam new.length)else none
   | .sl sz' es tok=>
    if sz'=sz∧0<sz∧(es.length+new.length)*bytes≤140737488355328 then
     match tok with
     | .exact=>some (.sl sz (es++new) (.fam st.fams.length (es++new).length),st.pushFam (es++new).length)
     | .fam t p=>if st.fams[t]? =some p then some (.sl sz (es++new) (.fam t (p+new.length)),st.setFam t (p+new.length))else none
     | .none=>none
    else none
   | .own id n sz'=>
    if sz'=sz∧0<sz∧0<n∧(n+new.length)*bytes≤140737488355328 then
     match st.vars[id]? with
     |some [.buf cells]=>if cells.length=n*sz then some (.own st.vars.length (n+new.length) sz,(st.put id []).push [.buf (cells++new.flatten)])else none
     |_=>none
    else none
   |_=>none
  else none
 |_=>none
def Vz (T:TypeId→TI) (st:St) (d:TD) (l c:V):Option (V×St):=
 match d,l,c with
 | .slice e sz bytes, .int _ l, .int _ c=>
  if 0≤l∧l≤c∧bytes*c≤140737488355328∧c≤140737488355328∧(T e).zok=true∧(T e).zero.cells.length=sz∧0<sz∧V.pcells (T e).zero.cells=true then
   (if l=0 then some (.sl sz [] (.fam st.fams.length 0),st.pushFam 0)else some (.own st.vars.length l.toNat sz,st.push [.buf (uh l.toNat (T e).zero.cells)]))
  else none
 |_,_,_=>none
def Qs (T:TypeId→TI) (st:St) (d:TD) (m k v:V):Option St:=
 match d,m,k with
 | .map kt _, .mapv id, .str b=>if(T kt).d= .str∧V.pure v=true then(match st.vars[id]? with
  |some [.mp es]=>match Xn (.str b) v es with|some es'=>some (st.put id [.mp es'])|none=>none
  |_=>none)else none
 |_,_,_=>none
def GQ (T:TypeId→TI) (st:St) (d:TD) (m k:V) (ok:Bool):Option V:=
 match d,m,k with
 | .map kt et, .mapv id, .str b=>if(T kt).d= .str∧(T et).zok=true then(match st.vars[id]? with
  | some [.mp es]=>match UL b es with
   |some (some v)=>some (if ok then .tuple [v, .bool true]else v)
   |some none=>some (if ok then .tuple [(T et).zero, .bool false]else(T et).zero)
   |none=>none
  |_=>none)else none
 |_,_,_=>none
def Z3 (T:TypeId→TI) (st:St) (d dx:TD) (x:V):Option (V×St):=
 match d with
 | .slice e sz bytes=>
  if(T e).zok=true∧(T e).zero.cells.length=sz∧0<bytes∧0<sz then
  match Wb st dx sz x with
  |none=>none
  |some new=>if new.length*bytes≤140737488355328 then some (.own st.vars.length new.length sz,st.push [.buf new.flatten])else none
  else none
 |_=>none
def Xp (T:TypeId→TI) (d:TD) (len:Nat) (parts:List (Nat×V)):Option V:=
 match d with
 | .slice e sz _=>
  if len*sz≤16777216∧(T e).zok=true∧(T e).zero.cells.length=sz∧0<sz then
   match Xw (fun i=>some (i*sz,sz)) (uh len (T e).zero.cells) parts with
   |some cells=>if V.pcells cells=true then some (.sl sz (bw sz len cells) .exact)else none
   |none=>none
  else none
 |_=>none
def Yv (T:TypeId→TI) (d:TD) (len:Nat) (parts:List (Nat×V)):Option V:=Xp T d len (parts.map fun p=>(p.1,V.pur p.2))
def Jl (t:TI) (parts:List (Nat×V)):Option V:=
 if t.zok=true then
 match t.d with
 | .struct fs=>match Xw (fun i=>fs[i]?) t.zero.cells parts with|some cells=>some (.agg cells)|none=>none
 | .arr _ sz=>match Xw (fun i=>some (i*sz,sz)) t.zero.cells parts with|some cells=>some (.agg cells)|none=>none
 |_=>none
 else none
def WZ (T:TypeId→TI) (st:St) (b:Builtin) (ts:List TI) (args:List V):Option (V×St):=
 match b,ts,args with
 | .len,[t],[.mapv id]=>match t.d,st.vars[id]? with| .map _ _,some [.mp es]=>some (.int .i64 (es.length/2:Nat),st)|_,_=>none
 | .len,[t],[x]=>match QC t.d x with|some v=>some (v,st)|none=>none
 | .append,[t,tx],[s,x]=>vL T st t.d tx.d s x
 | .min,_,x::r=>match QV x r with|some v=>some (v,st)|none=>none
 |_,_,_=>none
def XA (T:TypeId→TI) (st:St) (b:Builtin) (args:List Operand) (tys:List TypeId) (ev:Operand→V):Option (V×St):=
 match b,args,tys with
 | .append,[.const (.slice none 0 0),x],[t,tx]=>Z3 T st (T t).d (T tx).d (ev x)
 |b,args,tys=>WZ T st b (tys.map (T)) (args.map ev)
def B4 (T:TypeId→TI) (x:V) (t:TypeId) (ok:Bool):Option V:=
 if (T t).ok=true∧(T t).d≠ .iface∧(T t).d≠ .other then
  match x with
  | .iface u v=>if u=t then some (if ok=true then .tuple [v, .bool true]else v)else(if ok=true∧(T t).zok=true then some (.tuple [(T t).zero, .bool false])else none)
  | .niliface=>if ok=true∧(T t).zok=true then some (.tuple [(T t).zero, .bool false])else none
  |_=>none
 else none
def jp (T:TypeId→TI) (gl:Nat→List V) (fr:AFr) (st:St):Op→Option (V×St)
 | .move x| .assign x=>some (fr.eval x,st)
 | .pick c a b=>match fr.eval c with| .bool t=>some (if t then fr.eval a else fr.eval b,st)|_=>none
 | .alloc e=>if(T e).zok=true∧V.isCells (T e).zero.cells=true then some (.ptr st.vars.length 0,st.push (T e).zero.cells)else none
 | .box _ x=>if V.isCells (fr.eval x).cells=true then some (.ptr st.vars.length 0,st.push (fr.eval x).cells)else none
 | .build t parts=>match Jl (T t) (parts.toList.map fun(i,x)=>(i,fr.eval x))with|some v=>some (v,st)|none=>none
 | .buildSlice t len parts=>match Yv T (T t).d len (parts.toList.map fun(i,x)=>(i,fr.eval x))with|some v=>some (v,st)|none=>none
 | .load t a=>match X9 gl st (fr.eval a) (T t).sz (T t).d.agg with|some v=>if(T t).ok=true∧(T t).d≠ .other then some (v,st)else none|none=>none
 | .store t a x=>match XK st (fr.eval a) (fr.eval x) (T t).sz with|some st'=>if(T t).ok=true then some (.junk,st')else none|none=>none
 | .nilCheck x=>match fr.eval x with
  | .ptr id off=>some (.ptr id off,st)
  | .eptr a b=>some (.eptr a b,st)
  | .gptr g off=>some (.gptr g off,st)
  | .func (.func f) a b=>some (.func (.func f) a b,st)
  |_=>none
 | .binOp op t x y _=>if(T t).d≠ .other then(match XW op (T t).d (fr.eval x) (fr.eval y)with|some v=>some (v,st)|none=>(match KL op (T t).eqs (fr.eval x) (fr.eval y)with|some v=>some (v,st)|none=>(match KK op (T t).d (fr.eval x) y with|some v=>some (v,st)|none=>none)))else none
 | .unOp op _ x=>match aun op (fr.eval x)with|some v=>some (v,st)|none=>none
 | .convert s d x=>match Py T st (T s) (T d) (fr.eval x)with|some v=>some (v,st)|none=>none
 | .extract t ix=>match fr.eval t with| .tuple vs=>(match vs[ix]? with|some v=>some (v,st)|none=>none)|_=>none
 | .fieldAddr s x f=>match(T s).d with
  | .struct fs=>match fs[f]? with
   |some (off,n)=>if n=0 then none else(match(fr.eval x).add off with|some v=>some (v,st)|none=>none)
   |none=>none
  |_=>none
 | .field s x f=>match U9 (T s) (T) (fr.eval x) f with|some v=>some (v,st)|none=>none
 | .indexAddr t x i=>match fr.eval i with
  | .int _ i=>(match kp (T t).d (fr.eval x) i with|some v=>some (v,st)|none=>none)
  |_=>none
 | .index t x i=>match fr.eval i with
  | .int _ i=>(match WA (T t).d (fr.eval x) i with|some v=>some (v,st)|none=>none)
  |_=>none
 | .slice t x lo hi mx=>match bt (T t).d (fr.eval x) (lo.map fr.eval) (hi.map fr.eval) (mx.map fr.eval)with|some v=>some (v,st)|none=>none
 | .makeSlice t l c=>Vz T st (T t).d (fr.eval l) (fr.eval c)
 | .makeMap _ none=>some (.mapv st.vars.length,st.push [.mp []])
 | .mapUpdate t m k x=>match Qs T st (T t).d (fr.eval m) (fr.eval k) (fr.eval x)with|some st'=>some (.junk,st')|none=>none
 | .lookup t m k ok=>match GQ T st (T t).d (fr.eval m) (fr.eval k) ok with|some v=>some (v,st)|none=>none
 | .range t x=>match(T t).d,fr.eval x with| .str, .str s=>some (.iter st.vars.length,st.push [.sit s 0])|_,_=>none
 | .next it true=>W3 st (fr.eval it)
 | .makeFunc fn first captured=>some (.func fn (first.toList.map fr.eval) (captured.toList.map fr.eval),st)
 | .makeInterface t x=>if(T t).ok=true∧(T t).d≠ .iface then some (.iface t (fr.eval x),st)else none
 | .typeAssert x _ t ok=>match B4 T (fr.eval x) t ok with|some v=>some (v,st)|none=>none
 | .call {callee:= .builtin b,args,argTypes}=>XA T st b args.toList argTypes.toList fr.eval
 |_=>none
theorem kW (P:Program):jp (ti P)=xY P:=by
 have hf: @Xw= @d8:=by funext p c l; exact UA p l c
 have h1:Yv (ti P)=Zt P:=by
  funext d len parts; unfold Yv Zt Xp gR; rw [hf]; rfl
 have h2:Jl=VJ:=by funext t parts; unfold Jl VJ; rw [hf]; rfl
 funext gl fr st o
 cases o with
 |makeMap t r=>cases r<;>rfl
 |next it b=>cases b<;>rfl
 |build t parts=>simp only [jp,xY,h2]; rfl
 |buildSlice t len parts=>simp only [jp,xY,h1]; rfl
 | call c=>
  obtain⟨cal,args,tys⟩:=c
  cases cal with
  | builtin b=>
   have hb:WZ (ti P)=dO P:=by
    funext st b ts args; unfold WZ dO
    have ha:vL (ti P)=X6 P:=by funext st d dx s x; rfl
    rw [ha]; rfl
   have ho:XA (ti P)=gG P:=by
    funext st b args tys ev; unfold XA gG; rw [hb]; rfl
   simp only [jp,xY,ho]
  |_=>rfl
 |_=>rfl
end Go.Abs
end
