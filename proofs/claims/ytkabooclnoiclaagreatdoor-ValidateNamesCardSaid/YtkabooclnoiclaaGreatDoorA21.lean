/- Layer: an abstract reading of values and worlds, and that the model's operations, regions, loops and calls keep to it. No condition beyond each statement's own. -/
import Derived.Test.YtkabooclnoiclaaGreatDoorA20
set_option linter.unusedVariables false
set_option linter.unusedSimpArgs false
set_option linter.unnecessarySimpa false
section
namespace Go.Abs
def DH {R α:Type} (l:List α) (K:List α→R):R:=match l with
 | []=>K []
 |x::r=>DH r fun r'=>K (x::r')
theorem Wa {R α:Type}:∀(l:List α) (K:List α→R),DH l K=K l
 | [],K=>rfl
 |x::r,K=>by simp only [DH]; rw [Wa r]
def YZ {R:Type} (cells:List V) (off:Nat) (new:List V) (K:List V→R):R:=match cells,off with
 |r,0=>DH (new++r.drop new.length) K
 | [],_+1=>K new
 |c::r,off+1=>YZ r off new fun r'=>K (c::r')
theorem Vd {R:Type}:∀(cells:List V) (off:Nat) (new:List V) (K:List V→R),YZ cells off new K=K (cells.take off++new++cells.drop (off+new.length))
 |r,0,new,K=>by cases r<;>simp [YZ,Wa]
 | [],off+1,new,K=>by simp [YZ]
 | c::r,off+1,new,K=>by
  simp only [YZ]; rw [Vd r off new]
  congr 1
  have:off+1+new.length=(off+new.length)+1:=by omega
  rw [this]; simp
def bh (place:Nat→Option (Nat×Nat)) (cells:List V):List (Nat×V)→Option (List V)
 | []=>some cells
 | (i,v)::rest=>
  match place i with
  |none=>none
  | some (off,size)=>DH v.cells fun vc=>
   bif Nat.beq vc.length size&&Nat.ble (off+vc.length) cells.length&&V.isCells vc then YZ cells off vc fun cells'=>bh place cells' rest else none
theorem YL (place:Nat→Option (Nat×Nat)):∀(parts:List (Nat×V)) (cells:List V),bh place cells parts=vy place cells parts
 | [],cells=>rfl
 | (i, v)::rest,cells=>by
  simp only [bh,vy]
  cases place i with
  |none=>rfl
  | some x=>
   obtain⟨off,size⟩:=x
   simp only [Wa]
   by_cases h:v.cells.length=size∧off+v.cells.length≤cells.length∧V.isCells v.cells=true
   ·have hb:(Nat.beq v.cells.length size&&Nat.ble (off+v.cells.length) cells.length&&V.isCells v.cells)=true:=by
     simp only [Bool.and_eq_true,Nat.beq_eq,Nat.ble_eq]; exact⟨⟨h.1,h.2.1⟩,h.2.2⟩
    rw [if_pos h,hb]; simp only [cond_true]
    rw [Vd,YL place rest,h.1]
   ·have hb:(Nat.beq v.cells.length size&&Nat.ble (off+v.cells.length) cells.length&&V.isCells v.cells)=false:=by
     cases hq:(Nat.beq v.cells.length size&&Nat.ble (off+v.cells.length) cells.length&&V.isCells v.cells)with
     |false=>rfl
     | true=>
      simp only [Bool.and_eq_true,Nat.beq_eq,Nat.ble_eq]at hq
      exact absurd ⟨hq.1.1,hq.1.2,hq.2⟩ h
    rw [if_neg h,hb]; rfl
def mF (T:TypeId→TI) (st:St) (s d:TI) (x:V):Option V:=
 if s.ok=true then
  match x with
  | .int _ n=>match d.d with
   | .int k=>some (.int k (k.wrap n))
   |_=>none
  | .str b=>match d.d with
   | .str=>some (.str b)
   | .slice e 1 _=>if(T e).d= .int .u8∧s.d= .str then some (.sl 1 (xB b) .none)else none
   |_=>none
  | .nilsl=>match s.d,d.d with
   | .slice e _ _, .str=>if(T e).d= .int .u8 then some (.str [])else none
   |_,_=>none
  | .sl 1 es _=>match s.d,d.d with
   | .slice e _ _, .str=>if(T e).d= .int .u8 then(match xX es with|some b=>some (.str b)|none=>none)else none
   |_,_=>none
  | .rsl id off len _ 1=>match s.d,d.d with
   | .slice e _ _, .str=>if(T e).d= .int .u8 then(match st.vars[id]? with
    |some cells=>if off+len≤cells.length∧V.live cells=true then(match xc ((cells.drop off).take len)with|some b=>some (.str b)|none=>none)else none
    |none=>none)else none
   |_,_=>none
  | .own id n 1=>match s.d,d.d with
   | .slice e _ _, .str=>if(T e).d= .int .u8 then(match st.vars[id]? with
    |some [.buf cells]=>if n≤cells.length then(match xc (cells.take n)with|some b=>some (.str b)|none=>none)else none
    |_=>none)else none
   |_,_=>none
  |_=>none
 else none
def wh (T:TypeId→TI) (st:St) (d dx:TD) (s x:V):Option (V×St):=
 match d with
 | .slice e sz bytes=>
  if(T e).zok=true∧(T e).zero.cells.length=sz∧0<bytes then
  match Yx st dx sz x with
  |none=>none
  | some new=>
   if new.length=0 then(match s with| .nilsl=>some (.sl sz [] (.fam st.fams.length 0),st.pushFam 0)| .sl sz' es tok=>some (.sl sz' es tok,st)| .own id n sz'=>some (.own id n sz',st)|_=>none)else
   match s with
   | .nilsl=>if 0<sz∧new.length*bytes≤140737488355328 then some (.sl sz new (.fam st.fams.length new.length),st.pushFam new.length)else none
   | .sl sz' es tok=>
    if sz'=sz∧0<sz∧(es.length+new.length)*bytes≤140737488355328 then
     match tok with
     | .exact=>some (.sl sz (es++new) (.fam st.fams.length (es++new).length),st.pushFam (es++new).length)
     | .fam t p=>if st.fams[t]? =some p then some (.sl sz (es++new) (.fam t (p+new.length)),st.setFam t (p+new.length))else none
     | .none=>none
    else none
   | .own id n sz'=>
    if sz'=sz∧0<sz∧(n+new.length)*bytes≤140737488355328 then
     match st.vars[id]? with
     |some [.buf cells]=>if cells.length=n*sz then some (.own st.vars.length (n+new.length) sz,(st.put id []).push [.buf (cells++new.flatten)])else none
     |_=>none
    else none
   |_=>none
  else none
 |_=>none
def Zd (T:TypeId→TI) (st:St) (d:TD) (l c:V):Option (V×St):=
 match d,l,c with
 | .slice e sz bytes, .int _ l, .int _ c=>
  if 0≤l∧l≤c∧bytes*c≤140737488355328∧c≤140737488355328∧(T e).zok=true∧(T e).zero.cells.length=sz∧0<sz∧V.pcells (T e).zero.cells=true then
   (if l=0 then some (.sl sz [] (.fam st.fams.length 0),st.pushFam 0)else some (.own st.vars.length l.toNat sz,st.push [.buf (yr l.toNat (T e).zero.cells)]))
  else none
 |_,_,_=>none
def Uj (T:TypeId→TI) (st:St) (d:TD) (m k v:V):Option St:=
 match d,m,k with
 | .map kt _, .mapv id, .str b=>if(T kt).d= .str∧V.pure v=true then(match st.vars[id]? with
  |some [.mp es]=>match kR (.str b) v es with|some es'=>some (st.put id [.mp es'])|none=>none
  |_=>none)else none
 |_,_,_=>none
def D7 (T:TypeId→TI) (st:St) (d:TD) (m k:V) (ok:Bool):Option V:=
 match d,m,k with
 | .map kt et, .mapv id, .str b=>if(T kt).d= .str∧(T et).zok=true then(match st.vars[id]? with
  | some [.mp es]=>match YW b es with
   |some (some v)=>some (if ok then .tuple [v, .bool true]else v)
   |some none=>some (if ok then .tuple [(T et).zero, .bool false]else(T et).zero)
   |none=>none
  |_=>none)else none
 |_,_,_=>none
def dv (T:TypeId→TI) (st:St) (d dx:TD) (x:V):Option (V×St):=
 match d with
 | .slice e sz bytes=>
  if(T e).zok=true∧(T e).zero.cells.length=sz∧0<bytes∧0<sz then
  match Yx st dx sz x with
  |none=>none
  |some new=>if new.length*bytes≤140737488355328 then some (.own st.vars.length new.length sz,st.push [.buf new.flatten])else none
  else none
 |_=>none
def kY (T:TypeId→TI) (d:TD) (len:Nat) (parts:List (Nat×V)):Option V:=
 match d with
 | .slice e sz _=>
  if len*sz≤16777216∧(T e).zok=true∧(T e).zero.cells.length=sz∧0<sz then
   match bh (fun i=>some (i*sz,sz)) (yr len (T e).zero.cells) parts with
   |some cells=>if V.pcells cells=true then some (.sl sz (wb sz len cells) .exact)else none
   |none=>none
  else none
 |_=>none
def jW (T:TypeId→TI) (d:TD) (len:Nat) (parts:List (Nat×V)):Option V:=kY T d len (parts.map fun p=>(p.1,V.pur p.2))
def Wt (t:TI) (parts:List (Nat×V)):Option V:=
 if t.zok=true then
 match t.d with
 | .struct fs=>match bh (fun i=>fs[i]?) t.zero.cells parts with|some cells=>some (.agg cells)|none=>none
 | .arr _ sz=>match bh (fun i=>some (i*sz,sz)) t.zero.cells parts with|some cells=>some (.agg cells)|none=>none
 |_=>none
 else none
def dZ (T:TypeId→TI) (st:St) (b:Builtin) (ts:List TI) (args:List V):Option (V×St):=
 match b,ts,args with
 | .len,[t],[.mapv id]=>match t.d,st.vars[id]? with| .map _ _,some [.mp es]=>some (.int .i64 (es.length/2:Nat),st)|_,_=>none
 | .len,[t],[x]=>match Uz t.d x with|some v=>some (v,st)|none=>none
 | .append,[t,tx],[s,x]=>wh T st t.d tx.d s x
 | .min,_,x::r=>match U6 x r with|some v=>some (v,st)|none=>none
 |_,_,_=>none
def bo (T:TypeId→TI) (st:St) (b:Builtin) (args:List Operand) (tys:List TypeId) (ev:Operand→V):Option (V×St):=
 match b,args,tys with
 | .append,[.const (.slice none 0 0),x],[t,tx]=>dv T st (T t).d (T tx).d (ev x)
 |b,args,tys=>dZ T st b (tys.map (T)) (args.map ev)
def yW (T:TypeId→TI) (gl:Nat→List V) (fr:AFr) (st:St):Op→Option (V×St)
 | .move x| .assign x=>some (fr.eval x,st)
 | .pick c a b=>match fr.eval c with| .bool t=>some (if t then fr.eval a else fr.eval b,st)|_=>none
 | .alloc e=>if(T e).zok=true∧V.isCells (T e).zero.cells=true then some (.ptr st.vars.length 0,st.push (T e).zero.cells)else none
 | .box _ x=>if V.isCells (fr.eval x).cells=true then some (.ptr st.vars.length 0,st.push (fr.eval x).cells)else none
 | .build t parts=>match Wt (T t) (parts.toList.map fun(i,x)=>(i,fr.eval x))with|some v=>some (v,st)|none=>none
 | .buildSlice t len parts=>match jW T (T t).d len (parts.toList.map fun(i,x)=>(i,fr.eval x))with|some v=>some (v,st)|none=>none
 | .load t a=>match gt gl st (fr.eval a) (T t).sz (T t).d.agg with|some v=>if(T t).ok=true∧(T t).d≠ .other then some (v,st)else none|none=>none
 | .store t a x=>match bH st (fr.eval a) (fr.eval x) (T t).sz with|some st'=>if(T t).ok=true then some (.junk,st')else none|none=>none
 | .nilCheck x=>match fr.eval x with
  | .ptr id off=>some (.ptr id off,st)
  | .eptr a b=>some (.eptr a b,st)
  | .gptr g off=>some (.gptr g off,st)
  | .func (.func f) a b=>some (.func (.func f) a b,st)
  |_=>none
 | .binOp op t x y _=>if(T t).d≠ .other then(match Zf op (T t).d (fr.eval x) (fr.eval y)with|some v=>some (v,st)|none=>(match ZJ op (T t).eqs (fr.eval x) (fr.eval y)with|some v=>some (v,st)|none=>none))else none
 | .unOp op _ x=>match aun op (fr.eval x)with|some v=>some (v,st)|none=>none
 | .convert s d x=>match mF T st (T s) (T d) (fr.eval x)with|some v=>some (v,st)|none=>none
 | .extract t ix=>match fr.eval t with| .tuple vs=>(match vs[ix]? with|some v=>some (v,st)|none=>none)|_=>none
 | .fieldAddr s x f=>match(T s).d with
  | .struct fs=>match fs[f]? with
   |some (off,n)=>if n=0 then none else(match(fr.eval x).add off with|some v=>some (v,st)|none=>none)
   |none=>none
  |_=>none
 | .field s x f=>match XZ (T s) T (fr.eval x) f with|some v=>some (v,st)|none=>none
 | .indexAddr t x i=>match fr.eval i with
  | .int _ i=>(match yU (T t).d (fr.eval x) i with|some v=>some (v,st)|none=>none)
  |_=>none
 | .index t x i=>match fr.eval i with
  | .int _ i=>(match g9 (T t).d (fr.eval x) i with|some v=>some (v,st)|none=>none)
  |_=>none
 | .slice t x lo hi mx=>match w5 (T t).d (fr.eval x) (lo.map fr.eval) (hi.map fr.eval) (mx.map fr.eval)with|some v=>some (v,st)|none=>none
 | .makeSlice t l c=>Zd T st (T t).d (fr.eval l) (fr.eval c)
 | .makeMap _ none=>some (.mapv st.vars.length,st.push [.mp []])
 | .mapUpdate t m k x=>match Uj T st (T t).d (fr.eval m) (fr.eval k) (fr.eval x)with|some st'=>some (.junk,st')|none=>none
 | .lookup t m k ok=>match D7 T st (T t).d (fr.eval m) (fr.eval k) ok with|some v=>some (v,st)|none=>none
 | .range t x=>match(T t).d,fr.eval x with| .str, .str s=>some (.iter st.vars.length,st.push [.sit s 0])|_,_=>none
 | .next it true=>J6 st (fr.eval it)
 | .makeFunc fn first captured=>some (.func fn (first.toList.map fr.eval) (captured.toList.map fr.eval),st)
 | .call {callee:= .builtin b,args,argTypes}=>bo T st b args.toList argTypes.toList fr.eval
 |_=>none
theorem ww (P:Program):yW (ti P)=zL P:=by
 have hf: @bh= @vy:=by funext p c l; exact YL p l c
 have h1:jW (ti P)=ux P:=by
  funext d len parts; unfold jW ux kY wJ; rw [hf]; rfl
 have h2:Wt=ZA:=by funext t parts; unfold Wt ZA; rw [hf]; rfl
 funext gl fr st o
 cases o with
 |makeMap t r=>cases r<;>rfl
 |next it b=>cases b<;>rfl
 |build t parts=>simp only [yW,zL,h2]; rfl
 |buildSlice t len parts=>simp only [yW,zL,h1]; rfl
 | call c=>
  obtain⟨cal,args,tys⟩:=c
  cases cal with
  | builtin b=>
   have hb:dZ (ti P)=vm P:=by
    funext st b ts args; unfold dZ vm
    have ha:wh (ti P)=gm P:=by funext st d dx s x; rfl
    rw [ha]; rfl
   have ho:bo (ti P)=wz P:=by
    funext st b args tys ev; unfold bo wz; rw [hb]; rfl
   simp only [yW,zL,ho]
  |_=>rfl
 |_=>rfl
end Go.Abs
end
