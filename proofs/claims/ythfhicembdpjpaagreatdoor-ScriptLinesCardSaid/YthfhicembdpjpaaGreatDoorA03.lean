/- Abstract values: a part. No condition beyond each statement's own. -/
import Derived.Test.YthfhicembdpjpaaGreatDoorA02
set_option linter.all false
section
namespace Go.Abs
inductive TD where
 |other
 |bool
 |int (k:IntKind)
 |str
 |ptr (e:TypeId)
 |slice (e:TypeId) (sz bytes:Nat)
 |arr (n sz:Nat)
 |struct (fs:List (Nat×Nat))
 |func
 |map (k e:TypeId)
 |iface
 |flat
 deriving DecidableEq,Repr,Inhabited
def V.ofCell:Value→V
 | .bool b=> .bool b
 | .int k n=> .int k n
 | .string s=> .str s.data.toList
 | .pointer none=> .nilp
 | .slice none 0 0=> .nilsl
 | .nilFunc=> .nilfunc
 | .nilIface=> .niliface
 |_=> .junk
def V.of:Value→V
 | .agg cs=> .agg (cs.toList.map V.ofCell)
 | .tuple cs=> .tuple (cs.toList.map V.ofCell)
 |v=>V.ofCell v
structure TI where
 ok:Bool
 sz:Nat
 bytes:Nat
 d:TD
 zero:V
 zok:Bool
 fts:List TypeId
 eqs:List TD
 deriving Inhabited
def TD.leaf:TD→Bool
 | .int _| .str| .bool=>true
 |_=>false
def tiD (P:Program):Option TypeDesc→TD
 |some .bool=> .bool
 |some (.int k)=> .int k
 |some .string=> .str
 |some (.pointer e)=> .ptr e
 |some (.slice e)=>if(P.info? e).isSome then .slice e (P.cellsOf e) (P.bytesOf e)else .other
 |some (.array n e)=>if(P.info? e).isSome then .arr n (P.cellsOf e)else .other
 |some (.struct fs)=>if fs.toList.all (fun f=>(P.info? f.type).isSome)then .struct (fs.toList.map fun f=>(f.offset,P.cellsOf f.type))else .other
 |some (.func ..)=> .func
 |some (.map k e)=> .map k e
 |some (.interface _)=> .iface
 |some _=> .flat
 |none=> .other
def Jq (P:Program):Nat→List Field→Bool
 |_,[]=>true
 | k, f :: fs => f.name != "_" && f.offset == k && (tiD P (P.underlying f.type)).leaf && Jq P (k + 1) fs
def Qv (P:Program) (t:TypeId):List TD:=
 match P.underlying t with
 |some (.struct fs)=>if P.stoodInHeld t=false∧P.eqGuardType P.depth t=false∧Jq P 0 fs.toList=true then fs.toList.map fun f=>tiD P (P.underlying f.type)else []
 |_=> []
def ti (P:Program) (t:TypeId):TI where
 ok:=(P.info? t).isSome&&(P.underlying t).isSome
 sz:=P.cellsOf t
 bytes:=P.bytesOf t
 d:=tiD P (P.underlying t)
 zero:=match P.info? t with|some i=>(match i.zero with|some z=>V.of z|none=> .junk)|none=> .junk
 zok:=match P.info? t with|some i=>i.zero.isSome|none=>false
 fts:=match P.underlying t with|some (.struct fs)=>fs.toList.map (·.type)|_=> []
 eqs:=Qv P t
def TD.agg:TD→Bool
 | .arr .. | .struct .. => true
 |_=>false
structure AFr where
 n:Nat
 l:List (Nat×V)
def wh:List (Nat×V)→Nat→V
 | [],_=> .junk
 |(k,v)::r,t=>if k=t then v else wh r t
def Uy:List (Nat×V)→Nat→V→List (Nat×V)
 | [],d,v=> [(d,v)]
 |(k,x)::r,d,v=>if k=d then(d,v)::r else(k,x)::Uy r d v
def AFr.put (fr:AFr) (dst:Option Tmp) (v:V):AFr:=
 match dst with
 |none=>fr
 |some d=>if d<fr.n then {fr with l:=Uy fr.l d v} else fr
def AFr.eval (fr:AFr):Operand→V
 | .tmp t=>wh fr.l t
 | .const v=>V.of v
 | .global g=> .gptr g 0
 | .func f=> .func (.func f) [] []
def rd (cells:List V) (off n:Nat) (agg:Bool):Option V:=
 if agg then(if((cells.drop off).take n).length=n then some (.agg ((cells.drop off).take n))else none)else cells[off]?
def V.live:List V→Bool
 | []=>false
 | [.mp _]=>false
 | [.sit _ _]=>false
 | [.buf _]=>false
 | [.bobj ..]=>false
 | [.bbuf ..]=>false
 |_=>true
def X9 (gl:Nat→List V) (st:St) (p:V) (n:Nat) (agg:Bool):Option V:=
 match p with
 | .ptr id off=>match st.vars[id]? with|some [.buf cs]=>if cs.length=0 then none else rd cs off n agg|some cells=>if V.live cells=true then rd cells off n agg else none|none=>none
 | .eptr e off=>rd e off n agg
 | .gptr g off=>rd (gl g) off n agg
 |_=>none
def V.isCells (l:List V):Bool:=l.all V.isCell
def V.pcells (l:List V):Bool:=l.all V.pcell
def XK (st:St) (p v:V) (n:Nat):Option St:=
 match p with
 | .ptr id off=>match st.vars[id]? with
  |some [.buf cs]=>if v.cells.length=n∧0<n∧off+n≤cs.length∧V.pcells v.cells=true then some (st.put id [.buf (cs.take off++v.cells++cs.drop (off+n))])else none
  |some cells=>if v.cells.length=n∧off+n≤cells.length∧V.isCells v.cells=true∧V.live cells=true then some (st.put id (cells.take off++v.cells++cells.drop (off+n)))else none
  |none=>none
 |_=>none
def V.add:V→Nat→Option V
 | .ptr id off,k=>some (.ptr id (off+k))
 | .eptr e off,k=>some (.eptr e (off+k))
 | .gptr g off,k=>some (.gptr g (off+k))
 |_,_=>none
def d8 (place:Nat→Option (Nat×Nat)) (cells:List V):List (Nat×V)→Option (List V)
 | []=>some cells
 | (i,v)::rest=>
  match place i with
  |none=>none
  | some (off,size)=>
   if v.cells.length=size∧off+v.cells.length≤cells.length∧V.isCells v.cells=true then d8 place (cells.take off++v.cells++cells.drop (off+size)) rest else none
def KG (k:IntKind) (op:BinOp) (x y:Int):Option V:=
 let a:=BitVec.ofInt k.bits x
 let b:=BitVec.ofInt k.bits y
 match op with
 | .and=>some (.int k (k.wrap (a &&& b).toNat))
 | .or=>some (.int k (k.wrap (a|||b).toNat))
 | .xor=>some (.int k (k.wrap (a ^^^ b).toNat))
 | .andNot=>some (.int k (k.wrap (a &&& ~~~b).toNat))
 |_=>none
def Gu (k:IntKind) (op:BinOp) (x y:Int):Option V:=
 match op with
 | .add=>some (.int k (k.wrap (x+y)))
 | .sub=>some (.int k (k.wrap (x-y)))
 | .mul=>some (.int k (k.wrap (x*y)))
 | .quo=>if y=0 then none else some (.int k (k.wrap (x.tdiv y)))
 | .rem=>if y=0 then none else some (.int k (x.tmod y))
 | .eql=>some (.bool (x==y))
 | .neq=>some (.bool (x !=y))
 | .lss=>some (.bool (decide (x<y)))
 | .leq=>some (.bool (decide (x≤y)))
 | .gtr=>some (.bool (decide (x>y)))
 | .geq=>some (.bool (decide (x≥y)))
 | .and| .or| .xor| .andNot=>KG k op x y
 |_=>none
def Ga (op:BinOp) (x y:List UInt8):Option V:=
 match op with
 | .add=>if x.length+y.length≤9223372036854775807 then some (.str (x++y))else none
 | .eql=>some (.bool (x==y))
 | .neq=>some (.bool (!(x==y)))
 | .lss=>some (.bool (Op.bytesLess x y))
 | .leq=>some (.bool (Op.bytesLess x y||x==y))
 | .gtr=>some (.bool (!(Op.bytesLess x y||x==y)))
 | .geq=>some (.bool (!(Op.bytesLess x y)))
 |_=>none
def V.isNil:V→Option Bool
 | .nilp=>some true
 | .ptr .. | .eptr .. | .gptr .. => some false
 |_=>none
def XW (op:BinOp) (d:TD) (x y:V):Option V:=
 match x,y with
 | .int k a, .int k' b=>
  match op with
  | .shl=>if b<0 then none else some (.int k (k.wrap (a*2^(min b.toNat k.bits))))
  | .shr=>if b<0 then none else some (.int k (a.fdiv (2^(min b.toNat k.bits))))
  |_=>if k=k' then Gu k op a b else none
 | .str a, .str b=>Ga op a b
 | .bool a, .bool b=>match op,d with
  | .eql, .bool=>some (.bool (a==b))
  | .neq, .bool=>some (.bool (!(a==b)))
  |_,_=>none
 | x, .nilp=>match op,d,x.isNil with
  | .eql, .ptr _,some t=>some (.bool t)
  | .neq, .ptr _,some t=>some (.bool (!t))
  |_,_,_=>none
 | .sl _ (_::_) _, .nilsl=>match op,d with
  | .eql, .slice .. => some (.bool false)
  | .neq, .slice .. => some (.bool true)
  |_,_=>none
 | .nilsl, .nilsl=>match op,d with
  | .eql, .slice .. => some (.bool true)
  | .neq, .slice .. => some (.bool false)
  |_,_=>none
 |_,_=>none
def PP (d:TD) (x y:V):Option Bool:=
 match d,x,y with
 | .int _, .int k a, .int k' b=>if k=k' then some (a==b)else none
 | .str, .str a, .str b=>some (a==b)
 | .bool, .bool a, .bool b=>some (a==b)
 |_,_,_=>none
def JD:List TD→List V→List V→Option Bool
 | [],[],[]=>some true
 |d::ds,x::xs,y::ys=>match PP d x y,JD ds xs ys with|some b,some r=>some (b&&r)|_,_=>none
 |_,_,_=>none
def KL (op:BinOp) (ds:List TD) (x y:V):Option V:=
 match ds,x,y with
 | _::_, .agg xs, .agg ys=>match op,JD ds xs ys with
  | .eql,some b=>some (.bool b)
  | .neq,some b=>some (.bool (!b))
  |_,_=>none
 |_,_,_=>none
def aun (op:UnOp) (x:V):Option V:=
 match op,x with
 | .neg, .int k n=>some (.int k (k.wrap (0-n)))
 | .xor, .int k n=>KG k .xor (if k.signed then -1 else k.max) n
 | .not, .bool b=>some (.bool !b)
 |_,_=>none
def qB (s:List UInt8):List (List V):=s.map fun b=> [.int .u8 b.toNat]
def Kc:List V→Option UInt8
 | [.int .u8 n]=>some (UInt8.ofNat n.toNat)
 |_=>none
def bB:List (List V)→Option (List UInt8)
 | []=>some []
 |e::r=>match Kc e,bB r with|some b,some bs=>some (b::bs)|_,_=>none
def k7:List V→Option (List UInt8)
 | []=>some []
 | .int .u8 n::r=>match k7 r with|some bs=>some (UInt8.ofNat n.toNat::bs)|none=>none
 |_=>none
def KM (P:Program) (st:St) (s d:TI) (x:V):Option V:=
 if s.ok=true then
  match x with
  | .int _ n=>match d.d with
   | .int k=>some (.int k (k.wrap n))
   |_=>none
  | .str b=>match d.d with
   | .str=>some (.str b)
   | .slice e 1 _=>if(ti P e).d= .int .u8∧s.d= .str then some (.sl 1 (qB b) .none)else none
   |_=>none
  | .nilsl=>match s.d,d.d with
   | .slice e _ _, .str=>if(ti P e).d= .int .u8 then some (.str [])else none
   |_,_=>none
  | .sl 1 es _=>match s.d,d.d with
   | .slice e _ _, .str=>if(ti P e).d= .int .u8 then(match bB es with|some b=>some (.str b)|none=>none)else none
   |_,_=>none
  | .rsl id off len _ 1=>match s.d,d.d with
   | .slice e _ _, .str=>if(ti P e).d= .int .u8 then(match st.vars[id]? with
    |some cells=>if off+len≤cells.length∧V.live cells=true then(match k7 ((cells.drop off).take len)with|some b=>some (.str b)|none=>none)else none
    |none=>none)else none
   |_,_=>none
  | .own id n 1=>match s.d,d.d with
   | .slice e _ _, .str=>if(ti P e).d= .int .u8 then(match st.vars[id]? with
    |some [.buf cells]=>if n≤cells.length then(match k7 (cells.take n)with|some b=>some (.str b)|none=>none)else none
    |_=>none)else none
   |_,_=>none
  |_=>none
 else none
def kp (d:TD) (x:V) (i:Int):Option V:=
 match d,x with
 | .arr n sz,p=>if 0≤i∧i<n then p.add (i.toNat*sz)else none
 | .slice _ sz _, .sl sz' es _=>if sz=sz'∧0≤i then(match es[i.toNat]? with|some e=>some (.eptr e 0)|none=>none)else none
 | .slice _ sz _, .rsl id off len _ sz'=>if sz=sz'∧0≤i∧i<len then some (.ptr id (off+i.toNat*sz))else none
 | .slice _ sz _, .own id n sz'=>if sz=sz'∧0≤i∧i<n then some (.ptr id (i.toNat*sz))else none
 |_,_=>none
def WA (d:TD) (x:V) (i:Int):Option V:=
 match d,x with
 | .str, .str s=>if 0≤i then(match s[i.toNat]? with|some b=>some (.int .u8 b.toNat)|none=>none)else none
 |_,_=>none
def qM (len:Nat) (lo hi:Option V):Option (Nat×Nat):=
 let h:Option Nat:=match hi with
  |none=>some len
  |some (.int _ i)=>if 0≤i∧i≤len then some i.toNat else none
  |_=>none
 match h with
 |none=>none
 | some h=>match lo with
  |none=>some (0,h)
  |some (.int _ i)=>if 0≤i∧i≤h then some (i.toNat,h)else none
  |_=>none
def bt (d:TD) (x:V) (lo hi max:Option V):Option V:=
 match max with
 |some _=>none
 | none=>
  match d,x with
  | .str, .str s=>match qM s.length lo hi with
   |some (l,h)=>some (.str ((s.take h).drop l))
   |none=>none
  | .slice _ sz _, .sl sz' es tok=>match qM es.length lo hi with
   |some (l,h)=>if sz=sz' then some (.sl sz ((es.take h).drop l) .none)else none
   |none=>none
  | .slice _ sz _, .own id n sz'=>match qM n lo hi with
   |some (l,h)=>if sz=sz'∧l=0 then some (.own id h sz)else none
   |none=>none
  | .slice .., .nilsl=>match qM 0 lo hi with
   |some _=>some .nilsl
   |none=>none
  | .slice _ sz _, .rsl id off len cap sz'=>match qM len lo hi with
   |some (l,h)=>if sz=sz'∧l<cap∧len≤cap then some (.rsl id (off+l*sz) (h-l) (cap-l) sz)else none
   |none=>none
  | .arr n sz, .ptr id off=>match qM n lo hi with
   |some (l,h)=>if l<n then some (.rsl id (off+l*sz) (h-l) (n-l) sz)else none
   |none=>none
  |_,_=>none
def QC (d:TD) (x:V):Option V:=
 match d,x with
 | .str, .str s=>some (.int .i64 s.length)
 | .slice .., .sl _ es _=>some (.int .i64 es.length)
 | .slice .., .nilsl=>some (.int .i64 0)
 | .slice .., .rsl _ _ len _ _=>some (.int .i64 len)
 | .slice .., .own _ n _=>some (.int .i64 n)
 | .arr n _,_=>some (.int .i64 n)
 |_,_=>none
def bw (sz:Nat):Nat→List V→List (List V)
 |0,_=> []
 |n+1,l=>l.take sz::bw sz n (l.drop sz)
def Wb (st:St) (d:TD) (sz:Nat) (x:V):Option (List (List V)):=
 match d,x with
 | .slice _ sz1 _, .sl sz' es _=>if sz=sz'∧sz1=sz then some es else none
 | .slice .., .nilsl=>some []
 | .str, .str b=>if sz=1 then some (qB b)else none
 | .slice _ sz1 _, .own id n sz'=>if sz=sz'∧sz1=sz then(match st.vars[id]? with
  |some [.buf cells]=>if cells.length=n*sz then some (bw sz n cells)else none
  |_=>none)else none
 |_,_=>none
def X6 (P:Program) (st:St) (d dx:TD) (s x:V):Option (V×St):=
 match d with
 | .slice e sz bytes=>
  if(ti P e).zok=true∧(ti P e).zero.cells.length=sz∧0<bytes then
  match Wb st dx sz x with
  |none=>none
  | some new=>
   if new.length=0 then(match s with| .nilsl=>some (.sl sz [] (.fam st.fams.length 0),st.pushFam 0)| .sl sz' es tok=>some (.sl sz' es tok,st)| .own id n sz'=>some (.own id n sz',st)|_=>none)else
   match s with
   | .nilsl=>if 0<sz∧new.length*bytes≤140737488355328 then some (.sl sz new (.fam st.fams.length new.length),st.pushFam new.length)else none
   | .sl sz' es tok=>
    if sz'=sz∧0<sz∧(es.length+new.length)*bytes≤140737488355328 then
     match tok with
     | .exact=>some (.sl sz (es++new) (.fam st.fams.length (es++new).length),st.pushFam (es++new).length)
     | .fam t p=>if st.fams[t]? =some p then some (.sl sz (es++new) (.fam t (p+new.length)),st.setFam t (p+new.length))else none
     | .none=>none
    else none
   | .own id n sz'=>
    if sz'=sz∧0<sz∧0<n∧(n+new.length)*bytes≤140737488355328 then
     match st.vars[id]? with
     |some [.buf cells]=>if cells.length=n*sz then some (.own st.vars.length (n+new.length) sz,(st.put id []).push [.buf (cells++new.flatten)])else none
     |_=>none
    else none
   |_=>none
  else none
 |_=>none
def uh (n:Nat) (z:List V):List V:=(List.replicate n z).flatten
def dT (P:Program) (st:St) (d dx:TD) (x:V):Option (V×St):=
 match d with
 | .slice e sz bytes=>
  if(ti P e).zok=true∧(ti P e).zero.cells.length=sz∧0<bytes∧0<sz then
  match Wb st dx sz x with
  |none=>none
  |some new=>if new.length*bytes≤140737488355328 then some (.own st.vars.length new.length sz,st.push [.buf new.flatten])else none
  else none
 |_=>none
def BR (P:Program) (st:St) (d:TD) (l c:V):Option (V×St):=
 match d,l,c with
 | .slice e sz bytes, .int _ l, .int _ c=>
  if 0≤l∧l≤c∧bytes*c≤140737488355328∧c≤140737488355328∧(ti P e).zok=true∧(ti P e).zero.cells.length=sz∧0<sz∧V.pcells (ti P e).zero.cells=true then
   (if l=0 then some (.sl sz [] (.fam st.fams.length 0),st.pushFam 0)else some (.own st.vars.length l.toNat sz,st.push [.buf (uh l.toNat (ti P e).zero.cells)]))
  else none
 |_,_,_=>none
def Xn (k v:V):List V→Option (List V)
 | []=>some [k,v]
 | .str a::x::r=>match k with
  | .str b=>if b=a then some (.str b::v::r)else(match Xn k v r with|some r'=>some (.str a::x::r')|none=>none)
  |_=>none
 |_=>none
def UL (k:List UInt8):List V→Option (Option V)
 | []=>some none
 | .str a::x::r=>if k=a then some (some x)else UL k r
 |_=>none
def XD (P:Program) (st:St) (d:TD) (m k v:V):Option St:=
 match d,m,k with
 | .map kt _, .mapv id, .str b=>if(ti P kt).d= .str∧V.pure v=true then(match st.vars[id]? with
  |some [.mp es]=>match Xn (.str b) v es with|some es'=>some (st.put id [.mp es'])|none=>none
  |_=>none)else none
 |_,_,_=>none
def Jd (P:Program) (st:St) (d:TD) (m k:V) (ok:Bool):Option V:=
 match d,m,k with
 | .map kt et, .mapv id, .str b=>if(ti P kt).d= .str∧(ti P et).zok=true then(match st.vars[id]? with
  | some [.mp es]=>match UL b es with
   |some (some v)=>some (if ok then .tuple [v, .bool true]else v)
   |some none=>some (if ok then .tuple [(ti P et).zero, .bool false]else(ti P et).zero)
   |none=>none
  |_=>none)else none
 |_,_,_=>none
def W3 (st:St) (it:V):Option (V×St):=
 match it with
 | .iter id=>match st.vars[id]? with
  | some [.sit s pos]=>if pos<s.length then some (.tuple [.bool true, .int .i64 pos, .int .i32 (Utf8.decode ⟨s.toArray⟩ pos).1],st.put id [.sit s (pos+(Utf8.decode ⟨s.toArray⟩ pos).2)])
   else some (.tuple [.bool false],st)
  |_=>none
 |_=>none
def gR (P:Program) (d:TD) (len:Nat) (parts:List (Nat×V)):Option V:=
 match d with
 | .slice e sz _=>
  if len*sz≤16777216∧(ti P e).zok=true∧(ti P e).zero.cells.length=sz∧0<sz then
   match d8 (fun i=>some (i*sz,sz)) (uh len (ti P e).zero.cells) parts with
   |some cells=>if V.pcells cells=true then some (.sl sz (bw sz len cells) .exact)else none
   |none=>none
  else none
 |_=>none
def Zt (P:Program) (d:TD) (len:Nat) (parts:List (Nat×V)):Option V:=gR P d len (parts.map fun p=>(p.1,V.pur p.2))
def VJ (t:TI) (parts:List (Nat×V)):Option V:=
 if t.zok=true then
 match t.d with
 | .struct fs=>match d8 (fun i=>fs[i]?) t.zero.cells parts with|some cells=>some (.agg cells)|none=>none
 | .arr _ sz=>match d8 (fun i=>some (i*sz,sz)) t.zero.cells parts with|some cells=>some (.agg cells)|none=>none
 |_=>none
 else none
def U9 (s:TI) (F:TypeId→TI) (x:V) (f:Nat):Option V:=
 match s.d,x with
 | .struct fs, .agg cs=>match fs[f]?,s.fts[f]? with
  |some (off,_),some ft=>if(F ft).ok=true∧(F ft).d≠ .other∧0<(F ft).sz then rd cs off (F ft).sz (F ft).d.agg else none
  |_,_=>none
 |_,_=>none
def QV (x:V):List V→Option V
 | []=>some x
 | y::r=>match x,y with
  | .int k a, .int _ b=>QV (.int k (if b<a then b else a)) r
  |_,_=>none
def dO (P:Program) (st:St) (b:Builtin) (ts:List TI) (args:List V):Option (V×St):=
 match b,ts,args with
 | .len,[t],[.mapv id]=>match t.d,st.vars[id]? with| .map _ _,some [.mp es]=>some (.int .i64 (es.length/2:Nat),st)|_,_=>none
 | .len,[t],[x]=>match QC t.d x with|some v=>some (v,st)|none=>none
 | .append,[t,tx],[s,x]=>X6 P st t.d tx.d s x
 | .min,_,x::r=>match QV x r with|some v=>some (v,st)|none=>none
 |_,_,_=>none
def gG (P:Program) (st:St) (b:Builtin) (args:List Operand) (tys:List TypeId) (ev:Operand→V):Option (V×St):=
 match b,args,tys with
 | .append,[.const (.slice none 0 0),x],[t,tx]=>dT P st (ti P t).d (ti P tx).d (ev x)
 |b,args,tys=>dO P st b (tys.map (ti P)) (args.map ev)
def Yq (P:Program) (st:St) (d:TD) (len:Nat) (parts:List (Nat×V)):Option (V×St):=
 match d with
 | .slice e sz _=>
  if len*sz≤16777216∧(ti P e).zok=true∧(ti P e).zero.cells.length=sz∧0<sz∧0<len then
   match d8 (fun i=>some (i*sz,sz)) (uh len (ti P e).zero.cells) (parts.map fun p=>(p.1,V.pur p.2))with
   |some cells=>if V.pcells cells=true then some (.own st.vars.length len sz,st.push [.buf cells])else none
   |none=>none
  else none
 |_=>none
def KK (op:BinOp) (d:TD) (x:V) (y:Operand):Option V:=
 match d,x,y with
 | .iface, .niliface, .const .nilIface=>match op with
  | .eql=>some (.bool true)
  | .neq=>some (.bool false)
  |_=>none
 | .iface, .iface .., .const .nilIface=>match op with
  | .eql=>some (.bool false)
  | .neq=>some (.bool true)
  |_=>none
 |_,_,_=>none
def UT (P:Program) (x:V) (t:TypeId) (ok:Bool):Option V:=
 if (ti P t).ok=true∧(ti P t).d≠ .iface∧(ti P t).d≠ .other then
  match x with
  | .iface u v=>if u=t then some (if ok=true then .tuple [v, .bool true]else v)else(if ok=true∧(ti P t).zok=true then some (.tuple [(ti P t).zero, .bool false])else none)
  | .niliface=>if ok=true∧(ti P t).zok=true then some (.tuple [(ti P t).zero, .bool false])else none
  |_=>none
 else none
def xY (P:Program) (gl:Nat→List V) (fr:AFr) (st:St):Op→Option (V×St)
 | .move x| .assign x=>some (fr.eval x,st)
 | .pick c a b=>match fr.eval c with| .bool t=>some (if t then fr.eval a else fr.eval b,st)|_=>none
 | .alloc e=>if(ti P e).zok=true∧V.isCells (ti P e).zero.cells=true then some (.ptr st.vars.length 0,st.push (ti P e).zero.cells)else none
 | .box _ x=>if V.isCells (fr.eval x).cells=true then some (.ptr st.vars.length 0,st.push (fr.eval x).cells)else none
 | .build t parts=>match VJ (ti P t) (parts.toList.map fun(i,x)=>(i,fr.eval x))with|some v=>some (v,st)|none=>none
 | .buildSlice t len parts=>match Zt P (ti P t).d len (parts.toList.map fun(i,x)=>(i,fr.eval x))with|some v=>some (v,st)|none=>none
 | .load t a=>match X9 gl st (fr.eval a) (ti P t).sz (ti P t).d.agg with|some v=>if(ti P t).ok=true∧(ti P t).d≠ .other then some (v,st)else none|none=>none
 | .store t a x=>match XK st (fr.eval a) (fr.eval x) (ti P t).sz with|some st'=>if(ti P t).ok=true then some (.junk,st')else none|none=>none
 | .nilCheck x=>match fr.eval x with
  | .ptr id off=>some (.ptr id off,st)
  | .eptr a b=>some (.eptr a b,st)
  | .gptr g off=>some (.gptr g off,st)
  | .func (.func f) a b=>some (.func (.func f) a b,st)
  |_=>none
 | .binOp op t x y _=>if(ti P t).d≠ .other then(match XW op (ti P t).d (fr.eval x) (fr.eval y)with|some v=>some (v,st)|none=>(match KL op (ti P t).eqs (fr.eval x) (fr.eval y)with|some v=>some (v,st)|none=>(match KK op (ti P t).d (fr.eval x) y with|some v=>some (v,st)|none=>none)))else none
 | .unOp op _ x=>match aun op (fr.eval x)with|some v=>some (v,st)|none=>none
 | .convert s d x=>match KM P st (ti P s) (ti P d) (fr.eval x)with|some v=>some (v,st)|none=>none
 | .extract t ix=>match fr.eval t with| .tuple vs=>(match vs[ix]? with|some v=>some (v,st)|none=>none)|_=>none
 | .fieldAddr s x f=>match(ti P s).d with
  | .struct fs=>match fs[f]? with
   |some (off,n)=>if n=0 then none else(match(fr.eval x).add off with|some v=>some (v,st)|none=>none)
   |none=>none
  |_=>none
 | .field s x f=>match U9 (ti P s) (ti P) (fr.eval x) f with|some v=>some (v,st)|none=>none
 | .indexAddr t x i=>match fr.eval i with
  | .int _ i=>(match kp (ti P t).d (fr.eval x) i with|some v=>some (v,st)|none=>none)
  |_=>none
 | .index t x i=>match fr.eval i with
  | .int _ i=>(match WA (ti P t).d (fr.eval x) i with|some v=>some (v,st)|none=>none)
  |_=>none
 | .slice t x lo hi mx=>match bt (ti P t).d (fr.eval x) (lo.map fr.eval) (hi.map fr.eval) (mx.map fr.eval)with|some v=>some (v,st)|none=>none
 | .makeSlice t l c=>BR P st (ti P t).d (fr.eval l) (fr.eval c)
 | .makeMap _ none=>some (.mapv st.vars.length,st.push [.mp []])
 | .mapUpdate t m k x=>match XD P st (ti P t).d (fr.eval m) (fr.eval k) (fr.eval x)with|some st'=>some (.junk,st')|none=>none
 | .lookup t m k ok=>match Jd P st (ti P t).d (fr.eval m) (fr.eval k) ok with|some v=>some (v,st)|none=>none
 | .range t x=>match(ti P t).d,fr.eval x with| .str, .str s=>some (.iter st.vars.length,st.push [.sit s 0])|_,_=>none
 | .next it true=>W3 st (fr.eval it)
 | .makeFunc fn first captured=>some (.func fn (first.toList.map fr.eval) (captured.toList.map fr.eval),st)
 | .makeInterface t x=>if(ti P t).ok=true∧(ti P t).d≠ .iface then some (.iface t (fr.eval x),st)else none
 | .typeAssert x _ t ok=>match UT P (fr.eval x) t ok with|some v=>some (v,st)|none=>none
 | .call {callee:= .builtin b,args,argTypes}=>gG P st b args.toList argTypes.toList fr.eval
 |_=>none
end Go.Abs
end
