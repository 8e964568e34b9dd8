/- Abstract values. No condition. -/
import Derived.Test.YtkabooclnoiclaaGreatDoorA02
set_option linter.all false
section
namespace Go.Abs
inductive TD where
 |other
 |bool
 |int (k:IntKind)
 |str
 |ptr (e:TypeId)
 |slice (e:TypeId) (sz bytes:Nat)
 |arr (n sz:Nat)
 |struct (fs:List (Nat×Nat))
 |func
 |map (k e:TypeId)
 |iface
 |flat
 deriving DecidableEq,Repr,Inhabited
def V.ofCell:Value->V
 | .bool b=> .bool b
 | .int k n=> .int k n
 | .string s=> .str s.data.toList
 | .pointer none=> .nilp
 | .slice none 0 0=> .nilsl
 | .nilFunc=> .nilfunc
 |_=> .junk
def V.of:Value->V
 | .agg a=> .agg (a.toList.map V.ofCell)
 | .tuple a=> .tuple (a.toList.map V.ofCell)
 |v=>V.ofCell v
structure TI where
 ok:Bool
 sz:Nat
 bytes:Nat
 d:TD
 zero:V
 zok:Bool
 fts:List TypeId
 eqs:List TD
 deriving Inhabited
def TD.leaf:TD->Bool
 | .int _| .str| .bool=>true
 |_=>false
def tiD (P:Program):Option TypeDesc->TD
 |some .bool=> .bool
 |some (.int k)=> .int k
 |some .string=> .str
 |some (.pointer e)=> .ptr e
 |some (.slice e)=>if(P.info? e).isSome then .slice e (P.cellsOf e) (P.bytesOf e)else .other
 |some (.array n e)=>if(P.info? e).isSome then .arr n (P.cellsOf e)else .other
 |some (.struct a)=>if a.toList.all (fun f=>(P.info? f.type).isSome)then .struct (a.toList.map fun f=>(f.offset,P.cellsOf f.type))else .other
 |some (.func ..)=> .func
 |some (.map k e)=> .map k e
 |some (.interface _)=> .iface
 |some _=> .flat
 |none=> .other
def Ko (P:Program):Nat->List Field->Bool
 |_,[]=>true
 | k, f :: fs => f.name != "_" && f.offset == k && (tiD P (P.underlying f.type)).leaf && Ko P (k + 1) fs
def GD (P:Program) (t:TypeId):List TD:=
 match P.underlying t with
 |some (.struct a)=>if P.stoodInHeld t=false∧P.eqGuardType P.depth t=false∧Ko P 0 a.toList=true then a.toList.map fun f=>tiD P (P.underlying f.type)else []
 |_=> []
def ti (P:Program) (t:TypeId):TI where
 ok:=(P.info? t).isSome&&(P.underlying t).isSome
 sz:=P.cellsOf t
 bytes:=P.bytesOf t
 d:=tiD P (P.underlying t)
 zero:=match P.info? t with|some i=>(match i.zero with|some z=>V.of z|none=> .junk)|none=> .junk
 zok:=match P.info? t with|some i=>i.zero.isSome|none=>false
 fts:=match P.underlying t with|some (.struct a)=>a.toList.map (·.type)|_=> []
 eqs:=GD P t
def TD.agg:TD->Bool
 | .arr .. | .struct .. => true
 |_=>false
structure AFr where
 n:Nat
 l:List (Nat×V)
def yG:List (Nat×V)->Nat->V
 | [],_=> .junk
 |(k,v)::r,t=>if k=t then v else yG r t
def Zs:List (Nat×V)->Nat->V->List (Nat×V)
 | [],d,v=> [(d,v)]
 |(k,x)::r,d,v=>if k=d then(d,v)::r else(k,x)::Zs r d v
def AFr.put (fr:AFr) (dst:Option Tmp) (v:V):AFr:=
 match dst with
 |none=>fr
 |some d=>if d<fr.n then {fr with l:=Zs fr.l d v} else fr
def AFr.eval (fr:AFr):Operand->V
 | .tmp t=>yG fr.l t
 | .const v=>V.of v
 | .global g=> .gptr g 0
 | .func f=> .func (.func f) [] []
def rd (cells:List V) (off n:Nat) (agg:Bool):Option V:=
 if agg then(if((cells.drop off).take n).length=n then some (.agg ((cells.drop off).take n))else none)else cells[off]?
def V.live:List V->Bool
 | []=>false
 | [.mp _]=>false
 | [.sit _ _]=>false
 | [.buf _]=>false
 |_=>true
def Xc (gl:Nat->List V) (st:St) (p:V) (n:Nat) (agg:Bool):Option V:=
 match p with
 | .ptr id a=>match st.vars[id]? with|some [.buf b]=>if b.length=0 then none else rd b a n agg|some cells=>if V.live cells=true then rd cells a n agg else none|none=>none
 | .eptr e a=>rd e a n agg
 | .gptr g a=>rd (gl g) a n agg
 |_=>none
def V.isCells (l:List V):Bool:=l.all V.isCell
def V.pcells (l:List V):Bool:=l.all V.pcell
def YD (st:St) (p v:V) (n:Nat):Option St:=
 match p with
 | .ptr id a=>match st.vars[id]? with
  |some [.buf b]=>if v.cells.length=n∧0<n∧a+n<=b.length∧V.pcells v.cells=true then some (st.put id [.buf (b.take a++v.cells++b.drop (a+n))])else none
  |some cells=>if v.cells.length=n∧a+n<=cells.length∧V.isCells v.cells=true∧V.live cells=true then some (st.put id (cells.take a++v.cells++cells.drop (a+n)))else none
  |none=>none
 |_=>none
def V.add:V->Nat->Option V
 | .ptr id a,k=>some (.ptr id (a+k))
 | .eptr e a,k=>some (.eptr e (a+k))
 | .gptr g a,k=>some (.gptr g (a+k))
 |_,_=>none
def q9 (place:Nat->Option (Nat×Nat)) (cells:List V):List (Nat×V)->Option (List V)
 | []=>some cells
 | (i,v)::b=>
  match place i with
  |none=>none
  | some (a,size)=>
   if v.cells.length=size∧a+v.cells.length<=cells.length∧V.isCells v.cells=true then q9 place (cells.take a++v.cells++cells.drop (a+size)) b else none
def PN (k:IntKind) (op:BinOp) (x y:Int):Option V:=
 let a:=BitVec.ofInt k.bits x
 let b:=BitVec.ofInt k.bits y
 match op with
 | .and=>some (.int k (k.wrap (a &&& b).toNat))
 | .or=>some (.int k (k.wrap (a|||b).toNat))
 | .xor=>some (.int k (k.wrap (a ^^^ b).toNat))
 | .andNot=>some (.int k (k.wrap (a &&& ~~~b).toNat))
 |_=>none
def QP (k:IntKind) (op:BinOp) (x y:Int):Option V:=
 match op with
 | .add=>some (.int k (k.wrap (x+y)))
 | .sub=>some (.int k (k.wrap (x-y)))
 | .mul=>some (.int k (k.wrap (x*y)))
 | .quo=>if y=0 then none else some (.int k (k.wrap (x.tdiv y)))
 | .rem=>if y=0 then none else some (.int k (x.tmod y))
 | .eql=>some (.bool (x==y))
 | .neq=>some (.bool (x !=y))
 | .lss=>some (.bool (decide (x<y)))
 | .leq=>some (.bool (decide (x<=y)))
 | .gtr=>some (.bool (decide (x>y)))
 | .geq=>some (.bool (decide (x≥y)))
 | .and| .or| .xor| .andNot=>PN k op x y
 |_=>none
def fq (op:BinOp) (x y:List UInt8):Option V:=
 match op with
 | .add=>if x.length+y.length<=9223372036854775807 then some (.str (x++y))else none
 | .eql=>some (.bool (x==y))
 | .neq=>some (.bool (!(x==y)))
 | .lss=>some (.bool (Op.bytesLess x y))
 | .leq=>some (.bool (Op.bytesLess x y||x==y))
 | .gtr=>some (.bool (!(Op.bytesLess x y||x==y)))
 | .geq=>some (.bool (!(Op.bytesLess x y)))
 |_=>none
def V.isNil:V->Option Bool
 | .nilp=>some true
 | .ptr .. | .eptr .. | .gptr .. => some false
 |_=>none
def YN (op:BinOp) (d:TD) (x y:V):Option V:=
 match x,y with
 | .int k a, .int c b=>
  match op with
  | .shl=>if b<0 then none else some (.int k (k.wrap (a*2^(min b.toNat k.bits))))
  | .shr=>if b<0 then none else some (.int k (a.fdiv (2^(min b.toNat k.bits))))
  |_=>if k=c then QP k op a b else none
 | .str a, .str b=>fq op a b
 | .bool a, .bool b=>match op,d with
  | .eql, .bool=>some (.bool (a==b))
  | .neq, .bool=>some (.bool (!(a==b)))
  |_,_=>none
 | x, .nilp=>match op,d,x.isNil with
  | .eql, .ptr _,some t=>some (.bool t)
  | .neq, .ptr _,some t=>some (.bool (!t))
  |_,_,_=>none
 | .sl _ (_::_) _, .nilsl=>match op,d with
  | .eql, .slice .. => some (.bool false)
  | .neq, .slice .. => some (.bool true)
  |_,_=>none
 | .nilsl, .nilsl=>match op,d with
  | .eql, .slice .. => some (.bool true)
  | .neq, .slice .. => some (.bool false)
  |_,_=>none
 |_,_=>none
def tt (d:TD) (x y:V):Option Bool:=
 match d,x,y with
 | .int _, .int k a, .int c b=>if k=c then some (a==b)else none
 | .str, .str a, .str b=>some (a==b)
 | .bool, .bool a, .bool b=>some (a==b)
 |_,_,_=>none
def WU:List TD->List V->List V->Option Bool
 | [],[],[]=>some true
 |d::a,x::c,y::e=>match tt d x y,WU a c e with|some b,some r=>some (b&&r)|_,_=>none
 |_,_,_=>none
def V7 (op:BinOp) (a:List TD) (x y:V):Option V:=
 match a,x,y with
 | _::_, .agg c, .agg e=>match op,WU a c e with
  | .eql,some b=>some (.bool b)
  | .neq,some b=>some (.bool (!b))
  |_,_=>none
 |_,_,_=>none
def aun (op:UnOp) (x:V):Option V:=
 match op,x with
 | .neg, .int k n=>some (.int k (k.wrap (0-n)))
 | .xor, .int k n=>PN k .xor (if k.signed then -1 else k.max) n
 | .not, .bool b=>some (.bool !b)
 |_,_=>none
def vT (s:List UInt8):List (List V):=s.map fun b=> [.int .u8 b.toNat]
def DU:List V->Option UInt8
 | [.int .u8 n]=>some (UInt8.ofNat n.toNat)
 |_=>none
def jp:List (List V)->Option (List UInt8)
 | []=>some []
 |e::r=>match DU e,jp r with|some b,some a=>some (b::a)|_,_=>none
def vZ:List V->Option (List UInt8)
 | []=>some []
 | .int .u8 n::r=>match vZ r with|some a=>some (UInt8.ofNat n.toNat::a)|none=>none
 |_=>none
def P5 (P:Program) (st:St) (s d:TI) (x:V):Option V:=
 if s.ok=true then
  match x with
  | .int _ n=>match d.d with
   | .int k=>some (.int k (k.wrap n))
   |_=>none
  | .str b=>match d.d with
   | .str=>some (.str b)
   | .slice e 1 _=>if(ti P e).d= .int .u8∧s.d= .str then some (.sl 1 (vT b) .none)else none
   |_=>none
  | .nilsl=>match s.d,d.d with
   | .slice e _ _, .str=>if(ti P e).d= .int .u8 then some (.str [])else none
   |_,_=>none
  | .sl 1 c _=>match s.d,d.d with
   | .slice e _ _, .str=>if(ti P e).d= .int .u8 then(match jp c with|some b=>some (.str b)|none=>none)else none
   |_,_=>none
  | .rsl id a len _ 1=>match s.d,d.d with
   | .slice e _ _, .str=>if(ti P e).d= .int .u8 then(match st.vars[id]? with
    |some cells=>if a+len<=cells.length∧V.live cells=true then(match vZ ((cells.drop a).take len)with|some b=>some (.str b)|none=>none)else none
    |none=>none)else none
   |_,_=>none
  | .own id n 1=>match s.d,d.d with
   | .slice e _ _, .str=>if(ti P e).d= .int .u8 then(match st.vars[id]? with
    |some [.buf cells]=>if n<=cells.length then(match vZ (cells.take n)with|some b=>some (.str b)|none=>none)else none
    |_=>none)else none
   |_,_=>none
  |_=>none
 else none
def vN (d:TD) (x:V) (i:Int):Option V:=
 match d,x with
 | .arr n b,p=>if 0<=i∧i<n then p.add (i.toNat*b)else none
 | .slice _ b _, .sl a f _=>if b=a∧0<=i then(match f[i.toNat]? with|some e=>some (.eptr e 0)|none=>none)else none
 | .slice _ b _, .rsl id c len _ a=>if b=a∧0<=i∧i<len then some (.ptr id (c+i.toNat*b))else none
 | .slice _ b _, .own id n a=>if b=a∧0<=i∧i<n then some (.ptr id (i.toNat*b))else none
 |_,_=>none
def XN (d:TD) (x:V) (i:Int):Option V:=
 match d,x with
 | .str, .str s=>if 0<=i then(match s[i.toNat]? with|some b=>some (.int .u8 b.toNat)|none=>none)else none
 |_,_=>none
def uf (len:Nat) (lo hi:Option V):Option (Nat×Nat):=
 let h:Option Nat:=match hi with
  |none=>some len
  |some (.int _ i)=>if 0<=i∧i<=len then some i.toNat else none
  |_=>none
 match h with
 |none=>none
 | some h=>match lo with
  |none=>some (0,h)
  |some (.int _ i)=>if 0<=i∧i<=h then some (i.toNat,h)else none
  |_=>none
def jk (d:TD) (x:V) (lo hi max:Option V):Option V:=
 match max with
 |some _=>none
 | none=>
  match d,x with
  | .str, .str s=>match uf s.length lo hi with
   |some (l,h)=>some (.str ((s.take h).drop l))
   |none=>none
  | .slice _ a _, .sl b e f=>match uf e.length lo hi with
   |some (l,h)=>if a=b then some (.sl a ((e.take h).drop l) .none)else none
   |none=>none
  | .slice _ a _, .own id n b=>match uf n lo hi with
   |some (l,h)=>if a=b∧l=0∧0<h then some (.own id h a)else none
   |none=>none
  | .slice .., .nilsl=>match uf 0 lo hi with
   |some _=>some .nilsl
   |none=>none
  | .slice _ a _, .rsl id c len cap b=>match uf len lo hi with
   |some (l,h)=>if a=b∧l<cap∧len<=cap then some (.rsl id (c+l*a) (h-l) (cap-l) a)else none
   |none=>none
  | .arr n a, .ptr id c=>match uf n lo hi with
   |some (l,h)=>if l<n then some (.rsl id (c+l*a) (h-l) (n-l) a)else none
   |none=>none
  |_,_=>none
def GQ (d:TD) (x:V):Option V:=
 match d,x with
 | .str, .str s=>some (.int .i64 s.length)
 | .slice .., .sl _ a _=>some (.int .i64 a.length)
 | .slice .., .nilsl=>some (.int .i64 0)
 | .slice .., .rsl _ _ len _ _=>some (.int .i64 len)
 | .slice .., .own _ n _=>some (.int .i64 n)
 | .arr n _,_=>some (.int .i64 n)
 |_,_=>none
def jw (sz:Nat):Nat->List V->List (List V)
 |0,_=> []
 |n+1,l=>l.take sz::jw sz n (l.drop sz)
def W0 (st:St) (d:TD) (sz:Nat) (x:V):Option (List (List V)):=
 match d,x with
 | .slice _ c _, .sl a e _=>if sz=a∧c=sz then some e else none
 | .slice .., .nilsl=>some []
 | .str, .str b=>if sz=1 then some (vT b)else none
 | .slice _ c _, .own id n a=>if sz=a∧c=sz then(match st.vars[id]? with
  |some [.buf cells]=>if cells.length=n*sz then some (jw sz n cells)else none
  |_=>none)else none
 |_,_=>none
def Y7 (P:Program) (st:St) (d dx:TD) (s x:V):Option (V×St):=
 match d with
 | .slice e b bytes=>
  if(ti P e).zok=true∧(ti P e).zero.cells.length=b∧0<bytes then
  match W0 st dx b x with
  |none=>none
  | some new=>
   if new.length=0 then(match s with| .nilsl=>some (.sl b [] (.fam st.fams.length 0),st.pushFam 0)| .sl a c f=>some (.sl a c f,st)| .own id n a=>some (.own id n a,st)|_=>none)else
   match s with
   | .nilsl=>if 0<b∧new.length*bytes<=140737488355328 then some (.sl b new (.fam st.fams.length new.length),st.pushFam new.length)else none
   | .sl a c f=>
    if a=b∧0<b∧(c.length+new.length)*bytes<=140737488355328 then
     match f with
     | .exact=>some (.sl b (c++new) (.fam st.fams.length (c++new).length),st.pushFam (c++new).length)
     | .fam t p=>if st.fams[t]? =some p then some (.sl b (c++new) (.fam t (p+new.length)),st.setFam t (p+new.length))else none
     | .none=>none
    else none
   | .own id n a=>
    if a=b∧0<b∧(n+new.length)*bytes<=140737488355328 then
     match st.vars[id]? with
     |some [.buf cells]=>if cells.length=n*b then some (.own st.vars.length (n+new.length) b,(st.put id []).push [.buf (cells++new.flatten)])else none
     |_=>none
    else none
   |_=>none
  else none
 |_=>none
def wC (n:Nat) (z:List V):List V:=(List.replicate n z).flatten
def Y3 (P:Program) (st:St) (d dx:TD) (x:V):Option (V×St):=
 match d with
 | .slice e a bytes=>
  if(ti P e).zok=true∧(ti P e).zero.cells.length=a∧0<bytes∧0<a then
  match W0 st dx a x with
  |none=>none
  |some new=>if new.length*bytes<=140737488355328 then some (.own st.vars.length new.length a,st.push [.buf new.flatten])else none
  else none
 |_=>none
def lM (P:Program) (st:St) (d:TD) (l c:V):Option (V×St):=
 match d,l,c with
 | .slice e a bytes, .int _ l, .int _ c=>
  if 0<=l∧l<=c∧bytes*c<=140737488355328∧c<=140737488355328∧(ti P e).zok=true∧(ti P e).zero.cells.length=a∧0<a∧V.pcells (ti P e).zero.cells=true then
   (if l=0 then some (.sl a [] (.fam st.fams.length 0),st.pushFam 0)else some (.own st.vars.length l.toNat a,st.push [.buf (wC l.toNat (ti P e).zero.cells)]))
  else none
 |_,_,_=>none
def px (k v:V):List V->Option (List V)
 | []=>some [k,v]
 | .str a::x::r=>match k with
  | .str b=>if b=a then some (.str b::v::r)else(match px k v r with|some c=>some (.str a::x::c)|none=>none)
  |_=>none
 |_=>none
def JA (k:List UInt8):List V->Option (Option V)
 | []=>some none
 | .str a::x::r=>if k=a then some (some x)else JA k r
 |_=>none
def Yq (P:Program) (st:St) (d:TD) (m k v:V):Option St:=
 match d,m,k with
 | .map kt _, .mapv id, .str b=>if(ti P kt).d= .str∧V.pure v=true then(match st.vars[id]? with
  |some [.mp a]=>match px (.str b) v a with|some es'=>some (st.put id [.mp es'])|none=>none
  |_=>none)else none
 |_,_,_=>none
def QV (P:Program) (st:St) (d:TD) (m k:V) (ok:Bool):Option V:=
 match d,m,k with
 | .map kt et, .mapv id, .str b=>if(ti P kt).d= .str∧(ti P et).zok=true then(match st.vars[id]? with
  | some [.mp a]=>match JA b a with
   |some (some v)=>some (if ok then .tuple [v, .bool true]else v)
   |some none=>some (if ok then .tuple [(ti P et).zero, .bool false]else(ti P et).zero)
   |none=>none
  |_=>none)else none
 |_,_,_=>none
def Wv (st:St) (it:V):Option (V×St):=
 match it with
 | .iter id=>match st.vars[id]? with
  | some [.sit s a]=>if a<s.length then some (.tuple [.bool true, .int .i64 a, .int .i32 (Utf8.decode ⟨s.toArray⟩ a).1],st.put id [.sit s (a+(Utf8.decode ⟨s.toArray⟩ a).2)])
   else some (.tuple [.bool false],st)
  |_=>none
 |_=>none
def j5 (P:Program) (d:TD) (len:Nat) (a:List (Nat×V)):Option V:=
 match d with
 | .slice e b _=>
  if len*b<=16777216∧(ti P e).zok=true∧(ti P e).zero.cells.length=b∧0<b then
   match q9 (fun i=>some (i*b,b)) (wC len (ti P e).zero.cells) a with
   |some cells=>if V.pcells cells=true then some (.sl b (jw b len cells) .exact)else none
   |none=>none
  else none
 |_=>none
def gf (P:Program) (d:TD) (len:Nat) (a:List (Nat×V)):Option V:=j5 P d len (a.map fun p=>(p.1,V.pur p.2))
def VY (t:TI) (a:List (Nat×V)):Option V:=
 if t.zok=true then
 match t.d with
 | .struct c=>match q9 (fun i=>c[i]?) t.zero.cells a with|some cells=>some (.agg cells)|none=>none
 | .arr _ b=>match q9 (fun i=>some (i*b,b)) t.zero.cells a with|some cells=>some (.agg cells)|none=>none
 |_=>none
 else none
def Qu (s:TI) (F:TypeId->TI) (x:V) (f:Nat):Option V:=
 match s.d,x with
 | .struct c, .agg b=>match c[f]?,s.fts[f]? with
  |some (a,_),some ft=>if(F ft).ok=true∧(F ft).d≠ .other∧0<(F ft).sz then rd b a (F ft).sz (F ft).d.agg else none
  |_,_=>none
 |_,_=>none
def Ds (x:V):List V->Option V
 | []=>some x
 | y::r=>match x,y with
  | .int k a, .int _ b=>Ds (.int k (if b<a then b else a)) r
  |_,_=>none
def qN (P:Program) (st:St) (b:Builtin) (c:List TI) (args:List V):Option (V×St):=
 match b,c,args with
 | .len,[t],[.mapv id]=>match t.d,st.vars[id]? with| .map _ _,some [.mp a]=>some (.int .i64 (a.length/2:Nat),st)|_,_=>none
 | .len,[t],[x]=>match GQ t.d x with|some v=>some (v,st)|none=>none
 | .append,[t,tx],[s,x]=>Y7 P st t.d tx.d s x
 | .min,_,x::r=>match Ds x r with|some v=>some (v,st)|none=>none
 |_,_,_=>none
def jW (P:Program) (st:St) (b:Builtin) (args:List Operand) (tys:List TypeId) (ev:Operand->V):Option (V×St):=
 match b,args,tys with
 | .append,[.const (.slice none 0 0),x],[t,tx]=>Y3 P st (ti P t).d (ti P tx).d (ev x)
 |b,args,tys=>qN P st b (tys.map (ti P)) (args.map ev)
def ph (P:Program) (st:St) (d:TD) (len:Nat) (a:List (Nat×V)):Option (V×St):=
 match d with
 | .slice e b _=>
  if len*b<=16777216∧(ti P e).zok=true∧(ti P e).zero.cells.length=b∧0<b∧0<len then
   match q9 (fun i=>some (i*b,b)) (wC len (ti P e).zero.cells) (a.map fun p=>(p.1,V.pur p.2))with
   |some cells=>if V.pcells cells=true then some (.own st.vars.length len b,st.push [.buf cells])else none
   |none=>none
  else none
 |_=>none
def xc (P:Program) (gl:Nat->List V) (fr:AFr) (st:St):Op->Option (V×St)
 | .move x| .assign x=>some (fr.eval x,st)
 | .pick c a b=>match fr.eval c with| .bool t=>some (if t then fr.eval a else fr.eval b,st)|_=>none
 | .alloc e=>if(ti P e).zok=true∧V.isCells (ti P e).zero.cells=true then some (.ptr st.vars.length 0,st.push (ti P e).zero.cells)else none
 | .box _ x=>if V.isCells (fr.eval x).cells=true then some (.ptr st.vars.length 0,st.push (fr.eval x).cells)else none
 | .build t parts=>match VY (ti P t) (parts.toList.map fun(i,x)=>(i,fr.eval x))with|some v=>some (v,st)|none=>none
 | .buildSlice t len parts=>match gf P (ti P t).d len (parts.toList.map fun(i,x)=>(i,fr.eval x))with|some v=>some (v,st)|none=>none
 | .load t a=>match Xc gl st (fr.eval a) (ti P t).sz (ti P t).d.agg with|some v=>if(ti P t).ok=true∧(ti P t).d≠ .other then some (v,st)else none|none=>none
 | .store t a x=>match YD st (fr.eval a) (fr.eval x) (ti P t).sz with|some st'=>if(ti P t).ok=true then some (.junk,st')else none|none=>none
 | .nilCheck x=>match fr.eval x with
  | .ptr id off=>some (.ptr id off,st)
  | .eptr a b=>some (.eptr a b,st)
  | .gptr g off=>some (.gptr g off,st)
  | .func (.func f) a b=>some (.func (.func f) a b,st)
  |_=>none
 | .binOp op t x y _=>if(ti P t).d≠ .other then(match YN op (ti P t).d (fr.eval x) (fr.eval y)with|some v=>some (v,st)|none=>(match V7 op (ti P t).eqs (fr.eval x) (fr.eval y)with|some v=>some (v,st)|none=>none))else none
 | .unOp op _ x=>match aun op (fr.eval x)with|some v=>some (v,st)|none=>none
 | .convert s d x=>match P5 P st (ti P s) (ti P d) (fr.eval x)with|some v=>some (v,st)|none=>none
 | .extract t ix=>match fr.eval t with| .tuple vs=>(match vs[ix]? with|some v=>some (v,st)|none=>none)|_=>none
 | .fieldAddr s x f=>match(ti P s).d with
  | .struct fs=>match fs[f]? with
   |some (off,n)=>if n=0 then none else(match(fr.eval x).add off with|some v=>some (v,st)|none=>none)
   |none=>none
  |_=>none
 | .field s x f=>match Qu (ti P s) (ti P) (fr.eval x) f with|some v=>some (v,st)|none=>none
 | .indexAddr t x i=>match fr.eval i with
  | .int _ i=>(match vN (ti P t).d (fr.eval x) i with|some v=>some (v,st)|none=>none)
  |_=>none
 | .index t x i=>match fr.eval i with
  | .int _ i=>(match XN (ti P t).d (fr.eval x) i with|some v=>some (v,st)|none=>none)
  |_=>none
 | .slice t x lo hi mx=>match jk (ti P t).d (fr.eval x) (lo.map fr.eval) (hi.map fr.eval) (mx.map fr.eval)with|some v=>some (v,st)|none=>none
 | .makeSlice t l c=>lM P st (ti P t).d (fr.eval l) (fr.eval c)
 | .makeMap _ none=>some (.mapv st.vars.length,st.push [.mp []])
 | .mapUpdate t m k x=>match Yq P st (ti P t).d (fr.eval m) (fr.eval k) (fr.eval x)with|some st'=>some (.junk,st')|none=>none
 | .lookup t m k ok=>match QV P st (ti P t).d (fr.eval m) (fr.eval k) ok with|some v=>some (v,st)|none=>none
 | .range t x=>match(ti P t).d,fr.eval x with| .str, .str s=>some (.iter st.vars.length,st.push [.sit s 0])|_,_=>none
 | .next it true=>Wv st (fr.eval it)
 | .makeFunc fn first captured=>some (.func fn (first.toList.map fr.eval) (captured.toList.map fr.eval),st)
 | .call {callee:= .builtin b,args,argTypes}=>jW P st b args.toList argTypes.toList fr.eval
 |_=>none
end Go.Abs
end
