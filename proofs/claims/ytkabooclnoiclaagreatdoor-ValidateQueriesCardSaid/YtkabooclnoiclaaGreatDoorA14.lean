/- Abstract values. No condition. -/
import Derived.Test.YtkabooclnoiclaaGreatDoorA13
set_option linter.all false
section
namespace Go.Abs
open Go.RowKit (Below)
def dp (ops:Array Oper) (j:Nat):List Nat:=
 match ops[j]? with
 |some o=>(o.after.toList.filter fun e=>Region.binds .any e).map (·.on)
 |none=> []
def qD (o:Oper):List Nat:=o.op.operands.toList.filterMap fun| .tmp t=>some t|_=>none
def zQ (ops:Array Oper) (j:Nat):Option Nat:=(ops[j]?).bind (·.dst)
def xG (ops:Array Oper) (j:Nat):List Nat:=
 match ops[j]? with
 |some o=>qD o++(match o.guard with|some (g,_)=>(match zQ ops g with|some d=> [d]|none=> [])|none=> [])
 |none=> []
def jI (P:Program) (gl:Nat->List V) (ops:Array Oper) (j:Nat) (fr:AFr) (st:St) (v:V):Prop:=
 match ops[j]? with
 |none=>False
 | some o=>match o.guard with
  |none=>xc P gl fr st o.op=some (v,st)
  | some (g,a)=>match uM ops fr g with
   |some b=>hJ (b=some a) (xc P gl fr st o.op=some (v,st)) (v= .tuple [])
   |none=>False
def u5 (P:Program) (gl:Nat->List V) (ops:Array Oper) (j:Nat) (fr:AFr) (st:St):Prop:=
 match zQ ops j with
 |some d=>jI P gl ops j fr st (yG fr.l d)
 |none=>∃v,jI P gl ops j fr st v
def qE (P:Program) (gl:Nat->List V) (ops:Array Oper) (E:List Nat) (Bi:List Nat):List Nat->AFr->St->Prop
 | [],_,_=>True
 |j::r,fr,a=>(if E.contains j||Bi.contains j then True else u5 P gl ops j fr a)∧qE P gl ops E Bi r fr a
def Gs (P:Program) (gl:Nat->List V) (ops:Array Oper) (i:Nat) (fr:AFr) (st:St) (K:AFr->St->Prop):Prop:=
 match ops[i]? with
 |none=>False
 | some o=>match o.guard with
  |none=>gI P gl o fr st fun v a=>K (fr.put o.dst v) a
  | some (g,c)=>match uM ops fr g with
   |some b=>hJ (b=some c) (gI P gl o fr st fun v a=>K (fr.put o.dst v) a) (K (fr.put o.dst (.tuple [])) st)
   |none=>False
def aD (P:Program) (gl:Nat->List V) (ops:Array Oper) (E:List Nat) (B:List (List Nat)):List Nat->List Nat->AFr->St->(AFr->St->Prop)->Prop
 | [],_,fr,c,K=>K fr c
 | i::a,seen,fr,c,K=>
  if E.contains i then Gs P gl ops i fr c fun b e=>qE P gl ops E (B.getD i []) seen b e∧aD P gl ops E B a (i::seen) b e K
  else ∃v,jI P gl ops i fr c v∧aD P gl ops E B a (i::seen) (fr.put (zQ ops i) v) c K
def kR (ops:Array Oper) (n:Nat) (a E:List Nat) (B:List (List Nat)):Bool:=
 decide a.Nodup&&a.length==ops.size&&(List.range ops.size).all (fun i=>a.contains i)&&a.all (fun i=>decide (i<ops.size)) &&
 (List.range a.length).all (fun p=>(dp ops (a.getD p 0)).all fun k=>(a.take p).contains k) &&
 (List.range ops.size).all (fun j=>(B.getD j []).all fun i=>(dp ops j).contains i||(dp ops j).any fun k=>(B.getD k []).contains i) &&
 (List.range ops.size).all (fun i=>(match zQ ops i with|some d=>decide (d<n)|none=>true)&&(List.range ops.size).all fun j=>i==j||(match zQ ops i,zQ ops j with|some d,some e=> !(d==e)|_,_=>true)) &&
 (List.range ops.size).all (fun i=>(xG ops i).all fun t=>(List.range ops.size).all fun w=>(match zQ ops w with|some d=> !(d==t)|none=>true)||(B.getD i []).contains w||(E.contains w&&((w==i)||(B.getD w []).contains i))) &&
 (List.range ops.size).all (fun i=>match ops[i]? with|some o=>(match o.guard with|some (g,_)=>(B.getD i []).contains g&&(zQ ops g).isSome|none=>true)|none=>true) &&
 (List.range a.length).all (fun p=> !(E.contains (a.getD p 0))||(a.drop (p+1)).all fun j=>(B.getD j []).contains (a.getD p 0))
end Go.Abs
end
