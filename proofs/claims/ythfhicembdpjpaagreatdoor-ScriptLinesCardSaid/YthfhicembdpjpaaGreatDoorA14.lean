/- Abstract values: a part. No condition beyond each statement's own. -/
import Derived.Test.YthfhicembdpjpaaGreatDoorA13
set_option linter.all false
section
namespace Go.Abs
open Go.RowKit (Below)
def dp (ops:Array Oper) (j:Nat):List Nat:=
 match ops[j]? with
 |some o=>(o.after.toList.filter fun e=>Region.binds .any e).map (·.on)
 |none=> []
def KA (o:Oper):List Nat:=o.op.operands.toList.filterMap fun| .tmp t=>some t|_=>none
def uY (ops:Array Oper) (j:Nat):Option Nat:=(ops[j]?).bind (·.dst)
def dN (ops:Array Oper) (j:Nat):List Nat:=
 match ops[j]? with
 |some o=>KA o++(match o.guard with|some (g,_)=>(match uY ops g with|some d=> [d]|none=> [])|none=> [])
 |none=> []
def gk (P:Program) (gl:Nat→List V) (ops:Array Oper) (j:Nat) (fr:AFr) (st:St) (v:V):Prop:=
 match ops[j]? with
 |none=>False
 | some o=>match o.guard with
  |none=>xY P gl fr st o.op=some (v,st)
  | some (g,want)=>match ky ops fr g with
   |some b=>uM (b=some want) (xY P gl fr st o.op=some (v,st)) (v= .tuple [])
   |none=>False
def ba (P:Program) (gl:Nat→List V) (ops:Array Oper) (j:Nat) (fr:AFr) (st:St):Prop:=
 match uY ops j with
 |some d=>gk P gl ops j fr st (wh fr.l d)
 |none=>∃v,gk P gl ops j fr st v
def dJ (P:Program) (gl:Nat→List V) (ops:Array Oper) (E:List Nat) (Bi:List Nat):List Nat→AFr→St→Prop
 | [],_,_=>True
 |j::r,fr,st=>(if E.contains j||Bi.contains j then True else ba P gl ops j fr st)∧dJ P gl ops E Bi r fr st
def Qo (P:Program) (gl:Nat→List V) (ops:Array Oper) (i:Nat) (fr:AFr) (st:St) (K:AFr→St→Prop):Prop:=
 match ops[i]? with
 |none=>False
 | some o=>match o.guard with
  |none=>pU P gl o fr st fun v st'=>K (fr.put o.dst v) st'
  | some (g,want)=>match ky ops fr g with
   |some b=>uM (b=some want) (pU P gl o fr st fun v st'=>K (fr.put o.dst v) st') (K (fr.put o.dst (.tuple [])) st)
   |none=>False
def aD (P:Program) (gl:Nat→List V) (ops:Array Oper) (E:List Nat) (B:List (List Nat)):List Nat→List Nat→AFr→St→(AFr→St→Prop)→Prop
 | [],_,fr,st,K=>K fr st
 | i::rest,seen,fr,st,K=>
  if E.contains i then Qo P gl ops i fr st fun fr' st'=>dJ P gl ops E (B.getD i []) seen fr' st'∧aD P gl ops E B rest (i::seen) fr' st' K
  else ∃v,gk P gl ops i fr st v∧aD P gl ops E B rest (i::seen) (fr.put (uY ops i) v) st K
def kf (ops:Array Oper) (n:Nat) (order E:List Nat) (B:List (List Nat)):Bool:=
 decide order.Nodup&&order.length==ops.size&&(List.range ops.size).all (fun i=>order.contains i)&&order.all (fun i=>decide (i<ops.size)) &&
 (List.range order.length).all (fun p=>(dp ops (order.getD p 0)).all fun k=>(order.take p).contains k) &&
 (List.range ops.size).all (fun j=>(B.getD j []).all fun i=>(dp ops j).contains i||(dp ops j).any fun k=>(B.getD k []).contains i) &&
 (List.range ops.size).all (fun i=>(match uY ops i with|some d=>decide (d<n)|none=>true)&&(List.range ops.size).all fun j=>i==j||(match uY ops i,uY ops j with|some d,some e=> !(d==e)|_,_=>true)) &&
 (List.range ops.size).all (fun i=>(dN ops i).all fun t=>(List.range ops.size).all fun w=>(match uY ops w with|some d=> !(d==t)|none=>true)||(B.getD i []).contains w||(E.contains w&&((w==i)||(B.getD w []).contains i))) &&
 (List.range ops.size).all (fun i=>match ops[i]? with|some o=>(match o.guard with|some (g,_)=>(B.getD i []).contains g&&(uY ops g).isSome|none=>true)|none=>true) &&
 (List.range order.length).all (fun p=> !(E.contains (order.getD p 0))||(order.drop (p+1)).all fun j=>(B.getD j []).contains (order.getD p 0))
end Go.Abs
end
