/- Layer: an abstract reading of values and worlds, and that the model's operations, regions, loops and calls keep to it. No condition beyond each statement's own. -/
import Derived.Test.YtkabooclnoiclaaGreatDoorA24
set_option linter.unusedVariables false
set_option linter.unusedSimpArgs false
set_option linter.unnecessarySimpa false
section
namespace Go.Abs
open Go.RowKit (Below)
section
variable {R:Type}
def V.fc (v:V) (K:V→R):R:=match v with
 | .junk=>K .junk
 | .bool b=>K (.bool b)
 | .int k n=>K (.int k n)
 | .str s=>K (.str s)
 | .ptr a b=>K (.ptr a b)
 | .nilp=>K .nilp
 | .gptr a b=>K (.gptr a b)
 | .eptr a b=>K (.eptr a b)
 | .sl a b c=>K (.sl a b c)
 | .nilsl=>K .nilsl
 | .rsl a b c d e=>K (.rsl a b c d e)
 | .func a b c=>K (.func a b c)
 | .nilfunc=>K .nilfunc
 | .agg a=>K (.agg a)
 | .tuple a=>K (.tuple a)
 | .own a b c=>K (.own a b c)
 | .mapv a=>K (.mapv a)
 | .iter a=>K (.iter a)
 | .iface a b=>K (.iface a b)
 | .niliface=>K .niliface
 | .mp a=>K (.mp a)
 | .sit a b=>K (.sit a b)
 | .buf a=>K (.buf a)
theorem V.fc_eq (v:V) (K:V→R):v.fc K=K v:=by cases v<;>rfl
def Ka (l:List (Nat×V)) (d:Nat) (v:V) (K:List (Nat×V)→R):R:=match l with
 | []=>K [(d,v)]
 |(k,x)::r=>bif Nat.beq k d then K ((d,v)::r)else Ka r d v fun r'=>K ((k,x)::r')
theorem Um:∀(l:List (Nat×V)) (d:Nat) (v:V) (K:List (Nat×V)→R),Ka l d v K=K (bJ l d v)
 | [],d,v,K=>rfl
 | (k,x)::r,d,v,K=>by
  simp only [Ka,bJ]
  by_cases h:k=d
  ·simp [h]
  ·have:Nat.beq k d=false:=by
    cases hb:Nat.beq k d with
    |false=>rfl
    |true=>exact absurd (Nat.eq_of_beq_eq_true hb) h
   rw [this,if_neg h]; simp only [cond_false]; rw [Um r d v]
def lfc {α:Type} (l:List α) (K:List α→R):R:=match l with
 | []=>K []
 |x::r=>lfc r fun r'=>K (x::r')
theorem bz {α:Type}:∀(l:List α) (K:List α→R),lfc l K=K l
 | [],K=>rfl
 |x::r,K=>by simp only [lfc]; rw [bz r]
def cU (l:List (List V)) (K:List (List V)→R):R:=match l with
 | []=>K []
 |x::r=>lfc x fun x'=>cU r fun r'=>K (x'::r')
theorem QF:∀(l:List (List V)) (K:List (List V)→R),cU l K=K l
 | [],K=>rfl
 |x::r,K=>by simp only [cU]; rw [bz x,QF r]
def St.fc (st:St) (K:St→R):R:=match st with
 |⟨vs,fs⟩=>cU vs fun vs'=>lfc fs fun fs'=>K ⟨vs',fs'⟩
theorem St.fc_eq (st:St) (K:St→R):st.fc K=K st:=by
 obtain⟨vs,fs⟩:=st
 simp only [St.fc]; rw [QF,bz]
def pX:Op→Bool
 | .alloc .. | .box .. | .store .. | .makeSlice .. | .call .. | .makeMap .. | .mapUpdate .. | .range .. | .next .. => true
 |_=>false
def dQ (n:Nat) (l:List (Nat×V)) (dst:Option Tmp) (v:V) (K:List (Nat×V)→R):R:=match dst with
 |none=>K l
 |some d=>bif Nat.blt d n then Ka l d v K else K l
theorem vf (n:Nat) (l:List (Nat×V)) (dst:Option Tmp) (v:V) (K:List (Nat×V)→R):dQ n l dst v K=K ((⟨n,l⟩:AFr).put dst v).l:=by
 cases dst with
 |none=>rfl
 | some d=>
  simp only [dQ,AFr.put]
  by_cases h:d<n
  ·have:Nat.blt d n=true:=Nat.ble_eq_true_of_le h
   rw [this,if_pos h]; simp only [cond_true]; rw [Um]
  ·have:Nat.blt d n=false:=by
    cases hb:Nat.blt d n with
    |false=>rfl
    |true=>exact absurd (Nat.le_of_ble_eq_true hb) h
   rw [this,if_neg h]; rfl
def exK (T:TypeId→TI) (gl:Nat→List V) (n:Nat) (l:List (Nat×V)) (st:St) (o:Oper) (F:R) (K:List (Nat×V)→St→R):R:=
 match yW T gl ⟨n,l⟩ st o.op with
 |some (v,st')=>v.fc fun v'=>dQ n l o.dst v' fun l'=>match pX o.op with|true=>st'.fc fun st''=>K l' st''|false=>K l' st'
 |none=>F
def gdK (ops:Array Oper) (l:List (Nat×V)) (n j:Nat) (want:Bool) (F Y N:R):R:=
 match xC ops ⟨n,l⟩ j with
 |some (some b)=>bif (bif b then want else not want)then Y else N
 |some none=>N
 |none=>F
def uM (T:TypeId→TI) (gl:Nat→List V) (ops:Array Oper) (F:R) (K:List (Nat×V)→St→R):List Oper→Nat→List (Nat×V)→St→R
 | [],n,l,st=>K l st
 | o::r,n,l,st=>match o.guard with
  |none=>exK T gl n l st o F fun l' st'=>uM T gl ops F K r n l' st'
  |some (j,want)=>gdK ops l n j want F (exK T gl n l st o F fun l' st'=>uM T gl ops F K r n l' st') (dQ n l o.dst (.tuple []) fun l'=>uM T gl ops F K r n l' st)
theorem uD (T:TypeId→TI) (gl:Nat→List V) (ops:Array Oper) (F:R) (K:List (Nat×V)→St→R):∀(os:List Oper) (n:Nat) (l:List (Nat×V)) (st:St),
  uM T gl ops F K os n l st=(match wQ T gl ops os ⟨n,l⟩ st with|some (fr,st')=>K fr.l st'|none=>F)∧∀fr st',wQ T gl ops os ⟨n,l⟩ st=some (fr,st')→fr.n=n
 | [],n,l,st=>⟨rfl,by intro fr st' h; simp only [wQ]at h; injection h with h; injection h with h1 h2; rw [←h1]⟩
 | o ::r,n,l,st=>by
  have hput:∀v,((⟨n,l⟩:AFr).put o.dst v)=⟨n,((⟨n,l⟩:AFr).put o.dst v).l⟩:=by
   intro v
   cases o.dst with
   |none=>rfl
   |some d=>simp only [AFr.put]; split<;>rfl
  have hex:exK T gl n l st o F (fun l' st'=>uM T gl ops F K r n l' st')=(match yW T gl ⟨n,l⟩ st o.op with
    |some (v,st')=>(match wQ T gl ops r ((⟨n,l⟩:AFr).put o.dst v) st' with|some (fr,st2)=>K fr.l st2|none=>F)|none=>F):=by
   unfold exK
   cases h:yW T gl ⟨n,l⟩ st o.op with
   |none=>rfl
   | some x=>
    obtain⟨v,st'⟩:=x
    simp only
    rw [V.fc_eq,vf]
    have:(match pX o.op with|true=>st'.fc fun st''=>uM T gl ops F K r n ((⟨n,l⟩:AFr).put o.dst v).l st''|false=>uM T gl ops F K r n ((⟨n,l⟩:AFr).put o.dst v).l st')=uM T gl ops F K r n ((⟨n,l⟩:AFr).put o.dst v).l st':=by
     cases pX o.op
     ·rfl
     ·simp only; rw [St.fc_eq]
    rw [this,(uD T gl ops F K r n _ st').1,←hput v]
  have hexn:∀fr st2,(match yW T gl ⟨n,l⟩ st o.op with|some (v,st')=>wQ T gl ops r ((⟨n,l⟩:AFr).put o.dst v) st'|none=>none)=some (fr,st2)→fr.n=n:=by
   intro fr st2 h
   cases hx:yW T gl ⟨n,l⟩ st o.op with
   |none=>rw [hx]at h; cases h
   | some x=>
    obtain⟨v,st'⟩:=x
    rw [hx]at h
    simp only at h
    rw [hput v]at h
    exact(uD T gl ops F K r n _ st').2 _ _ h
  cases hg:o.guard with
  | none=>
   simp only [uM,wQ,hg]
   refine⟨?_,hexn⟩
   rw [hex]
   cases yW T gl ⟨n,l⟩ st o.op with
   |none=>rfl
   |some x=>rfl
  | some x=>
   obtain⟨j,want⟩:=x
   simp only [uM,wQ,hg]
   unfold gdK
   cases hy:xC ops ⟨n,l⟩ j with
   |none=>exact⟨rfl,by intro fr st' h; cases h⟩
   | some b=>
    have hno:(dQ n l o.dst (.tuple []) fun l'=>uM T gl ops F K r n l' st)=(match wQ T gl ops r ((⟨n,l⟩:AFr).put o.dst (.tuple [])) st with|some (fr,st')=>K fr.l st'|none=>F):=by
     rw [vf,(uD T gl ops F K r n _ st).1,←hput]
    have hnn:∀fr st',wQ T gl ops r ((⟨n,l⟩:AFr).put o.dst (.tuple [])) st=some (fr,st')→fr.n=n:=by
     intro fr st' h
     rw [hput]at h
     exact(uD T gl ops F K r n _ st).2 _ _ h
    cases b with
    |none=>simp only [if_neg (by simp:¬(none:Option Bool)=some want)]; exact⟨hno,hnn⟩
    | some b=>
     by_cases hb:b=want
     ·subst hb
      simp only [if_true]
      refine⟨?_,hexn⟩
      have:(bif (bif b then b else !b)then(exK T gl n l st o F fun l' st'=>uM T gl ops F K r n l' st')else(dQ n l o.dst (.tuple []) fun l'=>uM T gl ops F K r n l' st))=(exK T gl n l st o F fun l' st'=>uM T gl ops F K r n l' st'):=by cases b<;>rfl
      rw [this,hex]
      cases yW T gl ⟨n,l⟩ st o.op with
      |none=>rfl
      |some x=>rfl
     ·have:(bif (bif b then want else !want)then(exK T gl n l st o F fun l' st'=>uM T gl ops F K r n l' st')else(dQ n l o.dst (.tuple []) fun l'=>uM T gl ops F K r n l' st))=(dQ n l o.dst (.tuple []) fun l'=>uM T gl ops F K r n l' st):=by cases b<;>cases want<;>first|rfl|exact absurd rfl hb
      simp only [this,Option.some.injEq,hb,if_false]
      exact⟨hno,hnn⟩
end
abbrev Cfg:=AFr×St
theorem dc {R:Type} (T:TypeId→TI) (gl:Nat→List V) (ops:Array Oper) (F:R) (K:List (Nat×V)→St→R) (os:List Oper) (n:Nat) (l:List (Nat×V)) (st:St):
  uM T gl ops F K os n l st=(match wQ T gl ops os ⟨n,l⟩ st with|some (fr,st')=>K fr.l st'|none=>F):=(uD T gl ops F K os n l st).1
def wg (T:TypeId→TI) (gl:Nat→List V) (ops:Array Oper) (i k:Nat) (x:Cfg):Cfg:=match x with
 |(⟨n,l⟩,st)=>uM T gl ops ((⟨0,[]⟩,⟨[],[]⟩):Cfg) (fun l' st'=>(⟨n,l'⟩,st')) (seg ops i k) n l st
theorem uF (T:TypeId→TI) (gl:Nat→List V) (ops:Array Oper) (i k:Nat) (x:Cfg):wg T gl ops i k x=uo T gl ops i k x.1 x.2:=by
 obtain⟨⟨n,l⟩,st⟩:=x
 simp only [wg,uo]
 rw [dc]
 cases h:wQ T gl ops (seg ops i k) ⟨n,l⟩ st with
 |none=>rfl
 | some y=>
  obtain⟨fr,st'⟩:=y
  have hn:=(uD T gl ops () (fun _ _=>()) (seg ops i k) n l st).2 fr st' h
  obtain⟨n',l'⟩:=fr
  simp only at hn; subst hn; rfl
def atX {R:Type} (T:TypeId→TI) (gl:Nat→List V) (ops:Array Oper) (i k:Nat) (x:Cfg) (F:R) (K:Oper→AFr→St→R):R:=match x with
 |(⟨n,l⟩,st)=>uM T gl ops F (fun l' st'=>match ops.toList[k]? with|some o=>K o ⟨n,l'⟩ st'|none=>F) (seg ops i k) n l st
theorem B2 {R:Type} (T:TypeId→TI) (gl:Nat→List V) (ops:Array Oper) (i k:Nat) (x:Cfg) (F:R) (K:Oper→AFr→St→R):
  atX T gl ops i k x F K=(match wQ T gl ops (seg ops i k) x.1 x.2 with|some (fr1,st1)=>(match ops.toList[k]? with|some o=>K o fr1 st1|none=>F)|none=>F):=by
 obtain⟨⟨n,l⟩,st⟩:=x
 simp only [atX]
 rw [dc]
 cases h:wQ T gl ops (seg ops i k) ⟨n,l⟩ st with
 |none=>rfl
 | some y=>
  obtain⟨fr,st'⟩:=y
  have hn:=(uD T gl ops () (fun _ _=>()) (seg ops i k) n l st).2 fr st' h
  obtain⟨n',l'⟩:=fr
  simp only at hn; subst hn; rfl
def qg (T:TypeId→TI) (gl:Nat→List V) (ops:Array Oper) (i k:Nat) (x:Cfg):Option (V×St):=atX T gl ops i k x none fun o fr1 st1=>match pf ops o fr1 with|true=>yW T gl fr1 st1 o.op|false=>none
theorem Zw (T:TypeId→TI) (gl:Nat→List V) (ops:Array Oper) (i k:Nat) (x:Cfg):qg T gl ops i k x=YK T gl ops i k x.1 x.2:=by
 rw [qg,B2,YK]
 cases wQ T gl ops (seg ops i k) x.1 x.2 with
 |none=>rfl
 | some y=>
  obtain⟨fr1,st1⟩:=y
  simp only
  cases ops.toList[k]? with
  |none=>rfl
  | some o=>
   simp only
   cases pf ops o fr1<;>rfl
def Vp (T:TypeId→TI) (gl:Nat→List V) (ops:Array Oper) (i k:Nat) (x:Cfg):Option (FuncId×List V):=atX T gl ops i k x none fun o fr1 st1=>match pf ops o fr1 with
 | true=>match o.op with
  | .call ⟨.value f,args,_⟩=>kx (fr1.eval f) (args.toList.map fr1.eval)
  |_=>none
 |false=>none
theorem GB (T:TypeId→TI) (gl:Nat→List V) (ops:Array Oper) (i k:Nat) (x:Cfg):Vp T gl ops i k x=pj T gl ops i k x.1 x.2:=by
 rw [Vp,B2,pj]
 cases wQ T gl ops (seg ops i k) x.1 x.2 with
 |none=>rfl
 | some y=>
  obtain⟨fr1,st1⟩:=y
  simp only
  cases ops.toList[k]? with
  |none=>rfl
  | some o=>
   simp only
   cases pf ops o fr1 with
   |false=>rfl
   | true=>
    simp only
    generalize o.op=op
    cases op<;>try rfl
end Go.Abs
end
