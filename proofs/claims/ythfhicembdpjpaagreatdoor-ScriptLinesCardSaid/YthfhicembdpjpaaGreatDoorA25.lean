/- Abstract values: a part. No condition beyond each statement's own. -/
import Derived.Test.YthfhicembdpjpaaGreatDoorA24
set_option linter.all false
section
namespace Go.Abs
open Go.RowKit (Below)
section
variable {R:Type}
def V.fc (v:V) (K:V→R):R:=match v with
 | .junk=>K .junk
 | .bool b=>K (.bool b)
 | .int k n=>K (.int k n)
 | .str s=>K (.str s)
 | .ptr a b=>K (.ptr a b)
 | .nilp=>K .nilp
 | .gptr a b=>K (.gptr a b)
 | .eptr a b=>K (.eptr a b)
 | .sl a b c=>K (.sl a b c)
 | .nilsl=>K .nilsl
 | .rsl a b c d e=>K (.rsl a b c d e)
 | .func a b c=>K (.func a b c)
 | .nilfunc=>K .nilfunc
 | .agg a=>K (.agg a)
 | .tuple a=>K (.tuple a)
 | .own a b c=>K (.own a b c)
 | .mapv a=>K (.mapv a)
 | .iter a=>K (.iter a)
 | .iface a b=>K (.iface a b)
 | .niliface=>K .niliface
 | .mp a=>K (.mp a)
 | .sit a b=>K (.sit a b)
 | .buf a=>K (.buf a)
 | .bobj a b c d=>K (.bobj a b c d)
 | .bbuf a b=>K (.bbuf a b)
theorem V.fc_eq (v:V) (K:V→R):v.fc K=K v:=by cases v<;>rfl
def K4 (l:List (Nat×V)) (d:Nat) (v:V) (K:List (Nat×V)→R):R:=match l with
 | []=>K [(d,v)]
 |(k,x)::r=>bif Nat.beq k d then K ((d,v)::r)else K4 r d v fun r'=>K ((k,x)::r')
theorem Qx:∀(l:List (Nat×V)) (d:Nat) (v:V) (K:List (Nat×V)→R),K4 l d v K=K (Uy l d v)
 | [],d,v,K=>rfl
 | (k,x)::r,d,v,K=>by
  simp only [K4,Uy]
  by_cases h:k=d
  ·simp [h]
  ·have:Nat.beq k d=false:=by
    cases hb:Nat.beq k d with
    |false=>rfl
    |true=>exact absurd (Nat.eq_of_beq_eq_true hb) h
   rw [this,if_neg h]; simp only [cond_false]; rw [Qx r d v]
def lfc {α:Type} (l:List α) (K:List α→R):R:=match l with
 | []=>K []
 |x::r=>lfc r fun r'=>K (x::r')
theorem QX {α:Type}:∀(l:List α) (K:List α→R),lfc l K=K l
 | [],K=>rfl
 |x::r,K=>by simp only [lfc]; rw [QX r]
def DH (l:List (List V)) (K:List (List V)→R):R:=match l with
 | []=>K []
 |x::r=>lfc x fun x'=>DH r fun r'=>K (x'::r')
theorem KO:∀(l:List (List V)) (K:List (List V)→R),DH l K=K l
 | [],K=>rfl
 |x::r,K=>by simp only [DH]; rw [QX x,KO r]
def St.fc (st:St) (K:St→R):R:=match st with
 |⟨vs,fs⟩=>DH vs fun vs'=>lfc fs fun fs'=>K ⟨vs',fs'⟩
theorem St.fc_eq (st:St) (K:St→R):st.fc K=K st:=by
 obtain⟨vs,fs⟩:=st
 simp only [St.fc]; rw [KO,QX]
def Vt:Op→Bool
 | .alloc .. | .box .. | .store .. | .makeSlice .. | .call .. | .makeMap .. | .mapUpdate .. | .range .. | .next .. => true
 |_=>false
def WY (n:Nat) (l:List (Nat×V)) (dst:Option Tmp) (v:V) (K:List (Nat×V)→R):R:=match dst with
 |none=>K l
 |some d=>bif Nat.blt d n then K4 l d v K else K l
theorem dL (n:Nat) (l:List (Nat×V)) (dst:Option Tmp) (v:V) (K:List (Nat×V)→R):WY n l dst v K=K ((⟨n,l⟩:AFr).put dst v).l:=by
 cases dst with
 |none=>rfl
 | some d=>
  simp only [WY,AFr.put]
  by_cases h:d<n
  ·have:Nat.blt d n=true:=Nat.ble_eq_true_of_le h
   rw [this,if_pos h]; simp only [cond_true]; rw [Qx]
  ·have:Nat.blt d n=false:=by
    cases hb:Nat.blt d n with
    |false=>rfl
    |true=>exact absurd (iD hb) h
   rw [this,if_neg h]; rfl
def exK (T:TypeId→TI) (gl:Nat→List V) (n:Nat) (l:List (Nat×V)) (st:St) (o:Oper) (F:R) (K:List (Nat×V)→St→R):R:=
 match jp T gl ⟨n,l⟩ st o.op with
 |some (v,st')=>v.fc fun v'=>WY n l o.dst v' fun l'=>match Vt o.op with|true=>st'.fc fun st''=>K l' st''|false=>K l' st'
 |none=>F
def gdK (ops:Array Oper) (l:List (Nat×V)) (n j:Nat) (want:Bool) (F Y N:R):R:=
 match ky ops ⟨n,l⟩ j with
 |some (some b)=>bif (bif b then want else not want)then Y else N
 |some none=>N
 |none=>F
def ZI (T:TypeId→TI) (gl:Nat→List V) (ops:Array Oper) (F:R) (K:List (Nat×V)→St→R):List Oper→Nat→List (Nat×V)→St→R
 | [],n,l,st=>K l st
 | o::r,n,l,st=>match o.guard with
  |none=>exK T gl n l st o F fun l' st'=>ZI T gl ops F K r n l' st'
  |some (j,want)=>gdK ops l n j want F (exK T gl n l st o F fun l' st'=>ZI T gl ops F K r n l' st') (WY n l o.dst (.tuple []) fun l'=>ZI T gl ops F K r n l' st)
theorem ZB (T:TypeId→TI) (gl:Nat→List V) (ops:Array Oper) (F:R) (K:List (Nat×V)→St→R):∀(os:List Oper) (n:Nat) (l:List (Nat×V)) (st:St),
  ZI T gl ops F K os n l st=(match bW T gl ops os ⟨n,l⟩ st with|some (fr,st')=>K fr.l st'|none=>F)∧∀fr st',bW T gl ops os ⟨n,l⟩ st=some (fr,st')→fr.n=n
 | [],n,l,st=>⟨rfl,by intro fr st' h; simp only [bW]at h; injection h with h; injection h with h1 h2; rw [←h1]⟩
 | o ::r,n,l,st=>by
  have hput:∀v,((⟨n,l⟩:AFr).put o.dst v)=⟨n,((⟨n,l⟩:AFr).put o.dst v).l⟩:=by
   intro v
   cases o.dst with
   |none=>rfl
   |some d=>simp only [AFr.put]; split<;>rfl
  have hex:exK T gl n l st o F (fun l' st'=>ZI T gl ops F K r n l' st')=(match jp T gl ⟨n,l⟩ st o.op with
    |some (v,st')=>(match bW T gl ops r ((⟨n,l⟩:AFr).put o.dst v) st' with|some (fr,st2)=>K fr.l st2|none=>F)|none=>F):=by
   unfold exK
   cases h:jp T gl ⟨n,l⟩ st o.op with
   |none=>rfl
   | some x=>
    obtain⟨v,st'⟩:=x
    simp only
    rw [V.fc_eq,dL]
    have:(match Vt o.op with|true=>st'.fc fun st''=>ZI T gl ops F K r n ((⟨n,l⟩:AFr).put o.dst v).l st''|false=>ZI T gl ops F K r n ((⟨n,l⟩:AFr).put o.dst v).l st')=ZI T gl ops F K r n ((⟨n,l⟩:AFr).put o.dst v).l st':=by
     cases Vt o.op
     ·rfl
     ·simp only; rw [St.fc_eq]
    rw [this,(ZB T gl ops F K r n _ st').1,←hput v]
  have hexn:∀fr st2,(match jp T gl ⟨n,l⟩ st o.op with|some (v,st')=>bW T gl ops r ((⟨n,l⟩:AFr).put o.dst v) st'|none=>none)=some (fr,st2)→fr.n=n:=by
   intro fr st2 h
   cases hx:jp T gl ⟨n,l⟩ st o.op with
   |none=>rw [hx]at h; cases h
   | some x=>
    obtain⟨v,st'⟩:=x
    rw [hx]at h
    simp only at h
    rw [hput v]at h
    exact(ZB T gl ops F K r n _ st').2 _ _ h
  cases hg:o.guard with
  | none=>
   simp only [ZI,bW,hg]
   refine⟨?_,hexn⟩
   rw [hex]
   cases jp T gl ⟨n,l⟩ st o.op with
   |none=>rfl
   |some x=>rfl
  | some x=>
   obtain⟨j,want⟩:=x
   simp only [ZI,bW,hg]
   unfold gdK
   cases hy:ky ops ⟨n,l⟩ j with
   |none=>exact⟨rfl,by intro fr st' h; cases h⟩
   | some b=>
    have hno:(WY n l o.dst (.tuple []) fun l'=>ZI T gl ops F K r n l' st)=(match bW T gl ops r ((⟨n,l⟩:AFr).put o.dst (.tuple [])) st with|some (fr,st')=>K fr.l st'|none=>F):=by
     rw [dL,(ZB T gl ops F K r n _ st).1,←hput]
    have hnn:∀fr st',bW T gl ops r ((⟨n,l⟩:AFr).put o.dst (.tuple [])) st=some (fr,st')→fr.n=n:=by
     intro fr st' h
     rw [hput]at h
     exact(ZB T gl ops F K r n _ st).2 _ _ h
    cases b with
    |none=>simp only [if_neg (by simp:¬(none:Option Bool)=some want)]; exact⟨hno,hnn⟩
    | some b=>
     by_cases hb:b=want
     ·subst hb
      simp only [if_true]
      refine⟨?_,hexn⟩
      have:(bif (bif b then b else !b)then(exK T gl n l st o F fun l' st'=>ZI T gl ops F K r n l' st')else(WY n l o.dst (.tuple []) fun l'=>ZI T gl ops F K r n l' st))=(exK T gl n l st o F fun l' st'=>ZI T gl ops F K r n l' st'):=by cases b<;>rfl
      rw [this,hex]
      cases jp T gl ⟨n,l⟩ st o.op with
      |none=>rfl
      |some x=>rfl
     ·have:(bif (bif b then want else !want)then(exK T gl n l st o F fun l' st'=>ZI T gl ops F K r n l' st')else(WY n l o.dst (.tuple []) fun l'=>ZI T gl ops F K r n l' st))=(WY n l o.dst (.tuple []) fun l'=>ZI T gl ops F K r n l' st):=by cases b<;>cases want<;>first|rfl|exact absurd rfl hb
      simp only [this,Option.some.injEq,hb,if_false]
      exact⟨hno,hnn⟩
end
abbrev Cfg:=AFr×St
theorem WG {R:Type} (T:TypeId→TI) (gl:Nat→List V) (ops:Array Oper) (F:R) (K:List (Nat×V)→St→R) (os:List Oper) (n:Nat) (l:List (Nat×V)) (st:St):
  ZI T gl ops F K os n l st=(match bW T gl ops os ⟨n,l⟩ st with|some (fr,st')=>K fr.l st'|none=>F):=(ZB T gl ops F K os n l st).1
def ve (T:TypeId→TI) (gl:Nat→List V) (ops:Array Oper) (i k:Nat) (x:Cfg):Cfg:=match x with
 |(⟨n,l⟩,st)=>ZI T gl ops ((⟨0,[]⟩,⟨[],[]⟩):Cfg) (fun l' st'=>(⟨n,l'⟩,st')) (seg ops i k) n l st
theorem qO (T:TypeId→TI) (gl:Nat→List V) (ops:Array Oper) (i k:Nat) (x:Cfg):ve T gl ops i k x=bD T gl ops i k x.1 x.2:=by
 obtain⟨⟨n,l⟩,st⟩:=x
 simp only [ve,bD]
 rw [WG]
 cases h:bW T gl ops (seg ops i k) ⟨n,l⟩ st with
 |none=>rfl
 | some y=>
  obtain⟨fr,st'⟩:=y
  have hn:=(ZB T gl ops () (fun _ _=>()) (seg ops i k) n l st).2 fr st' h
  obtain⟨n',l'⟩:=fr
  simp only at hn; subst hn; rfl
def atX {R:Type} (T:TypeId→TI) (gl:Nat→List V) (ops:Array Oper) (i k:Nat) (x:Cfg) (F:R) (K:Oper→AFr→St→R):R:=match x with
 |(⟨n,l⟩,st)=>ZI T gl ops F (fun l' st'=>match ops.toList[k]? with|some o=>K o ⟨n,l'⟩ st'|none=>F) (seg ops i k) n l st
theorem Wr {R:Type} (T:TypeId→TI) (gl:Nat→List V) (ops:Array Oper) (i k:Nat) (x:Cfg) (F:R) (K:Oper→AFr→St→R):
  atX T gl ops i k x F K=(match bW T gl ops (seg ops i k) x.1 x.2 with|some (fr1,st1)=>(match ops.toList[k]? with|some o=>K o fr1 st1|none=>F)|none=>F):=by
 obtain⟨⟨n,l⟩,st⟩:=x
 simp only [atX]
 rw [WG]
 cases h:bW T gl ops (seg ops i k) ⟨n,l⟩ st with
 |none=>rfl
 | some y=>
  obtain⟨fr,st'⟩:=y
  have hn:=(ZB T gl ops () (fun _ _=>()) (seg ops i k) n l st).2 fr st' h
  obtain⟨n',l'⟩:=fr
  simp only at hn; subst hn; rfl
def gy (T:TypeId→TI) (gl:Nat→List V) (ops:Array Oper) (i k:Nat) (x:Cfg):Option (V×St):=atX T gl ops i k x none fun o fr1 st1=>match YC ops o fr1 with|true=>jp T gl fr1 st1 o.op|false=>none
theorem YT (T:TypeId→TI) (gl:Nat→List V) (ops:Array Oper) (i k:Nat) (x:Cfg):gy T gl ops i k x=VC T gl ops i k x.1 x.2:=by
 rw [gy,Wr,VC]
 cases bW T gl ops (seg ops i k) x.1 x.2 with
 |none=>rfl
 | some y=>
  obtain⟨fr1,st1⟩:=y
  simp only
  cases ops.toList[k]? with
  |none=>rfl
  | some o=>
   simp only
   cases YC ops o fr1<;>rfl
def Uf (T:TypeId→TI) (gl:Nat→List V) (ops:Array Oper) (i k:Nat) (x:Cfg):Option (Nat×V):=atX T gl ops i k x none fun o fr1 st1=>match o.guard with
 |some (j,_)=>match we ops j with|some d=>some (d,wh fr1.l d)|none=>none
 |none=>none
theorem BH (T:TypeId→TI) (gl:Nat→List V) (ops:Array Oper) (i k:Nat) (x:Cfg):Uf T gl ops i k x=UZ T gl ops i k x.1 x.2:=by
 rw [Uf,Wr,UZ]
 cases bW T gl ops (seg ops i k) x.1 x.2 with
 |none=>rfl
 | some y=>
  obtain⟨fr1,st1⟩:=y
  simp only
  cases ops.toList[k]? with
  |none=>rfl
  | some o=>
   simp only
   cases o.guard with
   |none=>rfl
   |some g=>obtain⟨j,w⟩:=g; simp only; cases we ops j<;>rfl
def JX (T:TypeId→TI) (gl:Nat→List V) (ops:Array Oper) (i k:Nat) (x:Cfg):Option (FuncId×List V):=atX T gl ops i k x none fun o fr1 st1=>match YC ops o fr1 with
 | true=>match o.op with
  | .call ⟨.value f,args,_⟩=>Y9 (fr1.eval f) (args.toList.map fr1.eval)
  |_=>none
 |false=>none
theorem B9 (T:TypeId→TI) (gl:Nat→List V) (ops:Array Oper) (i k:Nat) (x:Cfg):JX T gl ops i k x=Va T gl ops i k x.1 x.2:=by
 rw [JX,Wr,Va]
 cases bW T gl ops (seg ops i k) x.1 x.2 with
 |none=>rfl
 | some y=>
  obtain⟨fr1,st1⟩:=y
  simp only
  cases ops.toList[k]? with
  |none=>rfl
  | some o=>
   simp only
   cases YC ops o fr1 with
   |false=>rfl
   | true=>
    simp only
    generalize o.op=op
    cases op<;>try rfl
end Go.Abs
end
