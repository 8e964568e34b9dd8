/- Abstract values. No condition. -/
import Derived.Test.YtkabooclnoiclaaGreatDoorA24
set_option linter.all false
section
namespace Go.Abs
open Go.RowKit (Below)
section
variable {R:Type}
def V.fc (v:V) (K:V->R):R:=match v with
 | .junk=>K .junk
 | .bool b=>K (.bool b)
 | .int k n=>K (.int k n)
 | .str s=>K (.str s)
 | .ptr a b=>K (.ptr a b)
 | .nilp=>K .nilp
 | .gptr a b=>K (.gptr a b)
 | .eptr a b=>K (.eptr a b)
 | .sl a b c=>K (.sl a b c)
 | .nilsl=>K .nilsl
 | .rsl a b c d e=>K (.rsl a b c d e)
 | .func a b c=>K (.func a b c)
 | .nilfunc=>K .nilfunc
 | .agg a=>K (.agg a)
 | .tuple a=>K (.tuple a)
 | .own a b c=>K (.own a b c)
 | .mapv a=>K (.mapv a)
 | .iter a=>K (.iter a)
 | .iface a b=>K (.iface a b)
 | .niliface=>K .niliface
 | .mp a=>K (.mp a)
 | .sit a b=>K (.sit a b)
 | .buf a=>K (.buf a)
def V.fc_eq (v:V) (K:V->R):v.fc K=K v:=by cases v<;>rfl
def cU (l:List (Nat×V)) (d:Nat) (v:V) (K:List (Nat×V)->R):R:=match l with
 | []=>K [(d,v)]
 |(k,x)::r=>bif Nat.beq k d then K ((d,v)::r)else cU r d v fun a=>K ((k,x)::a)
def GE:∀(l:List (Nat×V)) (d:Nat) (v:V) (K:List (Nat×V)->R),cU l d v K=K (Zs l d v)
 | [],d,v,K=>rfl
 | (k,x)::r,d,v,K=>by
  simp only [cU,Zs]
  by_cases h:k=d
  ·simp [h]
  ·have:Nat.beq k d=false:=by
    cases a:Nat.beq k d with
    |false=>rfl
    |true=>exact absurd (iE a) h
   rw [this,iH h]; simp only [cond_false]; rw [GE r d v]
def lfc {α:Type} (l:List α) (K:List α->R):R:=match l with
 | []=>K []
 |x::r=>lfc r fun a=>K (x::a)
def XP {α:Type}:∀(l:List α) (K:List α->R),lfc l K=K l
 | [],K=>rfl
 |x::r,K=>by simp only [lfc]; rw [XP r]
def th (l:List (List V)) (K:List (List V)->R):R:=match l with
 | []=>K []
 |x::r=>lfc x fun b=>th r fun a=>K (b::a)
def P6:∀(l:List (List V)) (K:List (List V)->R),th l K=K l
 | [],K=>rfl
 |x::r,K=>by simp only [th]; rw [XP x,P6 r]
def St.fc (st:St) (K:St->R):R:=match st with
 |⟨b,a⟩=>th b fun vs'=>lfc a fun fs'=>K ⟨vs',fs'⟩
def St.fc_eq (st:St) (K:St->R):st.fc K=K st:=by
 obtain⟨b,a⟩:=st;simp only [St.fc]; rw [P6,XP]
def Vt:Op->Bool
 | .alloc .. | .box .. | .store .. | .makeSlice .. | .call .. | .makeMap .. | .mapUpdate .. | .range .. | .next .. => true
 |_=>false
def Wj (n:Nat) (l:List (Nat×V)) (dst:Option Tmp) (v:V) (K:List (Nat×V)->R):R:=match dst with
 |none=>K l
 |some d=>bif Nat.blt d n then cU l d v K else K l
def qG (n:Nat) (l:List (Nat×V)) (dst:Option Tmp) (v:V) (K:List (Nat×V)->R):Wj n l dst v K=K ((⟨n,l⟩:AFr).put dst v).l:=by
 cases dst with
 |none=>rfl
 | some d=>
  simp only [Wj,AFr.put]
  by_cases h:d<n
  ·have:Nat.blt d n=true:=Nat.ble_eq_true_of_le h;rw [this,iI h]; simp only [cond_true]; rw [GE]
  ·have:Nat.blt d n=false:=by
    cases a:Nat.blt d n with
    |false=>rfl
    |true=>exact absurd (iD a) h
   rw [this,iH h]; rfl
def exK (T:TypeId->TI) (gl:Nat->List V) (n:Nat) (l:List (Nat×V)) (st:St) (o:Oper) (F:R) (K:List (Nat×V)->St->R):R:=
 match vP T gl ⟨n,l⟩ st o.op with
 |some (v,a)=>v.fc fun c=>Wj n l o.dst c fun b=>match Vt o.op with|true=>a.fc fun st''=>K b st''|false=>K b a
 |none=>F
def gdK (ops:Array Oper) (l:List (Nat×V)) (n j:Nat) (a:Bool) (F Y N:R):R:=
 match uM ops ⟨n,l⟩ j with
 |some (some b)=>bif (bif b then a else not a)then Y else N
 |some none=>N
 |none=>F
def gH (T:TypeId->TI) (gl:Nat->List V) (ops:Array Oper) (F:R) (K:List (Nat×V)->St->R):List Oper->Nat->List (Nat×V)->St->R
 | [],n,l,c=>K l c
 | o::r,n,l,c=>match o.guard with
  |none=>exK T gl n l c o F fun b a=>gH T gl ops F K r n b a
  |some (j,e)=>gdK ops l n j e F (exK T gl n l c o F fun b a=>gH T gl ops F K r n b a) (Wj n l o.dst (.tuple []) fun b=>gH T gl ops F K r n b c)
def gy (T:TypeId->TI) (gl:Nat->List V) (ops:Array Oper) (F:R) (K:List (Nat×V)->St->R):∀(os:List Oper) (n:Nat) (l:List (Nat×V)) (st:St),
  gH T gl ops F K os n l st=(match jP T gl ops os ⟨n,l⟩ st with|some (fr,st')=>K fr.l st'|none=>F)∧∀fr st',jP T gl ops os ⟨n,l⟩ st=some (fr,st')->fr.n=n
 | [],n,l,st=>⟨rfl,by intro fr st' h; simp only [jP]at h; injection h with h; injection h with t w; rw [<-t]⟩
 | o ::r,n,l,st=>by
  have e:∀v,((⟨n,l⟩:AFr).put o.dst v)=⟨n,((⟨n,l⟩:AFr).put o.dst v).l⟩:=by
   intro v
   cases o.dst with
   |none=>rfl
   |some d=>simp only [AFr.put]; split<;>rfl
  have i:exK T gl n l st o F (fun c st'=>gH T gl ops F K r n c st')=(match vP T gl ⟨n,l⟩ st o.op with
    |some (v,st')=>(match jP T gl ops r ((⟨n,l⟩:AFr).put o.dst v) st' with|some (fr,f)=>K fr.l f|none=>F)|none=>F):=by
   unfold exK
   cases h:vP T gl ⟨n,l⟩ st o.op with
   |none=>rfl
   | some x=>
    obtain⟨v,st'⟩:=x;simp only;rw [V.fc_eq,qG]
    have:(match Vt o.op with|true=>st'.fc fun st''=>gH T gl ops F K r n ((⟨n,l⟩:AFr).put o.dst v).l st''|false=>gH T gl ops F K r n ((⟨n,l⟩:AFr).put o.dst v).l st')=gH T gl ops F K r n ((⟨n,l⟩:AFr).put o.dst v).l st':=by
     cases Vt o.op
     ·rfl
     ·simp only; rw [St.fc_eq]
    rw [this,(gy T gl ops F K r n _ st').1,<-e v]
  have g:∀fr f,(match vP T gl ⟨n,l⟩ st o.op with|some (v,st')=>jP T gl ops r ((⟨n,l⟩:AFr).put o.dst v) st'|none=>none)=some (fr,f)->fr.n=n:=by
   intro fr f h
   cases s:vP T gl ⟨n,l⟩ st o.op with
   |none=>rw [s]at h; cases h
   | some x=>
    obtain⟨v,st'⟩:=x;rw [s]at h;simp only at h;rw [e v]at h;exact(gy T gl ops F K r n _ st').2 _ _ h
  cases q:o.guard with
  | none=>
   simp only [gH,jP,q];refine⟨?_,g⟩;rw [i]
   cases vP T gl ⟨n,l⟩ st o.op with
   |none=>rfl
   |some x=>rfl
  | some x=>
   obtain⟨j,a⟩:=x;simp only [gH,jP,q];unfold gdK
   cases y:uM ops ⟨n,l⟩ j with
   |none=>exact⟨rfl,by intro fr st' h; cases h⟩
   | some b=>
    have m:(Wj n l o.dst (.tuple []) fun c=>gH T gl ops F K r n c st)=(match jP T gl ops r ((⟨n,l⟩:AFr).put o.dst (.tuple [])) st with|some (fr,st')=>K fr.l st'|none=>F):=by
     rw [qG,(gy T gl ops F K r n _ st).1,<-e]
    have k:∀fr st',jP T gl ops r ((⟨n,l⟩:AFr).put o.dst (.tuple [])) st=some (fr,st')->fr.n=n:=by
     intro fr st' h;rw [e]at h;exact(gy T gl ops F K r n _ st).2 _ _ h
    cases b with
    |none=>simp only [iH (by simp:¬(none:Option Bool)=some a)]; exact⟨m,k⟩
    | some b=>
     by_cases p:b=a
     ·subst p;simp only [if_true];refine⟨?_,g⟩;have:(bif (bif b then b else !b)then(exK T gl n l st o F fun c st'=>gH T gl ops F K r n c st')else(Wj n l o.dst (.tuple []) fun c=>gH T gl ops F K r n c st))=(exK T gl n l st o F fun c st'=>gH T gl ops F K r n c st'):=by cases b<;>rfl
      rw [this,i]
      cases vP T gl ⟨n,l⟩ st o.op with
      |none=>rfl
      |some x=>rfl
     ·have:(bif (bif b then a else !a)then(exK T gl n l st o F fun c st'=>gH T gl ops F K r n c st')else(Wj n l o.dst (.tuple []) fun c=>gH T gl ops F K r n c st))=(Wj n l o.dst (.tuple []) fun c=>gH T gl ops F K r n c st):=by cases b<;>cases a<;>first|rfl|exact absurd rfl p
      simp only [this,iL,p,if_false];exact⟨m,k⟩
end
abbrev Cfg:=AFr×St
def XR {R:Type} (T:TypeId->TI) (gl:Nat->List V) (ops:Array Oper) (F:R) (K:List (Nat×V)->St->R) (os:List Oper) (n:Nat) (l:List (Nat×V)) (st:St):
  gH T gl ops F K os n l st=(match jP T gl ops os ⟨n,l⟩ st with|some (fr,st')=>K fr.l st'|none=>F):=(gy T gl ops F K os n l st).1
def uc (T:TypeId->TI) (gl:Nat->List V) (ops:Array Oper) (i k:Nat) (x:Cfg):Cfg:=match x with
 |(⟨n,l⟩,c)=>gH T gl ops ((⟨0,[]⟩,⟨[],[]⟩):Cfg) (fun b a=>(⟨n,b⟩,a)) (seg ops i k) n l c
def bc (T:TypeId->TI) (gl:Nat->List V) (ops:Array Oper) (i k:Nat) (x:Cfg):uc T gl ops i k x=qr T gl ops i k x.1 x.2:=by
 obtain⟨⟨n,l⟩,c⟩:=x;simp only [uc,qr];rw [XR]
 cases h:jP T gl ops (seg ops i k) ⟨n,l⟩ c with
 |none=>rfl
 | some y=>
  obtain⟨fr,a⟩:=y;have b:=(gy T gl ops () (fun _ _=>()) (seg ops i k) n l c).2 fr a h;obtain⟨f,e⟩:=fr;simp only at b; subst b; rfl
def atX {R:Type} (T:TypeId->TI) (gl:Nat->List V) (ops:Array Oper) (i k:Nat) (x:Cfg) (F:R) (K:Oper->AFr->St->R):R:=match x with
 |(⟨n,l⟩,c)=>gH T gl ops F (fun b a=>match ops.toList[k]? with|some o=>K o ⟨n,b⟩ a|none=>F) (seg ops i k) n l c
def Da {R:Type} (T:TypeId->TI) (gl:Nat->List V) (ops:Array Oper) (i k:Nat) (x:Cfg) (F:R) (K:Oper->AFr->St->R):
  atX T gl ops i k x F K=(match jP T gl ops (seg ops i k) x.1 x.2 with|some (a,st1)=>(match ops.toList[k]? with|some o=>K o a st1|none=>F)|none=>F):=by
 obtain⟨⟨n,l⟩,e⟩:=x;simp only [atX];rw [XR]
 cases h:jP T gl ops (seg ops i k) ⟨n,l⟩ e with
 |none=>rfl
 | some y=>
  obtain⟨fr,b⟩:=y;have c:=(gy T gl ops () (fun _ _=>()) (seg ops i k) n l e).2 fr b h;obtain⟨g,f⟩:=fr;simp only at c; subst c; rfl
def gP (T:TypeId->TI) (gl:Nat->List V) (ops:Array Oper) (i k:Nat) (x:Cfg):Option (V×St):=atX T gl ops i k x none fun o a b=>match WI ops o a with|true=>vP T gl a b o.op|false=>none
def VW (T:TypeId->TI) (gl:Nat->List V) (ops:Array Oper) (i k:Nat) (x:Cfg):gP T gl ops i k x=Jl T gl ops i k x.1 x.2:=by
 rw [gP,Da,Jl]
 cases jP T gl ops (seg ops i k) x.1 x.2 with
 |none=>rfl
 | some y=>
  obtain⟨a,b⟩:=y;simp only
  cases ops.toList[k]? with
  |none=>rfl
  | some o=>
   simp only;cases WI ops o a<;>rfl
def UI (T:TypeId->TI) (gl:Nat->List V) (ops:Array Oper) (i k:Nat) (x:Cfg):Option (Nat×V):=atX T gl ops i k x none fun o a b=>match o.guard with
 |some (j,_)=>match yw ops j with|some d=>some (d,yG a.l d)|none=>none
 |none=>none
def lc (T:TypeId->TI) (gl:Nat->List V) (ops:Array Oper) (i k:Nat) (x:Cfg):UI T gl ops i k x=J8 T gl ops i k x.1 x.2:=by
 rw [UI,Da,J8]
 cases jP T gl ops (seg ops i k) x.1 x.2 with
 |none=>rfl
 | some y=>
  obtain⟨a,b⟩:=y;simp only
  cases ops.toList[k]? with
  |none=>rfl
  | some o=>
   simp only
   cases o.guard with
   |none=>rfl
   |some g=>obtain⟨j,w⟩:=g; simp only; cases yw ops j<;>rfl
def Bz (T:TypeId->TI) (gl:Nat->List V) (ops:Array Oper) (i k:Nat) (x:Cfg):Option (FuncId×List V):=atX T gl ops i k x none fun o a c=>match WI ops o a with
 | true=>match o.op with
  | .call ⟨.value f,b,_⟩=>ZJ (a.eval f) (b.toList.map a.eval)
  |_=>none
 |false=>none
def mJ (T:TypeId->TI) (gl:Nat->List V) (ops:Array Oper) (i k:Nat) (x:Cfg):Bz T gl ops i k x=WN T gl ops i k x.1 x.2:=by
 rw [Bz,Da,WN]
 cases jP T gl ops (seg ops i k) x.1 x.2 with
 |none=>rfl
 | some y=>
  obtain⟨a,b⟩:=y;simp only
  cases ops.toList[k]? with
  |none=>rfl
  | some o=>
   simp only
   cases WI ops o a with
   |false=>rfl
   | true=>
    simp only;generalize o.op=op;cases op<;>try rfl
end Go.Abs
end
