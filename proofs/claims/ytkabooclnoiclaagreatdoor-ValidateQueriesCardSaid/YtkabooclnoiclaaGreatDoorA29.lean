/- Abstract values. No condition. -/
import Derived.Test.YtkabooclnoiclaaGreatDoorA28
set_option linter.all false
section
namespace Go.Abs
open Go.RowKit (Below)
abbrev qi (n:Int):V:= .int .i64 n
abbrev qu (n:Int):V:= .int .u8 n
abbrev qb (b:Bool):V:= .bool b
abbrev qs (s:List UInt8):V:= .str s
abbrev qn:V:= .nilsl
abbrev qp (k:Nat):V:= .ptr k 0
abbrev ql {α:Type} (sz:Nat) (c:α->List V) (l:List α):V:= .sl sz (l.map c) .none
def onl {α:Type} (sz:Nat) (c:α->List V) (r:Option (List α)):V:=match r with|none=> .nilsl|some l=> .sl sz (l.map c) .none
def onE {α β:Type} (r:Option β) (a:Option α) (b:β->Option α):Option α:=match r with|none=>a|some x=>b x
def onN {α β:Type} {a:Option α} {b:β->Option α} {r:α} (h:onE none a b=some r):a=some r:=h
def onS {α β:Type} {a:Option α} {b:β->Option α} {r:α} {x:β} (h:onE (some x) a b=some r):b x=some r:=h
def zdm (l:List (Nat×V)):List Nat->List (Nat×V)->List (Nat×V)
 | [],new=>new
 |k::ks,new=>(k,yG l k)::zdm l ks new
def eS (fr:AFr) (ks:List Nat) (new:List (Nat×V)):AFr:=⟨fr.n,zdm fr.l ks new⟩
def bE {α β:Type} {x:Option α} {f:α->Option β} {y:β} {Q:Prop} (h:x.bind f=some y) (k:∀a,x=some a->f a=some y->Q):Q:=by
 obtain⟨a,b,e⟩:=mu h; exact k a b e
def sI {α:Type} {a b:α} (h:some a=some b):b=a:=(Option.some.inj h).symm
def kF {α:Type} {t:Bool} {A B:Option α} {r:α} {Q:Prop} (h:(if t=true then A else B)=some r) (b:t=true->A=some r->Q) (e:t=false->B=some r->Q):Q:=
 kIf t (fun a=>b a (eG a h)) (fun a=>e a (Pw a h))
section
variable {P:Program} {gl:Nat->List V} {s0:St} {c:Code} {cs:List Code} {AQ:Exit->AFr->St->Prop} {fr:AFr} {st:St}
def zcR {Y Z:Type} {o:Option Y} {f:Y->Option Z} {r:Z} (h:o.bind f=some r) (a:Cl s0 (zh P gl s0 cs AQ)) (F:Y->AFr) (S:Y->St)
  (b:∀y,o=some y->zh P gl s0 [c] (wE (ga s0 F S (fun z=>y=z)) AQ) fr st) (e:∀y,f y=some r->zh P gl s0 cs AQ (F y) (S y)):zh P gl s0 (c::cs) AQ fr st:=by
 obtain⟨y,g,h⟩:=mu h;refine za8 F S (fun z=>y=z) (b y g) a (fun z i=> ?_);subst i; exact e _ h
def t8 {Y Z:Type} {id:Nat} {o:Option Y} {f:Y->Option Z} {r:Z} (h:o.bind f=some r) (a:Cl s0 (zh P gl s0 cs AQ)) (F:Y->AFr) (S:Y->St)
  (b:∀y,o=some y->zh P gl s0 [c] (jc s0 id F S (fun z=>y=z) AQ) fr st) (e:∀y,f y=some r->zh P gl s0 cs AQ (F y) (S y)):zh P gl s0 (.block id c::cs) AQ fr st:=by
 obtain⟨y,g,h⟩:=mu h;refine GL F S (fun z=>y=z) (b y g) a (fun z i=> ?_);subst i; exact e _ h
def zd8 {Y Z:Type} {id:Nat} {o:Option Y} {f:Y->Option Z} {r:Z} (h:o.bind f=some r) (a:Cl s0 (AQ .normal)) (F:Y->AFr) (S:Y->St)
  (b:∀y,o=some y->zh P gl s0 [c] (jc s0 id F S (fun z=>y=z) AQ) fr st) (e:∀y,f y=some r->zh P gl s0 [] AQ (F y) (S y)):zh P gl s0 [.block id c] AQ fr st:=t8 h (kq a) F S b e
def zar {R Y Z:Type} {id:Nat} {o:Option (Ctl R Y)} {g:R->Option Z} {f:Y->Option Z} {r:Z} (h:xb o g f=some r) (a:Cl s0 (zh P gl s0 cs AQ)) (F:Y->AFr) (S:Y->St)
  (b:∀y,o=some y->(∀x,y= .ret x->g x=some r)->zh P gl s0 [c] (jc s0 id F S (fun z=>y= .nxt z) AQ) fr st) (e:∀y,f y=some r->zh P gl s0 cs AQ (F y) (S y)):zh P gl s0 (.block id c::cs) AQ fr st:=by
 obtain⟨y,j,i,h⟩:=zef h;exact GL F S (fun z=>y= .nxt z) (b y j i) a (fun z k=>e _ (h _ k))
def zdF {R Y Z:Type} {id:Nat} {o:Option (Ctl R Y)} {g:R->Option Z} {f:Y->Option Z} {r:Z} (h:xb o g f=some r) (a:Cl s0 (AQ .normal)) (F:Y->AFr) (S:Y->St)
  (b:∀y,o=some y->(∀x,y= .ret x->g x=some r)->zh P gl s0 [c] (jc s0 id F S (fun z=>y= .nxt z) AQ) fr st) (e:∀y,f y=some r->zh P gl s0 [] AQ (F y) (S y)):zh P gl s0 [.block id c] AQ fr st:=zar h (kq a) F S b e
variable {d:Code}
def cuE {Y Z:Type} {o:Option Y} {f:Y->Option Z} {r:Z} (h:o.bind f=some r) (F:Y->AFr) (S:Y->St)
  (a:∀y,o=some y->zh P gl s0 [c] (wE (ga s0 F S (fun z=>y=z)) AQ) fr st) (b:∀y,f y=some r->zh P gl s0 (d::cs) AQ (F y) (S y)):zh P gl s0 (c::d::cs) AQ fr st:=zcR h zO F S a b
def blE {Y Z:Type} {id:Nat} {o:Option Y} {f:Y->Option Z} {r:Z} (h:o.bind f=some r) (F:Y->AFr) (S:Y->St)
  (a:∀y,o=some y->zh P gl s0 [c] (jc s0 id F S (fun z=>y=z) AQ) fr st) (b:∀y,f y=some r->zh P gl s0 (d::cs) AQ (F y) (S y)):zh P gl s0 (.block id c::d::cs) AQ fr st:=t8 h zO F S a b
def blC {R Y Z:Type} {id:Nat} {o:Option (Ctl R Y)} {g:R->Option Z} {f:Y->Option Z} {r:Z} (h:xb o g f=some r) (F:Y->AFr) (S:Y->St)
  (a:∀y,o=some y->(∀x,y= .ret x->g x=some r)->zh P gl s0 [c] (jc s0 id F S (fun z=>y= .nxt z) AQ) fr st) (b:∀y,f y=some r->zh P gl s0 (d::cs) AQ (F y) (S y)):zh P gl s0 (.block id c::d::cs) AQ fr st:=zar h zO F S a b
end
end Go.Abs
namespace Go.Abs
section
variable {P:Program} {T:TypeId->TI} {gl:Nat->List V} {ops:Array Oper} {K:AFr->St->Prop}
def so {α:Type} {T:TypeId->TI} {c:α->List V} {l l2:List α} {id m f:Nat} {cell:Option (List V)} {e e2:TypeId} {sz bytes b2:Nat} {tok tok2:Tok} (a:kM T e sz bytes=true) (h:List.isEmpty l2=true):
  ∀ st:St,st.vars.length=m->st.fams.length=f->st.vars[id]? =cell ->
   vq T st (.slice e sz bytes) (.slice e2 sz b2) (.sl sz (l.map c) tok) (.sl sz (l2.map c) tok2)=some (.sl sz (l.map c) tok,st):=by
 intro st _ _ _;simp only [kM,iF,beq_iff_eq,iJ]at a;obtain⟨⟨⟨b,g⟩,i⟩,j⟩:=a;have:l2= []:=by simpa using h
 subst this;simp only [vq,b,g,i,W0,and_self,if_true,List.map_nil,List.length_nil]
end
section
variable {P:Program} {gl:Nat->List V} {s0:St} {c:Code} {cs:List Code} {AQ:Exit->AFr->St->Prop} {fr:AFr} {st:St}
end
end Go.Abs
end
section
namespace Go.Abs
def pL (T:TypeId->TI) (gl:Nat->List V) (ops:Array Oper) (i:Nat) (x:Cfg):Cfg:=hP T gl ops i x (⟨0,[]⟩,⟨[],[]⟩) fun fr st=>(fr,st)
def WS (T:TypeId->TI) (gl:Nat->List V) (ops:Array Oper) (i:Nat) (x:Cfg):Bool:=hP T gl ops i x false fun _ _=>true
section
variable {P:Program} {T:TypeId->TI} {gl:Nat->List V} {ops:Array Oper} {s0:St} {cs:List Code} {AQ:Exit->AFr->St->Prop} {id:Nat}
def Pm (g:T=ti P) {i:Nat} {x:Cfg} (e:WS T gl ops i x=true):yy P gl ops i x (toW s0 (pL T gl ops i x).1 (pL T gl ops i x).2):=by
 rw [WS,Vq]at e
 cases f:jP T gl ops (ops.toList.drop i) x.1 x.2 with
 |none=>rw [f]at e; cases e
 | some z=>
  obtain⟨a,b⟩:=z;have h:pL T gl ops i x=(a,b):=by rw [pL,Vq,f]
  have:=bJ (K:=toW s0 a b) g (ops.toList.drop i) [] x.1 x.2 a b f (Wk.refl _ _ _);rw [List.append_nil]at this;rw [h];unfold yy;exact this
def nz {c:Code} {y a:Cfg} (h:yy P gl ops 0 y (toW s0 a.1 a.2)) (b:zh P gl s0 (c::cs) AQ a.1 a.2):zh P gl s0 (.region id ops false::c::cs) AQ y.1 y.2:=PD a.1 a.2 zO h b
def PV {y a:Cfg} (b:Cl s0 (AQ .normal)) (h:yy P gl ops 0 y (toW s0 a.1 a.2)) (e:AQ .normal a.1 a.2):zh P gl s0 [.region id ops false] AQ y.1 y.2:=PD a.1 a.2 (kq b) h e
end
attribute [irreducible] pL
def flat:Code->List Code->List Code
 | .seq a b,cs=>flat a (flat b cs)
 | .skip,cs=>cs
 |c,cs=>c::cs
section
variable {P:Program} {gl:Nat->List V} {s0:St} {c:Code} {cs:List Code} {AQ:Exit->AFr->St->Prop} {fr:AFr} {st:St}
def zbb {X Y:List Code} (k:∀fr st,zh P gl s0 X AQ fr st->zh P gl s0 Y AQ fr st) (h:zh P gl s0 (c::X) AQ fr st):zh P gl s0 (c::Y) AQ fr st:=
 jR.mono h fun e fr st a=>by
  cases e<;>first|exact k _ _ a|exact a
def jQ:∀(c:Code) {cs:List Code} {fr:AFr} {st:St},zh P gl s0 (flat c cs) AQ fr st->zh P gl s0 (c::cs) AQ fr st
 | .seq a b,cs,fr,st,h=>zcZ (zbb (fun _ _=>jQ b) (jQ a (show zh P gl s0 (flat a (flat b cs)) AQ fr st from h)))
 | .skip,cs,fr,st,h=>zaO h
 | .region _ _ _,_,_,_,h| .ret,_,_,_,h| .exit _,_,_,_,h| .cond _ _ _,_,_,_,h| .loop _,_,_,_,h| .block _ _,_,_,_,h| .label _,_,_,_,h| .scope _,_,_,_,h| .goto _,_,_,_,h| .rangeFunc _ _ _ _,_,_,_,h| .refuse _,_,_,_,h=>h
end
end Go.Abs
end
