/- Layer: an abstract reading of values and worlds, and that the model's operations, regions, loops and calls keep to it. No condition beyond each statement's own. -/
import Derived.Test.YtbggpcnbbhjiaaaGreatDoorA31
set_option linter.unusedVariables false
set_option linter.unusedSimpArgs false
set_option linter.unnecessarySimpa false
section
namespace Go.Abs
open Go.RowKit (Below)
abbrev qi (n:Int):V:= .int .i64 n
abbrev qu (n:Int):V:= .int .u8 n
abbrev qb (b:Bool):V:= .bool b
abbrev qs (s:List UInt8):V:= .str s
abbrev qn:V:= .nilsl
abbrev qp (k:Nat):V:= .ptr k 0
abbrev ql {α:Type} (sz:Nat) (c:α→List V) (l:List α):V:= .sl sz (l.map c) .none
def onl {α:Type} (sz:Nat) (c:α→List V) (r:Option (List α)):V:=match r with|none=> .nilsl|some l=> .sl sz (l.map c) .none
def onE {α β:Type} (r:Option β) (a:Option α) (b:β→Option α):Option α:=match r with|none=>a|some x=>b x
theorem onN {α β:Type} {a:Option α} {b:β→Option α} {r:α} (h:onE none a b=some r):a=some r:=h
theorem onS {α β:Type} {a:Option α} {b:β→Option α} {r:α} {x:β} (h:onE (some x) a b=some r):b x=some r:=h
def lJ (l:List (Nat×V)):List Nat→List (Nat×V)→List (Nat×V)
 | [],new=>new
 |k::ks,new=>(k,xn l k)::lJ l ks new
def XF (fr:AFr) (ks:List Nat) (new:List (Nat×V)):AFr:=⟨fr.n,lJ fr.l ks new⟩
theorem bE {α β:Type} {x:Option α} {f:α→Option β} {y:β} {Q:Prop} (h:x.bind f=some y) (k:∀a,x=some a→f a=some y→Q):Q:=by
 obtain⟨a,h1,h2⟩:=Dp h; exact k a h1 h2
theorem sI {α:Type} {a b:α} (h:some a=some b):b=a:=(Option.some.inj h).symm
theorem nE {α:Type} {r:α} {Q:Prop} (h:(none:Option α)=some r):Q:=nomatch h
theorem kF {α:Type} {t:Bool} {A B:Option α} {r:α} {Q:Prop} (h:(if t=true then A else B)=some r) (h1:t=true→A=some r→Q) (h2:t=false→B=some r→Q):Q:=
 kIf t (fun hb=>h1 hb (Bk hb h)) (fun hb=>h2 hb (Bl hb h))
section
variable {P:Program} {gl:Nat→List V} {s0:St} {c:Code} {cs:List Code} {AQ:Exit→AFr→St→Prop} {fr:AFr} {st:St}
theorem mq {Y Z:Type} {o:Option Y} {f:Y→Option Z} {r:Z} (h:o.bind f=some r) (hcl:Cl s0 (zG P gl s0 cs AQ)) (F:Y→AFr) (S:Y→St)
  (h1:∀y,o=some y→zG P gl s0 [c] (vE (Z7 s0 F S (fun z=>y=z)) AQ) fr st) (h2:∀y,f y=some r→zG P gl s0 cs AQ (F y) (S y)):zG P gl s0 (c::cs) AQ fr st:=by
 obtain⟨y,hy,h⟩:=Dp h
 refine DT F S (fun z=>y=z) (h1 y hy) hcl (fun z hz=> ?_)
 subst hz; exact h2 _ h
theorem fQ {Y Z:Type} {id:Nat} {o:Option Y} {f:Y→Option Z} {r:Z} (h:o.bind f=some r) (hcl:Cl s0 (zG P gl s0 cs AQ)) (F:Y→AFr) (S:Y→St)
  (h1:∀y,o=some y→zG P gl s0 [c] (dc s0 id F S (fun z=>y=z) AQ) fr st) (h2:∀y,f y=some r→zG P gl s0 cs AQ (F y) (S y)):zG P gl s0 (.block id c::cs) AQ fr st:=by
 obtain⟨y,hy,h⟩:=Dp h
 refine QH F S (fun z=>y=z) (h1 y hy) hcl (fun z hz=> ?_)
 subst hz; exact h2 _ h
theorem lR {R Y Z:Type} {o:Option (Ctl R Y)} {g:R→Option Z} {f:Y→Option Z} {r:Z} (h:xJ o g f=some r) (hcl:Cl s0 (zG P gl s0 cs AQ)) (F:Y→AFr) (S:Y→St)
  (h1:∀y,o=some y→(∀x,y= .ret x→g x=some r)→zG P gl s0 [c] (vE (Z7 s0 F S (fun z=>y= .nxt z)) AQ) fr st) (h2:∀y,f y=some r→zG P gl s0 cs AQ (F y) (S y)):zG P gl s0 (c::cs) AQ fr st:=by
 obtain⟨y,hy,hr,h⟩:=lY h
 exact DT F S (fun z=>y= .nxt z) (h1 y hy hr) hcl (fun z hz=>h2 _ (h _ hz))
theorem ce {R Y Z:Type} {id:Nat} {o:Option (Ctl R Y)} {g:R→Option Z} {f:Y→Option Z} {r:Z} (h:xJ o g f=some r) (hcl:Cl s0 (zG P gl s0 cs AQ)) (F:Y→AFr) (S:Y→St)
  (h1:∀y,o=some y→(∀x,y= .ret x→g x=some r)→zG P gl s0 [c] (dc s0 id F S (fun z=>y= .nxt z) AQ) fr st) (h2:∀y,f y=some r→zG P gl s0 cs AQ (F y) (S y)):zG P gl s0 (.block id c::cs) AQ fr st:=by
 obtain⟨y,hy,hr,h⟩:=lY h
 exact QH F S (fun z=>y= .nxt z) (h1 y hy hr) hcl (fun z hz=>h2 _ (h _ hz))
theorem eO {R Y Z:Type} {id:Nat} {o:Option (Ctl R Y)} {g:R→Option Z} {f:Y→Option Z} {r:Z} (h:xJ o g f=some r) (hcl:Cl s0 (AQ .normal)) (F:Y→AFr) (S:Y→St)
  (h1:∀y,o=some y→(∀x,y= .ret x→g x=some r)→zG P gl s0 [c] (dc s0 id F S (fun z=>y= .nxt z) AQ) fr st) (h2:∀y,f y=some r→zG P gl s0 [] AQ (F y) (S y)):zG P gl s0 [.block id c] AQ fr st:=ce h (qm hcl) F S h1 h2
variable {d:Code}
theorem cuE {Y Z:Type} {o:Option Y} {f:Y→Option Z} {r:Z} (h:o.bind f=some r) (F:Y→AFr) (S:Y→St)
  (h1:∀y,o=some y→zG P gl s0 [c] (vE (Z7 s0 F S (fun z=>y=z)) AQ) fr st) (h2:∀y,f y=some r→zG P gl s0 (d::cs) AQ (F y) (S y)):zG P gl s0 (c::d::cs) AQ fr st:=mq h zR F S h1 h2
theorem blE {Y Z:Type} {id:Nat} {o:Option Y} {f:Y→Option Z} {r:Z} (h:o.bind f=some r) (F:Y→AFr) (S:Y→St)
  (h1:∀y,o=some y→zG P gl s0 [c] (dc s0 id F S (fun z=>y=z) AQ) fr st) (h2:∀y,f y=some r→zG P gl s0 (d::cs) AQ (F y) (S y)):zG P gl s0 (.block id c::d::cs) AQ fr st:=fQ h zR F S h1 h2
theorem cuC {R Y Z:Type} {o:Option (Ctl R Y)} {g:R→Option Z} {f:Y→Option Z} {r:Z} (h:xJ o g f=some r) (F:Y→AFr) (S:Y→St)
  (h1:∀y,o=some y→(∀x,y= .ret x→g x=some r)→zG P gl s0 [c] (vE (Z7 s0 F S (fun z=>y= .nxt z)) AQ) fr st) (h2:∀y,f y=some r→zG P gl s0 (d::cs) AQ (F y) (S y)):zG P gl s0 (c::d::cs) AQ fr st:=lR h zR F S h1 h2
theorem blC {R Y Z:Type} {id:Nat} {o:Option (Ctl R Y)} {g:R→Option Z} {f:Y→Option Z} {r:Z} (h:xJ o g f=some r) (F:Y→AFr) (S:Y→St)
  (h1:∀y,o=some y→(∀x,y= .ret x→g x=some r)→zG P gl s0 [c] (dc s0 id F S (fun z=>y= .nxt z) AQ) fr st) (h2:∀y,f y=some r→zG P gl s0 (d::cs) AQ (F y) (S y)):zG P gl s0 (.block id c::d::cs) AQ fr st:=ce h zR F S h1 h2
end
end Go.Abs
namespace Go.Abs
section
variable {P:Program} {T:TypeId→TI} {gl:Nat→List V} {ops:Array Oper} {K:AFr→St→Prop}
theorem P6 {α:Type} {T:TypeId→TI} {c:α→List V} {l l2:List α} {id m f:Nat} {cell:Option (List V)} {e e2:TypeId} {sz bytes b2:Nat} {tok tok2:Tok} (ho:kz T e sz bytes=true) (h:List.isEmpty l2=true):
  ∀ st:St,st.vars.length=m→st.fams.length=f→st.vars[id]? =cell →
   vf T st (.slice e sz bytes) (.slice e2 sz b2) (.sl sz (l.map c) tok) (.sl sz (l2.map c) tok2)=some (.sl sz (l.map c) tok,st):=by
 intro st _ _ _
 simp only [kz,Bool.and_eq_true,beq_iff_eq,decide_eq_true_eq]at ho
 obtain⟨⟨⟨h1,h2⟩,h3⟩,h4⟩:=ho
 have:l2= []:=by simpa using h
 subst this
 simp only [vf,h1,h2,h3,Ws,and_self,if_true,List.map_nil,List.length_nil]
end
section
variable {P:Program} {gl:Nat→List V} {s0:St} {c:Code} {cs:List Code} {AQ:Exit→AFr→St→Prop} {fr:AFr} {st:St}
theorem JC {K:AFr→St→Prop} (h:AQ .ret fr st):noG (vE K AQ) .ret fr st:=h
end
end Go.Abs
end
