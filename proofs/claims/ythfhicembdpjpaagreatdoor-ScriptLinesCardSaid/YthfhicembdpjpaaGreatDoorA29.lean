/- Abstract values: a part. No condition beyond each statement's own. -/
import Derived.Test.YthfhicembdpjpaaGreatDoorA28
set_option linter.all false
section
namespace Go.Abs
open Go.RowKit (Below)
abbrev qi (n:Int):V:= .int .i64 n
abbrev qu (n:Int):V:= .int .u8 n
abbrev qb (b:Bool):V:= .bool b
abbrev qs (s:List UInt8):V:= .str s
abbrev qn:V:= .nilsl
abbrev qp (k:Nat):V:= .ptr k 0
abbrev ql {α:Type} (sz:Nat) (c:α→List V) (l:List α):V:= .sl sz (l.map c) .none
def onl {α:Type} (sz:Nat) (c:α→List V) (r:Option (List α)):V:=match r with|none=> .nilsl|some l=> .sl sz (l.map c) .none
def onE {α β:Type} (r:Option β) (a:Option α) (b:β→Option α):Option α:=match r with|none=>a|some x=>b x
theorem onN {α β:Type} {a:Option α} {b:β→Option α} {r:α} (h:onE none a b=some r):a=some r:=h
theorem onS {α β:Type} {a:Option α} {b:β→Option α} {r:α} {x:β} (h:onE (some x) a b=some r):b x=some r:=h
def fw (l:List (Nat×V)):List Nat→List (Nat×V)→List (Nat×V)
 | [],new=>new
 |k::ks,new=>(k,wh l k)::fw l ks new
def VA (fr:AFr) (ks:List Nat) (new:List (Nat×V)):AFr:=⟨fr.n,fw fr.l ks new⟩
theorem bE {α β:Type} {x:Option α} {f:α→Option β} {y:β} {Q:Prop} (h:x.bind f=some y) (k:∀a,x=some a→f a=some y→Q):Q:=by
 obtain⟨a,h1,h2⟩:=B5 h; exact k a h1 h2
theorem sI {α:Type} {a b:α} (h:some a=some b):b=a:=(Option.some.inj h).symm
theorem nE {α:Type} {r:α} {Q:Prop} (h:(none:Option α)=some r):Q:=nomatch h
theorem kF {α:Type} {t:Bool} {A B:Option α} {r:α} {Q:Prop} (h:(if t=true then A else B)=some r) (h1:t=true→A=some r→Q) (h2:t=false→B=some r→Q):Q:=
 kIf t (fun hb=>h1 hb (K9 hb h)) (fun hb=>h2 hb (Kw hb h))
section
variable {P:Program} {gl:Nat→List V} {s0:St} {c:Code} {cs:List Code} {AQ:Exit→AFr→St→Prop} {fr:AFr} {st:St}
theorem eE {Y Z:Type} {o:Option Y} {f:Y→Option Z} {r:Z} (h:o.bind f=some r) (hcl:Cl s0 (zE P gl s0 cs AQ)) (F:Y→AFr) (S:Y→St)
  (h1:∀y,o=some y→zE P gl s0 [c] (jl (dR s0 F S (fun z=>y=z)) AQ) fr st) (h2:∀y,f y=some r→zE P gl s0 cs AQ (F y) (S y)):zE P gl s0 (c::cs) AQ fr st:=by
 obtain⟨y,hy,h⟩:=B5 h
 refine B6 F S (fun z=>y=z) (h1 y hy) hcl (fun z hz=> ?_)
 subst hz; exact h2 _ h
theorem DZ {Y Z:Type} {id:Nat} {o:Option Y} {f:Y→Option Z} {r:Z} (h:o.bind f=some r) (hcl:Cl s0 (zE P gl s0 cs AQ)) (F:Y→AFr) (S:Y→St)
  (h1:∀y,o=some y→zE P gl s0 [c] (bi s0 id F S (fun z=>y=z) AQ) fr st) (h2:∀y,f y=some r→zE P gl s0 cs AQ (F y) (S y)):zE P gl s0 (.block id c::cs) AQ fr st:=by
 obtain⟨y,hy,h⟩:=B5 h
 refine QA F S (fun z=>y=z) (h1 y hy) hcl (fun z hz=> ?_)
 subst hz; exact h2 _ h
theorem lp {Y Z:Type} {id:Nat} {o:Option Y} {f:Y→Option Z} {r:Z} (h:o.bind f=some r) (hcl:Cl s0 (AQ .normal)) (F:Y→AFr) (S:Y→St)
  (h1:∀y,o=some y→zE P gl s0 [c] (bi s0 id F S (fun z=>y=z) AQ) fr st) (h2:∀y,f y=some r→zE P gl s0 [] AQ (F y) (S y)):zE P gl s0 [.block id c] AQ fr st:=DZ h (dq hcl) F S h1 h2
theorem P6 {R Y Z:Type} {o:Option (Ctl R Y)} {g:R→Option Z} {f:Y→Option Z} {r:Z} (h:yM o g f=some r) (hcl:Cl s0 (zE P gl s0 cs AQ)) (F:Y→AFr) (S:Y→St)
  (h1:∀y,o=some y→(∀x,y= .ret x→g x=some r)→zE P gl s0 [c] (jl (dR s0 F S (fun z=>y= .nxt z)) AQ) fr st) (h2:∀y,f y=some r→zE P gl s0 cs AQ (F y) (S y)):zE P gl s0 (c::cs) AQ fr st:=by
 obtain⟨y,hy,hr,h⟩:=eP h
 exact B6 F S (fun z=>y= .nxt z) (h1 y hy hr) hcl (fun z hz=>h2 _ (h _ hz))
theorem D4 {R Y Z:Type} {id:Nat} {o:Option (Ctl R Y)} {g:R→Option Z} {f:Y→Option Z} {r:Z} (h:yM o g f=some r) (hcl:Cl s0 (zE P gl s0 cs AQ)) (F:Y→AFr) (S:Y→St)
  (h1:∀y,o=some y→(∀x,y= .ret x→g x=some r)→zE P gl s0 [c] (bi s0 id F S (fun z=>y= .nxt z) AQ) fr st) (h2:∀y,f y=some r→zE P gl s0 cs AQ (F y) (S y)):zE P gl s0 (.block id c::cs) AQ fr st:=by
 obtain⟨y,hy,hr,h⟩:=eP h
 exact QA F S (fun z=>y= .nxt z) (h1 y hy hr) hcl (fun z hz=>h2 _ (h _ hz))
theorem hC {R Y Z:Type} {id:Nat} {o:Option (Ctl R Y)} {g:R→Option Z} {f:Y→Option Z} {r:Z} (h:yM o g f=some r) (hcl:Cl s0 (AQ .normal)) (F:Y→AFr) (S:Y→St)
  (h1:∀y,o=some y→(∀x,y= .ret x→g x=some r)→zE P gl s0 [c] (bi s0 id F S (fun z=>y= .nxt z) AQ) fr st) (h2:∀y,f y=some r→zE P gl s0 [] AQ (F y) (S y)):zE P gl s0 [.block id c] AQ fr st:=D4 h (dq hcl) F S h1 h2
variable {d:Code}
theorem cuE {Y Z:Type} {o:Option Y} {f:Y→Option Z} {r:Z} (h:o.bind f=some r) (F:Y→AFr) (S:Y→St)
  (h1:∀y,o=some y→zE P gl s0 [c] (jl (dR s0 F S (fun z=>y=z)) AQ) fr st) (h2:∀y,f y=some r→zE P gl s0 (d::cs) AQ (F y) (S y)):zE P gl s0 (c::d::cs) AQ fr st:=eE h yF F S h1 h2
theorem blE {Y Z:Type} {id:Nat} {o:Option Y} {f:Y→Option Z} {r:Z} (h:o.bind f=some r) (F:Y→AFr) (S:Y→St)
  (h1:∀y,o=some y→zE P gl s0 [c] (bi s0 id F S (fun z=>y=z) AQ) fr st) (h2:∀y,f y=some r→zE P gl s0 (d::cs) AQ (F y) (S y)):zE P gl s0 (.block id c::d::cs) AQ fr st:=DZ h yF F S h1 h2
theorem cuC {R Y Z:Type} {o:Option (Ctl R Y)} {g:R→Option Z} {f:Y→Option Z} {r:Z} (h:yM o g f=some r) (F:Y→AFr) (S:Y→St)
  (h1:∀y,o=some y→(∀x,y= .ret x→g x=some r)→zE P gl s0 [c] (jl (dR s0 F S (fun z=>y= .nxt z)) AQ) fr st) (h2:∀y,f y=some r→zE P gl s0 (d::cs) AQ (F y) (S y)):zE P gl s0 (c::d::cs) AQ fr st:=P6 h yF F S h1 h2
theorem blC {R Y Z:Type} {id:Nat} {o:Option (Ctl R Y)} {g:R→Option Z} {f:Y→Option Z} {r:Z} (h:yM o g f=some r) (F:Y→AFr) (S:Y→St)
  (h1:∀y,o=some y→(∀x,y= .ret x→g x=some r)→zE P gl s0 [c] (bi s0 id F S (fun z=>y= .nxt z) AQ) fr st) (h2:∀y,f y=some r→zE P gl s0 (d::cs) AQ (F y) (S y)):zE P gl s0 (.block id c::d::cs) AQ fr st:=D4 h yF F S h1 h2
end
end Go.Abs
namespace Go.Abs
section
variable {P:Program} {T:TypeId→TI} {gl:Nat→List V} {ops:Array Oper} {K:AFr→St→Prop}
end
section
variable {P:Program} {gl:Nat→List V} {s0:St} {c:Code} {cs:List Code} {AQ:Exit→AFr→St→Prop} {fr:AFr} {st:St}
end
end Go.Abs
end
section
namespace Go.Abs
def YK (T:TypeId→TI) (gl:Nat→List V) (ops:Array Oper) (i:Nat) (x:Cfg):Cfg:=BD T gl ops i x (⟨0,[]⟩,⟨[],[]⟩) fun fr st=>(fr,st)
def Vb (T:TypeId→TI) (gl:Nat→List V) (ops:Array Oper) (i:Nat) (x:Cfg):Bool:=BD T gl ops i x false fun _ _=>true
section
variable {P:Program} {T:TypeId→TI} {gl:Nat→List V} {ops:Array Oper} {s0:St} {cs:List Code} {AQ:Exit→AFr→St→Prop} {id:Nat}
theorem Kq (hT:T=ti P) {i:Nat} {x:Cfg} (hb:Vb T gl ops i x=true):y0 P gl ops i x (toW s0 (YK T gl ops i x).1 (YK T gl ops i x).2):=by
 rw [Vb,Vs]at hb
 cases hr:bW T gl ops (ops.toList.drop i) x.1 x.2 with
 |none=>rw [hr]at hb; cases hb
 | some z=>
  obtain⟨fr1,st1⟩:=z
  have he:YK T gl ops i x=(fr1,st1):=by rw [YK,Vs,hr]
  have:=gu (K:=toW s0 fr1 st1) hT (ops.toList.drop i) [] x.1 x.2 fr1 st1 hr (Wk.refl _ _ _)
  rw [List.append_nil]at this
  rw [he]
  unfold y0
  exact this
theorem Gs {c:Code} {y y':Cfg} (h:y0 P gl ops 0 y (toW s0 y'.1 y'.2)) (h2:zE P gl s0 (c::cs) AQ y'.1 y'.2):zE P gl s0 (.region id ops false::c::cs) AQ y.1 y.2:=JI y'.1 y'.2 yF h h2
theorem KJ {y y':Cfg} (hcl:Cl s0 (AQ .normal)) (h:y0 P gl ops 0 y (toW s0 y'.1 y'.2)) (h2:AQ .normal y'.1 y'.2):zE P gl s0 [.region id ops false] AQ y.1 y.2:=JI y'.1 y'.2 (dq hcl) h h2
end
attribute [irreducible] YK
def flat:Code→List Code→List Code
 | .seq a b,cs=>flat a (flat b cs)
 | .skip,cs=>cs
 |c,cs=>c::cs
section
variable {P:Program} {gl:Nat→List V} {s0:St} {c:Code} {cs:List Code} {AQ:Exit→AFr→St→Prop} {fr:AFr} {st:St}
theorem Pk {X Y:List Code} (k:∀fr st,zE P gl s0 X AQ fr st→zE P gl s0 Y AQ fr st) (h:zE P gl s0 (c::X) AQ fr st):zE P gl s0 (c::Y) AQ fr st:=
 gI.mono h fun e fr st h'=>by
  cases e<;>first|exact k _ _ h'|exact h'
theorem dD:∀(c:Code) {cs:List Code} {fr:AFr} {st:St},zE P gl s0 (flat c cs) AQ fr st→zE P gl s0 (c::cs) AQ fr st
 | .seq a b,cs,fr,st,h=>eS (Pk (fun _ _=>dD b) (dD a (show zE P gl s0 (flat a (flat b cs)) AQ fr st from h)))
 | .skip,cs,fr,st,h=>D9 h
 | .region _ _ _,_,_,_,h| .ret,_,_,_,h| .exit _,_,_,_,h| .cond _ _ _,_,_,_,h| .loop _,_,_,_,h| .block _ _,_,_,_,h| .label _,_,_,_,h| .scope _,_,_,_,h| .goto _,_,_,_,h| .rangeFunc _ _ _ _,_,_,_,h| .refuse _,_,_,_,h=>h
end
end Go.Abs
end
