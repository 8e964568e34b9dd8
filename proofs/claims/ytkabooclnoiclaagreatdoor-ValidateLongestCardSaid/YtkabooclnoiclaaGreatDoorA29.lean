/- Abstract values: a part. No condition beyond each statement's own. -/
import Derived.Test.YtkabooclnoiclaaGreatDoorA28
set_option linter.all false
section
namespace Go.Abs
open Go.RowKit (Below)
abbrev qi (n:Int):V:= .int .i64 n
abbrev qb (b:Bool):V:= .bool b
abbrev qs (s:List UInt8):V:= .str s
abbrev qn:V:= .nilsl
abbrev qp (k:Nat):V:= .ptr k 0
abbrev ql {α:Type} (sz:Nat) (c:α→List V) (l:List α):V:= .sl sz (l.map c) .none
def onE {α β:Type} (r:Option β) (a:Option α) (b:β→Option α):Option α:=match r with|none=>a|some x=>b x
theorem onN {α β:Type} {a:Option α} {b:β→Option α} {r:α} (h:onE none a b=some r):a=some r:=h
def tw (l:List (Nat×V)):List Nat→List (Nat×V)→List (Nat×V)
 | [],new=>new
 |k::ks,new=>(k,zq l k)::tw l ks new
def Bt (fr:AFr) (ks:List Nat) (new:List (Nat×V)):AFr:=⟨fr.n,tw fr.l ks new⟩
theorem bE {α β:Type} {x:Option α} {f:α→Option β} {y:β} {Q:Prop} (h:x.bind f=some y) (k:∀a,x=some a→f a=some y→Q):Q:=by
 obtain⟨a,h1,h2⟩:=Du h; exact k a h1 h2
theorem sI {α:Type} {a b:α} (h:some a=some b):b=a:=(Option.some.inj h).symm
section
variable {P:Program} {gl:Nat→List V} {s0:St} {c:Code} {cs:List Code} {AQ:Exit→AFr→St→Prop} {fr:AFr} {st:St}
theorem sF {Y Z:Type} {o:Option Y} {f:Y→Option Z} {r:Z} (h:o.bind f=some r) (hcl:Cl s0 (ze P gl s0 cs AQ)) (F:Y→AFr) (S:Y→St)
  (h1:∀y,o=some y→ze P gl s0 [c] (yG (jh s0 F S (fun z=>y=z)) AQ) fr st) (h2:∀y,f y=some r→ze P gl s0 cs AQ (F y) (S y)):ze P gl s0 (c::cs) AQ fr st:=by
 obtain⟨y,hy,h⟩:=Du h
 refine nT F S (fun z=>y=z) (h1 y hy) hcl (fun z hz=> ?_)
 subst hz; exact h2 _ h
theorem sg {Y Z:Type} {id:Nat} {o:Option Y} {f:Y→Option Z} {r:Z} (h:o.bind f=some r) (hcl:Cl s0 (ze P gl s0 cs AQ)) (F:Y→AFr) (S:Y→St)
  (h1:∀y,o=some y→ze P gl s0 [c] (qG s0 id F S (fun z=>y=z) AQ) fr st) (h2:∀y,f y=some r→ze P gl s0 cs AQ (F y) (S y)):ze P gl s0 (.block id c::cs) AQ fr st:=by
 obtain⟨y,hy,h⟩:=Du h
 refine eg F S (fun z=>y=z) (h1 y hy) hcl (fun z hz=> ?_)
 subst hz; exact h2 _ h
variable {d:Code}
theorem cuE {Y Z:Type} {o:Option Y} {f:Y→Option Z} {r:Z} (h:o.bind f=some r) (F:Y→AFr) (S:Y→St)
  (h1:∀y,o=some y→ze P gl s0 [c] (yG (jh s0 F S (fun z=>y=z)) AQ) fr st) (h2:∀y,f y=some r→ze P gl s0 (d::cs) AQ (F y) (S y)):ze P gl s0 (c::d::cs) AQ fr st:=sF h zF F S h1 h2
theorem blE {Y Z:Type} {id:Nat} {o:Option Y} {f:Y→Option Z} {r:Z} (h:o.bind f=some r) (F:Y→AFr) (S:Y→St)
  (h1:∀y,o=some y→ze P gl s0 [c] (qG s0 id F S (fun z=>y=z) AQ) fr st) (h2:∀y,f y=some r→ze P gl s0 (d::cs) AQ (F y) (S y)):ze P gl s0 (.block id c::d::cs) AQ fr st:=sg h zF F S h1 h2
end
end Go.Abs
namespace Go.Abs
section
variable {P:Program} {T:TypeId→TI} {gl:Nat→List V} {ops:Array Oper} {K:AFr→St→Prop}
end
section
variable {P:Program} {gl:Nat→List V} {s0:St} {c:Code} {cs:List Code} {AQ:Exit→AFr→St→Prop} {fr:AFr} {st:St}
end
end Go.Abs
end
section
namespace Go.Abs
def qr (T:TypeId→TI) (gl:Nat→List V) (ops:Array Oper) (i:Nat) (x:Cfg):Cfg:=W0 T gl ops i x (⟨0,[]⟩,⟨[],[]⟩) fun fr st=>(fr,st)
def pJ (T:TypeId→TI) (gl:Nat→List V) (ops:Array Oper) (i:Nat) (x:Cfg):Bool:=W0 T gl ops i x false fun _ _=>true
section
variable {P:Program} {T:TypeId→TI} {gl:Nat→List V} {ops:Array Oper} {s0:St} {cs:List Code} {AQ:Exit→AFr→St→Prop} {id:Nat}
theorem QA (hT:T=ti P) {i:Nat} {x:Cfg} (hb:pJ T gl ops i x=true):ym P gl ops i x (toW s0 (qr T gl ops i x).1 (qr T gl ops i x).2):=by
 rw [pJ,gH]at hb
 cases hr:wX T gl ops (ops.toList.drop i) x.1 x.2 with
 |none=>rw [hr]at hb; cases hb
 | some z=>
  obtain⟨fr1,st1⟩:=z
  have he:qr T gl ops i x=(fr1,st1):=by rw [qr,gH,hr]
  have:=j0 (K:=toW s0 fr1 st1) hT (ops.toList.drop i) [] x.1 x.2 fr1 st1 hr (Wk.refl _ _ _)
  rw [List.append_nil]at this
  rw [he]
  unfold ym
  exact this
theorem Pl {c:Code} {y y':Cfg} (h:ym P gl ops 0 y (toW s0 y'.1 y'.2)) (h2:ze P gl s0 (c::cs) AQ y'.1 y'.2):ze P gl s0 (.region id ops false::c::cs) AQ y.1 y.2:=mr y'.1 y'.2 zF h h2
theorem Kg {y y':Cfg} (hcl:Cl s0 (AQ .normal)) (h:ym P gl ops 0 y (toW s0 y'.1 y'.2)) (h2:AQ .normal y'.1 y'.2):ze P gl s0 [.region id ops false] AQ y.1 y.2:=mr y'.1 y'.2 (ZJ hcl) h h2
end
attribute [irreducible] qr
def flat:Code→List Code→List Code
 | .seq a b,cs=>flat a (flat b cs)
 | .skip,cs=>cs
 |c,cs=>c::cs
section
variable {P:Program} {gl:Nat→List V} {s0:St} {c:Code} {cs:List Code} {AQ:Exit→AFr→St→Prop} {fr:AFr} {st:St}
theorem nX {X Y:List Code} (k:∀fr st,ze P gl s0 X AQ fr st→ze P gl s0 Y AQ fr st) (h:ze P gl s0 (c::X) AQ fr st):ze P gl s0 (c::Y) AQ fr st:=
 wJ.mono h fun e fr st h'=>by
  cases e<;>first|exact k _ _ h'|exact h'
theorem vT:∀(c:Code) {cs:List Code} {fr:AFr} {st:St},ze P gl s0 (flat c cs) AQ fr st→ze P gl s0 (c::cs) AQ fr st
 | .seq a b,cs,fr,st,h=>sW (nX (fun _ _=>vT b) (vT a (show ze P gl s0 (flat a (flat b cs)) AQ fr st from h)))
 | .skip,cs,fr,st,h=>nB h
 | .region _ _ _,_,_,_,h| .ret,_,_,_,h| .exit _,_,_,_,h| .cond _ _ _,_,_,_,h| .loop _,_,_,_,h| .block _ _,_,_,_,h| .label _,_,_,_,h| .scope _,_,_,_,h| .goto _,_,_,_,h| .rangeFunc _ _ _ _,_,_,_,h| .refuse _,_,_,_,h=>h
end
end Go.Abs
end
