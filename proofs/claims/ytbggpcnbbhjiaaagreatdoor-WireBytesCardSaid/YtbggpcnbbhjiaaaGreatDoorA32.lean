/- Layer: an abstract reading of values and worlds, and that the model's operations, regions, loops and calls keep to it. No condition beyond each statement's own. -/
import Derived.Test.YtbggpcnbbhjiaaaGreatDoorA31
set_option linter.unusedVariables false
set_option linter.unusedSimpArgs false
set_option linter.unnecessarySimpa false
section
namespace Go.Abs
open Go.RowKit (Below)
abbrev qi (n:Int):V:= .int .i64 n
abbrev qu (n:Int):V:= .int .u8 n
abbrev qb (b:Bool):V:= .bool b
abbrev qs (s:List UInt8):V:= .str s
abbrev qn:V:= .nilsl
abbrev qp (k:Nat):V:= .ptr k 0
abbrev ql {α:Type} (sz:Nat) (c:α→List V) (l:List α):V:= .sl sz (l.map c) .none
def onl {α:Type} (sz:Nat) (c:α→List V) (r:Option (List α)):V:=match r with|none=> .nilsl|some l=> .sl sz (l.map c) .none
def onE {α β:Type} (r:Option β) (a:Option α) (b:β→Option α):Option α:=match r with|none=>a|some x=>b x
theorem onN {α β:Type} {a:Option α} {b:β→Option α} {r:α} (h:onE none a b=some r):a=some r:=h
theorem onS {α β:Type} {a:Option α} {b:β→Option α} {r:α} {x:β} (h:onE (some x) a b=some r):b x=some r:=h
def zdu (l:List (Nat×V)):List Nat→List (Nat×V)→List (Nat×V)
 | [],new=>new
 |k::ks,new=>(k,vV l k)::zdu l ks new
def nn (fr:AFr) (ks:List Nat) (new:List (Nat×V)):AFr:=⟨fr.n,zdu fr.l ks new⟩
theorem bE {α β:Type} {x:Option α} {f:α→Option β} {y:β} {Q:Prop} (h:x.bind f=some y) (k:∀a,x=some a→f a=some y→Q):Q:=by
 obtain⟨a,h1,h2⟩:=Pc h; exact k a h1 h2
theorem sI {α:Type} {a b:α} (h:some a=some b):b=a:=(Option.some.inj h).symm
theorem kF {α:Type} {t:Bool} {A B:Option α} {r:α} {Q:Prop} (h:(if t=true then A else B)=some r) (h1:t=true→A=some r→Q) (h2:t=false→B=some r→Q):Q:=
 kIf t (fun hb=>h1 hb (mZ hb h)) (fun hb=>h2 hb (lv hb h))
section
variable {P:Program} {gl:Nat→List V} {s0:St} {c:Code} {cs:List Code} {AQ:Exit→AFr→St→Prop} {fr:AFr} {st:St}
theorem zcL {Y Z:Type} {o:Option Y} {f:Y→Option Z} {r:Z} (h:o.bind f=some r) (hcl:Cl s0 (zt P gl s0 cs AQ)) (F:Y→AFr) (S:Y→St)
  (h1:∀y,o=some y→zt P gl s0 [c] (un (ZK s0 F S (fun z=>y=z)) AQ) fr st) (h2:∀y,f y=some r→zt P gl s0 cs AQ (F y) (S y)):zt P gl s0 (c::cs) AQ fr st:=by
 obtain⟨y,hy,h⟩:=Pc h
 refine rj F S (fun z=>y=z) (h1 y hy) hcl (fun z hz=> ?_)
 subst hz; exact h2 _ h
theorem zcg {Y Z:Type} {id:Nat} {o:Option Y} {f:Y→Option Z} {r:Z} (h:o.bind f=some r) (hcl:Cl s0 (zt P gl s0 cs AQ)) (F:Y→AFr) (S:Y→St)
  (h1:∀y,o=some y→zt P gl s0 [c] (dH s0 id F S (fun z=>y=z) AQ) fr st) (h2:∀y,f y=some r→zt P gl s0 cs AQ (F y) (S y)):zt P gl s0 (.block id c::cs) AQ fr st:=by
 obtain⟨y,hy,h⟩:=Pc h
 refine cV F S (fun z=>y=z) (h1 y hy) hcl (fun z hz=> ?_)
 subst hz; exact h2 _ h
theorem zbQ {R Y Z:Type} {o:Option (Ctl R Y)} {g:R→Option Z} {f:Y→Option Z} {r:Z} (h:z8 o g f=some r) (hcl:Cl s0 (zt P gl s0 cs AQ)) (F:Y→AFr) (S:Y→St)
  (h1:∀y,o=some y→(∀x,y= .ret x→g x=some r)→zt P gl s0 [c] (un (ZK s0 F S (fun z=>y= .nxt z)) AQ) fr st) (h2:∀y,f y=some r→zt P gl s0 cs AQ (F y) (S y)):zt P gl s0 (c::cs) AQ fr st:=by
 obtain⟨y,hy,hr,h⟩:=tJ h
 exact rj F S (fun z=>y= .nxt z) (h1 y hy hr) hcl (fun z hz=>h2 _ (h _ hz))
theorem zaz {R Y Z:Type} {id:Nat} {o:Option (Ctl R Y)} {g:R→Option Z} {f:Y→Option Z} {r:Z} (h:z8 o g f=some r) (hcl:Cl s0 (zt P gl s0 cs AQ)) (F:Y→AFr) (S:Y→St)
  (h1:∀y,o=some y→(∀x,y= .ret x→g x=some r)→zt P gl s0 [c] (dH s0 id F S (fun z=>y= .nxt z) AQ) fr st) (h2:∀y,f y=some r→zt P gl s0 cs AQ (F y) (S y)):zt P gl s0 (.block id c::cs) AQ fr st:=by
 obtain⟨y,hy,hr,h⟩:=tJ h
 exact cV F S (fun z=>y= .nxt z) (h1 y hy hr) hcl (fun z hz=>h2 _ (h _ hz))
theorem zd8 {R Y Z:Type} {id:Nat} {o:Option (Ctl R Y)} {g:R→Option Z} {f:Y→Option Z} {r:Z} (h:z8 o g f=some r) (hcl:Cl s0 (AQ .normal)) (F:Y→AFr) (S:Y→St)
  (h1:∀y,o=some y→(∀x,y= .ret x→g x=some r)→zt P gl s0 [c] (dH s0 id F S (fun z=>y= .nxt z) AQ) fr st) (h2:∀y,f y=some r→zt P gl s0 [] AQ (F y) (S y)):zt P gl s0 [.block id c] AQ fr st:=zaz h (j7 hcl) F S h1 h2
variable {d:Code}
theorem cuE {Y Z:Type} {o:Option Y} {f:Y→Option Z} {r:Z} (h:o.bind f=some r) (F:Y→AFr) (S:Y→St)
  (h1:∀y,o=some y→zt P gl s0 [c] (un (ZK s0 F S (fun z=>y=z)) AQ) fr st) (h2:∀y,f y=some r→zt P gl s0 (d::cs) AQ (F y) (S y)):zt P gl s0 (c::d::cs) AQ fr st:=zcL h zS F S h1 h2
theorem blE {Y Z:Type} {id:Nat} {o:Option Y} {f:Y→Option Z} {r:Z} (h:o.bind f=some r) (F:Y→AFr) (S:Y→St)
  (h1:∀y,o=some y→zt P gl s0 [c] (dH s0 id F S (fun z=>y=z) AQ) fr st) (h2:∀y,f y=some r→zt P gl s0 (d::cs) AQ (F y) (S y)):zt P gl s0 (.block id c::d::cs) AQ fr st:=zcg h zS F S h1 h2
theorem cuC {R Y Z:Type} {o:Option (Ctl R Y)} {g:R→Option Z} {f:Y→Option Z} {r:Z} (h:z8 o g f=some r) (F:Y→AFr) (S:Y→St)
  (h1:∀y,o=some y→(∀x,y= .ret x→g x=some r)→zt P gl s0 [c] (un (ZK s0 F S (fun z=>y= .nxt z)) AQ) fr st) (h2:∀y,f y=some r→zt P gl s0 (d::cs) AQ (F y) (S y)):zt P gl s0 (c::d::cs) AQ fr st:=zbQ h zS F S h1 h2
theorem blC {R Y Z:Type} {id:Nat} {o:Option (Ctl R Y)} {g:R→Option Z} {f:Y→Option Z} {r:Z} (h:z8 o g f=some r) (F:Y→AFr) (S:Y→St)
  (h1:∀y,o=some y→(∀x,y= .ret x→g x=some r)→zt P gl s0 [c] (dH s0 id F S (fun z=>y= .nxt z) AQ) fr st) (h2:∀y,f y=some r→zt P gl s0 (d::cs) AQ (F y) (S y)):zt P gl s0 (.block id c::d::cs) AQ fr st:=zaz h zS F S h1 h2
end
end Go.Abs
namespace Go.Abs
section
variable {P:Program} {T:TypeId→TI} {gl:Nat→List V} {ops:Array Oper} {K:AFr→St→Prop}
def zbe (T:TypeId→TI) (d:TD) (len:Nat) (parts:List (Nat×V)) (nv:Nat):Option (V×List V):=
 match d with
 | .slice e sz _=>
  if len*sz≤16777216∧(T e).zok=true∧(T e).zero.cells.length=sz∧0<sz∧0<len then
   match VA (fun i=>some (i*sz,sz)) (jf len (T e).zero.cells) (parts.map fun p=>(p.1,V.pur p.2))with
   |some cells=>if V.pcells cells=true then some (.own nv len sz,cells)else none
   |none=>none
  else none
 |_=>none
theorem tZ {st:St} {d:TD} {len:Nat} {parts:List (Nat×V)} {v:V} {cells:List V} (h:zbe (ti P) d len parts st.vars.length=some (v,cells)):Zz P st d len parts=some (v,st.push [.buf cells]):=by
 unfold zbe at h
 unfold Zz
 split at h
 ·split at h
  ·rename_i hc
   simp only
   rw [if_pos hc]
   rw [Qo]at h
   split at h
   ·rename_i cells' hf
    rw [hf]
    simp only
    split at h
    ·rename_i hp
     injection h with h; injection h with h1 h2; subst h1 h2
     rw [if_pos hp]
    ·cases h
   ·cases h
  ·cases h
 ·cases h
def zbx (T:TypeId→TI) (gl:Nat→List V) (ops:Array Oper) (i k:Nat) (x:Cfg):Option (V×List V):=atX T gl ops i k x none fun o fr1 st1=>match UH ops o fr1 with
 | true=>(match qM T gl fr1 st1 o.op with
  | some _=>(match o.op with
   | .buildSlice t len parts=>zbe T (T t).d len (parts.toList.map fun(i,x)=>(i,fr1.eval x)) st1.vars.length
   |_=>none)
  |none=>none)
 |false=>none
theorem zdd (hT:T=ti P) {i:Nat} {x:Cfg} (k:Nat) {v:V} {cells:List V} (hik:Nat.ble i k=true) (he:zbx T gl ops i k x=some (v,cells))
  (h:xS P gl ops (k+1) (gj (kl T gl ops i k x) (xZ ops k) v (fun st=>st.push [.buf cells])) K):xS P gl ops i x K:=by
 rw [Z8,Vd]at h
 rw [zbx,G9]at he
 unfold xS at h ⊢
 cases hr:pC T gl ops (seg ops i k) x.1 x.2 with
 |none=>rw [hr]at he; cases he
 | some y=>
  obtain⟨fr1,st1⟩:=y
  rw [hr]at he
  simp only at he
  cases ho:ops.toList[k]? with
  |none=>rw [ho]at he; cases he
  | some o=>
   rw [ho]at he
   simp only at he
   cases hb:UH ops o fr1 with
   |false=>rw [hb]at he; cases he
   | true=>
    rw [hb]at he
    simp only at he
    cases hx:qM T gl fr1 st1 o.op with
    |none=>rw [hx]at he; cases he
    | some z=>
     rw [hx]at he
     simp only at he
     rw [W4 ho (Nat.le_of_ble_eq_true hik)]
     refine ZX hT _ _ _ _ _ _ hr (QG hb ?_)
     simp only [ZG,hr,Option.getD_some,xZ,ho]at h
     split at he
     ·rename_i t len parts hop
      rw [hT]at he
      have h2:=tZ he
      have hx':wV P gl fr1 st1 o.op=some z:=by rw [←dk,←hT]; exact hx
      unfold XF
      rw [hop]at hx' ⊢
      simp only
      rw [hx']
      refine .inr ?_
      unfold nZ
      simp only
      rw [h2]
      exact h
     ·cases he
theorem Df {α:Type} {T:TypeId→TI} {c:α→List V} {l l2:List α} {id m f:Nat} {cell:Option (List V)} {e e2:TypeId} {sz bytes b2:Nat} {tok tok2:Tok} (ho:Yj T e sz bytes=true) (h:List.isEmpty l2=true):
  ∀ st:St,st.vars.length=m→st.fams.length=f→st.vars[id]? =cell →
   qA T st (.slice e sz bytes) (.slice e2 sz b2) (.sl sz (l.map c) tok) (.sl sz (l2.map c) tok2)=some (.sl sz (l.map c) tok,st):=by
 intro st _ _ _
 simp only [Yj,Bool.and_eq_true,beq_iff_eq,decide_eq_true_eq]at ho
 obtain⟨⟨⟨h1,h2⟩,h3⟩,h4⟩:=ho
 have:l2= []:=by simpa using h
 subst this
 simp only [qA,h1,h2,h3,QF,and_self,if_true,List.map_nil,List.length_nil]
theorem Dj {α:Type} {T:TypeId→TI} {c:α→V} {l2:List α} {n id id0 m f:Nat} {cell:Option (List V)} {e e2:TypeId} {bytes b2:Nat} {tok2:Tok} (ho:Yj T e 1 bytes=true) (h:List.isEmpty l2=true):
  ∀ st:St,st.vars.length=m→st.fams.length=f→st.vars[id0]? =cell →
   qA T st (.slice e 1 bytes) (.slice e2 1 b2) (.own id n 1) (.sl 1 (l2.map fun x=> [c x]) tok2)=some (.own id n 1,st):=by
 intro st _ _ _
 simp only [Yj,Bool.and_eq_true,beq_iff_eq,decide_eq_true_eq]at ho
 obtain⟨⟨⟨h1,h2⟩,h3⟩,h4⟩:=ho
 have:l2= []:=by simpa using h
 subst this
 simp only [qA,h1,h2,h3,QF,and_self,if_true,List.map_nil,List.length_nil]
end
section
variable {P:Program} {gl:Nat→List V} {s0:St} {c:Code} {cs:List Code} {AQ:Exit→AFr→St→Prop} {fr:AFr} {st:St}
theorem DC {K:AFr→St→Prop} (h:AQ .ret fr st):noG (un K AQ) .ret fr st:=h
end
end Go.Abs
end
