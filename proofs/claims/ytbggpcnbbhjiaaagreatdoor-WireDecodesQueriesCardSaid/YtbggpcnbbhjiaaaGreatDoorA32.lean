/- Layer: an abstract reading of values and worlds, and that the model's operations, regions, loops and calls keep to it. No condition beyond each statement's own. -/
import Derived.Test.YtbggpcnbbhjiaaaGreatDoorA31
set_option linter.unusedVariables false
set_option linter.unusedSimpArgs false
set_option linter.unnecessarySimpa false
section
namespace Go.Abs
open Go.RowKit (Below)
abbrev qi (n:Int):V:= .int .i64 n
abbrev qu (n:Int):V:= .int .u8 n
abbrev qb (b:Bool):V:= .bool b
abbrev qs (s:List UInt8):V:= .str s
abbrev qn:V:= .nilsl
abbrev qp (k:Nat):V:= .ptr k 0
abbrev ql {α:Type} (sz:Nat) (c:α→List V) (l:List α):V:= .sl sz (l.map c) .none
def onl {α:Type} (sz:Nat) (c:α→List V) (r:Option (List α)):V:=match r with|none=> .nilsl|some l=> .sl sz (l.map c) .none
def onE {α β:Type} (r:Option β) (a:Option α) (b:β→Option α):Option α:=match r with|none=>a|some x=>b x
theorem onN {α β:Type} {a:Option α} {b:β→Option α} {r:α} (h:onE none a b=some r):a=some r:=h
theorem onS {α β:Type} {a:Option α} {b:β→Option α} {r:α} {x:β} (h:onE (some x) a b=some r):b x=some r:=h
def ze4 (l:List (Nat×V)):List Nat→List (Nat×V)→List (Nat×V)
 | [],new=>new
 |k::ks,new=>(k,ub l k)::ze4 l ks new
def oM (fr:AFr) (ks:List Nat) (new:List (Nat×V)):AFr:=⟨fr.n,ze4 fr.l ks new⟩
theorem bE {α β:Type} {x:Option α} {f:α→Option β} {y:β} {Q:Prop} (h:x.bind f=some y) (k:∀a,x=some a→f a=some y→Q):Q:=by
 obtain⟨a,h1,h2⟩:=cw h; exact k a h1 h2
theorem sI {α:Type} {a b:α} (h:some a=some b):b=a:=(Option.some.inj h).symm
theorem kF {α:Type} {t:Bool} {A B:Option α} {r:α} {Q:Prop} (h:(if t=true then A else B)=some r) (h1:t=true→A=some r→Q) (h2:t=false→B=some r→Q):Q:=
 kIf t (fun hb=>h1 hb (oA hb h)) (fun hb=>h2 hb (mW hb h))
section
variable {P:Program} {gl:Nat→List V} {s0:St} {c:Code} {cs:List Code} {AQ:Exit→AFr→St→Prop} {fr:AFr} {st:St}
theorem zel {Y Z:Type} {o:Option Y} {f:Y→Option Z} {r:Z} (h:o.bind f=some r) (hcl:Cl s0 (zw P gl s0 cs AQ)) (F:Y→AFr) (S:Y→St)
  (h1:∀y,o=some y→zw P gl s0 [c] (uy (Ye s0 F S (fun z=>y=z)) AQ) fr st) (h2:∀y,f y=some r→zw P gl s0 cs AQ (F y) (S y)):zw P gl s0 (c::cs) AQ fr st:=by
 obtain⟨y,hy,h⟩:=cw h
 refine sS F S (fun z=>y=z) (h1 y hy) hcl (fun z hz=> ?_)
 subst hz; exact h2 _ h
theorem zbV {Y Z:Type} {id:Nat} {o:Option Y} {f:Y→Option Z} {r:Z} (h:o.bind f=some r) (hcl:Cl s0 (zw P gl s0 cs AQ)) (F:Y→AFr) (S:Y→St)
  (h1:∀y,o=some y→zw P gl s0 [c] (dv s0 id F S (fun z=>y=z) AQ) fr st) (h2:∀y,f y=some r→zw P gl s0 cs AQ (F y) (S y)):zw P gl s0 (.block id c::cs) AQ fr st:=by
 obtain⟨y,hy,h⟩:=cw h
 refine fN F S (fun z=>y=z) (h1 y hy) hcl (fun z hz=> ?_)
 subst hz; exact h2 _ h
theorem zfX {Y Z:Type} {id:Nat} {o:Option Y} {f:Y→Option Z} {r:Z} (h:o.bind f=some r) (hcl:Cl s0 (AQ .normal)) (F:Y→AFr) (S:Y→St)
  (h1:∀y,o=some y→zw P gl s0 [c] (dv s0 id F S (fun z=>y=z) AQ) fr st) (h2:∀y,f y=some r→zw P gl s0 [] AQ (F y) (S y)):zw P gl s0 [.block id c] AQ fr st:=zbV h (j3 hcl) F S h1 h2
theorem zdt {R Y Z:Type} {o:Option (Ctl R Y)} {g:R→Option Z} {f:Y→Option Z} {r:Z} (h:yb o g f=some r) (hcl:Cl s0 (zw P gl s0 cs AQ)) (F:Y→AFr) (S:Y→St)
  (h1:∀y,o=some y→(∀x,y= .ret x→g x=some r)→zw P gl s0 [c] (uy (Ye s0 F S (fun z=>y= .nxt z)) AQ) fr st) (h2:∀y,f y=some r→zw P gl s0 cs AQ (F y) (S y)):zw P gl s0 (c::cs) AQ fr st:=by
 obtain⟨y,hy,hr,h⟩:=zbg h
 exact sS F S (fun z=>y= .nxt z) (h1 y hy hr) hcl (fun z hz=>h2 _ (h _ hz))
theorem zb4 {R Y Z:Type} {id:Nat} {o:Option (Ctl R Y)} {g:R→Option Z} {f:Y→Option Z} {r:Z} (h:yb o g f=some r) (hcl:Cl s0 (zw P gl s0 cs AQ)) (F:Y→AFr) (S:Y→St)
  (h1:∀y,o=some y→(∀x,y= .ret x→g x=some r)→zw P gl s0 [c] (dv s0 id F S (fun z=>y= .nxt z) AQ) fr st) (h2:∀y,f y=some r→zw P gl s0 cs AQ (F y) (S y)):zw P gl s0 (.block id c::cs) AQ fr st:=by
 obtain⟨y,hy,hr,h⟩:=zbg h
 exact fN F S (fun z=>y= .nxt z) (h1 y hy hr) hcl (fun z hz=>h2 _ (h _ hz))
theorem zfH {R Y Z:Type} {id:Nat} {o:Option (Ctl R Y)} {g:R→Option Z} {f:Y→Option Z} {r:Z} (h:yb o g f=some r) (hcl:Cl s0 (AQ .normal)) (F:Y→AFr) (S:Y→St)
  (h1:∀y,o=some y→(∀x,y= .ret x→g x=some r)→zw P gl s0 [c] (dv s0 id F S (fun z=>y= .nxt z) AQ) fr st) (h2:∀y,f y=some r→zw P gl s0 [] AQ (F y) (S y)):zw P gl s0 [.block id c] AQ fr st:=zb4 h (j3 hcl) F S h1 h2
variable {d:Code}
theorem cuE {Y Z:Type} {o:Option Y} {f:Y→Option Z} {r:Z} (h:o.bind f=some r) (F:Y→AFr) (S:Y→St)
  (h1:∀y,o=some y→zw P gl s0 [c] (uy (Ye s0 F S (fun z=>y=z)) AQ) fr st) (h2:∀y,f y=some r→zw P gl s0 (d::cs) AQ (F y) (S y)):zw P gl s0 (c::d::cs) AQ fr st:=zel h zJ F S h1 h2
theorem blE {Y Z:Type} {id:Nat} {o:Option Y} {f:Y→Option Z} {r:Z} (h:o.bind f=some r) (F:Y→AFr) (S:Y→St)
  (h1:∀y,o=some y→zw P gl s0 [c] (dv s0 id F S (fun z=>y=z) AQ) fr st) (h2:∀y,f y=some r→zw P gl s0 (d::cs) AQ (F y) (S y)):zw P gl s0 (.block id c::d::cs) AQ fr st:=zbV h zJ F S h1 h2
theorem cuC {R Y Z:Type} {o:Option (Ctl R Y)} {g:R→Option Z} {f:Y→Option Z} {r:Z} (h:yb o g f=some r) (F:Y→AFr) (S:Y→St)
  (h1:∀y,o=some y→(∀x,y= .ret x→g x=some r)→zw P gl s0 [c] (uy (Ye s0 F S (fun z=>y= .nxt z)) AQ) fr st) (h2:∀y,f y=some r→zw P gl s0 (d::cs) AQ (F y) (S y)):zw P gl s0 (c::d::cs) AQ fr st:=zdt h zJ F S h1 h2
theorem blC {R Y Z:Type} {id:Nat} {o:Option (Ctl R Y)} {g:R→Option Z} {f:Y→Option Z} {r:Z} (h:yb o g f=some r) (F:Y→AFr) (S:Y→St)
  (h1:∀y,o=some y→(∀x,y= .ret x→g x=some r)→zw P gl s0 [c] (dv s0 id F S (fun z=>y= .nxt z) AQ) fr st) (h2:∀y,f y=some r→zw P gl s0 (d::cs) AQ (F y) (S y)):zw P gl s0 (.block id c::d::cs) AQ fr st:=zb4 h zJ F S h1 h2
end
end Go.Abs
namespace Go.Abs
section
variable {P:Program} {T:TypeId→TI} {gl:Nat→List V} {ops:Array Oper} {K:AFr→St→Prop}
def zcO (T:TypeId→TI) (d:TD) (len:Nat) (parts:List (Nat×V)) (nv:Nat):Option (V×List V):=
 match d with
 | .slice e sz _=>
  if len*sz≤16777216∧(T e).zok=true∧(T e).zero.cells.length=sz∧0<sz∧0<len then
   match UE (fun i=>some (i*sz,sz)) (jx len (T e).zero.cells) (parts.map fun p=>(p.1,V.pur p.2))with
   |some cells=>if V.pcells cells=true then some (.own nv len sz,cells)else none
   |none=>none
  else none
 |_=>none
theorem zby {st:St} {d:TD} {len:Nat} {parts:List (Nat×V)} {v:V} {cells:List V} (h:zcO (ti P) d len parts st.vars.length=some (v,cells)):Z3 P st d len parts=some (v,st.push [.buf cells]):=by
 unfold zcO at h
 unfold Z3
 split at h
 ·split at h
  ·rename_i hc
   simp only
   rw [if_pos hc]
   rw [Kl]at h
   split at h
   ·rename_i cells' hf
    rw [hf]
    simp only
    split at h
    ·rename_i hp
     injection h with h; injection h with h1 h2; subst h1 h2
     rw [if_pos hp]
    ·cases h
   ·cases h
  ·cases h
 ·cases h
def zc7 (T:TypeId→TI) (gl:Nat→List V) (ops:Array Oper) (i k:Nat) (x:Cfg):Option (V×List V):=atX T gl ops i k x none fun o fr1 st1=>match JD ops o fr1 with
 | true=>(match kl T gl fr1 st1 o.op with
  | some _=>(match o.op with
   | .buildSlice t len parts=>zcO T (T t).d len (parts.toList.map fun(i,x)=>(i,fr1.eval x)) st1.vars.length
   |_=>none)
  |none=>none)
 |false=>none
theorem zeL (hT:T=ti P) {i:Nat} {x:Cfg} (k:Nat) {v:V} {cells:List V} (hik:Nat.ble i k=true) (he:zc7 T gl ops i k x=some (v,cells))
  (h:xu P gl ops (k+1) (gn (qy T gl ops i k x) (xC ops k) v (fun st=>st.push [.buf cells])) K):xu P gl ops i x K:=by
 rw [Zo,WU]at h
 rw [zc7,Pc]at he
 unfold xu at h ⊢
 cases hr:Ze T gl ops (seg ops i k) x.1 x.2 with
 |none=>rw [hr]at he; cases he
 | some y=>
  obtain⟨fr1,st1⟩:=y
  rw [hr]at he
  simp only at he
  cases ho:ops.toList[k]? with
  |none=>rw [ho]at he; cases he
  | some o=>
   rw [ho]at he
   simp only at he
   cases hb:JD ops o fr1 with
   |false=>rw [hb]at he; cases he
   | true=>
    rw [hb]at he
    simp only at he
    cases hx:kl T gl fr1 st1 o.op with
    |none=>rw [hx]at he; cases he
    | some z=>
     rw [hx]at he
     simp only at he
     rw [V0 ho (Nat.le_of_ble_eq_true hik)]
     refine Yu hT _ _ _ _ _ _ hr (KC hb ?_)
     simp only [pY,hr,Option.getD_some,xC,ho]at h
     split at he
     ·rename_i t len parts hop
      rw [hT]at he
      have h2:=zby he
      have hx':wW P gl fr1 st1 o.op=some z:=by rw [←dT,←hT]; exact hx
      unfold Ww
      rw [hop]at hx' ⊢
      simp only
      rw [hx']
      refine .inr ?_
      unfold rD
      simp only
      rw [h2]
      exact h
     ·cases he
theorem Pk {α:Type} {T:TypeId→TI} {c:α→List V} {l l2:List α} {id m f:Nat} {cell:Option (List V)} {e e2:TypeId} {sz bytes b2:Nat} {tok tok2:Tok} (ho:pG T e sz bytes=true) (h:List.isEmpty l2=true):
  ∀ st:St,st.vars.length=m→st.fams.length=f→st.vars[id]? =cell →
   ja T st (.slice e sz bytes) (.slice e2 sz b2) (.sl sz (l.map c) tok) (.sl sz (l2.map c) tok2)=some (.sl sz (l.map c) tok,st):=by
 intro st _ _ _
 simp only [pG,Bool.and_eq_true,beq_iff_eq,decide_eq_true_eq]at ho
 obtain⟨⟨⟨h1,h2⟩,h3⟩,h4⟩:=ho
 have:l2= []:=by simpa using h
 subst this
 simp only [ja,h1,h2,h3,QX,and_self,if_true,List.map_nil,List.length_nil]
theorem Pp {α:Type} {T:TypeId→TI} {c:α→V} {l2:List α} {n id id0 m f:Nat} {cell:Option (List V)} {e e2:TypeId} {bytes b2:Nat} {tok2:Tok} (ho:pG T e 1 bytes=true) (h:List.isEmpty l2=true):
  ∀ st:St,st.vars.length=m→st.fams.length=f→st.vars[id0]? =cell →
   ja T st (.slice e 1 bytes) (.slice e2 1 b2) (.own id n 1) (.sl 1 (l2.map fun x=> [c x]) tok2)=some (.own id n 1,st):=by
 intro st _ _ _
 simp only [pG,Bool.and_eq_true,beq_iff_eq,decide_eq_true_eq]at ho
 obtain⟨⟨⟨h1,h2⟩,h3⟩,h4⟩:=ho
 have:l2= []:=by simpa using h
 subst this
 simp only [ja,h1,h2,h3,QX,and_self,if_true,List.map_nil,List.length_nil]
end
section
variable {P:Program} {gl:Nat→List V} {s0:St} {c:Code} {cs:List Code} {AQ:Exit→AFr→St→Prop} {fr:AFr} {st:St}
theorem PI {K:AFr→St→Prop} (h:AQ .ret fr st):noG (uy K AQ) .ret fr st:=h
end
end Go.Abs
end
