/- Abstract values: a part. No condition beyond each statement's own. -/
import Derived.Test.YtkabooclnoiclaaGreatDoorA23
set_option linter.all false
section
namespace Go.Abs
open Go.RowKit (Below)
def cI (k:IntKind) (n:Int):List V:= [.int k n]
def cS (s:List UInt8):List V:= [.str s]
def Ux (s:List UInt8) (n:Int):Option Int:=if 0≤n then(s[n.toNat]?).map (fun b=>(b.toNat:Int))else none
theorem q8 {s:List UInt8} {n b:Int} (h:Ux s n=some b):dt .str (.str s) n=some (.int .u8 b):=by
 unfold Ux at h
 split at h
 ·rename_i h0
  obtain⟨u,hu,rfl⟩:=Option.map_eq_some_iff.1 h
  simp only [dt,h0,if_true,hu]
 ·cases h
def xW {α:Type} (l:List α) (n:Int):Option α:=if 0≤n then l[n.toNat]? else none
theorem yE {α:Type} {c:α→List V} {l:List α} {n:Int} {x:α} {e:TypeId} {sz b:Nat} {tok:Tok} (h:xW l n=some x):yX (.slice e sz b) (.sl sz (l.map c) tok) n=some (.eptr (c x) 0):=by
 unfold xW at h
 split at h
 ·rename_i h0
  simp only [yX,h0,and_self,if_true,List.getElem?_map,h,Option.map_some]
 ·cases h
def ssl (s:List UInt8) (lo hi:Int):Option (List UInt8):=if 0≤lo∧lo≤hi∧hi≤s.length then some ((s.take hi.toNat).drop lo.toNat)else none
theorem JX {α:Type} {s:List α} {lo hi:Int} {k k':IntKind} (h:0≤lo∧lo≤hi∧hi≤s.length):xR s.length (some (.int k lo)) (some (.int k' hi))=some (lo.toNat,hi.toNat):=by
 have h1:0≤hi∧hi≤(s.length:Int):=⟨O0,h.2.2⟩
 have h2:0≤lo∧lo≤((hi.toNat:Nat):Int):=⟨h.1,O0⟩
 simp only [xR,h1,and_self,if_true,h2]
theorem tO {s t:List UInt8} {lo hi:Int} {k k':IntKind} (h:ssl s lo hi=some t):vj .str (.str s) (some (.int k lo)) (some (.int k' hi)) none=some (.str t):=by
 unfold ssl at h
 split at h
 ·rename_i hc; injection h with h; subst h
  simp only [vj,JX hc]
 ·cases h
theorem Uu {s t:List UInt8} {hi:Int} {k:IntKind} (h:ssl s 0 hi=some t):vj .str (.str s) none (some (.int k hi)) none=some (.str t):=by
 unfold ssl at h
 split at h
 ·rename_i hc; injection h with h; subst h
  have h1:0≤hi∧hi≤((s.length:Nat):Int):=⟨hc.2.1,hc.2.2⟩
  simp [vj,xR,h1]
 ·cases h
def lsl {α:Type} (l:List α) (lo hi:Int):Option (List α):=if 0≤lo∧lo≤hi∧hi≤l.length then some ((l.take hi.toNat).drop lo.toNat)else none
theorem Xf {α:Type} {c:α→List V} {l t:List α} {lo hi:Int} {e:TypeId} {sz b:Nat} {tok:Tok} {a:Nat×Nat} {lo' hi':Option V} (hb:xR l.length lo' hi'=some (lo.toNat,hi.toNat)) (h:lsl l lo hi=some t):
  vj (.slice e sz b) (.sl sz (l.map c) tok) lo' hi' none=some (.sl sz (t.map c) .none):=by
 unfold lsl at h
 split at h
 ·rename_i hc; injection h with h; subst h
  simp only [vj,List.length_map,hb,if_true,List.map_drop,List.map_take]
 ·cases h
theorem UC {α:Type} {c:α→List V} {l t:List α} {lo:Int} {k:IntKind} {e:TypeId} {sz b:Nat} {tok:Tok} (h:lsl l lo l.length=some t):
  vj (.slice e sz b) (.sl sz (l.map c) tok) (some (.int k lo)) none none=some (.sl sz (t.map c) .none):=by
 refine Xf (a:=(0,0)) (hi:=l.length) ?_ h
 unfold lsl at h; split at h
 ·rename_i hc
  have h1:0≤lo∧lo≤((l.length:Nat):Int):=⟨hc.1,hc.2.1⟩
  simp [xR,h1]
 ·cases h
theorem jz {α:Type} {c:α→List V} {l t:List α} {hi:Int} {k:IntKind} {e:TypeId} {sz b:Nat} {tok:Tok} (h:lsl l 0 hi=some t):
  vj (.slice e sz b) (.sl sz (l.map c) tok) none (some (.int k hi)) none=some (.sl sz (t.map c) .none):=by
 refine Xf (a:=(0,0)) (lo:=0) ?_ h
 unfold lsl at h; split at h
 ·rename_i hc
  have h1:0≤hi∧hi≤((l.length:Nat):Int):=⟨hc.2.1,hc.2.2⟩
  simp [xR,h1]
 ·cases h
theorem XC {α:Type} {c:α→List V} {l:List α} {e:TypeId} {sz sz' b:Nat} {tok:Tok}:Ja (.slice e sz b) (.sl sz' (l.map c) tok)=some (.int .i64 l.length):=by simp [Ja]
def YZ (s t:List UInt8):Option (List UInt8):=if s.length+t.length≤9223372036854775807 then some (s++t)else none
theorem JE {s t u:List UInt8} {d:TD} (h:YZ s t=some u):ZB .add d (.str s) (.str t)=some (.str u):=by
 unfold YZ at h
 split at h
 ·rename_i hc; injection h with h; subst h; simp only [ZB,BK,hc,if_true]
 ·cases h
def PE (k:IntKind) (a b:Int):Option Int:=if b<0 then none else some (k.wrap (a*2^(min b.toNat k.bits)))
def Yi (k:IntKind) (a b:Int):Option Int:=if b<0 then none else some (a.fdiv (2^(min b.toNat k.bits)))
theorem oQ {k k':IntKind} {a b c:Int} {d:TD} (h:PE k a b=some c):ZB .shl d (.int k a) (.int k' b)=some (.int k c):=by
 unfold PE at h; split at h
 ·cases h
 ·rename_i hb; injection h with h; subst h; simp [ZB,hb]
theorem Jq {k k':IntKind} {a b c:Int} {d:TD} (h:Yi k a b=some c):ZB .shr d (.int k a) (.int k' b)=some (.int k c):=by
 unfold Yi at h; split at h
 ·cases h
 ·rename_i hb; injection h with h; subst h; simp [ZB,hb]
def s2b (s:List UInt8):List Int:=s.map fun b=>(b.toNat:Int)
def b2s (l:List Int):List UInt8:=l.map fun n=>UInt8.ofNat n.toNat
theorem Vq (s:List UInt8):xG s=(s2b s).map (cI .u8):=by simp [xG,s2b,cI]
theorem Yg (l:List Int):we (l.map (cI .u8))=some (b2s l):=by
 induction l with
 |nil=>rfl
 |cons n r ih=>simp only [List.map_cons,cI,we,Qa]at *; rw [ih]; rfl
def w4 {α:Type} (bytes:Nat) (l l2:List α):Option (List α):=if(l.length+l2.length)*bytes≤140737488355328 then some (l++l2)else none
def bm (T:TypeId→TI) (e:TypeId) (sz bytes:Nat):Bool:=(T e).zok&&((T e).zero.cells.length==sz)&&decide (0<bytes)&&decide (0<sz)
theorem St.setFam_same (st:St) {t p:Nat} (h:st.fams[t]? =some p):st.setFam t p=st:=by
 obtain⟨vs,fs⟩:=st
 simp only [St.setFam,St.mk.injEq,true_and]at *
 have hlt:=zj h
 rw [List.getElem?_eq_getElem hlt]at h; injection h with h
 rw [←h]; exact List.set_getElem_self hlt
theorem Bo {α:Type} {T:TypeId→TI} {c:α→List V} {l l2 l':List α} {t:Nat} {st:St} {e e2:TypeId} {sz bytes b2:Nat} {tok2:Tok} (ho:bm T e sz bytes=true) (hf:st.fams[t]? =some l.length) (h:w4 bytes l l2=some l'):
  wn T st (.slice e sz bytes) (.slice e2 sz b2) (.sl sz (l.map c) (.fam t l.length)) (.sl sz (l2.map c) tok2)=some (.sl sz (l'.map c) (.fam t l'.length),st.setFam t l'.length):=by
 simp only [bm,iF,beq_iff_eq,decide_eq_true_eq]at ho
 obtain⟨⟨⟨h1,h2⟩,h3⟩,h4⟩:=ho
 unfold w4 at h
 split at h
 ·rename_i hb; injection h with h; subst h
  simp only [wn,h1,h2,h3,YQ,and_self,if_true,List.length_map]
  by_cases h0:l2.length=0
  ·have:l2= []:=List.eq_nil_of_length_eq_zero h0
   subst this
   simp [St.setFam_same st hf]
  ·simp [h0,h4,hb,hf]
 ·cases h
section
variable {P:Program} {T:TypeId→TI} {gl:Nat→List V} {ops:Array Oper} {K:AFr→St→Prop}
theorem oN (hT:T=ti P) {i:Nat} {fr:AFr} {st:St} (k t:Nat) {α:Type} (c:α→List V) {l l2 l':List α} {e e2:TypeId} {sz bytes b2:Nat} {tok2:Tok} (h1:w4 bytes l l2=some l')
  (hb:(Nat.ble i k&&bm T e sz bytes)=true) (he:((uL T gl ops i k fr st).2.fams[t]?,Y8 T gl ops i k fr st)=(some l.length,wn T (uL T gl ops i k fr st).2 (.slice e sz bytes) (.slice e2 sz b2) (.sl sz (l.map c) (.fam t l.length)) (.sl sz (l2.map c) tok2)))
  (h:wi P gl ops (ops.toList.drop (k+1)) ((uL T gl ops i k fr st).1.put (z2 ops k) (.sl sz (l'.map c) (.fam t l'.length))) ((uL T gl ops i k fr st).2.setFam t l'.length) K):wi P gl ops (ops.toList.drop i) fr st K:=by
 simp only [iF]at hb
 injection he with he1 he2
 exact Qf hT k (Bo hb.2 he1 h1) hb.1 he2 h
theorem so {s0:St} {cs:List Code} {AQ:Exit→AFr→St→Prop} {id:Nat} {ops:Array Oper} {fr:AFr} {st:St} (fr':AFr) (st':St) (hcl:Cl s0 (ze P gl s0 cs AQ)) (h:wi P gl ops (ops.toList.drop 0) fr st (toW s0 fr' st'))
  (h2:ze P gl s0 cs AQ fr' st'):ze P gl s0 (.region id ops false::cs) AQ fr st:=by
 refine wJ.of (yu.region (kN ?_ _ _ _ h))
 intro fr1 st1 hw
 exact hcl _ _ _ _ hw h2
def UM (T:TypeId→TI) (gl:Nat→List V) (fr:AFr) (st:St):ResultVar→Option V
 | .tmp t=>some (zq fr.l t)
 | .cell a t=>match gD gl st (zq fr.l a) (T t).sz (T t).d.agg with
  |some v=>if(T t).ok=true∧(T t).d≠ .other then some v else none
  |none=>none
def xL (T:TypeId→TI) (gl:Nat→List V) (fr:AFr) (st:St):List ResultVar→Option (List V)
 | []=>some []
 | r::rs=>match UM T gl fr st r,xL T gl fr st rs with
  |some v,some vs=>some (v::vs)
  |_,_=>none
theorem gC (P:Program) (fr:AFr) (st:St):∀l,xL (ti P) gl fr st l=xw P gl fr st l
 | []=>rfl
 | r::rs=>by
  have:UM (ti P) gl fr st r=jW P gl fr st r:=by cases r<;>rfl
  simp only [xL,xw,this,gC P fr st rs]
  cases jW P gl fr st r<;>cases xw P gl fr st rs<;>rfl
def ZU (T:TypeId→TI) (gl:Nat→List V) (fr:AFr) (st:St) (rs:List ResultVar):V:=match xL T gl fr st rs with|some vs=>dA vs|none=> .junk
theorem mA (hT:T=ti P) {s0 st:St} {fr:AFr} {fn:Func} {e:Exit} {r:V} {st':St} (R:Ren) (he:e= .normal∨e= .ret)
  (hb:((xL T gl fr st fn.results.toList).isSome&&wkB s0 R ⟨1,[(0,ZU T gl fr st fn.results.toList)]⟩ st ⟨1,[(0,r)]⟩ st')=true)
  (hl:wkL R ⟨1,[(0,r)]⟩ st'=wkR R ⟨1,[(0,ZU T gl fr st fn.results.toList)]⟩ st ⟨1,[(0,r)]⟩ st'):uq P gl s0 fn (Out r st') e fr st:=by
 subst hT
 simp only [iF]at hb
 obtain⟨h1,h2⟩:=hb
 cases hv:xL (ti P) gl fr st fn.results.toList with
 |none=>rw [hv]at h1; cases h1
 | some vs=>
  simp only [ZU,hv]at h2 hl
  exact uq.gen vs R he (by rw [←gC]; exact hv) h2 hl
end
theorem tR {α:Type} {b:Bool} {x y z:α} (hb:b=true) (h:(if b=true then x else y)=z):x=z:=by rw [if_pos hb]at h; exact h
theorem rD {α:Type} {b:Bool} {x y z:α} (hb:b=false) (h:(if b=true then x else y)=z):y=z:=by rw [if_neg (by simp [hb])]at h; exact h
theorem Du {α β:Type} {x:Option α} {f:α→Option β} {y:β} (h:x.bind f=some y):∃a,x=some a∧f a=some y:=Option.bind_eq_some_iff.1 h
section
variable {P:Program} {gl:Nat→List V} {s0:St} {c:Code} {cs:List Code} {AQ:Exit→AFr→St→Prop} {fr fr':AFr} {st st':St}
theorem nT {Y:Type} (F:Y→AFr) (S:Y→St) (L:Y→Prop) (h:ze P gl s0 [c] (yG (jh s0 F S L) AQ) fr st) (hcl:Cl s0 (ze P gl s0 cs AQ)) (h2:∀y,L y→ze P gl s0 cs AQ (F y) (S y)):ze P gl s0 (c::cs) AQ fr st:=by
 refine wJ.mono (AQ:=yG (jh s0 F S L) AQ) ?_ ?_
 ·have:=h; simp only [ze,UA]at this; exact this
 ·intro e fr1 st1 he
  cases e with
  |normal=>obtain⟨y,h3,h4⟩:=he; exact hcl _ _ _ _ h4 (h2 y h3)
  |_=>exact he
def qG (s0:St) (id:Nat) {Y:Type} (F:Y→AFr) (S:Y→St) (L:Y→Prop) (AQ:Exit→AFr→St→Prop):Exit→AFr→St→Prop
 | .exit id',fr,st=>if id'=id then jh s0 F S L fr st else AQ (.exit id') fr st
 | .normal,fr,st=>jh s0 F S L fr st
 |e,fr,st=>AQ e fr st
theorem eg {Y:Type} {id:Nat} (F:Y→AFr) (S:Y→St) (L:Y→Prop) (h:ze P gl s0 [c] (qG s0 id F S L AQ) fr st) (hcl:Cl s0 (ze P gl s0 cs AQ)) (h2:∀y,L y→ze P gl s0 cs AQ (F y) (S y)):ze P gl s0 (.block id c::cs) AQ fr st:=by
 have h':=K6 h
 have k:wJ P gl s0 c (vS id (yG (ze P gl s0 cs AQ) AQ)) fr st:=by
  refine h'.mono ?_
  intro e fr1 st1 he
  cases e with
  |normal=>obtain⟨y,h3,h4⟩:=he; exact hcl _ _ _ _ h4 (h2 y h3)
  | exit id'=>
   simp only [qG,vS,yG]at he ⊢
   split
   ·rename_i hi; rw [if_pos hi]at he; obtain⟨y,h3,h4⟩:=he; exact hcl _ _ _ _ h4 (h2 y h3)
   ·rename_i hi; rw [if_neg hi]at he; exact he
  |_=>exact he
 refine Kf ?_
 simp only [ze,jV]
 exact k
theorem lH {Y:Type} {id:Nat} {F:Y→AFr} {S:Y→St} {L:Y→Prop} (h:jh s0 F S L fr st):qG s0 id F S L AQ (.exit id) fr st:=by
 simp only [qG,if_true]; exact h
theorem ls {id:Nat} {K:AFr→St→Prop} (h:K fr st):vS id (yG K AQ) (.exit id) fr st:=by
 simp only [vS,yG,if_true]; exact h
theorem yn {Y:Type} {F:Y→AFr} {S:Y→St} {L:Y→Prop}:Cl s0 (yG (jh s0 F S L) AQ .normal):=fun _ _ _ _ h ⟨x,k1,k2⟩=>⟨x,k1,h.trans k2⟩
end
def xC (k:IntKind) (x y:Int):Int:=k.wrap (BitVec.ofInt k.bits x &&& BitVec.ofInt k.bits y).toNat
def ior (k:IntKind) (x y:Int):Int:=k.wrap (BitVec.ofInt k.bits x|||BitVec.ofInt k.bits y).toNat
def zE (k:IntKind) (x y:Int):Int:=k.wrap (BitVec.ofInt k.bits x ^^^ BitVec.ofInt k.bits y).toNat
end Go.Abs
end
