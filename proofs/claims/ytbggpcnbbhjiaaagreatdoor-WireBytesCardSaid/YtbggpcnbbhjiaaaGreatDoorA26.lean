/- Layer: an abstract reading of values and worlds, and that the model's operations, regions, loops and calls keep to it. No condition beyond each statement's own. -/
import Derived.Test.YtbggpcnbbhjiaaaGreatDoorA25
set_option linter.unusedVariables false
set_option linter.unusedSimpArgs false
set_option linter.unnecessarySimpa false
section
namespace Go.Abs
open Go.RowKit (Below)
def cI (k:IntKind) (n:Int):List V:= [.int k n]
def cS (s:List UInt8):List V:= [.str s]
def cL {α:Type} (sz:Nat) (c:α→List V) (l:List α):List V:= [.sl sz (l.map c) .none]
def yw (s:List UInt8) (n:Int):Option Int:=if 0≤n then(s[n.toNat]?).map (fun b=>(b.toNat:Int))else none
theorem zW {s:List UInt8} {n b:Int} (h:yw s n=some b):Qv .str (.str s) n=some (.int .u8 b):=by
 unfold yw at h
 split at h
 ·rename_i h0
  obtain⟨u,hu,rfl⟩:=Option.map_eq_some_iff.1 h
  simp only [Qv,h0,if_true,hu]
 ·cases h
def zV {α:Type} (l:List α) (n:Int):Option α:=if 0≤n then l[n.toNat]? else none
theorem gE {α:Type} {c:α→List V} {l:List α} {n:Int} {x:α} {e:TypeId} {sz b:Nat} {tok:Tok} (h:zV l n=some x):ba (.slice e sz b) (.sl sz (l.map c) tok) n=some (.eptr (c x) 0):=by
 unfold zV at h
 split at h
 ·rename_i h0
  simp only [ba,h0,and_self,if_true,List.getElem?_map,h,Option.map_some]
 ·cases h
def ssl (s:List UInt8) (lo hi:Int):Option (List UInt8):=if 0≤lo∧lo≤hi∧hi≤s.length then some ((s.take hi.toNat).drop lo.toNat)else none
theorem fj {α:Type} {s:List α} {lo hi:Int} {k k':IntKind} (h:0≤lo∧lo≤hi∧hi≤s.length):gk s.length (some (.int k lo)) (some (.int k' hi))=some (lo.toNat,hi.toNat):=by
 have h1:0≤hi∧hi≤(s.length:Int):=⟨O0,h.2.2⟩
 have h2:0≤lo∧lo≤((hi.toNat:Nat):Int):=⟨h.1,O0⟩
 simp only [gk,h1,and_self,if_true,h2]
theorem zaE {s t:List UInt8} {lo hi:Int} {k k':IntKind} (h:ssl s lo hi=some t):dM .str (.str s) (some (.int k lo)) (some (.int k' hi)) none=some (.str t):=by
 unfold ssl at h
 split at h
 ·rename_i hc; injection h with h; subst h
  simp only [dM,fj hc]
 ·cases h
theorem DX {s t:List UInt8} {lo:Int} {k:IntKind} (h:ssl s lo s.length=some t):dM .str (.str s) (some (.int k lo)) none none=some (.str t):=by
 unfold ssl at h
 split at h
 ·rename_i hc; injection h with h; subst h
  have h1:0≤lo∧lo≤((s.length:Nat):Int):=⟨hc.1,hc.2.1⟩
  simp [dM,gk,h1]
 ·cases h
theorem P6 {s t:List UInt8} {hi:Int} {k:IntKind} (h:ssl s 0 hi=some t):dM .str (.str s) none (some (.int k hi)) none=some (.str t):=by
 unfold ssl at h
 split at h
 ·rename_i hc; injection h with h; subst h
  have h1:0≤hi∧hi≤((s.length:Nat):Int):=⟨hc.2.1,hc.2.2⟩
  simp [dM,gk,h1]
 ·cases h
def lsl {α:Type} (l:List α) (lo hi:Int):Option (List α):=if 0≤lo∧lo≤hi∧hi≤l.length then some ((l.take hi.toNat).drop lo.toNat)else none
theorem Gf {α:Type} {c:α→List V} {l t:List α} {lo hi:Int} {e:TypeId} {sz b:Nat} {tok:Tok} {a:Nat×Nat} {lo' hi':Option V} (hb:gk l.length lo' hi'=some (lo.toNat,hi.toNat)) (h:lsl l lo hi=some t):
  dM (.slice e sz b) (.sl sz (l.map c) tok) lo' hi' none=some (.sl sz (t.map c) .none):=by
 unfold lsl at h
 split at h
 ·rename_i hc; injection h with h; subst h
  simp only [dM,List.length_map,hb,if_true,List.map_drop,List.map_take]
 ·cases h
theorem Ys {α:Type} {c:α→List V} {l t:List α} {lo:Int} {k:IntKind} {e:TypeId} {sz b:Nat} {tok:Tok} (h:lsl l lo l.length=some t):
  dM (.slice e sz b) (.sl sz (l.map c) tok) (some (.int k lo)) none none=some (.sl sz (t.map c) .none):=by
 refine Gf (a:=(0,0)) (hi:=l.length) ?_ h
 unfold lsl at h; split at h
 ·rename_i hc
  have h1:0≤lo∧lo≤((l.length:Nat):Int):=⟨hc.1,hc.2.1⟩
  simp [gk,h1]
 ·cases h
theorem J7 {α:Type} {c:α→List V} {l t:List α} {hi:Int} {k:IntKind} {e:TypeId} {sz b:Nat} {tok:Tok} (h:lsl l 0 hi=some t):
  dM (.slice e sz b) (.sl sz (l.map c) tok) none (some (.int k hi)) none=some (.sl sz (t.map c) .none):=by
 refine Gf (a:=(0,0)) (lo:=0) ?_ h
 unfold lsl at h; split at h
 ·rename_i hc
  have h1:0≤hi∧hi≤((l.length:Nat):Int):=⟨hc.2.1,hc.2.2⟩
  simp [gk,h1]
 ·cases h
theorem p8 {α:Type} {c:α→List V} {l:List α} {e:TypeId} {sz sz' b:Nat} {tok:Tok}:cY (.slice e sz b) (.sl sz' (l.map c) tok)=some (.int .i64 l.length):=by simp [cY]
def jw (s t:List UInt8):Option (List UInt8):=if s.length+t.length≤9223372036854775807 then some (s++t)else none
theorem rh {s t u:List UInt8} {d:TD} (h:jw s t=some u):UQ .add d (.str s) (.str t)=some (.str u):=by
 unfold jw at h
 split at h
 ·rename_i hc; injection h with h; subst h; simp only [UQ,rp,hc,if_true]
 ·cases h
def nL (a b:Int):Option Int:=if b=0 then none else some (a.tmod b)
def Je (k:IntKind) (a b:Int):Option Int:=if b<0 then none else some (k.wrap (a*2^(min b.toNat k.bits)))
def Wr (k:IntKind) (a b:Int):Option Int:=if b<0 then none else some (a.fdiv (2^(min b.toNat k.bits)))
theorem re {k:IntKind} {a b c:Int} {d:TD} (h:nL a b=some c):UQ .rem d (.int k a) (.int k b)=some (.int k c):=by
 unfold nL at h; split at h
 ·cases h
 ·rename_i hb; injection h with h; subst h; simp [UQ,rV,hb]
theorem V6 {k k':IntKind} {a b c:Int} {d:TD} (h:Je k a b=some c):UQ .shl d (.int k a) (.int k' b)=some (.int k c):=by
 unfold Je at h; split at h
 ·cases h
 ·rename_i hb; injection h with h; subst h; simp [UQ,hb]
theorem Wj {k k':IntKind} {a b c:Int} {d:TD} (h:Wr k a b=some c):UQ .shr d (.int k a) (.int k' b)=some (.int k c):=by
 unfold Wr at h; split at h
 ·cases h
 ·rename_i hb; injection h with h; subst h; simp [UQ,hb]
def s2b (s:List UInt8):List Int:=s.map fun b=>(b.toNat:Int)
def b2s (l:List Int):List UInt8:=l.map fun n=>UInt8.ofNat n.toNat
theorem D1 (s:List UInt8):bR s=(s2b s).map (cI .u8):=by simp [bR,s2b,cI]
theorem Bv (l:List Int):dT (l.map (cI .u8))=some (b2s l):=by
 induction l with
 |nil=>rfl
 |cons n r ih=>simp only [List.map_cons,cI,dT,fw]at *; rw [ih]; rfl
def gL {α:Type} (bytes:Nat) (l l2:List α):Option (List α):=if(l.length+l2.length)*bytes≤140737488355328 then some (l++l2)else none
def Yj (T:TypeId→TI) (e:TypeId) (sz bytes:Nat):Bool:=(T e).zok&&((T e).zero.cells.length==sz)&&decide (0<bytes)&&decide (0<sz)
theorem St.setFam_same (st:St) {t p:Nat} (h:st.fams[t]? =some p):st.setFam t p=st:=by
 obtain⟨vs,fs⟩:=st
 simp only [St.setFam,St.mk.injEq,true_and]at *
 have hlt:=zR h
 rw [List.getElem?_eq_getElem hlt]at h; injection h with h
 rw [←h]; exact List.set_getElem_self hlt
theorem B6 {α:Type} {T:TypeId→TI} {c:α→List V} {l l2 l':List α} {t:Nat} {st:St} {e e2:TypeId} {sz bytes b2:Nat} {tok2:Tok} (ho:Yj T e sz bytes=true) (hf:st.fams[t]? =some l.length) (h:gL bytes l l2=some l'):
  qA T st (.slice e sz bytes) (.slice e2 sz b2) (.sl sz (l.map c) (.fam t l.length)) (.sl sz (l2.map c) tok2)=some (.sl sz (l'.map c) (.fam t l'.length),st.setFam t l'.length):=by
 simp only [Yj,Bool.and_eq_true,beq_iff_eq,decide_eq_true_eq]at ho
 obtain⟨⟨⟨h1,h2⟩,h3⟩,h4⟩:=ho
 unfold gL at h
 split at h
 ·rename_i hb; injection h with h; subst h
  simp only [qA,h1,h2,h3,QF,and_self,if_true,List.length_map]
  by_cases h0:l2.length=0
  ·have:l2= []:=List.eq_nil_of_length_eq_zero h0
   subst this
   simp [St.setFam_same st hf]
  ·simp [h0,h4,hb,hf]
 ·cases h
section
variable {P:Program} {T:TypeId→TI} {gl:Nat→List V} {ops:Array Oper} {K:AFr→St→Prop}
theorem zbl (hT:T=ti P) {i:Nat} {fr:AFr} {st:St} (k t:Nat) {α:Type} (c:α→List V) {l l2 l':List α} {e e2:TypeId} {sz bytes b2:Nat} {tok2:Tok} (h1:gL bytes l l2=some l')
  (hb:(Nat.ble i k&&Yj T e sz bytes)=true) (he:((ZG T gl ops i k fr st).2.fams[t]?,B9 T gl ops i k fr st)=(some l.length,qA T (ZG T gl ops i k fr st).2 (.slice e sz bytes) (.slice e2 sz b2) (.sl sz (l.map c) (.fam t l.length)) (.sl sz (l2.map c) tok2)))
  (h:dw P gl ops (ops.toList.drop (k+1)) ((ZG T gl ops i k fr st).1.put (xZ ops k) (.sl sz (l'.map c) (.fam t l'.length))) ((ZG T gl ops i k fr st).2.setFam t l'.length) K):dw P gl ops (ops.toList.drop i) fr st K:=by
 simp only [Bool.and_eq_true]at hb
 injection he with he1 he2
 exact fC hT k (B6 hb.2 he1 h1) hb.1 he2 h
theorem zcq {s0:St} {cs:List Code} {AQ:Exit→AFr→St→Prop} {id:Nat} {ops:Array Oper} {fr:AFr} {st:St} (fr':AFr) (st':St) (hcl:Cl s0 (zt P gl s0 cs AQ)) (h:dw P gl ops (ops.toList.drop 0) fr st (toW s0 fr' st'))
  (h2:zt P gl s0 cs AQ fr' st'):zt P gl s0 (.region id ops false::cs) AQ fr st:=by
 refine Zj.of (Q7.region (Y6 ?_ _ _ _ h))
 intro fr1 st1 hw
 exact hcl _ _ _ _ hw h2
def cB (T:TypeId→TI) (gl:Nat→List V) (fr:AFr) (st:St):ResultVar→Option V
 | .tmp t=>some (vV fr.l t)
 | .cell a t=>match JY gl st (vV fr.l a) (T t).sz (T t).d.agg with
  |some v=>if(T t).ok=true∧(T t).d≠ .other then some v else none
  |none=>none
def dh (T:TypeId→TI) (gl:Nat→List V) (fr:AFr) (st:St):List ResultVar→Option (List V)
 | []=>some []
 | r::rs=>match cB T gl fr st r,dh T gl fr st rs with
  |some v,some vs=>some (v::vs)
  |_,_=>none
theorem JW (P:Program) (fr:AFr) (st:St):∀l,dh (ti P) gl fr st l=dJ P gl fr st l
 | []=>rfl
 | r::rs=>by
  have:cB (ti P) gl fr st r=Vb P gl fr st r:=by cases r<;>rfl
  simp only [dh,dJ,this,JW P fr st rs]
  cases Vb P gl fr st r<;>cases dJ P gl fr st rs<;>rfl
def KY (T:TypeId→TI) (gl:Nat→List V) (fr:AFr) (st:St) (rs:List ResultVar):V:=match dh T gl fr st rs with|some vs=>Du vs|none=> .junk
theorem zas (hT:T=ti P) {s0 st:St} {fr:AFr} {fn:Func} {e:Exit} {r:V} {st':St} (R:Ren) (he:e= .normal∨e= .ret)
  (hb:((dh T gl fr st fn.results.toList).isSome&&wkB s0 R ⟨1,[(0,KY T gl fr st fn.results.toList)]⟩ st ⟨1,[(0,r)]⟩ st')=true)
  (hl:wkL R ⟨1,[(0,r)]⟩ st'=wkR R ⟨1,[(0,KY T gl fr st fn.results.toList)]⟩ st ⟨1,[(0,r)]⟩ st'):Xi P gl s0 fn (Out r st') e fr st:=by
 subst hT
 simp only [Bool.and_eq_true]at hb
 obtain⟨h1,h2⟩:=hb
 cases hv:dh (ti P) gl fr st fn.results.toList with
 |none=>rw [hv]at h1; cases h1
 | some vs=>
  simp only [KY,hv]at h2 hl
  exact Xi.gen vs R he (by rw [←JW]; exact hv) h2 hl
end
inductive Ctl (R X:Type) where
 |ret (r:R)
 |nxt (x:X)
theorem mZ {α:Type} {b:Bool} {x y z:α} (hb:b=true) (h:(if b=true then x else y)=z):x=z:=by rw [if_pos hb]at h; exact h
theorem lv {α:Type} {b:Bool} {x y z:α} (hb:b=false) (h:(if b=true then x else y)=z):y=z:=by rw [if_neg (by simp [hb])]at h; exact h
theorem Pc {α β:Type} {x:Option α} {f:α→Option β} {y:β} (h:x.bind f=some y):∃a,x=some a∧f a=some y:=Option.bind_eq_some_iff.1 h
def z8 {R X Z:Type} (o:Option (Ctl R X)) (g:R→Option Z) (f:X→Option Z):Option Z:=match o with
 |none=>none
 |some (.ret r)=>g r
 |some (.nxt x)=>f x
theorem tJ {R X Z:Type} {o:Option (Ctl R X)} {g:R→Option Z} {f:X→Option Z} {z:Z} (h:z8 o g f=some z):∃c,o=some c∧(∀r,c= .ret r→g r=some z)∧(∀x,c= .nxt x→f x=some z):=by
 cases o with
 |none=>cases h
 | some c=>
  refine⟨c,rfl, ?_, ?_⟩
  ·rintro r rfl; exact h
  ·rintro x rfl; exact h
section
variable {P:Program} {gl:Nat→List V} {s0:St} {c:Code} {cs:List Code} {AQ:Exit→AFr→St→Prop} {fr fr':AFr} {st st':St}
theorem rj {Y:Type} (F:Y→AFr) (S:Y→St) (L:Y→Prop) (h:zt P gl s0 [c] (un (ZK s0 F S L) AQ) fr st) (hcl:Cl s0 (zt P gl s0 cs AQ)) (h2:∀y,L y→zt P gl s0 cs AQ (F y) (S y)):zt P gl s0 (c::cs) AQ fr st:=by
 refine Zj.mono (AQ:=un (ZK s0 F S L) AQ) ?_ ?_
 ·have:=h; simp only [zt,cd]at this; exact this
 ·intro e fr1 st1 he
  cases e with
  |normal=>obtain⟨y,h3,h4⟩:=he; exact hcl _ _ _ _ h4 (h2 y h3)
  |_=>exact he
def dH (s0:St) (id:Nat) {Y:Type} (F:Y→AFr) (S:Y→St) (L:Y→Prop) (AQ:Exit→AFr→St→Prop):Exit→AFr→St→Prop
 | .exit id',fr,st=>if id'=id then ZK s0 F S L fr st else AQ (.exit id') fr st
 | .normal,fr,st=>ZK s0 F S L fr st
 |e,fr,st=>AQ e fr st
theorem cV {Y:Type} {id:Nat} (F:Y→AFr) (S:Y→St) (L:Y→Prop) (h:zt P gl s0 [c] (dH s0 id F S L AQ) fr st) (hcl:Cl s0 (zt P gl s0 cs AQ)) (h2:∀y,L y→zt P gl s0 cs AQ (F y) (S y)):zt P gl s0 (.block id c::cs) AQ fr st:=by
 have h':=DJ h
 have k:Zj P gl s0 c (pU id (un (zt P gl s0 cs AQ) AQ)) fr st:=by
  refine h'.mono ?_
  intro e fr1 st1 he
  cases e with
  |normal=>obtain⟨y,h3,h4⟩:=he; exact hcl _ _ _ _ h4 (h2 y h3)
  | exit id'=>
   simp only [dH,pU,un]at he ⊢
   split
   ·rename_i hi; rw [if_pos hi]at he; obtain⟨y,h3,h4⟩:=he; exact hcl _ _ _ _ h4 (h2 y h3)
   ·rename_i hi; rw [if_neg hi]at he; exact he
  |_=>exact he
 refine lT ?_
 simp only [zt,W9]
 exact k
theorem zab {Y:Type} {id:Nat} {F:Y→AFr} {S:Y→St} {L:Y→Prop} (h:ZK s0 F S L fr st):dH s0 id F S L AQ (.exit id) fr st:=by
 simp only [dH,if_true]; exact h
theorem tU {id:Nat} {K:AFr→St→Prop} (h:K fr st):pU id (un K AQ) (.exit id) fr st:=by
 simp only [pU,un,if_true]; exact h
theorem sT {id id':Nat} {K:AFr→St→Prop} (hne:Nat.beq id' id=false) (h:AQ (.exit id') fr st):pU id (un K AQ) (.exit id') fr st:=by
 simp only [pU,un]; rw [if_neg (Nat.ne_of_beq_eq_false hne)]; exact h
theorem xh {Y:Type} {id:Nat} {F:Y→AFr} {S:Y→St} {L:Y→Prop}:Cl s0 (dH s0 id F S L AQ .normal):=fun _ _ _ _ h ⟨x,k1,k2⟩=>⟨x,k1,h.trans k2⟩
theorem zn {Y:Type} {F:Y→AFr} {S:Y→St} {L:Y→Prop}:Cl s0 (un (ZK s0 F S L) AQ .normal):=fun _ _ _ _ h ⟨x,k1,k2⟩=>⟨x,k1,h.trans k2⟩
end
def kY (k:IntKind) (x y:Int):Int:=k.wrap (BitVec.ofInt k.bits x &&& BitVec.ofInt k.bits y).toNat
def ior (k:IntKind) (x y:Int):Int:=k.wrap (BitVec.ofInt k.bits x|||BitVec.ofInt k.bits y).toNat
end Go.Abs
end
