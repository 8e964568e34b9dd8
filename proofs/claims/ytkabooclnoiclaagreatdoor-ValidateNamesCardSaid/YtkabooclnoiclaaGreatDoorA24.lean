/- Layer: an abstract reading of values and worlds, and that the model's operations, regions, loops and calls keep to it. No condition beyond each statement's own. -/
import Derived.Test.YtkabooclnoiclaaGreatDoorA23
set_option linter.unusedVariables false
set_option linter.unusedSimpArgs false
set_option linter.unnecessarySimpa false
section
namespace Go.Abs
open Go.RowKit (Below)
def cI (k:IntKind) (n:Int):List V:= [.int k n]
def cS (s:List UInt8):List V:= [.str s]
def VZ (s:List UInt8) (n:Int):Option Int:=if 0≤n then(s[n.toNat]?).map (fun b=>(b.toNat:Int))else none
theorem qU {s:List UInt8} {n b:Int} (h:VZ s n=some b):g9 .str (.str s) n=some (.int .u8 b):=by
 unfold VZ at h
 split at h
 ·rename_i h0
  obtain⟨u,hu,rfl⟩:=Option.map_eq_some_iff.1 h
  simp only [g9,h0,if_true,hu]
 ·cases h
def xM {α:Type} (l:List α) (n:Int):Option α:=if 0≤n then l[n.toNat]? else none
theorem yC {α:Type} {c:α→List V} {l:List α} {n:Int} {x:α} {e:TypeId} {sz b:Nat} {tok:Tok} (h:xM l n=some x):yU (.slice e sz b) (.sl sz (l.map c) tok) n=some (.eptr (c x) 0):=by
 unfold xM at h
 split at h
 ·rename_i h0
  simp only [yU,h0,and_self,if_true,List.getElem?_map,h,Option.map_some]
 ·cases h
def ssl (s:List UInt8) (lo hi:Int):Option (List UInt8):=if 0≤lo∧lo≤hi∧hi≤s.length then some ((s.take hi.toNat).drop lo.toNat)else none
theorem Jh {α:Type} {s:List α} {lo hi:Int} {k k':IntKind} (h:0≤lo∧lo≤hi∧hi≤s.length):xI s.length (some (.int k lo)) (some (.int k' hi))=some (lo.toNat,hi.toNat):=by
 have h1:0≤hi∧hi≤(s.length:Int):=⟨by omega,h.2.2⟩
 have h2:0≤lo∧lo≤((hi.toNat:Nat):Int):=⟨h.1,by omega⟩
 simp only [xI,h1,and_self,if_true,h2]
theorem su {s t:List UInt8} {lo hi:Int} {k k':IntKind} (h:ssl s lo hi=some t):w5 .str (.str s) (some (.int k lo)) (some (.int k' hi)) none=some (.str t):=by
 unfold ssl at h
 split at h
 ·rename_i hc; injection h with h; subst h
  simp only [w5,Jh hc]
 ·cases h
theorem VW {s t:List UInt8} {hi:Int} {k:IntKind} (h:ssl s 0 hi=some t):w5 .str (.str s) none (some (.int k hi)) none=some (.str t):=by
 unfold ssl at h
 split at h
 ·rename_i hc; injection h with h; subst h
  have h1:0≤hi∧hi≤((s.length:Nat):Int):=⟨hc.2.1,hc.2.2⟩
  simp [w5,xI,h1]
 ·cases h
def lsl {α:Type} (l:List α) (lo hi:Int):Option (List α):=if 0≤lo∧lo≤hi∧hi≤l.length then some ((l.take hi.toNat).drop lo.toNat)else none
theorem YR {α:Type} {c:α→List V} {l t:List α} {lo hi:Int} {e:TypeId} {sz b:Nat} {tok:Tok} {a:Nat×Nat} {lo' hi':Option V} (hb:xI l.length lo' hi'=some (lo.toNat,hi.toNat)) (h:lsl l lo hi=some t):
  w5 (.slice e sz b) (.sl sz (l.map c) tok) lo' hi' none=some (.sl sz (t.map c) .none):=by
 unfold lsl at h
 split at h
 ·rename_i hc; injection h with h; subst h
  simp only [w5,List.length_map,hb,if_true,List.map_drop,List.map_take]
 ·cases h
theorem V4 {α:Type} {c:α→List V} {l t:List α} {lo:Int} {k:IntKind} {e:TypeId} {sz b:Nat} {tok:Tok} (h:lsl l lo l.length=some t):
  w5 (.slice e sz b) (.sl sz (l.map c) tok) (some (.int k lo)) none none=some (.sl sz (t.map c) .none):=by
 refine YR (a:=(0,0)) (hi:=l.length) ?_ h
 unfold lsl at h; split at h
 ·rename_i hc
  have h1:0≤lo∧lo≤((l.length:Nat):Int):=⟨hc.1,hc.2.1⟩
  simp [xI,h1]
 ·cases h
theorem jm {α:Type} {c:α→List V} {l t:List α} {hi:Int} {k:IntKind} {e:TypeId} {sz b:Nat} {tok:Tok} (h:lsl l 0 hi=some t):
  w5 (.slice e sz b) (.sl sz (l.map c) tok) none (some (.int k hi)) none=some (.sl sz (t.map c) .none):=by
 refine YR (a:=(0,0)) (lo:=0) ?_ h
 unfold lsl at h; split at h
 ·rename_i hc
  have h1:0≤hi∧hi≤((l.length:Nat):Int):=⟨hc.2.1,hc.2.2⟩
  simp [xI,h1]
 ·cases h
theorem Xd {α:Type} {c:α→List V} {l:List α} {e:TypeId} {sz sz' b:Nat} {tok:Tok}:Uz (.slice e sz b) (.sl sz' (l.map c) tok)=some (.int .i64 l.length):=by simp [Uz]
def YE (s t:List UInt8):Option (List UInt8):=if s.length+t.length≤9223372036854775807 then some (s++t)else none
theorem U0 {s t u:List UInt8} {d:TD} (h:YE s t=some u):Zf .add d (.str s) (.str t)=some (.str u):=by
 unfold YE at h
 split at h
 ·rename_i hc; injection h with h; subst h; simp only [Zf,KW,hc,if_true]
 ·cases h
def Dr (k:IntKind) (a b:Int):Option Int:=if b<0 then none else some (k.wrap (a*2^(min b.toNat k.bits)))
def Z2 (k:IntKind) (a b:Int):Option Int:=if b<0 then none else some (a.fdiv (2^(min b.toNat k.bits)))
theorem nb {k k':IntKind} {a b c:Int} {d:TD} (h:Dr k a b=some c):Zf .shl d (.int k a) (.int k' b)=some (.int k c):=by
 unfold Dr at h; split at h
 ·cases h
 ·rename_i hb; injection h with h; subst h; simp [Zf,hb]
theorem UO {k k':IntKind} {a b c:Int} {d:TD} (h:Z2 k a b=some c):Zf .shr d (.int k a) (.int k' b)=some (.int k c):=by
 unfold Z2 at h; split at h
 ·cases h
 ·rename_i hb; injection h with h; subst h; simp [Zf,hb]
def s2b (s:List UInt8):List Int:=s.map fun b=>(b.toNat:Int)
def b2s (l:List Int):List UInt8:=l.map fun n=>UInt8.ofNat n.toNat
theorem WW (s:List UInt8):xB s=(s2b s).map (cI .u8):=by simp [xB,s2b,cI]
theorem Z0 (l:List Int):xX (l.map (cI .u8))=some (b2s l):=by
 induction l with
 |nil=>rfl
 |cons n r ih=>simp only [List.map_cons,cI,xX,Jt]at *; rw [ih]; rfl
def wS {α:Type} (bytes:Nat) (l l2:List α):Option (List α):=if(l.length+l2.length)*bytes≤140737488355328 then some (l++l2)else none
def k7 (T:TypeId→TI) (e:TypeId) (sz bytes:Nat):Bool:=(T e).zok&&((T e).zero.cells.length==sz)&&decide (0<bytes)&&decide (0<sz)
theorem St.setFam_same (st:St) {t p:Nat} (h:st.fams[t]? =some p):st.setFam t p=st:=by
 obtain⟨vs,fs⟩:=st
 simp only [St.setFam,St.mk.injEq,true_and]at *
 have hlt:=zh h
 rw [List.getElem?_eq_getElem hlt]at h; injection h with h
 rw [←h]; exact List.set_getElem_self hlt
theorem Ks {α:Type} {T:TypeId→TI} {c:α→List V} {l l2 l':List α} {t:Nat} {st:St} {e e2:TypeId} {sz bytes b2:Nat} {tok2:Tok} (ho:k7 T e sz bytes=true) (hf:st.fams[t]? =some l.length) (h:wS bytes l l2=some l'):
  wh T st (.slice e sz bytes) (.slice e2 sz b2) (.sl sz (l.map c) (.fam t l.length)) (.sl sz (l2.map c) tok2)=some (.sl sz (l'.map c) (.fam t l'.length),st.setFam t l'.length):=by
 simp only [k7,Bool.and_eq_true,beq_iff_eq,decide_eq_true_eq]at ho
 obtain⟨⟨⟨h1,h2⟩,h3⟩,h4⟩:=ho
 unfold wS at h
 split at h
 ·rename_i hb; injection h with h; subst h
  simp only [wh,h1,h2,h3,Yx,and_self,if_true,List.length_map]
  by_cases h0:l2.length=0
  ·have:l2= []:=List.eq_nil_of_length_eq_zero h0
   subst this
   simp [St.setFam_same st hf]
  ·simp [h0,h4,hb,hf]
 ·cases h
section
variable {P:Program} {T:TypeId→TI} {gl:Nat→List V} {ops:Array Oper} {K:AFr→St→Prop}
theorem mY (hT:T=ti P) {i:Nat} {fr:AFr} {st:St} (k t:Nat) {α:Type} (c:α→List V) {l l2 l':List α} {e e2:TypeId} {sz bytes b2:Nat} {tok2:Tok} (h1:wS bytes l l2=some l')
  (hb:(Nat.ble i k&&k7 T e sz bytes)=true) (he:((uo T gl ops i k fr st).2.fams[t]?,YK T gl ops i k fr st)=(some l.length,wh T (uo T gl ops i k fr st).2 (.slice e sz bytes) (.slice e2 sz b2) (.sl sz (l.map c) (.fam t l.length)) (.sl sz (l2.map c) tok2)))
  (h:wc P gl ops (ops.toList.drop (k+1)) ((uo T gl ops i k fr st).1.put (zY ops k) (.sl sz (l'.map c) (.fam t l'.length))) ((uo T gl ops i k fr st).2.setFam t l'.length) K):wc P gl ops (ops.toList.drop i) fr st K:=by
 simp only [Bool.and_eq_true]at hb
 injection he with he1 he2
 exact Jy hT k (Ks hb.2 he1 h1) hb.1 he2 h
theorem oO {s0:St} {cs:List Code} {AQ:Exit→AFr→St→Prop} {id:Nat} {ops:Array Oper} {fr:AFr} {st:St} (fr':AFr) (st':St) (hcl:Cl s0 (zd P gl s0 cs AQ)) (h:wc P gl ops (ops.toList.drop 0) fr st (toW s0 fr' st'))
  (h2:zd P gl s0 cs AQ fr' st'):zd P gl s0 (.region id ops false::cs) AQ fr st:=by
 refine wE.of (yu.region (ky ?_ _ _ _ h))
 intro fr1 st1 hw
 exact hcl _ _ _ _ hw h2
def Ud (T:TypeId→TI) (gl:Nat→List V) (fr:AFr) (st:St):ResultVar→Option V
 | .tmp t=>some (zp fr.l t)
 | .cell a t=>match gt gl st (zp fr.l a) (T t).sz (T t).d.agg with
  |some v=>if(T t).ok=true∧(T t).d≠ .other then some v else none
  |none=>none
def xF (T:TypeId→TI) (gl:Nat→List V) (fr:AFr) (st:St):List ResultVar→Option (List V)
 | []=>some []
 | r::rs=>match Ud T gl fr st r,xF T gl fr st rs with
  |some v,some vs=>some (v::vs)
  |_,_=>none
theorem gr (P:Program) (fr:AFr) (st:St):∀l,xF (ti P) gl fr st l=xn P gl fr st l
 | []=>rfl
 | r::rs=>by
  have:Ud (ti P) gl fr st r=jM P gl fr st r:=by cases r<;>rfl
  simp only [xF,xn,this,gr P fr st rs]
  cases jM P gl fr st r<;>cases xn P gl fr st rs<;>rfl
def ZB (T:TypeId→TI) (gl:Nat→List V) (fr:AFr) (st:St) (rs:List ResultVar):V:=match xF T gl fr st rs with|some vs=>db vs|none=> .junk
theorem fg (hT:T=ti P) {s0 st:St} {fr:AFr} {fn:Func} {e:Exit} {r:V} {st':St} (R:Ren) (he:e= .normal∨e= .ret)
  (hb:((xF T gl fr st fn.results.toList).isSome&&wkB s0 R ⟨1,[(0,ZB T gl fr st fn.results.toList)]⟩ st ⟨1,[(0,r)]⟩ st')=true)
  (hl:wkL R ⟨1,[(0,r)]⟩ st'=wkR R ⟨1,[(0,ZB T gl fr st fn.results.toList)]⟩ st ⟨1,[(0,r)]⟩ st'):v7 P gl s0 fn (Out r st') e fr st:=by
 subst hT
 simp only [Bool.and_eq_true]at hb
 obtain⟨h1,h2⟩:=hb
 cases hv:xF (ti P) gl fr st fn.results.toList with
 |none=>rw [hv]at h1; cases h1
 | some vs=>
  simp only [ZB,hv]at h2 hl
  exact v7.gen vs R he (by rw [←gr]; exact hv) h2 hl
end
theorem sB {α:Type} {b:Bool} {x y z:α} (hb:b=true) (h:(if b=true then x else y)=z):x=z:=by rw [if_pos hb]at h; exact h
theorem nX {α:Type} {b:Bool} {x y z:α} (hb:b=false) (h:(if b=true then x else y)=z):y=z:=by rw [if_neg (by simp [hb])]at h; exact h
theorem Gp {α β:Type} {x:Option α} {f:α→Option β} {y:β} (h:x.bind f=some y):∃a,x=some a∧f a=some y:=Option.bind_eq_some_iff.1 h
section
variable {P:Program} {gl:Nat→List V} {s0:St} {c:Code} {cs:List Code} {AQ:Exit→AFr→St→Prop} {fr fr':AFr} {st st':St}
theorem lI {Y:Type} (F:Y→AFr) (S:Y→St) (L:Y→Prop) (h:zd P gl s0 [c] (yF (u3 s0 F S L) AQ) fr st) (hcl:Cl s0 (zd P gl s0 cs AQ)) (h2:∀y,L y→zd P gl s0 cs AQ (F y) (S y)):zd P gl s0 (c::cs) AQ fr st:=by
 refine wE.mono (AQ:=yF (u3 s0 F S L) AQ) ?_ ?_
 ·have:=h; simp only [zd,V2]at this; exact this
 ·intro e fr1 st1 he
  cases e with
  |normal=>obtain⟨y,h3,h4⟩:=he; exact hcl _ _ _ _ h4 (h2 y h3)
  |_=>exact he
def qw (s0:St) (id:Nat) {Y:Type} (F:Y→AFr) (S:Y→St) (L:Y→Prop) (AQ:Exit→AFr→St→Prop):Exit→AFr→St→Prop
 | .exit id',fr,st=>if id'=id then u3 s0 F S L fr st else AQ (.exit id') fr st
 | .normal,fr,st=>u3 s0 F S L fr st
 |e,fr,st=>AQ e fr st
theorem Po {Y:Type} {id:Nat} (F:Y→AFr) (S:Y→St) (L:Y→Prop) (h:zd P gl s0 [c] (qw s0 id F S L AQ) fr st) (hcl:Cl s0 (zd P gl s0 cs AQ)) (h2:∀y,L y→zd P gl s0 cs AQ (F y) (S y)):zd P gl s0 (.block id c::cs) AQ fr st:=by
 have h':=Kb h
 have k:wE P gl s0 c (vH id (yF (zd P gl s0 cs AQ) AQ)) fr st:=by
  refine h'.mono ?_
  intro e fr1 st1 he
  cases e with
  |normal=>obtain⟨y,h3,h4⟩:=he; exact hcl _ _ _ _ h4 (h2 y h3)
  | exit id'=>
   simp only [qw,vH,yF]at he ⊢
   split
   ·rename_i hi; rw [if_pos hi]at he; obtain⟨y,h3,h4⟩:=he; exact hcl _ _ _ _ h4 (h2 y h3)
   ·rename_i hi; rw [if_neg hi]at he; exact he
  |_=>exact he
 refine Qm ?_
 simp only [zd,jK]
 exact k
theorem cX {Y:Type} {id:Nat} {F:Y→AFr} {S:Y→St} {L:Y→Prop} (h:u3 s0 F S L fr st):qw s0 id F S L AQ (.exit id) fr st:=by
 simp only [qw,if_true]; exact h
theorem cK {id:Nat} {K:AFr→St→Prop} (h:K fr st):vH id (yF K AQ) (.exit id) fr st:=by
 simp only [vH,yF,if_true]; exact h
theorem yp {Y:Type} {F:Y→AFr} {S:Y→St} {L:Y→Prop}:Cl s0 (yF (u3 s0 F S L) AQ .normal):=fun _ _ _ _ h ⟨x,k1,k2⟩=>⟨x,k1,h.trans k2⟩
end
def xw (k:IntKind) (x y:Int):Int:=k.wrap (BitVec.ofInt k.bits x &&& BitVec.ofInt k.bits y).toNat
def ior (k:IntKind) (x y:Int):Int:=k.wrap (BitVec.ofInt k.bits x|||BitVec.ofInt k.bits y).toNat
def zC (k:IntKind) (x y:Int):Int:=k.wrap (BitVec.ofInt k.bits x ^^^ BitVec.ofInt k.bits y).toNat
end Go.Abs
end
