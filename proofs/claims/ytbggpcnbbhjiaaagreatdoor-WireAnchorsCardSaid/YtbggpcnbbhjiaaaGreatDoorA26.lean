/- Layer: an abstract reading of values and worlds, and that the model's operations, regions, loops and calls keep to it. No condition beyond each statement's own. -/
import Derived.Test.YtbggpcnbbhjiaaaGreatDoorA25
set_option linter.unusedVariables false
set_option linter.unusedSimpArgs false
set_option linter.unnecessarySimpa false
section
namespace Go.Abs
open Go.RowKit (Below)
def cI (k:IntKind) (n:Int):List V:= [.int k n]
def cS (s:List UInt8):List V:= [.str s]
def cL {α:Type} (sz:Nat) (c:α→List V) (l:List α):List V:= [.sl sz (l.map c) .none]
def xD (s:List UInt8) (n:Int):Option Int:=if 0≤n then(s[n.toNat]?).map (fun b=>(b.toNat:Int))else none
theorem z7 {s:List UInt8} {n b:Int} (h:xD s n=some b):X6 .str (.str s) n=some (.int .u8 b):=by
 unfold xD at h
 split at h
 ·rename_i h0
  obtain⟨u,hu,rfl⟩:=Option.map_eq_some_iff.1 h
  simp only [X6,h0,if_true,hu]
 ·cases h
def zX {α:Type} (l:List α) (n:Int):Option α:=if 0≤n then l[n.toNat]? else none
theorem zz {α:Type} {c:α→List V} {l:List α} {n:Int} {x:α} {e:TypeId} {sz b:Nat} {tok:Tok} (h:zX l n=some x):uu (.slice e sz b) (.sl sz (l.map c) tok) n=some (.eptr (c x) 0):=by
 unfold zX at h
 split at h
 ·rename_i h0
  simp only [uu,h0,and_self,if_true,List.getElem?_map,h,Option.map_some]
 ·cases h
def ssl (s:List UInt8) (lo hi:Int):Option (List UInt8):=if 0≤lo∧lo≤hi∧hi≤s.length then some ((s.take hi.toNat).drop lo.toNat)else none
theorem Bb {α:Type} {s:List α} {lo hi:Int} {k k':IntKind} (h:0≤lo∧lo≤hi∧hi≤s.length):jP s.length (some (.int k lo)) (some (.int k' hi))=some (lo.toNat,hi.toNat):=by
 have h1:0≤hi∧hi≤(s.length:Int):=⟨by omega,h.2.2⟩
 have h2:0≤lo∧lo≤((hi.toNat:Nat):Int):=⟨h.1,by omega⟩
 simp only [jP,h1,and_self,if_true,h2]
theorem vO {s t:List UInt8} {lo hi:Int} {k k':IntKind} (h:ssl s lo hi=some t):qO .str (.str s) (some (.int k lo)) (some (.int k' hi)) none=some (.str t):=by
 unfold ssl at h
 split at h
 ·rename_i hc; injection h with h; subst h
  simp only [qO,Bb hc]
 ·cases h
theorem wM {s t:List UInt8} {lo:Int} {k:IntKind} (h:ssl s lo s.length=some t):qO .str (.str s) (some (.int k lo)) none none=some (.str t):=by
 unfold ssl at h
 split at h
 ·rename_i hc; injection h with h; subst h
  have h1:0≤lo∧lo≤((s.length:Nat):Int):=⟨hc.1,hc.2.1⟩
  simp [qO,jP,h1]
 ·cases h
theorem ve {s t:List UInt8} {hi:Int} {k:IntKind} (h:ssl s 0 hi=some t):qO .str (.str s) none (some (.int k hi)) none=some (.str t):=by
 unfold ssl at h
 split at h
 ·rename_i hc; injection h with h; subst h
  have h1:0≤hi∧hi≤((s.length:Nat):Int):=⟨hc.2.1,hc.2.2⟩
  simp [qO,jP,h1]
 ·cases h
def lsl {α:Type} (l:List α) (lo hi:Int):Option (List α):=if 0≤lo∧lo≤hi∧hi≤l.length then some ((l.take hi.toNat).drop lo.toNat)else none
theorem UL {α:Type} {c:α→List V} {l t:List α} {lo hi:Int} {e:TypeId} {sz b:Nat} {tok:Tok} {a:Nat×Nat} {lo' hi':Option V} (hb:jP l.length lo' hi'=some (lo.toNat,hi.toNat)) (h:lsl l lo hi=some t):
  qO (.slice e sz b) (.sl sz (l.map c) tok) lo' hi' none=some (.sl sz (t.map c) .none):=by
 unfold lsl at h
 split at h
 ·rename_i hc; injection h with h; subst h
  simp only [qO,List.length_map,hb,if_true,List.map_drop,List.map_take]
 ·cases h
theorem ub {α:Type} {c:α→List V} {l t:List α} {lo:Int} {k:IntKind} {e:TypeId} {sz b:Nat} {tok:Tok} (h:lsl l lo l.length=some t):
  qO (.slice e sz b) (.sl sz (l.map c) tok) (some (.int k lo)) none none=some (.sl sz (t.map c) .none):=by
 refine UL (a:=(0,0)) (hi:=l.length) ?_ h
 unfold lsl at h; split at h
 ·rename_i hc
  have h1:0≤lo∧lo≤((l.length:Nat):Int):=⟨hc.1,hc.2.1⟩
  simp [jP,h1]
 ·cases h
theorem gE {α:Type} {c:α→List V} {l t:List α} {hi:Int} {k:IntKind} {e:TypeId} {sz b:Nat} {tok:Tok} (h:lsl l 0 hi=some t):
  qO (.slice e sz b) (.sl sz (l.map c) tok) none (some (.int k hi)) none=some (.sl sz (t.map c) .none):=by
 refine UL (a:=(0,0)) (lo:=0) ?_ h
 unfold lsl at h; split at h
 ·rename_i hc
  have h1:0≤hi∧hi≤((l.length:Nat):Int):=⟨hc.2.1,hc.2.2⟩
  simp [jP,h1]
 ·cases h
theorem zU {α:Type} {c:α→List V} {l:List α} {e:TypeId} {sz sz' b:Nat} {tok:Tok}:KO (.slice e sz b) (.sl sz' (l.map c) tok)=some (.int .i64 l.length):=by simp [KO]
def jt (s t:List UInt8):Option (List UInt8):=if s.length+t.length≤9223372036854775807 then some (s++t)else none
theorem wE {s t u:List UInt8} {d:TD} (h:jt s t=some u):YL .add d (.str s) (.str t)=some (.str u):=by
 unfold jt at h
 split at h
 ·rename_i hc; injection h with h; subst h; simp only [YL,G7,hc,if_true]
 ·cases h
def JR (a b:Int):Option Int:=if b=0 then none else some (a.tmod b)
def Ue (k:IntKind) (a b:Int):Option Int:=if b<0 then none else some (k.wrap (a*2^(min b.toNat k.bits)))
def Uc (k:IntKind) (a b:Int):Option Int:=if b<0 then none else some (a.fdiv (2^(min b.toNat k.bits)))
theorem K7 {k:IntKind} {a b c:Int} {d:TD} (h:JR a b=some c):YL .rem d (.int k a) (.int k b)=some (.int k c):=by
 unfold JR at h; split at h
 ·cases h
 ·rename_i hb; injection h with h; subst h; simp [YL,Do,hb]
theorem KI {k k':IntKind} {a b c:Int} {d:TD} (h:Ue k a b=some c):YL .shl d (.int k a) (.int k' b)=some (.int k c):=by
 unfold Ue at h; split at h
 ·cases h
 ·rename_i hb; injection h with h; subst h; simp [YL,hb]
theorem XY {k k':IntKind} {a b c:Int} {d:TD} (h:Uc k a b=some c):YL .shr d (.int k a) (.int k' b)=some (.int k c):=by
 unfold Uc at h; split at h
 ·cases h
 ·rename_i hb; injection h with h; subst h; simp [YL,hb]
def s2b (s:List UInt8):List Int:=s.map fun b=>(b.toNat:Int)
def b2s (l:List Int):List UInt8:=l.map fun n=>UInt8.ofNat n.toNat
theorem QQ (s:List UInt8):jy s=(s2b s).map (cI .u8):=by simp [jy,s2b,cI]
theorem VM (l:List Int):kc (l.map (cI .u8))=some (b2s l):=by
 induction l with
 |nil=>rfl
 |cons n r ih=>simp only [List.map_cons,cI,kc,KQ]at *; rw [ih]; rfl
def q7 {α:Type} (bytes:Nat) (l l2:List α):Option (List α):=if(l.length+l2.length)*bytes≤140737488355328 then some (l++l2)else none
def gy (T:TypeId→TI) (e:TypeId) (sz bytes:Nat):Bool:=(T e).zok&&((T e).zero.cells.length==sz)&&decide (0<bytes)&&decide (0<sz)
theorem St.setFam_same (st:St) {t p:Nat} (h:st.fams[t]? =some p):st.setFam t p=st:=by
 obtain⟨vs,fs⟩:=st
 simp only [St.setFam,St.mk.injEq,true_and]at *
 have hlt:=zE h
 rw [List.getElem?_eq_getElem hlt]at h; injection h with h
 rw [←h]; exact List.set_getElem_self hlt
theorem UX {α:Type} {T:TypeId→TI} {c:α→List V} {l l2 l':List α} {t:Nat} {st:St} {e e2:TypeId} {sz bytes b2:Nat} {tok2:Tok} (ho:gy T e sz bytes=true) (hf:st.fams[t]? =some l.length) (h:q7 bytes l l2=some l'):
  uP T st (.slice e sz bytes) (.slice e2 sz b2) (.sl sz (l.map c) (.fam t l.length)) (.sl sz (l2.map c) tok2)=some (.sl sz (l'.map c) (.fam t l'.length),st.setFam t l'.length):=by
 simp only [gy,Bool.and_eq_true,beq_iff_eq,decide_eq_true_eq]at ho
 obtain⟨⟨⟨h1,h2⟩,h3⟩,h4⟩:=ho
 unfold q7 at h
 split at h
 ·rename_i hb; injection h with h; subst h
  simp only [uP,h1,h2,h3,XS,and_self,if_true,List.length_map]
  by_cases h0:l2.length=0
  ·have:l2= []:=List.eq_nil_of_length_eq_zero h0
   subst this
   simp [St.setFam_same st hf]
  ·simp [h0,h4,hb,hf]
 ·cases h
section
variable {P:Program} {T:TypeId→TI} {gl:Nat→List V} {ops:Array Oper} {K:AFr→St→Prop}
theorem cY (hT:T=ti P) {i:Nat} {fr:AFr} {st:St} (k t:Nat) {α:Type} (c:α→List V) {l l2 l':List α} {e e2:TypeId} {sz bytes b2:Nat} {tok2:Tok} (h1:q7 bytes l l2=some l')
  (hb:(Nat.ble i k&&gy T e sz bytes)=true) (he:((bD T gl ops i k fr st).2.fams[t]?,UO T gl ops i k fr st)=(some l.length,uP T (bD T gl ops i k fr st).2 (.slice e sz bytes) (.slice e2 sz b2) (.sl sz (l.map c) (.fam t l.length)) (.sl sz (l2.map c) tok2)))
  (h:qH P gl ops (ops.toList.drop (k+1)) ((bD T gl ops i k fr st).1.put (xt ops k) (.sl sz (l'.map c) (.fam t l'.length))) ((bD T gl ops i k fr st).2.setFam t l'.length) K):qH P gl ops (ops.toList.drop i) fr st K:=by
 simp only [Bool.and_eq_true]at hb
 injection he with he1 he2
 exact K4 hT k (UX hb.2 he1 h1) hb.1 he2 h
theorem lP {s0:St} {cs:List Code} {AQ:Exit→AFr→St→Prop} {id:Nat} {ops:Array Oper} {fr:AFr} {st:St} (fr':AFr) (st':St) (hcl:Cl s0 (zB P gl s0 cs AQ)) (h:qH P gl ops (ops.toList.drop 0) fr st (toW s0 fr' st'))
  (h2:zB P gl s0 cs AQ fr' st'):zB P gl s0 (.region id ops false::cs) AQ fr st:=by
 refine bJ.of (un.region (dl ?_ _ _ _ h))
 intro fr1 st1 hw
 exact hcl _ _ _ _ hw h2
def QL (T:TypeId→TI) (gl:Nat→List V) (fr:AFr) (st:St):ResultVar→Option V
 | .tmp t=>some (xy fr.l t)
 | .cell a t=>match Xy gl st (xy fr.l a) (T t).sz (T t).d.agg with
  |some v=>if(T t).ok=true∧(T t).d≠ .other then some v else none
  |none=>none
def bg (T:TypeId→TI) (gl:Nat→List V) (fr:AFr) (st:St):List ResultVar→Option (List V)
 | []=>some []
 | r::rs=>match QL T gl fr st r,bg T gl fr st rs with
  |some v,some vs=>some (v::vs)
  |_,_=>none
theorem Xj (P:Program) (fr:AFr) (st:St):∀l,bg (ti P) gl fr st l=jY P gl fr st l
 | []=>rfl
 | r::rs=>by
  have:QL (ti P) gl fr st r=Zq P gl fr st r:=by cases r<;>rfl
  simp only [bg,jY,this,Xj P fr st rs]
  cases Zq P gl fr st r<;>cases jY P gl fr st rs<;>rfl
def KS (T:TypeId→TI) (gl:Nat→List V) (fr:AFr) (st:St) (rs:List ResultVar):V:=match bg T gl fr st rs with|some vs=>XW vs|none=> .junk
theorem P2 (hT:T=ti P) {s0 st:St} {fr:AFr} {fn:Func} {e:Exit} {r:V} {st':St} (R:Ren) (he:e= .normal∨e= .ret)
  (hb:((bg T gl fr st fn.results.toList).isSome&&wkB s0 R ⟨1,[(0,KS T gl fr st fn.results.toList)]⟩ st ⟨1,[(0,r)]⟩ st')=true)
  (hl:wkL R ⟨1,[(0,r)]⟩ st'=wkR R ⟨1,[(0,KS T gl fr st fn.results.toList)]⟩ st ⟨1,[(0,r)]⟩ st'):ZA P gl s0 fn (Out r st') e fr st:=by
 subst hT
 simp only [Bool.and_eq_true]at hb
 obtain⟨h1,h2⟩:=hb
 cases hv:bg (ti P) gl fr st fn.results.toList with
 |none=>rw [hv]at h1; cases h1
 | some vs=>
  simp only [KS,hv]at h2 hl
  exact ZA.gen vs R he (by rw [←Xj]; exact hv) h2 hl
end
inductive Ctl (R X:Type) where
 |ret (r:R)
 |nxt (x:X)
theorem BM {α:Type} {b:Bool} {x y z:α} (hb:b=true) (h:(if b=true then x else y)=z):x=z:=by rw [if_pos hb]at h; exact h
theorem BF {α:Type} {b:Bool} {x y z:α} (hb:b=false) (h:(if b=true then x else y)=z):y=z:=by rw [if_neg (by simp [hb])]at h; exact h
theorem Qq {α β:Type} {x:Option α} {f:α→Option β} {y:β} (h:x.bind f=some y):∃a,x=some a∧f a=some y:=Option.bind_eq_some_iff.1 h
def ym {R X Z:Type} (o:Option (Ctl R X)) (g:R→Option Z) (f:X→Option Z):Option Z:=match o with
 |none=>none
 |some (.ret r)=>g r
 |some (.nxt x)=>f x
theorem eZ {R X Z:Type} {o:Option (Ctl R X)} {g:R→Option Z} {f:X→Option Z} {z:Z} (h:ym o g f=some z):∃c,o=some c∧(∀r,c= .ret r→g r=some z)∧(∀x,c= .nxt x→f x=some z):=by
 cases o with
 |none=>cases h
 | some c=>
  refine⟨c,rfl,?_,?_⟩
  ·rintro r rfl; exact h
  ·rintro x rfl; exact h
section
variable {P:Program} {gl:Nat→List V} {s0:St} {c:Code} {cs:List Code} {AQ:Exit→AFr→St→Prop} {fr fr':AFr} {st st':St}
theorem G5 {Y:Type} (F:Y→AFr) (S:Y→St) (L:Y→Prop) (h:zB P gl s0 [c] (uf (ZY s0 F S L) AQ) fr st) (hcl:Cl s0 (zB P gl s0 cs AQ)) (h2:∀y,L y→zB P gl s0 cs AQ (F y) (S y)):zB P gl s0 (c::cs) AQ fr st:=by
 refine bJ.mono (AQ:=uf (ZY s0 F S L) AQ) ?_ ?_
 ·have:=h; simp only [zB,Q3]at this; exact this
 ·intro e fr1 st1 he
  cases e with
  |normal=>obtain⟨y,h3,h4⟩:=he; exact hcl _ _ _ _ h4 (h2 y h3)
  |_=>exact he
def gN (s0:St) (id:Nat) {Y:Type} (F:Y→AFr) (S:Y→St) (L:Y→Prop) (AQ:Exit→AFr→St→Prop):Exit→AFr→St→Prop
 | .exit id',fr,st=>if id'=id then ZY s0 F S L fr st else AQ (.exit id') fr st
 | .normal,fr,st=>ZY s0 F S L fr st
 |e,fr,st=>AQ e fr st
theorem Ka {Y:Type} {id:Nat} (F:Y→AFr) (S:Y→St) (L:Y→Prop) (h:zB P gl s0 [c] (gN s0 id F S L AQ) fr st) (hcl:Cl s0 (zB P gl s0 cs AQ)) (h2:∀y,L y→zB P gl s0 cs AQ (F y) (S y)):zB P gl s0 (.block id c::cs) AQ fr st:=by
 have h':=Ju h
 have k:bJ P gl s0 c (bV id (uf (zB P gl s0 cs AQ) AQ)) fr st:=by
  refine h'.mono ?_
  intro e fr1 st1 he
  cases e with
  |normal=>obtain⟨y,h3,h4⟩:=he; exact hcl _ _ _ _ h4 (h2 y h3)
  | exit id'=>
   simp only [gN,bV,uf]at he ⊢
   split
   ·rename_i hi; rw [if_pos hi]at he; obtain⟨y,h3,h4⟩:=he; exact hcl _ _ _ _ h4 (h2 y h3)
   ·rename_i hi; rw [if_neg hi]at he; exact he
  |_=>exact he
 refine zx ?_
 simp only [zB,Zk]
 exact k
theorem zv {Y:Type} {id:Nat} {F:Y→AFr} {S:Y→St} {L:Y→Prop} (h:ZY s0 F S L fr st):gN s0 id F S L AQ (.exit id) fr st:=by
 simp only [gN,if_true]; exact h
theorem BS {id:Nat} {K:AFr→St→Prop} (h:K fr st):bV id (uf K AQ) (.exit id) fr st:=by
 simp only [bV,uf,if_true]; exact h
theorem zy {id:Nat} {K:AFr→St→Prop} (h:K fr st):bV id (uf K AQ) .normal fr st:=h
theorem pN {id id':Nat} {K:AFr→St→Prop} (hne:Nat.beq id' id=false) (h:AQ (.exit id') fr st):bV id (uf K AQ) (.exit id') fr st:=by
 simp only [bV,uf]; rw [if_neg (Nat.ne_of_beq_eq_false hne)]; exact h
theorem wc {Y:Type} {id:Nat} {F:Y→AFr} {S:Y→St} {L:Y→Prop}:Cl s0 (gN s0 id F S L AQ .normal):=fun _ _ _ _ h ⟨x,k1,k2⟩=>⟨x,k1,h.trans k2⟩
theorem zp {Y:Type} {F:Y→AFr} {S:Y→St} {L:Y→Prop}:Cl s0 (uf (ZY s0 F S L) AQ .normal):=fun _ _ _ _ h ⟨x,k1,k2⟩=>⟨x,k1,h.trans k2⟩
end
def xJ (k:IntKind) (x y:Int):Int:=k.wrap (BitVec.ofInt k.bits x &&& BitVec.ofInt k.bits y).toNat
def ior (k:IntKind) (x y:Int):Int:=k.wrap (BitVec.ofInt k.bits x|||BitVec.ofInt k.bits y).toNat
def vP (k:IntKind) (x y:Int):Int:=k.wrap (BitVec.ofInt k.bits x ^^^ BitVec.ofInt k.bits y).toNat
def Vu (k:IntKind) (x y:Int):Int:=k.wrap (BitVec.ofInt k.bits x &&& ~~~ BitVec.ofInt k.bits y).toNat
end Go.Abs
end
