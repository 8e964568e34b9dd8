/- Abstract values: a part. No condition beyond each statement's own. -/
import Derived.Test.YthfhicembdpjpaaGreatDoorA23
set_option linter.all false
section
namespace Go.Abs
open Go.RowKit (Below)
def cI (k:IntKind) (n:Int):List V:= [.int k n]
def cS (s:List UInt8):List V:= [.str s]
def cB (b:Bool):List V:= [.bool b]
def cL {α:Type} (sz:Nat) (c:α→List V) (l:List α):List V:= [.sl sz (l.map c) .none]
def xD (s:List UInt8) (n:Int):Option Int:=if 0≤n then(s[n.toNat]?).map (fun b=>(b.toNat:Int))else none
theorem zZ {s:List UInt8} {n b:Int} (h:xD s n=some b):WA .str (.str s) n=some (.int .u8 b):=by
 unfold xD at h
 split at h
 ·rename_i h0
  obtain⟨u,hu,rfl⟩:=Option.map_eq_some_iff.1 h
  simp only [WA,h0,if_true,hu]
 ·cases h
def xe {α:Type} (l:List α) (n:Int):Option α:=if 0≤n then l[n.toNat]? else none
theorem zR {α:Type} {c:α→List V} {l:List α} {n:Int} {x:α} {e:TypeId} {sz b:Nat} {tok:Tok} (h:xe l n=some x):kp (.slice e sz b) (.sl sz (l.map c) tok) n=some (.eptr (c x) 0):=by
 unfold xe at h
 split at h
 ·rename_i h0
  simp only [kp,h0,and_self,if_true,List.getElem?_map,h,Option.map_some]
 ·cases h
def ssl (s:List UInt8) (lo hi:Int):Option (List UInt8):=if 0≤lo∧lo≤hi∧hi≤s.length then some ((s.take hi.toNat).drop lo.toNat)else none
theorem Q5 {α:Type} {s:List α} {lo hi:Int} {k k':IntKind} (h:0≤lo∧lo≤hi∧hi≤s.length):qM s.length (some (.int k lo)) (some (.int k' hi))=some (lo.toNat,hi.toNat):=by
 have h1:0≤hi∧hi≤(s.length:Int):=⟨O0,h.2.2⟩
 have h2:0≤lo∧lo≤((hi.toNat:Nat):Int):=⟨h.1,O0⟩
 simp only [qM,h1,and_self,if_true,h2]
theorem xm {s t:List UInt8} {lo hi:Int} {k k':IntKind} (h:ssl s lo hi=some t):bt .str (.str s) (some (.int k lo)) (some (.int k' hi)) none=some (.str t):=by
 unfold ssl at h
 split at h
 ·rename_i hc; injection h with h; subst h
  simp only [bt,Q5 hc]
 ·cases h
theorem qw {s t:List UInt8} {lo:Int} {k:IntKind} (h:ssl s lo s.length=some t):bt .str (.str s) (some (.int k lo)) none none=some (.str t):=by
 unfold ssl at h
 split at h
 ·rename_i hc; injection h with h; subst h
  have h1:0≤lo∧lo≤((s.length:Nat):Int):=⟨hc.1,hc.2.1⟩
  simp [bt,qM,h1]
 ·cases h
theorem vY {s t:List UInt8} {hi:Int} {k:IntKind} (h:ssl s 0 hi=some t):bt .str (.str s) none (some (.int k hi)) none=some (.str t):=by
 unfold ssl at h
 split at h
 ·rename_i hc; injection h with h; subst h
  have h1:0≤hi∧hi≤((s.length:Nat):Int):=⟨hc.2.1,hc.2.2⟩
  simp [bt,qM,h1]
 ·cases h
def lsl {α:Type} (l:List α) (lo hi:Int):Option (List α):=if 0≤lo∧lo≤hi∧hi≤l.length then some ((l.take hi.toNat).drop lo.toNat)else none
theorem UG {α:Type} {c:α→List V} {l t:List α} {lo hi:Int} {e:TypeId} {sz b:Nat} {tok:Tok} {a:Nat×Nat} {lo' hi':Option V} (hb:qM l.length lo' hi'=some (lo.toNat,hi.toNat)) (h:lsl l lo hi=some t):
  bt (.slice e sz b) (.sl sz (l.map c) tok) lo' hi' none=some (.sl sz (t.map c) .none):=by
 unfold lsl at h
 split at h
 ·rename_i hc; injection h with h; subst h
  simp only [bt,List.length_map,hb,if_true,List.map_drop,List.map_take]
 ·cases h
theorem Qi {α:Type} {c:α→List V} {l t:List α} {lo:Int} {k:IntKind} {e:TypeId} {sz b:Nat} {tok:Tok} (h:lsl l lo l.length=some t):
  bt (.slice e sz b) (.sl sz (l.map c) tok) (some (.int k lo)) none none=some (.sl sz (t.map c) .none):=by
 refine UG (a:=(0,0)) (hi:=l.length) ?_ h
 unfold lsl at h; split at h
 ·rename_i hc
  have h1:0≤lo∧lo≤((l.length:Nat):Int):=⟨hc.1,hc.2.1⟩
  simp [qM,h1]
 ·cases h
theorem GI {α:Type} {c:α→List V} {l t:List α} {hi:Int} {k:IntKind} {e:TypeId} {sz b:Nat} {tok:Tok} (h:lsl l 0 hi=some t):
  bt (.slice e sz b) (.sl sz (l.map c) tok) none (some (.int k hi)) none=some (.sl sz (t.map c) .none):=by
 refine UG (a:=(0,0)) (lo:=0) ?_ h
 unfold lsl at h; split at h
 ·rename_i hc
  have h1:0≤hi∧hi≤((l.length:Nat):Int):=⟨hc.2.1,hc.2.2⟩
  simp [qM,h1]
 ·cases h
theorem yg {α:Type} {c:α→List V} {l:List α} {e:TypeId} {sz sz' b:Nat} {tok:Tok}:QC (.slice e sz b) (.sl sz' (l.map c) tok)=some (.int .i64 l.length):=by simp [QC]
def pb (s t:List UInt8):Option (List UInt8):=if s.length+t.length≤9223372036854775807 then some (s++t)else none
theorem bR {s t u:List UInt8} {d:TD} (h:pb s t=some u):XW .add d (.str s) (.str t)=some (.str u):=by
 unfold pb at h
 split at h
 ·rename_i hc; injection h with h; subst h; simp only [XW,Ga,hc,if_true]
 ·cases h
def Bp (a b:Int):Option Int:=if b=0 then none else some (a.tmod b)
def Q6 (k:IntKind) (a b:Int):Option Int:=if b<0 then none else some (k.wrap (a*2^(min b.toNat k.bits)))
def GH (k:IntKind) (a b:Int):Option Int:=if b<0 then none else some (a.fdiv (2^(min b.toNat k.bits)))
theorem QL {k:IntKind} {a b c:Int} {d:TD} (h:Bp a b=some c):XW .rem d (.int k a) (.int k b)=some (.int k c):=by
 unfold Bp at h; split at h
 ·cases h
 ·rename_i hb; injection h with h; subst h; simp [XW,Gu,hb]
theorem V9 {k k':IntKind} {a b c:Int} {d:TD} (h:Q6 k a b=some c):XW .shl d (.int k a) (.int k' b)=some (.int k c):=by
 unfold Q6 at h; split at h
 ·cases h
 ·rename_i hb; injection h with h; subst h; simp [XW,hb]
theorem QG {k k':IntKind} {a b c:Int} {d:TD} (h:GH k a b=some c):XW .shr d (.int k a) (.int k' b)=some (.int k c):=by
 unfold GH at h; split at h
 ·cases h
 ·rename_i hb; injection h with h; subst h; simp [XW,hb]
def s2b (s:List UInt8):List Int:=s.map fun b=>(b.toNat:Int)
def b2s (l:List Int):List UInt8:=l.map fun n=>UInt8.ofNat n.toNat
theorem YP (s:List UInt8):qB s=(s2b s).map (cI .u8):=by simp [qB,s2b,cI]
theorem V5 (l:List Int):bB (l.map (cI .u8))=some (b2s l):=by
 induction l with
 |nil=>rfl
 |cons n r ih=>simp only [List.map_cons,cI,bB,Kc]at *; rw [ih]; rfl
def jO {α:Type} (bytes:Nat) (l l2:List α):Option (List α):=if(l.length+l2.length)*bytes≤140737488355328 then some (l++l2)else none
def gC (T:TypeId→TI) (e:TypeId) (sz bytes:Nat):Bool:=(T e).zok&&((T e).zero.cells.length==sz)&&decide (0<bytes)&&decide (0<sz)
theorem St.setFam_same (st:St) {t p:Nat} (h:st.fams[t]? =some p):st.setFam t p=st:=by
 obtain⟨vs,fs⟩:=st
 simp only [St.setFam,St.mk.injEq,true_and]at *
 have hlt:=yj h
 rw [List.getElem?_eq_getElem hlt]at h; injection h with h
 rw [←h]; exact List.set_getElem_self hlt
theorem Uz {α:Type} {T:TypeId→TI} {c:α→List V} {l l2 l':List α} {t:Nat} {st:St} {e e2:TypeId} {sz bytes b2:Nat} {tok2:Tok} (ho:gC T e sz bytes=true) (hf:st.fams[t]? =some l.length) (h:jO bytes l l2=some l'):
  vL T st (.slice e sz bytes) (.slice e2 sz b2) (.sl sz (l.map c) (.fam t l.length)) (.sl sz (l2.map c) tok2)=some (.sl sz (l'.map c) (.fam t l'.length),st.setFam t l'.length):=by
 simp only [gC,iE,beq_iff_eq,decide_eq_true_eq]at ho
 obtain⟨⟨⟨h1,h2⟩,h3⟩,h4⟩:=ho
 unfold jO at h
 split at h
 ·rename_i hb; injection h with h; subst h
  simp only [vL,h1,h2,h3,Wb,and_self,if_true,List.length_map]
  by_cases h0:l2.length=0
  ·have:l2= []:=List.eq_nil_of_length_eq_zero h0
   subst this
   simp [St.setFam_same st hf]
  ·simp [h0,h4,hb,hf]
 ·cases h
theorem Br {α:Type} {T:TypeId→TI} {c:α→List V} {l2 l':List α} {st:St} {e e2:TypeId} {sz bytes b2:Nat} {tok2:Tok} (ho:gC T e sz bytes=true) (h:jO bytes [] l2=some l'):
  vL T st (.slice e sz bytes) (.slice e2 sz b2) .nilsl (.sl sz (l2.map c) tok2)=some (.sl sz (l'.map c) (.fam st.fams.length l'.length),st.pushFam l'.length):=by
 simp only [gC,iE,beq_iff_eq,decide_eq_true_eq]at ho
 obtain⟨⟨⟨h1,h2⟩,h3⟩,h4⟩:=ho
 unfold jO at h
 split at h
 ·rename_i hb; injection h with h; subst h
  simp only [List.length_nil,Nat.zero_add]at hb
  simp only [vL,h1,h2,h3,Wb,and_self,if_true,List.length_map]
  by_cases h0:l2.length=0
  ·have:l2= []:=List.eq_nil_of_length_eq_zero h0
   subst this
   simp
  ·simp [h0,h4,hb]
 ·cases h
section
variable {P:Program} {T:TypeId→TI} {gl:Nat→List V} {ops:Array Oper} {K:AFr→St→Prop}
theorem PG (hT:T=ti P) {i:Nat} {fr:AFr} {st:St} (k t:Nat) {α:Type} (c:α→List V) {l l2 l':List α} {e e2:TypeId} {sz bytes b2:Nat} {tok2:Tok} (h1:jO bytes l l2=some l')
  (hb:(Nat.ble i k&&gC T e sz bytes)=true) (he:((bD T gl ops i k fr st).2.fams[t]?,VC T gl ops i k fr st)=(some l.length,vL T (bD T gl ops i k fr st).2 (.slice e sz bytes) (.slice e2 sz b2) (.sl sz (l.map c) (.fam t l.length)) (.sl sz (l2.map c) tok2)))
  (h:kJ P gl ops (ops.toList.drop (k+1)) ((bD T gl ops i k fr st).1.put (we ops k) (.sl sz (l'.map c) (.fam t l'.length))) ((bD T gl ops i k fr st).2.setFam t l'.length) K):kJ P gl ops (ops.toList.drop i) fr st K:=by
 simp only [iE]at hb
 injection he with he1 he2
 exact V6 hT k (Uz hb.2 he1 h1) hb.1 he2 h
theorem DB (hT:T=ti P) {i:Nat} {fr:AFr} {st:St} (k:Nat) {α:Type} (c:α→List V) {l2 l':List α} {e e2:TypeId} {sz bytes b2:Nat} {tok2:Tok} (h1:jO bytes [] l2=some l')
  (hb:(Nat.ble i k&&gC T e sz bytes)=true) (he:VC T gl ops i k fr st=vL T (bD T gl ops i k fr st).2 (.slice e sz bytes) (.slice e2 sz b2) .nilsl (.sl sz (l2.map c) tok2))
  (h:kJ P gl ops (ops.toList.drop (k+1)) ((bD T gl ops i k fr st).1.put (we ops k) (.sl sz (l'.map c) (.fam (bD T gl ops i k fr st).2.fams.length l'.length))) ((bD T gl ops i k fr st).2.pushFam l'.length) K):kJ P gl ops (ops.toList.drop i) fr st K:=by
 simp only [iE]at hb
 exact V6 hT k (Br hb.2 h1) hb.1 he h
theorem ec {s0:St} {cs:List Code} {AQ:Exit→AFr→St→Prop} {id:Nat} {ops:Array Oper} {fr:AFr} {st:St} (fr':AFr) (st':St) (hcl:Cl s0 (zE P gl s0 cs AQ)) (h:kJ P gl ops (ops.toList.drop 0) fr st (toW s0 fr' st'))
  (h2:zE P gl s0 cs AQ fr' st'):zE P gl s0 (.region id ops false::cs) AQ fr st:=by
 refine gI.of (uj.region (pB ?_ _ _ _ h))
 intro fr1 st1 hw
 exact hcl _ _ _ _ hw h2
def Qq (T:TypeId→TI) (gl:Nat→List V) (fr:AFr) (st:St):ResultVar→Option V
 | .tmp t=>some (wh fr.l t)
 | .cell a t=>match X9 gl st (wh fr.l a) (T t).sz (T t).d.agg with
  |some v=>if(T t).ok=true∧(T t).d≠ .other then some v else none
  |none=>none
def kU (T:TypeId→TI) (gl:Nat→List V) (fr:AFr) (st:St):List ResultVar→Option (List V)
 | []=>some []
 | r::rs=>match Qq T gl fr st r,kU T gl fr st rs with
  |some v,some vs=>some (v::vs)
  |_,_=>none
theorem X8 (P:Program) (fr:AFr) (st:St):∀l,kU (ti P) gl fr st l=qU P gl fr st l
 | []=>rfl
 | r::rs=>by
  have:Qq (ti P) gl fr st r=Yp P gl fr st r:=by cases r<;>rfl
  simp only [kU,qU,this,X8 P fr st rs]
  cases Yp P gl fr st r<;>cases qU P gl fr st rs<;>rfl
def VK (T:TypeId→TI) (gl:Nat→List V) (fr:AFr) (st:St) (rs:List ResultVar):V:=match kU T gl fr st rs with|some vs=>WE vs|none=> .junk
theorem D2 (hT:T=ti P) {s0 st:St} {fr:AFr} {fn:Func} {e:Exit} {r:V} {st':St} (R:Ren) (he:e= .normal∨e= .ret)
  (hb:((kU T gl fr st fn.results.toList).isSome&&wkB s0 R ⟨1,[(0,VK T gl fr st fn.results.toList)]⟩ st ⟨1,[(0,r)]⟩ st')=true)
  (hl:wkL R ⟨1,[(0,r)]⟩ st'=wkR R ⟨1,[(0,VK T gl fr st fn.results.toList)]⟩ st ⟨1,[(0,r)]⟩ st'):pR P gl s0 fn (Out r st') e fr st:=by
 subst hT
 simp only [iE]at hb
 obtain⟨h1,h2⟩:=hb
 cases hv:kU (ti P) gl fr st fn.results.toList with
 |none=>rw [hv]at h1; cases h1
 | some vs=>
  simp only [VK,hv]at h2 hl
  exact pR.gen vs R he (by rw [←X8]; exact hv) h2 hl
end
inductive Ctl (R X:Type) where
 |ret (r:R)
 |nxt (x:X)
theorem K9 {α:Type} {b:Bool} {x y z:α} (hb:b=true) (h:(if b=true then x else y)=z):x=z:=by rw [if_pos hb]at h; exact h
theorem Kw {α:Type} {b:Bool} {x y z:α} (hb:b=false) (h:(if b=true then x else y)=z):y=z:=by rw [if_neg (by simp [hb])]at h; exact h
theorem B5 {α β:Type} {x:Option α} {f:α→Option β} {y:β} (h:x.bind f=some y):∃a,x=some a∧f a=some y:=Option.bind_eq_some_iff.1 h
def yM {R X Z:Type} (o:Option (Ctl R X)) (g:R→Option Z) (f:X→Option Z):Option Z:=match o with
 |none=>none
 |some (.ret r)=>g r
 |some (.nxt x)=>f x
theorem eP {R X Z:Type} {o:Option (Ctl R X)} {g:R→Option Z} {f:X→Option Z} {z:Z} (h:yM o g f=some z):∃c,o=some c∧(∀r,c= .ret r→g r=some z)∧(∀x,c= .nxt x→f x=some z):=by
 cases o with
 |none=>cases h
 | some c=>
  refine⟨c,rfl, ?_, ?_⟩
  ·rintro r rfl; exact h
  ·rintro x rfl; exact h
section
variable {P:Program} {gl:Nat→List V} {s0:St} {c:Code} {cs:List Code} {AQ:Exit→AFr→St→Prop} {fr fr':AFr} {st st':St}
theorem B6 {Y:Type} (F:Y→AFr) (S:Y→St) (L:Y→Prop) (h:zE P gl s0 [c] (jl (dR s0 F S L) AQ) fr st) (hcl:Cl s0 (zE P gl s0 cs AQ)) (h2:∀y,L y→zE P gl s0 cs AQ (F y) (S y)):zE P gl s0 (c::cs) AQ fr st:=by
 refine gI.mono (AQ:=jl (dR s0 F S L) AQ) ?_ ?_
 ·have:=h; simp only [zE,Qh]at this; exact this
 ·intro e fr1 st1 he
  cases e with
  |normal=>obtain⟨y,h3,h4⟩:=he; exact hcl _ _ _ _ h4 (h2 y h3)
  |_=>exact he
def bi (s0:St) (id:Nat) {Y:Type} (F:Y→AFr) (S:Y→St) (L:Y→Prop) (AQ:Exit→AFr→St→Prop):Exit→AFr→St→Prop
 | .exit id',fr,st=>if id'=id then dR s0 F S L fr st else AQ (.exit id') fr st
 | .normal,fr,st=>dR s0 F S L fr st
 |e,fr,st=>AQ e fr st
theorem QA {Y:Type} {id:Nat} (F:Y→AFr) (S:Y→St) (L:Y→Prop) (h:zE P gl s0 [c] (bi s0 id F S L AQ) fr st) (hcl:Cl s0 (zE P gl s0 cs AQ)) (h2:∀y,L y→zE P gl s0 cs AQ (F y) (S y)):zE P gl s0 (.block id c::cs) AQ fr st:=by
 have h':=K5 h
 have k:gI P gl s0 c (bV id (jl (zE P gl s0 cs AQ) AQ)) fr st:=by
  refine h'.mono ?_
  intro e fr1 st1 he
  cases e with
  |normal=>obtain⟨y,h3,h4⟩:=he; exact hcl _ _ _ _ h4 (h2 y h3)
  | exit id'=>
   simp only [bi,bV,jl]at he ⊢
   split
   ·rename_i hi; rw [if_pos hi]at he; obtain⟨y,h3,h4⟩:=he; exact hcl _ _ _ _ h4 (h2 y h3)
   ·rename_i hi; rw [if_neg hi]at he; exact he
  |_=>exact he
 refine KI ?_
 simp only [zE,XJ]
 exact k
theorem DN {Y:Type} {id:Nat} {F:Y→AFr} {S:Y→St} {L:Y→Prop} (h:dR s0 F S L fr st):bi s0 id F S L AQ (.exit id) fr st:=by
 simp only [bi,if_true]; exact h
theorem DD {id:Nat} {K:AFr→St→Prop} (h:K fr st):bV id (jl K AQ) (.exit id) fr st:=by
 simp only [bV,jl,if_true]; exact h
theorem GX {id id':Nat} {K:AFr→St→Prop} (hne:Nat.beq id' id=false) (h:AQ (.exit id') fr st):bV id (jl K AQ) (.exit id') fr st:=by
 simp only [bV,jl]; rw [if_neg (Nat.ne_of_beq_eq_false hne)]; exact h
theorem ya {Y:Type} {id:Nat} {F:Y→AFr} {S:Y→St} {L:Y→Prop}:Cl s0 (bi s0 id F S L AQ .normal):=fun _ _ _ _ h ⟨x,k1,k2⟩=>⟨x,k1,h.trans k2⟩
theorem zI {Y:Type} {F:Y→AFr} {S:Y→St} {L:Y→Prop}:Cl s0 (jl (dR s0 F S L) AQ .normal):=fun _ _ _ _ h ⟨x,k1,k2⟩=>⟨x,k1,h.trans k2⟩
end
def va (k:IntKind) (x y:Int):Int:=k.wrap (BitVec.ofInt k.bits x &&& BitVec.ofInt k.bits y).toNat
def ior (k:IntKind) (x y:Int):Int:=k.wrap (BitVec.ofInt k.bits x|||BitVec.ofInt k.bits y).toNat
def mf (k:IntKind) (x y:Int):Int:=k.wrap (BitVec.ofInt k.bits x ^^^ BitVec.ofInt k.bits y).toNat
def cM (k:IntKind) (x y:Int):Int:=k.wrap (BitVec.ofInt k.bits x &&& ~~~ BitVec.ofInt k.bits y).toNat
end Go.Abs
end
