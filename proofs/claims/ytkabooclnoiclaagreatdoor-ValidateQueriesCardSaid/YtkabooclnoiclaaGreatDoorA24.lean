/- Abstract values. No condition. -/
import Derived.Test.YtkabooclnoiclaaGreatDoorA23
set_option linter.all false
section
namespace Go.Abs
open Go.RowKit (Below)
def cI (k:IntKind) (n:Int):List V:= [.int k n]
def cS (s:List UInt8):List V:= [.str s]
def cL {α:Type} (sz:Nat) (c:α->List V) (l:List α):List V:= [.sl sz (l.map c) .none]
def xE (s:List UInt8) (n:Int):Option Int:=if 0<=n then(s[n.toNat]?).map (fun b=>(b.toNat:Int))else none
def yo {s:List UInt8} {n b:Int} (h:xE s n=some b):XN .str (.str s) n=some (.int .u8 b):=by
 unfold xE at h;split at h
 ·rename_i a;obtain⟨u,e,rfl⟩:=iR.1 h;simp only [XN,a,if_true,e]
 ·cases h
def yj {α:Type} (l:List α) (n:Int):Option α:=if 0<=n then l[n.toNat]? else none
def zI {α:Type} {c:α->List V} {l:List α} {n:Int} {x:α} {e:TypeId} {sz b:Nat} {tok:Tok} (h:yj l n=some x):vN (.slice e sz b) (.sl sz (l.map c) tok) n=some (.eptr (c x) 0):=by
 unfold yj at h;split at h
 ·rename_i a;simp only [vN,a,and_self,if_true,iV,h,Option.map_some]
 ·cases h
def ssl (s:List UInt8) (lo hi:Int):Option (List UInt8):=if 0<=lo∧lo<=hi∧hi<=s.length then some ((s.take hi.toNat).drop lo.toNat)else none
def DI {α:Type} {s:List α} {lo hi:Int} {k k':IntKind} (h:0<=lo∧lo<=hi∧hi<=s.length):uf s.length (some (.int k lo)) (some (.int k' hi))=some (lo.toNat,hi.toNat):=by
 have a:0<=hi∧hi<=(s.length:Int):=⟨O0,h.2.2⟩
 have b:0<=lo∧lo<=((hi.toNat:Nat):Int):=⟨h.1,O0⟩
 simp only [uf,a,and_self,if_true,b]
def rf {s t:List UInt8} {lo hi:Int} {k k':IntKind} (h:ssl s lo hi=some t):jk .str (.str s) (some (.int k lo)) (some (.int k' hi)) none=some (.str t):=by
 unfold ssl at h;split at h
 ·rename_i a; cases h;simp only [jk,DI a]
 ·cases h
def jz {s t:List UInt8} {lo:Int} {k:IntKind} (h:ssl s lo s.length=some t):jk .str (.str s) (some (.int k lo)) none none=some (.str t):=by
 unfold ssl at h;split at h
 ·rename_i a; cases h;have b:0<=lo∧lo<=((s.length:Nat):Int):=⟨a.1,a.2.1⟩
  simp [jk,uf,b]
 ·cases h
def jE {s t:List UInt8} {hi:Int} {k:IntKind} (h:ssl s 0 hi=some t):jk .str (.str s) none (some (.int k hi)) none=some (.str t):=by
 unfold ssl at h;split at h
 ·rename_i a; cases h;have b:0<=hi∧hi<=((s.length:Nat):Int):=⟨a.2.1,a.2.2⟩
  simp [jk,uf,b]
 ·cases h
def lsl {α:Type} (l:List α) (lo hi:Int):Option (List α):=if 0<=lo∧lo<=hi∧hi<=l.length then some ((l.take hi.toNat).drop lo.toNat)else none
def Js {α:Type} {c:α->List V} {l t:List α} {lo hi:Int} {e:TypeId} {sz b:Nat} {tok:Tok} {a:Nat×Nat} {lo' f:Option V} (g:uf l.length lo' f=some (lo.toNat,hi.toNat)) (h:lsl l lo hi=some t):
  jk (.slice e sz b) (.sl sz (l.map c) tok) lo' f none=some (.sl sz (t.map c) .none):=by
 unfold lsl at h;split at h
 ·rename_i i; cases h;simp only [jk,List.length_map,g,if_true,List.map_drop,List.map_take]
 ·cases h
def ji {α:Type} {c:α->List V} {l t:List α} {lo:Int} {k:IntKind} {e:TypeId} {sz b:Nat} {tok:Tok} (h:lsl l lo l.length=some t):
  jk (.slice e sz b) (.sl sz (l.map c) tok) (some (.int k lo)) none none=some (.sl sz (t.map c) .none):=by
 refine Js (a:=(0,0)) (hi:=l.length) ?_ h;unfold lsl at h; split at h
 ·rename_i f;have g:0<=lo∧lo<=((l.length:Nat):Int):=⟨f.1,f.2.1⟩
  simp [uf,g]
 ·cases h
def vw {α:Type} {c:α->List V} {l t:List α} {hi:Int} {k:IntKind} {e:TypeId} {sz b:Nat} {tok:Tok} (h:lsl l 0 hi=some t):
  jk (.slice e sz b) (.sl sz (l.map c) tok) none (some (.int k hi)) none=some (.sl sz (t.map c) .none):=by
 refine Js (a:=(0,0)) (lo:=0) ?_ h;unfold lsl at h; split at h
 ·rename_i f;have g:0<=hi∧hi<=((l.length:Nat):Int):=⟨f.2.1,f.2.2⟩
  simp [uf,g]
 ·cases h
def yx {α:Type} {c:α->List V} {l:List α} {e:TypeId} {sz sz' b:Nat} {tok:Tok}:GQ (.slice e sz b) (.sl sz' (l.map c) tok)=some (.int .i64 l.length):=by simp [GQ]
def YK (s t:List UInt8):Option (List UInt8):=if s.length+t.length<=9223372036854775807 then some (s++t)else none
def XJ {s t u:List UInt8} {d:TD} (h:YK s t=some u):YN .add d (.str s) (.str t)=some (.str u):=by
 unfold YK at h;split at h
 ·rename_i a; cases h; simp only [YN,fq,a,if_true]
 ·cases h
def ny (a b:Int):Option Int:=if b=0 then none else some (a.tmod b)
def nP (k:IntKind) (a b:Int):Option Int:=if b<0 then none else some (k.wrap (a*2^(min b.toNat k.bits)))
def Uu (k:IntKind) (a b:Int):Option Int:=if b<0 then none else some (a.fdiv (2^(min b.toNat k.bits)))
def mg {k:IntKind} {a b c:Int} {d:TD} (h:ny a b=some c):YN .rem d (.int k a) (.int k b)=some (.int k c):=by
 unfold ny at h; split at h
 ·cases h
 ·rename_i e; cases h; simp [YN,QP,e]
def zbQ {k k':IntKind} {a b c:Int} {d:TD} (h:nP k a b=some c):YN .shl d (.int k a) (.int k' b)=some (.int k c):=by
 unfold nP at h; split at h
 ·cases h
 ·rename_i e; cases h; simp [YN,e]
def Db {k k':IntKind} {a b c:Int} {d:TD} (h:Uu k a b=some c):YN .shr d (.int k a) (.int k' b)=some (.int k c):=by
 unfold Uu at h; split at h
 ·cases h
 ·rename_i e; cases h; simp [YN,e]
def s2b (s:List UInt8):List Int:=s.map fun b=>(b.toNat:Int)
def b2s (l:List Int):List UInt8:=l.map fun n=>UInt8.ofNat n.toNat
def Ww (s:List UInt8):vT s=(s2b s).map (cI .u8):=by simp [vT,s2b,cI]
def Us (l:List Int):jp (l.map (cI .u8))=some (b2s l):=by
 induction l with
 |nil=>rfl
 |cons n r a=>simp only [List.map_cons,cI,jp,DU]at *; rw [a]; rfl
def vF {α:Type} (bytes:Nat) (l l2:List α):Option (List α):=if(l.length+l2.length)*bytes<=140737488355328 then some (l++l2)else none
def kM (T:TypeId->TI) (e:TypeId) (sz bytes:Nat):Bool:=(T e).zok&&((T e).zero.cells.length==sz)&&decide (0<bytes)&&decide (0<sz)
def St.setFam_same (st:St) {t p:Nat} (h:st.fams[t]? =some p):st.setFam t p=st:=by
 obtain⟨e,b⟩:=st;simp only [St.setFam,St.mk.injEq,true_and]at *;have a:=zB h;rw [iK a]at h; injection h with h;rw [<-h]; exact List.set_getElem_self a
def Je {α:Type} {T:TypeId->TI} {c:α->List V} {l l2 a:List α} {t:Nat} {st:St} {e e2:TypeId} {sz bytes b2:Nat} {tok2:Tok} (g:kM T e sz bytes=true) (f:st.fams[t]? =some l.length) (h:vF bytes l l2=some a):
  vq T st (.slice e sz bytes) (.slice e2 sz b2) (.sl sz (l.map c) (.fam t l.length)) (.sl sz (l2.map c) tok2)=some (.sl sz (a.map c) (.fam t a.length),st.setFam t a.length):=by
 simp only [kM,iF,beq_iff_eq,iJ]at g;obtain⟨⟨⟨i,j⟩,k⟩,m⟩:=g;unfold vF at h;split at h
 ·rename_i n; cases h;simp only [vq,i,j,k,W0,and_self,if_true,List.length_map]
  by_cases b:l2.length=0
  ·have:l2= []:=List.eq_nil_of_length_eq_zero b;subst this;simp [St.setFam_same st f]
  ·simp [b,m,n,f]
 ·cases h
section
variable {P:Program} {T:TypeId->TI} {gl:Nat->List V} {ops:Array Oper} {K:AFr->St->Prop}
def zbN (m:T=ti P) {i:Nat} {fr:AFr} {st:St} (k t:Nat) {α:Type} (c:α->List V) {l l2 a:List α} {e e2:TypeId} {sz bytes b2:Nat} {tok2:Tok} (j:vF bytes l l2=some a)
  (b:(Nat.ble i k&&kM T e sz bytes)=true) (n:((qr T gl ops i k fr st).2.fams[t]?,Jl T gl ops i k fr st)=(some l.length,vq T (qr T gl ops i k fr st).2 (.slice e sz bytes) (.slice e2 sz b2) (.sl sz (l.map c) (.fam t l.length)) (.sl sz (l2.map c) tok2)))
  (h:u9 P gl ops (ops.toList.drop (k+1)) ((qr T gl ops i k fr st).1.put (yw ops k) (.sl sz (a.map c) (.fam t a.length))) ((qr T gl ops i k fr st).2.setFam t a.length) K):u9 P gl ops (ops.toList.drop i) fr st K:=by
 simp only [iF]at b;injection n with f g;exact D0 m k (Je b.2 f j) b.1 g h
def zcJ {s0:St} {cs:List Code} {AQ:Exit->AFr->St->Prop} {id:Nat} {ops:Array Oper} {fr:AFr} {st:St} (fr':AFr) (st':St) (a:Cl s0 (zh P gl s0 cs AQ)) (h:u9 P gl ops (ops.toList.drop 0) fr st (toW s0 fr' st'))
  (e:zh P gl s0 cs AQ fr' st'):zh P gl s0 (.region id ops false::cs) AQ fr st:=by
 refine jR.of (WH.region (be ?_ _ _ _ h));intro b g f;exact a _ _ _ _ f e
def Gw (T:TypeId->TI) (gl:Nat->List V) (fr:AFr) (st:St):ResultVar->Option V
 | .tmp t=>some (yG fr.l t)
 | .cell a t=>match Xc gl st (yG fr.l a) (T t).sz (T t).d.agg with
  |some v=>if(T t).ok=true∧(T t).d≠ .other then some v else none
  |none=>none
def uY (T:TypeId->TI) (gl:Nat->List V) (fr:AFr) (st:St):List ResultVar->Option (List V)
 | []=>some []
 | r::a=>match Gw T gl fr st r,uY T gl fr st a with
  |some v,some b=>some (v::b)
  |_,_=>none
def Xa (P:Program) (fr:AFr) (st:St):∀l,uY (ti P) gl fr st l=jf P gl fr st l
 | []=>rfl
 | r::a=>by
  have:Gw (ti P) gl fr st r=pe P gl fr st r:=by cases r<;>rfl
  simp only [uY,jf,this,Xa P fr st a];cases pe P gl fr st r<;>cases jf P gl fr st a<;>rfl
def VZ (T:TypeId->TI) (gl:Nat->List V) (fr:AFr) (st:St) (a:List ResultVar):V:=match uY T gl fr st a with|some b=>Qw b|none=> .junk
def zad (i:T=ti P) {s0 st:St} {fr:AFr} {fn:Func} {e:Exit} {r:V} {st':St} (R:Ren) (j:e= .normal∨e= .ret)
  (g:((uY T gl fr st fn.results.toList).isSome&&wkB s0 R ⟨1,[(0,VZ T gl fr st fn.results.toList)]⟩ st ⟨1,[(0,r)]⟩ st')=true)
  (h:wkL R ⟨1,[(0,r)]⟩ st'=wkR R ⟨1,[(0,VZ T gl fr st fn.results.toList)]⟩ st ⟨1,[(0,r)]⟩ st'):bA P gl s0 fn (Out r st') e fr st:=by
 subst i;simp only [iF]at g;obtain⟨b,f⟩:=g
 cases a:uY (ti P) gl fr st fn.results.toList with
 |none=>rw [a]at b; cases b
 | some k=>
  simp only [VZ,a]at f h;exact bA.gen k R j (by rw [<-Xa]; exact a) f h
end
inductive Ctl (R X:Type) where
 |ret (r:R)
 |nxt (x:X)
def eG {α:Type} {b:Bool} {x y z:α} (a:b=true) (h:(if b=true then x else y)=z):x=z:=by rw [iI a]at h; exact h
def Pw {α:Type} {b:Bool} {x y z:α} (a:b=false) (h:(if b=true then x else y)=z):y=z:=by rw [iH (by simp [a])]at h; exact h
def mu {α β:Type} {x:Option α} {f:α->Option β} {y:β} (h:x.bind f=some y):∃a,x=some a∧f a=some y:=Option.bind_eq_some_iff.1 h
def xb {R X Z:Type} (o:Option (Ctl R X)) (g:R->Option Z) (f:X->Option Z):Option Z:=match o with
 |none=>none
 |some (.ret r)=>g r
 |some (.nxt x)=>f x
def zef {R X Z:Type} {o:Option (Ctl R X)} {g:R->Option Z} {f:X->Option Z} {z:Z} (h:xb o g f=some z):∃c,o=some c∧(∀r,c= .ret r->g r=some z)∧(∀x,c= .nxt x->f x=some z):=by
 cases o with
 |none=>cases h
 | some c=>
  refine⟨c,rfl, ?_, ?_⟩
  ·rintro r rfl; exact h
  ·rintro x rfl; exact h
section
variable {P:Program} {gl:Nat->List V} {s0:St} {c:Code} {cs:List Code} {AQ:Exit->AFr->St->Prop} {fr fr':AFr} {st st':St}
def za8 {Y:Type} (F:Y->AFr) (S:Y->St) (L:Y->Prop) (h:zh P gl s0 [c] (wE (ga s0 F S L) AQ) fr st) (a:Cl s0 (zh P gl s0 cs AQ)) (g:∀y,L y->zh P gl s0 cs AQ (F y) (S y)):zh P gl s0 (c::cs) AQ fr st:=by
 refine jR.mono (AQ:=wE (ga s0 F S L) AQ) ?_ ?_
 ·have:=h; simp only [zh,Gj]at this; exact this
 ·intro e f k b
  cases e with
  |normal=>obtain⟨y,i,j⟩:=b; exact a _ _ _ _ j (g y i)
  |_=>exact b
def jc (s0:St) (id:Nat) {Y:Type} (F:Y->AFr) (S:Y->St) (L:Y->Prop) (AQ:Exit->AFr->St->Prop):Exit->AFr->St->Prop
 | .exit id',fr,st=>if id'=id then ga s0 F S L fr st else AQ (.exit id') fr st
 | .normal,fr,st=>ga s0 F S L fr st
 |e,fr,st=>AQ e fr st
def GL {Y:Type} {id:Nat} (F:Y->AFr) (S:Y->St) (L:Y->Prop) (h:zh P gl s0 [c] (jc s0 id F S L AQ) fr st) (b:Cl s0 (zh P gl s0 cs AQ)) (j:∀y,L y->zh P gl s0 cs AQ (F y) (S y)):zh P gl s0 (.block id c::cs) AQ fr st:=by
 have m:=cW h
 have k:jR P gl s0 c (qd id (wE (zh P gl s0 cs AQ) AQ)) fr st:=by
  refine m.mono ?_;intro e l n a
  cases e with
  |normal=>obtain⟨y,f,g⟩:=a; exact b _ _ _ _ g (j y f)
  | exit id'=>
   simp only [jc,qd,wE]at a ⊢;split
   ·rename_i i; rw [iI i]at a; obtain⟨y,f,g⟩:=a; exact b _ _ _ _ g (j y f)
   ·rename_i i; rw [iH i]at a; exact a
  |_=>exact a
 refine PU ?_;simp only [zh,pc];exact k
def tp {Y:Type} {id:Nat} {F:Y->AFr} {S:Y->St} {L:Y->Prop} (h:ga s0 F S L fr st):jc s0 id F S L AQ (.exit id) fr st:=by
 simp only [jc,if_true]; exact h
def s9 {id:Nat} {K:AFr->St->Prop} (h:K fr st):qd id (wE K AQ) (.exit id) fr st:=by
 simp only [qd,wE,if_true]; exact h
def ru {id id':Nat} {K:AFr->St->Prop} (a:Nat.beq id' id=false) (h:AQ (.exit id') fr st):qd id (wE K AQ) (.exit id') fr st:=by
 simp only [qd,wE]; rw [iH (Nat.ne_of_beq_eq_false a)]; exact h
def yf {Y:Type} {id:Nat} {F:Y->AFr} {S:Y->St} {L:Y->Prop}:Cl s0 (jc s0 id F S L AQ .normal):=fun _ _ _ _ h ⟨x,a,b⟩=>⟨x,a,h.trans b⟩
def zz {Y:Type} {F:Y->AFr} {S:Y->St} {L:Y->Prop}:Cl s0 (wE (ga s0 F S L) AQ .normal):=fun _ _ _ _ h ⟨x,a,b⟩=>⟨x,a,h.trans b⟩
end
def vl (k:IntKind) (x y:Int):Int:=k.wrap (BitVec.ofInt k.bits x &&& BitVec.ofInt k.bits y).toNat
def ior (k:IntKind) (x y:Int):Int:=k.wrap (BitVec.ofInt k.bits x|||BitVec.ofInt k.bits y).toNat
def yz (k:IntKind) (x y:Int):Int:=k.wrap (BitVec.ofInt k.bits x ^^^ BitVec.ofInt k.bits y).toNat
end Go.Abs
end
