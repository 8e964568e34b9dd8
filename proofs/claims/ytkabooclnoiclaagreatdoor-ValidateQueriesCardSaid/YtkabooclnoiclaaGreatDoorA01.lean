/- Abstract values. No condition. -/
import Derived.Below
import Derived.Calls
import Derived.Carry
import Derived.Deep.AppendSrc
import Derived.Deep.Slices
import Derived.Deep.Strs
import Derived.HandedShaped
import Derived.JoinedOf
import Derived.KernelRfl
import Derived.LaidMore
import Derived.Laws.BytesArg
import Derived.Laws.IdiomStrings
import Derived.Laws.RangeString
import Derived.Lay
import Derived.Lib.DecodeN
import Derived.Lib.ItoaLen
import Derived.LoopN
import Derived.OpenShut
import Derived.Orders
import Derived.OrdersIn
import Derived.ProofKit
import Derived.RangeFuncLeaves
import Derived.RangeFuncRecord
import Derived.Scope
import Derived.SevenTiedAt
import Derived.Stop.Joined
import Derived.WalkKit
import GoSem.Claims
set_option linter.all false
theorem iG:type_of%(@Option.bind_some):=@Option.bind_some
theorem iH:type_of%(@if_neg):=@if_neg
theorem iI:type_of%(@if_pos):=@if_pos
theorem iJ:type_of%(@decide_eq_true_eq):=@decide_eq_true_eq
theorem iK:type_of%(@List.getElem?_eq_getElem):=@List.getElem?_eq_getElem
theorem iL:type_of%(@Option.some.injEq):=@Option.some.injEq
theorem iM:type_of%(@List.drop_eq_getElem_cons):=@List.drop_eq_getElem_cons
theorem iN:type_of%(@List.getElem?_eq_none):=@List.getElem?_eq_none
theorem iO:type_of%(@List.length_append):=@List.length_append
theorem iP:type_of%(@Nat.le_refl):=@Nat.le_refl
theorem iQ:type_of%(@List.mem_of_getElem?):=@List.mem_of_getElem?
theorem iR:type_of%(@Option.map_eq_some_iff):=@Option.map_eq_some_iff
theorem iS:type_of%(@Nat.lt_or_ge):=@Nat.lt_or_ge
theorem iT:type_of%(@Bool.false_eq_true):=@Bool.false_eq_true
theorem iU:type_of%(@List.getElem?_append_left):=@List.getElem?_append_left
theorem iV:type_of%(@List.getElem?_map):=@List.getElem?_map
theorem iW:type_of%(@Prod.mk.injEq):=@Prod.mk.injEq
section
namespace Go.Abs
open Go.RowKit (Below)
def iA:type_of%(@Result.andThen_ok):=@Result.andThen_ok
def iB:type_of%(@Sem.run_bind):=@Sem.run_bind
def iC:type_of%(@Sem.run_pure):=@Sem.run_pure
def iD:type_of%(@Nat.le_of_ble_eq_true):=@Nat.le_of_ble_eq_true
def iE:type_of%(@Nat.eq_of_beq_eq_true):=@Nat.eq_of_beq_eq_true
def iF:type_of%(@Bool.and_eq_true):=@Bool.and_eq_true
def O0{P:Prop}(p:P:=by omega):P:=p
def O1{P:Prop}(p:P:=by decide):P:=p
def O2{P:Prop}(p:P:=by simp):P:=p
def O3{P:Prop}(p:P:=by simp; omega):P:=p
def O4{P:Prop}(p:P:=by rw [iJ]; omega):P:=p
def O5{P:Prop}(p:P:=by kernel_rfl):P:=p
def O6{P:Prop}(p:P:=by rw [beq_iff_eq]; omega):P:=p
def O7{P Q:Prop}(h:P)(p:P->Q:=by intro h; simpa using h):Q:=p h
inductive Tok where
 |none
 |exact
 |fam (t pos:Nat)
 deriving DecidableEq,Repr,Inhabited
inductive V where
 |junk
 |bool (b:Bool)
 |int (k:IntKind) (n:Int)
 |str (s:List UInt8)
 |ptr (id off:Nat)
 |nilp
 |gptr (g off:Nat)
 |eptr (e:List V) (off:Nat)
 |sl (sz:Nat) (es:List (List V)) (tok:Tok)
 |nilsl
 |rsl (id off len cap sz:Nat)
 |func (fn:Fn) (first captured:List V)
 |nilfunc
 |agg (cs:List V)
 |tuple (vs:List V)
 |own (id n sz:Nat)
 |mapv (id:Nat)
 |iter (id:Nat)
 |iface (t:TypeId) (v:V)
 |niliface
 |mp (es:List V)
 |sit (s:List UInt8) (pos:Nat)
 |buf (cs:List V)
 deriving Inhabited
def V.cells:V->List V
 | .agg a=>a
 |v=> [v]
structure St where
 vars:List (List V)
 fams:List Nat
structure Gh where
 imm:Nat->Nat->Option V
 var:Nat->Option Nat
 tip:Nat->Nat->Option (Nat×Nat×Nat)
 room:Nat->Nat
def V.al (u v:V):Prop:=u=v∨∃a b:Nat,u= .sl a [] .none∧v= .sl b [] .none
def Gh.Im (G:Gh) (b i:Nat) (v:V):Prop:=∃u,G.imm b i=some u∧V.al u v
def Gh.Im.of {G:Gh} {b i:Nat} {v:V} (h:G.imm b i=some v):G.Im b i v:=⟨v,h, .inl rfl⟩
def Gh.Im.mono {G G':Gh} {b i:Nat} {v:V} (h:G.Im b i v) (hi:∀b i v,G.imm b i=some v->G'.imm b i=some v):G'.Im b i v:=
 let⟨u,a,c⟩:=h; ⟨u,hi _ _ _ a,c⟩
def u7 (G:Gh) (b o sz:Nat) (es:List (List V)):Prop:=
 ∀(i:Nat) (e:List V),es[i]? =some e->e.length=sz∧∀(j:Nat) (v:V),e[j]? =some v->G.Im b (o+i*sz+j) v
def lP (G:Gh) (b o sz len cap:Nat):Tok->Prop
 | .none=>True
 | .exact=>cap=len
 | .fam t a=>∃lim,G.tip t a=some (b,o+len*sz,lim)∧o+cap*sz<=lim
inductive VR (G:Gh):V->Value->Prop
 |junk (c:Value):VR G .junk c
 |bool (b:Bool):VR G (.bool b) (.bool b)
 |int (k:IntKind) (n:Int):VR G (.int k n) (.int k n)
 |str (s:ByteArray):VR G (.str s.data.toList) (.string s)
 |ptr {id b off:Nat}:G.var id=some b->VR G (.ptr id off) (.pointer (some ⟨b,off,none⟩))
 |nilp:VR G .nilp (.pointer none)
 |gptr (g off:Nat):VR G (.gptr g off) (.pointer (some ⟨g,off,none⟩))
 |eptr {e:List V} {off b o:Nat}:(∀(j:Nat) (v:V),e[j]? =some v->G.Im b (o+j) v)->VR G (.eptr e off) (.pointer (some ⟨b,o+off,none⟩))
 | sl {sz:Nat} {es:List (List V)} {tok:Tok} {b o cap:Nat}:u7 G b o sz es->lP G b o sz es.length cap tok->es.length<=cap ->
   VR G (.sl sz es tok) (.slice (some ⟨b,o,none⟩) es.length cap)
 |slnil (sz:Nat) (tok:Tok):VR G (.sl sz [] tok) (.slice none 0 0)
 |slz (sz:Nat) (a:Addr):VR G (.sl sz [] .none) (.slice (some a) 0 0)
 |nilsl:VR G .nilsl (.slice none 0 0)
 |rsl {id off len cap sz b:Nat}:G.var id=some b->VR G (.rsl id off len cap sz) (.slice (some ⟨b,off,none⟩) len cap)
 | func {fn:Fn} {f1 f2:List V} {c1 c2:Array Value}:f1.length=c1.size->(∀(i:Nat) (v:V) (c:Value),f1[i]? =some v->c1[i]? =some c->VR G v c) ->
   f2.length=c2.size->(∀(i:Nat) (v:V) (c:Value),f2[i]? =some v->c2[i]? =some c->VR G v c)->VR G (.func fn f1 f2) (.func fn c1 c2)
 |nilfunc:VR G .nilfunc .nilFunc
 |agg {cs:List V} {c:Array Value}:cs.length=c.size->(∀(i:Nat) (v:V) (x:Value),cs[i]? =some v->c[i]? =some x->VR G v x)->VR G (.agg cs) (.agg c)
 |tuple {cs:List V} {c:Array Value}:cs.length=c.size->(∀(i:Nat) (v:V) (x:Value),cs[i]? =some v->c[i]? =some x->VR G v x)->VR G (.tuple cs) (.tuple c)
 |own {id n sz b cap:Nat}:0<n->G.var id=some b->n<=cap->cap*sz<=G.room id->VR G (.own id n sz) (.slice (some ⟨b,0,none⟩) n cap)
 |ownnil (id sz:Nat):VR G (.own id 0 sz) (.slice none 0 0)
 |mapv {id b:Nat}:G.var id=some b->VR G (.mapv id) (.map (some b))
 |iter {id b:Nat}:G.var id=some b->VR G (.iter id) (.pointer (some ⟨b,0,none⟩))
 |iface {t:TypeId} {v:V} {c:Value}:VR G v c->VR G (.iface t v) (.iface t c)
 |niliface:VR G .niliface .nilIface
def VRs (G:Gh) (a:List V) (cs:Array Value):Prop:=
 a.length=cs.size∧∀(i:Nat) (v:V) (c:Value),a[i]? =some v->cs[i]? =some c->VR G v c
mutual
def V.pur:V->V
  | .sl c b _=> .sl c b .none
  | .agg a=> .agg (V.purs a)
  | .nilsl=> .sl 1 [] .none
  |v=>v
def V.purs:List V->List V
  | []=> []
  |v::a=>V.pur v::V.purs a
end
def V.purs_length (l:List V):(V.purs l).length=l.length:=by
 induction l with
 |nil=>rfl
 |cons v r a=>simp [V.purs,a]
def V.purs_get (l:List V) (i:Nat):(V.purs l)[i]? =(l[i]?).map V.pur:=by
 induction l generalizing i with
 |nil=>simp [V.purs]
 |cons v r a=>cases i<;>simp [V.purs,a]
def VR.pur {G:Gh} {v:V} {c:Value} (h:VR G v c):VR G (V.pur v) c:=by
 induction h with
 | @sl r A j b o cap f x e=>
  cases j with
  |none=>exact .sl f x e
  |exact=>exact .sl f trivial e
  |fam t p=>exact .sl f trivial e
 |slnil r j=>exact .slnil _ _
 |slz r a=>exact .slz _ _
 | agg w _ z=>
  refine .agg (by rw [V.purs_length]; exact w) ?_;intro i v c q e;rw [V.purs_get]at q;obtain⟨u,y,rfl⟩:=iR.1 q;exact z i u c y e
 |junk c=>exact .junk c
 |bool b=>exact .bool b
 |int k n=>exact .int k n
 |str s=>exact .str s
 |ptr l=>exact .ptr l
 |nilp=>exact .nilp
 |gptr g m=>exact .gptr g m
 |eptr f=>exact .eptr f
 |nilsl=>exact .slnil _ _
 |rsl l=>exact .rsl l
 |func a b c d=>exact .func a b c d
 |nilfunc=>exact .nilfunc
 |tuple a b=>exact .tuple a b
 |own a b c d=>exact .own a b c d
 |ownnil a b=>exact .ownnil a b
 |mapv a=>exact .mapv a
 |iter a=>exact .iter a
 |iface a=>exact .iface a
 |niliface=>exact .niliface
def V.isCell:V->Bool
 | .agg _| .tuple _| .junk| .mp _| .sit _ _| .buf _=>false
 |_=>true
mutual
def V.pure:V->Bool
  | .ptr _ _| .rsl .. | .own .. | .mapv _| .iter _=>false
  | .sl _ _ (.fam _ _)=>false
  | .iface _ v=>V.pure v
  | .func _ a b=>V.pures a&&V.pures b
  | .agg c=>V.pures c
  | .tuple c=>V.pures c
  |_=>true
def V.pures:List V->Bool
  | []=>true
  |v::a=>V.pure v&&V.pures a
end
def V.pcell (v:V):Bool:=V.pure v&&v.isCell
def V.pure_of_pcell {v:V} (h:V.pcell v=true):V.pure v=true:=by simp only [V.pcell,iF]at h; exact h.1
def V.isCell_of_pcell {v:V} (h:V.pcell v=true):v.isCell=true:=by simp only [V.pcell,iF]at h; exact h.2
mutual
def V.sc (st:St):V->Prop
  | .ptr id _=>id<st.vars.length
  | .rsl id _ _ _ _=>id<st.vars.length
  | .own id _ _=>id<st.vars.length
  | .mapv id=>id<st.vars.length
  | .iter id=>id<st.vars.length
  | .iface _ v=>V.sc st v
  | .sl _ _ (.fam t p)=>∃q,st.fams[t]? =some q∧p<=q
  | .func _ a b=>V.scs st a∧V.scs st b
  | .agg c=>V.scs st c
  | .tuple c=>V.scs st c
  |_=>True
def V.scs (st:St):List V->Prop
  | []=>True
  |v::a=>V.sc st v∧V.scs st a
end
def V.scs_iff (st:St) (l:List V):V.scs st l↔∀v∈l,V.sc st v:=by
 induction l with
 |nil=>simp [V.scs]
 |cons v b a=>simp [V.scs,a]
mutual
def V.sc_pur (st:St):(v:V)->V.sc st v->V.sc st (V.pur v)
  | .sl e c a,h=>by cases a<;>simp_all [V.sc,V.pur]
  | .agg b,h=>by simp only [V.sc,V.pur]at *; exact V.scs_purs st b h
  | .junk,h| .bool _,h| .int _ _,h| .str _,h| .nilp,h| .gptr _ _,h| .eptr _ _,h| .nilsl,h| .nilfunc,h| .ptr _ _,h| .rsl ..,h| .func _ _ _,h| .tuple _,h| .own ..,h| .mapv _,h| .iter _,h| .iface _ _,h| .niliface,h| .mp _,h| .sit _ _,h| .buf _,h=>h
def V.scs_purs (st:St):(l:List V)->V.scs st l->V.scs st (V.purs l)
  | [],_=>trivial
  |v::a,h=>⟨V.sc_pur st v h.1,V.scs_purs st a h.2⟩
end
def V.pures_iff (l:List V):V.pures l=true↔∀v∈l,V.pure v=true:=by
 induction l with
 |nil=>simp [V.pures]
 |cons v b a=>simp [V.pures,a]
mutual
def V.sc_of_pure (st:St):(v:V)->V.pure v=true->V.sc st v
  | .junk,_| .bool _,_| .int _ _,_| .str _,_| .nilp,_| .gptr _ _,_| .eptr _ _,_| .nilsl,_| .nilfunc,_| .niliface,_| .sit _ _,_| .buf _,_| .mp _,_=>by simp [V.sc]
  | .iface _ v,h=>by simp only [V.pure]at h; exact V.sc_of_pure st v h
  | .sl _ _ e,h=>by cases e<;>simp_all [V.sc,V.pure]
  | .func _ a b,h=>by
    simp only [V.pure,iF]at h;exact⟨V.scs_of_pures st a h.1,V.scs_of_pures st b h.2⟩
  | .agg c,h=>by simp only [V.pure]at h; exact V.scs_of_pures st c h
  | .tuple c,h=>by simp only [V.pure]at h; exact V.scs_of_pures st c h
def V.scs_of_pures (st:St):(l:List V)->V.pures l=true->V.scs st l
  | [],_=>trivial
  | v::a,h=>by
    simp only [V.pures,iF]at h;exact⟨V.sc_of_pure st v h.1,V.scs_of_pures st a h.2⟩
end
structure St.le (a b:St):Prop where
 vars:a.vars.length<=b.vars.length
 fams:∀(t p:Nat),a.fams[t]? =some p->∃q,b.fams[t]? =some q∧p<=q
def St.le.refl (a:St):a.le a:=⟨iP _,fun _ p h=>⟨p,h,iP _⟩⟩
def St.le.trans {a b c:St} (h:a.le b) (k:b.le c):a.le c:=
 ⟨Nat.le_trans h.vars k.vars,fun t p g=>by
  obtain⟨q,i,e⟩:=h.fams t p g;obtain⟨r,j,f⟩:=k.fams t q i
  exact⟨r,j,Nat.le_trans e f⟩⟩
mutual
def V.sc_mono {a b:St} (h:a.le b):(v:V)->V.sc a v->V.sc b v
  | .junk,_| .bool _,_| .int _ _,_| .str _,_| .nilp,_| .gptr _ _,_| .eptr _ _,_| .nilsl,_| .nilfunc,_| .niliface,_| .sit _ _,_| .buf _,_| .mp _,_=>by simp [V.sc]
  | .own id _ _,c=>by simp only [V.sc]at *; exact Nat.lt_of_lt_of_le c h.vars
  | .mapv id,c=>by simp only [V.sc]at *; exact Nat.lt_of_lt_of_le c h.vars
  | .iter id,c=>by simp only [V.sc]at *; exact Nat.lt_of_lt_of_le c h.vars
  | .iface _ v,c=>by simp only [V.sc]at *; exact V.sc_mono h v c
  | .ptr id _,c=>by simp only [V.sc]at *; exact Nat.lt_of_lt_of_le c h.vars
  | .rsl id _ _ _ _,c=>by simp only [V.sc]at *; exact Nat.lt_of_lt_of_le c h.vars
  | .sl _ _ .none,_=>by simp [V.sc]
  | .sl _ _ .exact,_=>by simp [V.sc]
  | .sl _ _ (.fam t p),c=>by
    simp only [V.sc]at *;obtain⟨q,i,f⟩:=c;obtain⟨r,j,g⟩:=h.fams t q i;exact⟨r,j,Nat.le_trans f g⟩
  | .func _ x y,c=>by simp only [V.sc]at *; exact⟨V.scs_mono h x c.1,V.scs_mono h y c.2⟩
  | .agg e,c=>by simp only [V.sc]at *; exact V.scs_mono h e c
  | .tuple e,c=>by simp only [V.sc]at *; exact V.scs_mono h e c
def V.scs_mono {a b:St} (h:a.le b):(l:List V)->V.scs a l->V.scs b l
  | [],_=>trivial
  |v::e,c=>by simp only [V.scs]at *; exact⟨V.sc_mono h v c.1,V.scs_mono h e c.2⟩
end
structure Ext (st:St) (G G':Gh):Prop where
 imm:∀b i v,G.imm b i=some v->G'.imm b i=some v
 var:∀id,id<st.vars.length->G'.var id=G.var id
 tip:∀(t p q:Nat),st.fams[t]? =some q->p<=q->G'.tip t p=G.tip t p
 room:∀id,id<st.vars.length->G'.room id=G.room id
def Ext.refl (st:St) (G:Gh):Ext st G G:=⟨fun _ _ _ h=>h,fun _ _=>rfl,fun _ _ _ _ _=>rfl,fun _ _=>rfl⟩
def Ext.trans {st st':St} {G G' G'':Gh} (h:Ext st G G') (a:st.le st') (k:Ext st' G' G''):Ext st G G'':=
  ⟨fun b i v x=>k.imm b i v (h.imm b i v x),fun id x=>(k.var id (Nat.lt_of_lt_of_le x a.vars)).trans (h.var id x),
   fun t p q x y=>by
    obtain⟨r,e,c⟩:=a.fams t q x;exact(k.tip t p r e (Nat.le_trans y c)).trans (h.tip t p q x y),
   fun id x=>(k.room id (Nat.lt_of_lt_of_le x a.vars)).trans (h.room id x)⟩
def u7.ext {G G':Gh} {b o sz:Nat} {es:List (List V)} (hi:∀b i v,G.imm b i=some v->G'.imm b i=some v) (h:u7 G b o sz es):u7 G' b o sz es:=
 fun i e a=>⟨(h i e a).1,fun j v c=>((h i e a).2 j v c).mono hi⟩
def VR.ext {st:St} {G G':Gh} (r:Ext st G G') {v:V} {c:Value} (h:VR G v c) (f:V.sc st v):VR G' v c:=by
 induction h with
 |junk c=>exact .junk c
 |bool b=>exact .bool b
 |int k n=>exact .int k n
 |str s=>exact .str s
 |ptr e=>exact .ptr (by rw [r.var _ (by simpa [V.sc] using f)]; exact e)
 |nilp=>exact .nilp
 |gptr g F=>exact .gptr g F
 |eptr B=>exact .eptr (fun j v e=>(B j v e).mono r.imm)
 | @sl A N w b o cap B H m=>
  refine .sl (B.ext r.imm) ?_ m
  cases w with
  |none=>trivial
  |exact=>exact H
  | fam t p=>
   obtain⟨lim,l,x⟩:=H;simp only [V.sc]at f;obtain⟨q,M,L⟩:=f;exact⟨lim,by rw [r.tip t p q M L]; exact l,x⟩
 |slnil A w=>exact .slnil A w
 |slz A a=>exact .slz A a
 |nilsl=>exact .nilsl
 |rsl e=>exact .rsl (by rw [r.var _ (by simpa [V.sc] using f)]; exact e)
 | func l _ x _ C E=>
  simp only [V.sc,V.scs_iff]at f;exact .func l (fun i v c e m=>C i v c e m (f.1 v (iQ e))) x (fun i v c e m=>E i v c e m (f.2 v (iQ e)))
 |nilfunc=>exact .nilfunc
 | agg l _ z=>
  simp only [V.sc,V.scs_iff]at f;exact .agg l (fun i v c e m=>z i v c e m (f v (iQ e)))
 | tuple l _ z=>
  simp only [V.sc,V.scs_iff]at f;exact .tuple l (fun i v c e m=>z i v c e m (f v (iQ e)))
 | own I K l x=>
  have y:=by simpa [V.sc] using f
  exact .own I (by rw [r.var _ y]; exact K) l (by rw [r.room _ y]; exact x)
 |ownnil a b=>exact .ownnil a b
 |mapv e=>exact .mapv (by rw [r.var _ (by simpa [V.sc] using f)]; exact e)
 |iter e=>exact .iter (by rw [r.var _ (by simpa [V.sc] using f)]; exact e)
 |iface _ z=>exact .iface (z (by simpa [V.sc] using f))
 |niliface=>exact .niliface
def VR.pure_ext {G G':Gh} (hi:∀b i v,G.imm b i=some v->G'.imm b i=some v) {v:V} {c:Value} (h:VR G v c) (a:V.pure v=true):VR G' v c:=
 VR.ext (st:=⟨[],[]⟩) ⟨hi,fun _ h=>by simp at h,fun _ _ _ h=>by simp at h,fun _ h=>by simp at h⟩ h (V.sc_of_pure _ v a)
end Go.Abs
end
