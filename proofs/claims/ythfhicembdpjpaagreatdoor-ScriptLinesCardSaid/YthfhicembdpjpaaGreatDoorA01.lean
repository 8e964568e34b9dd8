/- Abstract values: a part. No condition beyond each statement's own. -/
import Derived.Below
import Derived.Calls
import Derived.Carry
import Derived.Deep.AppendSrc
import Derived.Deep.Slices
import Derived.HandedShaped
import Derived.JoinedOf
import Derived.KernelRfl
import Derived.LaidByTextLater
import Derived.LaidMore
import Derived.Laws.BytesArg
import Derived.Laws.IdiomStrings
import Derived.Lay
import Derived.Lib.AtoiAllCases
import Derived.Lib.DecodeN
import Derived.Lib.ItoaLen
import Derived.LoopN
import Derived.OpenShut
import Derived.Orders
import Derived.ProofKit
import Derived.Scope
import Derived.SevenTiedAt
import Derived.Shelf.Strings.Builder1
import Derived.Stop.Joined
import Derived.WalkKit
import GoSem.Claims
set_option linter.all false
section
namespace Go.Abs
open Go.RowKit (Below)
theorem iA:type_of%(@Result.andThen_ok):=@Result.andThen_ok
theorem iB:type_of%(@Sem.run_bind):=@Sem.run_bind
theorem iC:type_of%(@Sem.run_pure):=@Sem.run_pure
theorem iD:type_of%(@Nat.le_of_ble_eq_true):=@Nat.le_of_ble_eq_true
theorem iE:type_of%(@Bool.and_eq_true):=@Bool.and_eq_true
theorem O0{P:Prop}(p:P:=by omega):P:=p
theorem O1{P:Prop}(p:P:=by decide):P:=p
theorem O2{P:Prop}(p:P:=by simp):P:=p
theorem O3{P:Prop}(p:P:=by simp; omega):P:=p
theorem O4{P:Prop}(p:P:=by rw [decide_eq_true_eq]; omega):P:=p
theorem O5{P:Prop}(p:P:=by kernel_rfl):P:=p
theorem O6{P:Prop}(p:P:=by rfl):P:=p
theorem O7{P Q:Prop}(h:P)(p:P→Q:=by intro h; simpa using h):Q:=p h
inductive Tok where
 |none
 |exact
 |fam (t pos:Nat)
 deriving DecidableEq,Repr,Inhabited
inductive V where
 |junk
 |bool (b:Bool)
 |int (k:IntKind) (n:Int)
 |str (s:List UInt8)
 |ptr (id off:Nat)
 |nilp
 |gptr (g off:Nat)
 |eptr (e:List V) (off:Nat)
 |sl (sz:Nat) (es:List (List V)) (tok:Tok)
 |nilsl
 |rsl (id off len cap sz:Nat)
 |func (fn:Fn) (first captured:List V)
 |nilfunc
 |agg (cs:List V)
 |tuple (vs:List V)
 |own (id n sz:Nat)
 |mapv (id:Nat)
 |iter (id:Nat)
 |iface (t:TypeId) (v:V)
 |niliface
 |mp (es:List V)
 |sit (s:List UInt8) (pos:Nat)
 |buf (cs:List V)
 |bobj (id k:Nat) (T:TypeId) (s:List UInt8)
 |bbuf (e:TypeId) (s:List UInt8)
 deriving Inhabited
def V.cells:V→List V
 | .agg cs=>cs
 |v=> [v]
structure St where
 vars:List (List V)
 fams:List Nat
structure Gh where
 imm:Nat→Nat→Option V
 var:Nat→Option Nat
 tip:Nat→Nat→Option (Nat×Nat×Nat)
 room:Nat→Nat
def V.al (u v:V):Prop:=u=v∨∃a b:Nat,u= .sl a [] .none∧v= .sl b [] .none
def Gh.Im (G:Gh) (b i:Nat) (v:V):Prop:=∃u,G.imm b i=some u∧V.al u v
theorem Gh.Im.of {G:Gh} {b i:Nat} {v:V} (h:G.imm b i=some v):G.Im b i v:=⟨v,h, .inl rfl⟩
theorem Gh.Im.mono {G G':Gh} {b i:Nat} {v:V} (h:G.Im b i v) (hi:∀b i v,G.imm b i=some v→G'.imm b i=some v):G'.Im b i v:=
 let⟨u,h1,h2⟩:=h; ⟨u,hi _ _ _ h1,h2⟩
def bo (G:Gh) (b o sz:Nat) (es:List (List V)):Prop:=
 ∀(i:Nat) (e:List V),es[i]? =some e→e.length=sz∧∀(j:Nat) (v:V),e[j]? =some v→G.Im b (o+i*sz+j) v
def BS (G:Gh) (b o sz len cap:Nat):Tok→Prop
 | .none=>True
 | .exact=>cap=len
 | .fam t pos=>∃lim,G.tip t pos=some (b,o+len*sz,lim)∧o+cap*sz≤lim
inductive VR (G:Gh):V→Value→Prop
 |junk (c:Value):VR G .junk c
 |bool (b:Bool):VR G (.bool b) (.bool b)
 |int (k:IntKind) (n:Int):VR G (.int k n) (.int k n)
 |str (s:ByteArray):VR G (.str s.data.toList) (.string s)
 |ptr {id b off:Nat}:G.var id=some b→VR G (.ptr id off) (.pointer (some ⟨b,off,none⟩))
 |nilp:VR G .nilp (.pointer none)
 |gptr (g off:Nat):VR G (.gptr g off) (.pointer (some ⟨g,off,none⟩))
 |eptr {e:List V} {off b o:Nat}:(∀(j:Nat) (v:V),e[j]? =some v→G.Im b (o+j) v)→VR G (.eptr e off) (.pointer (some ⟨b,o+off,none⟩))
 | sl {sz:Nat} {es:List (List V)} {tok:Tok} {b o cap:Nat}:bo G b o sz es→BS G b o sz es.length cap tok→es.length≤cap →
   VR G (.sl sz es tok) (.slice (some ⟨b,o,none⟩) es.length cap)
 |slnil (sz:Nat) (tok:Tok):VR G (.sl sz [] tok) (.slice none 0 0)
 |slz (sz:Nat) (a:Addr):VR G (.sl sz [] .none) (.slice (some a) 0 0)
 |nilsl:VR G .nilsl (.slice none 0 0)
 |rsl {id off len cap sz b:Nat}:G.var id=some b→VR G (.rsl id off len cap sz) (.slice (some ⟨b,off,none⟩) len cap)
 | func {fn:Fn} {f1 f2:List V} {c1 c2:Array Value}:f1.length=c1.size→(∀(i:Nat) (v:V) (c:Value),f1[i]? =some v→c1[i]? =some c→VR G v c) →
   f2.length=c2.size→(∀(i:Nat) (v:V) (c:Value),f2[i]? =some v→c2[i]? =some c→VR G v c)→VR G (.func fn f1 f2) (.func fn c1 c2)
 |nilfunc:VR G .nilfunc .nilFunc
 |agg {cs:List V} {c:Array Value}:cs.length=c.size→(∀(i:Nat) (v:V) (x:Value),cs[i]? =some v→c[i]? =some x→VR G v x)→VR G (.agg cs) (.agg c)
 |tuple {cs:List V} {c:Array Value}:cs.length=c.size→(∀(i:Nat) (v:V) (x:Value),cs[i]? =some v→c[i]? =some x→VR G v x)→VR G (.tuple cs) (.tuple c)
 |own {id n sz b cap:Nat}:0<n→G.var id=some b→n≤cap→cap*sz≤G.room id→VR G (.own id n sz) (.slice (some ⟨b,0,none⟩) n cap)
 |ownnil (id sz:Nat):VR G (.own id 0 sz) (.slice none 0 0)
 |ownz (id sz b cap:Nat):VR G (.own id 0 sz) (.slice (some ⟨b,0,none⟩) 0 cap)
 |mapv {id b:Nat}:G.var id=some b→VR G (.mapv id) (.map (some b))
 |iter {id b:Nat}:G.var id=some b→VR G (.iter id) (.pointer (some ⟨b,0,none⟩))
 |iface {t:TypeId} {v:V} {c:Value}:VR G v c→VR G (.iface t v) (.iface t c)
 |niliface:VR G .niliface .nilIface
def VRs (G:Gh) (vs:List V) (cs:Array Value):Prop:=
 vs.length=cs.size∧∀(i:Nat) (v:V) (c:Value),vs[i]? =some v→cs[i]? =some c→VR G v c
mutual
def V.pur:V→V
  | .sl sz es _=> .sl sz es .none
  | .agg cs=> .agg (V.purs cs)
  |v=>v
def V.purs:List V→List V
  | []=> []
  |v::vs=>V.pur v::V.purs vs
end
theorem V.purs_length (l:List V):(V.purs l).length=l.length:=by
 induction l with
 |nil=>rfl
 |cons v r ih=>simp [V.purs,ih]
theorem V.purs_get (l:List V) (i:Nat):(V.purs l)[i]? =(l[i]?).map V.pur:=by
 induction l generalizing i with
 |nil=>simp [V.purs]
 |cons v r ih=>cases i<;>simp [V.purs,ih]
theorem VR.pur {G:Gh} {v:V} {c:Value} (h:VR G v c):VR G (V.pur v) c:=by
 induction h with
 | @sl sz es tok b o cap hr ht hc=>
  cases tok with
  |none=>exact .sl hr ht hc
  |exact=>exact .sl hr trivial hc
  |fam t p=>exact .sl hr trivial hc
 |slnil sz tok=>exact .slnil _ _
 |slz sz a=>exact .slz _ _
 | agg h1 _ ih=>
  refine .agg (by rw [V.purs_length]; exact h1) ?_
  intro i v c hv hc
  rw [V.purs_get]at hv
  obtain⟨u,hu,rfl⟩:=Option.map_eq_some_iff.1 hv
  exact ih i u c hu hc
 |junk c=>exact .junk c
 |bool b=>exact .bool b
 |int k n=>exact .int k n
 |str s=>exact .str s
 |ptr hb=>exact .ptr hb
 |nilp=>exact .nilp
 |gptr g off=>exact .gptr g off
 |eptr hr=>exact .eptr hr
 |nilsl=>exact .nilsl
 |rsl hb=>exact .rsl hb
 |func a b c d=>exact .func a b c d
 |nilfunc=>exact .nilfunc
 |tuple a b=>exact .tuple a b
 |own a b c d=>exact .own a b c d
 |ownnil a b=>exact .ownnil a b
 |ownz a b c d=>exact .ownz a b c d
 |mapv a=>exact .mapv a
 |iter a=>exact .iter a
 |iface a=>exact .iface a
 |niliface=>exact .niliface
def V.isCell:V→Bool
 | .agg _| .tuple _| .junk| .mp _| .sit _ _| .buf _| .bobj .. | .bbuf .. => false
 |_=>true
mutual
def V.pure:V→Bool
  | .ptr _ _| .rsl .. | .own .. | .mapv _| .iter _| .bobj .. => false
  | .sl _ _ (.fam _ _)=>false
  | .iface _ v=>V.pure v
  | .func _ a b=>V.pures a&&V.pures b
  | .agg cs=>V.pures cs
  | .tuple cs=>V.pures cs
  |_=>true
def V.pures:List V→Bool
  | []=>true
  |v::vs=>V.pure v&&V.pures vs
end
def V.pcell (v:V):Bool:=V.pure v&&v.isCell
theorem V.pure_of_pcell {v:V} (h:V.pcell v=true):V.pure v=true:=by simp only [V.pcell,iE]at h; exact h.1
theorem V.isCell_of_pcell {v:V} (h:V.pcell v=true):v.isCell=true:=by simp only [V.pcell,iE]at h; exact h.2
mutual
def V.sc (st:St):V→Prop
  | .ptr id _=>id<st.vars.length
  | .rsl id _ _ _ _=>id<st.vars.length
  | .own id _ _=>id<st.vars.length
  | .mapv id=>id<st.vars.length
  | .iter id=>id<st.vars.length
  | .bobj id k _ _=>id<st.vars.length∧k<st.vars.length
  | .iface _ v=>V.sc st v
  | .sl _ _ (.fam t p)=>∃q,st.fams[t]? =some q∧p≤q
  | .func _ a b=>V.scs st a∧V.scs st b
  | .agg cs=>V.scs st cs
  | .tuple cs=>V.scs st cs
  |_=>True
def V.scs (st:St):List V→Prop
  | []=>True
  |v::vs=>V.sc st v∧V.scs st vs
end
theorem V.scs_iff (st:St) (l:List V):V.scs st l↔∀v∈l,V.sc st v:=by
 induction l with
 |nil=>simp [V.scs]
 |cons v vs ih=>simp [V.scs,ih]
mutual
theorem V.sc_pur (st:St):(v:V)→V.sc st v→V.sc st (V.pur v)
  | .sl sz es tok,h=>by cases tok<;>simp_all [V.sc,V.pur]
  | .agg cs,h=>by simp only [V.sc,V.pur]at *; exact V.scs_purs st cs h
  | .junk,h| .bool _,h| .int _ _,h| .str _,h| .nilp,h| .gptr _ _,h| .eptr _ _,h| .nilsl,h| .nilfunc,h| .ptr _ _,h| .rsl ..,h| .func _ _ _,h| .tuple _,h| .own ..,h| .mapv _,h| .bobj ..,h| .bbuf ..,h| .iter _,h| .iface _ _,h| .niliface,h| .mp _,h| .sit _ _,h| .buf _,h=>h
theorem V.scs_purs (st:St):(l:List V)→V.scs st l→V.scs st (V.purs l)
  | [],_=>trivial
  |v::vs,h=>⟨V.sc_pur st v h.1,V.scs_purs st vs h.2⟩
end
theorem V.pures_iff (l:List V):V.pures l=true↔∀v∈l,V.pure v=true:=by
 induction l with
 |nil=>simp [V.pures]
 |cons v vs ih=>simp [V.pures,ih]
mutual
theorem V.sc_of_pure (st:St):(v:V)→V.pure v=true→V.sc st v
  | .junk,_| .bool _,_| .int _ _,_| .str _,_| .nilp,_| .gptr _ _,_| .eptr _ _,_| .nilsl,_| .nilfunc,_| .niliface,_| .sit _ _,_| .buf _,_| .mp _,_| .bbuf _ _,_=>by simp [V.sc]
  | .iface _ v,h=>by simp only [V.pure]at h; exact V.sc_of_pure st v h
  | .sl _ _ tok,h=>by cases tok<;>simp_all [V.sc,V.pure]
  | .func _ a b,h=>by
    simp only [V.pure,iE]at h
    exact⟨V.scs_of_pures st a h.1,V.scs_of_pures st b h.2⟩
  | .agg cs,h=>by simp only [V.pure]at h; exact V.scs_of_pures st cs h
  | .tuple cs,h=>by simp only [V.pure]at h; exact V.scs_of_pures st cs h
theorem V.scs_of_pures (st:St):(l:List V)→V.pures l=true→V.scs st l
  | [],_=>trivial
  | v::vs,h=>by
    simp only [V.pures,iE]at h
    exact⟨V.sc_of_pure st v h.1,V.scs_of_pures st vs h.2⟩
end
structure St.le (a b:St):Prop where
 vars:a.vars.length≤b.vars.length
 fams:∀(t p:Nat),a.fams[t]? =some p→∃q,b.fams[t]? =some q∧p≤q
theorem St.le.refl (a:St):a.le a:=⟨Nat.le_refl _,fun _ p h=>⟨p,h,Nat.le_refl _⟩⟩
theorem St.le.trans {a b c:St} (h:a.le b) (k:b.le c):a.le c:=
 ⟨Nat.le_trans h.vars k.vars,fun t p hp=>by
  obtain⟨q,hq,h1⟩:=h.fams t p hp
  obtain⟨r,hr,h2⟩:=k.fams t q hq
  exact⟨r,hr,Nat.le_trans h1 h2⟩⟩
mutual
theorem V.sc_mono {a b:St} (h:a.le b):(v:V)→V.sc a v→V.sc b v
  | .junk,_| .bool _,_| .int _ _,_| .str _,_| .nilp,_| .gptr _ _,_| .eptr _ _,_| .nilsl,_| .nilfunc,_| .niliface,_| .sit _ _,_| .buf _,_| .mp _,_| .bbuf _ _,_=>by simp [V.sc]
  | .own id _ _,hv=>by simp only [V.sc]at *; exact Nat.lt_of_lt_of_le hv h.vars
  | .mapv id,hv=>by simp only [V.sc]at *; exact Nat.lt_of_lt_of_le hv h.vars
  | .iter id,hv=>by simp only [V.sc]at *; exact Nat.lt_of_lt_of_le hv h.vars
  | .bobj _ _ _ _,hv=>by simp only [V.sc]at *; exact⟨Nat.lt_of_lt_of_le hv.1 h.vars,Nat.lt_of_lt_of_le hv.2 h.vars⟩
  | .iface _ v,hv=>by simp only [V.sc]at *; exact V.sc_mono h v hv
  | .ptr id _,hv=>by simp only [V.sc]at *; exact Nat.lt_of_lt_of_le hv h.vars
  | .rsl id _ _ _ _,hv=>by simp only [V.sc]at *; exact Nat.lt_of_lt_of_le hv h.vars
  | .sl _ _ .none,_=>by simp [V.sc]
  | .sl _ _ .exact,_=>by simp [V.sc]
  | .sl _ _ (.fam t p),hv=>by
    simp only [V.sc]at *
    obtain⟨q,hq,h1⟩:=hv
    obtain⟨r,hr,h2⟩:=h.fams t q hq
    exact⟨r,hr,Nat.le_trans h1 h2⟩
  | .func _ x y,hv=>by simp only [V.sc]at *; exact⟨V.scs_mono h x hv.1,V.scs_mono h y hv.2⟩
  | .agg cs,hv=>by simp only [V.sc]at *; exact V.scs_mono h cs hv
  | .tuple cs,hv=>by simp only [V.sc]at *; exact V.scs_mono h cs hv
theorem V.scs_mono {a b:St} (h:a.le b):(l:List V)→V.scs a l→V.scs b l
  | [],_=>trivial
  |v::vs,hv=>by simp only [V.scs]at *; exact⟨V.sc_mono h v hv.1,V.scs_mono h vs hv.2⟩
end
structure Ext (st:St) (G G':Gh):Prop where
 imm:∀b i v,G.imm b i=some v→G'.imm b i=some v
 var:∀id,id<st.vars.length→G'.var id=G.var id
 tip:∀(t p q:Nat),st.fams[t]? =some q→p≤q→G'.tip t p=G.tip t p
 room:∀id,id<st.vars.length→G'.room id=G.room id
theorem Ext.refl (st:St) (G:Gh):Ext st G G:=⟨fun _ _ _ h=>h,fun _ _=>rfl,fun _ _ _ _ _=>rfl,fun _ _=>rfl⟩
theorem Ext.trans {st st':St} {G G' G'':Gh} (h:Ext st G G') (hl:st.le st') (k:Ext st' G' G''):Ext st G G'':=
  ⟨fun b i v x=>k.imm b i v (h.imm b i v x),fun id x=>(k.var id (Nat.lt_of_lt_of_le x hl.vars)).trans (h.var id x),
   fun t p q x y=>by
    obtain⟨r,hr,h1⟩:=hl.fams t q x
    exact(k.tip t p r hr (Nat.le_trans y h1)).trans (h.tip t p q x y),
   fun id x=>(k.room id (Nat.lt_of_lt_of_le x hl.vars)).trans (h.room id x)⟩
theorem bo.ext {G G':Gh} {b o sz:Nat} {es:List (List V)} (hi:∀b i v,G.imm b i=some v→G'.imm b i=some v) (h:bo G b o sz es):bo G' b o sz es:=
 fun i e he=>⟨(h i e he).1,fun j v hv=>((h i e he).2 j v hv).mono hi⟩
theorem VR.ext {st:St} {G G':Gh} (hx:Ext st G G') {v:V} {c:Value} (h:VR G v c) (hs:V.sc st v):VR G' v c:=by
 induction h with
 |junk c=>exact .junk c
 |bool b=>exact .bool b
 |int k n=>exact .int k n
 |str s=>exact .str s
 |ptr hv=>exact .ptr (by rw [hx.var _ (by simpa [V.sc] using hs)]; exact hv)
 |nilp=>exact .nilp
 |gptr g off=>exact .gptr g off
 |eptr hr=>exact .eptr (fun j v hv=>(hr j v hv).mono hx.imm)
 | @sl sz es tok b o cap hr ht hc=>
  refine .sl (hr.ext hx.imm) ?_ hc
  cases tok with
  |none=>trivial
  |exact=>exact ht
  | fam t p=>
   obtain⟨lim,h1,h2⟩:=ht
   simp only [V.sc]at hs
   obtain⟨q,hq,hp⟩:=hs
   exact⟨lim,by rw [hx.tip t p q hq hp]; exact h1,h2⟩
 |slnil sz tok=>exact .slnil sz tok
 |slz sz a=>exact .slz sz a
 |nilsl=>exact .nilsl
 |rsl hv=>exact .rsl (by rw [hx.var _ (by simpa [V.sc] using hs)]; exact hv)
 | func h1 _ h2 _ ih1 ih2=>
  simp only [V.sc,V.scs_iff]at hs
  exact .func h1 (fun i v c hv hc=>ih1 i v c hv hc (hs.1 v (List.mem_of_getElem? hv))) h2 (fun i v c hv hc=>ih2 i v c hv hc (hs.2 v (List.mem_of_getElem? hv)))
 |nilfunc=>exact .nilfunc
 | agg h1 _ ih=>
  simp only [V.sc,V.scs_iff]at hs
  exact .agg h1 (fun i v c hv hc=>ih i v c hv hc (hs v (List.mem_of_getElem? hv)))
 | tuple h1 _ ih=>
  simp only [V.sc,V.scs_iff]at hs
  exact .tuple h1 (fun i v c hv hc=>ih i v c hv hc (hs v (List.mem_of_getElem? hv)))
 | own h0 hb h1 h2=>
  have hs':=by simpa [V.sc] using hs
  exact .own h0 (by rw [hx.var _ hs']; exact hb) h1 (by rw [hx.room _ hs']; exact h2)
 |ownnil a b=>exact .ownnil a b
 |ownz a b c d=>exact .ownz a b c d
 |mapv hv=>exact .mapv (by rw [hx.var _ (by simpa [V.sc] using hs)]; exact hv)
 |iter hv=>exact .iter (by rw [hx.var _ (by simpa [V.sc] using hs)]; exact hv)
 |iface _ ih=>exact .iface (ih (by simpa [V.sc] using hs))
 |niliface=>exact .niliface
theorem VR.pure_ext {G G':Gh} (hi:∀b i v,G.imm b i=some v→G'.imm b i=some v) {v:V} {c:Value} (h:VR G v c) (hp:V.pure v=true):VR G' v c:=
 VR.ext (st:=⟨[],[]⟩) ⟨hi,fun _ h=>by simp at h,fun _ _ _ h=>by simp at h,fun _ h=>by simp at h⟩ h (V.sc_of_pure _ v hp)
end Go.Abs
end
