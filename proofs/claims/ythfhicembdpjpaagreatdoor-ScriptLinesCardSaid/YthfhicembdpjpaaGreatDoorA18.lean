/- Abstract values: a part. No condition beyond each statement's own. -/
import Derived.Test.YthfhicembdpjpaaGreatDoorA17
set_option linter.all false
section
namespace Go.Abs
open Go.RowKit (Below)
def rn (σ:List Nat) (n k:Nat):Nat:=match σ[k]? with|some i=>i|none=>n+(k-σ.length)
structure Ren where
 σ:List Nat
 n:Nat
 τ:List Nat
 m:Nat
mutual
def V.ren (R:Ren):V→V
  | .ptr id off=> .ptr (rn R.σ R.n id) off
  | .rsl id off len cap sz=> .rsl (rn R.σ R.n id) off len cap sz
  | .sl sz es tok=> .sl sz es (match tok with| .fam t p=> .fam (rn R.τ R.m t) p|k=>k)
  | .func fn a b=> .func fn (V.rens R a) (V.rens R b)
  | .agg cs=> .agg (V.rens R cs)
  | .tuple cs=> .tuple (V.rens R cs)
  | .own id n sz=> .own (rn R.σ R.n id) n sz
  | .mapv id=> .mapv (rn R.σ R.n id)
  | .iter id=> .iter (rn R.σ R.n id)
  | .bobj id k T s=> .bobj (rn R.σ R.n id) (rn R.σ R.n k) T s
  | .iface t v=> .iface t (V.ren R v)
  |v=>v
def V.rens (R:Ren):List V→List V
  | []=> []
  |v::vs=>V.ren R v::V.rens R vs
end
theorem V.rens_length (R:Ren) (l:List V):(V.rens R l).length=l.length:=by
 induction l with
 |nil=>rfl
 |cons v r ih=>simp [V.rens,ih]
theorem V.rens_get (R:Ren) (l:List V) (i:Nat):(V.rens R l)[i]? =(l[i]?).map (V.ren R):=by
 induction l generalizing i with
 |nil=>simp [V.rens]
 |cons v r ih=>cases i<;>simp [V.rens,ih]
structure Qg (R:Ren) (st1:St) (G1 G:Gh):Prop where
 imm:∀b i,G1.imm b i=G.imm b i
 var:∀k,k<st1.vars.length→G1.var k=G.var (rn R.σ R.n k)
 tip:∀(k p q:Nat),st1.fams[k]? =some q→p≤q→G1.tip k p=G.tip (rn R.τ R.m k) p
 room:∀k,k<st1.vars.length→G1.room k=G.room (rn R.σ R.n k)
theorem Qg.vr {R:Ren} {st1:St} {G1 G:Gh} (h:Qg R st1 G1 G) {v:V} {c:Value} (hs:V.sc st1 v):VR G1 v c↔VR G (V.ren R v) c:=by
 constructor
 ·intro hv
  induction hv with
  |junk c=>exact .junk c
  |bool b=>exact .bool b
  |int k n=>exact .int k n
  |str s=>exact .str s
  |ptr hb=>exact .ptr (by rw [←h.var _ (by simpa [V.sc] using hs)]; exact hb)
  |nilp=>exact .nilp
  |gptr g off=>exact .gptr g off
  |eptr hr=>exact .eptr (fun j v hv=>(hr j v hv).mono fun b i v h'=>by rw [←h.imm]; exact h')
  | @sl sz es tok b o cap hr ht hc=>
   have hr':bo G b o sz es:=fun i e he=>⟨(hr i e he).1,fun j v hv=>((hr i e he).2 j v hv).mono fun b i v h'=>by rw [←h.imm]; exact h'⟩
   cases tok with
   |none=>exact .sl hr' trivial hc
   |exact=>exact .sl hr' ht hc
   | fam t p=>
    simp only [V.ren]
    obtain⟨lim,h1,h2⟩:=ht
    simp only [V.sc]at hs
    obtain⟨q,hq,hp⟩:=hs
    exact .sl hr' ⟨lim,by rw [←h.tip t p q hq hp]; exact h1,h2⟩ hc
  |slnil=>exact .slnil _ _
  |slz=>exact .slz _ _
  |nilsl=>exact .nilsl
  |rsl hb=>exact .rsl (by rw [←h.var _ (by simpa [V.sc] using hs)]; exact hb)
  | func h1 _ h2 _ ih1 ih2=>
   simp only [V.sc,V.scs_iff]at hs
   refine .func (by rw [V.rens_length]; exact h1) ?_ (by rw [V.rens_length]; exact h2) ?_
   ·intro i v c hv hc
    rw [V.rens_get]at hv
    obtain⟨u,hu,rfl⟩:=Option.map_eq_some_iff.1 hv
    exact ih1 i u c hu hc (hs.1 u (List.mem_of_getElem? hu))
   ·intro i v c hv hc
    rw [V.rens_get]at hv
    obtain⟨u,hu,rfl⟩:=Option.map_eq_some_iff.1 hv
    exact ih2 i u c hu hc (hs.2 u (List.mem_of_getElem? hu))
  |nilfunc=>exact .nilfunc
  | agg h1 _ ih=>
   simp only [V.sc,V.scs_iff]at hs
   refine .agg (by rw [V.rens_length]; exact h1) ?_
   intro i v c hv hc
   rw [V.rens_get]at hv
   obtain⟨u,hu,rfl⟩:=Option.map_eq_some_iff.1 hv
   exact ih i u c hu hc (hs u (List.mem_of_getElem? hu))
  | tuple h1 _ ih=>
   simp only [V.sc,V.scs_iff]at hs
   refine .tuple (by rw [V.rens_length]; exact h1) ?_
   intro i v c hv hc
   rw [V.rens_get]at hv
   obtain⟨u,hu,rfl⟩:=Option.map_eq_some_iff.1 hv
   exact ih i u c hu hc (hs u (List.mem_of_getElem? hu))
  | own h0 hb h1 h2=>
   have hs':=by simpa [V.sc] using hs
   exact .own h0 (by rw [←h.var _ hs']; exact hb) h1 (by rw [←h.room _ hs']; exact h2)
  |ownnil a b=>exact .ownnil _ _
  |ownz a b c d=>exact .ownz _ _ _ _
  |mapv hb=>exact .mapv (by rw [←h.var _ (by simpa [V.sc] using hs)]; exact hb)
  |iter hb=>exact .iter (by rw [←h.var _ (by simpa [V.sc] using hs)]; exact hb)
  |iface _ ih=>exact .iface (ih (by simpa [V.sc] using hs))
  |niliface=>exact .niliface
 ·intro hv
  generalize hw:V.ren R v=w at hv
  induction hv generalizing v with
  |junk c=>cases v<;>simp [V.ren]at hw; exact .junk c
  |bool b=>cases v<;>simp [V.ren]at hw; subst hw; exact .bool _
  |int k n=>cases v<;>simp [V.ren]at hw; obtain⟨rfl,rfl⟩:=hw; exact .int _ _
  |str s=>cases v<;>simp [V.ren]at hw; subst hw; exact .str _
  | ptr hb=>
   cases v<;>simp [V.ren]at hw
   obtain⟨rfl,rfl⟩:=hw
   exact .ptr (by rw [h.var _ (by simpa [V.sc] using hs)]; exact hb)
  |nilp=>cases v<;>simp [V.ren]at hw; exact .nilp
  |gptr g off=>cases v<;>simp [V.ren]at hw; obtain⟨rfl,rfl⟩:=hw; exact .gptr _ _
  | eptr hr=>
   cases v<;>simp [V.ren]at hw
   obtain⟨rfl,rfl⟩:=hw
   exact .eptr (fun j v hv=>(hr j v hv).mono fun b i v h'=>by rw [h.imm]; exact h')
  | @sl sz es tok b o cap hr ht hc=>
   cases v<;>simp only [V.ren,V.sl.injEq,reduceCtorEq]at hw
   rename_i sz' es' tok'
   obtain⟨rfl,rfl,hw⟩:=hw
   have hr':bo G1 b o sz' es':=fun i e he=>⟨(hr i e he).1,fun j v hv=>((hr i e he).2 j v hv).mono fun b i v h'=>by rw [h.imm]; exact h'⟩
   cases tok' with
   |none=>subst hw; exact .sl hr' trivial hc
   |exact=>subst hw; exact .sl hr' ht hc
   | fam t p=>
    subst hw
    obtain⟨lim,h1,h2⟩:=ht
    simp only [V.sc]at hs
    obtain⟨q,hq,hp⟩:=hs
    exact .sl hr' ⟨lim,by rw [h.tip t p q hq hp]; exact h1,h2⟩ hc
  | slnil=>
   cases v<;>simp only [V.ren,V.sl.injEq,reduceCtorEq]at hw
   obtain⟨rfl,rfl,hw⟩:=hw
   exact .slnil _ _
  | slz=>
   cases v<;>simp only [V.ren,V.sl.injEq,reduceCtorEq]at hw
   rename_i tok'
   obtain⟨rfl,rfl,hw⟩:=hw
   cases tok' with
   |none=>exact .slz _ _
   |exact=>cases hw
   |fam t p=>cases hw
  |nilsl=>cases v<;>simp [V.ren]at hw; exact .nilsl
  | rsl hb=>
   cases v<;>simp [V.ren]at hw
   obtain⟨rfl,rfl,rfl,rfl,rfl⟩:=hw
   exact .rsl (by rw [h.var _ (by simpa [V.sc] using hs)]; exact hb)
  | func h1 _ h2 _ ih1 ih2=>
   cases v<;>simp only [V.ren,V.func.injEq,reduceCtorEq]at hw
   obtain⟨rfl,rfl,rfl⟩:=hw
   simp only [V.sc,V.scs_iff]at hs
   rw [V.rens_length]at h1 h2
   refine .func h1 ?_ h2 ?_
   ·intro i v c hv hc
    exact ih1 i (V.ren R v) c (by rw [V.rens_get,hv]; rfl) hc (hs.1 v (List.mem_of_getElem? hv)) rfl
   ·intro i v c hv hc
    exact ih2 i (V.ren R v) c (by rw [V.rens_get,hv]; rfl) hc (hs.2 v (List.mem_of_getElem? hv)) rfl
  |nilfunc=>cases v<;>simp [V.ren]at hw; exact .nilfunc
  | agg h1 _ ih=>
   cases v<;>simp only [V.ren,V.agg.injEq,reduceCtorEq]at hw
   subst hw
   simp only [V.sc,V.scs_iff]at hs
   rw [V.rens_length]at h1
   refine .agg h1 ?_
   intro i v c hv hc
   exact ih i (V.ren R v) c (by rw [V.rens_get,hv]; rfl) hc (hs v (List.mem_of_getElem? hv)) rfl
  | tuple h1 _ ih=>
   cases v<;>simp only [V.ren,V.tuple.injEq,reduceCtorEq]at hw
   subst hw
   simp only [V.sc,V.scs_iff]at hs
   rw [V.rens_length]at h1
   refine .tuple h1 ?_
   intro i v c hv hc
   exact ih i (V.ren R v) c (by rw [V.rens_get,hv]; rfl) hc (hs v (List.mem_of_getElem? hv)) rfl
  | own h0 hb h1 h2=>
   cases v<;>simp [V.ren]at hw
   obtain⟨rfl,rfl,rfl⟩:=hw
   have hs':=by simpa [V.sc] using hs
   exact .own h0 (by rw [h.var _ hs']; exact hb) h1 (by rw [h.room _ hs']; exact h2)
  | ownnil a b=>
   cases v<;>simp [V.ren]at hw
   obtain⟨rfl,rfl,rfl⟩:=hw
   exact .ownnil _ _
  | ownz a b c d=>
   cases v<;>simp [V.ren]at hw
   obtain⟨rfl,rfl,rfl⟩:=hw
   exact .ownz _ _ _ _
  | mapv hb=>
   cases v<;>simp [V.ren]at hw
   subst hw
   exact .mapv (by rw [h.var _ (by simpa [V.sc] using hs)]; exact hb)
  | iter hb=>
   cases v<;>simp [V.ren]at hw
   subst hw
   exact .iter (by rw [h.var _ (by simpa [V.sc] using hs)]; exact hb)
  | iface _ ih=>
   cases v<;>simp only [V.ren,V.iface.injEq,reduceCtorEq]at hw
   obtain⟨rfl,rfl⟩:=hw
   exact .iface (ih (by simpa [V.sc] using hs) rfl)
  |niliface=>cases v<;>simp [V.ren]at hw; exact .niliface
theorem Qg.vrs {R:Ren} {st1:St} {G1 G:Gh} (h:Qg R st1 G1 G) {vs:List V} {cs:Array Value} (hs:V.scs st1 vs):VRs G1 vs cs↔VRs G (V.rens R vs) cs:=by
 rw [V.scs_iff]at hs
 constructor
 ·rintro⟨h1,h2⟩
  refine⟨by rw [V.rens_length]; exact h1, ?_⟩
  intro i v c hv hc
  rw [V.rens_get]at hv
  obtain⟨u,hu,rfl⟩:=Option.map_eq_some_iff.1 hv
  exact(h.vr (hs u (List.mem_of_getElem? hu))).1 (h2 i u c hu hc)
 ·rintro⟨h1,h2⟩
  rw [V.rens_length]at h1
  refine⟨h1, ?_⟩
  intro i v c hv hc
  exact(h.vr (hs v (List.mem_of_getElem? hv))).2 (h2 i _ c (by rw [V.rens_get,hv]; rfl) hc)
theorem Qg.vo {R:Ren} {st1:St} {G1 G:Gh} (h:Qg R st1 G1 G) {vs:List V} {o:Obj} {r:Nat} (hs:V.scs st1 vs):VO G1 r vs o↔VO G r (V.rens R vs) o:=by
 have hs':=(V.scs_iff st1 vs).1 hs
 constructor
 ·intro ho
  cases ho with
  | cells h1 h2 h3=>
   refine .cells (by rw [V.rens_length]; exact h1) ?_ h3
   intro i v c hv hc
   rw [V.rens_get]at hv
   obtain⟨u,hu,rfl⟩:=Option.map_eq_some_iff.1 hv
   exact(h.vr (hs' u (List.mem_of_getElem? hu))).1 (h2 i u c hu hc)
  |mp h0 h1=>exact .mp h0 ⟨h1.1,fun i v c hv hc=>(h1.2 i v c hv hc).pure_ext (fun b j u hu=>by rw [←h.imm]; exact hu) (h0 v (List.mem_of_getElem? hv))⟩
  |sit s p=>exact .sit s p
  |buf h0 h1 h2 h3=>exact .buf h0 h1 (fun i v c hv hc=>(h2 i v c hv hc).pure_ext (fun b j u hu=>by rw [←h.imm]; exact hu) (V.pure_of_pcell (h0 v (List.mem_of_getElem? hv)))) h3
  | bobj h1 h2=>
   have hs2:_∧_:=hs.1
   exact .bobj (h1.imp id fun⟨b,q1,q2⟩=>⟨b,by rw [←h.var _ hs2.1]; exact q1,q2⟩) (h2.imp id fun⟨q0,b,q1,q2⟩=>⟨q0,b,by rw [←h.var _ hs2.2]; exact q1,by rw [←h.room _ hs2.2]; exact q2⟩)
  |bbuf h0 h1 h2 h3 h4=>exact .bbuf h0 h1 h2 h3 h4
 ·intro ho
  generalize hw:V.rens R vs=ws at ho
  cases ho with
  | cells h1 h2 h3=>
   subst hw
   refine .cells (by rw [V.rens_length]at h1; exact h1) ?_ h3
   intro i v c hv hc
   exact(h.vr (hs' v (List.mem_of_getElem? hv))).2 (h2 i _ c (by rw [V.rens_get,hv]; rfl) hc)
  | mp h0 h1=>
   match vs,hw with
   | [v],hw=>
    cases v<;>simp [V.rens,V.ren]at hw
    subst hw
    exact .mp h0 ⟨h1.1,fun i v c hv hc=>(h1.2 i v c hv hc).pure_ext (fun b j u hu=>by rw [h.imm]; exact hu) (h0 v (List.mem_of_getElem? hv))⟩
   |v::_::_,hw=>simp [V.rens]at hw
  | sit s p=>
   match vs,hw with
   | [v],hw=>cases v<;>simp [V.rens,V.ren]at hw; obtain⟨rfl,rfl⟩:=hw; exact .sit s _
   |v::_::_,hw=>simp [V.rens]at hw
  | buf h0 h1 h2 h3=>
   match vs,hw with
   | [v],hw=>
    cases v<;>simp [V.rens,V.ren]at hw
    subst hw
    exact .buf h0 h1 (fun i v c hv hc=>(h2 i v c hv hc).pure_ext (fun b j u hu=>by rw [h.imm]; exact hu) (V.pure_of_pcell (h0 v (List.mem_of_getElem? hv)))) h3
   |v::_::_,hw=>simp [V.rens]at hw
  | bobj h1 h2=>
   match vs,hw with
   | [v],hw=>
    cases v<;>simp [V.rens,V.ren]at hw
    obtain⟨rfl,rfl,rfl,rfl⟩:=hw
    have hs2:_∧_:=hs.1
    exact .bobj (h1.imp id fun⟨b,q1,q2⟩=>⟨b,by rw [h.var _ hs2.1]; exact q1,q2⟩) (h2.imp id fun⟨q0,b,q1,q2⟩=>⟨q0,b,by rw [h.var _ hs2.2]; exact q1,by rw [h.room _ hs2.2]; exact q2⟩)
   |v::_::_,hw=>simp [V.rens]at hw
  | bbuf h0 h1 h2 h3 h4=>
   match vs,hw with
   | [v],hw=>
    cases v<;>simp [V.rens,V.ren]at hw
    obtain⟨rfl,rfl⟩:=hw
    exact .bbuf h0 h1 h2 h3 h4
   |v::_::_,hw=>simp [V.rens]at hw
theorem V.gone_rens (R:Ren) (cs:List V):V.gone (V.rens R cs)=V.gone cs:=by
 match cs with
 | []=>rfl
 | [v]=>cases v<;>simp only [V.rens,V.ren]<;>rfl
 |v::u::r=>simp only [V.rens]; cases v<;>simp [V.ren,V.gone]
def V.ps:V→Bool
 | .mp _=>true
 | .sit _ _=>true
 | .buf _=>true
 | .bobj .. => true
 | .bbuf .. => true
 |_=>false
def dU:List V→List V→Prop
 | [],[]=>True
 |a::r,b::s=>(VLe a b∧(b.ps=true→a=b))∧dU r s
 |_,_=>False
theorem dU.refl:∀l:List V,dU l l
 | []=>trivial
 |v::r=>⟨⟨.refl v,fun _=>rfl⟩,dU.refl r⟩
theorem dU.length:∀ {a b:List V},dU a b→a.length=b.length
 | [],[],_=>rfl
 |_::_,_::_,h=>by simp [dU.length h.2]
 | [],_::_,h=>h.elim
 |_::_,[],h=>h.elim
theorem dU.get:∀ {a b:List V},dU a b→∀(i:Nat) (u v:V),a[i]? =some u→b[i]? =some v→VLe u v
 | [],[],_,i,u,v,h1,h2=>by simp at h1
 |_::_,_::_,h,0,u,v,h1,h2=>by simp at h1 h2; subst h1 h2; exact h.1.1
 |_::_,_::_,h,i+1,u,v,h1,h2=>dU.get h.2 i u v (O7 h1) (O7 h2)
 | [],_::_,h,_,_,_,_,_=>h.elim
 |_::_,[],h,_,_,_,_,_=>h.elim
theorem dU.vrs {a b:List V} (h:dU a b) {G:Gh} {cs:Array Value} (hv:VRs G b cs):VRs G a cs:=by
 refine⟨by rw [h.length]; exact hv.1, ?_⟩
 intro i u c hu hc
 have hi:i<b.length:=by
  rw [←h.length]
  rcases Nat.lt_or_ge i a.length with h'|h'
  ·exact h'
  ·rw [List.getElem?_eq_none h']at hu; cases hu
 exact h.get i u _ hu (List.getElem?_eq_getElem hi) G c (hv.2 i _ c (List.getElem?_eq_getElem hi) hc)
theorem dU.vo {a b:List V} (h:dU a b) {G:Gh} {r:Nat} {o:Obj} (hv:VO G r b o):VO G r a o:=by
 cases hv with
 | cells h1 h2 h3=>
  refine .cells (by rw [h.length]; exact h1) ?_ h3
  intro i u c hu hc
  have hi:i<b.length:=by rw [←h.length]; exact yj hu
  exact h.get i u _ hu (List.getElem?_eq_getElem hi) G c (h2 i _ c (List.getElem?_eq_getElem hi) hc)
 | mp h0 h1=>
  match a,h with
  | [x],h=>have:=h.1.2 rfl; subst this; exact .mp h0 h1
 | sit s p=>
  match a,h with
  | [x],h=>have:=h.1.2 rfl; subst this; exact .sit s p
 | buf h0 h1 h2 h3=>
  match a,h with
  | [x],h=>have:=h.1.2 rfl; subst this; exact .buf h0 h1 h2 h3
 | bobj h1 h2=>
  match a,h with
  | [x],h=>have:=h.1.2 rfl; subst this; exact .bobj h1 h2
 | bbuf h0 h1 h2 h3 h4=>
  match a,h with
  | [x],h=>have:=h.1.2 rfl; subst this; exact .bbuf h0 h1 h2 h3 h4
theorem dU.gone {a b:List V} (h:dU a b) (hb:V.gone b=true):V.gone a=true:=by
 match b,a,h with
 | [],a,h=>
  have:=h.length
  rw [List.eq_nil_of_length_eq_zero this]; rfl
 | [v],[x],h=>
  cases v<;>first|(cases hb; done)|(have:=h.1.2 rfl; subst this; exact hb)
 |v::u::r,_,_=>simp [V.gone]at hb
theorem dU.live {R:Ren} {cs d:List V} (h:dU (V.rens R cs) d) (hn:V.gone cs=false):V.gone d=false:=by
 cases hd:V.gone d with
 |false=>rfl
 | true=>
  have:=h.gone hd
  rw [V.gone_rens,hn]at this; cases this
structure Emb (R:Ren) (st1 st:St):Prop where
 lenσ:R.σ.length=st1.vars.length
 n:R.n=st.vars.length
 lenτ:R.τ.length=st1.fams.length
 m:R.m=st.fams.length
 nodupσ:R.σ.Nodup
 nodupτ:R.τ.Nodup
 vars:∀(k:Nat) (cs:List V),st1.vars[k]? =some cs→V.scs st1 cs∧∃i d,R.σ[k]? =some i∧st.vars[i]? =some d∧dU (V.rens R cs) d
 fams:∀(k p:Nat),st1.fams[k]? =some p→∃i,R.τ[k]? =some i∧st.fams[i]? =some p
theorem WN {l:List Nat} (h:l.Nodup) {i j k:Nat} (hi:l[i]? =some k) (hj:l[j]? =some k):i=j:=by
 have h1:=yj hi
 have h2:=yj hj
 rw [List.getElem?_eq_getElem h1]at hi
 rw [List.getElem?_eq_getElem h2]at hj
 injection hi with hi; injection hj with hj
 have hp:=List.pairwise_iff_getElem.1 h
 rcases Nat.lt_trichotomy i j with hlt|he|hlt
 ·exact absurd (hi.trans hj.symm) (hp i j h1 h2 hlt)
 ·exact he
 ·exact absurd (hj.trans hi.symm) (hp j i h2 h1 hlt)
def Gh.pull (G:Gh) (R:Ren):Gh:={imm:=G.imm,var:=fun k=>G.var (rn R.σ R.n k),tip:=fun t p=>G.tip (rn R.τ R.m t) p,room:=fun k=>G.room (rn R.σ R.n k)}
theorem Gh.pull_pull (G:Gh) (R:Ren) (st1:St):Qg R st1 (G.pull R) G:=⟨fun _ _=>rfl,fun _ _=>rfl,fun _ _ _ _ _=>rfl,fun _ _=>rfl⟩
section
variable {gl:Nat→List V} {w0:qQ} {G:Gh} {st st1:St} {w:World} {R:Ren}
theorem Emb.rnσ (h:Emb R st1 st) {k:Nat} (hk:k<st1.vars.length):∃i,R.σ[k]? =some i∧rn R.σ R.n k=i∧i<st.vars.length:=by
 obtain⟨_,i,d,h1,h2,_⟩:=h.vars k _ (List.getElem?_eq_getElem hk)
 exact⟨i,h1,by simp [rn,h1],yj h2⟩
theorem Emb.rnτ (h:Emb R st1 st) {k p:Nat} (hk:st1.fams[k]? =some p):∃i,R.τ[k]? =some i∧rn R.τ R.m k=i∧st.fams[i]? =some p:=by
 obtain⟨i,h1,h2⟩:=h.fams k p hk
 exact⟨i,h1,by simp [rn,h1],h2⟩
theorem Rel.embed (h:Rel gl w0 G st w) (he:Emb R st1 st) {B:qQ} (hk:XO B w) (hI:∀b i,¬B.mine b→G.imm b i=B.I b i) (hg:∀g,gl g≠ []→¬B.mine g)
  (hv:∀(k b:Nat) (cs:List V),st1.vars[k]? =some cs→V.gone cs=false→G.var (rn R.σ R.n k)=some b→B.mine b) (ht:∀k p b e l,st1.fams[k]? =some p→G.tip (rn R.τ R.m k) p=some (b,e,l)→B.mine b):Rel gl B (G.pull R) st1 w where
 below:=hk
 vars:=by
  intro k cs hcs hn
  obtain⟨hs,i,d,h1,h2,h3⟩:=he.vars k cs hcs
  have hdn:=h3.live hn
  obtain⟨b,o,k1,k2,k3,k4,k5⟩:=h.vars i d h2 hdn
  have hr:rn R.σ R.n k=i:=by simp [rn,h1]
  refine⟨b,o,by simp [Gh.pull,hr,k1],hv k b cs hcs hn (by rw [hr]; exact k1),k3, ?_,k5⟩
  have:(G.pull R).room k=G.room i:=by simp [Gh.pull,hr]
  rw [this]
  exact((G.pull_pull R st1).vo hs).2 (h3.vo k4)
 varlt:=by
  intro k b hk hb
  obtain⟨i,a1,a2,a3⟩:=he.rnσ hk
  simp only [Gh.pull,a2]at hb
  exact h.varlt i b a3 hb
 sc:=fun k cs hcs=>(he.vars k cs hcs).1
 disj:=by
  intro i j b ci cj hi hni hj hnj h1 h2
  obtain⟨_,i',di,a1,a2,a3⟩:=he.vars i ci hi
  obtain⟨_,j',dj,b1,b2,b3⟩:=he.vars j cj hj
  have hdi:=a3.live hni
  have hdj:=b3.live hnj
  have e1:rn R.σ R.n i=i':=by simp [rn,a1]
  have e2:rn R.σ R.n j=j':=by simp [rn,b1]
  simp only [Gh.pull,e1,e2]at h1 h2
  have:=h.disj i' j' b _ _ a2 hdi b2 hdj h1 h2
  subst this
  exact WN he.nodupσ a1 b1
 imm:=by
  intro b i v hv'
  obtain⟨hp,c,hc,hr⟩:=h.imm b i v hv'
  exact⟨hp,c,hc,VR.pure_ext (G:=G) (G':=G.pull R) (fun _ _ _ x=>x) hr (V.pure_of_pcell hp)⟩
 fam:=by
  intro t p b e lim hp h1
  obtain⟨i,a1,a2,a3⟩:=he.rnτ hp
  have h1':G.tip i p=some (b,e,lim):=by simpa [Gh.pull,a2] using h1
  obtain⟨h2,C,el,h3,h4,h5,h6⟩:=h.fam i p b e lim a3 h1'
  refine⟨ht t p b e lim hp (by rw [a2]; exact h1'),C,el,h3,h4,h5, ?_⟩
  intro id cs hid hn
  obtain⟨_,j,d,b1,b2,b3⟩:=he.vars id cs hid
  have hdn:=b3.live hn
  have e1:rn R.σ R.n id=j:=by simp [rn,b1]
  simp only [Gh.pull,e1]
  exact h6 j d b2 hdn
 famdisj:=by
  intro t t' p p' b e l e' l' h1 h2 g1 g2
  obtain⟨i,a1,a2,a3⟩:=he.rnτ h1
  obtain⟨j,b1,b2,b3⟩:=he.rnτ h2
  simp only [Gh.pull,a2,b2]at g1 g2
  have:=h.famdisj i j p p' b e l e' l' a3 b3 g1 g2
  subst this
  exact WN he.nodupτ a1 b1
 glob:=h.glob
 gfix:=by
  intro g hn
  obtain⟨h1,C,el,fz,h2,h3⟩:=h.gfix g hn
  have hm:=hg g hn
  refine⟨hm,C,el,fz, ?_,h3⟩
  have e1:w.heap[g]? =B.w.heap[g]? :=hk.heap g (Nat.lt_of_not_le fun h=>hm (.inl h)) (fun h=>hm (.inr h))
  have e2:w.heap[g]? =w0.w.heap[g]? :=h.below.heap g (Nat.lt_of_not_le fun h=>h1 (.inl h)) (fun h=>h1 (.inr h))
  rw [←e1,e2]; exact h2
 old:=hI
end
end Go.Abs
end
