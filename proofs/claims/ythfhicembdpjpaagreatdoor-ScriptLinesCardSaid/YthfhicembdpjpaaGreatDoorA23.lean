/- Abstract values: a part. No condition beyond each statement's own. -/
import Derived.Test.YthfhicembdpjpaaGreatDoorA22
set_option linter.all false
section
namespace Go.Abs
open Go.RowKit (Below)
mutual
def V.shr:V→V→V
  | .sl sz _ tok, .nilsl=> .sl sz [] tok
  | .own id _ sz, .nilsl=> .own id 0 sz
  | .sl _ _ .none, .sl sz es _=> .sl sz es .none
  | .agg us, .agg vs=> .agg (V.shrs us vs)
  | .tuple us, .tuple vs=> .tuple (V.shrs us vs)
  |_,v=>v
def V.shrs:List V→List V→List V
  |u::us,v::vs=>V.shr u v::V.shrs us vs
  |_,vs=>vs
end
mutual
def V.nok (nv nf:Nat):V→V→Bool
  | .sl _ _ (.fam t p), .nilsl=>decide (t<nf)&&p==0
  | .own id _ _, .nilsl=>decide (id<nv)
  | .agg us, .agg vs=>V.noks nv nf us vs
  | .tuple us, .tuple vs=>V.noks nv nf us vs
  |_,_=>true
def V.noks (nv nf:Nat):List V→List V→Bool
  |u::us,v::vs=>V.nok nv nf u v&&V.noks nv nf us vs
  |_,_=>true
end
theorem V.shrs_length:∀us vs:List V,(V.shrs us vs).length=vs.length
 | [],vs=>by simp [V.shrs]
 |_::_,[]=>by simp [V.shrs]
 |u::us,v::vs=>by simp [V.shrs,V.shrs_length us vs]
mutual
theorem V.shr_le:∀u v:V,VLe (V.shr u v) v
  | .sl sz es tok,v=>by
    cases v with
    |nilsl=>simp only [V.shr]; exact VLe.nil sz tok
    |sl sz' es' tok'=>cases tok<;>simp only [V.shr]<;>first|exact VLe.sl _ _ _|exact VLe.refl _
    |_=>cases tok<;>exact VLe.refl _
  | .agg us,v=>by
    cases v with
    |agg vs=>simp only [V.shr]; exact VLe.agg (V.shrs_length us vs) (V.shrs_le us vs).get
    |_=>exact VLe.refl _
  | .tuple us,v=>by
    cases v with
    |tuple vs=>simp only [V.shr]; exact VLe.tuple (V.shrs_length us vs) (V.shrs_le us vs).get
    |_=>exact VLe.refl _
  | .junk,v=>by cases v<;>exact VLe.refl _
  | .bool _,v=>by cases v<;>exact VLe.refl _
  | .int _ _,v=>by cases v<;>exact VLe.refl _
  | .str _,v=>by cases v<;>exact VLe.refl _
  | .ptr _ _,v=>by cases v<;>exact VLe.refl _
  | .nilp,v=>by cases v<;>exact VLe.refl _
  | .gptr _ _,v=>by cases v<;>exact VLe.refl _
  | .eptr _ _,v=>by cases v<;>exact VLe.refl _
  | .nilsl,v=>by cases v<;>exact VLe.refl _
  | .rsl ..,v=>by cases v<;>exact VLe.refl _
  | .func ..,v=>by cases v<;>exact VLe.refl _
  | .nilfunc,v=>by cases v<;>exact VLe.refl _
  | .own id n sz,v=>by
    cases v with
    |nilsl=>simp only [V.shr]; intro G c h; cases h; exact .ownnil _ _
    |_=>exact VLe.refl _
  | .mapv _,v=>by cases v<;>exact VLe.refl _
  | .iter _,v=>by cases v<;>exact VLe.refl _
  | .iface _ _,v=>by cases v<;>exact VLe.refl _
  | .niliface,v=>by cases v<;>exact VLe.refl _
  | .mp _,v=>by cases v<;>exact VLe.refl _
  | .sit _ _,v=>by cases v<;>exact VLe.refl _
  | .buf _,v=>by cases v<;>exact VLe.refl _
  | .bobj ..,v=>by cases v<;>exact VLe.refl _
  | .bbuf ..,v=>by cases v<;>exact VLe.refl _
theorem V.shrs_le:∀us vs:List V,dU (V.shrs us vs) vs
  | [],vs=>by simp only [V.shrs]; exact dU.refl vs
  |_::_,[]=>by simp only [V.shrs]; exact dU.refl []
  |u::us,v::vs=>⟨⟨V.shr_le u v,fun h=>by cases v<;>first|(cases h; done)|(cases u<;>rfl)⟩,V.shrs_le us vs⟩
end
mutual
theorem V.sc_shr (st:St):∀u v:V,V.nok st.vars.length st.fams.length u v=true→V.sc st v→V.sc st (V.shr u v)
  | .sl sz es tok,v,h,hs=>by
    cases v with
    | nilsl=>
      cases tok with
      | fam t p=>
        simp only [V.nok,iE,decide_eq_true_eq,beq_iff_eq]at h
        simp only [V.shr,V.sc]
        exact⟨_,List.getElem?_eq_getElem h.1,O0⟩
      |_=>simp [V.shr,V.sc]
    |sl sz' es' tok'=>cases tok<;>simp only [V.shr]<;>first|exact hs|simp [V.sc]
    |_=>cases tok<;>exact hs
  | .agg us,v,h,hs=>by
    cases v with
    |agg vs=>simp only [V.shr,V.sc,V.nok]at *; exact V.scs_shrs st us vs h hs
    |_=>exact hs
  | .tuple us,v,h,hs=>by
    cases v with
    |tuple vs=>simp only [V.shr,V.sc,V.nok]at *; exact V.scs_shrs st us vs h hs
    |_=>exact hs
  | .junk,v,_,hs=>by cases v<;>exact hs
  | .bool _,v,_,hs=>by cases v<;>exact hs
  | .int _ _,v,_,hs=>by cases v<;>exact hs
  | .str _,v,_,hs=>by cases v<;>exact hs
  | .ptr _ _,v,_,hs=>by cases v<;>exact hs
  | .nilp,v,_,hs=>by cases v<;>exact hs
  | .gptr _ _,v,_,hs=>by cases v<;>exact hs
  | .eptr _ _,v,_,hs=>by cases v<;>exact hs
  | .nilsl,v,_,hs=>by cases v<;>exact hs
  | .rsl ..,v,_,hs=>by cases v<;>exact hs
  | .func ..,v,_,hs=>by cases v<;>exact hs
  | .nilfunc,v,_,hs=>by cases v<;>exact hs
  | .own id n sz,v,h,hs=>by
    cases v with
    |nilsl=>simpa [V.shr,V.sc,V.nok] using h
    |_=>exact hs
  | .mapv _,v,_,hs=>by cases v<;>exact hs
  | .iter _,v,_,hs=>by cases v<;>exact hs
  | .iface _ _,v,_,hs=>by cases v<;>exact hs
  | .niliface,v,_,hs=>by cases v<;>exact hs
  | .mp _,v,_,hs=>by cases v<;>exact hs
  | .sit _ _,v,_,hs=>by cases v<;>exact hs
  | .buf _,v,_,hs=>by cases v<;>exact hs
  | .bobj ..,v,_,hs=>by cases v<;>exact hs
  | .bbuf ..,v,_,hs=>by cases v<;>exact hs
theorem V.scs_shrs (st:St):∀us vs:List V,V.noks st.vars.length st.fams.length us vs=true→V.scs st vs→V.scs st (V.shrs us vs)
  | [],vs,_,hs=>by simp only [V.shrs]; exact hs
  |_::_,[],_,hs=>by simp only [V.shrs]; exact hs
  | u::us,v::vs,h,hs=>by
    simp only [V.noks,iE]at h
    exact⟨V.sc_shr st u v h.1 hs.1,V.scs_shrs st us vs h.2 hs.2⟩
end
def cz (R:Ren) (st1 st:St):List (List V):=(R.σ.zip st1.vars).map fun x=>V.shrs (V.rens R x.2) (st.vars.getD x.1 [])
def Dc (R:Ren) (st1 st:St):Bool:=
 DF R st1 st&&R.σ.all (fun i=>decide (i<st.vars.length))&&st1.vars.all (V.ltss st1.vars.length st1.fams.length)&&(R.σ.zip st1.vars).all (fun x=>V.noks st.vars.length st.fams.length (V.rens R x.2) (st.vars.getD x.1 []))
theorem Emb.gen {R:Ren} {st1 st:St} (h1:Dc R st1 st=true) (h2:st1.vars.map (V.rens R)=cz R st1 st) (h3:R.τ.map (fun i=>st.fams[i]?)=st1.fams.map some) (hok:st.ok):Emb R st1 st:=by
 simp only [Dc,DF,iE,beq_iff_eq,decide_eq_true_eq,List.all_eq_true]at h1
 obtain⟨⟨⟨⟨⟨⟨⟨⟨a1,a2⟩,a3⟩,a4⟩,a5⟩,a6⟩,a7⟩,a8⟩,a9⟩:=h1
 have hf:∀(k p:Nat),st1.fams[k]? =some p→∃i,R.τ[k]? =some i∧st.fams[i]? =some p:=by
  intro k p hp
  have hk:k<R.τ.length:=by rw [a3]; exact yj hp
  have:=congrArg (fun l=>l[k]?) h3
  simp only [List.getElem?_map,hp,List.getElem?_eq_getElem hk,Option.map_some,Option.some.injEq]at this
  exact⟨_,List.getElem?_eq_getElem hk,this⟩
 refine⟨a1,a2,a3,a4,a5,a6, ?_,hf⟩
 intro k cs hcs
 have hk:k<R.σ.length:=by rw [a1]; exact yj hcs
 have hlt:=a7 _ (List.getElem_mem hk)
 have hzip:(R.σ.zip st1.vars)[k]? =some (R.σ[k],cs):=by
  rw [List.getElem?_zip_eq_some]; exact⟨List.getElem?_eq_getElem hk,hcs⟩
 have heq:=congrArg (fun l=>l[k]?) h2
 simp only [cz,List.getElem?_map,hcs,hzip,Option.map_some,Option.some.injEq]at heq
 have hd:st.vars.getD R.σ[k] []=st.vars[R.σ[k]]:=by simp [List.getD_eq_getElem?_getD,hlt]
 have hnok:=a9 _ (List.mem_of_getElem? hzip)
 simp only [hd]at heq hnok
 have hsc:V.scs st (V.rens R cs):=by
  rw [heq]; exact V.scs_shrs st _ _ hnok (hok _ _ (List.getElem?_eq_getElem hlt))
 exact⟨V.scs_of_ren (fun k hk=>by omega) hf cs (a8 cs (List.mem_of_getElem? hcs)) hsc,_,_,List.getElem?_eq_getElem hk,List.getElem?_eq_getElem hlt,by rw [heq]; exact V.shrs_le _ _⟩
def JL (R:Ren):List (List V)→List (List V)
 | []=> []
 |cs::r=>V.rens R cs::JL R r
def Qa (R:Ren) (old:List (List V)):List Nat→List (List V)→List (List V)
 |i::σ,cs::r=>V.shrs (V.rens R cs) (old.getD i [])::Qa R old σ r
 |_,_=> []
def JS:List Nat→List (Option Nat)
 | []=> []
 |p::r=>some p::JS r
def Qf (old:List Nat):List Nat→List (Option Nat)
 | []=> []
 |i::r=>old[i]? ::Qf old r
def UV (R:Ren):List (Nat×V)→List V
 | []=> []
 |(_,v)::r=>V.ren R v::UV R r
def U7 (R:Ren) (l0:List (Nat×V)):List (Nat×V)→List V
 | []=> []
 |(k,v)::r=>V.shr (V.ren R v) (wh l0 k)::U7 R l0 r
theorem Vw (R:Ren) (l:List (List V)):JL R l=l.map (V.rens R):=by
 induction l with
 |nil=>rfl
 |cons c r ih=>simp [JL,ih]
theorem Wi (R:Ren) (old:List (List V)):∀(σ:List Nat) (l:List (List V)),Qa R old σ l=(σ.zip l).map fun x=>V.shrs (V.rens R x.2) (old.getD x.1 [])
 | [],l=>by cases l<;>rfl
 |i::σ,[]=>rfl
 |i::σ,c::r=>by simp [Qa,Wi R old σ r]
theorem Uk (l:List Nat):JS l=l.map some:=by
 induction l with
 |nil=>rfl
 |cons c r ih=>simp [JS,ih]
theorem Uc (old l:List Nat):Qf old l=l.map fun i=>old[i]? :=by
 induction l with
 |nil=>rfl
 |cons c r ih=>simp [Qf,ih]
theorem Be (R:Ren) (l:List (Nat×V)):UV R l=l.map fun p=>V.ren R p.2:=by
 induction l with
 |nil=>rfl
 |cons c r ih=>obtain⟨k,v⟩:=c; simp [UV,ih]
theorem BA (R:Ren) (l0 l:List (Nat×V)):U7 R l0 l=l.map fun p=>V.shr (V.ren R p.2) (wh l0 p.1):=by
 induction l with
 |nil=>rfl
 |cons c r ih=>obtain⟨k,v⟩:=c; simp [U7,ih]
section
variable {s0 st st':St} {fr fr':AFr}
def wkB (s0:St) (R:Ren) (fr:AFr) (st:St) (fr':AFr) (st':St):Bool:=
 Dc R st' st&&KW s0 R&&fr'.n==fr.n&&fr'.l.all (fun p=>V.lts st'.vars.length st'.fams.length p.2&&V.nok st.vars.length st.fams.length (V.ren R p.2) (wh fr.l p.1))
def wkL (R:Ren) (fr':AFr) (st':St):List (List V)×List (Option Nat)×List V:=(JL R st'.vars,JS st'.fams,UV R fr'.l)
def wkR (R:Ren) (fr:AFr) (st:St) (fr':AFr) (st':St):List (List V)×List (Option Nat)×List V:=(Qa R st.vars R.σ st'.vars,Qf st.fams R.τ,U7 R fr.l fr'.l)
theorem Wk.gen (R:Ren) (hb:wkB s0 R fr st fr' st'=true) (he:wkL R fr' st'=wkR R fr st fr' st'):Wk s0 fr st fr' st':=by
 intro gl w0 G0 G w a g1 g2 g3 g4
 simp only [wkB,iE,beq_iff_eq]at hb
 obtain⟨⟨⟨h1,h4⟩,hn⟩,h6⟩:=hb
 injection he with h2 he; injection he with h3 h5
 rw [Vw,Wi]at h2
 rw [Uk,Uc]at h3
 rw [Be,BA]at h5
 have he:Emb R st' st:=Emb.gen h1 h2 h3.symm g3.sc
 simp only [KW,iE,beq_iff_eq,decide_eq_true_eq,List.all_eq_true,List.mem_range]at h4
 obtain⟨⟨⟨b1,b2⟩,b3⟩,b4⟩:=h4
 have hr:=g3.embed (B:=w0) he g3.below g3.old (fun g hn=>(g3.gfix g hn).1) (by
  intro k b cs hk hn hb
  obtain⟨_,i,d,a1,a3,a4⟩:=he.vars k cs hk
  have a2:rn R.σ R.n k=i:=by simp [rn,a1]
  rw [a2]at hb
  obtain⟨b',o,k1,k2,_⟩:=g3.vars i d a3 (a4.live hn)
  rw [hb]at k1; injection k1 with k1; subst k1; exact k2) (by
  intro k p b e l hp hb
  obtain⟨i,a1,a2,a3⟩:=he.rnτ hp
  rw [a2]at hb
  exact(g3.fam i p b e l a3 hb).1)
 refine⟨⟨by rw [←he.lenσ]; exact b1, ?_⟩,G.pull R, ?_,hr,g4.defers,by rw [g4.size,hn], ?_⟩
 ·intro t p hp
  have hlt:=yj hp
  obtain⟨q,hq,hpq⟩:=g1.fams t p hp
  have ht:=b4 t hlt
  have hk:t<st'.fams.length:=by rw [←he.lenτ]; exact yj ht
  obtain⟨i,a1,a2,a3⟩:=he.rnτ (List.getElem?_eq_getElem hk)
  rw [ht]at a1; injection a1 with a1; subst a1
  rw [hq]at a3; injection a3 with a3
  exact⟨q,by rw [a3]; exact List.getElem?_eq_getElem hk,hpq⟩
 ·refine ⟨g2.imm, ?_, ?_,fun id hid=>by rw [←g2.room id hid]; simp only [Gh.pull,rn,b2 id hid]⟩
  ·intro id hid
   rw [←g2.var id hid]
   simp only [Gh.pull,rn,b2 id hid]
  ·intro t p q hq hp
   rw [←g2.tip t p q hq hp]
   simp only [Gh.pull,rn,b4 t (yj hq)]
 ·intro t
  have key:wh fr'.l t= .junk∨(t,wh fr'.l t)∈fr'.l:=by
   generalize fr'.l=l
   induction l with
   |nil=>exact .inl rfl
   | cons x r ih=>
    obtain⟨k,v⟩:=x
    simp only [wh]
    split
    ·rename_i h; subst h; exact .inr O2
    ·rcases ih with h|h
     ·exact .inl h
     ·exact .inr (List.mem_cons_of_mem _ h)
  rcases key with h|h
  ·rw [h]; exact⟨by simp [V.sc], .junk _⟩
  ·have e1:V.ren R (wh fr'.l t)=V.shr (V.ren R (wh fr'.l t)) (wh fr.l t):=List.map_inj_left.1 h5 _ h
   have h6':=List.all_eq_true.1 h6 _ h
   simp only [iE]at h6'
   have hs:=g4.slot t
   have hsc0:V.sc st (V.ren R (wh fr'.l t)):=by rw [e1]; exact V.sc_shr st _ _ h6'.2 hs.1
   have hsc:=V.sc_of_ren (R:=R) (st1:=st') (st:=st) (fun k hk=>by rw [he.lenσ]; exact hk) he.fams _ h6'.1 hsc0
   refine⟨hsc,((G.pull_pull R st').vr hsc).2 ?_⟩
   rw [e1]; exact V.shr_le _ _ G _ hs.2
end
section
variable {P:Program} {T:TypeId→TI} {gl:Nat→List V} {ops:Array Oper} {K:AFr→St→Prop}
def JH (R:Ren) (st1 st:St) (args1 args:List V):Bool:=Dc R st1 st&&V.ltss st1.vars.length st1.fams.length args1&&V.noks st.vars.length st.fams.length (V.rens R args1) args
def callL (R:Ren) (st1:St) (args1:List V):List (List V)×List (Option Nat)×List V:=(JL R st1.vars,JS st1.fams,V.rens R args1)
def callR (R:Ren) (st1 st:St) (args1 args:List V):List (List V)×List (Option Nat)×List V:=(Qa R st.vars R.σ st1.vars,Qf st.fams R.τ,V.shrs (V.rens R args1) args)
def Gg (T:TypeId→TI) (gl:Nat→List V) (ops:Array Oper) (i k:Nat) (fr:AFr) (st:St):FuncId:=match Va T gl ops i k fr st with|some (f,_)=>f|none=>0
def J1 (T:TypeId→TI) (gl:Nat→List V) (ops:Array Oper) (i k:Nat) (fr:AFr) (st:St):List V:=match Va T gl ops i k fr st with|some (_,a)=>a|none=> []
def G4 (T:TypeId→TI) (gl:Nat→List V) (ops:Array Oper) (i k:Nat) (fr:AFr) (st:St):Bool:=(Va T gl ops i k fr st).isSome
theorem eK (hT:T=ti P) {i:Nat} {fr:AFr} {st:St} (k:Nat) (R:Ren) {f:FuncId} {args1:List V} {st1 st1':St} {r:V} (hc:wn P gl f args1 st1 (Out r st1'))
  (hb:(Nat.ble i k&&G4 T gl ops i k fr st&&Nat.beq (Gg T gl ops i k fr st) f&&JH R st1 (bD T gl ops i k fr st).2 args1 (J1 T gl ops i k fr st))=true)
  (he:callL R st1 args1=callR R st1 (bD T gl ops i k fr st).2 args1 (J1 T gl ops i k fr st))
  (h:kJ P gl ops (ops.toList.drop (k+1)) ((bD T gl ops i k fr st).1.put (we ops k) (V.ren R r)) (St.after R (bD T gl ops i k fr st).2 st1') K):kJ P gl ops (ops.toList.drop i) fr st K:=by
 simp only [iE,Nat.beq_eq]at hb
 obtain⟨⟨⟨hik,hI⟩,hF⟩,hB⟩:=hb
 simp only [G4,Gg,J1]at hI hF hB he
 cases hq:Va T gl ops i k fr st with
 |none=>rw [hq]at hI; cases hI
 | some x=>
  obtain⟨f',args⟩:=x
  rw [hq]at hF hB he
  simp only at hF hB he
  subst hF
  simp only [JH,iE]at hB
  obtain⟨⟨h1,h4⟩,h5⟩:=hB
  injection he with h2 he; injection he with h3 h6
  rw [Vw,Wi]at h2
  rw [Uk,Uc]at h3
  have hemb:∀st2:St,st2=(bD T gl ops i k fr st).2→st2.ok→V.scs st2 args→Emb R st1 st2∧V.scs st1 args1:=by
   rintro st2 rfl hok hsc
   have he:=Emb.gen h1 h2 h3.symm hok
   refine⟨he,V.scs_of_ren (fun k hk=>by rw [he.lenσ]; exact hk) he.fams _ h4 ?_⟩
   rw [h6]; exact V.scs_shrs _ _ _ h5 hsc
  refine Ge hT k hik hq (Q:=fun r' s'=>r'=V.ren R r∧s'=St.after R (bD T gl ops i k fr st).2 st1') ?_ ?_
  ·refine ⟨hc.1,fun w0 G w cargs hr hv hsc=> ?_⟩
   obtain⟨m1,m2⟩:=hemb _ rfl hr.sc hsc
   have:=(hc.frame m1 (by rw [h6]; exact V.shrs_le _ _) m2).mono (Q':=fun r' s'=>r'=V.ren R r∧s'=St.after R (bD T gl ops i k fr st).2 st1') (by
    rintro r' s' ⟨r1,s1,⟨rfl,rfl⟩,rfl,rfl⟩; exact⟨rfl,rfl⟩)
   exact this.2 w0 G w cargs hr hv hsc
  ·rintro r' s' ⟨rfl,rfl⟩; exact h
end
theorem pR.gen {P:Program} {gl:Nat→List V} {s0 st:St} {fr:AFr} {fn:Func} {e:Exit} (vs:List V) {r:V} {st':St} (R:Ren) (he:e= .normal∨e= .ret) (hv:qU P gl fr st fn.results.toList=some vs)
  (hb:wkB s0 R ⟨1,[(0,WE vs)]⟩ st ⟨1,[(0,r)]⟩ st'=true) (hl:wkL R ⟨1,[(0,r)]⟩ st'=wkR R ⟨1,[(0,WE vs)]⟩ st ⟨1,[(0,r)]⟩ st'):pR P gl s0 fn (Out r st') e fr st:=
 pR.ends r st' he hv (Wk.gen R hb hl) ⟨rfl,rfl⟩
end Go.Abs
end
