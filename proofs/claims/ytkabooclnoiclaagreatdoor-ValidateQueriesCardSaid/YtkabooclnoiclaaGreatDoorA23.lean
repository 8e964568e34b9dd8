/- Abstract values. No condition. -/
import Derived.Test.YtkabooclnoiclaaGreatDoorA22
set_option linter.all false
section
namespace Go.Abs
open Go.RowKit (Below)
mutual
def V.shr:V->V->V
  | .sl a _ b, .nilsl=> .sl a [] b
  | .own id _ a, .nilsl=> .own id 0 a
  | .sl _ _ .none, .sl a f _=> .sl a f .none
  | .agg c, .agg e=> .agg (V.shrs c e)
  | .tuple c, .tuple e=> .tuple (V.shrs c e)
  |_,v=>v
def V.shrs:List V->List V->List V
  |u::b,v::a=>V.shr u v::V.shrs b a
  |_,a=>a
end
mutual
def V.nok (nv nf:Nat):V->V->Bool
  | .sl _ _ (.fam t p), .nilsl=>decide (t<nf)&&p==0
  | .own id _ _, .nilsl=>decide (id<nv)
  | .agg a, .agg b=>V.noks nv nf a b
  | .tuple a, .tuple b=>V.noks nv nf a b
  |_,_=>true
def V.noks (nv nf:Nat):List V->List V->Bool
  |u::a,v::b=>V.nok nv nf u v&&V.noks nv nf a b
  |_,_=>true
end
def V.shrs_length:∀b a:List V,(V.shrs b a).length=a.length
 | [],a=>by simp [V.shrs]
 |_::_,[]=>by simp [V.shrs]
 |u::b,v::a=>by simp [V.shrs,V.shrs_length b a]
mutual
def V.shr_le:∀u v:V,VLe (V.shr u v) v
  | .sl f i a,v=>by
    cases v with
    |nilsl=>simp only [V.shr]; exact VLe.nil f a
    |sl g es' tok'=>cases a<;>simp only [V.shr]<;>first|exact VLe.sl _ _ _|exact VLe.refl _
    |_=>cases a<;>exact VLe.refl _
  | .agg b,v=>by
    cases v with
    |agg e=>simp only [V.shr]; exact VLe.agg (V.shrs_length b e) (V.shrs_le b e).get
    |_=>exact VLe.refl _
  | .tuple b,v=>by
    cases v with
    |tuple e=>simp only [V.shr]; exact VLe.tuple (V.shrs_length b e) (V.shrs_le b e).get
    |_=>exact VLe.refl _
  | .junk,v=>by cases v<;>exact VLe.refl _
  | .bool _,v=>by cases v<;>exact VLe.refl _
  | .int _ _,v=>by cases v<;>exact VLe.refl _
  | .str _,v=>by cases v<;>exact VLe.refl _
  | .ptr _ _,v=>by cases v<;>exact VLe.refl _
  | .nilp,v=>by cases v<;>exact VLe.refl _
  | .gptr _ _,v=>by cases v<;>exact VLe.refl _
  | .eptr _ _,v=>by cases v<;>exact VLe.refl _
  | .nilsl,v=>by cases v<;>exact VLe.refl _
  | .rsl ..,v=>by cases v<;>exact VLe.refl _
  | .func ..,v=>by cases v<;>exact VLe.refl _
  | .nilfunc,v=>by cases v<;>exact VLe.refl _
  | .own id n f,v=>by
    cases v with
    |nilsl=>simp only [V.shr]; intro G c h; cases h; exact .ownnil _ _
    |_=>exact VLe.refl _
  | .mapv _,v=>by cases v<;>exact VLe.refl _
  | .iter _,v=>by cases v<;>exact VLe.refl _
  | .iface _ _,v=>by cases v<;>exact VLe.refl _
  | .niliface,v=>by cases v<;>exact VLe.refl _
  | .mp _,v=>by cases v<;>exact VLe.refl _
  | .sit _ _,v=>by cases v<;>exact VLe.refl _
  | .buf _,v=>by cases v<;>exact VLe.refl _
def V.shrs_le:∀b a:List V,bw (V.shrs b a) a
  | [],a=>by simp only [V.shrs]; exact bw.refl a
  |_::_,[]=>by simp only [V.shrs]; exact bw.refl []
  |u::b,v::a=>⟨⟨V.shr_le u v,fun h=>by cases v<;>first|(cases h; done)|(cases u<;>rfl)⟩,V.shrs_le b a⟩
end
mutual
def V.sc_shr (st:St):∀u v:V,V.nok st.vars.length st.fams.length u v=true->V.sc st v->V.sc st (V.shr u v)
  | .sl f i b,v,h,a=>by
    cases v with
    | nilsl=>
      cases b with
      | fam t p=>
        simp only [V.nok,iF,iJ,beq_iff_eq]at h;simp only [V.shr,V.sc];exact⟨_,iK h.1,O0⟩
      |_=>simp [V.shr,V.sc]
    |sl g es' tok'=>cases b<;>simp only [V.shr]<;>first|exact a|simp [V.sc]
    |_=>cases b<;>exact a
  | .agg c,v,h,a=>by
    cases v with
    |agg e=>simp only [V.shr,V.sc,V.nok]at *; exact V.scs_shrs st c e h a
    |_=>exact a
  | .tuple c,v,h,a=>by
    cases v with
    |tuple e=>simp only [V.shr,V.sc,V.nok]at *; exact V.scs_shrs st c e h a
    |_=>exact a
  | .junk,v,_,a=>by cases v<;>exact a
  | .bool _,v,_,a=>by cases v<;>exact a
  | .int _ _,v,_,a=>by cases v<;>exact a
  | .str _,v,_,a=>by cases v<;>exact a
  | .ptr _ _,v,_,a=>by cases v<;>exact a
  | .nilp,v,_,a=>by cases v<;>exact a
  | .gptr _ _,v,_,a=>by cases v<;>exact a
  | .eptr _ _,v,_,a=>by cases v<;>exact a
  | .nilsl,v,_,a=>by cases v<;>exact a
  | .rsl ..,v,_,a=>by cases v<;>exact a
  | .func ..,v,_,a=>by cases v<;>exact a
  | .nilfunc,v,_,a=>by cases v<;>exact a
  | .own id n f,v,h,a=>by
    cases v with
    |nilsl=>simpa [V.shr,V.sc,V.nok] using h
    |_=>exact a
  | .mapv _,v,_,a=>by cases v<;>exact a
  | .iter _,v,_,a=>by cases v<;>exact a
  | .iface _ _,v,_,a=>by cases v<;>exact a
  | .niliface,v,_,a=>by cases v<;>exact a
  | .mp _,v,_,a=>by cases v<;>exact a
  | .sit _ _,v,_,a=>by cases v<;>exact a
  | .buf _,v,_,a=>by cases v<;>exact a
def V.scs_shrs (st:St):∀c b:List V,V.noks st.vars.length st.fams.length c b=true->V.scs st b->V.scs st (V.shrs c b)
  | [],b,_,a=>by simp only [V.shrs]; exact a
  |_::_,[],_,a=>by simp only [V.shrs]; exact a
  | u::c,v::b,h,a=>by
    simp only [V.noks,iF]at h;exact⟨V.sc_shr st u v h.1 a.1,V.scs_shrs st c b h.2 a.2⟩
end
def zcw (R:Ren) (st1 st:St):List (List V):=(R.σ.zip st1.vars).map fun x=>V.shrs (V.rens R x.2) (st.vars.getD x.1 [])
def rX (R:Ren) (st1 st:St):Bool:=
 zde R st1 st&&R.σ.all (fun i=>decide (i<st.vars.length))&&st1.vars.all (V.ltss st1.vars.length st1.fams.length)&&(R.σ.zip st1.vars).all (fun x=>V.noks st.vars.length st.fams.length (V.rens R x.2) (st.vars.getD x.1 []))
def Emb.gen {R:Ren} {st1 st:St} (q:rX R st1 st=true) (B:st1.vars.map (V.rens R)=zcw R st1 st) (C:R.τ.map (fun i=>st.fams[i]?)=st1.fams.map some) (j:st.ok):Emb R st1 st:=by
 simp only [rX,zde,iF,beq_iff_eq,iJ,List.all_eq_true]at q;obtain⟨⟨⟨⟨⟨⟨⟨⟨n,t⟩,o⟩,v⟩,w⟩,x⟩,y⟩,z⟩,A⟩:=q
 have r:∀(k p:Nat),st1.fams[k]? =some p->∃i,R.τ[k]? =some i∧st.fams[i]? =some p:=by
  intro k p s;have f:k<R.τ.length:=by rw [o]; exact zB s
  have:=congrArg (fun l=>l[k]?) C;simp only [iV,s,iK f,Option.map_some,iL]at this;exact⟨_,iK f,this⟩
 refine⟨n,t,o,v,w,x, ?_,r⟩;intro k h a;have f:k<R.σ.length:=by rw [n]; exact zB a
 have g:=y _ (List.getElem_mem f)
 have e:(R.σ.zip st1.vars)[k]? =some (R.σ[k],h):=by
  rw [List.getElem?_zip_eq_some]; exact⟨iK f,a⟩
 have b:=congrArg (fun l=>l[k]?) B;simp only [zcw,iV,a,e,Option.map_some,iL]at b;have hd:st.vars.getD R.σ[k] []=st.vars[R.σ[k]]:=by simp [List.getD_eq_getElem?_getD,g]
 have c:=A _ (iQ e);simp only [hd]at b c
 have m:V.scs st (V.rens R h):=by
  rw [b]; exact V.scs_shrs st _ _ c (j _ _ (iK g))
 exact⟨V.scs_of_ren (fun k f=>by omega) r h (z h (iQ a)) m,_,_,iK f,iK g,by rw [b]; exact V.shrs_le _ _⟩
def K8 (R:Ren):List (List V)->List (List V)
 | []=> []
 |a::r=>V.rens R a::K8 R r
def B1 (R:Ren) (old:List (List V)):List Nat->List (List V)->List (List V)
 |i::σ,a::r=>V.shrs (V.rens R a) (old.getD i [])::B1 R old σ r
 |_,_=> []
def Bn:List Nat->List (Option Nat)
 | []=> []
 |p::r=>some p::Bn r
def Gf (old:List Nat):List Nat->List (Option Nat)
 | []=> []
 |i::r=>old[i]? ::Gf old r
def J4 (R:Ren):List (Nat×V)->List V
 | []=> []
 |(_,v)::r=>V.ren R v::J4 R r
def Qs (R:Ren) (a:List (Nat×V)):List (Nat×V)->List V
 | []=> []
 |(k,v)::r=>V.shr (V.ren R v) (yG a k)::Qs R a r
def Vx (R:Ren) (l:List (List V)):K8 R l=l.map (V.rens R):=by
 induction l with
 |nil=>rfl
 |cons c r a=>simp [K8,a]
def Xq (R:Ren) (old:List (List V)):∀(σ:List Nat) (l:List (List V)),B1 R old σ l=(σ.zip l).map fun x=>V.shrs (V.rens R x.2) (old.getD x.1 [])
 | [],l=>by cases l<;>rfl
 |i::σ,[]=>rfl
 |i::σ,c::r=>by simp [B1,Xq R old σ r]
def UN (l:List Nat):Bn l=l.map some:=by
 induction l with
 |nil=>rfl
 |cons c r a=>simp [Bn,a]
def UE (old l:List Nat):Gf old l=l.map fun i=>old[i]? :=by
 induction l with
 |nil=>rfl
 |cons c r a=>simp [Gf,a]
def eK (R:Ren) (l:List (Nat×V)):J4 R l=l.map fun p=>V.ren R p.2:=by
 induction l with
 |nil=>rfl
 |cons c r a=>obtain⟨k,v⟩:=c; simp [J4,a]
def f6 (R:Ren) (a l:List (Nat×V)):Qs R a l=l.map fun p=>V.shr (V.ren R p.2) (yG a p.1):=by
 induction l with
 |nil=>rfl
 |cons c r b=>obtain⟨k,v⟩:=c; simp [Qs,b]
section
variable {s0 st st':St} {fr fr':AFr}
def wkB (s0:St) (R:Ren) (fr:AFr) (st:St) (fr':AFr) (st':St):Bool:=
 rX R st' st&&zaE s0 R&&fr'.n==fr.n&&fr'.l.all (fun p=>V.lts st'.vars.length st'.fams.length p.2&&V.nok st.vars.length st.fams.length (V.ren R p.2) (yG fr.l p.1))
def wkL (R:Ren) (fr':AFr) (st':St):List (List V)×List (Option Nat)×List V:=(K8 R st'.vars,Bn st'.fams,J4 R fr'.l)
def wkR (R:Ren) (fr:AFr) (st:St) (fr':AFr) (st':St):List (List V)×List (Option Nat)×List V:=(B1 R st.vars R.σ st'.vars,Gf st.fams R.τ,Qs R fr.l fr'.l)
theorem Wk.gen (R:Ren) (m:wkB s0 R fr st fr' st'=true) (c:wkL R fr' st'=wkR R fr st fr' st'):Wk s0 fr st fr' st':=by
 intro gl w0 G0 G w a g1 I s N
 simp only [wkB,iF,beq_iff_eq]at m
 obtain⟨⟨⟨h1,Z⟩,C⟩,h6⟩:=m
 injection c with X c; injection c with Y h5
 rw [Vx,Xq]at X
 rw [UN,UE]at Y
 rw [eK,f6]at h5
 have c:Emb R st' st:=Emb.gen h1 X Y.symm s.sc
 simp only [zaE,iF,beq_iff_eq,iJ,List.all_eq_true,List.mem_range]at Z
 obtain⟨⟨⟨b1,S⟩,b3⟩,U⟩:=Z
 have hr:=s.embed (B:=w0) c s.below s.old (fun g C=>(s.gfix g C).1) (by
  intro k b cs z C m
  obtain⟨_,i,d,n,j,a4⟩:=c.vars k cs z
  have H:rn R.σ R.n k=i:=by simp [rn,n]
  rw [H]at m
  obtain⟨b',o,M,k2,_⟩:=s.vars i d j (a4.live C)
  rw [m]at M; injection M with M; subst M; exact k2) (by
  intro k p b e l A m
  obtain⟨i,n,H,j⟩:=c.rnτ A
  rw [H]at m
  exact(s.fam i p b e l j m).1)
 refine⟨⟨by rw [<-c.lenσ]; exact b1, ?_⟩,G.pull R, ?_,hr,N.defers,by rw [N.size,C], ?_⟩
 ·intro t p A
  have O:=zB A
  obtain⟨q,L,Q⟩:=g1.fams t p A
  have ht:=U t O
  have z:t<st'.fams.length:=by rw [<-c.lenτ]; exact zB ht
  obtain⟨i,n,H,j⟩:=c.rnτ (iK z)
  rw [ht]at n; injection n with n; subst n
  rw [L]at j; injection j with j
  exact⟨q,by rw [j]; exact iK z,Q⟩
 ·refine ⟨I.imm, ?_, ?_,fun id f=>by rw [<-I.room id f]; simp only [Gh.pull,rn,S id f]⟩
  ·intro id f
   rw [<-I.var id f]
   simp only [Gh.pull,rn,S id f]
  ·intro t p q L A
   rw [<-I.tip t p q L A]
   simp only [Gh.pull,rn,U t (zB L)]
 ·intro t
  have key:yG fr'.l t= .junk∨(t,yG fr'.l t)∈fr'.l:=by
   generalize fr'.l=l
   induction l with
   |nil=>exact .inl rfl
   | cons x r ih=>
    obtain⟨k,v⟩:=x
    simp only [yG]
    split
    ·rename_i h; subst h; exact .inr O2
    ·rcases ih with h|h
     ·exact .inl h
     ·exact .inr (List.mem_cons_of_mem _ h)
  rcases key with h|h
  ·rw [h]; exact⟨by simp [V.sc], .junk _⟩
  ·have W:V.ren R (yG fr'.l t)=V.shr (V.ren R (yG fr'.l t)) (yG fr.l t):=List.map_inj_left.1 h5 _ h
   have y:=List.all_eq_true.1 h6 _ h
   simp only [iF]at y
   have hs:=N.slot t
   have F:V.sc st (V.ren R (yG fr'.l t)):=by rw [W]; exact V.sc_shr st _ _ y.2 hs.1
   have E:=V.sc_of_ren (R:=R) (st1:=st') (st:=st) (fun k z=>by rw [c.lenσ]; exact z) c.fams _ y.1 F
   refine⟨E,((G.pull_pull R st').vr E).2 ?_⟩
   rw [W]; exact V.shr_le _ _ G _ hs.2
end
section
variable {P:Program} {T:TypeId->TI} {gl:Nat->List V} {ops:Array Oper} {K:AFr->St->Prop}
def K0 (R:Ren) (st1 st:St) (args1 args:List V):Bool:=rX R st1 st&&V.ltss st1.vars.length st1.fams.length args1&&V.noks st.vars.length st.fams.length (V.rens R args1) args
def JU (R:Ren) (st1:St) (args1:List V):List (List V)×List (Option Nat)×List V:=(K8 R st1.vars,Bn st1.fams,V.rens R args1)
def nw (R:Ren) (st1 st:St) (args1 args:List V):List (List V)×List (Option Nat)×List V:=(B1 R st.vars R.σ st1.vars,Gf st.fams R.τ,V.shrs (V.rens R args1) args)
def mW (T:TypeId->TI) (gl:Nat->List V) (ops:Array Oper) (i k:Nat) (fr:AFr) (st:St):FuncId:=match WN T gl ops i k fr st with|some (f,_)=>f|none=>0
def BE (T:TypeId->TI) (gl:Nat->List V) (ops:Array Oper) (i k:Nat) (fr:AFr) (st:St):List V:=match WN T gl ops i k fr st with|some (_,a)=>a|none=> []
def rK (T:TypeId->TI) (gl:Nat->List V) (ops:Array Oper) (i k:Nat) (fr:AFr) (st:St):Bool:=(WN T gl ops i k fr st).isSome
def zcW (I:T=ti P) {i:Nat} {fr:AFr} {st:St} (k:Nat) (R:Ren) {f:FuncId} {args1:List V} {st1 a:St} {r:V} (B:xO P gl f args1 st1 (Out r a))
  (A:(Nat.ble i k&&rK T gl ops i k fr st&&Nat.beq (mW T gl ops i k fr st) f&&K0 R st1 (qr T gl ops i k fr st).2 args1 (BE T gl ops i k fr st))=true)
  (c:JU R st1 args1=nw R st1 (qr T gl ops i k fr st).2 args1 (BE T gl ops i k fr st))
  (h:u9 P gl ops (ops.toList.drop (k+1)) ((qr T gl ops i k fr st).1.put (yw ops k) (V.ren R r)) (St.after R (qr T gl ops i k fr st).2 a) K):u9 P gl ops (ops.toList.drop i) fr st K:=by
 simp only [iF,Nat.beq_eq]at A;obtain⟨⟨⟨q,p⟩,hF⟩,l⟩:=A;simp only [rK,mW,BE]at p hF l c
 cases t:WN T gl ops i k fr st with
 |none=>rw [t]at p; cases p
 | some x=>
  obtain⟨U,j⟩:=x;rw [t]at hF l c;simp only at hF l c;subst hF;simp only [K0,iF]at l;obtain⟨⟨E,F⟩,H⟩:=l;injection c with v c; injection c with y z;rw [Vx,Xq]at v;rw [UN,UE]at y
  have m:∀b:St,b=(qr T gl ops i k fr st).2->b.ok->V.scs b j->Emb R st1 b∧V.scs st1 args1:=by
   rintro b rfl s e;have c:=Emb.gen E v y.symm s;refine⟨c,V.scs_of_ren (fun k L=>by rw [c.lenσ]; exact L) c.fams _ F ?_⟩;rw [z]; exact V.scs_shrs _ _ _ H e
  refine mQ I k q t (Q:=fun n o=>n=V.ren R r∧o=St.after R (qr T gl ops i k fr st).2 a) ?_ ?_
  ·refine ⟨B.1,fun S G w g C M e=> ?_⟩;obtain⟨N,O⟩:=m _ rfl C.sc e
   have:=(B.frame N (by rw [z]; exact V.shrs_le _ _) O).mono (Q':=fun n o=>n=V.ren R r∧o=St.after R (qr T gl ops i k fr st).2 a) (by
    rintro n o ⟨W,X,⟨rfl,rfl⟩,rfl,rfl⟩; exact⟨rfl,rfl⟩)
   exact this.2 S G w g C M e
  ·rintro n o ⟨rfl,rfl⟩; exact h
end
def bA.gen {P:Program} {gl:Nat->List V} {s0 st:St} {fr:AFr} {fn:Func} {e:Exit} (a:List V) {r:V} {st':St} (R:Ren) (c:e= .normal∨e= .ret) (g:jf P gl fr st fn.results.toList=some a)
  (b:wkB s0 R ⟨1,[(0,Qw a)]⟩ st ⟨1,[(0,r)]⟩ st'=true) (f:wkL R ⟨1,[(0,r)]⟩ st'=wkR R ⟨1,[(0,Qw a)]⟩ st ⟨1,[(0,r)]⟩ st'):bA P gl s0 fn (Out r st') e fr st:=
 bA.ends r st' c g (Wk.gen R b f) ⟨rfl,rfl⟩
end Go.Abs
end
