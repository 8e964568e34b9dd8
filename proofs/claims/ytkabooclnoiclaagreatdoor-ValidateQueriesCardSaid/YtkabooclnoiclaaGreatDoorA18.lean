/- Abstract values. No condition. -/
import Derived.Test.YtkabooclnoiclaaGreatDoorA17
set_option linter.all false
section
namespace Go.Abs
open Go.RowKit (Below)
def rn (σ:List Nat) (n k:Nat):Nat:=match σ[k]? with|some i=>i|none=>n+(k-σ.length)
structure Ren where
 σ:List Nat
 n:Nat
 τ:List Nat
 m:Nat
mutual
def V.ren (R:Ren):V->V
  | .ptr id c=> .ptr (rn R.σ R.n id) c
  | .rsl id c len cap e=> .rsl (rn R.σ R.n id) c len cap e
  | .sl e h g=> .sl e h (match g with| .fam t p=> .fam (rn R.τ R.m t) p|k=>k)
  | .func fn a b=> .func fn (V.rens R a) (V.rens R b)
  | .agg f=> .agg (V.rens R f)
  | .tuple f=> .tuple (V.rens R f)
  | .own id n e=> .own (rn R.σ R.n id) n e
  | .mapv id=> .mapv (rn R.σ R.n id)
  | .iter id=> .iter (rn R.σ R.n id)
  | .iface t v=> .iface t (V.ren R v)
  |v=>v
def V.rens (R:Ren):List V->List V
  | []=> []
  |v::a=>V.ren R v::V.rens R a
end
def V.rens_length (R:Ren) (l:List V):(V.rens R l).length=l.length:=by
 induction l with
 |nil=>rfl
 |cons v r a=>simp [V.rens,a]
def V.rens_get (R:Ren) (l:List V) (i:Nat):(V.rens R l)[i]? =(l[i]?).map (V.ren R):=by
 induction l generalizing i with
 |nil=>simp [V.rens]
 |cons v r a=>cases i<;>simp [V.rens,a]
structure Gg (R:Ren) (st1:St) (G1 G:Gh):Prop where
 imm:∀b i,G1.imm b i=G.imm b i
 var:∀k,k<st1.vars.length->G1.var k=G.var (rn R.σ R.n k)
 tip:∀(k p q:Nat),st1.fams[k]? =some q->p<=q->G1.tip k p=G.tip (rn R.τ R.m k) p
 room:∀k,k<st1.vars.length->G1.room k=G.room (rn R.σ R.n k)
def Gg.vr {R:Ren} {st1:St} {G1 G:Gh} (h:Gg R st1 G1 G) {v:V} {c:Value} (m:V.sc st1 v):VR G1 v c↔VR G (V.ren R v) c:=by
 constructor
 ·intro l
  induction l with
  |junk c=>exact .junk c
  |bool b=>exact .bool b
  |int k n=>exact .int k n
  |str s=>exact .str s
  |ptr y=>exact .ptr (by rw [<-h.var _ (by simpa [V.sc] using m)]; exact y)
  |nilp=>exact .nilp
  |gptr g N=>exact .gptr g N
  |eptr F=>exact .eptr (fun j v l=>(F j v l).mono fun b i v H=>by rw [<-h.imm]; exact H)
  | @sl W U O b o cap F M r=>
   have z:u7 G b o W U:=fun i e L=>⟨(F i e L).1,fun j v l=>((F i e L).2 j v l).mono fun b i v H=>by rw [<-h.imm]; exact H⟩
   cases O with
   |none=>exact .sl z trivial r
   |exact=>exact .sl z M r
   | fam t p=>
    simp only [V.ren];obtain⟨lim,x,A⟩:=M;simp only [V.sc]at m;obtain⟨q,S,Q⟩:=m;exact .sl z ⟨lim,by rw [<-h.tip t p q S Q]; exact x,A⟩ r
  |slnil=>exact .slnil _ _
  |slz=>exact .slz _ _
  |nilsl=>exact .nilsl
  |rsl y=>exact .rsl (by rw [<-h.var _ (by simpa [V.sc] using m)]; exact y)
  | func x _ A _ I K=>
   simp only [V.sc,V.scs_iff]at m;refine .func (by rw [V.rens_length]; exact x) ?_ (by rw [V.rens_length]; exact A) ?_
   ·intro i v c l r;rw [V.rens_get]at l;obtain⟨u,C,rfl⟩:=iR.1 l;exact I i u c C r (m.1 u (iQ C))
   ·intro i v c l r;rw [V.rens_get]at l;obtain⟨u,C,rfl⟩:=iR.1 l;exact K i u c C r (m.2 u (iQ C))
  |nilfunc=>exact .nilfunc
  | agg x _ E=>
   simp only [V.sc,V.scs_iff]at m;refine .agg (by rw [V.rens_length]; exact x) ?_;intro i v c l r;rw [V.rens_get]at l;obtain⟨u,C,rfl⟩:=iR.1 l;exact E i u c C r (m u (iQ C))
  | tuple x _ E=>
   simp only [V.sc,V.scs_iff]at m;refine .tuple (by rw [V.rens_length]; exact x) ?_;intro i v c l r;rw [V.rens_get]at l;obtain⟨u,C,rfl⟩:=iR.1 l;exact E i u c C r (m u (iQ C))
  | own P y x A=>
   have B:=by simpa [V.sc] using m
   exact .own P (by rw [<-h.var _ B]; exact y) x (by rw [<-h.room _ B]; exact A)
  |ownnil a b=>exact .ownnil _ _
  |mapv y=>exact .mapv (by rw [<-h.var _ (by simpa [V.sc] using m)]; exact y)
  |iter y=>exact .iter (by rw [<-h.var _ (by simpa [V.sc] using m)]; exact y)
  |iface _ E=>exact .iface (E (by simpa [V.sc] using m))
  |niliface=>exact .niliface
 ·intro l;generalize f:V.ren R v=w at l
  induction l generalizing v with
  |junk c=>cases v<;>simp [V.ren]at f; exact .junk c
  |bool b=>cases v<;>simp [V.ren]at f; subst f; exact .bool _
  |int k n=>cases v<;>simp [V.ren]at f; obtain⟨rfl,rfl⟩:=f; exact .int _ _
  |str s=>cases v<;>simp [V.ren]at f; subst f; exact .str _
  | ptr y=>
   cases v<;>simp [V.ren]at f;obtain⟨rfl,rfl⟩:=f;exact .ptr (by rw [h.var _ (by simpa [V.sc] using m)]; exact y)
  |nilp=>cases v<;>simp [V.ren]at f; exact .nilp
  |gptr g N=>cases v<;>simp [V.ren]at f; obtain⟨rfl,rfl⟩:=f; exact .gptr _ _
  | eptr F=>
   cases v<;>simp [V.ren]at f;obtain⟨rfl,rfl⟩:=f;exact .eptr (fun j v l=>(F j v l).mono fun b i v H=>by rw [h.imm]; exact H)
  | @sl W U O b o cap F M r=>
   cases v<;>simp only [V.ren,V.sl.injEq,reduceCtorEq]at f;rename_i T es' tok';obtain⟨rfl,rfl,f⟩:=f;have z:u7 G1 b o T es':=fun i e L=>⟨(F i e L).1,fun j v l=>((F i e L).2 j v l).mono fun b i v H=>by rw [h.imm]; exact H⟩
   cases tok' with
   |none=>subst f; exact .sl z trivial r
   |exact=>subst f; exact .sl z M r
   | fam t p=>
    subst f;obtain⟨lim,x,A⟩:=M;simp only [V.sc]at m;obtain⟨q,S,Q⟩:=m;exact .sl z ⟨lim,by rw [h.tip t p q S Q]; exact x,A⟩ r
  | slnil=>
   cases v<;>simp only [V.ren,V.sl.injEq,reduceCtorEq]at f;obtain⟨rfl,rfl,f⟩:=f;exact .slnil _ _
  | slz=>
   cases v<;>simp only [V.ren,V.sl.injEq,reduceCtorEq]at f;rename_i tok';obtain⟨rfl,rfl,f⟩:=f
   cases tok' with
   |none=>exact .slz _ _
   |exact=>cases f
   |fam t p=>cases f
  |nilsl=>cases v<;>simp [V.ren]at f; exact .nilsl
  | rsl y=>
   cases v<;>simp [V.ren]at f;obtain⟨rfl,rfl,rfl,rfl,rfl⟩:=f;exact .rsl (by rw [h.var _ (by simpa [V.sc] using m)]; exact y)
  | func x _ A _ I K=>
   cases v<;>simp only [V.ren,V.func.injEq,reduceCtorEq]at f;obtain⟨rfl,rfl,rfl⟩:=f;simp only [V.sc,V.scs_iff]at m;rw [V.rens_length]at x A;refine .func x ?_ A ?_
   ·intro i v c l r;exact I i (V.ren R v) c (by rw [V.rens_get,l]; rfl) r (m.1 v (iQ l)) rfl
   ·intro i v c l r;exact K i (V.ren R v) c (by rw [V.rens_get,l]; rfl) r (m.2 v (iQ l)) rfl
  |nilfunc=>cases v<;>simp [V.ren]at f; exact .nilfunc
  | agg x _ E=>
   cases v<;>simp only [V.ren,V.agg.injEq,reduceCtorEq]at f;subst f;simp only [V.sc,V.scs_iff]at m;rw [V.rens_length]at x;refine .agg x ?_;intro i v c l r;exact E i (V.ren R v) c (by rw [V.rens_get,l]; rfl) r (m v (iQ l)) rfl
  | tuple x _ E=>
   cases v<;>simp only [V.ren,V.tuple.injEq,reduceCtorEq]at f;subst f;simp only [V.sc,V.scs_iff]at m;rw [V.rens_length]at x;refine .tuple x ?_;intro i v c l r;exact E i (V.ren R v) c (by rw [V.rens_get,l]; rfl) r (m v (iQ l)) rfl
  | own P y x A=>
   cases v<;>simp [V.ren]at f;obtain⟨rfl,rfl,rfl⟩:=f;have B:=by simpa [V.sc] using m
   exact .own P (by rw [h.var _ B]; exact y) x (by rw [h.room _ B]; exact A)
  | ownnil a b=>
   cases v<;>simp [V.ren]at f;obtain⟨rfl,rfl,rfl⟩:=f;exact .ownnil _ _
  | mapv y=>
   cases v<;>simp [V.ren]at f;subst f;exact .mapv (by rw [h.var _ (by simpa [V.sc] using m)]; exact y)
  | iter y=>
   cases v<;>simp [V.ren]at f;subst f;exact .iter (by rw [h.var _ (by simpa [V.sc] using m)]; exact y)
  | iface _ E=>
   cases v<;>simp only [V.ren,V.iface.injEq,reduceCtorEq]at f;obtain⟨rfl,rfl⟩:=f;exact .iface (E (by simpa [V.sc] using m) rfl)
  |niliface=>cases v<;>simp [V.ren]at f; exact .niliface
def Gg.vrs {R:Ren} {st1:St} {G1 G:Gh} (h:Gg R st1 G1 G) {j:List V} {cs:Array Value} (g:V.scs st1 j):VRs G1 j cs↔VRs G (V.rens R j) cs:=by
 rw [V.scs_iff]at g;constructor
 ·rintro⟨b,e⟩;refine⟨by rw [V.rens_length]; exact b, ?_⟩;intro i v c a f;rw [V.rens_get]at a;obtain⟨u,k,rfl⟩:=iR.1 a;exact(h.vr (g u (iQ k))).1 (e i u c k f)
 ·rintro⟨b,e⟩;rw [V.rens_length]at b;refine⟨b, ?_⟩;intro i v c a f;exact(h.vr (g v (iQ a))).2 (e i _ c (by rw [V.rens_get,a]; rfl) f)
def Gg.vo {R:Ren} {st1:St} {G1 G:Gh} (h:Gg R st1 G1 G) {m:List V} {o:Obj} {r:Nat} (y:V.scs st1 m):VO G1 r m o↔VO G r (V.rens R m) o:=by
 have t:=(V.scs_iff st1 m).1 y;constructor
 ·intro x
  cases x with
  | cells f n q=>
   refine .cells (by rw [V.rens_length]; exact f) ?_ q;intro i v c e k;rw [V.rens_get]at e;obtain⟨u,l,rfl⟩:=iR.1 e;exact(h.vr (t u (iQ l))).1 (n i u c l k)
  |mp g f=>exact .mp g ⟨f.1,fun i v c e k=>(f.2 i v c e k).pure_ext (fun b j u l=>by rw [<-h.imm]; exact l) (g v (iQ e))⟩
  |sit s p=>exact .sit s p
  |buf g f n q=>exact .buf g f (fun i v c e k=>(n i v c e k).pure_ext (fun b j u l=>by rw [<-h.imm]; exact l) (V.pure_of_pcell (g v (iQ e)))) q
 ·intro x;generalize a:V.rens R m=ws at x
  cases x with
  | cells f n q=>
   subst a;refine .cells (by rw [V.rens_length]at f; exact f) ?_ q;intro i v c e k;exact(h.vr (t v (iQ e))).2 (n i _ c (by rw [V.rens_get,e]; rfl) k)
  | mp g f=>
   match m,a with
   | [v],a=>
    cases v<;>simp [V.rens,V.ren]at a;subst a;exact .mp g ⟨f.1,fun i v c e k=>(f.2 i v c e k).pure_ext (fun b j u l=>by rw [h.imm]; exact l) (g v (iQ e))⟩
   |v::_::_,a=>simp [V.rens]at a
  | sit s p=>
   match m,a with
   | [v],a=>cases v<;>simp [V.rens,V.ren]at a; obtain⟨rfl,rfl⟩:=a; exact .sit s _
   |v::_::_,a=>simp [V.rens]at a
  | buf g f n q=>
   match m,a with
   | [v],a=>
    cases v<;>simp [V.rens,V.ren]at a;subst a;exact .buf g f (fun i v c e k=>(n i v c e k).pure_ext (fun b j u l=>by rw [h.imm]; exact l) (V.pure_of_pcell (g v (iQ e)))) q
   |v::_::_,a=>simp [V.rens]at a
def V.gone_rens (R:Ren) (cs:List V):V.gone (V.rens R cs)=V.gone cs:=by
 match cs with
 | []=>rfl
 | [v]=>cases v<;>simp only [V.rens,V.ren]<;>rfl
 |v::u::r=>simp only [V.rens]; cases v<;>simp [V.ren,V.gone]
def V.ps:V->Bool
 | .mp _=>true
 | .sit _ _=>true
 | .buf _=>true
 |_=>false
def bw:List V->List V->Prop
 | [],[]=>True
 |a::r,b::s=>(VLe a b∧(b.ps=true->a=b))∧bw r s
 |_,_=>False
def bw.refl:∀l:List V,bw l l
 | []=>trivial
 |v::r=>⟨⟨.refl v,fun _=>rfl⟩,bw.refl r⟩
def bw.length:∀ {a b:List V},bw a b->a.length=b.length
 | [],[],_=>rfl
 |_::_,_::_,h=>by simp [bw.length h.2]
 | [],_::_,h=>h.elim
 |_::_,[],h=>h.elim
def bw.get:∀ {a b:List V},bw a b->∀(i:Nat) (u v:V),a[i]? =some u->b[i]? =some v->VLe u v
 | [],[],_,i,u,v,c,e=>by simp at c
 |_::_,_::_,h,0,u,v,c,e=>by simp at c e; subst c e; exact h.1.1
 |_::_,_::_,h,i+1,u,v,c,e=>bw.get h.2 i u v (O7 c) (O7 e)
 | [],_::_,h,_,_,_,_,_=>h.elim
 |_::_,[],h,_,_,_,_,_=>h.elim
def bw.vrs {a b:List V} (h:bw a b) {G:Gh} {cs:Array Value} (j:VRs G b cs):VRs G a cs:=by
 refine⟨by rw [h.length]; exact j.1, ?_⟩;intro i u c f k
 have g:i<b.length:=by
  rw [<-h.length];rcases iS i a.length with e|e
  ·exact e
  ·rw [iN e]at f; cases f
 exact h.get i u _ f (iK g) G c (j.2 i _ c (iK g) k)
def bw.vo {a b:List V} (h:bw a b) {G:Gh} {r:Nat} {o:Obj} (n:VO G r b o):VO G r a o:=by
 cases n with
 | cells e g j=>
  refine .cells (by rw [h.length]; exact e) ?_ j;intro i u c l m;have k:i<b.length:=by rw [<-h.length]; exact zB l
  exact h.get i u _ l (iK k) G c (g i _ c (iK k) m)
 | mp f e=>
  match a,h with
  | [x],h=>have:=h.1.2 rfl; subst this; exact .mp f e
 | sit s p=>
  match a,h with
  | [x],h=>have:=h.1.2 rfl; subst this; exact .sit s p
 | buf f e g j=>
  match a,h with
  | [x],h=>have:=h.1.2 rfl; subst this; exact .buf f e g j
def bw.gone {a b:List V} (h:bw a b) (c:V.gone b=true):V.gone a=true:=by
 unfold V.gone at c;split at c
 ·have:=h.length;rw [List.eq_nil_of_length_eq_zero this]; rfl
 ·match a,h with
  | [x],h=>have:=h.1.2 rfl; subst this; rfl
 ·cases c
def bw.live {R:Ren} {cs d:List V} (h:bw (V.rens R cs) d) (a:V.gone cs=false):V.gone d=false:=by
 cases hd:V.gone d with
 |false=>rfl
 | true=>
  have:=h.gone hd;rw [V.gone_rens,a]at this; cases this
structure Emb (R:Ren) (st1 st:St):Prop where
 lenσ:R.σ.length=st1.vars.length
 n:R.n=st.vars.length
 lenτ:R.τ.length=st1.fams.length
 m:R.m=st.fams.length
 nodupσ:R.σ.Nodup
 nodupτ:R.τ.Nodup
 vars:∀(k:Nat) (cs:List V),st1.vars[k]? =some cs->V.scs st1 cs∧∃i d,R.σ[k]? =some i∧st.vars[i]? =some d∧bw (V.rens R cs) d
 fams:∀(k p:Nat),st1.fams[k]? =some p->∃i,R.τ[k]? =some i∧st.fams[i]? =some p
def X2 {l:List Nat} (h:l.Nodup) {i j k:Nat} (hi:l[i]? =some k) (b:l[j]? =some k):i=j:=by
 have c:=zB hi;have e:=zB b;rw [iK c]at hi;rw [iK e]at b;injection hi with hi; injection b with b;have f:=List.pairwise_iff_getElem.1 h;rcases Nat.lt_trichotomy i j with a|g|a
 ·exact absurd (hi.trans b.symm) (f i j c e a)
 ·exact g
 ·exact absurd (b.trans hi.symm) (f j i e c a)
def Gh.pull (G:Gh) (R:Ren):Gh:={imm:=G.imm,var:=fun k=>G.var (rn R.σ R.n k),tip:=fun t p=>G.tip (rn R.τ R.m t) p,room:=fun k=>G.room (rn R.σ R.n k)}
def Gh.pull_pull (G:Gh) (R:Ren) (st1:St):Gg R st1 (G.pull R) G:=⟨fun _ _=>rfl,fun _ _=>rfl,fun _ _ _ _ _=>rfl,fun _ _=>rfl⟩
section
variable {gl:Nat->List V} {w0:xi} {G:Gh} {st st1:St} {w:World} {R:Ren}
def Emb.rnσ (h:Emb R st1 st) {k:Nat} (c:k<st1.vars.length):∃i,R.σ[k]? =some i∧rn R.σ R.n k=i∧i<st.vars.length:=by
 obtain⟨_,i,d,a,b,_⟩:=h.vars k _ (iK c);exact⟨i,a,by simp [rn,a],zB b⟩
def Emb.rnτ (h:Emb R st1 st) {k p:Nat} (c:st1.fams[k]? =some p):∃i,R.τ[k]? =some i∧rn R.τ R.m k=i∧st.fams[i]? =some p:=by
 obtain⟨i,a,b⟩:=h.fams k p c;exact⟨i,a,by simp [rn,a],b⟩
def Rel.embed (h:Rel gl w0 G st w) (f:Emb R st1 st) {B:xi} (N:ZU B w) (hI:∀b i,¬B.mine b->G.imm b i=B.I b i) (hg:∀g,gl g≠ []->¬B.mine g)
  (hv:∀(k b:Nat) (cs:List V),st1.vars[k]? =some cs->V.gone cs=false->G.var (rn R.σ R.n k)=some b->B.mine b) (ht:∀k p b e l,st1.fams[k]? =some p->G.tip (rn R.τ R.m k) p=some (b,e,l)->B.mine b):Rel gl B (G.pull R) st1 w where
 below:=N
 vars:=by
  intro k cs n y;obtain⟨hs,i,d,a,m,E⟩:=f.vars k cs n;have s:=E.live y;obtain⟨b,o,k1,k2,k3,k4,k5⟩:=h.vars i d m s;have M:rn R.σ R.n k=i:=by simp [rn,a]
  refine⟨b,o,by simp [Gh.pull,M,k1],hv k b cs n y (by rw [M]; exact k1),k3, ?_,k5⟩;have:(G.pull R).room k=G.room i:=by simp [Gh.pull,M]
  rw [this];exact((G.pull_pull R st1).vo hs).2 (E.vo k4)
 varlt:=by
  intro k b N hb;obtain⟨i,z,q,r⟩:=f.rnσ N;simp only [Gh.pull,q]at hb;exact h.varlt i b r hb
 sc:=fun k cs n=>(f.vars k cs n).1
 disj:=by
  intro i j b ci cj hi W hj X a m;obtain⟨_,i',di,z,q,r⟩:=f.vars i ci hi;obtain⟨_,j',dj,A,F,H⟩:=f.vars j cj hj;have Q:=r.live W;have S:=H.live X;have I:rn R.σ R.n i=i':=by simp [rn,z]
  have O:rn R.σ R.n j=j':=by simp [rn,A]
  simp only [Gh.pull,I,O]at a m;have:=h.disj i' j' b _ _ q Q F S a m;subst this;exact X2 f.nodupσ z A
 imm:=by
  intro b i v Y;obtain⟨L,c,hc,M⟩:=h.imm b i v Y;exact⟨L,c,hc,VR.pure_ext (G:=G) (G':=G.pull R) (fun _ _ _ x=>x) M (V.pure_of_pcell L)⟩
 fam:=by
  intro t p b e lim L a;obtain⟨i,z,q,r⟩:=f.rnτ L;have K:G.tip i p=some (b,e,lim):=by simpa [Gh.pull,q] using a
  obtain⟨m,C,P,E,h4,h5,h6⟩:=h.fam i p b e lim r K;refine⟨ht t p b e lim L (by rw [q]; exact K),C,P,E,h4,h5, ?_⟩;intro id cs T y;obtain⟨_,j,d,A,F,H⟩:=f.vars id cs T;have s:=H.live y;have I:rn R.σ R.n id=j:=by simp [rn,A]
  simp only [Gh.pull,I];exact h6 j d F s
 famdisj:=by
  intro t t' p p' b e l e' l' a m Z g2;obtain⟨i,z,q,r⟩:=f.rnτ a;obtain⟨j,A,F,H⟩:=f.rnτ m;simp only [Gh.pull,q,F]at Z g2;have:=h.famdisj i j p p' b e l e' l' r H Z g2;subst this;exact X2 f.nodupτ z A
 glob:=h.glob
 gfix:=by
  intro g y;obtain⟨a,C,P,fz,m,E⟩:=h.gfix g y;have U:=hg g y;refine⟨U,C,P,fz, ?_,E⟩;have I:w.heap[g]? =B.w.heap[g]? :=N.heap g (Nat.lt_of_not_le fun h=>U (.inl h)) (fun h=>U (.inr h));have O:w.heap[g]? =w0.w.heap[g]? :=h.below.heap g (Nat.lt_of_not_le fun h=>a (.inl h)) (fun h=>a (.inr h));rw [<-I,O]; exact m
 old:=hI
end
end Go.Abs
end
