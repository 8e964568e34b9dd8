/- The typed Lean form of WireDecodesQueries gives true for every list of at most 9223372036854775807 numbers. -/
import Derived.Test.YtbggpcnbbhjiaaaGreatDoorLaw5
set_option linter.unusedVariables false
set_option linter.unusedSimpArgs false
set_option linter.unnecessarySimpa false
section
set_option maxRecDepth 100000
namespace Go.Abs
open Go Go.Proofs IntKind
abbrev Gen:=zc
def okG (n:Nat) (g:Gen):Prop:=wT n g false=some 0
def BdG (B:Nat) (g:Gen):Prop:=g.yl.length≤B∧BdN B g.zt.zh
def v8 (g:Gen):Nat×Bs:=if g.zG=4 then(164,(tWrap (xd g.zt.zh).1 (xd g.zt.zh).2).1)else((128+g.zG).toNat,g.yl)
def dX (g:Gen):Gen:=⟨g.zG,g.yl,⟨VS g.zt.zh⟩⟩
theorem XE {n B:Nat} {g:Gen} (h:okG n g) (hb:BdN B g.zt.zh) (hB:B≤1000000) (hn:B+100≤n):
  (g.zG=4∧g.yl= []∧okN g.zt.zh)∨((g.zG=1∨g.zG=2∨g.zG=7)∧g.zt.zh= []):=by
 unfold okG wT YU at h
 by_cases k1:g.zG=4
 ·left
  rw [k1,L4 O1,L4 O1,L6 O1,L0,L4 O1,L6 O1]at h
  by_cases ht:g.yl= []
  ·rw [L4 (by rw [ht]; decide),K8 hb hB hn]at h
   injection h with h
   exact⟨k1,ht,gU.1 h⟩
  ·rw [L6 (Oa ht)]at h; injection h with h; exact absurd h O1
 ·right
  have rd:(if decide ((List.length g.zt.zh:Int)>0)=true then some true else none)=some true→False∨True:=fun _=> .inr trivial
  have key:∀v:Int,v≠4→v≠2→((some v:Option Int).bind fun r1=>
    if(r1==4)=true then(some (14:Int))else(if(r1==2)=true then(if(!(g.yl==([]:List UInt8)))=true then(some 14)else((jU n (zv.mk g.zt.zh)).bind fun r6=>
    some r6))else((if(decide ((List.length g.zt.zh:Int)>0))=true then(some true)else((vf n r1 g.yl false).bind fun r7=>
    some (!r7))).bind fun y9=>
    if y9=true then(some 14)else(some 0))))=some 0→g.zt.zh= []:=by
   intro v h4 h2 h
   rw [L0,L4 (Oa h4),L4 (Oa h2)]at h
   by_cases hl:g.zt.zh= []
   ·exact hl
   ·have:0<g.zt.zh.length:=List.length_pos_iff.2 hl
    rw [L6 O4,L0,L6 rfl]at h
    injection h with h; exact absurd h O1
  by_cases k2:g.zG=1
  ·rw [k2,L6 O1]at h
   exact⟨.inl k2,key 0 O1 O1 h⟩
  by_cases k3:g.zG=2
  ·rw [k3,L4 O1,L6 O1]at h
   exact⟨.inr (.inl k3),key 1 O1 O1 h⟩
  by_cases k4:g.zG=7
  ·rw [k4,L4 O1,L4 O1,L4 O1,L6 O1]at h
   exact⟨.inr (.inr k4),key 3 O1 O1 h⟩
  rw [L4 (Oa k2),L4 (Oa k3),L4 (Oa k1),L4 (Oa k4),L0,L6 O1]at h
  injection h with h; exact absurd h O1
theorem zbx {n B:Nat} {l:List (List Att)} (h:okN l) (hb:BdN B l) (hB:B≤1000000) (hn:B+100≤n):okG n ⟨4,[],⟨l⟩⟩:=by
 unfold okG wT YU
 dsimp only
 rw [L4 O1,L4 O1,L6 O1,L0,L4 O1,L6 O1,L4 O1,K8 hb hB hn,gU.2 h]
 rfl
theorem Q6 {n B:Nat} {g:Gen} (h:okG n g) (hb:BdN B g.zt.zh) (hB:B≤1000000) (hn:B+1000≤n):okG n (dX g):=by
 obtain⟨k,t,⟨l⟩⟩:=g
 rcases XE h hb hB O0 with⟨h1,h2,h3⟩|⟨h1,h2⟩
 ·simp only at h1 h2 h3
  subst h1 h2
  exact zbx (QJ h3) (mF (QJ h3)) O0 O0
 ·simp only at h2
  subst h2
  exact h
theorem WO {n B:Nat} {g:Gen} (h:okG n g) (hb:BdG B g) (hB:B≤60000) (hn:B+1000≤n):POk (v8 g)∧(v8 g).2.length≤B+4333∧Wf 5 (v8 g):=by
 rcases XE h hb.2 O0 O0 with⟨h1,h2,h3⟩|⟨h1,h2⟩
 ·have e:v8 g=(164,(tWrap (xd g.zt.zh).1 (xd g.zt.zh).2).1):=by unfold v8; rw [L6 h1]
  have l1:=dW h3
  have l2:=yc (xd g.zt.zh).1 (xd g.zt.zh).2
  rw [e]
  refine⟨⟨by dsimp only; decide,by dsimp only; decide,O7⟩,O7, ?_⟩
  have ew:(tWrap (xd g.zt.zh).1 (xd g.zt.zh).2).1=wraps [xd g.zt.zh]:=by simp [wraps]
  rw [ew]
  exact Wf.node (t:=164) (k:=4) (l:= [xd g.zt.zh]) fun q hq=>by
   rw [Ln]at hq; subst hq; exact⟨Gf h3,ou h3⟩
 ·have hk:¬g.zG=4:=O0
  have e:v8 g=((128+g.zG).toNat,g.yl):=by unfold v8; rw [L4 hk]
  have:=hb.1
  rw [e]
  rcases h1 with h1|h1|h1<;>rw [h1]
  all_goals refine⟨⟨by dsimp only; decide,by dsimp only; decide,O7⟩,O7,Wf.leaf O1⟩
theorem zfY {n B:Nat} {g:Gen} (h:okG n g) (hb:BdG B g) (hB:B≤60000) (hn:B+1000≤n):dL n g false=some ((tWrap (v8 g).1 (v8 g).2).1,0):=by
 obtain⟨hp,hl,_⟩:=WO h hb hB hn
 unfold dL
 have h':wT n ⟨g.zG,g.yl,⟨g.zt.zh⟩⟩ false=some 0:=h
 rw [h',L0,L4 O1]
 rcases XE h hb.2 O0 O0 with⟨h1,h2,h3⟩|⟨h1,h2⟩
 ·have e:v8 g=(164,(tWrap (xd g.zt.zh).1 (xd g.zt.zh).2).1):=by unfold v8; rw [L6 h1]
  rw [e]at hl ⊢
  have e0:Uo g.zt.zh=((tWrap 48 (xd g.zt.zh).2).1,0):=by unfold Uo; rw [L4 (by rw [gU.2 h3]; simp)]
  have ek:wrap .i64 ((160:Int)+4)=((164:Nat):Int):=O1
  rw [L4 (by rw [h1]; decide),Dp hb.2 O0 O0,L0,e0,L4 O2,h1,ek]
  have l3:(tWrap 48 (xd g.zt.zh).2).1.length≤B+4333:=hl
  rw [Qn O0 O0 O7 O0,L0,bA (t:=164) O7]
  rfl
 ·have hk:¬g.zG=4:=O0
  have e:v8 g=((128+g.zG).toNat,g.yl):=by unfold v8; rw [L4 hk]
  have hbt:=hb.1
  have ek:wrap .i64 ((128:Int)+g.zG)=(((128+g.zG).toNat:Nat):Int):=by rw [z6 O0]; omega
  rw [e,L6 (Oa hk),ek,Qn O0 (by rcases h1 with h1|h1|h1<;>rw [h1]<;>decide) O0 O0,L0,bA O0]
theorem eU {n B:Nat} (hB:B≤60000) (hn:B+1000≤n) (l:List Gen) (ho:∀g∈l,okG n g) (hb:∀g∈l,BdG B g) (hl:l.length≤16):∀(k i:Nat) (acc:Bs),i≤l.length→l.length-i<k→acc.length≤100000*i→u6 n l k acc (i:Int)=some (.nxt (acc++wraps ((l.drop i).map v8)))
 |0,i,_,_,h,_=>O0
 | k+1,i,acc,hi,hk,ha=>by
  rw [u6]
  by_cases hc:i<l.length
  ·have hx:=Ll hc
   obtain⟨_,hgl,_⟩:=WO (ho _ hx) (hb _ hx) hB hn
   have hw:=yc (v8 l[i]).1 (v8 l[i]).2
   have he:dL n ⟨l[i].zG,l[i].yl,⟨l[i].zt.zh⟩⟩ false=some ((tWrap (v8 l[i]).1 (v8 l[i]).2).1,0):=zfY (ho _ hx) (hb _ hx) hB hn
   rw [L6 O4,zQ hc,L0,he,L0,L4 O2,yd O7,L0,w1 O0]
   dsimp only
   rw [eU hB hn l ho hb hl k (i+1) _ O0 O0 (by rw [L8]; omega),Lc hc,Le,gz,Lq]
  ·rw [L4 O4,Ld O0]
   simp [wraps]
theorem zdL {n B:Nat} (hB:B≤60000) (hn:B+1000≤n) {l:List Gen} (ho:∀g∈l,okG n g) (hb:∀g∈l,BdG B g) (h0:l≠ []) (hl:l.length≤16):kn n l=some (wraps (l.map v8),0):=by
 have hp:0<l.length:=List.length_pos_iff.2 h0
 unfold kn gQ
 have e:=eU (n:=n) hB hn l ho hb hl n 0 [] O0 O0 O2
 rw [show((0:Nat):Int)=0 from rfl,Li,Lj]at e
 rw [L4 O9,L4 O4,L0,L4 O1,e]
 rfl
theorem zf1 {n B:Nat} {g:Gen} (h:okG n g) (hb:BdG B g) (hB:B≤60000) (hn:200000000≤n):bU n (elm (v8 g)) false=some (dX g,0):=by
 have hs:wT n ⟨g.zG,g.yl,⟨VS g.zt.zh⟩⟩ false=some 0:=Q6 h hb.2 O0 O0
 obtain⟨hD,hO,hBk⟩:=PT (n:=n) (M:=900000) O0 hn
 unfold bU
 rcases XE h hb.2 O0 O0 with⟨h1,h2,h3⟩|⟨h1,h2⟩
 ·have e:v8 g=(164,(tWrap (xd g.zt.zh).1 (xd g.zt.zh).2).1):=by unfold v8; rw [L6 h1]
  have l1:=dW h3
  have l2:=yc (xd g.zt.zh).1 (xd g.zt.zh).2
  have et:(elm (164,(tWrap (xd g.zt.zh).1 (xd g.zt.zh).2).1)).zF=164:=rfl
  have ec:(elm (164,(tWrap (xd g.zt.zh).1 (xd g.zt.zh).2).1)).zd=(tWrap (xd g.zt.zh).1 (xd g.zt.zh).2).1:=rfl
  rw [e,et,ec,L4 O1,L4 O1,L0,L4 O1,L6 O1,oo hD hO O0 O0 O0,L0,Xn hBk h3,L4 O2]
  simp only [yb]
  rw [h1,h2]at hs
  rw [hs,L0,L4 O1]
  unfold dX
  rw [h1,h2]
 ·have hk:¬g.zG=4:=O0
  have e:v8 g=((128+g.zG).toNat,g.yl):=by unfold v8; rw [L4 hk]
  have et:(elm ((128+g.zG).toNat,g.yl)).zF=128+g.zG:=by show(((128+g.zG).toNat:Nat):Int)=_; omega
  have ec:(elm ((128+g.zG).toNat,g.yl)).zd=g.yl:=rfl
  have key:(if((128+g.zG)==(129:Int))=true then(some ((128+g.zG)==(129:Int)))else(if((128+g.zG)==(130:Int))=true then(some ((128+g.zG)==(130:Int)))else(some ((128+g.zG)==(135:Int)))))=some true:=by
   rcases h1 with h1|h1|h1<;>rw [h1]<;>rfl
  have ew:wrap .i64 (128+g.zG-128)=g.zG:=by rw [z6 O0]; omega
  rw [e,et,ec,key,L0,L6 rfl,ew]
  simp only [yb]
  rw [h2]at hs
  have hs':wT n ⟨g.zG,g.yl,⟨[]⟩⟩ false=some 0:=hs
  rw [hs',L0,L4 O1]
  unfold dX
  rw [h2]
  rfl
theorem fO {n B:Nat} (hB:B≤60000) (hn:200000000≤n) (l:List Gen) (ho:∀g∈l,okG n g) (hb:∀g∈l,BdG B g) (hl:l.length≤16):∀(k i:Nat) (acc:List Gen),i≤l.length→l.length-i<k→acc.length≤i→wS n ((l.map v8).map elm,0) k acc (i:Int)=some (.nxt (acc++(l.drop i).map dX))
 |0,i,_,_,h,_=>O0
 | k+1,i,acc,hi,hk,ha=>by
  rw [wS]
  have hlen:((l.map v8).map elm).length=l.length:=by rw [Lb,Lb]
  dsimp only
  rw [hlen]
  by_cases hc:i<l.length
  ·have hx:=Ll hc
   have hi2:zM ((l.map v8).map elm) (i:Int)=some (elm (v8 l[i])):=by rw [zQ (by rw [hlen]; omega)]; simp
   rw [L6 O4,hi2,L0,zf1 (ho _ hx) (hb _ hx) hB hn,L0,L4 O2,yx (by rw [L9]; omega),L0,w1 O0]
   have:=fO hB hn l ho hb hl k (i+1) (acc ++ [dX l[i]]) O0 O0 (by rw [L8,L9]; omega)
   rw [Lq,List.singleton_append]at this
   rw [Lc hc,Le]
   exact this
  ·rw [L4 O4,Ld O0]
   simp
theorem zdW {n B:Nat} (hB:B≤60000) (hn:200000000≤n) {l:List Gen} (ho:∀g∈l,okG n g) (hb:∀g∈l,BdG B g) (h0:l≠ []) (hl:l.length≤16) (hw:(wraps (l.map v8)).length≤131072):ur n (wraps (l.map v8))=some (l.map dX,0):=by
 have hp:0<l.length:=List.length_pos_iff.2 h0
 have hq:∀p∈l.map v8,POk p:=by
  intro p hp; obtain⟨g,hg,rfl⟩:=Lh.1 hp; exact(WO (ho g hg) (hb g hg) hB O0).1
 unfold ur gQ
 have e:=fO (n:=n) hB hn l ho hb hl n 0 [] O0 O0 O2
 rw [show((0:Nat):Int)=0 from rfl,Li,Lj]at e
 have hlen:((l.map v8).map elm).length=l.length:=by rw [Lb,Lb]
 rw [gd O0 O0,wV hq,L0,L4 O2]
 dsimp only
 rw [hlen,L4 O9,L4 O4,L0,L4 O1,e]
 rfl
def zca (m:Nat) (t:Int):Bool:=match ud (m+1000) t with
 | some (s,e)=>decide (e=0)&&(decide ((vE s).1.zF=23)||decide ((vE s).1.zF=24))&&decide ((vE s).1.zd.length≤20)&&decide (s=(tWrap (vE s).1.zF.toNat (vE s).1.zd).1) &&
  (match yG (m+1000) (vE s).1.zF (vE s).1.zd with|some (v,f)=>decide (v=t)&&decide (f=0)|none=>false)
 |none=>false
def oa:List Int:= [0,1000,2000000000,3155759999,3155760000,254033452799,2400000000]
theorem oK (m:Nat):oa.all (zca m)=true:=O8
theorem zbB {n:Nat} (hn:1000≤n) {t:Int} (ht:t∈oa):∃(g:Nat) (c:Bs),(g=23∨g=24)∧c.length≤20∧ud n t=some ((tWrap g c).1,0)∧yG n (g:Int) c=some (t,0):=by
 obtain⟨m,rfl⟩:∃m,n=m+1000:=⟨n-1000,O0⟩
 have h:=Lg.1 (oK m) t ht
 unfold zca at h
 cases he:ud (m+1000) t with
 |none=>rw [he]at h; cases h
 | some r=>
  obtain⟨s,e⟩:=r
  rw [he]at h
  simp only [Lf,Bool.or_eq_true,L3]at h
  obtain⟨⟨⟨⟨h1,h2⟩,h3⟩,h4⟩,h5⟩:=h
  have hg:(vE s).1.zF=(((vE s).1.zF.toNat:Nat):Int):=O0
  refine⟨(vE s).1.zF.toNat,(vE s).1.zd,O0,h3,by rw [←h4,h1], ?_⟩
  rw [←hg]
  cases hd:yG (m+1000) (vE s).1.zF (vE s).1.zd with
  |none=>rw [hd]at h5; cases h5
  | some r=>
   obtain⟨v,f⟩:=r
   rw [hd]at h5
   simp only [Lf,L3]at h5
   rw [h5.1,h5.2]
abbrev Qry:=zz
def bo (q:Qry):Qry:={q with zy:=q.zy.map dX,zg:=q.zg.map Yw}
def BdQ (B:Nat) (q:Qry):Prop:=q.zC.length≤B∧(∀s∈q.zi,s.length≤B)∧(∀g∈q.zy,BdG B g)∧∀a∈q.zg,BdN B a.zt.zh
def QOk (n:Nat) (q:Qry):Prop:=(q.zC= []∨(xG q.zC).isSome=true)∧(0≤q.yk∧q.yk≤511)∧(1≤q.ye∧q.ye≤8)∧(q.zi.length≤8∧q.zy.length≤16∧q.zg.length≤64)∧q.zi.all (fun s=>(xG s).isSome)=true∧(∀g∈q.zy,okG n g)∧∀a∈q.zg,Uv a
theorem Dx {n:Nat} {q q':Qry} (h:q'.zi=q.zi):∀(k:Nat) (i:Int) (m:List (Bs×Bool)),yT n q' k i m=yT n q k i m
 |0,i,m=>rfl
 |k+1,i,m=>by rw [yT,yT]; simp only [h,Dx h k]
theorem mw {n B:Nat} (hB:B≤100000) (hn:B+1000≤n) (q:Qry) (hb:∀s∈q.zi,s.length≤B) (hl:q.zi.length≤8):∀(k i:Nat) (m:List (Bs×Bool)) (c:Ctl Int (List (Bs×Bool))),i≤q.zi.length→yT n q k (i:Int) m=some c →
  (∃m',c= .nxt m'∧∀s∈q.zi.drop i,(xG s).isSome=true)∨c= .ret 11
 |0,i,m,c,_,h=>by rw [yT]at h; cases h
 | k + 1,i,m,c,hi,h=>by
  rw [yT]at h
  by_cases hc:i<q.zi.length
  ·have hx:=hb _ (Ll hc)
   rw [L6 O4,zQ hc,L0,Vl O0 O0,L0]at h
   by_cases hv:(xG q.zi[i]).isSome=true
   ·rw [L4 (by rw [hv]; simp),w1 O0]at h
    rcases mw hB hn q hb hl k (i+1) _ c O0 h with⟨m',h1,h2⟩|h1
    ·refine .inl ⟨m',h1,fun s hs=> ?_⟩
     rw [Lc hc]at hs
     rcases Lp.1 hs with rfl|hs
     ·exact hv
     ·exact h2 s hs
    ·exact .inr h1
   ·rw [L6 (Oa hv)]at h
    injection h with h; exact .inr h.symm
  ·rw [L4 O4]at h
   injection h with h
   refine .inl ⟨m,h.symm, ?_⟩
   rw [Ld O0]; simp
theorem mJ {n:Nat} (q:Qry) (hl:q.zy.length≤16):∀(k i:Nat) (c:Ctl Int Unit),i≤q.zy.length→xz n q k (i:Int)=some c →
  (c= .nxt ()∧∀g∈q.zy.drop i,okG n g)∨∃r,r≠0∧c= .ret r
 |0,i,c,_,h=>by rw [xz]at h; cases h
 | k + 1,i,c,hi,h=>by
  rw [xz]at h
  by_cases hc:i<q.zy.length
  ·rw [L6 O4,zQ hc,L0,Option.bind_eq_some_iff]at h
   obtain⟨r,h1,h2⟩:=h
   by_cases hv:r=0
   ·subst hv
    rw [L4 O1,w1 O0]at h2
    rcases mJ q hl k (i+1) c O0 h2 with⟨g1,g2⟩|g1
    ·refine .inl ⟨g1,fun s hs=> ?_⟩
     rw [Lc hc]at hs
     rcases Lp.1 hs with rfl|hs
     ·exact h1
     ·exact g2 s hs
    ·exact .inr g1
   ·rw [L6 (Oa hv)]at h2
    injection h2 with h2; exact .inr ⟨r,hv,h2.symm⟩
  ·rw [L4 O4]at h
   injection h with h
   refine .inl ⟨h.symm, ?_⟩
   rw [Ld O0]; simp
theorem DE {n:Nat} (q:Qry) (hl:q.zy.length≤16) (ho:∀g∈q.zy,okG n g):∀(k i:Nat),i≤q.zy.length→q.zy.length-i<k→xz n q k (i:Int)=some (.nxt ())
 |0,i,_,h=>O0
 | k+1,i,hi,hk=>by
  rw [xz]
  by_cases hc:i<q.zy.length
  ·have h:wT n ⟨q.zy[i].zG,q.zy[i].yl,⟨q.zy[i].zt.zh⟩⟩ false=some 0:=ho _ (Ll hc)
   rw [L6 O4,zQ hc,L0,h,L0,L4 O1,w1 O0]
   exact DE q hl ho k (i+1) O0 O0
  ·rw [L4 O4]
theorem lX {n B:Nat} (hB:B≤100000) (hn:B+1000≤n) (q:Qry) (hb:∀a∈q.zg,BdN B a.zt.zh) (hl:q.zg.length≤64):∀(k i:Nat) (c:Ctl Int Unit),i≤q.zg.length→xB n q k (i:Int)=some c →
  (c= .nxt ()∧∀a∈q.zg.drop i,Uv a)∨∃r,r≠0∧c= .ret r
 |0,i,c,_,h=>by rw [xB]at h; cases h
 | k + 1,i,c,hi,h=>by
  rw [xB]at h
  by_cases hc:i<q.zg.length
  ·rw [L6 O4,zQ hc,L0,K8 (hb _ (Ll hc)) O0 O0,L0]at h
   by_cases h1:jj q.zg[i].zt.zh≠0
   ·rw [L6 (Oa h1)]at h
    injection h with h; exact .inr ⟨_,h1,h.symm⟩
   rw [L4 (Oa h1)]at h
   by_cases h2:q.zg[i].zt.zh= []
   ·rw [L6 (by rw [h2]; rfl)]at h
    injection h with h; exact .inr ⟨14,O1,h.symm⟩
   rw [L4 (Oa h2),rh,L0]at h
   by_cases h3:okK q.zg[i].zP=true
   ·rw [L6 (show okK ⟨q.zg[i].zP.zA,q.zg[i].zP.wj,q.zg[i].zP.zY⟩=true from h3),L4 O1,w1 O0]at h
    rcases lX hB hn q hb hl k (i+1) c O0 h with⟨g1,g2⟩|g1
    ·refine .inl ⟨g1,fun s hs=> ?_⟩
     rw [Lc hc]at hs
     rcases Lp.1 hs with rfl|hs
     ·exact⟨gU.1 (Oa h1),h2,h3⟩
     ·exact g2 s hs
    ·exact .inr g1
   ·rw [L4 (show ¬okK ⟨q.zg[i].zP.zA,q.zg[i].zP.wj,q.zg[i].zP.zY⟩=true from h3),L6 O1]at h
    injection h with h; exact .inr ⟨18,O1,h.symm⟩
  ·rw [L4 O4]at h
   injection h with h
   refine .inl ⟨h.symm, ?_⟩
   rw [Ld O0]; simp
theorem DP {n:Nat} (hn:2000≤n) (q:Qry) (hl:q.zg.length≤64) (ho:∀a∈q.zg,Uv a):∀(k i:Nat),i≤q.zg.length→q.zg.length-i<k→xB n q k (i:Int)=some (.nxt ())
 |0,i,_,h=>O0
 | k + 1,i,hi,hk=>by
  rw [xB]
  by_cases hc:i<q.zg.length
  ·have h:=ho _ (Ll hc)
   rw [L6 O4,zQ hc,L0,K8 (mF h.1) O0 O0,L0,gU.2 h.1,L4 O1,L4 (by have:=h.2.1; simpa using this),rh,L0,
    L6 (show okK ⟨q.zg[i].zP.zA,q.zg[i].zP.wj,q.zg[i].zP.zY⟩=true from h.2.2),L4 O1,w1 O0]
   exact DP hn q hl ho k (i+1) O0 O0
  ·rw [L4 O4]
theorem zco {X:Type} {o:Option (Ctl Int X)} {f:X→Option Int} (h:yb o (fun r=>some r) f=some 0):o=some (.ret 0)∨∃x,o=some (.nxt x)∧f x=some 0:=by
 match o with
 |none=>cases h
 |some (.ret r)=>exact .inl (by simp only [yb]at h; injection h with h; rw [h])
 |some (.nxt x)=>exact .inr ⟨x,rfl,h⟩
theorem P6 {n B:Nat} {q:Qry} (hB:B≤60000) (hn:B+2000≤n) (hb:BdQ B q) (h:vC n q=some 0):QOk n q∧vC n (bo q)=some 0:=by
 unfold vC at h ⊢
 have e1:(bo q).uu=q.uu:=rfl
 have e2:(bo q).zC=q.zC:=rfl
 have e3:(bo q).yk=q.yk:=rfl
 have e4:(bo q).ye=q.ye:=rfl
 have e5:(bo q).zi=q.zi:=rfl
 have e6:(bo q).zy.length=q.zy.length:=by show(q.zy.map dX).length=_; rw [Lb]
 have e7:(bo q).zg.length=q.zg.length:=by show(q.zg.map Yw).length=_; rw [Lb]
 rw [e1,e2,e3,e4,e5,e6,e7]
 rw [ifb,L0]at h ⊢
 by_cases c1:(decide (q.uu<0)||decide (q.uu>254033452799))=true
 ·rw [L6 c1]at h; injection h with h; exact absurd h O1
 rw [L4 c1]at h ⊢
 have hp:∃y,(if(!(q.zC==([]:List UInt8)))=true then((gi n q.zC).bind fun r12=>some (!r12))else(some false))=some y∧(y=false→q.zC= []∨(xG q.zC).isSome=true):=by
  by_cases p0:q.zC= []
  ·exact⟨false,by rw [L4 (by rw [p0]; decide)],fun _=> .inl p0⟩
  ·have:=hb.1
   refine⟨!(xG q.zC).isSome,by rw [L6 (Oa p0),Vl O0 O0]; rfl,fun hy=> .inr (Oa hy)⟩
 obtain⟨y,hy1,hy2⟩:=hp
 rw [hy1,L0]at h ⊢
 cases y with
 |true=>rw [L6 rfl]at h; injection h with h; exact absurd h O1
 | false=>
  rw [L4 O1]at h ⊢
  rw [zaY,L0]at h ⊢
  by_cases c2:(decide (q.yk<0)||(decide (q.yk>511)||(decide (q.ye<1)||decide (q.ye>8))))=true
  ·rw [L6 c2]at h; injection h with h; exact absurd h O1
  rw [L4 c2]at h ⊢
  rw [tA,L0]at h ⊢
  by_cases c3:(decide ((List.length q.zi:Int)>8)||(decide ((List.length q.zy:Int)>16)||decide ((List.length q.zg:Int)>64)))=true
  ·rw [L6 c3]at h; injection h with h; exact absurd h O1
  rw [L4 c3]at h ⊢
  simp only [Bool.not_eq_true,Bool.or_eq_false_iff,decide_eq_false_iff_not]at c2 c3
  obtain⟨l1,l2,l3⟩:=c3
  rw [Dx e5]
  rcases zco h with h1|⟨m,h1,h2⟩
  ·rcases mw O0 O0 q hb.2.1 O0 n 0 [] _ O0 h1 with⟨m',h2,_⟩|h2
   ·cases h2
   ·injection h2 with h2; exact absurd h2 O1
  have a1:∀s∈q.zi,(xG s).isSome=true:=by
   rcases mw O0 O0 q hb.2.1 O0 n 0 [] _ O0 h1 with⟨m',_,h3⟩|h3
   ·rw [Li]at h3; exact h3
   ·cases h3
  rw [h1]
  simp only [yb]
  by_cases c4:decide ((List.length m:Int)<(List.length q.zi:Int))=true
  ·rw [L6 c4]at h2; injection h2 with h2; exact absurd h2 O1
  rw [L4 c4]at h2 ⊢
  rcases zco h2 with h3|⟨u,h3,h4⟩
  ·rcases mJ q O0 n 0 _ O0 h3 with⟨h4,_⟩|⟨r,hr,h4⟩
   ·cases h4
   ·injection h4 with h4; exact absurd h4.symm hr
  have a2:∀g∈q.zy,okG n g:=by
   rcases mJ q O0 n 0 _ O0 h3 with⟨_,h5⟩|⟨r,hr,h5⟩
   ·rw [Li]at h5; exact h5
   ·cases h5
  rcases zco h4 with h5|⟨v,h5,h6⟩
  ·rcases lX O0 O0 q hb.2.2.2 O0 n 0 _ O0 h5 with⟨h6,_⟩|⟨r,hr,h6⟩
   ·cases h6
   ·injection h6 with h6; exact absurd h6.symm hr
  have a3:∀a∈q.zg,Uv a:=by
   rcases lX O0 O0 q hb.2.2.2 O0 n 0 _ O0 h5 with⟨_,h7⟩|⟨r,hr,h7⟩
   ·rw [Li]at h7; exact h7
   ·cases h7
  refine⟨⟨hy2 rfl,O0,O0,O0,Lg.2 a1,a2,a3⟩, ?_⟩
  have b2:=DE (n:=n) (bo q) O0 (fun g hg=>by
   obtain⟨x,hx,rfl⟩:=Lh.1 (show g∈q.zy.map dX from hg)
   exact Q6 (a2 x hx) (hb.2.2.1 x hx).2 O0 O0) n 0 O0 O0
  have b3:=DP (n:=n) O0 (bo q) O0 (fun g hg=>by
   obtain⟨x,hx,rfl⟩:=Lh.1 (show g∈q.zg.map Yw from hg)
   exact DX (a3 x hx)) n 0 O0 O0
  rw [show((0:Nat):Int)=0 from rfl]at b2 b3
  rw [b2]
  simp only [yb]
  rw [b3]
def optE (b:Bool) (p:Nat×Bs):List (Nat×Bs):=if b=true then [p]else []
def q11 (q:Qry):List (Nat×Bs):=optE (!q.zg.isEmpty) (168,wraps (q.zg.map ancE)) ++ []
def q10 (q:Qry):List (Nat×Bs):=optE q.uc (135,[255])++q11 q
def q9 (q:Qry):List (Nat×Bs):=Bu 2 q.ye::q10 q
def q8 (q:Qry):List (Nat×Bs):=optE (!q.zy.isEmpty) (166,wraps (q.zy.map v8))++q9 q
def q7 (q:Qry):List (Nat×Bs):=optE q.jt (133,[255])++q8 q
def q6 (q:Qry):List (Nat×Bs):=optE q.xb (132,[255])++q7 q
def q5 (q:Qry):List (Nat×Bs):=optE q.xI (131,[255])++q6 q
def q4 (q:Qry):List (Nat×Bs):=optE (!q.zi.isEmpty) (162,wraps (q.zi.map polE))++q5 q
def q3 (fl:Bs) (q:Qry):List (Nat×Bs):=optE (q.yk !=0) (129,fl)++q4 q
def q2 (fl:Bs) (q:Qry):List (Nat×Bs):=optE (!(q.zC== [])) (128,(polE q.zC).2)++q3 fl q
def contQ (tm:Nat×Bs) (fl:Bs) (q:Qry):List (Nat×Bs):=tm::q2 fl q
theorem DI (a b:List (Nat×Bs)):wraps (a++b)=wraps a++wraps b:=by simp [wraps, -List.length_flatten]
theorem ge (b:Bool) (p:Nat×Bs):(wraps (optE b p)).length≤p.2.length+5:=by
 unfold optE
 have:=yc p.1 p.2
 split
 ·simp only [wraps,Le,List.map_nil,List.flatten_cons,List.flatten_nil,Lk]; exact this
 ·simp [wraps]
theorem dD (p:Nat×Bs):wraps (optE true p)=(tWrap p.1 p.2).1:=by simp [optE,wraps]
theorem VY (p:Nat×Bs):wraps (optE false p)= []:=by simp [optE,wraps]
theorem fp {n t:Nat} {X c:Bs} (h1:t≤255) (h2:t%32≠31) (hc:c.length≤131072) (hX:X.length≤1000000) (hn:20≤n):zZ n (t:Int) c ⟨X,0⟩=some ⟨X++(tWrap t c).1,0⟩:=by
 rw [PZ h1 h2 O0 hn,bA hc]
theorem nc {n t:Nat} {X:Bs} {b:Bool} (h1:t≤255) (h2:t%32≠31) (hX:X.length≤1000000) (hn:20≤n):vZ n (t:Int) b ⟨X,0⟩=some ⟨X++wraps (optE b (t,[255])),0⟩:=by
 unfold vZ Zr
 cases b with
 |true=>rw [L6 rfl,L6 rfl,L0,fp h1 h2 O2 hX hn,dD]; rfl
 |false=>rw [L4 O2,VY,Lk]
theorem ze8 {n B t:Nat} {a:List Bs} {b:Bs} (h1:t≤255) (h2:t%32≠31) (hB:B≤100000000) (hn:a.length+B+40≤n) (ha:a.length≤2000) (hs:a.all (fun s=>(xG s).isSome)=true) (hl:∀s∈a,s.length≤B) (hb:b.length≤1000000):j0 n (t:Int) a ⟨b,0⟩=some ⟨b++(tWrap t (wraps (a.map polE))).1,0⟩:=by
 unfold j0
 have e1:=cN (n:=n) hB O0 a O0 hs hl n 0 [] O0 O0 O3
 rw [show((0:Nat):Int)=0 from rfl,Li,Lj]at e1
 rw [show Ub n ⟨[],0⟩=some ⟨[],0⟩from rfl,L0]
 simp only []
 rw [e1,L0]
 have hl:=Vx hs
 simp only []
 rw [B0 O3,Lk,L0,fp h1 h2 O0 hb O0]; rfl
theorem eO {n B:Nat} (l:List Anc) (ho:∀a∈l,Uv a) (hb:BdL B l) (hB:B≤1000000) (hn:B+100≤n) (hl:l.length≤64):∀(k i:Nat) (b:Bs),i≤l.length→l.length-i<k→b.length≤4403*i→vy n l k (i:Int) b 0=some (b++wraps ((l.drop i).map ancE),0)
 |0,i,_,_,h,_=>O0
 | k+1,i,b,hi,hk,hbl=>by
  rw [vy]
  by_cases hc:i<l.length
  ·have hx:=Ll hc
   have k3:=(Xu (ho _ hx)).2
   have t1:=yc (ancE l[i]).1 (ancE l[i]).2
   have e2:(ancE l[i]).2=wraps (UB l[i]):=rfl
   rw [←e2]at k3
   have he:jo n ⟨⟨l[i].zt.zh⟩,⟨l[i].zP.zA,l[i].zP.wj,l[i].zP.zY⟩⟩ ⟨b,0⟩=some ⟨b++(tWrap (ancE l[i]).1 (ancE l[i]).2).1,0⟩:=zfM (a:=l[i]) (ho _ hx) (hb _ hx) hB hn O0
   rw [L6 O4,zQ hc,L0,he,L0,w1 O0]
   simp only []
   rw [eO l ho hb hB hn hl k (i+1) _ O0 O0 (by rw [L8]; omega),Lc hc,Le,gz,Lq]
  ·rw [L4 O4,Ld O0]
   simp [wraps]
theorem UH {n B:Nat} (hB:B≤60000) (hn:B+1000≤n) {l:List Gen} (ho:∀g∈l,okG n g) (hb:∀g∈l,BdG B g):(wraps (l.map v8)).length≤(B+4338)*l.length:=by
 have:=Jg (m:=B+4333) (l.map v8) (fun p hp=>by obtain⟨g,hg,rfl⟩:=Lh.1 hp; exact(WO (ho g hg) (hb g hg) hB hn).2.1)
 rw [Lb]at this; exact this
theorem fu (s:Bs) (h:(xG s).isSome=true):(polE s).2.length≤55:=by
 obtain⟨l,he⟩:=Option.isSome_iff_exists.1 h
 unfold polE; rw [he]; exact dJ (bB he)
theorem sm8 {x:Int} (h:1≤x∧x≤8):sm x=true:=by simp only [sm,Lf,L3]; omega
theorem lk {n:Nat} {x:Int}:∃s,wv n x=some s∧s.length=1:=⟨_,rfl,rfl⟩
theorem PS {n:Nat} {x:Int}:∃s,jf n x=some s∧s.length=4:=⟨_,rfl,rfl⟩
theorem nC {n:Nat} {p:Bs} {a b:Int} (hn:2000≤n) (hp:p.length=16):∀(j k:Nat) (v:Bs),j≤15→j<k→v.length=16→∃r,wZ n 15 a b p k v ((15-j:Nat):Int)=some r∧r.length=16
 |j,0,_,_,h,_=>O0
 | 0,k+1,v,_,_,hv=>by
  rw [wZ,L4 O1]
  exact⟨_,rfl,hv⟩
 | j+1,k+1,v,hj,hk,hv=>by
  rw [wZ,L6 O4]
  obtain⟨x1,e1,l1⟩:=PS (n:=n) (x:=a)
  obtain⟨x2,e2,l2⟩:=lk (n:=n) (x:=b)
  obtain⟨x3,e3,l3⟩:=lk (n:=n) (x:=((15-(j+1):Nat):Int))
  rw [e1,L0,e2,L0,e3,L0]
  obtain ⟨w,ew,lw⟩:=BF (n:=n) (a:= [[67],p,x1,x2,x3,v]) hn O2 (by
   simp only [Lp,List.not_mem_nil,or_false,forall_eq_or_imp,forall_eq]
   exact⟨O1,O0,O0,O0,O0,O0⟩)
  rw [ew,L0,z6 O0,show((15-(j+1):Nat):Int)+1=((15-j:Nat):Int)by omega]
  exact nC hn hp j k w O0 O0 lw
theorem tk {n:Nat} {p s:Bs} {a:Int} (hn:2000≤n) (hp:p.length=16) (hs:s.length=32):∀(j k:Nat) (v:Bs),j≤35→j<k→v.length=16*(35-j)→∃r,xy n s a p k v ((35-j:Nat):Int)=some r∧r.length=560
 |j,0,_,_,h,_=>O0
 | 0,k+1,v,_,_,hv=>by
  rw [xy,L4 O1]
  exact⟨_,rfl,hv⟩
 | j + 1,k+1,v,hj,hk,hv=>by
  rw [xy,L6 O4]
  obtain⟨x1,e1,l1⟩:=PS (n:=n) (x:=a)
  obtain⟨x2,e2,l2⟩:=lk (n:=n) (x:=((35-(j+1):Nat):Int))
  have hsec:∃w,kc n s a ((35-(j+1):Nat):Int)=some w∧w.length=16:=by
   unfold kc
   obtain ⟨w,ew,lw⟩:=BF (n:=n) (a:= [[83],s,x1,x2]) hn O2 (by
    simp only [Lp,List.not_mem_nil,or_false,forall_eq_or_imp,forall_eq]
    exact⟨O1,O0,O0,O0⟩)
   rw [e1,L0,e2,L0,ew]
   exact⟨_,rfl,lw⟩
  obtain⟨w,ew,lw⟩:=hsec
  obtain⟨u,eu,lu⟩:=nC (n:=n) (a:=a) (b:=((35-(j+1):Nat):Int)) hn hp 15 n w O0 O0 lw
  have hw:bL n p a ((35-(j+1):Nat):Int) 0 15 w=some u:=by
   unfold bL
   rw [show(0:Int)=((15-15:Nat):Int)by rfl,eu]; rfl
  rw [ew,L0,hw,L0,show um v u=some (v++u)from L6 O0,L0,z6 O0,show((35-(j+1):Nat):Int)+1=((35-j:Nat):Int)by omega]
  exact tk hn hp hs j k (v++u) O0 O0 (by rw [L8]; omega)
theorem zcy {n:Nat} {p s:Bs} (hn:2000≤n) (hp:p.length=16) (hs:s.length=32):∃r,qW n p s 0=some (r,0)∧r.length=16:=by
 unfold qW dy
 rw [L4 (by rw [hp]; decide),L0,L4 (by rw [hs]; decide),L4 O1,L0,L4 O1,L0,L4 O1]
 obtain⟨y,ey,ly⟩:=tk (n:=n) (a:=0) hn hp hs 35 n [] O0 O0 rfl
 obtain⟨x1,e1,l1⟩:=PS (n:=n) (x:=0)
 rw [show xy n s 0 p n [] 0=some y from ey,L0,e1,L0]
 obtain ⟨w,ew,lw⟩:=BF (n:=n) (a:= [[76],p,x1,y]) hn O2 (by
  simp only [Lp,List.not_mem_nil,or_false,forall_eq_or_imp,forall_eq]
  exact⟨O1,O0,O0,O0⟩)
 rw [ew]
 exact⟨_,rfl,lw⟩
theorem zbF {n:Nat} {s:Bs} (hn:2000≤n) (hs:s.length=32):∃p r,j9 n s 0=some (⟨s,p,[[r]]⟩,0):=by
 unfold j9
 rw [L4 (by rw [hs]; decide),L4 O1,L0,L4 O1]
 obtain ⟨p,ep,lp⟩:=BF (n:=n) (a:= [[73],s]) hn O2 (by
  simp only [Lp,List.not_mem_nil,or_false,forall_eq_or_imp,forall_eq]
  exact⟨O1,O0⟩)
 obtain⟨r,er,lr⟩:=zcy (n:=n) hn lp hs
 obtain⟨m,rfl⟩:∃m,n=m+2:=⟨n-2,O0⟩
 rw [ep,L0]
 rw [wL,show Uy .i64 1 0=some 1 by rfl,L0,L6 O1,er,L0,yx (by show(0+1)*16≤_; omega),L0,
  show wrap .i64 ((0:Int)+1)=1 by rfl,wL,show Uy .i64 1 0=some 1 by rfl,L0,L4 O1,L0,yx (by show(0+1)*24≤_; omega),L0,
  ua,L4 O1,L0]
 exact⟨p,r,rfl⟩
theorem s6 {n:Nat} {r:Int} (hn:2000≤n):∃s,vG n r=some s∧s.length=32:=by
 unfold vG
 obtain⟨x1,e1,l1⟩:=PS (n:=n) (x:=r)
 obtain ⟨w,ew,lw⟩:=zaJ (n:=n) (a:= [[115,101,101,100],x1]) hn O2 (by
  simp only [Lp,List.not_mem_nil,or_false,forall_eq_or_imp,forall_eq]
  exact⟨O1,O0⟩)
 rw [e1,L0,ew]
 exact⟨_,rfl,lw⟩
theorem sv {n:Nat} {k:Int} (h0:0≤k) (h1:k<4):∃x,dr n k=some x∧0≤x∧x<16:=by
 have:k=0∨k=1∨k=2∨k=3:=O0
 rcases this with h|h|h|h<;>subst h<;>exact⟨_,rfl,O1⟩
theorem KB {n:Nat} {k:Int} (hn:2000≤n) (h0:0≤k) (h1:k<4):∃a,yz n k=some a∧BdN 252 a.zt.zh:=by
 unfold yz
 obtain⟨x,ex,x0,x1⟩:=sv (n:=n) h0 h1
 obtain⟨y,ey,ly⟩:=PH (n:=n) (r:=x) O0 x0 x1
 have hp:∃z,qV n k=some z:=by
  unfold qV pr pk
  obtain⟨s,es,ls⟩:=s6 (n:=n) (r:=wrap .i64 ((1000:Int)+(Int.tmod k 8))) hn
  obtain⟨p,r,eg⟩:=zbF (n:=n) hn ls
  rw [es,L0,eg]
  exact⟨_,rfl⟩
 obtain⟨z,ez⟩:=hp
 rw [ex,L0,ey,L0,ez]
 exact⟨_,rfl,ly⟩
def zb5:List Bs:= [([97,110,110,64,101,120,97,109,112,108,101,46,111,114,103]:List UInt8),([65,78,78,64,101,120,97,109,112,108,101,46,111,114,103]:List UInt8),([97,110,110,64,69,120,97,109,112,108,101,46,79,82,71]:List UInt8),([98,46,99,64,109,97,105,108,46,101,120,97,109,112,108,101,46,111,114,103]:List UInt8),([120,64,111,114,103]:List UInt8),([97,39,98,64,97,46,98]:List UInt8)]
def zeX:List Bs:= [([101,120,97,109,112,108,101,46,111,114,103]:List UInt8),([119,119,119,46,101,120,97,109,112,108,101,46,111,114,103]:List UInt8),([87,87,87,46,69,120,97,109,112,108,101,46,111,114,103]:List UInt8),([42,46,101,120,97,109,112,108,101,46,111,114,103]:List UInt8),([97,46,98]:List UInt8),([111,114,103]:List UInt8),([109,121,101,120,97,109,112,108,101,46,111,114,103]:List UInt8)]
def ips:List Bs:= [([10,0,0,1]:List UInt8),([10,1,2,3]:List UInt8),([192,168,1,7]:List UInt8),([32,1,13,184,0,0,0,0,0,0,0,0,0,0,0,1]:List UInt8)]
def lq (n:Nat) (g:Gen):Prop:=BdG 252 g
theorem Gk {n:Nat} {kd r:Int} {l:List Bs} (h:(l.all fun s=>decide (s.length≤252))=true) (h0:0≤r) (h1:r<(l.length:Int)):∃x,zM l r=some x∧lq n ⟨kd,x,⟨[]⟩⟩:=by
 obtain⟨x,ex⟩:=gI (s:=l) (i:=r) h0 h1
 have hx:x∈l:=by
  unfold zM at ex
  rw [L6 h0]at ex
  exact List.mem_of_getElem? ex
 exact⟨x,ex,of_decide_eq_true (Lg.1 h x hx),O2,O2⟩
theorem t8 {n:Nat} {l:List (List Att)} (h:BdN 252 l):lq n ⟨4,[],⟨l⟩⟩:=⟨O2,h⟩
theorem V3 {n:Nat} {d:zf} (hn:2000≤n) (hd:wu d):∃g d',xf n d=some (g,d')∧lq n g∧wu d':=by
 unfold xf
 obtain⟨r,d1,e1,a1,b1,k1⟩:=wP (n:=n) (k:=4) O1 O1 hd
 rw [e1,L0]; simp only []
 by_cases c0:(r==0)=true
 ·rw [L6 c0]
  obtain⟨r2,d2,e2,a2,b2,k2⟩:=wP (n:=n) (k:=6) O1 O1 k1
  obtain⟨x,ex,hx⟩:=Gk (n:=n) (kd:=1) (l:=zb5) O1 a2 (show r2<((6:Nat):Int)from b2)
  rw [e2,L0]; simp only []
  unfold zb5 at ex; rw [ex]
  exact⟨_,_,rfl,hx,k2⟩
 ·rw [L4 c0]
  by_cases c1:(r==1)=true
  ·rw [L6 c1]
   obtain⟨r2,d2,e2,a2,b2,k2⟩:=wP (n:=n) (k:=7) O1 O1 k1
   obtain⟨x,ex,hx⟩:=Gk (n:=n) (kd:=2) (l:=zeX) O1 a2 (show r2<((7:Nat):Int)from b2)
   rw [e2,L0]; simp only []
   unfold zeX at ex; rw [ex]
   exact⟨_,_,rfl,hx,k2⟩
  ·rw [L4 c1]
   by_cases c2:(r==2)=true
   ·rw [L6 c2]
    obtain⟨r2,d2,e2,a2,b2,k2⟩:=wP (n:=n) (k:=4) O1 O1 k1
    obtain⟨x,ex,hx⟩:=Gk (n:=n) (kd:=7) (l:=ips) O1 a2 (show r2<((4:Nat):Int)from b2)
    rw [e2,L0]; simp only []
    unfold ips at ex; rw [ex]
    exact⟨_,_,rfl,hx,k2⟩
   ·rw [L4 c2]
    obtain⟨x,d2,e2,b2,k2⟩:=BI (n:=n) O0 k1
    rw [e2]
    exact⟨_,_,rfl,t8 b2,k2⟩
theorem JH {n:Nat} {v:List Bs} {x:Bs} (hv:v.length≤100):∀(j k:Nat) (b:Bool),j≤v.length→j<k→∃r,w3 n v x k b ((v.length-j:Nat):Int)=some r
 |j,0,_,_,h=>O0
 | 0,k+1,b,_,_=>by
  rw [w3,L4 O4]
  exact⟨_,rfl⟩
 | j+1,k+1,b,hj,hk=>by
  rw [w3,L6 O4]
  obtain⟨y,ey⟩:=gI (s:=v) (i:=((v.length-(j+1):Nat):Int)) O0 O0
  rw [ey,L0,z6 O0,show((v.length-(j+1):Nat):Int)+1=((v.length-j:Nat):Int)by omega]
  cases b with
  |true=>rw [L6 rfl,L0]; exact JH hv j k _ O0 O0
  |false=>rw [L4 O1,L0]; exact JH hv j k _ O0 O0
theorem Qd {n:Nat} {a:List Bs} (hn:200≤n) (ha:a.length≤50) (hs:∀s∈a,s.length≤100):∀(j k:Nat) (v:List Bs),j≤a.length→j<k→v.length≤a.length-j→(∀s∈v,s.length≤100) →
  ∃r,wX n a k v ((a.length-j:Nat):Int)=some r∧r.length≤a.length∧∀s∈r,s.length≤100
 |j,0,_,_,h,_,_=>O0
 | 0,k+1,v,_,_,hv,hw=>by
  rw [wX,L4 O4]
  exact⟨_,rfl,O0,hw⟩
 | j+1,k+1,v,hj,hk,hv,hw=>by
  rw [wX,L6 O4]
  obtain⟨y,ey⟩:=gI (s:=a) (i:=((a.length-(j+1):Nat):Int)) O0 O0
  have ly:y.length≤100:=by
   unfold zM at ey
   rw [L6 O0]at ey
   exact hs y (List.mem_of_getElem? ey)
  obtain⟨b,eb⟩:=JH (n:=n) (v:=v) (x:=y) O0 v.length n false O0 O0
  rw [show((v.length-v.length:Nat):Int)=0 by omega]at eb
  rw [ey,L0,eb,L0]
  rw [z6 (x:=((a.length-(j+1):Nat):Int)+1) O0,show((a.length-(j+1):Nat):Int)+1=((a.length-j:Nat):Int)by omega]
  cases b with
  | true=>
   rw [L4 O1,L0]
   exact Qd hn ha hs j k v O0 O0 O0 hw
  | false=>
   rw [L6 O1,yx (by rw [L9]; omega),L0,L0]
   refine Qd hn ha hs j k (v ++ [y]) O0 O0 (by rw [L8,L9]; omega) fun s h=> ?_
   rcases Lo.1 h with h|h
   ·exact hw s h
   ·rw [Ln]at h; subst h; exact ly
theorem zbb {n:Nat} {a:List Bs} (hn:200≤n) (ha:a.length≤50) (hs:∀s∈a,s.length≤100):∃r,bJ n a=some r∧r.length≤a.length∧∀s∈r,s.length≤100:=by
 unfold bJ
 obtain⟨r,e,h1,h2⟩:=Qd hn ha hs a.length n [] O0 O0 O2 O2
 rw [show((a.length-a.length:Nat):Int)=0 by omega]at e
 rw [e]
 exact⟨r,rfl,h1,h2⟩
theorem zaE {n:Nat} {d:zf} (hn:10≤n) (hd:wu d):∃ps d',qc n 3 d=some (ps,d')∧ps.length≤3∧(∀s∈ps,s.length≤100)∧wu d':=by
 unfold qc
 obtain⟨r,d',h1,h2,h3,h4⟩:=wP (n:=n) (k:=4) O1 O1 hd
 rw [show wrap .i64 ((3:Int)+1)=4 from rfl,h1,L0]
 obtain⟨ps,L',At',e1,e2,e3,e4⟩:=sZ (n:=n) r.toNat n [] d'.f_L d'.xk O0 O3 O2 h4
 rw [show((r.toNat:Nat):Int)=r by omega]at e1
 simp only []
 rw [e1]
 exact⟨ps,_,rfl,by simp at e2; omega,e3,e4⟩
def qn9 (n:Nat) (r9:Int×zf):Option (List Int×Int×Bs×Int×List Gen×List Anc):=(if(r9.1==1)=true then(some (r9.2.f_L,r9.2.xk,([49,46,51,46,54,46,49,46,53,46,53,46,55,46,51,46,49]:List UInt8),0,([]:List zc),([]:List ze)))else(if(r9.1==2)=true then(some (r9.2.f_L,r9.2.xk,([]:List UInt8),1,([]:List zc),([]:List ze)))else(if(r9.1==3)=true then((xf n r9.2).bind fun r32=>
 some (r32.2.f_L,r32.2.xk,([]:List UInt8),0,([(zc.mk r32.1.zG r32.1.yl (zv.mk r32.1.zt.zh))]:List zc),([]:List ze)))else(if(r9.1==4)=true then((zj n 4 r9.2).bind fun r33=>
 (yz n r33.1).bind fun r34=>
 some (r33.2.f_L,r33.2.xk,([]:List UInt8),0,([]:List zc),([(ze.mk (zv.mk r34.zt.zh) (zB.mk r34.zP.zA r34.zP.wj r34.zP.zY))]:List ze)))else(if(r9.1==5)=true then((zj n 4 r9.2).bind fun r35=>
 (yz n r35.1).bind fun r36=>
 (zj n 4 r35.2).bind fun r37=>
 (yz n r37.1).bind fun r38=>
 some (r37.2.f_L,r37.2.xk,([]:List UInt8),0,([]:List zc),([(ze.mk (zv.mk r36.zt.zh) (zB.mk r36.zP.zA r36.zP.wj r36.zP.zY)),(ze.mk (zv.mk r38.zt.zh) (zB.mk r38.zP.zA r38.zP.wj r38.zP.zY))]:List ze)))else(some (r9.2.f_L,r9.2.xk,([]:List UInt8),0,([]:List zc),([]:List ze))))))))
theorem zbO {n:Nat} {k:Int} {d:zf} (hn:2000≤n) (hd:wu d):∃L At pu us nm an,qn9 n (k,d)=some (L,At,pu,us,nm,an)∧wu ⟨L,At⟩∧pu.length≤100∧(nm.length≤1∧∀g∈nm,lq n g)∧an.length≤2∧∀a∈an,BdN 252 a.zt.zh:=by
 unfold qn9
 simp only []
 by_cases c1:(k==1)=true
 ·rw [L6 c1]; exact⟨_,_,_,_,_,_,rfl,hd,O1,⟨O2,O2⟩,O2,O2⟩
 rw [L4 c1]
 by_cases c2:(k==2)=true
 ·rw [L6 c2]; exact⟨_,_,_,_,_,_,rfl,hd,O1,⟨O2,O2⟩,O2,O2⟩
 rw [L4 c2]
 by_cases c3:(k==3)=true
 ·rw [L6 c3]
  obtain⟨g,d2,e2,g2,k2⟩:=V3 (n:=n) hn hd
  rw [e2]
  exact⟨_,_,_,_,_,_,rfl,k2,O1,⟨O2,by simpa using g2⟩,O2,O2⟩
 rw [L4 c3]
 by_cases c4:(k==4)=true
 ·rw [L6 c4]
  obtain⟨r,d2,e2,a2,b2,k2⟩:=wP (n:=n) (k:=4) O1 O1 hd
  obtain⟨x,ex,hx⟩:=KB (n:=n) hn a2 b2
  rw [e2,L0]; simp only []; rw [ex]
  exact⟨_,_,_,_,_,_,rfl,k2,O1,⟨O2,O2⟩,O2,by simpa using hx⟩
 rw [L4 c4]
 by_cases c5:(k==5)=true
 ·rw [L6 c5]
  obtain⟨r,d2,e2,a2,b2,k2⟩:=wP (n:=n) (k:=4) O1 O1 hd
  obtain⟨x,ex,hx⟩:=KB (n:=n) hn a2 b2
  obtain⟨r3,d3,e3,a3,b3,k3⟩:=wP (n:=n) (k:=4) O1 O1 k2
  obtain⟨y,ey,hy⟩:=KB (n:=n) hn a3 b3
  rw [e2,L0]; simp only []; rw [ex,L0,e3,L0]; simp only []; rw [ey]
  exact⟨_,_,_,_,_,_,rfl,k3,O1,⟨O2,O2⟩,O2,by simpa using ⟨hx,hy⟩⟩
 rw [L4 c5]
 exact⟨_,_,_,_,_,_,rfl,hd,O1,⟨O2,O2⟩,O2,O2⟩
theorem tO {n:Nat} {d:zf} (hn:2000≤n) (hd:wu d):∃t pu us ps b1 b2 b3 nm ml b4 an d',kw n d=some (t,pu,us,ps,b1,b2,b3,nm,ml,b4,an,d')∧wu d'∧pu.length≤100∧(ps.length≤3∧∀s∈ps,s.length≤100)∧(nm.length≤1∧∀g∈nm,lq n g)∧an.length≤2∧∀a∈an,BdN 252 a.zt.zh:=by
 unfold kw
 obtain⟨r1,d1,e1,_,_,k1⟩:=wP (n:=n) (k:=4) O1 O1 hd
 obtain⟨r2,d2,e2,_,_,k2⟩:=wP (n:=n) (k:=6) O1 O1 k1
 obtain⟨r3,d3,e3,_,_,k3⟩:=wP (n:=n) (k:=6) O1 O1 k2
 obtain⟨r4,d4,e4,_,_,k4⟩:=wP (n:=n) (k:=6) O1 O1 k3
 obtain⟨r5,d5,e5,_,_,k5⟩:=wP (n:=n) (k:=3) O1 O1 k4
 obtain⟨r6,d6,e6,_,_,k6⟩:=wP (n:=n) (k:=4) O1 O1 k5
 rw [e1,L0,e2,L0,e3,L0,e4,L0,e5,L0,e6,L0]
 simp only []
 by_cases c:(r6==1)=true
 ·rw [L6 c]
  obtain⟨ps,d7,e7,p7,q7,k7⟩:=zaE (n:=n) O0 k6
  obtain⟨ps',e8,p8,q8⟩:=zbb (n:=n) O0 (show ps.length≤50 by omega) q7
  obtain⟨r9,d9,e9,_,_,k9⟩:=wP (n:=n) (k:=8) O1 O1 k7
  obtain⟨L,At,pu,us,nm,an,e,h1,h2,h3,h4,h5⟩:=zbO (n:=n) (k:=r9) hn k9
  unfold qn9 at e
  rw [e7,L0]; simp only []; rw [e8,L0,e9,L0,e]
  exact⟨_,_,_,_,_,_,_,_,_,_,_,_,rfl,h1,h2,⟨O0,q8⟩,h3,h4,h5⟩
 ·rw [L4 c]
  obtain⟨r9,d9,e9,_,_,k9⟩:=wP (n:=n) (k:=8) O1 O1 k6
  obtain⟨L,At,pu,us,nm,an,e,h1,h2,h3,h4,h5⟩:=zbO (n:=n) (k:=r9) hn k9
  unfold qn9 at e
  rw [e9,L0,e]
  exact⟨_,_,_,_,_,_,_,_,_,_,_,_,rfl,h1,h2,⟨O2,O2⟩,h3,h4,h5⟩
def qn4 (n:Nat) (r4:Int×zf) (nm:List Gen):Option (List Int×Int×List Gen):=(if(decide (r4.1>0))=true then((xf n r4.2).bind fun r24=>
 (gP 48 nm ([(zc.mk r24.1.zG r24.1.yl (zv.mk r24.1.zt.zh))]:List zc)).bind fun x25=>
 if(decide ((wrap .i64 (r4.1-1))>0))=true then((xf n r24.2).bind fun r28=>
 (jR 48 x25 ([(zc.mk r28.1.zG r28.1.yl (zv.mk r28.1.zt.zh))]:List zc)).bind fun x29=>
 if(decide ((wrap .i64 ((wrap .i64 (r4.1-1))-1))>0))=true then(none)else(some (r28.2.f_L,r28.2.xk,x29)))else(some (r24.2.f_L,r24.2.xk,x25)))else(some (r4.2.f_L,r4.2.xk,nm)))
theorem GE {α:Type} {b:Nat} {l:List α} {x:α} (h:(l.length+1)*b≤140737488355328):gP b l [x]=some (l ++ [x]):=L6 ⟨O2,by simpa using h⟩
theorem zcJ {n:Nat} {k:Int} {d:zf} {nm:List Gen} (hn:2000≤n) (hd:wu d) (h0:0≤k) (h1:k<3) (hm:nm.length≤1) (hg:∀g∈nm,lq n g):∃L At r,qn4 n (k,d) nm=some (L,At,r)∧wu ⟨L,At⟩∧r.length≤3∧∀g∈r,lq n g:=by
 unfold qn4
 simp only []
 have hk:k=0∨k=1∨k=2:=O0
 rcases hk with rfl|rfl|rfl
 ·rw [L4 O5]; exact⟨_,_,_,rfl,hd,O0,hg⟩
 ·rw [L6 O5]
  obtain⟨g,d2,e2,g2,k2⟩:=V3 (n:=n) hn hd
  rw [e2,L0]; simp only []
  rw [GE O0,L0,L4 O5]
  refine⟨_,_,_,rfl,k2,by rw [L8,L9]; omega,fun x hx=> ?_⟩
  rcases Lo.1 hx with h|h
  ·exact hg x h
  ·rw [Ln]at h; subst h; exact g2
 ·rw [L6 O5]
  obtain⟨g,d2,e2,g2,k2⟩:=V3 (n:=n) hn hd
  obtain⟨g',d3,e3,g3,k3⟩:=V3 (n:=n) hn k2
  rw [e2,L0]; simp only []
  rw [GE O0,L0,L6 O5,e3,L0]; simp only []
  rw [yx (by simp only [L8,L9]; omega),L0,L4 O5]
  refine⟨_,_,_,rfl,k3,by simp only [L8,L9]; omega,fun x hx=> ?_⟩
  rcases Lo.1 hx with h|h
  ·rcases Lo.1 h with h|h
   ·exact hg x h
   ·rw [Ln]at h; subst h; exact g2
  ·rw [Ln]at h; subst h; exact g3
def zcB (n:Nat) (r34:Int×zf) (an:List Anc):Option (List Int×Int×List Anc):=(if(decide (r34.1>0))=true then((vF n r34.2).bind fun r61=>
 (je n r61.2).bind fun r62=>
 (gP 64 an ([(ze.mk r61.1 r62.1)]:List ze)).bind fun x63=>
 if(decide ((wrap .i64 (r34.1-1))>0))=true then((vF n r62.2).bind fun r67=>
 (je n r67.2).bind fun r68=>
 (jR 64 x63 ([(ze.mk r67.1 r68.1)]:List ze)).bind fun x69=>
 if(decide ((wrap .i64 ((wrap .i64 (r34.1-1))-1))>0))=true then(none)else(some (r68.2.f_L,r68.2.xk,x69)))else(some (r62.2.f_L,r62.2.xk,x63)))else(some (r34.2.f_L,r34.2.xk,an)))
theorem za8 {n:Nat} {k:Int} {d:zf} {nm:List Anc} (hn:2000≤n) (hd:wu d) (h0:0≤k) (h1:k<3) (hm:nm.length≤2) (hg:∀a∈nm,BdN 252 a.zt.zh):∃L At r,zcB n (k,d) nm=some (L,At,r)∧wu ⟨L,At⟩∧r.length≤4∧∀a∈r,BdN 252 a.zt.zh:=by
 unfold zcB
 simp only []
 have hk:k=0∨k=1∨k=2:=O0
 rcases hk with rfl|rfl|rfl
 ·rw [L4 O5]; exact⟨_,_,_,rfl,hd,O0,hg⟩
 ·rw [L6 O5]
  obtain⟨g,d2,e2,g2,k2⟩:=BI (n:=n) O0 hd
  obtain⟨y,d3,e3,k3⟩:=mG (n:=n) O0 k2
  rw [e2,L0]; simp only []
  rw [e3,L0]; simp only []
  rw [GE O0,L0,L4 O5]
  refine⟨_,_,_,rfl,k3,by rw [L8,L9]; omega,fun x hx=> ?_⟩
  rcases Lo.1 hx with h|h
  ·exact hg x h
  ·rw [Ln]at h; subst h; exact g2
 ·rw [L6 O5]
  obtain⟨g,d2,e2,g2,k2⟩:=BI (n:=n) O0 hd
  obtain⟨y,d3,e3,k3⟩:=mG (n:=n) O0 k2
  obtain⟨g',d4,e4,g4,k4⟩:=BI (n:=n) O0 k3
  obtain⟨y',d5,e5,k5⟩:=mG (n:=n) O0 k4
  rw [e2,L0]; simp only []
  rw [e3,L0]; simp only []
  rw [GE O0,L0,L6 O5,e4,L0]; simp only []
  rw [e5,L0]; simp only []
  rw [yx (by simp only [L8,L9]; omega),L0,L4 O5]
  refine⟨_,_,_,rfl,k5,by simp only [L8,L9]; omega,fun x hx=> ?_⟩
  rcases Lo.1 hx with h|h
  ·rcases Lo.1 h with h|h
   ·exact hg x h
   ·rw [Ln]at h; subst h; exact g2
  ·rw [Ln]at h; subst h; exact g4
def zcu (r76:Int×zf) (pu:Bs) (ps:List Bs) (ml:Int):Option (Bs×List Bs×Int):=(if(r76.1==1)=true then(some (pu,ps,0))else(if(r76.1==2)=true then(some (([51,46,49]:List UInt8),ps,ml))else(if(r76.1==3)=true then((jR 16 ps ([([49,46,50,46,51]:List UInt8),([49,46,50,46,51]:List UInt8)]:List (List UInt8))).bind fun x84=>
 some (pu,x84,ml))else(some (pu,ps,ml)))))
theorem zbt {r:Int×zf} {pu:Bs} {ps:List Bs} {ml:Int} (h1:pu.length≤100) (h2:ps.length≤3) (h3:∀s∈ps,s.length≤100):∃a b c,zcu r pu ps ml=some (a,b,c)∧a.length≤100∧b.length≤5∧∀s∈b,s.length≤100:=by
 unfold zcu
 by_cases c1:(r.1==1)=true
 ·rw [L6 c1]; exact⟨_,_,_,rfl,h1,O0,h3⟩
 rw [L4 c1]
 by_cases c2:(r.1==2)=true
 ·rw [L6 c2]; exact⟨_,_,_,rfl,O1,O0,h3⟩
 rw [L4 c2]
 by_cases c3:(r.1==3)=true
 ·rw [L6 c3,yx (by simp only [La,Lm]; omega)]
  refine⟨_,_,_,rfl,h1,by simp only [L8,La,Lm]; omega,fun s hs=> ?_⟩
  rcases Lo.1 hs with h|h
  ·exact h3 s h
  ·simp only [Lp,List.not_mem_nil,or_false,or_self]at h; subst h; decide
 rw [L4 c3]
 exact⟨_,_,_,rfl,h1,O0,h3⟩
theorem lJ {n:Nat} {y:Int}:pw n y=vx n y:=rfl
theorem lc {n:Nat} {y m:Int}:bt n y m=wq n y m:=by
 unfold bt wq VP
 have e:∀i:Int,((gu 12 i).bind fun x4=>((GM)[(0+x4*1)]?).bind fun x5=>some x5)=((zM ([31,28,31,30,31,30,31,31,30,31,30,31]:List Int) i).bind fun x3=>some x3):=by
  intro i
  unfold gu zM
  by_cases h0:0≤i
  ·rw [L6 h0]
   by_cases h1:i<((12:Nat):Int)
   ·rw [L6 ⟨h0,h1⟩,L0,show 0+i.toNat*1=i.toNat by omega]; rfl
   ·rw [L4 O0,List.getElem?_eq_none (by show 12≤_; omega)]; rfl
  ·rw [L4 O0,L4 h0]; rfl
 rw [e]
 by_cases c1:(m==2)=true
 ·rw [L6 c1,L6 c1]
  simp only [Option.bind_assoc,L0]
 ·rw [L4 c1,L4 c1]
theorem nb {n:Nat} {t:Int}:∀(k:Nat) (v:Int),bh n t k v=xK n t k v
 |0,_=>rfl
 | k+1,v=>by
  rw [bh,xK,lJ]
  simp only [nb k]
theorem mN {n:Nat} {y:Int}:∀(k:Nat) (a b:Int),bn n y k a b=yQ n y k a b
 |0,_,_=>rfl
 | k+1,a,b=>by
  rw [bn,yQ,lc]
  simp only [mN k]
def bef (y:Int):Int:=365*(y-1950)+((y-1)/4-(y-1)/100+(y-1)/400)-472
theorem WJ {n:Nat} {y:Int} (h0:1950≤y) (h1:y≤10001):vx n y=some (bef y):=by
 unfold vx bef
 rw [z6 (x:=y-1) O0,z6 (x:=y-1950) O0,Int.tdiv_eq_ediv_of_nonneg O0,Int.tdiv_eq_ediv_of_nonneg O0,Int.tdiv_eq_ediv_of_nonneg O0,
  z6 (x:=(y-1)/4) O0,z6 (x:=(y-1)/100) O0,z6 (x:=(y-1)/400) O0,z6 (x:=(y-1)/4-(y-1)/100) O0,z6 (x:=(y-1)/4-(y-1)/100+(y-1)/400) O0,z6 (x:=(365:Int)*(y-1950)) O0,z6 (x:=(365:Int)*(y-1950)+_) O0,z6 O0]
theorem nA {n:Nat} {t:Int} (h0:0≤t) (h1:t≤254033452799):∀(j k:Nat) (v:Int),1950≤v→9999-v=(j:Int)→j<k→bef v≤t/86400→∃y,xK n t k v=some y∧1950≤y∧y≤9999∧bef y≤t/86400∧t/86400<bef (y+1)
 |j,0,_,_,_,h,_=>O0
 | j,k+1,v,a0,a1,hk,hb=>by
  rw [xK,z6 (x:=v+1) O0,WJ O0 O0,L0,Int.tdiv_eq_ediv_of_nonneg h0,z6 O0]
  by_cases c:bef (v+1)≤t/86400
  ·rw [L6 (by rw [L3]; exact c)]
   have hv:v+1≤9999:=by unfold bef at c; omega
   obtain⟨i,rfl⟩:∃i,j=i+1:=⟨j-1,O0⟩
   exact nA h0 h1 i k (v+1) O0 O0 O0 c
  ·rw [L4 (by rw [L3]; exact c)]
   exact⟨v,rfl,a0,O0,hb,O0⟩
def lpY (y:Int):Bool:=y%4==0&&(y%100 !=0||y%400==0)
theorem sQ {y:Int} (h:1950≤y):bef (y+1)=bef y+365+(if lpY y=true then 1 else 0):=by
 unfold bef lpY
 by_cases a:y%4=0
 ·by_cases b:y%100=0
  ·by_cases c:y%400=0
   ·simp only [a,b,c]; simp; omega
   ·simp only [a,b]; simp [c]; omega
  ·simp only [a]; simp [b]; omega
 ·simp [a]; omega
def ml (lp:Bool) (m:Nat):Nat:=if m=2∧lp=true then 29 else [0,31,28,31,30,31,30,31,31,30,31,30,31].getD m 0
theorem KL {n:Nat} {y:Int} (h0:0≤y):∀m:Nat,1≤m→m≤12→wq n y (m:Int)=some ((ml (lpY y) m:Nat):Int):=by
 have e:(if(Int.tmod y 4==0)=true then(if(Int.tmod y 100 !=0)=true then some true else some (Int.tmod y 400==0))else some false)=some (lpY y):=by
  rw [Int.tmod_eq_emod_of_nonneg h0,Int.tmod_eq_emod_of_nonneg h0,Int.tmod_eq_emod_of_nonneg h0]
  unfold lpY
  cases(y%4==0)<;>cases(y%100 !=0)<;>cases(y%400==0)<;>rfl
 intro m h1 h2
 unfold wq
 rw [e]
 generalize lpY y=lp
 match m,h1,h2 with
 |1,_,_|3,_,_|4,_,_|5,_,_|6,_,_|7,_,_|8,_,_|9,_,_|10,_,_|11,_,_|12,_,_=>cases lp<;>rfl
 |2,_,_=>cases lp<;>rfl
 |0,h,_=>omega
 |j+13,_,h=>omega
def rest (lp:Bool):Nat→Nat
 |0=>0
 |j+1=>ml lp (12-j)+rest lp j
theorem fL {n:Nat} {y:Int} (h0:0≤y):∀(j k:Nat) (a:Int),1≤j→j≤12→j<k→0≤a→a<(rest (lpY y) j:Nat)→∃a' m',yQ n y k a ((13-j:Nat):Int)=some (a',m')∧0≤a'∧a'≤30∧1≤m'∧m'≤12
 |j,0,_,_,_,h,_,_=>O0
 |0,k+1,_,h,_,_,_,_=>O0
 | j + 1,k+1,a,_,hj,hk,ha,hr=>by
  rw [yQ,KL h0 _ O0 O0,L0,L0]
  have hm:ml (lpY y) (12-j)≤31:=by
   have:=show ∀lp:Bool,∀m<13,ml lp m≤31 by decide
   exact this _ _ O0
  rw [show 13-(j+1)=12-j by omega]
  by_cases c:a≥((ml (lpY y) (12-j):Nat):Int)
  ·rw [L6 (by rw [L3]; exact c),rest]at *
   have hj1:1≤j:=by
    cases j with
    |zero=>simp only [rest]at hr; omega
    |succ j=>omega
   have hb:(rest (lpY y) j:Nat)≤1000:=by
    have:=show ∀lp:Bool,∀m<13,rest lp m≤1000 by decide
    exact this _ _ O0
   rw [z6 (x:=a-_) O0,z6 O0,show((12-j:Nat):Int)+1=((13-j:Nat):Int)by omega]
   exact fL h0 j k _ hj1 O0 O0 O0 O0
  ·rw [L4 (by rw [L3]; exact c)]
   exact⟨_,_,rfl,ha,O0,O0,O0⟩
theorem sG {n:Nat} {t:Int} (hn:10000≤n) (h0:0≤t) (h1:t≤254033452799):∃Y M D h m s:Nat,(1950≤Y∧Y≤9999)∧M<100∧D<100∧h<100∧m<100∧s<100 ∧
  Yz n t=some (⟨Y,M,D,h,m,s⟩,0)∧kR n t=some (⟨Y,M,D,h,m,s⟩,0):=by
 have hd:wrap .i64 (Int.tdiv t 86400)=t/86400:=by rw [Int.tdiv_eq_ediv_of_nonneg h0,z6 O0]
 have hy:wrap .i64 ((1950:Int)+wrap .i64 (Int.tdiv (t/86400) 366))=1950+(t/86400)/366:=by
  rw [Int.tdiv_eq_ediv_of_nonneg O0,z6 (x:=t/86400/366) O0,z6 O0]
 have hb0:bef (1950+(t/86400)/366)≤t/86400:=by
  generalize hg:t/86400=d
  have hd0:0≤d:=O0
  generalize hq:d/366=q
  have hq0:0≤q:=O0
  have hq1:366*q≤d:=O0
  have:bef (1950+q)≤366*q:=by
   unfold bef
   have:q=0∨q=1∨q=2∨3≤q:=O0
   rcases this with rfl|rfl|rfl|h
   ·decide
   ·decide
   ·decide
   ·omega
  omega
 obtain⟨y,ey,y0,y1,y2,y3⟩:=nA (n:=n) h0 h1 (9999-(1950+(t/86400)/366)).toNat n (1950+(t/86400)/366) O0 O0 O0 hb0
 have hs:=sQ y0
 have hr:∀lp:Bool,rest lp 12=365+(if lp=true then 1 else 0):=O1
 obtain ⟨a,m,em,a0,a1,m0,m1⟩:=fL (n:=n) (y:=y) O0 12 n (t/86400-bef y) O0 O0 O0 O0 (by
  rw [hr]
  by_cases c:lpY y=true
  ·rw [L6 c]at hs ⊢; omega
  ·rw [L4 c]at hs ⊢; omega)
 have hbb: -1000000≤bef y:=by unfold bef; omega
 have e1:Int.tmod t 86400=t%86400:=Int.tmod_eq_emod_of_nonneg h0
 refine⟨y.toNat,m.toNat,(a+1).toNat,(t/3600%24).toNat,(t/60%60).toNat,(t%60).toNat,O0,O0,O0,O0,O0,O0, ?_, ?_⟩
 ·unfold Yz
  rw [ifb,L0,L4 O3,hd,hy,nb,ey,L0,lJ,WJ O0 O0,L0,z6 (x:=t/86400-bef y) O0,mN,show yQ n y n (t/86400-bef y) 1=some (a,m)from em,L0,e1]
  rw [Int.tdiv_eq_ediv_of_nonneg O0,Int.tdiv_eq_ediv_of_nonneg O0,z6 (x:=t%86400/3600) O0,z6 (x:=t%86400/60) O0,Int.tmod_eq_emod_of_nonneg O0,Int.tmod_eq_emod_of_nonneg O0]
  dsimp only
  rw [z6 (x:=a+1) O0]
  congr 3<;>omega
 ·unfold kR
  rw [ifb,L0,L4 O3,hd,hy,ey,L0,WJ O0 O0,L0,z6 (x:=t/86400-bef y) O0,show yQ n y n (t/86400-bef y) 1=some (a,m)from em,L0]
  rw [Int.tdiv_eq_ediv_of_nonneg h0,Int.tdiv_eq_ediv_of_nonneg h0,z6 (x:=t/3600) O0,z6 (x:=t/60) O0,Int.tmod_eq_emod_of_nonneg O0,Int.tmod_eq_emod_of_nonneg O0,Int.tmod_eq_emod_of_nonneg O0]
  dsimp only
  rw [z6 (x:=a+1) O0]
  congr 3<;>omega
def dI (x:Nat):Int:=((48+x%10:Nat):Int)
theorem Vb {x:Nat} (h:x≤100000):wrap .u8 (wrap .i64 ((48:Int)+Int.tmod (x:Int) 10))=dI x:=by
 rw [Int.tmod_eq_emod_of_nonneg O0,z6 O0]
 show _%(256:Int)=_
 unfold dI
 omega
theorem Qi {x:Nat} (h:x≤100000):wrap .i64 (Int.tdiv (x:Int) 10)=((x/10:Nat):Int):=by
 rw [Int.tdiv_eq_ediv_of_nonneg O0,z6 O0]; omega
theorem zbL {n x:Nat} {l:List Int} (hn:10≤n) (hx:x≤100000) (hl:l.length≤1000):YB n l.length (x:Int) 2 l=some (l.length+2,l ++ [dI (x/10),dI x]):=by
 obtain⟨m,rfl⟩:∃m,n=m+4:=⟨n-4,O0⟩
 unfold YB
 have o1:∀l:List Int,l.length≤1001→Yd 1 l.length l [48]=some (l ++ [48]):=by
  intro l hl
  unfold Yd
  rw [L6 O3]
 have e1:jD (m+4) 2 (m+4) l.length 0 l=some (l.length+2,l ++ [48,48]):=by
  rw [jD,L6 O1,o1 l O0,L0,show wrap .i64 ((0:Int)+1)=1 by rfl,jD,L6 O1,
   show l.length+List.length ([48]:List Int)=(l ++ [48]).length by simp,o1 _ O3,L0,show wrap .i64 ((1:Int)+1)=2 by rfl,jD,L4 O1]
  simp
 rw [e1,L0]; dsimp only
 rw [z6 (x:=((l.length+2:Nat):Int)-1) O0,qj,L6 O4]; dsimp only
 rw [ZQ O0,L0,Vb hx,show(((l.length+2:Nat):Int)-1).toNat*1=l.length+1 by omega,
  show Wt (l ++ [48,48]) (l.length+1) (dI x)=some (l ++ [48,dI x])from(L6 O2).trans (by simp [List.set_append]),L0,
  Qi hx,z6 (x:=((l.length+2:Nat):Int)-1-1) O0,qj,L6 O4]; dsimp only
 rw [ZQ O0,L0,Vb O0,show(((l.length+2:Nat):Int)-1-1).toNat*1=l.length by omega,
  show Wt (l ++ [48,dI x]) l.length (dI (x/10))=some (l ++ [dI (x/10),dI x])from(L6 O2).trans (by simp [List.set_append]),L0,
  Qi O0,z6 O0,qj,L4 O4,L0]
theorem zf8 {n x:Nat} (hn:10≤n) (hx:x≤100000):ZH n (x:Int) 2=some (2,[dI (x/10),dI x]):=by
 obtain⟨m,rfl⟩:∃m,n=m+4:=⟨n-4,O0⟩
 rw [←Vb hx,←Vb (x:=x/10) O0,←Qi hx]
 rfl
theorem zfw {n x:Nat} (hn:10≤n) (hx:x≤100000):ZH n (x:Int) 4=some (4,[dI (x/10/10/10),dI (x/10/10),dI (x/10),dI x]):=by
 obtain⟨m,rfl⟩:∃m,n=m+6:=⟨n-6,O0⟩
 rw [←Vb hx,←Vb (x:=x/10) O0,←Vb (x:=x/10/10) O0,←Vb (x:=x/10/10/10) O0,←Qi (x:=x/10/10) O0,←Qi (x:=x/10) O0,←Qi hx]
 rfl
def d2 (x:Nat):Bs:=b2s [dI (x/10),dI x]
theorem QH {n:Nat} {k x:Nat} (h:10≤x) (hx:x≤100000) {s:Bs} (hs:s.length≤100) (he:z7 n k ((x/10:Nat):Int)=some s):z7 n (k+1) (x:Int)=some (s++b2s [dI x]):=by
 rw [z7,L4 O4,Qi hx,he,L0,Vb hx,show um s (b2s [dI x])=some (s++b2s [dI x])from L6 (by show s.length+1≤_; omega),L0]
theorem Pf {n:Nat} {k x:Nat} (h:x<10):z7 n (k+1) (x:Int)=some (b2s [dI x]):=by
 rw [z7,L6 O4,←Vb O0,show Int.tmod (x:Int) 10=x by rw [Int.tmod_eq_emod_of_nonneg O0]; omega]
theorem oV {n x:Nat} (hn:10≤n) (hx:x<100):xa n (x:Int) 2=some (d2 x):=by
 obtain⟨m,rfl⟩:∃m,n=m+3:=⟨n-3,O0⟩
 unfold xa d2
 by_cases h:x<10
 ·rw [Pf h,L0,show dI (x/10)=48 by rw [show x/10=0 by omega]; rfl]
  rfl
 ·rw [QH O0 O0 (s:=b2s [dI (x/10)]) (by simp [b2s]) (Pf O0),L0]
  rfl
theorem zfu {n x:Nat} (hn:10≤n) (h0:1000≤x) (hx:x<10000):xa n (x:Int) 4=some (b2s [dI (x/10/10/10),dI (x/10/10),dI (x/10),dI x]):=by
 obtain⟨m,rfl⟩:∃m,n=m+5:=⟨n-5,O0⟩
 unfold xa
 rw [QH O0 O0 (by simp [b2s]) (QH O0 O0 (by simp [b2s]) (QH O0 O0 (s:=b2s [dI (x/10/10/10)]) (by simp [b2s]) (Pf O0))),L0]
 rfl
theorem sr {n:Nat} (hn:100≤n) {Y M D h m s:Nat} {l:List Int} (a1:M<100) (a2:D<100) (a3:h<100) (a4:m<100) (a5:s<100) (hl:l.length≤4):
  uD n (⟨Y,M,D,h,m,s⟩,0) n l.length 0 l=some (l.length+10,l ++ [dI (M/10),dI M,dI (D/10),dI D,dI (h/10),dI h,dI (m/10),dI m,dI (s/10),dI s]):=by
 obtain⟨j,rfl⟩:∃j,n=j+6:=⟨n-6,O0⟩
 have step:∀(k x:Nat) (l:List Int) (i:Nat),i<5→x<100→l.length≤100→([(M:Int),D,h,m,s]:List Int)[i]? =some (x:Int) →
   uD (j+6) (⟨Y,M,D,h,m,s⟩,0) (k+1) l.length (i:Int) l=uD (j+6) (⟨Y,M,D,h,m,s⟩,0) k (l ++ [dI (x/10),dI x]).length ((i+1:Nat):Int) (l ++ [dI (x/10),dI x]):=by
  intro k x l i hi hx hl hg
  rw [uD,L6 (by rw [L3]; show(i:Int)<((5:Nat):Int); omega)]
  dsimp only
  rw [show zM ([(M:Int),D,h,m,s]:List Int) (i:Int)=some (x:Int)from(L6 O0).trans (by rw [Int.toNat_natCast]; exact hg),L0,zbL O0 O0 O0,L0,w1 O0]
  simp
 refine(step (j+5) M l 0 O0 a1 O0 rfl).trans ?_
 refine(step (j+4) D _ 1 O0 a2 O3 rfl).trans ?_
 refine(step (j+3) h _ 2 O0 a3 O3 rfl).trans ?_
 refine(step (j+2) m _ 3 O0 a4 O3 rfl).trans ?_
 refine(step (j+1) s _ 4 O0 a5 O3 rfl).trans ?_
 rw [uD,L4 (by rw [L3]; show ¬(((4+1:Nat):Int)<((5:Nat):Int)); omega)]
 simp
theorem DJ {n:Nat} {t:Int} (hn:10000≤n) (h0:0≤t) (h1:t≤254033452799):∃(g:Nat) (c:Bs),(g=23∨g=24)∧c.length≤20∧ud n t=some ((tWrap g c).1,0)∧w8 n t=some ((tWrap g c).1,0):=by
 obtain⟨Y,M,D,h,m,s,⟨y0,y1⟩,a1,a2,a3,a4,a5,ep,er⟩:=sG (n:=n) hn h0 h1
 have key:∀(g:Nat) (pre:List Int),(g=23∨g=24)→pre.length≤4→(g=24↔2050≤Y)→(g=23→pre= [dI (Y%100/10),dI (Y%100)])→(g=24→pre= [dI (Y/10/10/10),dI (Y/10/10),dI (Y/10),dI Y]) →
   (b2s pre++(d2 M++d2 D++d2 h++d2 m++d2 s ++ [90])).length≤20∧ud n t=some (tWrap g (b2s pre++(d2 M++d2 D++d2 h++d2 m++d2 s ++ [90])))∧w8 n t=some (tWrap g (b2s pre++(d2 M++d2 D++d2 h++d2 m++d2 s ++ [90]))):=by
  intro g pre hg hpre hY p23 p24
  have ltot:(b2s pre++(d2 M++d2 D++d2 h++d2 m++d2 s ++ [90])).length≤20:=by simp [b2s,d2]; omega
  have hmod:Int.tmod (Y:Int) 100=((Y%100:Nat):Int):=by rw [Int.tmod_eq_emod_of_nonneg O0]; omega
  refine⟨ltot, ?_, ?_⟩
  ·unfold ud
   rw [ep,L0,L4 (show ¬(((0:Int) !=0)=true)by decide)]; dsimp only
   rw [hmod,zf8 O0 O0,L0]
   have e:(if decide ((Y:Int)≥2050)=true then((ZH n (Y:Int) 4).bind fun r9=>some ((24:Int),r9.1,r9.2))else some (23,(2,[dI (Y%100/10),dI (Y%100)]).1,(2,[dI (Y%100/10),dI (Y%100)]).2))=some ((g:Int),pre.length,pre):=by
    rcases hg with rfl|rfl
    ·rw [L4 O4,p23 rfl]; rfl
    ·rw [L6 O4,zfw O0 O0,p24 rfl]; rfl
   rw [e,L0]; dsimp only
   rw [sr O0 a1 a2 a3 a4 a5 hpre,L0]; dsimp only
   rw [show Ke (pre.length+10) (pre ++ [dI (M/10),dI M,dI (D/10),dI D,dI (h/10),dI h,dI (m/10),dI m,dI (s/10),dI s])=some (b2s (pre ++ [dI (M/10),dI M,dI (D/10),dI D,dI (h/10),dI h,dI (m/10),dI m,dI (s/10),dI s]))from(L6 O2).trans (by rw [List.take_of_length_le O2]),L0]
   rw [Vm (t:=g) O0 (by rcases hg with rfl|rfl<;>decide) (by
    intro c hc
    simp only [Lp,List.not_mem_nil,or_false]at hc
    rcases hc with rfl|rfl
    ·simp [b2s]; omega
    ·simp) O3 O2,L0]
   rw [show [b2s (pre ++ [dI (M/10),dI M,dI (D/10),dI D,dI (h/10),dI h,dI (m/10),dI m,dI (s/10),dI s]),[90]].flatten=b2s pre++(d2 M++d2 D++d2 h++d2 m++d2 s ++ [90])by simp [b2s,d2]]
  ·have hs:∀a b:Bs,a.length≤100→b.length≤100→um a b=some (a++b):=fun a b ha hb=>L6 O0
   have l2:∀x,(d2 x).length=2:=fun _=>rfl
   unfold w8
   rw [er,L0,L4 (show ¬(((0:Int) !=0)=true)by decide)]; dsimp only
   rw [oV O0 a1,L0,oV O0 a2,L0,hs _ _ (by simp [l2]) (by simp [l2]),L0,oV O0 a3,L0,hs _ _ (by simp [l2]) (by simp [l2]),L0,oV O0 a4,L0,hs _ _ (by simp [l2]) (by simp [l2]),L0,
    oV O0 a5,L0,hs _ _ (by simp [l2]) (by simp [l2]),L0,hs _ _ (by simp [l2]) O2,L0]
   rcases hg with rfl|rfl
   ·rw [L6 O4,hmod,oV O0 O0,L0,hs _ _ (by simp [l2]) (by simp [l2]),L0,show((23:Int))=((23:Nat):Int)by rfl,XL (t:=23) O0 O1 (by simp [l2]) O3 O2,L0,p23 rfl]
    simp [d2]
   ·rw [L4 O4,zfu O0 O0 O0,L0,hs _ _ (by simp [b2s]) (by simp [l2]),L0,show((24:Int))=((24:Nat):Int)by rfl,XL (t:=24) O0 O1 (by simp [l2,b2s]) O3 O2,L0,p24 rfl]
    simp
 have fin:∀(g:Nat) (c:Bs),c.length≤20→tWrap g c=((tWrap g c).1,0):=fun g c hc=>by rw [WK O0]
 by_cases c:2050≤Y
 ·obtain⟨k1,k2,k3⟩:=key 24 [dI (Y/10/10/10),dI (Y/10/10),dI (Y/10),dI Y] (.inr rfl) O2 O0 O0 (fun _=>rfl)
  exact⟨24,_, .inr rfl,k1,k2.trans (congrArg some (fin _ _ k1)),k3.trans (congrArg some (fin _ _ k1))⟩
 ·obtain⟨k1,k2,k3⟩:=key 23 [dI (Y%100/10),dI (Y%100)] (.inl rfl) O2 O0 (fun _=>rfl) O0
  exact⟨23,_, .inl rfl,k1,k2.trans (congrArg some (fin _ _ k1)),k3.trans (congrArg some (fin _ _ k1))⟩
end Go.Abs
end
