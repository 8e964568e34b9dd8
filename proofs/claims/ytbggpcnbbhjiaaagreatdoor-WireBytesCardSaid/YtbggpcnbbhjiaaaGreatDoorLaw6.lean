/- The typed Lean form of WireBytes gives true for every string. No condition. -/
import Derived.Test.YtbggpcnbbhjiaaaGreatDoorLaw5
set_option linter.unusedVariables false
set_option linter.unusedSimpArgs false
set_option linter.unnecessarySimpa false
section
set_option maxRecDepth 100000
namespace Go.Abs
open Go Go.Proofs IntKind
abbrev Gen:=zd
def okG (n:Nat) (g:Gen):Prop:=wR n g false=some 0
def BdG (B:Nat) (g:Gen):Prop:=g.yy.length≤B∧BdN B g.zo.zg
def vU (g:Gen):Nat×Bs:=if g.zG=4 then(164,(tWrap (y8 g.zo.zg).1 (y8 g.zo.zg).2).1)else((128+g.zG).toNat,g.yy)
def dn (g:Gen):Gen:=⟨g.zG,g.yy,⟨WX g.zo.zg⟩⟩
theorem Y7 {n B:Nat} {g:Gen} (h:okG n g) (hb:BdN B g.zo.zg) (hB:B≤1000000) (hn:B+100≤n):
  (g.zG=4∧g.yy= []∧okN g.zo.zg)∨((g.zG=1∨g.zG=2∨g.zG=7)∧g.zo.zg= []):=by
 unfold okG wR Yo at h
 by_cases k1:g.zG=4
 ·left
  rw [k1,L3 O1,L3 O1,L4 O1,L0,L3 O1,L4 O1]at h
  by_cases ht:g.yy= []
  ·rw [L3 (by rw [ht]; decide),J4 hb hB hn]at h
   injection h with h
   exact⟨k1,ht,kT.1 h⟩
  ·rw [L4 (O9 ht)]at h; injection h with h; exact absurd h O1
 ·right
  have rd:(if decide ((List.length g.zo.zg:Int)>0)=true then some true else none)=some true→False∨True:=fun _=> .inr trivial
  have key:∀v:Int,v≠4→v≠2→((some v:Option Int).bind fun r1=>
    if(r1==4)=true then(some (14:Int))else(if(r1==2)=true then(if(!(g.yy==([]:List UInt8)))=true then(some 14)else((jE n (zC.mk g.zo.zg)).bind fun r6=>
    some r6))else((if(decide ((List.length g.zo.zg:Int)>0))=true then(some true)else((vj n r1 g.yy false).bind fun r7=>
    some (!r7))).bind fun y9=>
    if y9=true then(some 14)else(some 0))))=some 0→g.zo.zg= []:=by
   intro v h4 h2 h
   rw [L0,L3 (O9 h4),L3 (O9 h2)]at h
   by_cases hl:g.zo.zg= []
   ·exact hl
   ·have:0<g.zo.zg.length:=List.length_pos_iff.2 hl
    rw [L4 O4,L0,L4 rfl]at h
    injection h with h; exact absurd h O1
  by_cases k2:g.zG=1
  ·rw [k2,L4 O1]at h
   exact⟨.inl k2,key 0 O1 O1 h⟩
  by_cases k3:g.zG=2
  ·rw [k3,L3 O1,L4 O1]at h
   exact⟨.inr (.inl k3),key 1 O1 O1 h⟩
  by_cases k4:g.zG=7
  ·rw [k4,L3 O1,L3 O1,L3 O1,L4 O1]at h
   exact⟨.inr (.inr k4),key 3 O1 O1 h⟩
  rw [L3 (O9 k2),L3 (O9 k3),L3 (O9 k1),L3 (O9 k4),L0,L4 O1]at h
  injection h with h; exact absurd h O1
theorem tY {n B:Nat} {l:List (List Att)} (h:okN l) (hb:BdN B l) (hB:B≤1000000) (hn:B+100≤n):okG n ⟨4,[],⟨l⟩⟩:=by
 unfold okG wR Yo
 dsimp only
 rw [L3 O1,L3 O1,L4 O1,L0,L3 O1,L4 O1,L3 O1,J4 hb hB hn,kT.2 h]
 rfl
theorem Qc {n B:Nat} {g:Gen} (h:okG n g) (hb:BdN B g.zo.zg) (hB:B≤1000000) (hn:B+1000≤n):okG n (dn g):=by
 obtain⟨k,t,⟨l⟩⟩:=g
 rcases Y7 h hb hB O0 with⟨h1,h2,h3⟩|⟨h1,h2⟩
 ·simp only at h1 h2 h3
  subst h1 h2
  exact tY (JM h3) (fY (JM h3)) O0 O0
 ·simp only at h2
  subst h2
  exact h
theorem XS {n B:Nat} {g:Gen} (h:okG n g) (hb:BdG B g) (hB:B≤60000) (hn:B+1000≤n):POk (vU g)∧(vU g).2.length≤B+4333∧Wf 5 (vU g):=by
 rcases Y7 h hb.2 O0 O0 with⟨h1,h2,h3⟩|⟨h1,h2⟩
 ·have e:vU g=(164,(tWrap (y8 g.zo.zg).1 (y8 g.zo.zg).2).1):=by unfold vU; rw [L4 h1]
  have l1:=dm h3
  have l2:=zU (y8 g.zo.zg).1 (y8 g.zo.zg).2
  rw [e]
  refine⟨⟨by dsimp only; decide,by dsimp only; decide,O6⟩,O6, ?_⟩
  have ew:(tWrap (y8 g.zo.zg).1 (y8 g.zo.zg).2).1=wraps [y8 g.zo.zg]:=by simp [wraps]
  rw [ew]
  exact Wf.node (t:=164) (k:=4) (l:= [y8 g.zo.zg]) fun q hq=>by
   rw [Lk]at hq; subst hq; exact⟨K4 h3,mU h3⟩
 ·have hk:¬g.zG=4:=O0
  have e:vU g=((128+g.zG).toNat,g.yy):=by unfold vU; rw [L3 hk]
  have:=hb.1
  rw [e]
  rcases h1 with h1|h1|h1<;>rw [h1]
  all_goals refine⟨⟨by dsimp only; decide,by dsimp only; decide,O6⟩,O6,Wf.leaf O1⟩
theorem zeo {n B:Nat} {g:Gen} (h:okG n g) (hb:BdG B g) (hB:B≤60000) (hn:B+1000≤n):da n g false=some ((tWrap (vU g).1 (vU g).2).1,0):=by
 obtain⟨hp,hl,_⟩:=XS h hb hB hn
 unfold da
 have h':wR n ⟨g.zG,g.yy,⟨g.zo.zg⟩⟩ false=some 0:=h
 rw [h',L0,L3 O1]
 rcases Y7 h hb.2 O0 O0 with⟨h1,h2,h3⟩|⟨h1,h2⟩
 ·have e:vU g=(164,(tWrap (y8 g.zo.zg).1 (y8 g.zo.zg).2).1):=by unfold vU; rw [L4 h1]
  rw [e]at hl ⊢
  have e0:XV g.zo.zg=((tWrap 48 (y8 g.zo.zg).2).1,0):=by unfold XV; rw [L3 (by rw [kT.2 h3]; simp)]
  have ek:wrap .i64 ((160:Int)+4)=((164:Nat):Int):=O1
  rw [L3 (by rw [h1]; decide),Ge hb.2 O0 O0,L0,e0,L3 O2,h1,ek]
  have l3:(tWrap 48 (y8 g.zo.zg).2).1.length≤B+4333:=hl
  rw [Js O0 O0 O6 O0,L0,be (t:=164) O6]
  rfl
 ·have hk:¬g.zG=4:=O0
  have e:vU g=((128+g.zG).toNat,g.yy):=by unfold vU; rw [L3 hk]
  have hbt:=hb.1
  have ek:wrap .i64 ((128:Int)+g.zG)=(((128+g.zG).toNat:Nat):Int):=by rw [yv O0]; omega
  rw [e,L4 (O9 hk),ek,Js O0 (by rcases h1 with h1|h1|h1<;>rw [h1]<;>decide) O0 O0,L0,be O0]
theorem PX {n B:Nat} (hB:B≤60000) (hn:B+1000≤n) (l:List Gen) (ho:∀g∈l,okG n g) (hb:∀g∈l,BdG B g) (hl:l.length≤16):∀(k i:Nat) (acc:Bs),i≤l.length→l.length-i<k→acc.length≤100000*i→uP n l k acc (i:Int)=some (.nxt (acc++wraps ((l.drop i).map vU)))
 |0,i,_,_,h,_=>O0
 | k+1,i,acc,hi,hk,ha=>by
  rw [uP]
  by_cases hc:i<l.length
  ·have hx:=Li hc
   obtain⟨_,hgl,_⟩:=XS (ho _ hx) (hb _ hx) hB hn
   have hw:=zU (vU l[i]).1 (vU l[i]).2
   have he:da n ⟨l[i].zG,l[i].yy,⟨l[i].zo.zg⟩⟩ false=some ((tWrap (vU l[i]).1 (vU l[i]).2).1,0):=zeo (ho _ hx) (hb _ hx) hB hn
   rw [L4 O4,zE hc,L0,he,L0,L3 O2,yo O6,L0,w1 O0]
   dsimp only
   rw [PX hB hn l ho hb hl k (i+1) _ O0 O0 (by rw [L5]; omega),L9 hc,Lb,ji,Ln]
  ·rw [L3 O4,La O0]
   simp [wraps]
theorem zb9 {n B:Nat} (hB:B≤60000) (hn:B+1000≤n) {l:List Gen} (ho:∀g∈l,okG n g) (hb:∀g∈l,BdG B g) (h0:l≠ []) (hl:l.length≤16):qQ n l=some (wraps (l.map vU),0):=by
 have hp:0<l.length:=List.length_pos_iff.2 h0
 unfold qQ gx
 have e:=PX (n:=n) hB hn l ho hb hl n 0 [] O0 O0 O2
 rw [show((0:Nat):Int)=0 from rfl,Lf,Lg]at e
 rw [L3 O8,L3 O4,L0,L3 O1,e]
 rfl
theorem zer {n B:Nat} {g:Gen} (h:okG n g) (hb:BdG B g) (hB:B≤60000) (hn:200000000≤n):bw n (elm (vU g)) false=some (dn g,0):=by
 have hs:wR n ⟨g.zG,g.yy,⟨WX g.zo.zg⟩⟩ false=some 0:=Qc h hb.2 O0 O0
 obtain⟨hD,hO,hBk⟩:=DL (n:=n) (M:=900000) O0 hn
 unfold bw
 rcases Y7 h hb.2 O0 O0 with⟨h1,h2,h3⟩|⟨h1,h2⟩
 ·have e:vU g=(164,(tWrap (y8 g.zo.zg).1 (y8 g.zo.zg).2).1):=by unfold vU; rw [L4 h1]
  have l1:=dm h3
  have l2:=zU (y8 g.zo.zg).1 (y8 g.zo.zg).2
  have et:(elm (164,(tWrap (y8 g.zo.zg).1 (y8 g.zo.zg).2).1)).zA=164:=rfl
  have ec:(elm (164,(tWrap (y8 g.zo.zg).1 (y8 g.zo.zg).2).1)).zc=(tWrap (y8 g.zo.zg).1 (y8 g.zo.zg).2).1:=rfl
  rw [e,et,ec,L3 O1,L3 O1,L0,L3 O1,L4 O1,mQ hD hO O0 O0 O0,L0,YP hBk h3,L3 O2]
  simp only [z8]
  rw [h1,h2]at hs
  rw [hs,L0,L3 O1]
  unfold dn
  rw [h1,h2]
 ·have hk:¬g.zG=4:=O0
  have e:vU g=((128+g.zG).toNat,g.yy):=by unfold vU; rw [L3 hk]
  have et:(elm ((128+g.zG).toNat,g.yy)).zA=128+g.zG:=by show(((128+g.zG).toNat:Nat):Int)=_; omega
  have ec:(elm ((128+g.zG).toNat,g.yy)).zc=g.yy:=rfl
  have key:(if((128+g.zG)==(129:Int))=true then(some ((128+g.zG)==(129:Int)))else(if((128+g.zG)==(130:Int))=true then(some ((128+g.zG)==(130:Int)))else(some ((128+g.zG)==(135:Int)))))=some true:=by
   rcases h1 with h1|h1|h1<;>rw [h1]<;>rfl
  have ew:wrap .i64 (128+g.zG-128)=g.zG:=by rw [yv O0]; omega
  rw [e,et,ec,key,L0,L4 rfl,ew]
  simp only [z8]
  rw [h2]at hs
  have hs':wR n ⟨g.zG,g.yy,⟨[]⟩⟩ false=some 0:=hs
  rw [hs',L0,L3 O1]
  unfold dn
  rw [h2]
  rfl
theorem cX {n B:Nat} (hB:B≤60000) (hn:200000000≤n) (l:List Gen) (ho:∀g∈l,okG n g) (hb:∀g∈l,BdG B g) (hl:l.length≤16):∀(k i:Nat) (acc:List Gen),i≤l.length→l.length-i<k→acc.length≤i→wQ n ((l.map vU).map elm,0) k acc (i:Int)=some (.nxt (acc++(l.drop i).map dn))
 |0,i,_,_,h,_=>O0
 | k+1,i,acc,hi,hk,ha=>by
  rw [wQ]
  have hlen:((l.map vU).map elm).length=l.length:=by rw [L8,L8]
  dsimp only
  rw [hlen]
  by_cases hc:i<l.length
  ·have hx:=Li hc
   have hi2:zV ((l.map vU).map elm) (i:Int)=some (elm (vU l[i])):=by rw [zE (by rw [hlen]; omega)]; simp
   rw [L4 O4,hi2,L0,zer (ho _ hx) (hb _ hx) hB hn,L0,L3 O2,yU (by rw [L6]; omega),L0,w1 O0]
   have:=cX hB hn l ho hb hl k (i+1) (acc ++ [dn l[i]]) O0 O0 (by rw [L5,L6]; omega)
   rw [Ln,List.singleton_append]at this
   rw [L9 hc,Lb]
   exact this
  ·rw [L3 O4,La O0]
   simp
theorem zcl {n B:Nat} (hB:B≤60000) (hn:200000000≤n) {l:List Gen} (ho:∀g∈l,okG n g) (hb:∀g∈l,BdG B g) (h0:l≠ []) (hl:l.length≤16) (hw:(wraps (l.map vU)).length≤131072):uh n (wraps (l.map vU))=some (l.map dn,0):=by
 have hp:0<l.length:=List.length_pos_iff.2 h0
 have hq:∀p∈l.map vU,POk p:=by
  intro p hp; obtain⟨g,hg,rfl⟩:=Le.1 hp; exact(XS (ho g hg) (hb g hg) hB O0).1
 unfold uh gx
 have e:=cX (n:=n) hB hn l ho hb hl n 0 [] O0 O0 O2
 rw [show((0:Nat):Int)=0 from rfl,Lf,Lg]at e
 have hlen:((l.map vU).map elm).length=l.length:=by rw [L8,L8]
 rw [kW O0 O0,yV hq,L0,L3 O2]
 dsimp only
 rw [hlen,L3 O8,L3 O4,L0,L3 O1,e]
 rfl
def zaF (m:Nat) (t:Int):Bool:=match vW (m+1000) t with
 | some (s,e)=>decide (e=0)&&(decide ((va s).1.zA=23)||decide ((va s).1.zA=24))&&decide ((va s).1.zc.length≤20)&&decide (s=(tWrap (va s).1.zA.toNat (va s).1.zc).1) &&
  (match yE (m+1000) (va s).1.zA (va s).1.zc with|some (v,f)=>decide (v=t)&&decide (f=0)|none=>false)
 |none=>false
def zaA:List Int:= [0,1000,2000000000,3155759999,3155760000,254033452799,2400000000]
theorem nh (m:Nat):zaA.all (zaF m)=true:=O7
theorem t8 {n:Nat} (hn:1000≤n) {t:Int} (ht:t∈zaA):∃(g:Nat) (c:Bs),(g=23∨g=24)∧c.length≤20∧vW n t=some ((tWrap g c).1,0)∧yE n (g:Int) c=some (t,0):=by
 obtain⟨m,rfl⟩:∃m,n=m+1000:=⟨n-1000,O0⟩
 have h:=Ld.1 (nh m) t ht
 unfold zaF at h
 cases he:vW (m+1000) t with
 |none=>rw [he]at h; cases h
 | some r=>
  obtain⟨s,e⟩:=r
  rw [he]at h
  simp only [Lc,Bool.or_eq_true,L2]at h
  obtain⟨⟨⟨⟨h1,h2⟩,h3⟩,h4⟩,h5⟩:=h
  have hg:(va s).1.zA=(((va s).1.zA.toNat:Nat):Int):=O0
  refine⟨(va s).1.zA.toNat,(va s).1.zc,O0,h3,by rw [←h4,h1], ?_⟩
  rw [←hg]
  cases hd:yE (m+1000) (va s).1.zA (va s).1.zc with
  |none=>rw [hd]at h5; cases h5
  | some r=>
   obtain⟨v,f⟩:=r
   rw [hd]at h5
   simp only [Lc,L2]at h5
   rw [h5.1,h5.2]
abbrev Qry:=zz
def kJ (q:Qry):Qry:={q with zw:=q.zw.map dn,zf:=q.zf.map dZ}
def BdQ (B:Nat) (q:Qry):Prop:=q.zB.length≤B∧(∀s∈q.ze,s.length≤B)∧(∀g∈q.zw,BdG B g)∧∀a∈q.zf,BdN B a.zo.zg
def QOk (n:Nat) (q:Qry):Prop:=(q.zB= []∨(y4 q.zB).isSome=true)∧(0≤q.yk∧q.yk≤511)∧(1≤q.yj∧q.yj≤8)∧(q.ze.length≤8∧q.zw.length≤16∧q.zf.length≤64)∧q.ze.all (fun s=>(y4 s).isSome)=true∧(∀g∈q.zw,okG n g)∧∀a∈q.zf,Zf a
theorem Gn {n:Nat} {q q':Qry} (h:q'.ze=q.ze):∀(k:Nat) (i:Int) (m:List (Bs×Bool)),yT n q' k i m=yT n q k i m
 |0,i,m=>rfl
 |k+1,i,m=>by rw [yT,yT]; simp only [h,Gn h k]
theorem fO {n B:Nat} (hB:B≤100000) (hn:B+1000≤n) (q:Qry) (hb:∀s∈q.ze,s.length≤B) (hl:q.ze.length≤8):∀(k i:Nat) (m:List (Bs×Bool)) (c:Ctl Int (List (Bs×Bool))),i≤q.ze.length→yT n q k (i:Int) m=some c →
  (∃m',c= .nxt m'∧∀s∈q.ze.drop i,(y4 s).isSome=true)∨c= .ret 11
 |0,i,m,c,_,h=>by rw [yT]at h; cases h
 | k + 1,i,m,c,hi,h=>by
  rw [yT]at h
  by_cases hc:i<q.ze.length
  ·have hx:=hb _ (Li hc)
   rw [L4 O4,zE hc,L0,Y5 O0 O0,L0]at h
   by_cases hv:(y4 q.ze[i]).isSome=true
   ·rw [L3 (by rw [hv]; simp),w1 O0]at h
    rcases fO hB hn q hb hl k (i+1) _ c O0 h with⟨m',h1,h2⟩|h1
    ·refine .inl ⟨m',h1,fun s hs=> ?_⟩
     rw [L9 hc]at hs
     rcases Lm.1 hs with rfl|hs
     ·exact hv
     ·exact h2 s hs
    ·exact .inr h1
   ·rw [L4 (O9 hv)]at h
    injection h with h; exact .inr h.symm
  ·rw [L3 O4]at h
   injection h with h
   refine .inl ⟨m,h.symm, ?_⟩
   rw [La O0]; simp
theorem hJ {n:Nat} (q:Qry) (hl:q.zw.length≤16):∀(k i:Nat) (c:Ctl Int Unit),i≤q.zw.length→xF n q k (i:Int)=some c →
  (c= .nxt ()∧∀g∈q.zw.drop i,okG n g)∨∃r,r≠0∧c= .ret r
 |0,i,c,_,h=>by rw [xF]at h; cases h
 | k + 1,i,c,hi,h=>by
  rw [xF]at h
  by_cases hc:i<q.zw.length
  ·rw [L4 O4,zE hc,L0,Option.bind_eq_some_iff]at h
   obtain⟨r,h1,h2⟩:=h
   by_cases hv:r=0
   ·subst hv
    rw [L3 O1,w1 O0]at h2
    rcases hJ q hl k (i+1) c O0 h2 with⟨g1,g2⟩|g1
    ·refine .inl ⟨g1,fun s hs=> ?_⟩
     rw [L9 hc]at hs
     rcases Lm.1 hs with rfl|hs
     ·exact h1
     ·exact g2 s hs
    ·exact .inr g1
   ·rw [L4 (O9 hv)]at h2
    injection h2 with h2; exact .inr ⟨r,hv,h2.symm⟩
  ·rw [L3 O4]at h
   injection h with h
   refine .inl ⟨h.symm, ?_⟩
   rw [La O0]; simp
theorem Gt {n:Nat} (q:Qry) (hl:q.zw.length≤16) (ho:∀g∈q.zw,okG n g):∀(k i:Nat),i≤q.zw.length→q.zw.length-i<k→xF n q k (i:Int)=some (.nxt ())
 |0,i,_,h=>O0
 | k+1,i,hi,hk=>by
  rw [xF]
  by_cases hc:i<q.zw.length
  ·have h:wR n ⟨q.zw[i].zG,q.zw[i].yy,⟨q.zw[i].zo.zg⟩⟩ false=some 0:=ho _ (Li hc)
   rw [L4 O4,zE hc,L0,h,L0,L3 O1,w1 O0]
   exact Gt q hl ho k (i+1) O0 O0
  ·rw [L3 O4]
theorem fA {n B:Nat} (hB:B≤100000) (hn:B+1000≤n) (q:Qry) (hb:∀a∈q.zf,BdN B a.zo.zg) (hl:q.zf.length≤64):∀(k i:Nat) (c:Ctl Int Unit),i≤q.zf.length→xH n q k (i:Int)=some c →
  (c= .nxt ()∧∀a∈q.zf.drop i,Zf a)∨∃r,r≠0∧c= .ret r
 |0,i,c,_,h=>by rw [xH]at h; cases h
 | k + 1,i,c,hi,h=>by
  rw [xH]at h
  by_cases hc:i<q.zf.length
  ·rw [L4 O4,zE hc,L0,J4 (hb _ (Li hc)) O0 O0,L0]at h
   by_cases h1:vy q.zf[i].zo.zg≠0
   ·rw [L4 (O9 h1)]at h
    injection h with h; exact .inr ⟨_,h1,h.symm⟩
   rw [L3 (O9 h1)]at h
   by_cases h2:q.zf[i].zo.zg= []
   ·rw [L4 (by rw [h2]; rfl)]at h
    injection h with h; exact .inr ⟨14,O1,h.symm⟩
   rw [L3 (O9 h2),nH,L0]at h
   by_cases h3:okK q.zf[i].zK=true
   ·rw [L4 (show okK ⟨q.zf[i].zK.zy,q.zf[i].zK.wL,q.zf[i].zK.zY⟩=true from h3),L3 O1,w1 O0]at h
    rcases fA hB hn q hb hl k (i+1) c O0 h with⟨g1,g2⟩|g1
    ·refine .inl ⟨g1,fun s hs=> ?_⟩
     rw [L9 hc]at hs
     rcases Lm.1 hs with rfl|hs
     ·exact⟨kT.1 (O9 h1),h2,h3⟩
     ·exact g2 s hs
    ·exact .inr g1
   ·rw [L3 (show ¬okK ⟨q.zf[i].zK.zy,q.zf[i].zK.wL,q.zf[i].zK.zY⟩=true from h3),L4 O1]at h
    injection h with h; exact .inr ⟨18,O1,h.symm⟩
  ·rw [L3 O4]at h
   injection h with h
   refine .inl ⟨h.symm, ?_⟩
   rw [La O0]; simp
theorem GF {n:Nat} (hn:2000≤n) (q:Qry) (hl:q.zf.length≤64) (ho:∀a∈q.zf,Zf a):∀(k i:Nat),i≤q.zf.length→q.zf.length-i<k→xH n q k (i:Int)=some (.nxt ())
 |0,i,_,h=>O0
 | k + 1,i,hi,hk=>by
  rw [xH]
  by_cases hc:i<q.zf.length
  ·have h:=ho _ (Li hc)
   rw [L4 O4,zE hc,L0,J4 (fY h.1) O0 O0,L0,kT.2 h.1,L3 O1,L3 (by have:=h.2.1; simpa using this),nH,L0,
    L4 (show okK ⟨q.zf[i].zK.zy,q.zf[i].zK.wL,q.zf[i].zK.zY⟩=true from h.2.2),L3 O1,w1 O0]
   exact GF hn q hl ho k (i+1) O0 O0
  ·rw [L3 O4]
theorem zaR {X:Type} {o:Option (Ctl Int X)} {f:X→Option Int} (h:z8 o (fun r=>some r) f=some 0):o=some (.ret 0)∨∃x,o=some (.nxt x)∧f x=some 0:=by
 match o with
 |none=>cases h
 |some (.ret r)=>exact .inl (by simp only [z8]at h; injection h with h; rw [h])
 |some (.nxt x)=>exact .inr ⟨x,rfl,h⟩
theorem DY {n B:Nat} {q:Qry} (hB:B≤60000) (hn:B+2000≤n) (hb:BdQ B q) (h:vz n q=some 0):QOk n q∧vz n (kJ q)=some 0:=by
 unfold vz at h ⊢
 have e1:(kJ q).uB=q.uB:=rfl
 have e2:(kJ q).zB=q.zB:=rfl
 have e3:(kJ q).yk=q.yk:=rfl
 have e4:(kJ q).yj=q.yj:=rfl
 have e5:(kJ q).ze=q.ze:=rfl
 have e6:(kJ q).zw.length=q.zw.length:=by show(q.zw.map dn).length=_; rw [L8]
 have e7:(kJ q).zf.length=q.zf.length:=by show(q.zf.map dZ).length=_; rw [L8]
 rw [e1,e2,e3,e4,e5,e6,e7]
 rw [ifb,L0]at h ⊢
 by_cases c1:(decide (q.uB<0)||decide (q.uB>254033452799))=true
 ·rw [L4 c1]at h; injection h with h; exact absurd h O1
 rw [L3 c1]at h ⊢
 have hp:∃y,(if(!(q.zB==([]:List UInt8)))=true then((bM n q.zB).bind fun r12=>some (!r12))else(some false))=some y∧(y=false→q.zB= []∨(y4 q.zB).isSome=true):=by
  by_cases p0:q.zB= []
  ·exact⟨false,by rw [L3 (by rw [p0]; decide)],fun _=> .inl p0⟩
  ·have:=hb.1
   refine⟨!(y4 q.zB).isSome,by rw [L4 (O9 p0),Y5 O0 O0]; rfl,fun hy=> .inr (O9 hy)⟩
 obtain⟨y,hy1,hy2⟩:=hp
 rw [hy1,L0]at h ⊢
 cases y with
 |true=>rw [L4 rfl]at h; injection h with h; exact absurd h O1
 | false=>
  rw [L3 O1]at h ⊢
  rw [tp,L0]at h ⊢
  by_cases c2:(decide (q.yk<0)||(decide (q.yk>511)||(decide (q.yj<1)||decide (q.yj>8))))=true
  ·rw [L4 c2]at h; injection h with h; exact absurd h O1
  rw [L3 c2]at h ⊢
  rw [nO,L0]at h ⊢
  by_cases c3:(decide ((List.length q.ze:Int)>8)||(decide ((List.length q.zw:Int)>16)||decide ((List.length q.zf:Int)>64)))=true
  ·rw [L4 c3]at h; injection h with h; exact absurd h O1
  rw [L3 c3]at h ⊢
  simp only [Bool.not_eq_true,Bool.or_eq_false_iff,decide_eq_false_iff_not]at c2 c3
  obtain⟨l1,l2,l3⟩:=c3
  rw [Gn e5]
  rcases zaR h with h1|⟨m,h1,h2⟩
  ·rcases fO O0 O0 q hb.2.1 O0 n 0 [] _ O0 h1 with⟨m',h2,_⟩|h2
   ·cases h2
   ·injection h2 with h2; exact absurd h2 O1
  have a1:∀s∈q.ze,(y4 s).isSome=true:=by
   rcases fO O0 O0 q hb.2.1 O0 n 0 [] _ O0 h1 with⟨m',_,h3⟩|h3
   ·rw [Lf]at h3; exact h3
   ·cases h3
  rw [h1]
  simp only [z8]
  by_cases c4:decide ((List.length m:Int)<(List.length q.ze:Int))=true
  ·rw [L4 c4]at h2; injection h2 with h2; exact absurd h2 O1
  rw [L3 c4]at h2 ⊢
  rcases zaR h2 with h3|⟨u,h3,h4⟩
  ·rcases hJ q O0 n 0 _ O0 h3 with⟨h4,_⟩|⟨r,hr,h4⟩
   ·cases h4
   ·injection h4 with h4; exact absurd h4.symm hr
  have a2:∀g∈q.zw,okG n g:=by
   rcases hJ q O0 n 0 _ O0 h3 with⟨_,h5⟩|⟨r,hr,h5⟩
   ·rw [Lf]at h5; exact h5
   ·cases h5
  rcases zaR h4 with h5|⟨v,h5,h6⟩
  ·rcases fA O0 O0 q hb.2.2.2 O0 n 0 _ O0 h5 with⟨h6,_⟩|⟨r,hr,h6⟩
   ·cases h6
   ·injection h6 with h6; exact absurd h6.symm hr
  have a3:∀a∈q.zf,Zf a:=by
   rcases fA O0 O0 q hb.2.2.2 O0 n 0 _ O0 h5 with⟨_,h7⟩|⟨r,hr,h7⟩
   ·rw [Lf]at h7; exact h7
   ·cases h7
  refine⟨⟨hy2 rfl,O0,O0,O0,Ld.2 a1,a2,a3⟩, ?_⟩
  have b2:=Gt (n:=n) (kJ q) O0 (fun g hg=>by
   obtain⟨x,hx,rfl⟩:=Le.1 (show g∈q.zw.map dn from hg)
   exact Qc (a2 x hx) (hb.2.2.1 x hx).2 O0 O0) n 0 O0 O0
  have b3:=GF (n:=n) O0 (kJ q) O0 (fun g hg=>by
   obtain⟨x,hx,rfl⟩:=Le.1 (show g∈q.zf.map dZ from hg)
   exact QU (a3 x hx)) n 0 O0 O0
  rw [show((0:Nat):Int)=0 from rfl]at b2 b3
  rw [b2]
  simp only [z8]
  rw [b3]
def optE (b:Bool) (p:Nat×Bs):List (Nat×Bs):=if b=true then [p]else []
def q11 (q:Qry):List (Nat×Bs):=optE (!q.zf.isEmpty) (168,wraps (q.zf.map ancE)) ++ []
def q10 (q:Qry):List (Nat×Bs):=optE q.uA (135,[255])++q11 q
def q9 (q:Qry):List (Nat×Bs):=numE 2 q.yj::q10 q
def q8 (q:Qry):List (Nat×Bs):=optE (!q.zw.isEmpty) (166,wraps (q.zw.map vU))++q9 q
def q7 (q:Qry):List (Nat×Bs):=optE q.jy (133,[255])++q8 q
def q6 (q:Qry):List (Nat×Bs):=optE q.xI (132,[255])++q7 q
def q5 (q:Qry):List (Nat×Bs):=optE q.wr (131,[255])++q6 q
def q4 (q:Qry):List (Nat×Bs):=optE (!q.ze.isEmpty) (162,wraps (q.ze.map polE))++q5 q
def q3 (fl:Bs) (q:Qry):List (Nat×Bs):=optE (q.yk !=0) (129,fl)++q4 q
def q2 (fl:Bs) (q:Qry):List (Nat×Bs):=optE (!(q.zB== [])) (128,(polE q.zB).2)++q3 fl q
def contQ (tm:Nat×Bs) (fl:Bs) (q:Qry):List (Nat×Bs):=tm::q2 fl q
theorem Gw (a b:List (Nat×Bs)):wraps (a++b)=wraps a++wraps b:=by simp [wraps, -List.length_flatten]
theorem bK (b:Bool) (p:Nat×Bs):(wraps (optE b p)).length≤p.2.length+5:=by
 unfold optE
 have:=zU p.1 p.2
 split
 ·simp only [wraps,Lb,List.map_nil,List.flatten_cons,List.flatten_nil,Lh]; exact this
 ·simp [wraps]
theorem gX (p:Nat×Bs):wraps (optE true p)=(tWrap p.1 p.2).1:=by simp [optE,wraps]
theorem W3 (p:Nat×Bs):wraps (optE false p)= []:=by simp [optE,wraps]
theorem ct {n t:Nat} {X c:Bs} (h1:t≤255) (h2:t%32≠31) (hc:c.length≤131072) (hX:X.length≤1000000) (hn:20≤n):z6 n (t:Int) c ⟨X,0⟩=some ⟨X++(tWrap t c).1,0⟩:=by
 rw [KH h1 h2 O0 hn,be hc]
theorem lE {n t:Nat} {X:Bs} {b:Bool} (h1:t≤255) (h2:t%32≠31) (hX:X.length≤1000000) (hn:20≤n):vQ n (t:Int) b ⟨X,0⟩=some ⟨X++wraps (optE b (t,[255])),0⟩:=by
 unfold vQ pP
 cases b with
 |true=>rw [L4 rfl,L4 rfl,L0,ct h1 h2 O2 hX hn,gX]; rfl
 |false=>rw [L3 O2,W3,Lh]
theorem zdy {n B t:Nat} {a:List Bs} {b:Bs} (h1:t≤255) (h2:t%32≠31) (hB:B≤100000000) (hn:a.length+B+40≤n) (ha:a.length≤2000) (hs:a.all (fun s=>(y4 s).isSome)=true) (hl:∀s∈a,s.length≤B) (hb:b.length≤1000000):ug n (t:Int) a ⟨b,0⟩=some ⟨b++(tWrap t (wraps (a.map polE))).1,0⟩:=by
 unfold ug
 have e1:=K3 (n:=n) hB O0 a O0 hs hl n 0 [] O0 O0 O3
 rw [show((0:Nat):Int)=0 from rfl,Lf,Lg]at e1
 rw [show YX n ⟨[],0⟩=some ⟨[],0⟩from rfl,L0]
 simp only []
 rw [e1,L0]
 have hl:=Zs hs
 simp only []
 rw [Qq O3,Lh,L0,ct h1 h2 O0 hb O0]; rfl
theorem PT {n B:Nat} (l:List Anc) (ho:∀a∈l,Zf a) (hb:BdL B l) (hB:B≤1000000) (hn:B+100≤n) (hl:l.length≤64):∀(k i:Nat) (b:Bs),i≤l.length→l.length-i<k→b.length≤4403*i→vw n l k (i:Int) b 0=some (b++wraps ((l.drop i).map ancE),0)
 |0,i,_,_,h,_=>O0
 | k+1,i,b,hi,hk,hbl=>by
  rw [vw]
  by_cases hc:i<l.length
  ·have hx:=Li hc
   have k3:=(pL (ho _ hx)).2
   have t1:=zU (ancE l[i]).1 (ancE l[i]).2
   have e2:(ancE l[i]).2=wraps (XJ l[i]):=rfl
   rw [←e2]at k3
   have he:uk n ⟨⟨l[i].zo.zg⟩,⟨l[i].zK.zy,l[i].zK.wL,l[i].zK.zY⟩⟩ ⟨b,0⟩=some ⟨b++(tWrap (ancE l[i]).1 (ancE l[i]).2).1,0⟩:=zce (a:=l[i]) (ho _ hx) (hb _ hx) hB hn O0
   rw [L4 O4,zE hc,L0,he,L0,w1 O0]
   simp only []
   rw [PT l ho hb hB hn hl k (i+1) _ O0 O0 (by rw [L5]; omega),L9 hc,Lb,ji,Ln]
  ·rw [L3 O4,La O0]
   simp [wraps]
theorem VD {n B:Nat} (hB:B≤60000) (hn:B+1000≤n) {l:List Gen} (ho:∀g∈l,okG n g) (hb:∀g∈l,BdG B g):(wraps (l.map vU)).length≤(B+4338)*l.length:=by
 have:=WB (m:=B+4333) (l.map vU) (fun p hp=>by obtain⟨g,hg,rfl⟩:=Le.1 hp; exact(XS (ho g hg) (hb g hg) hB hn).2.1)
 rw [L8]at this; exact this
theorem cw (s:Bs) (h:(y4 s).isSome=true):(polE s).2.length≤55:=by
 obtain⟨l,he⟩:=Option.isSome_iff_exists.1 h
 unfold polE; rw [he]; exact gZ (bf he)
theorem sm8 {x:Int} (h:1≤x∧x≤8):sm x=true:=by simp only [sm,Lc,L2]; omega
theorem zbb {α:Type} {b:Nat} {l:List α} {x:α} (h:(l.length+1)*b≤140737488355328):pb b l [x]=some (l ++ [x]):=L4 ⟨O2,by simpa using h⟩
theorem fd {n:Nat} {y:Int}:dN n y=vv n y:=rfl
theorem eK {n:Nat} {y m:Int}:kO n y m=wy n y m:=by
 unfold kO wy WU
 have e:∀i:Int,((pq 12 i).bind fun x4=>((BA)[(0+x4*1)]?).bind fun x5=>some x5)=((zV ([31,28,31,30,31,30,31,31,30,31,30,31]:List Int) i).bind fun x3=>some x3):=by
  intro i
  unfold pq zV
  by_cases h0:0≤i
  ·rw [L4 h0]
   by_cases h1:i<((12:Nat):Int)
   ·rw [L4 ⟨h0,h1⟩,L0,show 0+i.toNat*1=i.toNat by omega]; rfl
   ·rw [L3 O0,List.getElem?_eq_none (by show 12≤_; omega)]; rfl
  ·rw [L3 O0,L3 h0]; rfl
 rw [e]
 by_cases c1:(m==2)=true
 ·rw [L4 c1,L4 c1]
  simp only [Option.bind_assoc,L0]
 ·rw [L3 c1,L3 c1]
theorem lD {n:Nat} {t:Int}:∀(k:Nat) (v:Int),kz n t k v=xQ n t k v
 |0,_=>rfl
 | k+1,v=>by
  rw [kz,xQ,fd]
  simp only [lD k]
theorem lc {n:Nat} {y:Int}:∀(k:Nat) (a b:Int),kI n y k a b=yR n y k a b
 |0,_,_=>rfl
 | k+1,a,b=>by
  rw [kI,yR,eK]
  simp only [lc k]
def bef (y:Int):Int:=365*(y-1950)+((y-1)/4-(y-1)/100+(y-1)/400)-472
theorem XN {n:Nat} {y:Int} (h0:1950≤y) (h1:y≤10001):vv n y=some (bef y):=by
 unfold vv bef
 rw [yv (x:=y-1) O0,yv (x:=y-1950) O0,Int.tdiv_eq_ediv_of_nonneg O0,Int.tdiv_eq_ediv_of_nonneg O0,Int.tdiv_eq_ediv_of_nonneg O0,
  yv (x:=(y-1)/4) O0,yv (x:=(y-1)/100) O0,yv (x:=(y-1)/400) O0,yv (x:=(y-1)/4-(y-1)/100) O0,yv (x:=(y-1)/4-(y-1)/100+(y-1)/400) O0,yv (x:=(365:Int)*(y-1950)) O0,yv (x:=(365:Int)*(y-1950)+_) O0,yv O0]
theorem lX {n:Nat} {t:Int} (h0:0≤t) (h1:t≤254033452799):∀(j k:Nat) (v:Int),1950≤v→9999-v=(j:Int)→j<k→bef v≤t/86400→∃y,xQ n t k v=some y∧1950≤y∧y≤9999∧bef y≤t/86400∧t/86400<bef (y+1)
 |j,0,_,_,_,h,_=>O0
 | j,k+1,v,a0,a1,hk,hb=>by
  rw [xQ,yv (x:=v+1) O0,XN O0 O0,L0,Int.tdiv_eq_ediv_of_nonneg h0,yv O0]
  by_cases c:bef (v+1)≤t/86400
  ·rw [L4 (by rw [L2]; exact c)]
   have hv:v+1≤9999:=by unfold bef at c; omega
   obtain⟨i,rfl⟩:∃i,j=i+1:=⟨j-1,O0⟩
   exact lX h0 h1 i k (v+1) O0 O0 O0 c
  ·rw [L3 (by rw [L2]; exact c)]
   exact⟨v,rfl,a0,O0,hb,O0⟩
def lpY (y:Int):Bool:=y%4==0&&(y%100 !=0||y%400==0)
theorem ri {y:Int} (h:1950≤y):bef (y+1)=bef y+365+(if lpY y=true then 1 else 0):=by
 unfold bef lpY
 by_cases a:y%4=0
 ·by_cases b:y%100=0
  ·by_cases c:y%400=0
   ·simp only [a,b,c]; simp; omega
   ·simp only [a,b]; simp [c]; omega
  ·simp only [a]; simp [b]; omega
 ·simp [a]; omega
def ml (lp:Bool) (m:Nat):Nat:=if m=2∧lp=true then 29 else [0,31,28,31,30,31,30,31,31,30,31,30,31].getD m 0
theorem QP {n:Nat} {y:Int} (h0:0≤y):∀m:Nat,1≤m→m≤12→wy n y (m:Int)=some ((ml (lpY y) m:Nat):Int):=by
 have e:(if(Int.tmod y 4==0)=true then(if(Int.tmod y 100 !=0)=true then some true else some (Int.tmod y 400==0))else some false)=some (lpY y):=by
  rw [Int.tmod_eq_emod_of_nonneg h0,Int.tmod_eq_emod_of_nonneg h0,Int.tmod_eq_emod_of_nonneg h0]
  unfold lpY
  cases(y%4==0)<;>cases(y%100 !=0)<;>cases(y%400==0)<;>rfl
 intro m h1 h2
 unfold wy
 rw [e]
 generalize lpY y=lp
 match m,h1,h2 with
 |1,_,_|3,_,_|4,_,_|5,_,_|6,_,_|7,_,_|8,_,_|9,_,_|10,_,_|11,_,_|12,_,_=>cases lp<;>rfl
 |2,_,_=>cases lp<;>rfl
 |0,h,_=>omega
 |j+13,_,h=>omega
def rest (lp:Bool):Nat→Nat
 |0=>0
 |j+1=>ml lp (12-j)+rest lp j
theorem cR {n:Nat} {y:Int} (h0:0≤y):∀(j k:Nat) (a:Int),1≤j→j≤12→j<k→0≤a→a<(rest (lpY y) j:Nat)→∃a' m',yR n y k a ((13-j:Nat):Int)=some (a',m')∧0≤a'∧a'≤30∧1≤m'∧m'≤12
 |j,0,_,_,_,h,_,_=>O0
 |0,k+1,_,h,_,_,_,_=>O0
 | j + 1,k+1,a,_,hj,hk,ha,hr=>by
  rw [yR,QP h0 _ O0 O0,L0,L0]
  have hm:ml (lpY y) (12-j)≤31:=by
   have:=show ∀lp:Bool,∀m<13,ml lp m≤31 by decide
   exact this _ _ O0
  rw [show 13-(j+1)=12-j by omega]
  by_cases c:a≥((ml (lpY y) (12-j):Nat):Int)
  ·rw [L4 (by rw [L2]; exact c),rest]at *
   have hj1:1≤j:=by
    cases j with
    |zero=>simp only [rest]at hr; omega
    |succ j=>omega
   have hb:(rest (lpY y) j:Nat)≤1000:=by
    have:=show ∀lp:Bool,∀m<13,rest lp m≤1000 by decide
    exact this _ _ O0
   rw [yv (x:=a-_) O0,yv O0,show((12-j:Nat):Int)+1=((13-j:Nat):Int)by omega]
   exact cR h0 j k _ hj1 O0 O0 O0 O0
  ·rw [L3 (by rw [L2]; exact c)]
   exact⟨_,_,rfl,ha,O0,O0,O0⟩
theorem oZ {n:Nat} {t:Int} (hn:10000≤n) (h0:0≤t) (h1:t≤254033452799):∃Y M D h m s:Nat,(1950≤Y∧Y≤9999)∧M<100∧D<100∧h<100∧m<100∧s<100 ∧
  Z2 n t=some (⟨Y,M,D,h,m,s⟩,0)∧ki n t=some (⟨Y,M,D,h,m,s⟩,0):=by
 have hd:wrap .i64 (Int.tdiv t 86400)=t/86400:=by rw [Int.tdiv_eq_ediv_of_nonneg h0,yv O0]
 have hy:wrap .i64 ((1950:Int)+wrap .i64 (Int.tdiv (t/86400) 366))=1950+(t/86400)/366:=by
  rw [Int.tdiv_eq_ediv_of_nonneg O0,yv (x:=t/86400/366) O0,yv O0]
 have hb0:bef (1950+(t/86400)/366)≤t/86400:=by
  generalize hg:t/86400=d
  have hd0:0≤d:=O0
  generalize hq:d/366=q
  have hq0:0≤q:=O0
  have hq1:366*q≤d:=O0
  have:bef (1950+q)≤366*q:=by
   unfold bef
   have:q=0∨q=1∨q=2∨3≤q:=O0
   rcases this with rfl|rfl|rfl|h
   ·decide
   ·decide
   ·decide
   ·omega
  omega
 obtain⟨y,ey,y0,y1,y2,y3⟩:=lX (n:=n) h0 h1 (9999-(1950+(t/86400)/366)).toNat n (1950+(t/86400)/366) O0 O0 O0 hb0
 have hs:=ri y0
 have hr:∀lp:Bool,rest lp 12=365+(if lp=true then 1 else 0):=O1
 obtain ⟨a,m,em,a0,a1,m0,m1⟩:=cR (n:=n) (y:=y) O0 12 n (t/86400-bef y) O0 O0 O0 O0 (by
  rw [hr]
  by_cases c:lpY y=true
  ·rw [L4 c]at hs ⊢; omega
  ·rw [L3 c]at hs ⊢; omega)
 have hbb: -1000000≤bef y:=by unfold bef; omega
 have e1:Int.tmod t 86400=t%86400:=Int.tmod_eq_emod_of_nonneg h0
 refine⟨y.toNat,m.toNat,(a+1).toNat,(t/3600%24).toNat,(t/60%60).toNat,(t%60).toNat,O0,O0,O0,O0,O0,O0, ?_, ?_⟩
 ·unfold Z2
  rw [ifb,L0,L3 O3,hd,hy,lD,ey,L0,fd,XN O0 O0,L0,yv (x:=t/86400-bef y) O0,lc,show yR n y n (t/86400-bef y) 1=some (a,m)from em,L0,e1]
  rw [Int.tdiv_eq_ediv_of_nonneg O0,Int.tdiv_eq_ediv_of_nonneg O0,yv (x:=t%86400/3600) O0,yv (x:=t%86400/60) O0,Int.tmod_eq_emod_of_nonneg O0,Int.tmod_eq_emod_of_nonneg O0]
  dsimp only
  rw [yv (x:=a+1) O0]
  congr 3<;>omega
 ·unfold ki
  rw [ifb,L0,L3 O3,hd,hy,ey,L0,XN O0 O0,L0,yv (x:=t/86400-bef y) O0,show yR n y n (t/86400-bef y) 1=some (a,m)from em,L0]
  rw [Int.tdiv_eq_ediv_of_nonneg h0,Int.tdiv_eq_ediv_of_nonneg h0,yv (x:=t/3600) O0,yv (x:=t/60) O0,Int.tmod_eq_emod_of_nonneg O0,Int.tmod_eq_emod_of_nonneg O0,Int.tmod_eq_emod_of_nonneg O0]
  dsimp only
  rw [yv (x:=a+1) O0]
  congr 3<;>omega
def dI (x:Nat):Int:=((48+x%10:Nat):Int)
theorem Wo {x:Nat} (h:x≤100000):wrap .u8 (wrap .i64 ((48:Int)+Int.tmod (x:Int) 10))=dI x:=by
 rw [Int.tmod_eq_emod_of_nonneg O0,yv O0]
 show _%(256:Int)=_
 unfold dI
 omega
theorem Jo {x:Nat} (h:x≤100000):wrap .i64 (Int.tdiv (x:Int) 10)=((x/10:Nat):Int):=by
 rw [Int.tdiv_eq_ediv_of_nonneg O0,yv O0]; omega
theorem zag {n x:Nat} {l:List Int} (hn:10≤n) (hx:x≤100000) (hl:l.length≤1000):Z4 n l.length (x:Int) 2 l=some (l.length+2,l ++ [dI (x/10),dI x]):=by
 obtain⟨m,rfl⟩:∃m,n=m+4:=⟨n-4,O0⟩
 unfold Z4
 have o1:∀l:List Int,l.length≤1001→ZI 1 l.length l [48]=some (l ++ [48]):=by
  intro l hl
  unfold ZI
  rw [L4 O3]
 have e1:jm (m+4) 2 (m+4) l.length 0 l=some (l.length+2,l ++ [48,48]):=by
  rw [jm,L4 O1,o1 l O0,L0,show wrap .i64 ((0:Int)+1)=1 by rfl,jm,L4 O1,
   show l.length+List.length ([48]:List Int)=(l ++ [48]).length by simp,o1 _ O3,L0,show wrap .i64 ((1:Int)+1)=2 by rfl,jm,L3 O1]
  simp
 rw [e1,L0]; dsimp only
 rw [yv (x:=((l.length+2:Nat):Int)-1) O0,j0,L4 O4]; dsimp only
 rw [lC O0,L0,Wo hx,show(((l.length+2:Nat):Int)-1).toNat*1=l.length+1 by omega,
  show VT (l ++ [48,48]) (l.length+1) (dI x)=some (l ++ [48,dI x])from(L4 O2).trans (by simp [List.set_append]),L0,
  Jo hx,yv (x:=((l.length+2:Nat):Int)-1-1) O0,j0,L4 O4]; dsimp only
 rw [lC O0,L0,Wo O0,show(((l.length+2:Nat):Int)-1-1).toNat*1=l.length by omega,
  show VT (l ++ [48,dI x]) l.length (dI (x/10))=some (l ++ [dI (x/10),dI x])from(L4 O2).trans (by simp [List.set_append]),L0,
  Jo O0,yv O0,j0,L3 O4,L0]
theorem zez {n x:Nat} (hn:10≤n) (hx:x≤100000):Za n (x:Int) 2=some (2,[dI (x/10),dI x]):=by
 obtain⟨m,rfl⟩:∃m,n=m+4:=⟨n-4,O0⟩
 rw [←Wo hx,←Wo (x:=x/10) O0,←Jo hx]
 rfl
theorem zdX {n x:Nat} (hn:10≤n) (hx:x≤100000):Za n (x:Int) 4=some (4,[dI (x/10/10/10),dI (x/10/10),dI (x/10),dI x]):=by
 obtain⟨m,rfl⟩:∃m,n=m+6:=⟨n-6,O0⟩
 rw [←Wo hx,←Wo (x:=x/10) O0,←Wo (x:=x/10/10) O0,←Wo (x:=x/10/10/10) O0,←Jo (x:=x/10/10) O0,←Jo (x:=x/10) O0,←Jo hx]
 rfl
def d2 (x:Nat):Bs:=b2s [dI (x/10),dI x]
theorem JK {n:Nat} {k x:Nat} (h:10≤x) (hx:x≤100000) {s:Bs} (hs:s.length≤100) (he:yf n k ((x/10:Nat):Int)=some s):yf n (k+1) (x:Int)=some (s++b2s [dI x]):=by
 rw [yf,L3 O4,Jo hx,he,L0,Wo hx,show jw s (b2s [dI x])=some (s++b2s [dI x])from L4 (by show s.length+1≤_; omega),L0]
theorem Dc {n:Nat} {k x:Nat} (h:x<10):yf n (k+1) (x:Int)=some (b2s [dI x]):=by
 rw [yf,L4 O4,←Wo O0,show Int.tmod (x:Int) 10=x by rw [Int.tmod_eq_emod_of_nonneg O0]; omega]
theorem ny {n x:Nat} (hn:10≤n) (hx:x<100):xk n (x:Int) 2=some (d2 x):=by
 obtain⟨m,rfl⟩:∃m,n=m+3:=⟨n-3,O0⟩
 unfold xk d2
 by_cases h:x<10
 ·rw [Dc h,L0,show dI (x/10)=48 by rw [show x/10=0 by omega]; rfl]
  rfl
 ·rw [JK O0 O0 (s:=b2s [dI (x/10)]) (by simp [b2s]) (Dc O0),L0]
  rfl
theorem zdV {n x:Nat} (hn:10≤n) (h0:1000≤x) (hx:x<10000):xk n (x:Int) 4=some (b2s [dI (x/10/10/10),dI (x/10/10),dI (x/10),dI x]):=by
 obtain⟨m,rfl⟩:∃m,n=m+5:=⟨n-5,O0⟩
 unfold xk
 rw [JK O0 O0 (by simp [b2s]) (JK O0 O0 (by simp [b2s]) (JK O0 O0 (s:=b2s [dI (x/10/10/10)]) (by simp [b2s]) (Dc O0))),L0]
 rfl
theorem oN {n:Nat} (hn:100≤n) {Y M D h m s:Nat} {l:List Int} (a1:M<100) (a2:D<100) (a3:h<100) (a4:m<100) (a5:s<100) (hl:l.length≤4):
  ut n (⟨Y,M,D,h,m,s⟩,0) n l.length 0 l=some (l.length+10,l ++ [dI (M/10),dI M,dI (D/10),dI D,dI (h/10),dI h,dI (m/10),dI m,dI (s/10),dI s]):=by
 obtain⟨j,rfl⟩:∃j,n=j+6:=⟨n-6,O0⟩
 have step:∀(k x:Nat) (l:List Int) (i:Nat),i<5→x<100→l.length≤100→([(M:Int),D,h,m,s]:List Int)[i]? =some (x:Int) →
   ut (j+6) (⟨Y,M,D,h,m,s⟩,0) (k+1) l.length (i:Int) l=ut (j+6) (⟨Y,M,D,h,m,s⟩,0) k (l ++ [dI (x/10),dI x]).length ((i+1:Nat):Int) (l ++ [dI (x/10),dI x]):=by
  intro k x l i hi hx hl hg
  rw [ut,L4 (by rw [L2]; show(i:Int)<((5:Nat):Int); omega)]
  dsimp only
  rw [show zV ([(M:Int),D,h,m,s]:List Int) (i:Int)=some (x:Int)from(L4 O0).trans (by rw [Int.toNat_natCast]; exact hg),L0,zag O0 O0 O0,L0,w1 O0]
  simp
 refine(step (j+5) M l 0 O0 a1 O0 rfl).trans ?_
 refine(step (j+4) D _ 1 O0 a2 O3 rfl).trans ?_
 refine(step (j+3) h _ 2 O0 a3 O3 rfl).trans ?_
 refine(step (j+2) m _ 3 O0 a4 O3 rfl).trans ?_
 refine(step (j+1) s _ 4 O0 a5 O3 rfl).trans ?_
 rw [ut,L3 (by rw [L2]; show ¬(((4+1:Nat):Int)<((5:Nat):Int)); omega)]
 simp
theorem Gz {n:Nat} {t:Int} (hn:10000≤n) (h0:0≤t) (h1:t≤254033452799):∃(g:Nat) (c:Bs),(g=23∨g=24)∧c.length≤20∧vW n t=some ((tWrap g c).1,0)∧w7 n t=some ((tWrap g c).1,0):=by
 obtain⟨Y,M,D,h,m,s,⟨y0,y1⟩,a1,a2,a3,a4,a5,ep,er⟩:=oZ (n:=n) hn h0 h1
 have key:∀(g:Nat) (pre:List Int),(g=23∨g=24)→pre.length≤4→(g=24↔2050≤Y)→(g=23→pre= [dI (Y%100/10),dI (Y%100)])→(g=24→pre= [dI (Y/10/10/10),dI (Y/10/10),dI (Y/10),dI Y]) →
   (b2s pre++(d2 M++d2 D++d2 h++d2 m++d2 s ++ [90])).length≤20∧vW n t=some (tWrap g (b2s pre++(d2 M++d2 D++d2 h++d2 m++d2 s ++ [90])))∧w7 n t=some (tWrap g (b2s pre++(d2 M++d2 D++d2 h++d2 m++d2 s ++ [90]))):=by
  intro g pre hg hpre hY p23 p24
  have ltot:(b2s pre++(d2 M++d2 D++d2 h++d2 m++d2 s ++ [90])).length≤20:=by simp [b2s,d2]; omega
  have hmod:Int.tmod (Y:Int) 100=((Y%100:Nat):Int):=by rw [Int.tmod_eq_emod_of_nonneg O0]; omega
  refine⟨ltot, ?_, ?_⟩
  ·unfold vW
   rw [ep,L0,L3 (show ¬(((0:Int) !=0)=true)by decide)]; dsimp only
   rw [hmod,zez O0 O0,L0]
   have e:(if decide ((Y:Int)≥2050)=true then((Za n (Y:Int) 4).bind fun r9=>some ((24:Int),r9.1,r9.2))else some (23,(2,[dI (Y%100/10),dI (Y%100)]).1,(2,[dI (Y%100/10),dI (Y%100)]).2))=some ((g:Int),pre.length,pre):=by
    rcases hg with rfl|rfl
    ·rw [L3 O4,p23 rfl]; rfl
    ·rw [L4 O4,zdX O0 O0,p24 rfl]; rfl
   rw [e,L0]; dsimp only
   rw [oN O0 a1 a2 a3 a4 a5 hpre,L0]; dsimp only
   rw [show Kt (pre.length+10) (pre ++ [dI (M/10),dI M,dI (D/10),dI D,dI (h/10),dI h,dI (m/10),dI m,dI (s/10),dI s])=some (b2s (pre ++ [dI (M/10),dI M,dI (D/10),dI D,dI (h/10),dI h,dI (m/10),dI m,dI (s/10),dI s]))from(L4 O2).trans (by rw [List.take_of_length_le O2]),L0]
   rw [Ww (t:=g) O0 (by rcases hg with rfl|rfl<;>decide) (by
    intro c hc
    simp only [Lm,List.not_mem_nil,or_false]at hc
    rcases hc with rfl|rfl
    ·simp [b2s]; omega
    ·simp) O3 O2,L0]
   rw [show [b2s (pre ++ [dI (M/10),dI M,dI (D/10),dI D,dI (h/10),dI h,dI (m/10),dI m,dI (s/10),dI s]),[90]].flatten=b2s pre++(d2 M++d2 D++d2 h++d2 m++d2 s ++ [90])by simp [b2s,d2]]
  ·have hs:∀a b:Bs,a.length≤100→b.length≤100→jw a b=some (a++b):=fun a b ha hb=>L4 O0
   have l2:∀x,(d2 x).length=2:=fun _=>rfl
   unfold w7
   rw [er,L0,L3 (show ¬(((0:Int) !=0)=true)by decide)]; dsimp only
   rw [ny O0 a1,L0,ny O0 a2,L0,hs _ _ (by simp [l2]) (by simp [l2]),L0,ny O0 a3,L0,hs _ _ (by simp [l2]) (by simp [l2]),L0,ny O0 a4,L0,hs _ _ (by simp [l2]) (by simp [l2]),L0,
    ny O0 a5,L0,hs _ _ (by simp [l2]) (by simp [l2]),L0,hs _ _ (by simp [l2]) O2,L0]
   rcases hg with rfl|rfl
   ·rw [L4 O4,hmod,ny O0 O0,L0,hs _ _ (by simp [l2]) (by simp [l2]),L0,show((23:Int))=((23:Nat):Int)by rfl,Xc (t:=23) O0 O1 (by simp [l2]) O3 O2,L0,p23 rfl]
    simp [d2]
   ·rw [L3 O4,zdV O0 O0 O0,L0,hs _ _ (by simp [b2s]) (by simp [l2]),L0,show((24:Int))=((24:Nat):Int)by rfl,Xc (t:=24) O0 O1 (by simp [l2,b2s]) O3 O2,L0,p24 rfl]
    simp
 have fin:∀(g:Nat) (c:Bs),c.length≤20→tWrap g c=((tWrap g c).1,0):=fun g c hc=>by rw [bB O0]
 by_cases c:2050≤Y
 ·obtain⟨k1,k2,k3⟩:=key 24 [dI (Y/10/10/10),dI (Y/10/10),dI (Y/10),dI Y] (.inr rfl) O2 O0 O0 (fun _=>rfl)
  exact⟨24,_, .inr rfl,k1,k2.trans (congrArg some (fin _ _ k1)),k3.trans (congrArg some (fin _ _ k1))⟩
 ·obtain⟨k1,k2,k3⟩:=key 23 [dI (Y%100/10),dI (Y%100)] (.inl rfl) O2 O0 (fun _=>rfl) O0
  exact⟨23,_, .inl rfl,k1,k2.trans (congrArg some (fin _ _ k1)),k3.trans (congrArg some (fin _ _ k1))⟩
end Go.Abs
end
