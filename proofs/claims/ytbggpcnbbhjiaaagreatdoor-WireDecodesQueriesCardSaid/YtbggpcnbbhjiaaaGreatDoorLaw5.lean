/- The typed Lean form of WireDecodesQueries gives true for every list of at most 9223372036854775807 numbers. -/
import Derived.Test.YtbggpcnbbhjiaaaGreatDoorLaw4
set_option linter.unusedVariables false
set_option linter.unusedSimpArgs false
set_option linter.unnecessarySimpa false
section
set_option maxRecDepth 100000
namespace Go.Abs
open Go Go.Proofs IntKind
def zei (n M:Nat) (D:Bs→Bs×Int):Prop:=(∀c:Bs,c.length≤M→(D c).1.length≤M+252)∧∀s l,xG s=some l→D (qA l)=(s,0)
def oiP (n:Nat) (c:Bs):Bs×Int:=(yw n c).getD ([],0)
def oiR (n:Nat) (c:Bs):Bs×Int:=(zE n c).getD ([],0)
theorem PT {n M:Nat} (hM:M≤900000) (hn:200000000≤n):(∀c:Bs,c.length≤M→yw n c=some (oiP n c))∧zei n M (oiP n):=by
 refine⟨fun c hc=> ?_,fun c hc=> ?_,fun s l h=> ?_⟩
 ·obtain⟨s,e,h,_⟩:=Qp (n:=n) (b:=c) O0 O0
  unfold oiP; rw [h]; rfl
 ·obtain⟨s,e,h,h2⟩:=Qp (n:=n) (b:=c) O0 O0
  unfold oiP; rw [h]; show s.length≤_; omega
 ·unfold oiP; rw [Y8 h O0]; rfl
theorem V4 {n:Nat} {b:Bs} (hb:b.length≤2000000) (hn:42*b.length+40≤n):∃s e,zE n b=some (s,e)∧s.length≤252:=by
 unfold zE
 obtain⟨c,hc,ho,hr⟩:=BG (n:=n) O0 b O0 n 0 0 0 [] false O0 O0 O0 O0 O2
 rw [show((0:Nat):Int)=0 from rfl]at hc
 rw [hc]
 cases c with
 |ret r=>exact⟨r.1,r.2,rfl,by rw [hr r rfl]; simp⟩
 | nxt x=>
  obtain⟨o,m⟩:=x
  have hl:=ho o m rfl
  simp only [yb]
  rw [Z0 O0 O0]
  simp only [L0,ifb]
  by_cases h:(((b.length:Int)==0)||(m|| !(xG o).isSome))=true
  ·rw [L6 h]; exact⟨_,_,rfl,O2⟩
  ·rw [L4 h]
   rw [Bool.not_eq_true,Bool.or_eq_false_iff,Bool.or_eq_false_iff]at h
   exact⟨_,_,rfl,Jq (by simpa using h.2.2)⟩
theorem Pi {n M:Nat} (hM:M≤900000) (hn:200000000≤n):(∀c:Bs,c.length≤M→zE n c=some (oiR n c))∧zei n M (oiR n):=by
 refine⟨fun c hc=> ?_,fun c hc=> ?_,fun s l h=> ?_⟩
 ·obtain⟨s,e,h,_⟩:=V4 (n:=n) (b:=c) O0 O0
  unfold oiR; rw [h]; rfl
 ·obtain⟨s,e,h,h2⟩:=V4 (n:=n) (b:=c) O0 O0
  unfold oiR; rw [h]; show s.length≤_; omega
 ·have:=Jq (s:=s) (by rw [h]; rfl)
  unfold oiR; rw [Zv h O0 O0]; rfl
def BdW (M:Nat) (l:List El):Prop:=∀e∈l,e.uE.length≤M
theorem Dm (b:Bs) {M:Nat} (h:b.length≤M):BdW M (tList b).1:=by
 obtain⟨h1,h2⟩:=UC b
 intro e he
 have:=Kd e he; omega
theorem DQ {n M:Nat} {f:Bool} {l:List El} (h:BdW M l):∃e r f',yA n ⟨l,f⟩=some (e,⟨r,f'⟩)∧e.uE.length≤M∧BdW M r:=by
 match l,h with
 | [],h=>exact⟨_,_,_,Dj,O2,h⟩
 |e::l,h=>exact⟨_,_,_,Ul,h e O2,fun x hx=>h x (by simp [hx])⟩
theorem Yn {n:Nat} {e:Int} {m:zu}:zR n e m=some ⟨m.f_l,m.yp||e !=0⟩:=by
 unfold zR; rw [ifb]; rfl
theorem tA (a b c:Bool):(if a=true then some true else(if b=true then some true else some c))=some (a||(b||c)):=by cases a<;>cases b<;>rfl
theorem Dk {n M:Nat} (hM:M≤900000) (hn:200000000≤n) (l0:List El):∀(k:Nat) (acc:List Anc) (f:Bool) (il:List El) (fi:Bool),(∀e∈il,e.zd.length≤M)→il.length<k→acc.length+il.length≤1000000→BdL 252 acc →
  ∃acc' f' fi',xg n k acc l0 f il fi=some (acc',l0,f',[],fi')∧BdL 252 acc'
 |0,_,_,_,_,_,h,_,_=>O0
 | k+1,acc,f,il,fi,hi,hk,hl,ha=>by
  rw [xg]
  match il,hi,hk,hl with
  | [],_,_,_=>rw [L4 O2]; exact⟨_,_,_,rfl,ha⟩
  | x::il,hi,hk,hl=>
   have hx:=hi x O2
   simp only [La]at hk hl
   obtain⟨hD,hO,hB⟩:=PT (n:=n) hM hn
   have hw:=Dm x.zd hx
   obtain⟨e1,r1,g1,q1,w1',v1⟩:=DQ (n:=n) (f:=((tList x.zd).2 !=0)||(x.zF !=48)) hw
   obtain⟨e2,r2,g2,q2,w2',v2⟩:=DQ (n:=n) (f:=g1) v1
   obtain⟨ky,ke,hky⟩:=zaI hD w2' O0 O0
   rw [L6 (by rw [L3,La]; omega),Ul,L0]
   simp only []
   rw [zcj O0 O0,L0,q1,L0,oo hD hO O0 O0 w1',L0,Yn,L0,q2,L0,hky,L0,Yn,L0,tA,L0,yx (by rw [L9]; omega),L0]
   simp only []
   refine Dk hM hn l0 k _ _ il fi (fun e he=>hi e (by simp [he])) O0 (by rw [L8,L9]; omega) ?_
   intro a haa
   rcases Lo.1 haa with h|h
   ·exact ha a h
   ·rw [Ln]at h; subst h; exact XN
theorem ct (a:Anc):(UB a).map elm= [elm (xd a.zt.zh),elm (gT a.zP)]:=rfl
theorem B9 {n M:Nat} (hn:200000000≤n) (l0:List El):∀(k:Nat) (l acc:List Anc),(∀a∈l,Uv a)→l.length<k→acc.length+l.length≤1000000 →
  xg n k acc l0 false ((l.map ancE).map elm) false=some (acc++l.map Yw,l0,false,[],false)
 |0,_,_,_,h,_=>O0
 |k+1,[],acc,_,_,_=>by rw [xg,List.map_nil,List.map_nil,L4 O2]; simp
 | k+1,a::l,acc,ho,hk,hl=>by
  rw [xg]
  simp only [La]at hk hl
  have ha:=ho a O2
  obtain⟨hD,hO,hB⟩:=PT (n:=n) (M:=900000) O0 hn
  obtain⟨p1,p2⟩:=Xu ha
  have hc:(elm (ancE a)).zd=wraps (UB a):=rfl
  have hw1:(tWrap (xd a.zt.zh).1 (xd a.zt.zh).2).1.length≤900000:=by
   have:=dW ha.1; have:=yc (xd a.zt.zh).1 (xd a.zt.zh).2; omega
  have hr1:(elm (xd a.zt.zh)).uE=(tWrap (xd a.zt.zh).1 (xd a.zt.zh).2).1:=rfl
  have hr2:(elm (gT a.zP)).uE=(tWrap (gT a.zP).1 (gT a.zP).2).1:=rfl
  simp only [Le]
  rw [L6 (by rw [L3,La]; omega),Ul,L0]
  simp only []
  rw [zcj (by rw [hc]; omega) (by rw [hc]; omega),L0,hc,wV p1,ct]
  simp only []
  rw [Ul,L0]
  simp only []
  rw [hr1,oo hD hO O0 O0 hw1,L0,Xn hB ha.1,Yn,L0,Ul,L0]
  simp only []
  rw [hr2,lg hD hB O0 O0 ha.2.2,L0,Yn,L0,tA,L0,yx (by rw [L9]; omega),L0]
  have hf:((false||((0:Int) !=0))||((0:Int) !=0))=false:=rfl
  have hg:((((0:Int) !=0)||((elm (ancE a)).zF !=48))||decide ((List.length ([]:List El):Int)>0))=false:=rfl
  simp only [hf,hg,Bool.false_or]
  have:=B9 (M:=M) hn l0 k l (acc ++ [Yw a]) (fun x hx=>ho x (by simp [hx])) O0 (by rw [L8,L9]; omega)
  rw [Lq,List.singleton_append]at this
  exact this
theorem DM {n M:Nat} {t:Int} {l:List El} {i:Nat} {bad:Bool} (hl:l.length≤1000000) (hb:BdW M l) (hi:i≤l.length):∃e j bad',yv n t ⟨l,(i:Int),bad⟩=some (e,⟨l,((j:Nat):Int),bad'⟩)∧j≤l.length∧e.uE.length≤M:=by
 unfold yv
 by_cases h:bad=true∨l.length≤i∨∃e,l[i]? =some e∧e.zF≠t
 ·rw [nt h,L0]
  simp only [ifb,L0]
  exact⟨_,i,_,rfl,hi,O2⟩
 ·have h1:bad=false:=by cases bad; rfl; exact absurd (.inl rfl) h
  subst h1
  have hi2:i<l.length:=by
   apply Decidable.byContradiction; intro hc; exact h (.inr (.inl O0))
  have hx:l[i]? =some l[i]:=List.getElem?_eq_getElem hi2
  have ht:l[i].zF=t:=by
   apply Decidable.byContradiction; intro hc; exact h (.inr (.inr ⟨_,hx,hc⟩))
  rw [zcY O0 hx ht,L0]
  simp only [ifb,L0]
  exact⟨_,i+1,_,rfl,O0,hb _ (Ll hi2)⟩
theorem zaY (a b c d:Bool):(if a=true then some true else(if b=true then some true else(if c=true then some true else some d)))=some (a||(b||(c||d))):=by cases a<;>cases b<;>cases c<;>rfl
theorem Di {n M:Nat} (hM:M≤900000) (hn:200000000≤n) (a:List El) (hb:Bd M a):∀(k i:Nat) (acc:List Anc) (bad:Bool),i≤a.length→a.length-i<k→acc.length≤i→BdL 252 acc →
  ∃acc' bad',yu n a k acc (i:Int) bad=some (acc',bad')∧BdL 252 acc'
 |0,_,_,_,_,h,_,_=>O0
 | k+1,i,acc,bad,hi,hk,hl,ha=>by
  have hal:=hb.1
  rw [yu]
  by_cases hc:i<a.length
  ·have hx:=hb.2 _ (Ll hc)
   obtain⟨hD,hO,hB⟩:=Pi (n:=n) hM hn
   have hw:=Dm a[i].zd hx
   have hT:=uR a[i].zd hx
   have hTl:=hT.1
   obtain⟨e1,j1,b1,q1,k1,w1'⟩:=DM (n:=n) (t:=48) (i:=0) (bad:=(a[i].zF !=48)||((tList a[i].zd).2 !=0)) O0 hw O0
   rw [show((0:Nat):Int)=0 from rfl]at q1
   obtain⟨e2,j2,b2,q2,k2,w2'⟩:=DM (n:=n) (t:=48) (bad:=b1) O0 hw k1
   obtain⟨ky,ke,hky⟩:=zau hD w2' O0 O0
   rw [L6 O4,zQ hc,L0,nH O0 O0,L0,q1,L0]
   simp only []
   rw [tr hD hO O0 O0 w1',L0,q2,L0]
   simp only []
   rw [hky,L0,zaY,L0,yx (by rw [L9]; omega),L0,w1 O0]
   refine Di hM hn a hb k (i+1) _ _ O0 O0 (by rw [L8,L9]; omega) ?_
   intro y hy
   rcases Lo.1 hy with h|h
   ·exact ha y h
   ·rw [Ln]at h; subst h; exact XN
  ·rw [L4 O4]
   exact⟨_,_,rfl,ha⟩
theorem Gs {n:Nat} (hn:200000000≤n) (v:List Anc) (hv:∀a∈v,Uv a) (hvl:v.length≤1000000):∀(k i:Nat) (acc:List Anc),i≤v.length→v.length-i<k→acc.length≤i →
  yu n ((v.map ancE).map elm) k acc (i:Int) false=some (acc++(v.drop i).map Yw,false)
 |0,_,_,_,h,_=>O0
 | k + 1,i,acc,hi,hk,hl=>by
  rw [yu]
  have hlen:((v.map ancE).map elm).length=v.length:=by rw [Lb,Lb]
  rw [hlen]
  by_cases hc:i<v.length
  ·have ha:=hv _ (Ll hc)
   have hx:zM ((v.map ancE).map elm) (i:Int)=some (elm (ancE v[i])):=by rw [zQ (by rw [hlen]; omega)]; simp
   obtain⟨hD,hO,hB⟩:=Pi (n:=n) (M:=900000) O0 hn
   obtain⟨p1,p2⟩:=Xu ha
   have hcc:(elm (ancE v[i])).zd=wraps (UB v[i]):=rfl
   have hw1:(tWrap (xd v[i].zt.zh).1 (xd v[i].zt.zh).2).1.length≤900000:=by
    have:=dW ha.1; have:=yc (xd v[i].zt.zh).1 (xd v[i].zt.zh).2; omega
   have hr1:(elm (xd v[i].zt.zh)).uE=(tWrap (xd v[i].zt.zh).1 (xd v[i].zt.zh).2).1:=rfl
   have hr2:(elm (gT v[i].zP)).uE=(tWrap (gT v[i].zP).1 (gT v[i].zP).2).1:=rfl
   have hfl:((elm (ancE v[i])).zF !=48||((0:Int) !=0))=false:=rfl
   have q1:=tM (n:=n) (t:=48) (l:= [elm (xd v[i].zt.zh),elm (gT v[i].zP)]) (i:=0) O2 rfl rfl
   have q2:=tM (n:=n) (t:=48) (l:= [elm (xd v[i].zt.zh),elm (gT v[i].zP)]) (i:=0+1) O2 rfl rfl
   rw [show((0:Nat):Int)=0 from rfl]at q1
   rw [L6 O4,hx,L0,nH (by rw [hcc]; omega) (by rw [hcc]; omega),L0,hcc,wV p1,ct]
   simp only [hfl]
   rw [q1,L0]
   simp only []
   rw [hr1,tr hD hO O0 O0 hw1,L0,Xn hB ha.1,q2,L0]
   simp only []
   rw [hr2,mL hD hB O0 O0 ha.2.2,L0,zaY,L0,yx (by rw [L9]; omega),L0,w1 O0]
   have hf:(false||(false||(((0:Int) !=0)||((0:Int) !=0))))=false:=rfl
   simp only [hf]
   have:=Gs hn v hv hvl k (i+1) (acc ++ [Yw v[i]]) O0 O0 (by rw [L8,L9]; omega)
   rw [Lq,List.singleton_append]at this
   rw [Lc hc,Le]
   exact this
  ·rw [L4 O4,Ld O0]
   simp
theorem ce {n:Nat} (x:List Att) (a:Att) (hx:x.length≤1000000):∀(k i:Nat) (f:Bool),i≤x.length→x.length-i<k→(f=true∨a∈x.drop i)→wJ n x a k f (i:Int)=some true
 |0,i,_,_,h,_=>O0
 | k + 1,i,f,hi,hk,hf=>by
  rw [wJ]
  by_cases hc:i<x.length
  ·rw [L6 O4,zQ hc,L0,ifb,L0,w1 O0]
   refine ce x a hx k (i+1) _ O0 O0 ?_
   rcases hf with hf|hf
   ·left; rw [hf]; rfl
   ·rw [Lc hc]at hf
    rcases Lp.1 hf with hf|hf
    ·left; rw [←hf]; simp
    ·exact .inr hf
  ·rw [L4 O4]
   rcases hf with hf|hf
   ·rw [hf]
   ·rw [Ld O0]at hf; simp at hf
def B7 (m j:Nat):Bool:=(List.range 5).all fun r:Nat=>match vG (m+1000) ((5*j+r:Nat):Int)with|some s=>decide (s.length=32)|none=>false
theorem sd0 (m:Nat):B7 m 0=true:=O8
theorem sd1 (m:Nat):B7 m 1=true:=O8
theorem sd2 (m:Nat):B7 m 2=true:=O8
theorem sd3 (m:Nat):B7 m 3=true:=O8
theorem sd4 (m:Nat):B7 m 4=true:=O8
theorem sd5 (m:Nat):B7 m 5=true:=O8
theorem sd6 (m:Nat):B7 m 6=true:=O8
theorem sd7 (m:Nat):B7 m 7=true:=O8
theorem sd8 (m:Nat):B7 m 8=true:=O8
theorem sd9 (m:Nat):B7 m 9=true:=O8
theorem zeM (m:Nat):∀j,j<10→B7 m j=true
 |0,_=>sd0 m|1,_=>sd1 m|2,_=>sd2 m|3,_=>sd3 m|4,_=>sd4 m|5,_=>sd5 m|6,_=>sd6 m|7,_=>sd7 m|8,_=>sd8 m|9,_=>sd9 m
 |j+10,h=>O0
theorem zcK (m:Nat):kJ (m+1000)=some true:=O8
theorem zbi {n:Nat} {r:Int} (hn:1000≤n) (h0:0≤r) (h1:r<50):∃s,vG n r=some s∧s.length=32:=by
 obtain⟨m,rfl⟩:∃m,n=m+1000:=⟨n-1000,O0⟩
 have h:=Lg.1 (zeM m (r.toNat/5) O0) (r.toNat%5) (by rw [List.mem_range]; omega)
 have e:((5*(r.toNat/5)+r.toNat%5:Nat):Int)=r:=O0
 rw [e]at h
 cases hs:vG (m+1000) r with
 |none=>rw [hs]at h; cases h
 |some s=>rw [hs]at h; exact⟨s,rfl,by simpa using h⟩
theorem mG {n:Nat} {d:zf} (hn:1000≤n) (hd:wu d):∃k d',je n d=some (k,d')∧wu d':=by
 unfold je
 obtain⟨r,d1,e1,a1,b1,k1⟩:=wP (n:=n) (k:=50) O1 O1 hd
 obtain⟨s,e2,l2⟩:=zbi (n:=n) hn a1 b1
 obtain⟨x,e3⟩:=Pz (s:=s) (i:=0) (j:=16) O0 O0 O0
 obtain⟨y,e4⟩:=Pz (s:=s) (i:=16) (j:=(s.length:Nat)) O0 O0 O0
 obtain⟨q,d2,e5,a5,b5,k5⟩:=wP (n:=n) (k:=9) O1 O1 k1
 rw [e1,L0]; simp only []
 rw [e2,L0,e3,L0,e4,L0,e5]
 exact⟨_,_,rfl,k5⟩
def bdN (B:Nat) (l:List (List Att)):Bool:=decide (l.length≤B)&&l.all fun r=>decide (r.length≤B)&&r.all fun a=>decide (a.xx.length≤B)&&decide (a.vg.length≤B)
theorem zda {B:Nat} {l:List (List Att)} (h:bdN B l=true):BdN B l:=by
 simp only [bdN,Lf,L3,Lg]at h
 exact⟨h.1,fun r hr=>⟨(h.2 r hr).1,fun a ha=>(h.2 r hr).2 a ha⟩⟩
theorem PH {n:Nat} {r:Int} (hn:1000≤n) (h0:0≤r) (h1:r<16):∃x,jc n r=some x∧BdN 252 x.zh:=by
 obtain⟨m,rfl⟩:∃m,n=m+1000:=⟨n-1000,O0⟩
 have h:=Lg.1 (show((List.range 16).all fun r:Nat=>match jc (m+1000) (r:Int)with|some x=>bdN 252 x.zh|none=>false)=true by kernel_rfl) r.toNat (by rw [List.mem_range]; omega)
 rw [show((r.toNat:Nat):Int)=r by omega]at h
 cases hs:jc (m+1000) r with
 |none=>rw [hs]at h; cases h
 |some x=>rw [hs]at h; exact⟨x,rfl,zda h⟩
theorem za0 {n:Nat} {d:zf} (hd:wu d):∃a d',j5 n d=some (a,d')∧BdA 252 a∧wu d':=by
 unfold j5
 obtain⟨r,d1,e1,a1,b1,k1⟩:=wP (n:=n) (k:=12) O1 O1 hd
 rw [e1,L0]; simp only []
 obtain⟨m,rfl⟩:∃m:Nat,r=(m:Int):=⟨r.toNat,O0⟩
 have hm:m<12:=O0
 match m,hm with
 |0,_|1,_|2,_|3,_|4,_|5,_|6,_|7,_|8,_|9,_|10,_|11,_=>exact⟨_,_,rfl,⟨O1,O1⟩,k1⟩
 |j+12,h=>omega
theorem PF {n:Nat}:∀(j k:Nat) (acc:List Att) (L:List Int) (At:Int),j<k→acc.length+j≤100→(∀a∈acc,BdA 252 a)→wu ⟨L,At⟩ →
  ∃acc' L' At',vp n k acc (j:Int) L At=some (acc',L',At')∧acc'.length≤acc.length+j∧(∀a∈acc',BdA 252 a)∧wu ⟨L',At'⟩
 |j,0,_,_,_,h,_,_,_=>O0
 | 0,k+1,acc,L,At,_,_,ha,hd=>by
  rw [vp,L4 O1]
  exact⟨_,_,_,rfl,O0,ha,hd⟩
 | j + 1,k+1,acc,L,At,hk,hl,ha,hd=>by
  rw [vp,L6 O4]
  obtain⟨a,d1,e1,b1,k1⟩:=za0 (n:=n) hd
  have ew:wrap .i64 (((j+1:Nat):Int)-1)=(j:Int):=by rw [z6 O0]; omega
  have key:∃c,(if((List.length acc:Int)==0)=true then(some true)else((zM acc 0).bind fun x2478=>some (!(x2478.xx==a.xx))))=some c:=by
   refine yq (fun _=>⟨_,rfl⟩) fun h=> ?_
   obtain⟨x,hx⟩:=gI (s:=acc) (i:=0) O0 (by rw [beq_iff_eq]at h; omega)
   rw [hx]; exact⟨_,rfl⟩
  obtain⟨c,hc⟩:=key
  rw [e1,L0]; simp only []
  rw [hc,L0,ew]
  cases c with
  | true=>
   rw [L6 rfl,yx (by rw [L9]; omega),L0,L0]
   obtain ⟨acc',L',At',g1,g2,g3,g4⟩:=PF (n:=n) j k (acc ++ [a]) d1.f_L d1.xk O0 (by rw [L8,L9]; omega) (by
    intro y hy; rcases Lo.1 hy with h|h
    ·exact ha y h
    ·rw [Ln]at h; subst h; exact b1) k1
   exact⟨acc',L',At',g1,by rw [L8,L9]at g2; omega,g3,g4⟩
  | false=>
   rw [L4 O2,L0]
   obtain⟨acc',L',At',g1,g2,g3,g4⟩:=PF (n:=n) j k acc d1.f_L d1.xk O0 O0 ha k1
   exact⟨acc',L',At',g1,O0,g3,g4⟩
theorem ov {n:Nat} (hn:1000≤n):∀(j k:Nat) (acc:List (List Att)) (L:List Int) (At:Int),j<k→acc.length+j≤100→(∀r∈acc,BdR 252 r)→wu ⟨L,At⟩ →
  ∃acc' L' At',vn n k (j:Int) L At acc=some (L',At',acc')∧acc'.length≤acc.length+j∧(∀r∈acc',BdR 252 r)∧wu ⟨L',At'⟩
 |j,0,_,_,_,h,_,_,_=>O0
 | 0,k+1,acc,L,At,_,_,ha,hd=>by
  rw [vn,L4 O1]
  exact⟨_,_,_,rfl,O0,ha,hd⟩
 | j+1,k+1,acc,L,At,hk,hl,ha,hd=>by
  rw [vn,L6 O4]
  obtain⟨r,d1,e1,a1,b1,k1⟩:=wP (n:=n) (k:=5) O1 O1 hd
  have ew:wrap .i64 (((j+1:Nat):Int)-1)=(j:Int):=by rw [z6 O0]; omega
  have ec:∃q:Nat,q≤2∧wrap .i64 ((1:Int)+wrap .i64 (Int.tdiv r 4))=(q:Int):=by
   obtain⟨m,rfl⟩:∃m:Nat,r=(m:Int):=⟨r.toNat,O0⟩
   have hm:m<5:=O0
   match m,hm with
   |0,_|1,_|2,_|3,_=>exact⟨1,O0,rfl⟩
   |4,_=>exact⟨2,O0,rfl⟩
   |j+5,h=>omega
  obtain⟨q,hq,eq⟩:=ec
  rw [e1,L0]; simp only []
  rw [eq]
  obtain⟨att,L2,At2,g1,g2,g3,g4⟩:=PF (n:=n) q n [] d1.f_L d1.xk O0 O3 O2 k1
  rw [g1,L0]; simp only []
  rw [yx (by rw [L9]; omega),L0,ew]
  obtain ⟨acc',L',At',p1,p2,p3,p4⟩:=ov hn j k (acc ++ [att]) L2 At2 O0 (by rw [L8,L9]; omega) (by
   intro y hy; rcases Lo.1 hy with h|h
   ·exact ha y h
   ·rw [Ln]at h; subst h; exact⟨by simp only [Lm]at g2; omega,g3⟩) g4
  exact⟨acc',L',At',p1,by rw [L8,L9]at p2; omega,p3,p4⟩
theorem BI {n:Nat} {d:zf} (hn:1000≤n) (hd:wu d):∃x d',vF n d=some (x,d')∧BdN 252 x.zh∧wu d':=by
 unfold vF
 obtain⟨r,d1,e1,a1,b1,k1⟩:=wP (n:=n) (k:=4) O1 O1 hd
 obtain⟨m,rfl⟩:∃m:Nat,r=(m:Int):=⟨r.toNat,O0⟩
 obtain⟨acc',L',At',p1,p2,p3,p4⟩:=ov (n:=n) hn m n [] d1.f_L d1.xk O0 O3 O2 k1
 rw [e1,L0]; simp only []
 rw [p1]
 exact⟨_,_,rfl,⟨by show acc'.length≤_; simp only [Lm]at p2; omega,p3⟩,p4⟩
theorem BB {α:Type} {l:List α} {o:Nat} (x:α) (h:o<l.length):∃r,Wt l o x=some r∧r.length=l.length:=⟨_,L6 h,List.length_set ..⟩
theorem ZQ {n:Nat} {i:Int} (h:0≤i∧i<n):gu n i=some i.toNat:=L6 h
theorem Qy {α:Type} {l:List α} {o:Nat} (h:o<l.length):∃x,l[o]? =some x:=⟨_,List.getElem?_eq_getElem h⟩
theorem tT {n:Nat} {a:Bs} (ha:a.length=64):∀(j k:Nat) (v:List Int),j≤16→j<k→v.length=64→∃r,wH n a k ((16-j:Nat):Int) v=some r∧r.length=64
 |j,0,_,_,h,_=>O0
 | 0,k+1,v,_,_,hv=>by
  rw [wH,L4 O1]
  exact⟨_,rfl,hv⟩
 | j+1,k+1,v,hj,hk,hv=>by
  rw [wH,L6 O4]
  rw [z6 (x:=(4:Int)*((16-(j+1):Nat):Int)) O0,z6 (x:=(4:Int)*((16-(j+1):Nat):Int)+1) O0,z6 (x:=(4:Int)*((16-(j+1):Nat):Int)+2) O0,z6 (x:=(4:Int)*((16-(j+1):Nat):Int)+3) O0]
  obtain⟨x1,e1⟩:=u9 (s:=a) (i:=(4:Int)*((16-(j+1):Nat):Int)) O0 O0
  obtain⟨x2,e2⟩:=u9 (s:=a) (i:=(4:Int)*((16-(j+1):Nat):Int)+1) O0 O0
  obtain⟨x3,e3⟩:=u9 (s:=a) (i:=(4:Int)*((16-(j+1):Nat):Int)+2) O0 O0
  obtain⟨x4,e4⟩:=u9 (s:=a) (i:=(4:Int)*((16-(j+1):Nat):Int)+3) O0 O0
  rw [e1,L0,e2,L0,e3,L0,e4,L0,ZQ O0,L0]
  obtain⟨w,ew,lw⟩:=BB (l:=v) (o:=0+((16-(j+1):Nat):Int).toNat*1) (ior .u32 (ior .u32 (ior .u32 (wrap .u32 ((wrap .u32 x1)*16777216)) (wrap .u32 ((wrap .u32 x2)*65536))) (wrap .u32 ((wrap .u32 x3)*256))) (wrap .u32 x4)) O0
  rw [ew,L0,z6 O0,show((16-(j+1):Nat):Int)+1=((16-j:Nat):Int)by omega]
  exact tT ha j k w O0 O0 O0
theorem zak {n:Nat}:∀(j k:Nat) (v:List Int),j≤48→j<k→v.length=64→∃r,wC n k ((64-j:Nat):Int) v=some r∧r.length=64
 |j,0,_,_,h,_=>O0
 | 0,k+1,v,_,_,hv=>by
  rw [wC,L4 O1]
  exact⟨_,rfl,hv⟩
 | j+1,k+1,v,hj,hk,hv=>by
  rw [wC,L6 O4]
  rw [z6 (x:=((64-(j+1):Nat):Int)-15) O0,z6 (x:=((64-(j+1):Nat):Int)-2) O0,z6 (x:=((64-(j+1):Nat):Int)-16) O0,z6 (x:=((64-(j+1):Nat):Int)-7) O0]
  rw [ZQ (i:=((64-(j+1):Nat):Int)-15) O0,L0]
  obtain⟨x1,e1⟩:=Qy (l:=v) (o:=0+(((64-(j+1):Nat):Int)-15).toNat*1) O0
  rw [e1,L0,ZQ (i:=((64-(j+1):Nat):Int)-2) O0,L0]
  obtain⟨x2,e2⟩:=Qy (l:=v) (o:=0+(((64-(j+1):Nat):Int)-2).toNat*1) O0
  rw [e2,L0,ZQ (i:=((64-(j+1):Nat):Int)-16) O0,L0]
  obtain⟨x3,e3⟩:=Qy (l:=v) (o:=0+(((64-(j+1):Nat):Int)-16).toNat*1) O0
  rw [e3,L0,ZQ (i:=((64-(j+1):Nat):Int)-7) O0,L0]
  obtain⟨x4,e4⟩:=Qy (l:=v) (o:=0+(((64-(j+1):Nat):Int)-7).toNat*1) O0
  rw [e4,L0,ZQ (i:=((64-(j+1):Nat):Int)) O0,L0]
  generalize wrap .u32 ((wrap .u32 _)+_)=z
  obtain⟨w,ew,lw⟩:=BB (l:=v) (o:=0+((64-(j+1):Nat):Int).toNat*1) z O0
  rw [ew,L0,z6 O0,show((64-(j+1):Nat):Int)+1=((64-j:Nat):Int)by omega]
  exact zak j k w O0 O0 O0
theorem sW {n:Nat} {y:List Int} (hy:y.length=64):∀(j k:Nat) (a b c d e f g h:Int),j≤64→j<k→∃r,wF n y k a b c d e f g h ((64-j:Nat):Int)=some r
 |j,0,_,_,_,_,_,_,_,_,_,h=>O0
 | 0,k+1,_,_,_,_,_,_,_,_,_,_=>by
  rw [wF,L4 O1]
  exact⟨_,rfl⟩
 | j+1,k+1,_,_,_,_,_,_,_,_,hj,hk=>by
  rw [wF,L6 O4]
  refine yF (gI O0 ?_) fun x1 _=> ?_
  ·show _<(64:Int); omega
  rw [ZQ (i:=((64-(j+1):Nat):Int)) O0,L0]
  obtain⟨x2,e2⟩:=Qy (l:=y) (o:=0+((64-(j+1):Nat):Int).toNat*1) O0
  rw [e2,L0,z6 (x:=((64-(j+1):Nat):Int)+1) O0,show((64-(j+1):Nat):Int)+1=((64-j:Nat):Int)by omega]
  exact sW hy j k _ _ _ _ _ _ _ _ O0 O0
theorem tJ {n:Nat} {s:List Int} {a:Bs} (hn:100≤n) (hs:s.length=8) (ha:a.length=64):∃r,kW n s a=some r∧r.length=8:=by
 unfold kW
 obtain⟨y,ey,ly⟩:=tT (n:=n) ha 16 n (List.replicate 64 0) O0 O0 (by rw [List.length_replicate])
 obtain⟨z,ez,lz⟩:=zak (n:=n) 48 n y O0 O0 ly
 rw [show(0:Int)=((16-16:Nat):Int)by rfl]
 rw [show((List.replicate 64 ((16-16:Nat):Int)):List Int)=List.replicate 64 0 by rfl,ey,L0]
 rw [show(16:Int)=((64-48:Nat):Int)by rfl,ez,L0]
 obtain⟨x0,e0⟩:=gI (s:=s) (i:=0) O0 O0
 obtain⟨x1,e1⟩:=gI (s:=s) (i:=1) O0 O0
 obtain⟨x2,e2⟩:=gI (s:=s) (i:=2) O0 O0
 obtain⟨x3,e3⟩:=gI (s:=s) (i:=3) O0 O0
 obtain⟨x4,e4⟩:=gI (s:=s) (i:=4) O0 O0
 obtain⟨x5,e5⟩:=gI (s:=s) (i:=5) O0 O0
 obtain⟨x6,e6⟩:=gI (s:=s) (i:=6) O0 O0
 obtain⟨x7,e7⟩:=gI (s:=s) (i:=7) O0 O0
 rw [show((16-16:Nat):Int)=0 by rfl,e0,L0,e1,L0,e2,L0,e3,L0,e4,L0,e5,L0,e6,L0,e7,L0]
 obtain⟨w,ew⟩:=sW (n:=n) lz 64 n x0 x1 x2 x3 x4 x5 x6 x7 O0 O0
 rw [show(0:Int)=((64-64:Nat):Int)by rfl,ew,L0]
 exact⟨_,rfl,rfl⟩
theorem nh {n:Nat} {a:List Bs} (ha:a.length≤100) (hs:∀x∈a,x.length≤1000):∀(j k:Nat) (v:Bs),j≤a.length→j<k→v.length≤1000*(a.length-j)→∃r,vt n a k v ((a.length-j:Nat):Int)=some r∧r.length≤100000
 |j,0,_,_,h,_=>O0
 | 0,k+1,v,_,_,hv=>by
  rw [vt,L4 O2]
  exact⟨_,rfl,O0⟩
 | j+1,k+1,v,hj,hk,hv=>by
  rw [vt,L6 O4]
  obtain⟨x,ex⟩:=gI (s:=a) (i:=((a.length-(j+1):Nat):Int)) O0 O0
  have lx:x.length≤1000:=by
   unfold zM at ex
   rw [L6 O0]at ex
   exact hs x (List.mem_of_getElem? ex)
  rw [ex,L0,show um v x=some (v++x)from L6 O0,L0,z6 O0,show((a.length-(j+1):Nat):Int)+1=((a.length-j:Nat):Int)by omega]
  exact nh ha hs j k (v++x) O0 O0 (by rw [L8]; omega)
theorem np {n m:Nat} {y:Bs} (hy:y.length≤100000) (hm:9≤m∧m≤100):∀(j k:Nat) (v:List Int),j≤8→j<k→v.length=m→∃r,vw n y m k ((8-j:Nat):Int) v=some r∧r.length=m
 |j,0,_,_,h,_=>O0
 | 0,k+1,v,_,_,hv=>by
  rw [vw,L4 O1]
  exact⟨_,rfl,hv⟩
 | j+1,k+1,v,hj,hk,hv=>by
  rw [vw,L6 O4]
  rw [z6 (x:=(8:Int)*(y.length:Int)) O0,z6 (x:=(8:Int)*((8-(j+1):Nat):Int)) O0,z6 (x:=(m:Int)-1) O0,z6 (x:=(m:Int)-1-((8-(j+1):Nat):Int)) O0]
  rw [show ∀a b:Int,0≤b→WA .i64 a b=some (a.fdiv (2^(min b.toNat IntKind.i64.bits)))from fun a b h=>L4 O0]
  ·rw [L0,ZQ (i:=(m:Int)-1-((8-(j+1):Nat):Int)) O0,L0]
   generalize wrap .u8 _=z
   obtain⟨w,ew,lw⟩:=BB (l:=v) (o:=((m:Int)-1-((8-(j+1):Nat):Int)).toNat*1) z O0
   rw [ew,L0,z6 O0,show((8-(j+1):Nat):Int)+1=((8-j:Nat):Int)by omega]
   exact np hy hm j k w O0 O0 O0
  ·omega
theorem nK {n:Nat} {x:Bs} {q:Nat} (hn:100≤n) (hx:x.length=64*q) (hq:q≤10000):∀(j k:Nat) (v:List Int),j≤q→j<k→v.length=8→∃r,vk n x k v ((64*(q-j):Nat):Int)=some r∧r.length=8
 |j,0,_,_,h,_=>O0
 | 0,k+1,v,_,_,hv=>by
  rw [vk,L4 O4]
  exact⟨_,rfl,hv⟩
 | j+1,k+1,v,hj,hk,hv=>by
  rw [vk,L6 O4]
  rw [z6 (x:=((64*(q-(j+1)):Nat):Int)+64) O0,show ssl x ((64*(q-(j+1)):Nat):Int) (((64*(q-(j+1)):Nat):Int)+64)=some _ from L6 ⟨O0,O0,O0⟩,L0]
  obtain⟨w,ew,lw⟩:=tJ (n:=n) (s:=v) (a:=((x.take ((((64*(q-(j+1)):Nat):Int)+64).toNat)).drop (((64*(q-(j+1)):Nat):Int).toNat))) hn hv (by rw [List.length_drop,List.length_take]; omega)
  rw [ew,L0,show((64*(q-(j+1)):Nat):Int)+64=((64*(q-j):Nat):Int)by omega]
  exact nK hn hx hq j k w O0 O0 lw
theorem mY {n:Nat} {y:List Int} (hy:y.length=8):∀(j k:Nat) (v:List Int),j≤8→j<k→v.length=4*(8-j)→∃r,vz n y k v ((8-j:Nat):Int)=some r∧r.length=32
 |j,0,_,_,h,_=>O0
 | 0,k+1,v,_,_,hv=>by
  rw [vz,L4 (by rw [hy]; decide)]
  exact⟨_,rfl,hv⟩
 | j+1,k+1,v,hj,hk,hv=>by
  rw [vz,L6 O4]
  obtain⟨x,ex⟩:=gI (s:=y) (i:=((8-(j+1):Nat):Int)) O0 O0
  rw [ex,L0,yx (by show(_+4)*_≤_; omega),L0,z6 O0,show((8-(j+1):Nat):Int)+1=((8-j:Nat):Int)by omega]
  exact mY hy j k _ O0 O0 (by rw [L8]; show _+4=_; omega)
theorem zaJ {n:Nat} {a:List Bs} (hn:2000≤n) (ha:a.length≤100) (hs:∀x∈a,x.length≤1000):∃s,qT n a=some s∧s.length=32:=by
 unfold qT
 obtain⟨y,ey,ly⟩:=nh (n:=n) ha hs a.length n [] O0 O0 O2
 rw [show(0:Int)=((a.length-a.length:Nat):Int)by omega,ey,L0,show((a.length-a.length:Nat):Int)=0 by omega]
 have key:∃p:Nat,p<64∧(y.length+(9+p))%64=0∧(if((wrap .i64 ((64:Int)-(Int.tmod (wrap .i64 ((List.length y:Int)+9)) 64)))==64)=true then(some 0)else(some (wrap .i64 ((64:Int)-(Int.tmod (wrap .i64 ((List.length y:Int)+9)) 64)))))=some (p:Int):=by
  rw [z6 (x:=(List.length y:Int)+9) O0,show Int.tmod ((List.length y:Int)+9) 64=(((y.length+9)%64:Nat):Int)from(Int.ofNat_tmod (y.length+9) 64).symm,z6 O0]
  by_cases h0:(y.length+9)%64=0
  ·exact⟨0,O0,O0,by rw [L6 O9]; rfl⟩
  ·exact⟨64-(y.length+9)%64,O0,O0,by rw [L4 O9]; congr 1; omega⟩
 obtain⟨p,hp,hq,ep⟩:=key
 rw [ep,L0,z6 (x:=(9:Int)+(p:Int)) O0,show Kg 1 ((9:Int)+(p:Int)) ((9:Int)+(p:Int))=some (9+p)from(L6 ⟨O0,O0,O0,O0⟩).trans (congrArg some O0),L0,ZQ O0,L0]
 obtain⟨w,ew,lw⟩:=BB (l:=List.replicate (9+p) (0:Int)) (o:=(0:Int).toNat*1) 128 (by rw [List.length_replicate]; show 0<_; omega)
 rw [List.length_replicate]at lw
 rw [ew,L0]
 obtain⟨z,ez,lz⟩:=np (n:=n) (m:=9+p) ly O0 8 n w O0 O0 lw
 rw [show(0:Int)=((8-8:Nat):Int)by rfl,ez,L0,show Ke (9+p) z=some (b2s (z.take (9+p)))from L6 O0,L0]
 have lb:(b2s (z.take (9+p))).length=9+p:=by unfold b2s; rw [Lb,List.length_take]; omega
 rw [show um y (b2s (z.take (9+p)))=some (y++b2s (z.take (9+p)))from L6 O0,L0]
 obtain⟨u,eu,lu⟩:=nK (n:=n) (x:=y++b2s (z.take (9+p))) (q:=(y.length+(9+p))/64) O0 (by rw [L8,lb]; omega) O0 ((y.length+(9+p))/64) n ([1779033703,3144134277,1013904242,2773480762,1359893119,2600822924,528734635,1541459225]:List Int) O0 O0 rfl
 rw [show((8-8:Nat):Int)=((64*((y.length+(9+p))/64-(y.length+(9+p))/64):Nat):Int)by omega,eu,L0]
 rw [show Pm 1 32=some ()by rfl,L0]
 obtain⟨t,et,lt⟩:=mY (n:=n) lu 8 n [] O0 O0 rfl
 rw [show((64*((y.length+(9+p))/64-(y.length+(9+p))/64):Nat):Int)=((8-8:Nat):Int)by omega,et,L0]
 exact⟨_,rfl,by unfold b2s; rw [Lb]; exact lt⟩
theorem BF {n:Nat} {a:List Bs} (hn:2000≤n) (ha:a.length≤100) (hs:∀x∈a,x.length≤1000):∃s,wQ n a=some s∧s.length=16:=by
 unfold wQ
 obtain⟨s,e,l⟩:=zaJ hn ha hs
 rw [e,L0,show ssl s 0 16=some ((s.take 16).drop 0)from L6 ⟨O0,O0,O0⟩]
 exact⟨_,rfl,by rw [List.length_drop,List.length_take]; omega⟩
theorem mj {n v:Nat} (hn:20≤n) (hv:v<64):dn n (v:Int)=some [o8 v]:=by
 obtain⟨m,rfl⟩:=Jf hn
 have:=Lg.1 (show((List.range 64).all fun v:Nat=>decide (dn (m+20) (v:Int)=some [o8 v]))=true by kernel_rfl) v (Oa hv)
 simpa using this
theorem fX {n v:Nat} (hn:20≤n) (hv:v<64):jH n (v:Int)=some [o8 v]:=by
 obtain⟨m,rfl⟩:=Jf hn
 have:=Lg.1 (show((List.range 64).all fun v:Nat=>decide (jH (m+20) (v:Int)=some [o8 v]))=true by kernel_rfl) v (Oa hv)
 simpa using this
theorem mr {n v:Nat} (hn:20≤n) (hv:v<64):bS n [o8 v]=some ((v:Int),0):=by
 obtain⟨m,rfl⟩:=Jf hn
 have:=Lg.1 (show((List.range 64).all fun v:Nat=>decide (bS (m+20) [o8 v]=some ((v:Int),0)))=true by kernel_rfl) v (Oa hv)
 simpa using this
theorem fR {n v:Nat} (hn:20≤n) (hv:v<64):un n [o8 v]=some ((v:Int),0):=by
 obtain⟨m,rfl⟩:=Jf hn
 have:=Lg.1 (show((List.range 64).all fun v:Nat=>decide (un (m+20) [o8 v]=some ((v:Int),0)))=true by kernel_rfl) v (Oa hv)
 simpa using this
theorem m8 {n:Nat} (s:Bs) (h0:0<s.length) (h8:s.length≤8):∀(k i:Nat) (v:Int),s.length-i<k→∃x,qx n s k v (i:Int)=some x
 |0,_,_,h=>O0
 | k+1,i,v,h=>by
  rw [qx,z6 (x:=(s.length:Int)-1) O0]
  by_cases hc:i+1<s.length
  ·rw [L6 O3,w1 O0,vj hc]
   simp only [L0]
   exact m8 s h0 h8 k (i+1) _ O0
  ·rw [L4 O3]; exact⟨_,rfl⟩
theorem hJ {n:Nat} (s:Bs) (hn:20≤n):∃x,bS n s=some x:=by
 unfold bS
 rcases Nat.eq_zero_or_pos s.length with h0|h0
 ·have:s= []:=List.eq_nil_of_length_eq_zero h0
  subst this; exact⟨_,by simp; rfl⟩
 refine yF ?_ fun b _=>yq (fun _=>⟨_,rfl⟩) fun _=>yq (fun _=>⟨_,rfl⟩) fun h8=>yF (u9 O0 O0) fun x _=>yF ?_ fun y _=>⟨_,rfl⟩
 ·refine yq (fun _=>⟨_,rfl⟩) fun _=>yq (fun h=> ?_) fun _=>⟨_,rfl⟩
  have h1:1<(s.length:Int):=by simpa using h
  refine yF (u9 O0 O0) fun x _=>yq (fun _=>yF (u9 O0 O0) fun _ _=>yq (fun _=>⟨_,rfl⟩) fun _=>yF (u9 O0 O0) fun _ _=>yq (fun _=>yF (u9 O0 O0) fun _ _=>⟨_,rfl⟩) fun _=>⟨_,rfl⟩) fun _=>yF (u9 O0 O0) fun _ _=>yq (fun _=>yF (u9 O0 O0) fun _ _=>⟨_,rfl⟩) fun _=>⟨_,rfl⟩
 ·have h8':s.length≤8:=by simp at h8; omega
  exact m8 (n:=n) s h0 h8' n 0 _ O0
theorem ng {n:Nat} (s:Bs) (h8:s.length≤8):∀(k i:Nat) (v:Int),s.length-i<k→∃x,w6 n s k v (i:Int)=some x
 |0,_,_,h=>O0
 | k+1,i,v,h=>by
  rw [w6]
  by_cases hc:i<s.length
  ·rw [L6 O3,w1 O0,vj hc]
   simp only [L0]
   exact ng s h8 k (i+1) _ O0
  ·rw [L4 O3]; exact⟨_,rfl⟩
theorem lN {n:Nat} (s:Bs) (hn:20≤n):∃x,un n s=some x:=by
 unfold un
 rcases Nat.eq_zero_or_pos s.length with h0|h0
 ·have:s= []:=List.eq_nil_of_length_eq_zero h0
  subst this; exact⟨_,by simp; rfl⟩
 refine yF ?_ fun b _=>yq (fun _=>⟨_,rfl⟩) fun _=>yq (fun _=>⟨_,rfl⟩) fun h8=>yF (u9 O0 O0) fun x _=>yF (yq (fun _=>⟨_,rfl⟩) fun _=>⟨_,rfl⟩) fun z _=>yF ?_ fun y _=>⟨_,rfl⟩
 ·refine yq (fun _=>⟨_,rfl⟩) fun _=>yq (fun h=> ?_) fun _=>⟨_,rfl⟩
  have h1:1<(s.length:Int):=by simpa using h
  refine yF (u9 O0 O0) fun x _=>yq (fun _=>yF (u9 O0 O0) fun _ _=>yq (fun _=>⟨_,rfl⟩) fun _=>yF (u9 O0 O0) fun _ _=>yq (fun _=>yF (u9 O0 O0) fun _ _=>⟨_,rfl⟩) fun _=>⟨_,rfl⟩) fun _=>yF (u9 O0 O0) fun _ _=>yq (fun _=>yF (u9 O0 O0) fun _ _=>⟨_,rfl⟩) fun _=>⟨_,rfl⟩
 ·have h8':s.length≤8:=by simp at h8; omega
  exact ng (n:=n) s h8' n 0 _ O0
def sm (x:Int):Bool:=decide (0≤x)&&decide (x<64)
def Bu (t:Nat) (x:Int):Nat×Bs:=(t,[o8 x.toNat])
theorem Pn {x:Int} (h:sm x=true):∃v:Nat,x=(v:Int)∧v<64:=by
 simp only [sm,Lf,L3]at h
 exact⟨x.toNat,O0,O0⟩
theorem zgt {n t:Nat} {b:Bs} {x:Int} (hx:sm x=true) (h1:t≤255) (h2:t%32≠31) (hb:b.length≤10000000000) (hn:20≤n):jP n (t:Int) x ⟨b,0⟩=some ⟨b++(tWrap t [o8 x.toNat]).1,0⟩:=by
 obtain⟨v,rfl,hv⟩:=Pn hx
 unfold jP
 rw [mj hn hv,L0,PZ h1 h2 O3 hn,Int.toNat_natCast,WK (c:= [o8 v]) O2]; rfl
theorem zaa {n t:Nat} {b:Bs} {x:Int} (hx:sm x=true) (h1:t≤255) (h2:t%32≠31) (hb:b.length≤10000000000) (hn:20≤n):ut n x ⟨b,0⟩=some ⟨b++(tWrap 2 [o8 x.toNat]).1,0⟩:=by
 unfold ut
 have:=zgt (n:=n) (t:=2) hx O0 O0 hb hn
 rw [show((2:Nat):Int)=2 from rfl]at this
 rw [this]; rfl
theorem zfB {n:Nat} {b s:Bs} (hs:s.length≤100000000) (hn:s.length+40≤n) (h:(xG s).isSome=true) (hb:b.length≤10000000000):dz n s ⟨b,0⟩=some ⟨b++(tWrap (polE s).1 (polE s).2).1,0⟩:=by
 obtain⟨l,hl⟩:=Option.isSome_iff_exists.1 h
 unfold dz
 have hlen:=dJ (bB hl)
 have h2:=PZ (n:=n) (t:=6) (b:=b) (c:=qA l) O0 O0 O0 O0
 rw [show((6:Nat):Int)=6 from rfl]at h2
 rw [J2 hs hn hl,L0]
 simp only []
 rw [B0 O3,Lk,L0,h2,WK (c:=qA l) O0]
 simp [polE,hl]
theorem cN {n B:Nat} (hB:B≤100000000) (hn:B+40≤n) (a:List Bs) (ha:a.length≤10000000) (hs:a.all (fun s=>(xG s).isSome)=true) (hl:∀s∈a,s.length≤B):∀(k i:Nat) (b:Bs),i≤a.length→a.length-i<k→b.length+60*(a.length-i)≤1000000000 →
  v7 n a k (i:Int) b 0=some (b++wraps ((a.drop i).map polE),0)
 |0,_,_,_,h,_=>O0
 | k+1,i,b,hi,hk,hb=>by
  rw [v7]
  by_cases hc:i<a.length
  ·have hx:=Lg.1 hs a[i] (Ll hc)
   have hxl:=hl a[i] (Ll hc)
   have hl0:=yc 6 (polE a[i]).2
   obtain⟨l,he⟩:=Option.isSome_iff_exists.1 hx
   have hl1:(polE a[i]).2.length≤55:=by unfold polE; rw [he]; exact dJ (bB he)
   rw [L6 O4,zQ hc,L0,zfB O0 O0 hx O0,L0,w1 O0]
   show v7 n a k _ _ 0=_
   rw [cN hB hn a ha hs hl k (i+1) _ O0 O0 (by rw [L8]; show b.length+(tWrap 6 (polE a[i]).2).1.length+_≤_; omega),Lc hc,Le,gz,Lq]
  ·rw [L4 O4,Ld O0]; simp [wraps]
theorem Vx {a:List Bs} (hs:a.all (fun s=>(xG s).isSome)=true):(wraps (a.map polE)).length≤60*a.length:=by
 have:=Jg (m:=55) (a.map polE) (by
  intro p hp; obtain⟨x,hx,rfl⟩:=Lh.1 hp
  obtain⟨l,he⟩:=Option.isSome_iff_exists.1 (Lg.1 hs x hx)
  unfold polE; rw [he]; exact dJ (bB he))
 rw [Lb]at this; omega
theorem zfb {n:Nat} {x:Int} (hx:sm x=true) (hn:20≤n):qK n x=some (tWrap 2 [o8 x.toNat]).1:=by
 obtain⟨v,rfl,hv⟩:=Pn hx
 unfold qK
 have:=Vz (n:=n) (t:=2) (c:= [o8 v]) O0 O0 O2 hn
 rw [show((2:Nat):Int)=2 from rfl]at this
 rw [fX hn hv,L0,this,Int.toNat_natCast]; rfl
theorem eF {n B:Nat} (hB:B≤100000000) (hn:B+40≤n) (a:List Bs) (ha:a.length≤10000000) (hs:a.all (fun s=>(xG s).isSome)=true) (hl:∀s∈a,s.length≤B):∀(k i:Nat) (b:Bs),i≤a.length→a.length-i<k→b.length+60*(a.length-i)≤1000000000 →
  uj n a k b (i:Int)=some (b++wraps ((a.drop i).map polE))
 |0,_,_,_,h,_=>O0
 | k+1,i,b,hi,hk,hb=>by
  rw [uj]
  by_cases hc:i<a.length
  ·have hx:=Lg.1 hs a[i] (Ll hc)
   have hxl:=hl a[i] (Ll hc)
   have hl0:=yc 6 (polE a[i]).2
   obtain⟨l,he⟩:=Option.isSome_iff_exists.1 hx
   have hl1:(polE a[i]).2.length≤55:=by unfold polE; rw [he]; exact dJ (bB he)
   have hl2:(tWrap (polE a[i]).1 (polE a[i]).2).1.length≤60:=by show(tWrap 6 (polE a[i]).2).1.length≤60; omega
   rw [L6 O4,zQ hc,L0,zeS O0 O0 hx,L0,yd O0,L0,w1 O0]
   rw [eF hB hn a ha hs hl k (i+1) _ O0 O0 (by rw [L8]; omega),Lc hc,Le,gz,Lq]
  ·rw [L4 O4,Ld O0]; simp [wraps]
theorem cK {n M:Nat} {t:Int} {f:Bool} {l:List zb} (hn:20≤n) (h:Bd M l):∃x r f',xH n t ⟨l,f⟩=some (x,⟨r,f'⟩)∧Bd M r∧(0<l.length→r.length<l.length):=by
 obtain⟨e,r,f',h1,h2,h3,_,h4⟩:=KQ (n:=n) (f:=f) h
 unfold xH
 rw [h1,L0]
 obtain⟨x,hx⟩:=hJ (n:=n) e.zd hn
 simp only []
 rw [hx,L0]
 unfold zR
 simp only [ifb,L0]
 exact⟨_,_,_,rfl,h3,h4⟩
theorem zbK {n t:Nat} {x:Int} {l:List zb} (hn:20≤n) (hx:sm x=true):xH n (t:Int) ⟨elm (Bu t x)::l,false⟩=some (x,⟨l,false⟩):=by
 obtain⟨v,rfl,hv⟩:=Pn hx
 unfold xH
 rw [Ul,L0]
 have hc:(elm (Bu t (v:Int))).zd= [o8 v]:=by simp [elm,Bu]
 have ht:(elm (Bu t (v:Int))).zF=(t:Int):=rfl
 simp only []
 rw [hc,mr hn hv,L0]
 show(zR n 0 ⟨l,false⟩).bind _=_
 rw [show zR n 0 ⟨l,false⟩=some ⟨l,false⟩from rfl,L0,ht]
 simp
theorem DK {n M:Nat} (hn:M+100≤n) (hM:M≤1000000) (l:List zb):∀(k:Nat) (ps:List Bs) (f:Bool) (el:List zb) (ef:Bool),Bd M el→el.length<k→ps.length+el.length≤M→(∀s∈ps,s.length≤252) →
  ∃ps' f' ef',wN n k ps l f el ef=some (ps',l,f',[],ef')∧ps'.length≤M∧∀s∈ps',s.length≤252
 |0,_,_,_,_,_,h,_,_=>O0
 |k+1,ps,f,[],ef,_,_,h1,h2=>⟨ps,f,ef,rfl,by simpa using h1,h2⟩
 | k+1,ps,f,e::el,ef,hb,hk,h1,h2=>by
  simp only [La]at hk h1
  have hc:=hb.tail.1
  obtain⟨s,x,hs,hsl⟩:=Qp (n:=n) (b:=e.zd) O0 O0
  rw [wN,L6 (by rw [L3,La]; omega),Ul,L0]
  simp only []
  rw [hs,L0]
  unfold zR
  simp only [ifb,L0]
  rw [yx (by rw [L9]; omega),L0]
  exact DK hn hM l k _ _ el ef hb.tail.2 O0 (by rw [L8,L9]; omega) (by
   intro y hy; rcases Lo.1 hy with hy|hy
   ·exact h2 y hy
   ·simp at hy; subst hy; exact hsl)
theorem Gz {n:Nat} (hn:1000≤n) (l:List zb):∀(k:Nat) (pols:List Bs) (ps:List Bs),pols.all (fun s=>(xG s).isSome)=true→pols.length<k→ps.length+pols.length≤1000000 →
  wN n k ps l false ((pols.map polE).map elm) false=some (ps++pols,l,false,[],false)
 |0,_,_,_,h,_=>O0
 |k+1,[],ps,_,_,_=>by rw [Lk]; rfl
 | k+1,s::pols,ps,hs,hk,h1=>by
  simp only [La]at hk h1
  rw [List.all_cons,Lf]at hs
  obtain⟨a,ha⟩:=Option.isSome_iff_exists.1 hs.1
  have hcont:(elm (polE s)).zd=qA a:=by simp [elm,polE,ha]
  rw [Le,Le,wN,L6 (by rw [L3,La]; omega),Ul,L0]
  simp only []
  rw [hcont,Y8 ha O0,L0]
  unfold zR
  simp only [ifb,L0]
  rw [yx (by rw [L9]; omega),L0]
  have ht:((false||((0:Int) !=0))||((elm (polE s)).zF !=6))=false:=rfl
  rw [ht,Gz hn l k pols _ hs.2 O0 (by rw [L8,L9]; omega),Lq]; rfl
theorem BU {n M:Nat} {c:Bs} {l:List zb} {f:Bool} (hn:M+100≤n) (hM:M≤1000000) (hc:c.length≤M):∃ps f',ve n c ⟨l,f⟩=some (ps,⟨l,f'⟩)∧ps.length≤M∧∀s∈ps,s.length≤252:=by
 unfold ve uY
 rw [gd O0 O0]
 simp only [L0]
 have hb:=uR c hc
 obtain⟨ps,f',ef',h1,h2,h3⟩:=DK (n:=n) hn hM l n [] f (tList c).1 ((tList c).2 !=0) hb (by have:=hb.1; omega) (by simpa using hb.1) O2
 rw [h1]
 simp only [L0,ifb]
 exact⟨ps,_,rfl,h2,h3⟩
theorem Bt {n:Nat} {l:List zb} {pols:List Bs} (hn:2000000≤n) (hs:pols.all (fun s=>(xG s).isSome)=true) (hl:(wraps (pols.map polE)).length≤131072):ve n (wraps (pols.map polE)) ⟨l,false⟩=some (pols,⟨l,false⟩):=by
 unfold ve uY
 have hp:∀p∈pols.map polE,POk p:=by
  intro p hp; obtain⟨s,h1,rfl⟩:=Lh.1 hp; exact PN (Lg.1 hs s h1)
 have hb:=uR (wraps (pols.map polE)) (M:=131072) hl
 rw [wV hp]at hb
 have hlen:=hb.1
 rw [Lb,Lb]at hlen
 rw [gd O0 O0,wV hp]
 simp only [L0]
 rw [show((0:Int) !=0)=false from rfl,Gz O0 l n pols [] hs O0 O3]
 rfl
theorem rF {n M:Nat} {t:Int} {l:List zb} {i:Nat} {bad:Bool} (hn:20≤n) (hM:M≤1000000) (hb:Bd M l) (hi:i≤l.length):∃x j bad',xO n t ⟨l,(i:Int),bad⟩=some (x,⟨l,((j:Nat):Int),bad'⟩)∧j≤l.length:=by
 obtain⟨e,j,bad',h1,h2,h3⟩:=oX (n:=n) (t:=t) (bad:=bad) hM hb hi
 unfold xO
 obtain⟨x,hx⟩:=lN (n:=n) e.zd hn
 rw [h1,L0]
 simp only []
 rw [hx,L0,ifb,L0]
 exact⟨_,j,_,rfl,h2⟩
theorem zdm {n t:Nat} {x:Int} {l:List zb} {i:Nat} (hn:20≤n) (hl:l.length≤1000000000) (hx:sm x=true) (h:l[i]? =some (elm (Bu t x))):xO n (t:Int) ⟨l,(i:Int),false⟩=some (x,⟨l,((i+1:Nat):Int),false⟩):=by
 obtain⟨v,rfl,hv⟩:=Pn hx
 unfold xO
 rw [tM (t:=(t:Int)) hl h rfl,L0]
 have hc:(elm (Bu t (v:Int))).zd= [o8 v]:=by simp [elm,Bu]
 simp only []
 rw [hc,fR hn hv,L0,ifb,L0]; rfl
theorem GB {n:Nat} (hn:1000≤n) (pols:List Bs) (hs:pols.all (fun s=>(xG s).isSome)=true) (hp:pols.length≤1000000):∀(k i:Nat) (ps:List Bs),i≤pols.length→pols.length-i<k→ps.length≤i →
  yo n ((pols.map polE).map elm,0) k ps (i:Int) false=some (ps++pols.drop i,false)
 |0,_,_,_,h,_=>O0
 | k+1,i,ps,hi,hk,h1=>by
  rw [yo]
  have hlen:((pols.map polE).map elm).length=pols.length:=by rw [Lb,Lb]
  simp only []
  rw [hlen]
  by_cases hc:i<pols.length
  ·have hx:=Lg.1 hs pols[i] (Ll hc)
   obtain⟨a,ha⟩:=Option.isSome_iff_exists.1 hx
   have hl:=Jq hx
   have hi2:zM ((pols.map polE).map elm) (i:Int)=some (elm (polE pols[i])):=by rw [zQ (by rw [hlen]; omega)]; simp
   have hcont:(elm (polE pols[i])).zd=qA a:=by simp [elm,polE,ha]
   rw [L6 O4,hi2,L0,hcont,Zv ha O0 O0,L0,ifb,L0,yx (by rw [L9]; omega),L0,w1 O0]
   have hb:(false||((0:Int) !=0))=false:=rfl
   simp only [hb]
   rw [GB hn pols hs hp k (i+1) _ O0 O0 (by rw [L8,L9]; omega),Lq]
   congr 2
   rw [Lc hc]; rfl
  ·rw [L4 O4,Ld O0,Lk]
theorem Bp {n:Nat} {l:List zb} {i:Int} {e:zb} {pols:List Bs} (hn:2000000≤n) (hs:pols.all (fun s=>(xG s).isSome)=true) (hl:(wraps (pols.map polE)).length≤131072) (he:e.zd=wraps (pols.map polE)):yB n e ⟨l,i,false⟩=some (pols,⟨l,i,false⟩):=by
 unfold yB
 have hp:∀p∈pols.map polE,POk p:=by
  intro p hp; obtain⟨s,h1,rfl⟩:=Lh.1 hp; exact PN (Lg.1 hs s h1)
 have hb:=uR (wraps (pols.map polE)) (M:=131072) hl
 rw [wV hp]at hb
 have hlen:=hb.1
 rw [Lb,Lb]at hlen
 rw [he,YQ O0 O0,wV hp,L0,ifb,L0]
 have hb:(false||((0:Int) !=0))=false:=rfl
 simp only [hb]
 have:=GB (n:=n) O0 pols hs O0 n 0 [] O0 O0 O2
 rw [show((0:Nat):Int)=0 from rfl,Li,Lj]at this
 rw [this]; rfl
theorem nl {n:Nat} (a:List Bs) (ha:a.length≤1000000):∀(k i:Nat),i≤a.length→a.length-i<k→ui n a a k (i:Int)=some (.nxt ())
 |0,_,_,h=>O0
 | k+1,i,hi,hk=>by
  rw [ui]
  by_cases hc:i<a.length
  ·rw [L6 O4,zQ hc]
   simp only [L0]
   rw [L4 O2,w1 O0]
   exact nl a ha k (i+1) O0 O0
  ·rw [L4 O4]
theorem oJ {n:Nat} {x:Int} (h:0≤x∧x≤8):∃s,dq n x=some s∧s.length≤100:=by
 have:x=0∨x=1∨x=2∨x=3∨x=4∨x=5∨x=6∨x=7∨x=8:=O0
 rcases this with h|h|h|h|h|h|h|h|h<;>subst h<;>exact⟨_,rfl,O1⟩
theorem sZ {n:Nat}:∀(j k:Nat) (acc:List Bs) (L:List Int) (At:Int),j<k→acc.length+j≤100→(∀s∈acc,s.length≤100)→wu ⟨L,At⟩ →
  ∃ps L' At',wM n k acc (j:Int) L At=some (ps,L',At')∧ps.length≤acc.length+j∧(∀s∈ps,s.length≤100)∧wu ⟨L',At'⟩
 |_,0,_,_,_,h,_,_,_=>O0
 |0,k+1,acc,L,At,_,_,h,hd=>⟨acc,L,At,rfl,O0,h,hd⟩
 | j+1,k+1,acc,L,At,hk,ha,h,hd=>by
  obtain⟨r,d',h1,h2,h3,h4⟩:=wP (n:=n) (k:=5) O1 O1 hd
  have hx:∃x,zM ([0,1,2,3,8]:List Int) r=some x∧0≤x∧x≤8:=by
   have:r=0∨r=1∨r=2∨r=3∨r=4:=O0
   rcases this with h|h|h|h|h<;>subst h<;>exact⟨_,rfl,O1⟩
  obtain⟨x,hx,hx1⟩:=hx
  obtain⟨s,hs,hsl⟩:=oJ (n:=n) hx1
  rw [wM,L6 O4,h1,L0,hx,L0,hs,L0,yx (by rw [L9]; omega),L0,z6 O0,show((j+1:Nat):Int)-1=(j:Int)by omega]
  obtain ⟨ps,L',At',e1,e2,e3,e4⟩:=sZ j k (acc ++ [s]) d'.f_L d'.xk O0 (by rw [L8,L9]; omega) (by
   intro y hy; rcases Lo.1 hy with hy|hy
   ·exact h y hy
   ·simp at hy; subst hy; exact hsl) h4
  exact⟨ps,L',At',e1,by rw [L8,L9]at e2; omega,e3,e4⟩
def Wf:Nat→Nat×Bs→Prop
 |0,p=>p.1/32%2=0
 |k+1,p=>p.1/32%2=0∨∃l:List (Nat×Bs),(∀q∈l,POk q∧Wf k q)∧p.2=wraps l
theorem Wf.leaf {t:Nat} {c:Bs} {k:Nat} (h:t/32%2=0):Wf k (t,c):=by
 cases k with
 |zero=>exact h
 |succ k=>exact .inl h
theorem Wf.node {t:Nat} {k:Nat} {l:List (Nat×Bs)} (h:∀q∈l,POk q∧Wf k q):Wf (k+1) (t,wraps l):= .inr ⟨l,h,rfl⟩
theorem Wf.mono {k j:Nat} (h:k≤j):∀ {p:Nat×Bs},Wf k p→Wf j p:=by
 induction j generalizing k with
 |zero=>intro p hp; rw [show k=0 by omega]at hp; exact hp
 | succ j ih=>
  intro p hp
  cases k with
  |zero=>exact .inl hp
  | succ k=>
   rcases hp with hp|⟨l,h1,h2⟩
   ·exact .inl hp
   ·exact .inr ⟨l,fun q hq=>⟨(h1 q hq).1,ih O0 (h1 q hq).2⟩,h2⟩
theorem ou {l:List (List Att)} (h:okN l):Wf 4 (xd l):=by
 refine Wf.node (t:=48) (k:=3) (l:=l.map ph) fun q hq=> ?_
 obtain⟨r,hr,rfl⟩:=Lh.1 hq
 have ho:=QR (h.2 r hr)
 refine⟨nM (h.2 r hr),Wf.node (t:=49) (k:=2) (l:=(gA r).map JZ) fun q hq=> ?_⟩
 obtain⟨a,ha,rfl⟩:=Lh.1 hq
 have hok:=ho.2.2.1 a ha
 refine⟨mR hok,Wf.node (t:=48) (k:=1) (l:=Jt a) fun q hq=>⟨(Jo hok).1 q hq, ?_⟩⟩
 simp only [Jt,Lp,List.not_mem_nil,or_false]at hq
 rcases hq with rfl|rfl
 ·exact Wf.leaf (t:=6) O1
 ·refine Wf.leaf (t:=a.zG.toNat) ?_
  rcases JB hok.2.2.1 with e|e|e<;>rw [e]<;>decide
theorem zcl {k:zB} (h:okK k=true):Wf 2 (gT k):=by
 refine Wf.node (t:=48) (k:=1) (l:=Wq k) fun q hq=>⟨(WQ k h).1 q hq, ?_⟩
 simp only [Wq,Lp,List.not_mem_nil,or_false]at hq
 rcases hq with rfl|rfl
 ·refine Wf.node (t:=48) (k:=0) (l:= [(6,Y4)]) fun q hq=> ?_
  rw [Ln]at hq; subst hq
  exact⟨⟨by dsimp only; decide,by dsimp only; decide,by dsimp only; decide⟩,by show(6:Nat)/32%2=0; decide⟩
 ·exact Wf.leaf (t:=3) O1
theorem zci {a:Anc} (h:Uv a):Wf 5 (ancE a):=by
 refine Wf.node (t:=48) (k:=4) (l:=UB a) fun q hq=>⟨(Xu h).1 q hq, ?_⟩
 simp only [UB,Lp,List.not_mem_nil,or_false]at hq
 rcases hq with rfl|rfl
 ·exact ou h.1
 ·exact(zcl h.2.2).mono O0
end Go.Abs
end
