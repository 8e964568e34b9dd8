/- The typed Lean form of WireBytes gives true for every string. No condition. -/
import Derived.Test.YtbggpcnbbhjiaaaGreatDoorLaw4
set_option linter.unusedVariables false
set_option linter.unusedSimpArgs false
set_option linter.unnecessarySimpa false
section
set_option maxRecDepth 100000
namespace Go.Abs
open Go Go.Proofs IntKind
def zcI (n M:Nat) (D:Bs→Bs×Int):Prop:=(∀c:Bs,c.length≤M→(D c).1.length≤M+252)∧∀s l,y4 s=some l→D (qg l)=(s,0)
def oiP (n:Nat) (c:Bs):Bs×Int:=(yq n c).getD ([],0)
def oiR (n:Nat) (c:Bs):Bs×Int:=(zx n c).getD ([],0)
theorem DL {n M:Nat} (hM:M≤900000) (hn:200000000≤n):(∀c:Bs,c.length≤M→yq n c=some (oiP n c))∧zcI n M (oiP n):=by
 refine⟨fun c hc=> ?_,fun c hc=> ?_,fun s l h=> ?_⟩
 ·obtain⟨s,e,h,_⟩:=Ju (n:=n) (b:=c) O0 O0
  unfold oiP; rw [h]; rfl
 ·obtain⟨s,e,h,h2⟩:=Ju (n:=n) (b:=c) O0 O0
  unfold oiP; rw [h]; show s.length≤_; omega
 ·unfold oiP; rw [YA h O0]; rfl
theorem W7 {n:Nat} {b:Bs} (hb:b.length≤2000000) (hn:42*b.length+40≤n):∃s e,zx n b=some (s,e)∧s.length≤252:=by
 unfold zx
 obtain⟨c,hc,ho,hr⟩:=JZ (n:=n) O0 b O0 n 0 0 0 [] false O0 O0 O0 O0 O2
 rw [show((0:Nat):Int)=0 from rfl]at hc
 rw [hc]
 cases c with
 |ret r=>exact⟨r.1,r.2,rfl,by rw [hr r rfl]; simp⟩
 | nxt x=>
  obtain⟨o,m⟩:=x
  have hl:=ho o m rfl
  simp only [z8]
  rw [gU O0 O0]
  simp only [L0,ifb]
  by_cases h:(((b.length:Int)==0)||(m|| !(y4 o).isSome))=true
  ·rw [L4 h]; exact⟨_,_,rfl,O2⟩
  ·rw [L3 h]
   rw [Bool.not_eq_true,Bool.or_eq_false_iff,Bool.or_eq_false_iff]at h
   exact⟨_,_,rfl,Uu (by simpa using h.2.2)⟩
theorem De {n M:Nat} (hM:M≤900000) (hn:200000000≤n):(∀c:Bs,c.length≤M→zx n c=some (oiR n c))∧zcI n M (oiR n):=by
 refine⟨fun c hc=> ?_,fun c hc=> ?_,fun s l h=> ?_⟩
 ·obtain⟨s,e,h,_⟩:=W7 (n:=n) (b:=c) O0 O0
  unfold oiR; rw [h]; rfl
 ·obtain⟨s,e,h,h2⟩:=W7 (n:=n) (b:=c) O0 O0
  unfold oiR; rw [h]; show s.length≤_; omega
 ·have:=Uu (s:=s) (by rw [h]; rfl)
  unfold oiR; rw [pS h O0 O0]; rfl
def BdW (M:Nat) (l:List El):Prop:=∀e∈l,e.jL.length≤M
theorem Gc (b:Bs) {M:Nat} (h:b.length≤M):BdW M (tList b).1:=by
 obtain⟨h1,h2⟩:=Vz b
 intro e he
 have:=cO e he; omega
theorem GG {n M:Nat} {f:Bool} {l:List El} (h:BdW M l):∃e r f',yz n ⟨l,f⟩=some (e,⟨r,f'⟩)∧e.jL.length≤M∧BdW M r:=by
 match l,h with
 | [],h=>exact⟨_,_,_,B8,O2,h⟩
 |e::l,h=>exact⟨_,_,_,XR,h e O2,fun x hx=>h x (by simp [hx])⟩
theorem ZP {n:Nat} {e:Int} {m:zl}:zL n e m=some ⟨m.f_l,m.z7||e !=0⟩:=by
 unfold zL; rw [ifb]; rfl
theorem nO (a b c:Bool):(if a=true then some true else(if b=true then some true else some c))=some (a||(b||c)):=by cases a<;>cases b<;>rfl
theorem Qk {n M:Nat} (hM:M≤900000) (hn:200000000≤n) (l0:List El):∀(k:Nat) (acc:List Anc) (f:Bool) (il:List El) (fi:Bool),(∀e∈il,e.zc.length≤M)→il.length<k→acc.length+il.length≤1000000→BdL 252 acc →
  ∃acc' f' fi',xn n k acc l0 f il fi=some (acc',l0,f',[],fi')∧BdL 252 acc'
 |0,_,_,_,_,_,h,_,_=>O0
 | k+1,acc,f,il,fi,hi,hk,hl,ha=>by
  rw [xn]
  match il,hi,hk,hl with
  | [],_,_,_=>rw [L3 O2]; exact⟨_,_,_,rfl,ha⟩
  | x::il,hi,hk,hl=>
   have hx:=hi x O2
   simp only [L7]at hk hl
   obtain⟨hD,hO,hB⟩:=DL (n:=n) hM hn
   have hw:=Gc x.zc hx
   obtain⟨e1,r1,g1,q1,w1',v1⟩:=GG (n:=n) (f:=((tList x.zc).2 !=0)||(x.zA !=48)) hw
   obtain⟨e2,r2,g2,q2,w2',v2⟩:=GG (n:=n) (f:=g1) v1
   obtain⟨ky,ke,hky⟩:=sZ hD w2' O0 O0
   rw [L4 (by rw [L2,L7]; omega),XR,L0]
   simp only []
   rw [eF O0 O0,L0,q1,L0,mQ hD hO O0 O0 w1',L0,ZP,L0,q2,L0,hky,L0,ZP,L0,nO,L0,yU (by rw [L6]; omega),L0]
   simp only []
   refine Qk hM hn l0 k _ _ il fi (fun e he=>hi e (by simp [he])) O0 (by rw [L5,L6]; omega) ?_
   intro a haa
   rcases Ll.1 haa with h|h
   ·exact ha a h
   ·rw [Lk]at h; subst h; exact Xf
theorem Pa (a:Anc):(XJ a).map elm= [elm (y8 a.zo.zg),elm (kR a.zK)]:=rfl
theorem U4 {n M:Nat} (hn:200000000≤n) (l0:List El):∀(k:Nat) (l acc:List Anc),(∀a∈l,Zf a)→l.length<k→acc.length+l.length≤1000000 →
  xn n k acc l0 false ((l.map ancE).map elm) false=some (acc++l.map dZ,l0,false,[],false)
 |0,_,_,_,h,_=>O0
 |k+1,[],acc,_,_,_=>by rw [xn,List.map_nil,List.map_nil,L3 O2]; simp
 | k+1,a::l,acc,ho,hk,hl=>by
  rw [xn]
  simp only [L7]at hk hl
  have ha:=ho a O2
  obtain⟨hD,hO,hB⟩:=DL (n:=n) (M:=900000) O0 hn
  obtain⟨p1,p2⟩:=pL ha
  have hc:(elm (ancE a)).zc=wraps (XJ a):=rfl
  have hw1:(tWrap (y8 a.zo.zg).1 (y8 a.zo.zg).2).1.length≤900000:=by
   have:=dm ha.1; have:=zU (y8 a.zo.zg).1 (y8 a.zo.zg).2; omega
  have hr1:(elm (y8 a.zo.zg)).jL=(tWrap (y8 a.zo.zg).1 (y8 a.zo.zg).2).1:=rfl
  have hr2:(elm (kR a.zK)).jL=(tWrap (kR a.zK).1 (kR a.zK).2).1:=rfl
  simp only [Lb]
  rw [L4 (by rw [L2,L7]; omega),XR,L0]
  simp only []
  rw [eF (by rw [hc]; omega) (by rw [hc]; omega),L0,hc,yV p1,Pa]
  simp only []
  rw [XR,L0]
  simp only []
  rw [hr1,mQ hD hO O0 O0 hw1,L0,YP hB ha.1,ZP,L0,XR,L0]
  simp only []
  rw [hr2,eN hD hB O0 O0 ha.2.2,L0,ZP,L0,nO,L0,yU (by rw [L6]; omega),L0]
  have hf:((false||((0:Int) !=0))||((0:Int) !=0))=false:=rfl
  have hg:((((0:Int) !=0)||((elm (ancE a)).zA !=48))||decide ((List.length ([]:List El):Int)>0))=false:=rfl
  simp only [hf,hg,Bool.false_or]
  have:=U4 (M:=M) hn l0 k l (acc ++ [dZ a]) (fun x hx=>ho x (by simp [hx])) O0 (by rw [L5,L6]; omega)
  rw [Ln,List.singleton_append]at this
  exact this
theorem Po {n:Nat} (m:zl) (hm:m.f_l.length≤1000000) (hr:WG m.f_l≤100000000):∀(k i:Nat) (acc:Bs),i≤m.f_l.length→m.f_l.length-i<k→acc.length+WG (m.f_l.drop i)≤100000000 →
  vm n m k acc (i:Int)=some (acc++((m.f_l.drop i).map fun e=>e.jL).flatten)
 |0,i,_,_,h,_=>O0
 | k+1,i,acc,hi,hk,ha=>by
  rw [vm]
  by_cases hc:i<m.f_l.length
  ·have hd:=ol hc
   rw [L4 O4,zE hc,L0,yo O0,L0,w1 O0,Po m hm hr k (i+1) _ O0 O0 (by rw [L5]; omega),L9 hc,Lb,List.flatten_cons,Ln]
  ·rw [L3 O4,La O0]
   simp
theorem B7:∀l:List El,((l.map fun e=>e.jL).flatten).length=WG l
 | []=>rfl
 |e::l=>by rw [Lb,List.flatten_cons,L5,B7 l]; simp [WG]
theorem zcQ {n M:Nat} {b:Bs} (hb:b.length≤M) (hM:M≤900000) (hn:200000000≤n) (f:Bool):∃l r,qB n ⟨(tList b).1,f⟩=some (l,r)∧BdL 252 l∧(∀v:List Anc,(∀a∈v,Zf a)→b=wraps (v.map ancE)→f=false→l=v.map dZ∧r.z7=false):=by
 unfold qB
 have hT:=wg b hb
 have hl:=hT.1
 obtain⟨hr,_⟩:=Vz b
 have e1:=Po (n:=n) ⟨(tList b).1,f⟩ (by show(tList b).1.length≤_; omega) (by show WG (tList b).1≤_; omega) n 0 [] O0 (by show(tList b).1.length-0<n; omega) (by simp only [Lf,Lj]; omega)
 rw [show((0:Nat):Int)=0 from rfl,Lf,Lg]at e1
 rw [e1,L0]
 have hfl:=B7 (tList b).1
 generalize hc:(List.map (fun e=>e.jL) (tList b).1).flatten=c at hfl
 unfold wU v6
 rw [kW O0 O0,L0,L0]
 simp only []
 have hC:=wg c (M:=M) O0
 have hCl:=hC.1
 obtain⟨acc',f',fi',h1,h2⟩:=Qk hM hn [] n [] f (tList c).1 ((tList c).2 !=0) hC.2 O0 (by simp only [Lj]; omega) (by intro a ha; simp at ha)
 rw [h1,L0,ifb,L0,L0]
 refine⟨_,_,rfl,h2,fun v hv hbv hf=> ?_⟩
 have hp:∀p∈v.map ancE,POk p:=by
  intro p hp; obtain⟨a,ha,rfl⟩:=Le.1 hp; exact Uh (hv a ha)
 have ht:tList b=((v.map ancE).map elm,0):=by rw [hbv,yV hp]
 have hcb:c=b:=by
  rw [←hc,ht,hbv]
  unfold wraps; rw [List.map_map]; rfl
 have hvl:v.length≤M:=by have:=hl; rw [ht,L8,L8]at this; exact this
 have hback:=U4 (M:=M) (n:=n) hn [] n v [] hv O0 (by simp only [Lj]; omega)
 rw [hcb,ht,hf]at h1
 have hz:((0:Int) !=0)=false:=rfl
 simp only [hz]at h1
 rw [hback,Lg]at h1
 injection h1 with h1; injection h1 with h1 h1'; injection h1' with _ h1'; injection h1' with h3 h4; injection h4 with _ h4
 subst h1 h3 h4
 exact⟨rfl,rfl⟩
theorem Gj {v:List Anc} {b:Bs} (h:YD v=(b,0)):va b=(⟨48,wraps (v.map ancE),b⟩,0):=by
 obtain⟨g1,g2,g3,g4⟩:=VZ h
 have:=pZ (t:=48) (c:=wraps (v.map ancE)) O0 O0 g3
 rw [g4,this]; rfl
theorem zb8 {n:Nat} {b:Bs} {x:Int} (hb:b.length≤900000) (hn:200000000≤n) (hx:bW n b=some x):
  (x≠0→uZ n b=some ([],x))∧(x=0→(va b).2=0→∃r,uZ n b=some r∧(∀v,YD v=(b,0)→r=(v.map dZ,0))∧(r=([],7)∨YD r.1=(b,0)∧r.2=0)):=by
 unfold uZ jQ
 rw [hx,L0]
 refine⟨fun h=>by rw [L4 (O9 h)]; rfl,fun h h0=> ?_⟩
 subst h
 rw [L3 O2,Ve O0 O0,L0,L3 (by rw [h0]; simp)]
 have hbd:=YW b
 rw [eF O0 O0,L0]
 obtain⟨v',r,h1,h2,h3⟩:=zcQ (n:=n) (M:=b.length) hbd hb hn (((tList (va b).1.zc).2 !=0)||((va b).1.zA !=48))
 rw [h1,L0]
 have hback:∀v,YD v=(b,0)→v'=v.map dZ∧r.z7=false:=by
  intro v hv
  obtain⟨g1,g2,g3,g4⟩:=VZ hv
  have ho:=Gj hv
  have hp:∀p∈v.map ancE,POk p:=by
   intro p hp; obtain⟨a,ha,rfl⟩:=Le.1 hp; exact Uh (g2 a ha)
  refine h3 v g2 (by rw [ho]) ?_
  rw [ho]
  simp only []
  rw [yV hp]; rfl
 simp only []
 by_cases hf:r.z7=true
 ·rw [L4 hf]
  exact⟨_,rfl,(fun v hv=>by have:=(hback v hv).2; rw [hf]at this; exact absurd this O2), .inl rfl⟩
 ·rw [L3 hf,zbv h2 O0 O0,L0,ifb,L0]
  by_cases hq:YD v'=(b,0)
  ·rw [hq,L3 O2]
   exact⟨_,rfl,(fun v hv=>by rw [←(hback v hv).1]), .inr ⟨hq,rfl⟩⟩
  ·have:(((YD v').2 !=0)|| !((YD v').1==b))=true:=by
    rw [Bool.or_eq_true,bne_iff_ne,Bool.not_eq_true',beq_eq_false_iff_ne]
    by_cases h7:(YD v').2=0
    ·exact .inr (fun h8=>hq (Prod.ext h8 h7))
    ·exact .inl h7
   rw [L4 this]
   exact⟨_,rfl,(fun v hv=>by have:=(hback v hv).1; subst this; exact absurd (GL hv) hq), .inl rfl⟩
theorem GC {n M:Nat} {t:Int} {l:List El} {i:Nat} {bad:Bool} (hl:l.length≤1000000) (hb:BdW M l) (hi:i≤l.length):∃e j bad',ya n t ⟨l,(i:Int),bad⟩=some (e,⟨l,((j:Nat):Int),bad'⟩)∧j≤l.length∧e.jL.length≤M:=by
 unfold ya
 by_cases h:bad=true∨l.length≤i∨∃e,l[i]? =some e∧e.zA≠t
 ·rw [lQ h,L0]
  simp only [ifb,L0]
  exact⟨_,i,_,rfl,hi,O2⟩
 ·have h1:bad=false:=by cases bad; rfl; exact absurd (.inl rfl) h
  subst h1
  have hi2:i<l.length:=by
   apply Decidable.byContradiction; intro hc; exact h (.inr (.inl O0))
  have hx:l[i]? =some l[i]:=List.getElem?_eq_getElem hi2
  have ht:l[i].zA=t:=by
   apply Decidable.byContradiction; intro hc; exact h (.inr (.inr ⟨_,hx,hc⟩))
  rw [zbo O0 hx ht,L0]
  simp only [ifb,L0]
  exact⟨_,i+1,_,rfl,O0,hb _ (Li hi2)⟩
theorem tp (a b c d:Bool):(if a=true then some true else(if b=true then some true else(if c=true then some true else some d)))=some (a||(b||(c||d))):=by cases a<;>cases b<;>cases c<;>rfl
theorem Qj {n M:Nat} (hM:M≤900000) (hn:200000000≤n) (a:List El) (hb:Bd M a):∀(k i:Nat) (acc:List Anc) (bad:Bool),i≤a.length→a.length-i<k→acc.length≤i→BdL 252 acc →
  ∃acc' bad',ym n a k acc (i:Int) bad=some (acc',bad')∧BdL 252 acc'
 |0,_,_,_,_,h,_,_=>O0
 | k+1,i,acc,bad,hi,hk,hl,ha=>by
  have hal:=hb.1
  rw [ym]
  by_cases hc:i<a.length
  ·have hx:=hb.2 _ (Li hc)
   obtain⟨hD,hO,hB⟩:=De (n:=n) hM hn
   have hw:=Gc a[i].zc hx
   have hT:=wg a[i].zc hx
   have hTl:=hT.1
   obtain⟨e1,j1,b1,q1,k1,w1'⟩:=GC (n:=n) (t:=48) (i:=0) (bad:=(a[i].zA !=48)||((tList a[i].zc).2 !=0)) O0 hw O0
   rw [show((0:Nat):Int)=0 from rfl]at q1
   obtain⟨e2,j2,b2,q2,k2,w2'⟩:=GC (n:=n) (t:=48) (bad:=b1) O0 hw k1
   obtain⟨ky,ke,hky⟩:=sM hD w2' O0 O0
   rw [L4 O4,zE hc,L0,K9 O0 O0,L0,q1,L0]
   simp only []
   rw [rO hD hO O0 O0 w1',L0,q2,L0]
   simp only []
   rw [hky,L0,tp,L0,yU (by rw [L6]; omega),L0,w1 O0]
   refine Qj hM hn a hb k (i+1) _ _ O0 O0 (by rw [L5,L6]; omega) ?_
   intro y hy
   rcases Ll.1 hy with h|h
   ·exact ha y h
   ·rw [Lk]at h; subst h; exact Xf
  ·rw [L3 O4]
   exact⟨_,_,rfl,ha⟩
theorem Jc {n:Nat} (hn:200000000≤n) (v:List Anc) (hv:∀a∈v,Zf a) (hvl:v.length≤1000000):∀(k i:Nat) (acc:List Anc),i≤v.length→v.length-i<k→acc.length≤i →
  ym n ((v.map ancE).map elm) k acc (i:Int) false=some (acc++(v.drop i).map dZ,false)
 |0,_,_,_,h,_=>O0
 | k + 1,i,acc,hi,hk,hl=>by
  rw [ym]
  have hlen:((v.map ancE).map elm).length=v.length:=by rw [L8,L8]
  rw [hlen]
  by_cases hc:i<v.length
  ·have ha:=hv _ (Li hc)
   have hx:zV ((v.map ancE).map elm) (i:Int)=some (elm (ancE v[i])):=by rw [zE (by rw [hlen]; omega)]; simp
   obtain⟨hD,hO,hB⟩:=De (n:=n) (M:=900000) O0 hn
   obtain⟨p1,p2⟩:=pL ha
   have hcc:(elm (ancE v[i])).zc=wraps (XJ v[i]):=rfl
   have hw1:(tWrap (y8 v[i].zo.zg).1 (y8 v[i].zo.zg).2).1.length≤900000:=by
    have:=dm ha.1; have:=zU (y8 v[i].zo.zg).1 (y8 v[i].zo.zg).2; omega
   have hr1:(elm (y8 v[i].zo.zg)).jL=(tWrap (y8 v[i].zo.zg).1 (y8 v[i].zo.zg).2).1:=rfl
   have hr2:(elm (kR v[i].zK)).jL=(tWrap (kR v[i].zK).1 (kR v[i].zK).2).1:=rfl
   have hfl:((elm (ancE v[i])).zA !=48||((0:Int) !=0))=false:=rfl
   have q1:=P0 (n:=n) (t:=48) (l:= [elm (y8 v[i].zo.zg),elm (kR v[i].zK)]) (i:=0) O2 rfl rfl
   have q2:=P0 (n:=n) (t:=48) (l:= [elm (y8 v[i].zo.zg),elm (kR v[i].zK)]) (i:=0+1) O2 rfl rfl
   rw [show((0:Nat):Int)=0 from rfl]at q1
   rw [L4 O4,hx,L0,K9 (by rw [hcc]; omega) (by rw [hcc]; omega),L0,hcc,yV p1,Pa]
   simp only [hfl]
   rw [q1,L0]
   simp only []
   rw [hr1,rO hD hO O0 O0 hw1,L0,YP hB ha.1,q2,L0]
   simp only []
   rw [hr2,hU hD hB O0 O0 ha.2.2,L0,tp,L0,yU (by rw [L6]; omega),L0,w1 O0]
   have hf:(false||(false||(((0:Int) !=0)||((0:Int) !=0))))=false:=rfl
   simp only [hf]
   have:=Jc hn v hv hvl k (i+1) (acc ++ [dZ v[i]]) O0 O0 (by rw [L5,L6]; omega)
   rw [Ln,List.singleton_append]at this
   rw [L9 hc,Lb]
   exact this
  ·rw [L3 O4,La O0]
   simp
theorem zdI {n:Nat} {b:Bs} {x:Int} (hb:b.length≤900000) (hn:200000000≤n) (hx:uL n b=some x):
  (x≠0→wn n b=some ([],x))∧(x=0→(va b).2=0→∃r,wn n b=some r∧(∀v,YD v=(b,0)→r=(v.map dZ,0))∧(r=([],7)∨YD r.1=(b,0)∧r.2=0)):=by
 unfold wn xg
 rw [hx,L0]
 refine⟨fun h=>by rw [L4 (O9 h),L0,L4 (O9 h)],fun h h0=> ?_⟩
 subst h
 rw [L3 O2,W0 O0 O0,L0,L0,L3 (by rw [h0]; simp)]
 have hbd:=YW b
 simp only []
 rw [K9 O0 O0,L0]
 have hT:=wg (va b).1.zc hbd
 have hTl:=hT.1
 unfold yH
 simp only []
 obtain⟨v',bad',h1,h2⟩:=Qj (n:=n) (M:=b.length) hb hn (tList (va b).1.zc).1 hT n 0 [] ((va b).1.zA !=48||((tList (va b).1.zc).2 !=0)) O0 O0 O2 (by intro a ha; simp at ha)
 rw [show((0:Nat):Int)=0 from rfl]at h1
 rw [h1,L0,L0]
 simp only []
 have hback:∀v,YD v=(b,0)→v'=v.map dZ∧bad'=false:=by
  intro v hv
  obtain⟨g1,g2,g3,g4⟩:=VZ hv
  have ho:=Gj hv
  have hp:∀p∈v.map ancE,POk p:=by
   intro p hp; obtain⟨a,ha,rfl⟩:=Le.1 hp; exact Uh (g2 a ha)
  have hr:=Jc (n:=n) hn v g2 O0 n 0 [] O0 O0 O2
  rw [show((0:Nat):Int)=0 from rfl,Lf,Lg]at hr
  rw [ho]at h1
  simp only []at h1
  rw [yV hp]at h1
  have hf:((48:Int) !=48||((0:Int) !=0))=false:=rfl
  simp only [hf]at h1
  rw [hr]at h1
  injection h1 with h1; injection h1 with h1 h1'
  exact⟨h1.symm,h1'.symm⟩
 rw [zba h2 O0 O0,L0,nO,L0]
 by_cases hf:bad'=true
 ·rw [hf,Bool.true_or,L4 rfl]
  exact⟨_,rfl,(fun v hv=>by have:=(hback v hv).2; rw [hf]at this; exact absurd this O2), .inl rfl⟩
 ·rw [Bool.not_eq_true]at hf
  rw [hf,Bool.false_or]
  by_cases hq:YD v'=(b,0)
  ·rw [hq,L3 O2]
   exact⟨_,rfl,(fun v hv=>by rw [←(hback v hv).1]), .inr ⟨hq,rfl⟩⟩
  ·have:(((YD v').2 !=0)|| !((YD v').1==b))=true:=by
    rw [Bool.or_eq_true,bne_iff_ne,Bool.not_eq_true',beq_eq_false_iff_ne]
    by_cases h7:(YD v').2=0
    ·exact .inr (fun h8=>hq (Prod.ext h8 h7))
    ·exact .inl h7
   rw [L4 this]
   exact⟨_,rfl,(fun v hv=>by have:=(hback v hv).1; subst this; exact absurd (GL hv) hq), .inl rfl⟩
theorem tC {n:Nat} {b:Bs} (hb:b.length≤900000) (hn:200000000≤n):∃r,uZ n b=some r∧wn n b=some r∧r.1.length≤64∧∀a∈r.1,Zf a:=by
 obtain⟨x,h1,h2,h3⟩:=BK (n:=n) (b:=b) O0 O0
 obtain⟨p1,p2⟩:=zb8 hb hn h1
 obtain⟨r1,r2⟩:=zdI hb hn h2
 by_cases hx:x=0
 ·obtain ⟨p,e1,e2,e3⟩:=p2 hx (h3 hx)
  obtain⟨r,q1,q2,q3⟩:=r2 hx (h3 hx)
  rcases e3 with e3|⟨e3,e4⟩
  ·rcases q3 with q3|⟨q3,q4⟩
   ·exact⟨p,e1,by rw [q1,q3,e3],by rw [e3]; exact Nat.zero_le _,by rw [e3]; intro a ha; simp at ha⟩
   ·have:=e2 _ q3; rw [e3]at this; cases(Prod.mk.inj this).2
  ·have hq:=q2 _ e3
   have hp:=e2 _ e3
   obtain⟨g1,g2,g3,g4⟩:=VZ e3
   exact⟨p,e1,by rw [q1,hq,←hp],g1,g2⟩
 ·exact⟨_,p1 hx,r1 hx,Nat.zero_le _,by intro a ha; simp at ha⟩
theorem KN {n:Nat} (x:List Att) (a:Att) (hx:x.length≤1000000):∀(k i:Nat) (f:Bool),i≤x.length→x.length-i<k→(f=true∨a∈x.drop i)→wK n x a k f (i:Int)=some true
 |0,i,_,_,h,_=>O0
 | k + 1,i,f,hi,hk,hf=>by
  rw [wK]
  by_cases hc:i<x.length
  ·rw [L4 O4,zE hc,L0,ifb,L0,w1 O0]
   refine KN x a hx k (i+1) _ O0 O0 ?_
   rcases hf with hf|hf
   ·left; rw [hf]; rfl
   ·rw [L9 hc]at hf
    rcases Lm.1 hf with hf|hf
    ·left; rw [←hf]; simp
    ·exact .inr hf
  ·rw [L3 O4]
   rcases hf with hf|hf
   ·rw [hf]
   ·rw [La O0]at hf; simp at hf
theorem PY {n:Nat} (l:List (List Att)) (j:Nat) (hj:j<l.length) (hx:l[j].length≤1000000) (hn:2000000≤n):∀(k i:Nat),i≤l[j].length→l[j].length-i<k→xi n l[j] ⟨l⟩ (j:Int) k (i:Int)=some (.nxt ())
 |0,i,_,h=>O0
 | k+1,i,hi,hk=>by
  rw [xi]
  by_cases hc:i<l[j].length
  ·have e:=KN (n:=n) l[j] (l[j])[i] hx n 0 false O0 O0 (.inr (by rw [Lf]; exact Li hc))
   rw [show((0:Nat):Int)=0 from rfl]at e
   rw [L4 O4,zE hc,L0]
   simp only [zE hj,L0]
   rw [e,L0,L3 O2,w1 O0]
   exact PY l j hj hx hn k (i+1) O0 O0
  ·rw [L3 O4]
theorem P9 {n:Nat} (l:List (List Att)) (hx:∀r∈l,r.length≤1000000) (hl:l.length≤1000000) (hn:2000000≤n):∀(k i:Nat),i≤l.length→l.length-i<k→xl n ⟨l⟩ ⟨l⟩ k (i:Int)=some (.nxt ())
 |0,i,_,h=>O0
 | k+1,i,hi,hk=>by
  rw [xl]
  by_cases hc:i<l.length
  ·have h1:=hx _ (Li hc)
   have e:=PY (n:=n) l i hc h1 hn n 0 O0 O0
   rw [show((0:Nat):Int)=0 from rfl]at e
   rw [L4 (by rw [L2]; show(i:Int)<(l.length:Int); omega)]
   simp only [zE hc,L0]
   rw [L3 O2,e]
   simp only [z8]
   rw [w1 O0]
   exact P9 l hx hl hn k (i+1) O0 O0
  ·rw [L3 (by rw [L2]; show ¬(i:Int)<(l.length:Int); omega)]
theorem B5 {n:Nat} {l:List (List Att)} (h:okN l) (hn:2000000≤n):xo n ⟨l⟩ ⟨l⟩=some true:=by
 unfold xo
 have h1:=h.1
 have e:=P9 (n:=n) l (fun r hr=>by have:=(h.2 r hr).2.1; omega) O0 hn n 0 O0 O0
 rw [show((0:Nat):Int)=0 from rfl]at e
 rw [L3 O2,e]; rfl
theorem cT {n:Nat} (l:List Anc) (h:∀a∈l,Zf a) (hl:l.length≤64) (hn:2000000≤n):∀(k i:Nat),i≤l.length→l.length-i<k→yJ n l l k (i:Int)=some (.nxt ())
 |0,i,_,h=>O0
 | k+1,i,hi,hk=>by
  rw [yJ]
  by_cases hc:i<l.length
  ·rw [L4 O4]
   simp only [zE hc,L0]
   rw [L3 O2,B5 (h _ (Li hc)).1 hn,L0,L0,L3 O2,w1 O0]
   exact cT l h hl hn k (i+1) O0 O0
  ·rw [L3 O4]
theorem fb {n:Nat} {l:List Anc} (h:∀a∈l,Zf a) (hl:l.length≤64) (hn:2000000≤n):xM n l l=some true:=by
 unfold xM
 have e:=cT (n:=n) l h hl hn n 0 O0 O0
 rw [show((0:Nat):Int)=0 from rfl]at e
 rw [L3 O2,e]; rfl
theorem za8 (m:Nat):jA (m+1000)=some true:=O7
theorem lC {n:Nat} {i:Int} (h:0≤i∧i<n):pq n i=some i.toNat:=L4 h
theorem fJ {n v:Nat} (hn:20≤n) (hv:v<64):gO n (v:Int)=some [o8 v]:=by
 obtain⟨m,rfl⟩:=Ul hn
 have:=Ld.1 (show((List.range 64).all fun v:Nat=>decide (gO (m+20) (v:Int)=some [o8 v]))=true by kernel_rfl) v (O9 hv)
 simpa using this
theorem KK {n v:Nat} (hn:20≤n) (hv:v<64):xr n (v:Int)=some [o8 v]:=by
 obtain⟨m,rfl⟩:=Ul hn
 have:=Ld.1 (show((List.range 64).all fun v:Nat=>decide (xr (m+20) (v:Int)=some [o8 v]))=true by kernel_rfl) v (O9 hv)
 simpa using this
theorem fL {n v:Nat} (hn:20≤n) (hv:v<64):bv n [o8 v]=some ((v:Int),0):=by
 obtain⟨m,rfl⟩:=Ul hn
 have:=Ld.1 (show((List.range 64).all fun v:Nat=>decide (bv (m+20) [o8 v]=some ((v:Int),0)))=true by kernel_rfl) v (O9 hv)
 simpa using this
theorem ee {n v:Nat} (hn:20≤n) (hv:v<64):ud n [o8 v]=some ((v:Int),0):=by
 obtain⟨m,rfl⟩:=Ul hn
 have:=Ld.1 (show((List.range 64).all fun v:Nat=>decide (ud (m+20) [o8 v]=some ((v:Int),0)))=true by kernel_rfl) v (O9 hv)
 simpa using this
theorem lF {n:Nat} (a:Int):∀(k j:Nat) (l:List Int),j<k→j≤8→l.length+j≤1000→∃r,xt n a k l ((j:Int)-1)=some r∧r.length=l.length+j
 |0,_,_,h,_,_=>O0
 |k+1,0,l,_,_,_=>⟨l,by rw [xt,L3 O2],O0⟩
 | k+1,j+1,l,hk,hj,hl=>by
  rw [xt,L4 O2]
  have e0:(((j+1:Nat):Int)-1)=(j:Int):=O0
  rw [e0,yv (x:=(8:Int)*(j:Int)) O0]
  unfold Wr
  rw [L3 O0]
  simp only [L0]
  rw [yU O3]
  simp only [L0]
  rw [yv O0]
  generalize wrap .u8 _=X
  obtain⟨r,h1,h2⟩:=lF (n:=n) a k j (l ++ [X]) O0 O0 O3
  exact⟨r,h1,by rw [h2,L5]; simp; omega⟩
theorem mT {n:Nat}:∀(k:Nat) (l:List Int),l.length<k→∃r,xw n k l=some r∧r.length≤l.length
 |0,_,h=>O0
 | k + 1,l,h=>by
  rw [xw]
  match l,h with
  | [],h=>exact⟨[],O2,O2⟩
  | [x],h=>exact⟨[x],O2,O2⟩
  | x ::y::r,h=>
   rw [L4 O3]
   have h0:zV (x::y::r) 0=some x:=by simp [zV]
   have h1:zV (x::y::r) 1=some y:=by simp [zV]
   rw [h0,h1]
   simp only [L0]
   have key:∀b:Bool,∃q,(if b=true then(lsl (x::y::r) 1 ((x::y::r).length:Nat)).bind fun x94=>xw n k x94 else some (x::y::r))=some q∧q.length≤(x::y::r).length:=by
    intro b
    cases b with
    |false=>exact⟨_,rfl,Nat.le_refl _⟩
    | true=>
     rw [L4 rfl,Wu]
     simp only [L0]
     obtain⟨q,h2,h3⟩:=mT (n:=n) k (y::r) (by simp at h ⊢; omega)
     exact⟨q,h2,by simp at h3 ⊢; omega⟩
   by_cases c1:x=0
   ·rw [L4 (by simp [c1])]
    by_cases c2:y<128
    ·rw [L4 (by simp [c2])]; exact key true
    ·rw [L3 O3]
     rw [L3 (by simp [c1])]; exact key false
   ·rw [L3 (by simp [c1])]
    by_cases c2:x=255
    ·rw [L4 (by simp [c2])]; exact key _
    ·rw [L3 (by simp [c2])]; exact key false
theorem fT {n:Nat} (a:Int) (hn:20≤n):∃s,xr n a=some s∧s.length≤8:=by
 unfold xr
 obtain⟨r,h1,h2⟩:=lF (n:=n) a n 8 [] O0 O0 O2
 rw [show(((8:Nat):Int)-1)=7 from rfl]at h1
 obtain⟨q,h3,h4⟩:=mT (n:=n) n r (by rw [h2]; simp; omega)
 rw [h1]
 simp only [L0,h3]
 exact⟨_,rfl,by simp [b2s]; simp at h2; omega⟩
theorem lz {n:Nat} (s:Bs) (h0:0<s.length) (h8:s.length≤8):∀(k i:Nat) (v:Int),s.length-i<k→∃x,qe n s k v (i:Int)=some x
 |0,_,_,h=>O0
 | k+1,i,v,h=>by
  rw [qe,yv (x:=(s.length:Int)-1) O0]
  by_cases hc:i+1<s.length
  ·rw [L4 O3,w1 O0,vC hc]
   simp only [L0]
   exact lz s h0 h8 k (i+1) _ O0
  ·rw [L3 O3]; exact⟨_,rfl⟩
theorem eE {n:Nat} (s:Bs) (hn:20≤n):∃x,bv n s=some x:=by
 unfold bv
 rcases Nat.eq_zero_or_pos s.length with h0|h0
 ·have:s= []:=List.eq_nil_of_length_eq_zero h0
  subst this; exact⟨_,by simp; rfl⟩
 refine yM ?_ fun b _=>yn (fun _=>⟨_,rfl⟩) fun _=>yn (fun _=>⟨_,rfl⟩) fun h8=>yM (jK O0 O0) fun x _=>yM ?_ fun y _=>⟨_,rfl⟩
 ·refine yn (fun _=>⟨_,rfl⟩) fun _=>yn (fun h=> ?_) fun _=>⟨_,rfl⟩
  have h1:1<(s.length:Int):=by simpa using h
  refine yM (jK O0 O0) fun x _=>yn (fun _=>yM (jK O0 O0) fun _ _=>yn (fun _=>⟨_,rfl⟩) fun _=>yM (jK O0 O0) fun _ _=>yn (fun _=>yM (jK O0 O0) fun _ _=>⟨_,rfl⟩) fun _=>⟨_,rfl⟩) fun _=>yM (jK O0 O0) fun _ _=>yn (fun _=>yM (jK O0 O0) fun _ _=>⟨_,rfl⟩) fun _=>⟨_,rfl⟩
 ·have h8':s.length≤8:=by simp at h8; omega
  exact lz (n:=n) s h0 h8' n 0 _ O0
theorem lJ {n:Nat} (s:Bs) (h8:s.length≤8):∀(k i:Nat) (v:Int),s.length-i<k→∃x,w5 n s k v (i:Int)=some x
 |0,_,_,h=>O0
 | k+1,i,v,h=>by
  rw [w5]
  by_cases hc:i<s.length
  ·rw [L4 O3,w1 O0,vC hc]
   simp only [L0]
   exact lJ s h8 k (i+1) _ O0
  ·rw [L3 O3]; exact⟨_,rfl⟩
theorem fh {n:Nat} (s:Bs) (hn:20≤n):∃x,ud n s=some x:=by
 unfold ud
 rcases Nat.eq_zero_or_pos s.length with h0|h0
 ·have:s= []:=List.eq_nil_of_length_eq_zero h0
  subst this; exact⟨_,by simp; rfl⟩
 refine yM ?_ fun b _=>yn (fun _=>⟨_,rfl⟩) fun _=>yn (fun _=>⟨_,rfl⟩) fun h8=>yM (jK O0 O0) fun x _=>yM (yn (fun _=>⟨_,rfl⟩) fun _=>⟨_,rfl⟩) fun z _=>yM ?_ fun y _=>⟨_,rfl⟩
 ·refine yn (fun _=>⟨_,rfl⟩) fun _=>yn (fun h=> ?_) fun _=>⟨_,rfl⟩
  have h1:1<(s.length:Int):=by simpa using h
  refine yM (jK O0 O0) fun x _=>yn (fun _=>yM (jK O0 O0) fun _ _=>yn (fun _=>⟨_,rfl⟩) fun _=>yM (jK O0 O0) fun _ _=>yn (fun _=>yM (jK O0 O0) fun _ _=>⟨_,rfl⟩) fun _=>⟨_,rfl⟩) fun _=>yM (jK O0 O0) fun _ _=>yn (fun _=>yM (jK O0 O0) fun _ _=>⟨_,rfl⟩) fun _=>⟨_,rfl⟩
 ·have h8':s.length≤8:=by simp at h8; omega
  exact lJ (n:=n) s h8' n 0 _ O0
def sm (x:Int):Bool:=decide (0≤x)&&decide (x<64)
def numE (t:Nat) (x:Int):Nat×Bs:=(t,[o8 x.toNat])
def WN (f:zu):Bool:=sm f.xj&&f.zM.all sm&&(decide (0≤f.zi.yB)&&decide (f.zi.yB≤15))&&(decide (0≤f.zi.zT)&&decide (f.zi.zT≤8))
def ZL (f:zu):List (Nat×Bs):= [numE 2 f.xj,(48,wraps (f.zM.map (numE 2))),numE 10 f.zi.yB,numE 2 f.zi.zT,(48,wraps (f.zi.ze.map polE))]
def Yv (f:zu):Bs×Int:=
 if WN f=false then([],1)else if 8<f.zM.length then([],2)else if f.zi.ze.all (fun s=>(y4 s).isSome)=false then([],11)else
 if 131072<(wraps (f.zi.ze.map polE)).length then([],2)else if 131072<(wraps (ZL f)).length then([],2)else((tWrap 48 (wraps (ZL f))).1,0)
theorem Dh {x:Int} (h:sm x=true):∃v:Nat,x=(v:Int)∧v<64:=by
 simp only [sm,Lc,L2]at h
 exact⟨x.toNat,O0,O0⟩
theorem zdD {n t:Nat} {b:Bs} {x:Int} (hx:sm x=true) (h1:t≤255) (h2:t%32≠31) (hb:b.length≤10000000000) (hn:20≤n):jz n (t:Int) x ⟨b,0⟩=some ⟨b++(tWrap t [o8 x.toNat]).1,0⟩:=by
 obtain⟨v,rfl,hv⟩:=Dh hx
 unfold jz
 rw [fJ hn hv,L0,KH h1 h2 O3 hn,Int.toNat_natCast,bB (c:= [o8 v]) O2]; rfl
theorem J9 {n t:Nat} {b:Bs} {x:Int} (hx:sm x=true) (h1:t≤255) (h2:t%32≠31) (hb:b.length≤10000000000) (hn:20≤n):ui n x ⟨b,0⟩=some ⟨b++(tWrap 2 [o8 x.toNat]).1,0⟩:=by
 unfold ui
 have:=zdD (n:=n) (t:=2) hx O0 O0 hb hn
 rw [show((2:Nat):Int)=2 from rfl]at this
 rw [this]; rfl
theorem ce {n:Nat} (hn:20≤n) (a:List Int) (ha:a.length≤100000000) (hs:a.all sm=true):∀(k i:Nat) (b:Bs),i≤a.length→a.length-i<k→b.length+6*(a.length-i)≤1000000000 →
  uU n a k (i:Int) b 0=some (b++wraps ((a.drop i).map (numE 2)),0)
 |0,_,_,_,h,_=>O0
 | k+1,i,b,hi,hk,hb=>by
  rw [uU]
  by_cases hc:i<a.length
  ·have hx:=Ld.1 hs a[i] (Li hc)
   have hl:=zU 2 [o8 a[i].toNat]
   simp only [L6]at hl
   rw [L4 O4,zE hc,L0,J9 (t:=2) hx O0 O0 O0 hn,L0,w1 O0]
   show uU n a k _ _ 0=_
   rw [ce hn a ha hs k (i+1) _ O0 O0 (by rw [L5]; omega),L9 hc,Lb,ji,Ln]; rfl
  ·rw [L3 O4,La O0]; simp [wraps]
theorem Wy (a:List Int):(wraps (a.map (numE 2))).length≤6*a.length:=by
 have:=WB (m:=1) (a.map (numE 2)) (by intro p hp; obtain⟨x,_,rfl⟩:=Le.1 hp; exact Nat.le_refl _)
 rw [L8]at this; omega
theorem zcr {n:Nat} {a:List Int} {b:Bs} (hn:a.length+20≤n) (ha:a.length≤100000000) (hs:a.all sm=true) (hb:b.length≤1000000000):dY n 48 a ⟨b,0⟩=some ⟨b++(tWrap 48 (wraps (a.map (numE 2)))).1,(tWrap 48 (wraps (a.map (numE 2)))).2⟩:=by
 unfold dY
 have h1:=ce (n:=n) O0 a ha hs n 0 [] O0 O0 O3
 rw [show((0:Nat):Int)=0 from rfl,Lf,Lg]at h1
 rw [show YC n ⟨[],0⟩=some ⟨[],0⟩from rfl,L0]
 simp only []
 rw [h1,L0]
 have hl:=Wy a
 have h2:=KH (n:=n) (t:=48) (b:=b ++ []) (c:=wraps (a.map (numE 2))) O0 O0 O3 O0
 rw [show((48:Nat):Int)=48 from rfl,Lh]at h2
 simp only []
 rw [Qq O3,Lh,L0,h2]; rfl
theorem zd2 {n:Nat} {b s:Bs} (hs:s.length≤100000000) (hn:s.length+40≤n) (h:(y4 s).isSome=true) (hb:b.length≤10000000000):gV n s ⟨b,0⟩=some ⟨b++(tWrap (polE s).1 (polE s).2).1,0⟩:=by
 obtain⟨l,hl⟩:=Option.isSome_iff_exists.1 h
 unfold gV
 have hlen:=gZ (bf hl)
 have h2:=KH (n:=n) (t:=6) (b:=b) (c:=qg l) O0 O0 O0 O0
 rw [show((6:Nat):Int)=6 from rfl]at h2
 rw [U7 hs hn hl,L0]
 simp only []
 rw [Qq O3,Lh,L0,h2,bB (c:=qg l) O0]
 simp [polE,hl]
theorem K3 {n B:Nat} (hB:B≤100000000) (hn:B+40≤n) (a:List Bs) (ha:a.length≤10000000) (hs:a.all (fun s=>(y4 s).isSome)=true) (hl:∀s∈a,s.length≤B):∀(k i:Nat) (b:Bs),i≤a.length→a.length-i<k→b.length+60*(a.length-i)≤1000000000 →
  vT n a k (i:Int) b 0=some (b++wraps ((a.drop i).map polE),0)
 |0,_,_,_,h,_=>O0
 | k+1,i,b,hi,hk,hb=>by
  rw [vT]
  by_cases hc:i<a.length
  ·have hx:=Ld.1 hs a[i] (Li hc)
   have hxl:=hl a[i] (Li hc)
   have hl0:=zU 6 (polE a[i]).2
   obtain⟨l,he⟩:=Option.isSome_iff_exists.1 hx
   have hl1:(polE a[i]).2.length≤55:=by unfold polE; rw [he]; exact gZ (bf he)
   rw [L4 O4,zE hc,L0,zd2 O0 O0 hx O0,L0,w1 O0]
   show vT n a k _ _ 0=_
   rw [K3 hB hn a ha hs hl k (i+1) _ O0 O0 (by rw [L5]; show b.length+(tWrap 6 (polE a[i]).2).1.length+_≤_; omega),L9 hc,Lb,ji,Ln]
  ·rw [L3 O4,La O0]; simp [wraps]
theorem Zs {a:List Bs} (hs:a.all (fun s=>(y4 s).isSome)=true):(wraps (a.map polE)).length≤60*a.length:=by
 have:=WB (m:=55) (a.map polE) (by
  intro p hp; obtain⟨x,hx,rfl⟩:=Le.1 hp
  obtain⟨l,he⟩:=Option.isSome_iff_exists.1 (Ld.1 hs x hx)
  unfold polE; rw [he]; exact gZ (bf he))
 rw [L8]at this; omega
theorem zdc {n B:Nat} {a:List Bs} {b:Bs} (hB:B≤100000000) (hn:a.length+B+40≤n) (ha:a.length≤10000000) (hs:a.all (fun s=>(y4 s).isSome)=true) (hl:∀s∈a,s.length≤B) (hb:b.length≤1000000000):ug n 48 a ⟨b,0⟩=some ⟨b++(tWrap 48 (wraps (a.map polE))).1,(tWrap 48 (wraps (a.map polE))).2⟩:=by
 unfold ug
 have h1:=K3 (n:=n) hB O0 a ha hs hl n 0 [] O0 O0 O3
 rw [show((0:Nat):Int)=0 from rfl,Lf,Lg]at h1
 rw [show YX n ⟨[],0⟩=some ⟨[],0⟩from rfl,L0]
 simp only []
 rw [h1,L0]
 have hl:=Zs hs
 have h2:=KH (n:=n) (t:=48) (b:=b ++ []) (c:=wraps (a.map polE)) O0 O0 O3 O0
 rw [show((48:Nat):Int)=48 from rfl,Lh]at h2
 simp only []
 rw [Qq O3,Lh,L0,h2]; rfl
structure Fit (n B:Nat) (f:zu):Prop where
 b:B≤100000000
 path:f.zM.length≤10000000
 pols:f.zi.ze.length≤10000000
 pol:∀s∈f.zi.ze,s.length≤B
 n:f.zM.length+f.zi.ze.length+B+400≤n
theorem sm1 {n:Nat} (x:Int):jY n x=some (sm x):=by
 unfold jY sm
 by_cases h:0≤x
 ·rw [L4 (O9 h),decide_eq_true h]; simp
 ·rw [L3 (O9 h),decide_eq_false h]; simp
theorem mJ {n:Nat} (f:zu) (hl:f.zM.length≤10000000):∀(k i:Nat) (ok:Bool),i≤f.zM.length→f.zM.length-i<k→uO n f k ok (i:Int)=some (ok&&(f.zM.drop i).all sm)
 |0,_,_,_,h=>O0
 | k+1,i,ok,hi,hk=>by
  rw [uO]
  by_cases hc:i<f.zM.length
  ·rw [L4 O4,zE hc,L0,sm1]
   have:(if ok=true then(some (sm f.zM[i])).bind fun r54=>some r54 else some false)=some (ok&&sm f.zM[i]):=by cases ok<;>rfl
   rw [this,L0,w1 O0,mJ f hl k (i+1) _ O0 O0,L9 hc,List.all_cons,Bool.and_assoc]
  ·rw [L3 O4,La O0]; simp
theorem mH {n B:Nat} (f:zu) (hf:Fit n B f):∀(k i:Nat),i≤f.zi.ze.length→f.zi.ze.length-i<k→uK n f k (i:Int)=some (if(f.zi.ze.drop i).all (fun s=>(y4 s).isSome)=true then .nxt ()else .ret ([],11))
 |0,_,_,h=>O0
 | k+1,i,hi,hk=>by
  have hb:=hf.b
  have hp:=hf.pols
  have hn:=hf.n
  rw [uK]
  by_cases hc:i<f.zi.ze.length
  ·have hl:=hf.pol _ (Li hc)
   rw [L4 O4,zE hc,L0,Y5 O0 O0,L0,L9 hc,List.all_cons]
   cases h:(y4 f.zi.ze[i]).isSome with
   |false=>rw [L4 (by rfl),L3 O2]
   |true=>rw [L3 O2,w1 O0,mH f hf k (i+1) O0 O0,Bool.true_and]
  ·rw [L3 O4,La O0]; simp
theorem sC {x:Int} (h:0≤x∧x≤15):sm x=true:=by simp only [sm,Lc,L2]; omega
theorem K1 (f:zu):wraps (ZL f)=(tWrap 2 [o8 f.xj.toNat]).1++(tWrap 48 (wraps (f.zM.map (numE 2)))).1++(tWrap 10 [o8 f.zi.yB.toNat]).1++(tWrap 2 [o8 f.zi.zT.toNat]).1++(tWrap 48 (wraps (f.zi.ze.map polE))).1:=by
 unfold ZL
 simp only [ji,numE,Ln]
 simp [wraps]
theorem zes {n B:Nat} {f:zu} (hf:Fit n B f):jN n f=some (Yv f):=by
 have hb:=hf.b
 have hp:=hf.pols
 have hpa:=hf.path
 have hn:=hf.n
 unfold jN
 rw [sm1,L0]
 have h1:=mJ (n:=n) f hpa n 0 (sm f.xj) O0 O0
 rw [show((0:Nat):Int)=0 from rfl,Lf]at h1
 rw [h1,L0]
 have hg:(if(!(sm f.xj&&f.zM.all sm))=true then some true else if(decide (f.zi.yB<0))=true then some true else if(decide (f.zi.yB>15))=true then some true else if(decide (f.zi.zT<0))=true then some true else some (decide (f.zi.zT>8)))=some (!WN f):=by
  unfold WN
  cases sm f.xj&&f.zM.all sm with
  |false=>rfl
  | true=>
   rw [L3 O2,Bool.true_and]
   by_cases c1:f.zi.yB<0
   ·rw [L4 (O9 c1),decide_eq_false (show ¬0≤f.zi.yB by omega)]; rfl
   ·rw [L3 (O9 c1),decide_eq_true (show 0≤f.zi.yB by omega)]
    by_cases c2:f.zi.yB≤15
    ·rw [L3 O4,decide_eq_true c2]
     by_cases c3:f.zi.zT<0
     ·rw [L4 (O9 c3),decide_eq_false (show ¬0≤f.zi.zT by omega)]; rfl
     ·rw [L3 (O9 c3),decide_eq_true (show 0≤f.zi.zT by omega)]
      by_cases c4:f.zi.zT≤8
      ·rw [decide_eq_true c4,decide_eq_false O0]; rfl
      ·rw [decide_eq_false c4,decide_eq_true O0]; rfl
    ·rw [L4 O4,decide_eq_false c2]; rfl
 rw [hg,L0]
 unfold Yv
 cases hgd:WN f with
 |false=>rfl
 | true=>
  rw [L3 (show ¬((!true)=true)by simp),L3 (show ¬(true=false)by simp)]
  by_cases h8:8<f.zM.length
  ·rw [L4 O4,L4 h8]
  ·rw [L3 O4,L3 h8]
   have h2:=mH f hf n 0 O0 O0
   rw [show((0:Nat):Int)=0 from rfl,Lf]at h2
   rw [h2]
   cases hall:f.zi.ze.all (fun s=>(y4 s).isSome)with
   |false=>rfl
   | true=>
    rw [L4 rfl,L3 (show ¬(true=false)by simp)]
    simp only [z8]
    unfold WN at hgd
    simp only [Lc,L2]at hgd
    obtain⟨⟨⟨ga,gp⟩,gc⟩,gq⟩:=hgd
    rw [J9 (t:=2) ga O0 O0 O2 O0,L0,Lg]
    have l1:=zU 2 [o8 f.xj.toNat]
    have l2:=zU 10 [o8 f.zi.yB.toNat]
    have l3:=zU 2 [o8 f.zi.zT.toNat]
    simp only [L6]at l1 l2 l3
    have l4:=Wy f.zM
    have l5:=Zs hall
    have l6:=zU 48 (wraps (f.zM.map (numE 2)))
    have l7:=zU 48 (wraps (f.zi.ze.map polE))
    rw [zcr O0 O0 gp O0,bB (c:=wraps (f.zM.map (numE 2))) O0,L0]
    have i1:=zdD (n:=n) (t:=10) (b:=(tWrap 2 [o8 f.xj.toNat]).1++(tWrap 48 (wraps (f.zM.map (numE 2)))).1) (sC gc) O0 O0 (by rw [L5]; omega) O0
    rw [show((10:Nat):Int)=10 from rfl]at i1
    rw [i1,L0,J9 (t:=2) (sC O0) O0 O0 (by rw [L5,L5]; omega) O0,L0,
     zdc (B:=B) O0 O0 O0 hall hf.pol (by rw [L5,L5,L5]; omega),L0]
    by_cases hbig:131072<(wraps (f.zi.ze.map polE)).length
    ·rw [L4 hbig,J3 hbig,Lh,nY O1 (by rw [L5,L5,L5]; omega) O0]; rfl
    ·rw [L3 hbig,bB (c:=wraps (f.zi.ze.map polE)) O0,←K1,JV (by rw [K1,L5,L5,L5,L5]; omega) O0,L0]
     by_cases hb2:131072<(wraps (ZL f)).length
     ·rw [L4 hb2,L4 hb2]
     ·rw [L3 hb2,L3 hb2]
theorem mV {n:Nat} {x:Int} (hx:sm x=true) (hn:20≤n):xB n x=some (tWrap 2 [o8 x.toNat]).1:=by
 obtain⟨v,rfl,hv⟩:=Dh hx
 unfold xB
 have:=Xh (n:=n) (t:=2) (c:= [o8 v]) O0 O0 O2 hn
 rw [show((2:Nat):Int)=2 from rfl]at this
 rw [KK hn hv,L0,this,Int.toNat_natCast]; rfl
theorem nD {n:Nat} (x:Int) (hn:20≤n):∃s,xB n x=some s∧s.length≤13:=by
 unfold xB
 obtain⟨s,hs,hl⟩:=fT (n:=n) x hn
 have:=Xh (n:=n) (t:=2) (c:=s) O0 O0 O0 hn
 rw [show((2:Nat):Int)=2 from rfl]at this
 rw [hs,L0,this]
 exact⟨_,rfl,by have:=zU 2 s; omega⟩
theorem rX {x:Int}:(decide (x<0)||decide (x≥64))= !sm x:=by
 unfold sm
 by_cases h:x<0
 ·rw [decide_eq_true h,decide_eq_false (show ¬0≤x by omega)]; rfl
 ·rw [decide_eq_false h,decide_eq_true (show 0≤x by omega)]
  by_cases h2:x<64
  ·rw [decide_eq_true h2,decide_eq_false O0]; rfl
  ·rw [decide_eq_false h2,decide_eq_true O0]; rfl
theorem lH {n:Nat} (hn:20≤n) (f:zu) (hl:f.zM.length≤10000000):∀(k i:Nat) (bad:Bool) (b:Bs),i≤f.zM.length→f.zM.length-i<k→b.length≤13*i →
  ∃c,xU n f k bad b (i:Int)=some (bad|| !(f.zM.drop i).all sm,c)∧((f.zM.drop i).all sm=true→c=b++wraps ((f.zM.drop i).map (numE 2)))
 |0,_,_,_,_,h,_=>O0
 | k + 1,i,bad,b,hi,hk,hb=>by
  rw [xU]
  by_cases hc:i<f.zM.length
  ·have hx:zV f.zM (i:Int)=some f.zM[i]:=zE hc
   obtain⟨s,hs,hsl⟩:=nD (n:=n) f.zM[i] hn
   have ey:(if bad=true then some true else(zV f.zM (i:Int)).bind fun x90=>if(decide (x90<0))=true then some true else(zV f.zM (i:Int)).bind fun x91=>some (decide (x91≥64)))=some (bad|| !sm f.zM[i]):=by
    rw [hx,←rX]
    simp only [L0]
    cases bad with
    |true=>rfl
    | false=>
     rw [L3 O2]
     cases decide (f.zM[i]<0)<;>rfl
   rw [L4 O4,ey,L0,hx,L0,hs,L0,yo O0,L0,w1 O0]
   obtain⟨c,hc1,hc2⟩:=lH hn f hl k (i+1) (bad|| !sm f.zM[i]) (b++s) O0 O0 (by rw [L5]; omega)
   rw [hc1,L9 hc,List.all_cons]
   refine⟨c, ?_, ?_⟩
   ·congr 2
    cases sm f.zM[i]<;>cases bad<;>simp
   ·intro h
    rw [Lc]at h
    rw [hc2 h.2,Lb,ji]
    rw [mV h.1 hn]at hs
    injection hs with hs
    rw [←hs,Ln]; rfl
  ·rw [L3 O4,La O0]
   exact⟨b,O2,fun _=>by simp [wraps]⟩
theorem lR {n B:Nat} (f:zu) (hf:Fit n B f):∀(k i:Nat),i≤f.zi.ze.length→f.zi.ze.length-i<k→xV n f k (i:Int)=some (if(f.zi.ze.drop i).all (fun s=>(y4 s).isSome)=true then .nxt ()else .ret ([],11))
 |0,_,_,h=>O0
 | k+1,i,hi,hk=>by
  have hb:=hf.b
  have hp:=hf.pols
  have hn:=hf.n
  rw [xV]
  by_cases hc:i<f.zi.ze.length
  ·have hl:=hf.pol _ (Li hc)
   rw [L4 O4,zE hc,L0,gU O0 O0,L0,L9 hc,List.all_cons]
   cases h:(y4 f.zi.ze[i]).isSome with
   |false=>rw [L4 (by rfl),L3 O2]
   |true=>rw [L3 O2,w1 O0,lR f hf k (i+1) O0 O0,Bool.true_and]
  ·rw [L3 O4,La O0]; simp
theorem Bf {n B:Nat} (hB:B≤100000000) (hn:B+40≤n) (a:List Bs) (ha:a.length≤10000000) (hs:a.all (fun s=>(y4 s).isSome)=true) (hl:∀s∈a,s.length≤B):∀(k i:Nat) (b:Bs),i≤a.length→a.length-i<k→b.length+60*(a.length-i)≤1000000000 →
  ub n a k b (i:Int)=some (b++wraps ((a.drop i).map polE))
 |0,_,_,_,h,_=>O0
 | k+1,i,b,hi,hk,hb=>by
  rw [ub]
  by_cases hc:i<a.length
  ·have hx:=Ld.1 hs a[i] (Li hc)
   have hxl:=hl a[i] (Li hc)
   have hl0:=zU 6 (polE a[i]).2
   obtain⟨l,he⟩:=Option.isSome_iff_exists.1 hx
   have hl1:(polE a[i]).2.length≤55:=by unfold polE; rw [he]; exact gZ (bf he)
   have hl2:(tWrap (polE a[i]).1 (polE a[i]).2).1.length≤60:=by show(tWrap 6 (polE a[i]).2).1.length≤60; omega
   rw [L4 O4,zE hc,L0,zdj O0 O0 hx,L0,yo O0,L0,w1 O0]
   rw [Bf hB hn a ha hs hl k (i+1) _ O0 O0 (by rw [L5]; omega),L9 hc,Lb,ji,Ln]
  ·rw [L3 O4,La O0]; simp [wraps]
theorem zeR {n B:Nat} {f:zu} (hf:Fit n B f):je n f=some (Yv f):=by
 have hb:=hf.b
 have hp:=hf.pols
 have hpa:=hf.path
 have hn:=hf.n
 unfold je
 have hg:(if decide (f.xj<0)=true then some true else if decide (f.xj≥64)=true then some true else if(decide (f.zi.yB<0))=true then some true else if(decide (f.zi.yB>15))=true then some true else if(decide (f.zi.zT<0))=true then some true else some (decide (f.zi.zT>8)))=some (!(sm f.xj&&(decide (0≤f.zi.yB)&&decide (f.zi.yB≤15))&&(decide (0≤f.zi.zT)&&decide (f.zi.zT≤8)))):=by
  unfold sm
  by_cases c5:f.xj<0
  ·rw [L4 (O9 c5),decide_eq_false (show ¬0≤f.xj by omega)]; rfl
  ·rw [L3 (O9 c5),decide_eq_true (show 0≤f.xj by omega)]
   by_cases c6:f.xj<64
   ·rw [L3 O4,decide_eq_true c6]
    by_cases c1:f.zi.yB<0
    ·rw [L4 (O9 c1),decide_eq_false (show ¬0≤f.zi.yB by omega)]; rfl
    ·rw [L3 (O9 c1),decide_eq_true (show 0≤f.zi.yB by omega)]
     by_cases c2:f.zi.yB≤15
     ·rw [L3 O4,decide_eq_true c2]
      by_cases c3:f.zi.zT<0
      ·rw [L4 (O9 c3),decide_eq_false (show ¬0≤f.zi.zT by omega)]; rfl
      ·rw [L3 (O9 c3),decide_eq_true (show 0≤f.zi.zT by omega)]
       by_cases c4:f.zi.zT≤8
       ·rw [decide_eq_true c4,decide_eq_false O0]; rfl
       ·rw [decide_eq_false c4,decide_eq_true O0]; rfl
     ·rw [L4 O4,decide_eq_false c2]; rfl
   ·rw [L4 O4,decide_eq_false c6]; rfl
 rw [hg,L0]
 obtain⟨c,h1,h1c⟩:=lH (n:=n) O0 f hpa n 0 (!(sm f.xj&&(decide (0≤f.zi.yB)&&decide (f.zi.yB≤15))&&(decide (0≤f.zi.zT)&&decide (f.zi.zT≤8)))) [] O0 O0 O2
 rw [show((0:Nat):Int)=0 from rfl,Lf]at h1
 rw [Lf,Lg]at h1c
 rw [h1,L0]
 simp only []
 have hgd2:((!(sm f.xj&&(decide (0≤f.zi.yB)&&decide (f.zi.yB≤15))&&(decide (0≤f.zi.zT)&&decide (f.zi.zT≤8))))|| !f.zM.all sm)= !WN f:=by
  unfold WN
  cases sm f.xj<;>cases f.zM.all sm<;>simp
 rw [hgd2]
 unfold Yv
 cases hgd:WN f with
 |false=>rfl
 | true=>
  rw [L3 (show ¬((!true)=true)by simp),L3 (show ¬(true=false)by simp)]
  by_cases h8:8<f.zM.length
  ·rw [L4 O4,L4 h8]
  ·rw [L3 O4,L3 h8]
   have h2:=lR f hf n 0 O0 O0
   rw [show((0:Nat):Int)=0 from rfl,Lf]at h2
   rw [h2]
   cases hall:f.zi.ze.all (fun s=>(y4 s).isSome)with
   |false=>rfl
   | true=>
    rw [L4 rfl,L3 (show ¬(true=false)by simp)]
    simp only [z8]
    unfold WN at hgd
    simp only [Lc,L2]at hgd
    obtain⟨⟨⟨ga,gp⟩,gc⟩,gq⟩:=hgd
    rw [h1c gp]
    have l1:=zU 2 [o8 f.xj.toNat]
    have l2:=zU 10 [o8 f.zi.yB.toNat]
    have l3:=zU 2 [o8 f.zi.zT.toNat]
    simp only [L6]at l1 l2 l3
    have l4:=Wy f.zM
    have l5:=Zs hall
    have l6:=zU 48 (wraps (f.zM.map (numE 2)))
    have l7:=zU 48 (wraps (f.zi.ze.map polE))
    have ho:vb n f.zi.ze=some (wraps (f.zi.ze.map polE)):=by
     unfold vb
     have:=Bf (n:=n) (B:=B) O0 O0 f.zi.ze O0 hall hf.pol n 0 [] O0 O0 O3
     rw [show((0:Nat):Int)=0 from rfl,Lf,Lg]at this
     rw [this]; rfl
    have w1:=lK (n:=n) (t:=48) (c:=wraps (f.zi.ze.map polE)) O0 O0 O0 O0
    rw [show((48:Nat):Int)=48 from rfl]at w1
    rw [ho,L0,w1,L0]
    by_cases hbig:131072<(wraps (f.zi.ze.map polE)).length
    ·rw [L4 hbig,J3 hbig]; rfl
    ·rw [L3 hbig,bB (c:=wraps (f.zi.ze.map polE)) O0]
     simp only []
     rw [L3 O2]
     have w2:=Xh (n:=n) (t:=48) (c:=wraps (f.zM.map (numE 2))) O0 O0 O0 O0
     rw [show((48:Nat):Int)=48 from rfl]at w2
     have hcv:∃v:Nat,f.zi.yB=(v:Int)∧v<64:=⟨f.zi.yB.toNat,O0,O0⟩
     obtain⟨cv,hcv,hcv2⟩:=hcv
     have w3:=Xh (n:=n) (t:=10) (c:= [o8 cv]) O0 O0 O2 O0
     rw [show((10:Nat):Int)=10 from rfl]at w3
     have hct:o8 f.zi.yB.toNat=o8 cv:=by rw [hcv,Int.toNat_natCast]
     have hput:xr n f.zi.yB=some [o8 cv]:=by rw [hcv]; exact KK O0 hcv2
     rw [hct]at l2
     rw [mV ga O0,L0,w2,L0,yo O0,L0,hput,L0,w3,L0,yo (by rw [L5]; omega),L0,
      mV (sC O0) O0,L0,yo (by rw [L5,L5]; omega),L0,yo (by rw [L5,L5,L5]; omega),L0]
     have hC:=K1 f
     rw [hct]at hC
     rw [←hC]
     have hCl:(wraps (ZL f)).length≤100000000000:=by rw [hC,L5,L5,L5,L5]; omega
     have w4:=lK (n:=n) (t:=48) (c:=wraps (ZL f)) O0 O0 O0 O0
     rw [show((48:Nat):Int)=48 from rfl]at w4
     unfold xC
     rw [w4,L0]
     by_cases hb2:131072<(wraps (ZL f)).length
     ·rw [L4 hb2,J3 hb2]; rfl
     ·rw [L3 hb2,bB (c:=wraps (ZL f)) O0]; rfl
theorem Yf {n M:Nat} {t:Int} {f:Bool} {l:List za} (hn:20≤n) (h:Bd M l):∃x r f',xq n t ⟨l,f⟩=some (x,⟨r,f'⟩)∧Bd M r∧(0<l.length→r.length<l.length):=by
 obtain⟨e,r,f',h1,h2,h3,_,h4⟩:=WR (n:=n) (f:=f) h
 unfold xq
 rw [h1,L0]
 obtain⟨x,hx⟩:=eE (n:=n) e.zc hn
 simp only []
 rw [hx,L0]
 unfold zL
 simp only [ifb,L0]
 exact⟨_,_,_,rfl,h3,h4⟩
theorem Qg {n t:Nat} {x:Int} {l:List za} (hn:20≤n) (hx:sm x=true):xq n (t:Int) ⟨elm (numE t x)::l,false⟩=some (x,⟨l,false⟩):=by
 obtain⟨v,rfl,hv⟩:=Dh hx
 unfold xq
 rw [XR,L0]
 have hc:(elm (numE t (v:Int))).zc= [o8 v]:=by simp [elm,numE]
 have ht:(elm (numE t (v:Int))).zA=(t:Int):=rfl
 simp only []
 rw [hc,fL hn hv,L0]
 show(zL n 0 ⟨l,false⟩).bind _=_
 rw [show zL n 0 ⟨l,false⟩=some ⟨l,false⟩from rfl,L0,ht]
 simp
theorem GB {n M:Nat} (hn:20≤n) (hM:M≤1000000):∀(k:Nat) (acc:List Int) (l:List za) (f:Bool),Bd M l→l.length<k→acc.length+l.length≤M→∃a f',wz n k acc l f=some (a,[],f')∧a.length≤M
 |0,_,_,_,_,h,_=>O0
 |k+1,acc,[],f,_,_,ha=>⟨acc,f,rfl,by simpa using ha⟩
 | k+1,acc,e::l,f,hb,hk,ha=>by
  obtain⟨x,r,f',h1,h2,h3⟩:=Yf (n:=n) (t:=2) (f:=f) hn hb
  have h3:=h3 O2
  simp only [L7]at h3 hk ha
  rw [wz,L4 (by rw [L2,L7]; omega),h1,L0,yU (by rw [L6]; omega),L0]
  exact GB hn hM k _ r f' h2 O0 (by rw [L5,L6]; omega)
theorem zat {n:Nat} (hn:20≤n):∀(k:Nat) (p:List Int) (acc:List Int),p.all sm=true→p.length<k→acc.length+p.length≤1000000→wz n k acc ((p.map (numE 2)).map elm) false=some (acc++p,[],false)
 |0,_,_,_,h,_=>O0
 |k+1,[],acc,_,_,_=>by rw [Lh]; rfl
 | k+1,x::p,acc,hs,hk,ha=>by
  rw [List.all_cons,Lc]at hs
  simp only [L7]at hk ha
  have h1:=Qg (n:=n) (t:=2) (x:=x) (l:=(p.map (numE 2)).map elm) hn hs.1
  rw [show((2:Nat):Int)=2 from rfl]at h1
  rw [Lb,Lb,wz,L4 (by rw [L2,L7]; omega),h1,L0,yU (by rw [L6]; omega),L0]
  simp only []
  rw [zat hn k p _ hs.2 O0 (by rw [L5,L6]; omega),Ln]; rfl
theorem GA {n M:Nat} (hn:M+100≤n) (hM:M≤1000000) (l:List za):∀(k:Nat) (ps:List Bs) (f:Bool) (el:List za) (ef:Bool),Bd M el→el.length<k→ps.length+el.length≤M→(∀s∈ps,s.length≤252) →
  ∃ps' f' ef',wM n k ps l f el ef=some (ps',l,f',[],ef')∧ps'.length≤M∧∀s∈ps',s.length≤252
 |0,_,_,_,_,_,h,_,_=>O0
 |k+1,ps,f,[],ef,_,_,h1,h2=>⟨ps,f,ef,rfl,by simpa using h1,h2⟩
 | k+1,ps,f,e::el,ef,hb,hk,h1,h2=>by
  simp only [L7]at hk h1
  have hc:=hb.tail.1
  obtain⟨s,x,hs,hsl⟩:=Ju (n:=n) (b:=e.zc) O0 O0
  rw [wM,L4 (by rw [L2,L7]; omega),XR,L0]
  simp only []
  rw [hs,L0]
  unfold zL
  simp only [ifb,L0]
  rw [yU (by rw [L6]; omega),L0]
  exact GA hn hM l k _ _ el ef hb.tail.2 O0 (by rw [L5,L6]; omega) (by
   intro y hy; rcases Ll.1 hy with hy|hy
   ·exact h2 y hy
   ·simp at hy; subst hy; exact hsl)
theorem Bn {n:Nat} (hn:1000≤n) (l:List za):∀(k:Nat) (pols:List Bs) (ps:List Bs),pols.all (fun s=>(y4 s).isSome)=true→pols.length<k→ps.length+pols.length≤1000000 →
  wM n k ps l false ((pols.map polE).map elm) false=some (ps++pols,l,false,[],false)
 |0,_,_,_,h,_=>O0
 |k+1,[],ps,_,_,_=>by rw [Lh]; rfl
 | k+1,s::pols,ps,hs,hk,h1=>by
  simp only [L7]at hk h1
  rw [List.all_cons,Lc]at hs
  obtain⟨a,ha⟩:=Option.isSome_iff_exists.1 hs.1
  have hcont:(elm (polE s)).zc=qg a:=by simp [elm,polE,ha]
  rw [Lb,Lb,wM,L4 (by rw [L2,L7]; omega),XR,L0]
  simp only []
  rw [hcont,YA ha O0,L0]
  unfold zL
  simp only [ifb,L0]
  rw [yU (by rw [L6]; omega),L0]
  have ht:((false||((0:Int) !=0))||((elm (polE s)).zA !=6))=false:=rfl
  rw [ht,Bn hn l k pols _ hs.2 O0 (by rw [L5,L6]; omega),Ln]; rfl
theorem VE {n M:Nat} {c:Bs} {l:List za} {f:Bool} (hn:M+100≤n) (hM:M≤1000000) (hc:c.length≤M):∃ps f',vi n c ⟨l,f⟩=some (ps,⟨l,f'⟩)∧ps.length≤M∧∀s∈ps,s.length≤252:=by
 unfold vi v6
 rw [kW O0 O0]
 simp only [L0]
 have hb:=wg c hc
 obtain⟨ps,f',ef',h1,h2,h3⟩:=GA (n:=n) hn hM l n [] f (tList c).1 ((tList c).2 !=0) hb (by have:=hb.1; omega) (by simpa using hb.1) O2
 rw [h1]
 simp only [L0,ifb]
 exact⟨ps,_,rfl,h2,h3⟩
theorem Vs {n:Nat} {l:List za} {pols:List Bs} (hn:2000000≤n) (hs:pols.all (fun s=>(y4 s).isSome)=true) (hl:(wraps (pols.map polE)).length≤131072):vi n (wraps (pols.map polE)) ⟨l,false⟩=some (pols,⟨l,false⟩):=by
 unfold vi v6
 have hp:∀p∈pols.map polE,POk p:=by
  intro p hp; obtain⟨s,h1,rfl⟩:=Le.1 hp; exact KB (Ld.1 hs s h1)
 have hb:=wg (wraps (pols.map polE)) (M:=131072) hl
 rw [yV hp]at hb
 have hlen:=hb.1
 rw [L8,L8]at hlen
 rw [kW O0 O0,yV hp]
 simp only [L0]
 rw [show((0:Int) !=0)=false from rfl,Bn O0 l n pols [] hs O0 O3]
 rfl
def Rd (M B:Nat) (v:zu):Prop:=v.zM.length≤M∧v.zi.ze.length≤M∧∀s∈v.zi.ze,s.length≤B
theorem fV {n M:Nat} {l:List za} {f:Bool} (hn:2000000≤n) (hM:M≤1000000) (hb:Bd M l):∃v r,jk n ⟨l,f⟩=some (v,r)∧Rd M 252 v:=by
 obtain⟨x1,l1,f1,h1,b1,_⟩:=Yf (n:=n) (t:=2) (f:=f) O0 hb
 obtain⟨e2,l2,f2,h2,c2,b2,_,_⟩:=WR (n:=n) (f:=f1) b1
 have bs:=wg e2.zc c2
 obtain⟨a,fa,hp,ha⟩:=GB (n:=n) (M:=M) O0 hM n [] (tList e2.zc).1 (((tList e2.zc).2 !=0)||(e2.zA !=48)) bs (by have:=bs.1; omega) (by simpa using bs.1)
 obtain⟨x3,l3,f3,h3,b3,_⟩:=Yf (n:=n) (t:=10) (f:=f2) O0 b2
 obtain⟨x4,l4,f4,h4,b4,_⟩:=Yf (n:=n) (t:=2) (f:=f3) O0 b3
 obtain⟨e5,l5,f5,h5,c5,b5,_,_⟩:=WR (n:=n) (f:=f4) b4
 obtain⟨ps,f6,h6,k1,k2⟩:=VE (n:=n) (M:=M) (c:=e5.zc) (l:=l5) (f:=f5) O0 hM c5
 unfold jk
 rw [h1,L0,h2,L0,eF (e:=e2) O0 O0,L0]
 simp only []
 rw [hp,L0,h3,L0,h4,L0,h5,L0]
 simp only []
 rw [h6,L0]
 simp only [ifb,L0]
 exact⟨_,_,rfl,ha,k1,k2⟩
theorem VF {v:zu} {b:Bs} (h:Yv v=(b,0)):WN v=true∧v.zM.length≤8∧v.zi.ze.all (fun s=>(y4 s).isSome)=true∧(wraps (v.zi.ze.map polE)).length≤131072∧(wraps (ZL v)).length≤131072∧b=(tWrap 48 (wraps (ZL v))).1:=by
 unfold Yv at h
 by_cases h1:WN v=false
 ·rw [L4 h1]at h; injection h with h h'; cases h'
 ·rw [L3 h1]at h
  by_cases h2:8<v.zM.length
  ·rw [L4 h2]at h; injection h with h h'; cases h'
  ·rw [L3 h2]at h
   by_cases h3:v.zi.ze.all (fun s=>(y4 s).isSome)=false
   ·rw [L4 h3]at h; injection h with h h'; cases h'
   ·rw [L3 h3]at h
    by_cases h4:131072<(wraps (v.zi.ze.map polE)).length
    ·rw [L4 h4]at h; injection h with h h'; cases h'
    ·rw [L3 h4]at h
     by_cases h5:131072<(wraps (ZL v)).length
     ·rw [L4 h5]at h; injection h with h h'; cases h'
     ·rw [L3 h5]at h
      injection h with h h'
      exact⟨by simpa using h1,O0,by rw [Bool.not_eq_false]at h3; exact h3,O0,O0,h.symm⟩
theorem Pf {v:zu} (h1:v.zM.length≤8) (h4:(wraps (v.zi.ze.map polE)).length≤131072):∀p∈ZL v,POk p:=by
 have l4:=Wy v.zM
 intro p hp
 simp only [ZL,Lm,List.not_mem_nil,or_false]at hp
 rcases hp with rfl|rfl|rfl|rfl|rfl
 ·exact⟨by show(2:Nat)≤255; omega,by show(2:Nat)%32≠31; omega,by show 1≤131072; omega⟩
 ·exact⟨by show(48:Nat)≤255; omega,by show(48:Nat)%32≠31; omega,by show(wraps (v.zM.map (numE 2))).length≤131072; omega⟩
 ·exact⟨by show(10:Nat)≤255; omega,by show(10:Nat)%32≠31; omega,by show 1≤131072; omega⟩
 ·exact⟨by show(2:Nat)≤255; omega,by show(2:Nat)%32≠31; omega,by show 1≤131072; omega⟩
 ·exact⟨by show(48:Nat)≤255; omega,by show(48:Nat)%32≠31; omega,h4⟩
theorem za5 (t:Nat) (ht:t≤255∧t%32≠31) (x:Int):POk (numE t x):=⟨ht.1,ht.2,by show 1≤131072; omega⟩
theorem mX (p:List Int):∀q∈p.map (numE 2),POk q:=by
 intro q hq; obtain⟨x,_,rfl⟩:=Le.1 hq; exact za5 2 O0 x
theorem Gg {v:zu} (h:WN v=true):sm v.xj=true∧v.zM.all sm=true∧sm v.zi.yB=true∧sm v.zi.zT=true:=by
 unfold WN at h
 simp only [Lc,L2]at h
 exact⟨h.1.1.1,h.1.1.2,sC h.1.2,sC O0⟩
theorem Pu {n:Nat} {v:zu} {b:Bs} (hn:2000000≤n) (h:Yv v=(b,0)):jk n ⟨(ZL v).map elm,false⟩=some (v,⟨[],false⟩):=by
 obtain⟨g1,g2,g3,g4,g5,g6⟩:=VF h
 obtain⟨s1,s2,s3,s4⟩:=Gg g1
 have i1:=Qg (n:=n) (t:=2) (x:=v.xj) (l:= [(48,wraps (v.zM.map (numE 2))),numE 10 v.zi.yB,numE 2 v.zi.zT,(48,wraps (v.zi.ze.map polE))].map elm) O0 s1
 rw [show((2:Nat):Int)=2 from rfl]at i1
 have i3:=Qg (n:=n) (t:=10) (x:=v.zi.yB) (l:= [numE 2 v.zi.zT,(48,wraps (v.zi.ze.map polE))].map elm) O0 s3
 rw [show((10:Nat):Int)=10 from rfl]at i3
 have i4:=Qg (n:=n) (t:=2) (x:=v.zi.zT) (l:= [(48,wraps (v.zi.ze.map polE))].map elm) O0 s4
 rw [show((2:Nat):Int)=2 from rfl]at i4
 have l4:=Wy v.zM
 unfold jk
 show(xq n 2 ⟨elm (numE 2 v.xj)::_,false⟩).bind _=_
 rw [i1,L0]
 simp only [Lb,List.map_nil]at i3 i4 ⊢
 rw [XR,L0]
 simp only []
 rw [eF (e:=elm (48,wraps (v.zM.map (numE 2)))) (by show(wraps (v.zM.map (numE 2))).length+5≤n; omega) (by show(wraps (v.zM.map (numE 2))).length≤_; omega),L0]
 have ht:tList (elm (48,wraps (v.zM.map (numE 2)))).zc=((v.zM.map (numE 2)).map elm,0):=yV (mX v.zM)
 rw [ht]
 simp only []
 have hfl:(((0:Int) !=0)||((elm (48,wraps (v.zM.map (numE 2)))).zA !=48))=false:=rfl
 rw [hfl,zat O0 n v.zM [] s2 O0 O3,L0,i3,L0,i4,L0,XR,L0]
 simp only []
 have hc:(elm (48,wraps (v.zi.ze.map polE))).zc=wraps (v.zi.ze.map polE):=rfl
 rw [hc,Vs hn g3 g4,L0]
 rfl
theorem D5 {v:zu} {b:Bs} (h:Yv v=(b,0)):va b=(⟨48,wraps (ZL v),b⟩,0):=by
 obtain⟨g1,g2,g3,g4,g5,g6⟩:=VF h
 have:=pZ (t:=48) (c:=wraps (ZL v)) O0 O0 g5
 rw [g6,this]; rfl
def Z:zu:=⟨0,[],⟨0,0,[]⟩⟩
theorem ze2 {n:Nat} {b:Bs} {x:Int} (hb:b.length≤1000000) (hn:200000000≤n) (hx:bW n b=some x):
  (x≠0→uT n b=some (Z,x))∧(x=0→(va b).2=0→∃r,uT n b=some r∧(∀v,Yv v=(b,0)→r=(v,0))∧(r=(Z,7)∨Yv r.1=(b,0)∧r.2=0)):=by
 unfold uT bZ
 rw [hx,L0]
 refine⟨fun h=>by rw [L4 (O9 h)]; rfl,fun h h0=> ?_⟩
 subst h
 rw [L3 O2,Ve O0 O0,L0,L3 (by rw [h0]; simp)]
 have hbd:=YW b
 rw [eF O0 O0,L0]
 obtain⟨v',r,h1,h2,h3,h4⟩:=fV (n:=n) (M:=b.length) (f:=((tList (va b).1.zc).2 !=0)||((va b).1.zA !=48)) O0 hb (wg (va b).1.zc hbd)
 rw [h1,L0]
 have hfit:Fit n 252 v':=⟨O0,O0,O0,h4,O0⟩
 have hback:∀v,Yv v=(b,0)→v'=v∧r.z7=false:=by
  intro v hv
  have ho:=D5 hv
  have hr:=Pu (n:=n) O0 hv
  rw [ho]at h1
  obtain⟨g1,g2,g3,g4,g5,g6⟩:=VF hv
  rw [yV (Pf g2 g4)]at h1
  have hfl:(((0:Int) !=0)||((48:Int) !=48))=false:=rfl
  simp only [hfl]at h1
  rw [hr]at h1
  injection h1 with h1; injection h1 with h1 h1'
  subst h1'
  exact⟨h1.symm,rfl⟩
 simp only []
 by_cases hf:r.z7=true
 ·rw [L4 hf]
  exact⟨_,rfl,(fun v hv=>by have:=(hback v hv).2; rw [hf]at this; exact absurd this O2), .inl rfl⟩
 ·rw [L3 hf]
  have he:=zes hfit
  rw [show jN n ⟨v'.xj,v'.zM,⟨v'.zi.yB,v'.zi.zT,v'.zi.ze⟩⟩=some (Yv v')from he,L0,ifb,L0]
  by_cases hq:Yv v'=(b,0)
  ·rw [hq,L3 O2]
   exact⟨_,rfl,(fun v hv=>by rw [←(hback v hv).1]), .inr ⟨hq,rfl⟩⟩
  ·have:(((Yv v').2 !=0)|| !((Yv v').1==b))=true:=by
    rw [Bool.or_eq_true,bne_iff_ne,Bool.not_eq_true',beq_eq_false_iff_ne]
    by_cases h7:(Yv v').2=0
    ·exact .inr (fun h8=>hq (Prod.ext h8 h7))
    ·exact .inl h7
   rw [L4 this]
   exact⟨_,rfl,(fun v hv=>by have:=(hback v hv).1; subst this; exact absurd hv hq), .inl rfl⟩
theorem WL {n M:Nat} {t:Int} {l:List za} {i:Nat} {bad:Bool} (hn:20≤n) (hM:M≤1000000) (hb:Bd M l) (hi:i≤l.length):∃x j bad',yc n t ⟨l,(i:Int),bad⟩=some (x,⟨l,((j:Nat):Int),bad'⟩)∧j≤l.length:=by
 obtain⟨e,j,bad',h1,h2,h3⟩:=Qt (n:=n) (t:=t) (bad:=bad) hM hb hi
 unfold yc
 obtain⟨x,hx⟩:=fh (n:=n) e.zc hn
 rw [h1,L0]
 simp only []
 rw [hx,L0,ifb,L0]
 exact⟨_,j,_,rfl,h2⟩
theorem DU {n t:Nat} {x:Int} {l:List za} {i:Nat} (hn:20≤n) (hl:l.length≤1000000000) (hx:sm x=true) (h:l[i]? =some (elm (numE t x))):yc n (t:Int) ⟨l,(i:Int),false⟩=some (x,⟨l,((i+1:Nat):Int),false⟩):=by
 obtain⟨v,rfl,hv⟩:=Dh hx
 unfold yc
 rw [P0 (t:=(t:Int)) hl h rfl,L0]
 have hc:(elm (numE t (v:Int))).zc= [o8 v]:=by simp [elm,numE]
 simp only []
 rw [hc,ee hn hv,L0,ifb,L0]; rfl
theorem Gy {n M:Nat} (hn:20≤n) (hM:M≤1000000) (l:List za) (hb:Bd M l):∀(k i:Nat) (acc:List Int) (j:Nat) (bad:Bool),i≤l.length→l.length-i<k→j≤l.length→acc.length+(l.length-i)≤M→∃a j' bad',yI n k (i:Int) acc l (j:Int) bad=some (a,l,j',bad')∧a.length≤M
 |0,_,_,_,_,_,h,_,_=>O0
 | k+1,i,acc,j,bad,hi,hk,hj,ha=>by
  have hl:=hb.1
  rw [yI]
  by_cases hc:i<l.length
  ·obtain⟨x,j',bad',h1,h2⟩:=WL (n:=n) (t:=2) (bad:=bad) hn hM hb hj
   rw [L4 O4,h1,L0,yU (by rw [L6]; omega),L0,w1 O0]
   exact Gy hn hM l hb k (i+1) _ j' bad' O0 O0 h2 (by rw [L5,L6]; omega)
  ·rw [L3 O4]
   exact⟨_,_,_,rfl,O0⟩
theorem zah {n:Nat} (hn:20≤n) (p:List Int) (hs:p.all sm=true) (hp:p.length≤1000):∀(k i:Nat) (acc:List Int),i≤p.length→p.length-i<k→acc.length≤i→yI n k (i:Int) acc ((p.map (numE 2)).map elm) (i:Int) false=some (acc++p.drop i,(p.map (numE 2)).map elm,((p.length:Nat):Int),false)
 |0,_,_,_,h,_=>O0
 | k+1,i,acc,hi,hk,ha=>by
  rw [yI]
  have hlen:((p.map (numE 2)).map elm).length=p.length:=by rw [L8,L8]
  rw [hlen]
  by_cases hc:i<p.length
  ·have hx:=Ld.1 hs p[i] (Li hc)
   have h1:=DU (n:=n) (t:=2) (x:=p[i]) (l:=(p.map (numE 2)).map elm) (i:=i) hn (by rw [hlen]; omega) hx (by simp [hc])
   rw [show((2:Nat):Int)=2 from rfl]at h1
   rw [L4 O4,h1,L0,yU (by rw [L6]; omega),L0,w1 O0]
   simp only []
   rw [zah hn p hs hp k (i+1) _ O0 O0 (by rw [L5,L6]; omega),Ln]
   congr 2
   rw [L9 hc]; rfl
  ·rw [L3 O4,La O0,Lh,show i=p.length by omega]
theorem Ga {n M:Nat} (hn:42*M+100≤n) (hM:M≤1000000) (el:List za×Int) (hb:Bd M el.1):∀(k i:Nat) (ps:List Bs) (bad:Bool),i≤el.1.length→el.1.length-i<k→ps.length+(el.1.length-i)≤M→(∀s∈ps,s.length≤42*M) →
  ∃ps' bad',zZ n el k ps (i:Int) bad=some (ps',bad')∧ps'.length≤M∧∀s∈ps',s.length≤42*M
 |0,_,_,_,_,h,_,_=>O0
 | k + 1,i,ps,bad,hi,hk,h1,h2=>by
  have hl:=hb.1
  rw [zZ]
  by_cases hc:i<el.1.length
  ·have hcl:=hb.2 _ (Li hc)
   obtain⟨s,x,hs,hsl⟩:=nU (n:=n) (b:=el.1[i].zc) O0 O0
   rw [L4 O4,zE hc,L0,hs,L0,ifb,L0,yU (by rw [L6]; omega),L0,w1 O0]
   exact Ga hn hM el hb k (i+1) _ _ O0 O0 (by rw [L5,L6]; omega) (by
    intro y hy; rcases Ll.1 hy with hy|hy
    ·exact h2 y hy
    ·simp at hy; subst hy; omega)
  ·rw [L3 O4]
   exact⟨_,_,rfl,O0,h2⟩
theorem Bp {n:Nat} (hn:1000≤n) (pols:List Bs) (hs:pols.all (fun s=>(y4 s).isSome)=true) (hp:pols.length≤1000000):∀(k i:Nat) (ps:List Bs),i≤pols.length→pols.length-i<k→ps.length≤i →
  zZ n ((pols.map polE).map elm,0) k ps (i:Int) false=some (ps++pols.drop i,false)
 |0,_,_,_,h,_=>O0
 | k+1,i,ps,hi,hk,h1=>by
  rw [zZ]
  have hlen:((pols.map polE).map elm).length=pols.length:=by rw [L8,L8]
  simp only []
  rw [hlen]
  by_cases hc:i<pols.length
  ·have hx:=Ld.1 hs pols[i] (Li hc)
   obtain⟨a,ha⟩:=Option.isSome_iff_exists.1 hx
   have hl:=Uu hx
   have hi2:zV ((pols.map polE).map elm) (i:Int)=some (elm (polE pols[i])):=by rw [zE (by rw [hlen]; omega)]; simp
   have hcont:(elm (polE pols[i])).zc=qg a:=by simp [elm,polE,ha]
   rw [L4 O4,hi2,L0,hcont,pS ha O0 O0,L0,ifb,L0,yU (by rw [L6]; omega),L0,w1 O0]
   have hb:(false||((0:Int) !=0))=false:=rfl
   simp only [hb]
   rw [Bp hn pols hs hp k (i+1) _ O0 O0 (by rw [L5,L6]; omega),Ln]
   congr 2
   rw [L9 hc]; rfl
  ·rw [L3 O4,La O0,Lh]
theorem KR {n M:Nat} {e:za} {m:zh} (hn:42*M+100≤n) (hM:M≤1000000) (hc:e.zc.length≤M):∃ps r,z1 n e m=some (ps,r)∧ps.length≤M∧∀s∈ps,s.length≤42*M:=by
 unfold z1
 rw [Yi O0 O0,L0,ifb,L0]
 have hb:=wg e.zc hc
 have hl:=hb.1
 obtain⟨ps,bad',h1,h2,h3⟩:=Ga (n:=n) hn hM (tList e.zc) hb n 0 [] (m.jP||((tList e.zc).2 !=0)) O0 O0 O3 O2
 rw [show((0:Nat):Int)=0 from rfl]at h1
 rw [h1]
 exact⟨_,_,rfl,h2,h3⟩
theorem Vq {n:Nat} {l:List za} {i:Int} {e:za} {pols:List Bs} (hn:2000000≤n) (hs:pols.all (fun s=>(y4 s).isSome)=true) (hl:(wraps (pols.map polE)).length≤131072) (he:e.zc=wraps (pols.map polE)):z1 n e ⟨l,i,false⟩=some (pols,⟨l,i,false⟩):=by
 unfold z1
 have hp:∀p∈pols.map polE,POk p:=by
  intro p hp; obtain⟨s,h1,rfl⟩:=Le.1 hp; exact KB (Ld.1 hs s h1)
 have hb:=wg (wraps (pols.map polE)) (M:=131072) hl
 rw [yV hp]at hb
 have hlen:=hb.1
 rw [L8,L8]at hlen
 rw [he,Yi O0 O0,yV hp,L0,ifb,L0]
 have hb:(false||((0:Int) !=0))=false:=rfl
 simp only [hb]
 have:=Bp (n:=n) O0 pols hs O0 n 0 [] O0 O0 O2
 rw [show((0:Nat):Int)=0 from rfl,Lf,Lg]at this
 rw [this]; rfl
theorem zem {n:Nat} {b:Bs} {x:Int} (hb:b.length≤1000000) (hn:200000000≤n) (hx:uL n b=some x):
  (x≠0→wJ n b=some (Z,x))∧(x=0→(va b).2=0→∃r,wJ n b=some r∧(∀v,Yv v=(b,0)→r=(v,0))∧(r=(Z,7)∨Yv r.1=(b,0)∧r.2=0)):=by
 unfold wJ xg
 rw [hx,L0]
 refine⟨fun h=>by rw [L4 (O9 h),L0,L4 (O9 h)]; rfl,fun h h0=> ?_⟩
 subst h
 rw [L3 O2,W0 O0 O0,L0,L0,L3 (by rw [h0]; simp)]
 have hbd:=YW b
 have hM:=hb
 generalize hMe:b.length=M at hbd hM
 simp only []
 rw [K9 O0 O0,L0]
 have b0:=wg (va b).1.zc hbd
 have hl0:=b0.1
 generalize hfl:(((va b).1.zA !=48)||((tList (va b).1.zc).2 !=0))=f0
 generalize hL:(tList (va b).1.zc).1=L at b0 hl0
 obtain⟨x1,j1,f1,h1,k1⟩:=WL (n:=n) (t:=2) (i:=0) (bad:=f0) O0 hM b0 O0
 rw [show((0:Nat):Int)=0 from rfl]at h1
 obtain⟨e2,j2,f2,h2,k2,c2⟩:=Qt (n:=n) (t:=48) (i:=j1) (bad:=f1) hM b0 k1
 have bp:=wg e2.zc c2
 obtain⟨a,j3,f3,h3,k3⟩:=Gy (n:=n) O0 hM (tList e2.zc).1 bp n 0 [] 0 ((e2.zA !=48)||((tList e2.zc).2 !=0)) O0 (by have:=bp.1; omega) O0 (by have:=bp.1; simp; omega)
 rw [show((0:Nat):Int)=0 from rfl]at h3
 obtain⟨x4,j4,f4,h4,k4⟩:=WL (n:=n) (t:=10) (i:=j2) (bad:=f2) O0 hM b0 k2
 obtain⟨x5,j5,f5,h5,k5⟩:=WL (n:=n) (t:=2) (i:=j4) (bad:=f4) O0 hM b0 k4
 obtain⟨e6,j6,f6,h6,k6,c6⟩:=Qt (n:=n) (t:=48) (i:=j5) (bad:=f5) hM b0 k5
 obtain⟨ps,r,h7,k7,k8⟩:=KR (n:=n) (M:=M) (e:=e6) (m:=⟨L,j6,f6⟩) O0 hM c6
 rw [h1,L0,h2,L0,K9 (e:=e2) O0 O0,L0]
 simp only []
 rw [h3,L0,h4,L0,h5,L0,h6,L0]
 simp only []
 rw [h7,L0]
 have hfit:Fit n (42*M) ⟨x1,a,⟨x4,x5,ps⟩⟩:=⟨O0,by show a.length≤_; omega,by show ps.length≤_; omega,k8,by show a.length+ps.length+_+_≤_; omega⟩
 rw [zeR hfit]
 simp only [L0,ifb]
 have hback:∀v,Yv v=(b,0)→(⟨x1,a,⟨x4,x5,ps⟩⟩:zu)=v∧(r.jP||f3)=false:=by
  intro v hv
  have ho:=D5 hv
  obtain⟨g1,g2,g3,g4,g5,g6⟩:=VF hv
  obtain⟨s1,s2,s3,s4⟩:=Gg g1
  rw [ho]at hL hfl
  simp only []at hL hfl
  rw [yV (Pf g2 g4)]at hL hfl
  have hf0:f0=false:=by rw [←hfl]; rfl
  subst hf0
  have hL:(ZL v).map elm=L:=hL
  have q1:=DU (n:=n) (t:=2) (x:=v.xj) (l:=L) (i:=0) O0 O0 s1 (by rw [←hL]; rfl)
  rw [show((2:Nat):Int)=2 from rfl,show((0:Nat):Int)=0 from rfl,h1]at q1
  injection q1 with q1; injection q1 with q1 q1'; injection q1' with q11 q12 q13
  have q12:j1=0+1:=O0
  subst q1 q12 q13
  have q2:=P0 (n:=n) (t:=48) (l:=L) (i:=1) (e:=elm (48,wraps (v.zM.map (numE 2)))) O0 (by rw [←hL]; rfl) rfl
  rw [h2]at q2
  injection q2 with q2; injection q2 with q2 q2'; injection q2' with q21 q22 q23
  have q22:j2=1+1:=O0
  subst q2 q22 q23
  have ht:tList (elm (48,wraps (v.zM.map (numE 2)))).zc=((v.zM.map (numE 2)).map elm,0):=yV (mX v.zM)
  rw [ht]at h3
  have q3:=zah (n:=n) O0 v.zM s2 O0 n 0 [] O0 O0 O2
  have hq:(((elm (48,wraps (v.zM.map (numE 2)))).zA !=48)||((0:Int) !=0))=false:=rfl
  simp only [hq]at h3
  rw [show((0:Nat):Int)=0 from rfl,Lf,Lg,h3]at q3
  injection q3 with q3; injection q3 with q3 q3'; injection q3' with q31 q32; injection q32 with q32 q33
  subst q3 q33
  have q4:=DU (n:=n) (t:=10) (x:=v.zi.yB) (l:=L) (i:=2) O0 O0 s3 (by rw [←hL]; rfl)
  rw [show((10:Nat):Int)=10 from rfl,h4]at q4
  injection q4 with q4; injection q4 with q4 q4'; injection q4' with q41 q42 q43
  have q42:j4=2+1:=O0
  subst q4 q42 q43
  have q5:=DU (n:=n) (t:=2) (x:=v.zi.zT) (l:=L) (i:=3) O0 O0 s4 (by rw [←hL]; rfl)
  rw [show((2:Nat):Int)=2 from rfl,h5]at q5
  injection q5 with q5; injection q5 with q5 q5'; injection q5' with q51 q52 q53
  have q52:j5=3+1:=O0
  subst q5 q52 q53
  have q6:=P0 (n:=n) (t:=48) (l:=L) (i:=4) (e:=elm (48,wraps (v.zi.ze.map polE))) O0 (by rw [←hL]; rfl) rfl
  rw [h6]at q6
  injection q6 with q6; injection q6 with q6 q6'; injection q6' with q61 q62 q63
  subst q6 q63
  have q7:=Vq (n:=n) (l:=L) (i:=(j6:Int)) (e:=elm (48,wraps (v.zi.ze.map polE))) (pols:=v.zi.ze) O0 g3 g4 rfl
  rw [h7]at q7
  injection q7 with q7; injection q7 with q7 q7'
  subst q7 q7'
  exact⟨rfl,rfl⟩
 generalize (⟨x1,a,⟨x4,x5,ps⟩⟩:zu)=v' at hback hfit ⊢
 by_cases hf:(r.jP||f3)=true
 ·have:(r.jP||(f3||((Yv v').2 !=0|| !((Yv v').1==b))))=true:=by
   rw [Bool.or_eq_true]at hf ⊢
   rcases hf with hf|hf
   ·exact .inl hf
   ·right; rw [hf]; rfl
  rw [L4 this]
  exact⟨_,rfl,(fun v hv=>by have:=(hback v hv).2; rw [hf]at this; exact absurd this O2), .inl rfl⟩
 ·have hf':r.jP=false∧f3=false:=by
   rw [Bool.not_eq_true,Bool.or_eq_false_iff]at hf; exact hf
  rw [hf'.1,hf'.2,Bool.false_or,Bool.false_or]
  by_cases hq:Yv v'=(b,0)
  ·rw [hq,L3 O2]
   exact⟨_,rfl,(fun v hv=>by rw [(hback v hv).1]), .inr ⟨hq,rfl⟩⟩
  ·have:(((Yv v').2 !=0)|| !((Yv v').1==b))=true:=by
    rw [Bool.or_eq_true,bne_iff_ne,Bool.not_eq_true',beq_eq_false_iff_ne]
    by_cases h7:(Yv v').2=0
    ·exact .inr (fun h8=>hq (Prod.ext h8 h7))
    ·exact .inl h7
   rw [L4 this]
   exact⟨_,rfl,(fun v hv=>by have:=(hback v hv).1; subst this; exact absurd hv hq), .inl rfl⟩
theorem nA {a:List Bs} (h:(wraps (a.map polE)).length≤131072) (hs:a.all (fun s=>(y4 s).isSome)=true):a.length≤131072:=by
 have hp:∀p∈a.map polE,POk p:=by
  intro p hp; obtain⟨s,h1,rfl⟩:=Le.1 hp; exact KB (Ld.1 hs s h1)
 have hb:=wg (wraps (a.map polE)) (M:=131072) h
 rw [yV hp]at hb
 have hlen:=hb.1
 rw [L8,L8]at hlen
 exact hlen
theorem zbh {n:Nat} {b:Bs} (hb:b.length≤1000000) (hn:200000000≤n):∃r,uT n b=some r∧wJ n b=some r∧r.1.zM.length≤131072∧r.1.zi.ze.length≤131072:=by
 obtain⟨x,h1,h2,h3⟩:=BK (n:=n) (b:=b) O0 O0
 obtain⟨p1,p2⟩:=ze2 hb hn h1
 obtain⟨r1,r2⟩:=zem hb hn h2
 by_cases hx:x=0
 ·obtain ⟨p,e1,e2,e3⟩:=p2 hx (h3 hx)
  obtain⟨r,q1,q2,q3⟩:=r2 hx (h3 hx)
  rcases e3 with e3|⟨e3,e4⟩
  ·rcases q3 with q3|⟨q3,q4⟩
   ·refine⟨p,e1,by rw [q1,q3,e3], ?_, ?_⟩<;>rw [e3]<;>exact Nat.zero_le _
   ·have:=e2 _ q3; rw [e3]at this; cases(Prod.mk.inj this).2
  ·have:=q2 _ e3
   have hp:p=(p.1,0):=Prod.ext rfl e4
   obtain⟨g1,g2,g3,g4,g5,g6⟩:=VF e3
   exact⟨p,e1,by rw [q1,this,←hp],O0,nA g4 g3⟩
 ·exact⟨_,p1 hx,r1 hx,Nat.zero_le _,Nat.zero_le _⟩
theorem Dl {n:Nat} (a:List Bs) (ha:a.length≤1000000):∀(k i:Nat),i≤a.length→a.length-i<k→ua n a a k (i:Int)=some (.nxt ())
 |0,_,_,h=>O0
 | k+1,i,hi,hk=>by
  rw [ua]
  by_cases hc:i<a.length
  ·rw [L4 O4,zE hc]
   simp only [L0]
   rw [L3 O2,w1 O0]
   exact Dl a ha k (i+1) O0 O0
  ·rw [L3 O4]
theorem Ps {n:Nat} (f:zu) (ha:f.zM.length≤1000000):∀(k i:Nat),i≤f.zM.length→f.zM.length-i<k→wC n f f k (i:Int)=some (.nxt ())
 |0,_,_,h=>O0
 | k+1,i,hi,hk=>by
  rw [wC]
  by_cases hc:i<f.zM.length
  ·rw [L4 O4,zE hc]
   simp only [L0]
   rw [L3 O2,w1 O0]
   exact Ps f ha k (i+1) O0 O0
  ·rw [L3 O4]
theorem ov {n:Nat} {f:zu} (h1:f.zM.length≤131072) (h2:f.zi.ze.length≤131072) (hn:1000000≤n):jH n f f=some true:=by
 have e1:=Dl (n:=n) f.zi.ze O0 n 0 O0 O0
 have e2:=Ps (n:=n) f O0 n 0 O0 O0
 rw [show((0:Nat):Int)=0 from rfl]at e1 e2
 have hS:uj n f.zi.ze f.zi.ze=some true:=by
  unfold uj
  rw [L3 O2,e1]; rfl
 have hR:jq n ⟨f.zi.yB,f.zi.zT,f.zi.ze⟩ ⟨f.zi.yB,f.zi.zT,f.zi.ze⟩=some true:=by
  unfold jq
  simp only []
  rw [L4 O2,L4 O2,hS]; rfl
 unfold jH
 rw [L3 O2,L3 O2,hR]
 simp only [L0]
 rw [L3 O2,e2]; rfl
def Wf:Nat→Nat×Bs→Prop
 |0,p=>p.1/32%2=0
 |k+1,p=>p.1/32%2=0∨∃l:List (Nat×Bs),(∀q∈l,POk q∧Wf k q)∧p.2=wraps l
theorem Wf.leaf {t:Nat} {c:Bs} {k:Nat} (h:t/32%2=0):Wf k (t,c):=by
 cases k with
 |zero=>exact h
 |succ k=>exact .inl h
theorem Wf.node {t:Nat} {k:Nat} {l:List (Nat×Bs)} (h:∀q∈l,POk q∧Wf k q):Wf (k+1) (t,wraps l):= .inr ⟨l,h,rfl⟩
theorem Wf.mono {k j:Nat} (h:k≤j):∀ {p:Nat×Bs},Wf k p→Wf j p:=by
 induction j generalizing k with
 |zero=>intro p hp; rw [show k=0 by omega]at hp; exact hp
 | succ j ih=>
  intro p hp
  cases k with
  |zero=>exact .inl hp
  | succ k=>
   rcases hp with hp|⟨l,h1,h2⟩
   ·exact .inl hp
   ·exact .inr ⟨l,fun q hq=>⟨(h1 q hq).1,ih O0 (h1 q hq).2⟩,h2⟩
theorem mU {l:List (List Att)} (h:okN l):Wf 4 (y8 l):=by
 refine Wf.node (t:=48) (k:=3) (l:=l.map dy) fun q hq=> ?_
 obtain⟨r,hr,rfl⟩:=Le.1 hq
 have ho:=JU (h.2 r hr)
 refine⟨mh (h.2 r hr),Wf.node (t:=49) (k:=2) (l:=(gf r).map U5) fun q hq=> ?_⟩
 obtain⟨a,ha,rfl⟩:=Le.1 hq
 have hok:=ho.2.2.1 a ha
 refine⟨lh hok,Wf.node (t:=48) (k:=1) (l:=Ux a) fun q hq=>⟨(Ur hok).1 q hq, ?_⟩⟩
 simp only [Ux,Lm,List.not_mem_nil,or_false]at hq
 rcases hq with rfl|rfl
 ·exact Wf.leaf (t:=6) O1
 ·refine Wf.leaf (t:=a.zG.toNat) ?_
  rcases UF hok.2.2.1 with e|e|e<;>rw [e]<;>decide
theorem zaO {k:zF} (h:okK k=true):Wf 2 (kR k):=by
 refine Wf.node (t:=48) (k:=1) (l:=XC k) fun q hq=>⟨(XU k h).1 q hq, ?_⟩
 simp only [XC,Lm,List.not_mem_nil,or_false]at hq
 rcases hq with rfl|rfl
 ·refine Wf.node (t:=48) (k:=0) (l:= [(6,Yw)]) fun q hq=> ?_
  rw [Lk]at hq; subst hq
  exact⟨⟨by dsimp only; decide,by dsimp only; decide,by dsimp only; decide⟩,by show(6:Nat)/32%2=0; decide⟩
 ·exact Wf.leaf (t:=3) O1
theorem zaM {a:Anc} (h:Zf a):Wf 5 (ancE a):=by
 refine Wf.node (t:=48) (k:=4) (l:=XJ a) fun q hq=>⟨(pL h).1 q hq, ?_⟩
 simp only [XJ,Lm,List.not_mem_nil,or_false]at hq
 rcases hq with rfl|rfl
 ·exact mU h.1
 ·exact(zaO h.2.2).mono O0
end Go.Abs
end
