/- The typed Lean form of WireEncodesQueries gives true for every list of at most 9223372036854775807 numbers and every raw query of at most as many issuers. -/
import Derived.Test.YtbggpcnbbhjiaaaGreatDoorLaw4
set_option linter.unusedVariables false
set_option linter.unusedSimpArgs false
set_option linter.unnecessarySimpa false
section
set_option maxRecDepth 100000
namespace Go.Abs
open Go Go.Proofs
theorem hP (a b c:Bool):(if a=true then some true else(if b=true then some true else some c))=some (a||(b||c)):=by cases a<;>cases b<;>rfl
theorem mY (a b c d:Bool):(if a=true then some true else(if b=true then some true else(if c=true then some true else some d)))=some (a||(b||(c||d))):=by cases a<;>cases b<;>cases c<;>rfl
def Ug (m j:Nat):Bool:=(List.range 5).all fun r:Nat=>match wc (m+1000) ((5*j+r:Nat):Int)with|some s=>decide (s.length=32)|none=>false
theorem sd0 (m:Nat):Ug m 0=true:=by kernel_rfl
theorem sd1 (m:Nat):Ug m 1=true:=by kernel_rfl
theorem sd2 (m:Nat):Ug m 2=true:=by kernel_rfl
theorem sd3 (m:Nat):Ug m 3=true:=by kernel_rfl
theorem sd4 (m:Nat):Ug m 4=true:=by kernel_rfl
theorem sd5 (m:Nat):Ug m 5=true:=by kernel_rfl
theorem sd6 (m:Nat):Ug m 6=true:=by kernel_rfl
theorem sd7 (m:Nat):Ug m 7=true:=by kernel_rfl
theorem sd8 (m:Nat):Ug m 8=true:=by kernel_rfl
theorem sd9 (m:Nat):Ug m 9=true:=by kernel_rfl
theorem oO (m:Nat):∀j,j<10→Ug m j=true
 |0,_=>sd0 m|1,_=>sd1 m|2,_=>sd2 m|3,_=>sd3 m|4,_=>sd4 m|5,_=>sd5 m|6,_=>sd6 m|7,_=>sd7 m|8,_=>sd8 m|9,_=>sd9 m
 |j+10,h=>by omega
theorem lq (m:Nat):vj (m+1000)=some true:=by kernel_rfl
theorem eD {n:Nat} {r:Int} (hn:1000≤n) (h0:0≤r) (h1:r<50):∃s,wc n r=some s∧s.length=32:=by
 obtain⟨m,rfl⟩:∃m,n=m+1000:=⟨n-1000,by omega⟩
 have h:=Lf.1 (oO m (r.toNat/5) (by omega)) (r.toNat%5) (by rw [List.mem_range]; omega)
 have e:((5*(r.toNat/5)+r.toNat%5:Nat):Int)=r:=by omega
 rw [e]at h
 cases hs:wc (m+1000) r with
 |none=>rw [hs]at h; cases h
 |some s=>rw [hs]at h; exact⟨s,rfl,by simpa using h⟩
theorem K6 {n:Nat} {d:zh} (hn:1000≤n) (hd:vE d):∃k d',wW n d=some (k,d')∧vE d':=by
 unfold wW
 obtain⟨r,d1,e1,a1,b1,k1⟩:=vi (n:=n) (k:=50) (by decide) (by decide) hd
 obtain⟨s,e2,l2⟩:=eD (n:=n) hn a1 b1
 obtain⟨x,e3⟩:=cz (s:=s) (i:=0) (j:=16) (by omega) (by omega) (by omega)
 obtain⟨y,e4⟩:=cz (s:=s) (i:=16) (j:=(s.length:Nat)) (by omega) (by omega) (by omega)
 obtain⟨q,d2,e5,a5,b5,k5⟩:=vi (n:=n) (k:=9) (by decide) (by decide) k1
 rw [e1,L0]; simp only []
 rw [e2,L0,e3,L0,e4,L0,e5]
 exact⟨_,_,rfl,k5⟩
def bdN (B:Nat) (l:List (List Att)):Bool:=decide (l.length≤B)&&l.all fun r=>decide (r.length≤B)&&r.all fun a=>decide (a.yS.length≤B)&&decide (a.wo.length≤B)
theorem ld {B:Nat} {l:List (List Att)} (h:bdN B l=true):BdN B l:=by
 simp only [bdN,Le,L1,Lf]at h
 exact⟨h.1,fun r hr=>⟨(h.2 r hr).1,fun a ha=>(h.2 r hr).2 a ha⟩⟩
theorem Qi {n:Nat} {r:Int} (hn:1000≤n) (h0:0≤r) (h1:r<16):∃x,wK n r=some x∧BdN 252 x.zk:=by
 obtain⟨m,rfl⟩:∃m,n=m+1000:=⟨n-1000,by omega⟩
 have h:=Lf.1 (show((List.range 16).all fun r:Nat=>match wK (m+1000) (r:Int)with|some x=>bdN 252 x.zk|none=>false)=true by kernel_rfl) r.toNat (by rw [List.mem_range]; omega)
 rw [show((r.toNat:Nat):Int)=r by omega]at h
 cases hs:wK (m+1000) r with
 |none=>rw [hs]at h; cases h
 |some x=>rw [hs]at h; exact⟨x,rfl,ld h⟩
theorem cU {n:Nat} {d:zh} (hd:vE d):∃a d',vp n d=some (a,d')∧BdA 252 a∧vE d':=by
 unfold vp
 obtain⟨r,d1,e1,a1,b1,k1⟩:=vi (n:=n) (k:=12) (by decide) (by decide) hd
 rw [e1,L0]; simp only []
 obtain⟨m,rfl⟩:∃m:Nat,r=(m:Int):=⟨r.toNat,by omega⟩
 have hm:m<12:=by omega
 match m,hm with
 |0,_|1,_|2,_|3,_|4,_|5,_|6,_|7,_|8,_|9,_|10,_|11,_=>exact⟨_,_,rfl,⟨by decide,by decide⟩,k1⟩
 |j+12,h=>omega
theorem JT {n:Nat}:∀(j k:Nat) (acc:List Att) (L:List Int) (At:Int),j<k→acc.length+j≤100→(∀a∈acc,BdA 252 a)→vE ⟨L,At⟩ →
  ∃acc' L' At',xC n k acc (j:Int) L At=some (acc',L',At')∧acc'.length≤acc.length+j∧(∀a∈acc',BdA 252 a)∧vE ⟨L',At'⟩
 |j,0,_,_,_,h,_,_,_=>by omega
 | 0,k+1,acc,L,At,_,_,ha,hd=>by
  rw [xC,L3 (by decide)]
  exact⟨_,_,_,rfl,by omega,ha,hd⟩
 | j + 1,k+1,acc,L,At,hk,hl,ha,hd=>by
  rw [xC,L4 (by rw [L1]; omega)]
  obtain⟨a,d1,e1,b1,k1⟩:=cU (n:=n) hd
  have ew:IntKind.wrap .i64 (((j+1:Nat):Int)-1)=(j:Int):=by rw [xf (by omega)]; omega
  have key:∃c,(if((List.length acc:Int)==0)=true then(some true)else((z1 acc 0).bind fun x2478=>some (!(x2478.yS==a.yS))))=some c:=by
   refine Uq (fun _=>⟨_,rfl⟩) fun h=> ?_
   obtain⟨x,hx⟩:=qz (s:=acc) (i:=0) (by omega) (by rw [beq_iff_eq]at h; omega)
   rw [hx]; exact⟨_,rfl⟩
  obtain⟨c,hc⟩:=key
  rw [e1,L0]; simp only []
  rw [hc,L0,ew]
  cases c with
  | true=>
   rw [L4 rfl,w8 (by rw [L8]; omega),L0,L0]
   obtain ⟨acc',L',At',g1,g2,g3,g4⟩:=JT (n:=n) j k (acc ++ [a]) d1.f_L d1.zW (by omega) (by rw [L6,L8]; omega) (by
    intro y hy; rcases Ln.1 hy with h|h
    ·exact ha y h
    ·rw [Lm]at h; subst h; exact b1) k1
   exact⟨acc',L',At',g1,by rw [L6,L8]at g2; omega,g3,g4⟩
  | false=>
   rw [L3 (by simp),L0]
   obtain⟨acc',L',At',g1,g2,g3,g4⟩:=JT (n:=n) j k acc d1.f_L d1.zW (by omega) (by omega) ha k1
   exact⟨acc',L',At',g1,by omega,g3,g4⟩
theorem GJ {n:Nat} (hn:1000≤n):∀(j k:Nat) (acc:List (List Att)) (L:List Int) (At:Int),j<k→acc.length+j≤100→(∀r∈acc,BdR 252 r)→vE ⟨L,At⟩ →
  ∃acc' L' At',xG n k (j:Int) L At acc=some (L',At',acc')∧acc'.length≤acc.length+j∧(∀r∈acc',BdR 252 r)∧vE ⟨L',At'⟩
 |j,0,_,_,_,h,_,_,_=>by omega
 | 0,k+1,acc,L,At,_,_,ha,hd=>by
  rw [xG,L3 (by decide)]
  exact⟨_,_,_,rfl,by omega,ha,hd⟩
 | j+1,k+1,acc,L,At,hk,hl,ha,hd=>by
  rw [xG,L4 (by rw [L1]; omega)]
  obtain⟨r,d1,e1,a1,b1,k1⟩:=vi (n:=n) (k:=5) (by decide) (by decide) hd
  have ew:IntKind.wrap .i64 (((j+1:Nat):Int)-1)=(j:Int):=by rw [xf (by omega)]; omega
  have ec:∃q:Nat,q≤2∧IntKind.wrap .i64 ((1:Int)+IntKind.wrap .i64 (Int.tdiv r 4))=(q:Int):=by
   obtain⟨m,rfl⟩:∃m:Nat,r=(m:Int):=⟨r.toNat,by omega⟩
   have hm:m<5:=by omega
   match m,hm with
   |0,_|1,_|2,_|3,_=>exact⟨1,by omega,rfl⟩
   |4,_=>exact⟨2,by omega,rfl⟩
   |j+5,h=>omega
  obtain⟨q,hq,eq⟩:=ec
  rw [e1,L0]; simp only []
  rw [eq]
  obtain⟨att,L2,At2,g1,g2,g3,g4⟩:=JT (n:=n) q n [] d1.f_L d1.zW (by omega) (by simp; omega) (by simp) k1
  rw [g1,L0]; simp only []
  rw [w8 (by rw [L8]; omega),L0,ew]
  obtain ⟨acc',L',At',p1,p2,p3,p4⟩:=GJ hn j k (acc ++ [att]) L2 At2 (by omega) (by rw [L6,L8]; omega) (by
   intro y hy; rcases Ln.1 hy with h|h
   ·exact ha y h
   ·rw [Lm]at h; subst h; exact⟨by simp only [Ll]at g2; omega,g3⟩) g4
  exact⟨acc',L',At',p1,by rw [L6,L8]at p2; omega,p3,p4⟩
theorem V4 {n:Nat} {d:zh} (hn:1000≤n) (hd:vE d):∃x d',we n d=some (x,d')∧BdN 252 x.zk∧vE d':=by
 unfold we
 obtain⟨r,d1,e1,a1,b1,k1⟩:=vi (n:=n) (k:=4) (by decide) (by decide) hd
 obtain⟨m,rfl⟩:∃m:Nat,r=(m:Int):=⟨r.toNat,by omega⟩
 obtain⟨acc',L',At',p1,p2,p3,p4⟩:=GJ (n:=n) hn m n [] d1.f_L d1.zW (by omega) (by simp; omega) (by simp) k1
 rw [e1,L0]; simp only []
 rw [p1]
 exact⟨_,_,rfl,⟨by show acc'.length≤_; simp only [Ll]at p2; omega,p3⟩,p4⟩
theorem Kl {n:Nat} (r:List Att) (hr:r.length≤8):∀(k i:Nat),i≤r.length→r.length-i<k→yG n r k (i:Int)=some (.ret false)∨(yG n r k (i:Int)=some (.nxt ())∧∀a∈r.drop i,BdA 200 a)
 |0,i,_,h=>by omega
 | k + 1,i,hi,hk=>by
  rw [yG]
  by_cases hc:i<r.length
  ·rw [L4 (by rw [L1]; omega),z2 hc,L0,ifb,L0]
   by_cases h:(decide ((List.length r[i].yS:Int)>200)||decide ((List.length r[i].wo:Int)>200))=true
   ·rw [L4 h]; exact .inl rfl
   ·rw [L3 h,w1 (by omega)]
    rw [Bool.not_eq_true,Bool.or_eq_false_iff,decide_eq_false_iff_not,decide_eq_false_iff_not]at h
    rcases Kl (n:=n) r hr k (i+1) (by omega) (by omega)with h1|⟨h1,h2⟩
    ·exact .inl h1
    ·refine .inr ⟨h1,fun a ha=> ?_⟩
     rw [Lb hc]at ha
     rcases Lo.1 ha with rfl|ha
     ·exact⟨by omega,by omega⟩
     ·exact h2 a ha
  ·rw [L3 (by rw [L1]; omega),Lc (by omega)]
   exact .inr ⟨rfl,by simp⟩
theorem QH {n:Nat} (l:List (List Att)) (hl:l.length≤12) (hn:1000≤n):∀(k i:Nat),i≤l.length→l.length-i<k→yC n ⟨l⟩ k (i:Int)=some (.ret false)∨(yC n ⟨l⟩ k (i:Int)=some (.nxt ())∧∀r∈l.drop i,BdR 200 r)
 |0,i,_,h=>by omega
 | k + 1,i,hi,hk=>by
  rw [yC]
  by_cases hc:i<l.length
  ·rw [L4 (by rw [L1]; show(i:Int)<(l.length:Int); omega)]
   simp only [z2 hc,L0]
   by_cases h:l[i].length>8
   ·rw [L4 (by rw [L1]; omega)]; exact .inl rfl
   ·rw [L3 (by rw [L1]; omega)]
    rcases Kl (n:=n) l[i] (by omega) n 0 (by omega) (by omega)with h1|⟨h1,h2⟩
    ·rw [show((0:Nat):Int)=0 from rfl]at h1
     rw [h1]; exact .inl rfl
    ·rw [show((0:Nat):Int)=0 from rfl]at h1
     rw [Lh]at h2
     rw [h1]
     simp only [yW]
     rw [w1 (by omega)]
     rcases QH (n:=n) l hl hn k (i+1) (by omega) (by omega)with h3|⟨h3,h4⟩
     ·exact .inl h3
     ·refine .inr ⟨h3,fun a ha=> ?_⟩
      rw [Lb hc]at ha
      rcases Lo.1 ha with rfl|ha
      ·exact⟨by omega,h2⟩
      ·exact h4 a ha
  ·rw [L3 (by rw [L1]; show ¬(i:Int)<(l.length:Int); omega),Lc (by omega)]
   exact .inr ⟨rfl,by simp⟩
theorem Qr {n:Nat} (l:List (List Att)) (hn:1000≤n):∃b,wL n ⟨l⟩=some b∧(b=true→BdN 252 l):=by
 unfold wL
 by_cases h:l.length>12
 ·rw [L4 (by rw [L1]; show(l.length:Int)>12; omega)]; exact⟨false,rfl,fun h=>by cases h⟩
 ·rw [L3 (by rw [L1]; show ¬(l.length:Int)>12; omega)]
  rcases QH (n:=n) l (by omega) hn n 0 (by omega) (by omega)with h1|⟨h1,h2⟩
  ·rw [show((0:Nat):Int)=0 from rfl]at h1
   rw [h1]; exact⟨false,rfl,fun h=>by cases h⟩
  ·rw [show((0:Nat):Int)=0 from rfl]at h1
   rw [Lh]at h2
   rw [h1]; exact⟨true,rfl,fun _=>⟨by omega,fun r hr=>(h2 r hr).mono (by omega)⟩⟩
theorem Gw {n:Nat} (l:List Anc) (hl:l.length≤9223372036854775807) (hn:1000≤n):∀(k i:Nat),i≤l.length→l.length-i<k→xy n l k (i:Int)=some (.ret false)∨(xy n l k (i:Int)=some (.nxt ())∧BdL 252 (l.drop i))
 |0,i,_,h=>by omega
 | k + 1,i,hi,hk=>by
  rw [xy]
  by_cases hc:i<l.length
  ·obtain ⟨b,hb1,hb2⟩:=Qr (n:=n) l[i].zr.zk hn
   rw [L4 (by rw [L1]; omega)]
   simp only [z2 hc,L0,hb1]
   rw [hP,L0]
   by_cases h:(!b||(decide ((List.length l[i].zw.wm:Int)>100)||decide ((List.length l[i].zw.zT:Int)>100)))=true
   ·rw [L4 h]; exact .inl rfl
   ·rw [L3 h,w1 (by omega)]
    rw [Bool.not_eq_true,Bool.or_eq_false_iff]at h
    rcases Gw (n:=n) l hl hn k (i+1) (by omega) (by omega)with h3|⟨h3,h4⟩
    ·exact .inl h3
    ·refine .inr ⟨h3,fun a ha=> ?_⟩
     rw [Lb hc]at ha
     rcases Lo.1 ha with rfl|ha
     ·exact hb2 (by simpa using h.1)
     ·exact h4 a ha
  ·rw [L3 (by rw [L1]; omega),Lc (by omega)]
   exact .inr ⟨rfl,by intro a ha; simp at ha⟩
def Wf:Nat→Nat×Bs→Prop
 |0,p=>p.1/32%2=0
 |k+1,p=>p.1/32%2=0∨∃l:List (Nat×Bs),(∀q∈l,POk q∧Wf k q)∧p.2=wraps l
theorem Wf.leaf {t:Nat} {c:Bs} {k:Nat} (h:t/32%2=0):Wf k (t,c):=by
 cases k with
 |zero=>exact h
 |succ k=>exact .inl h
theorem Wf.node {t:Nat} {k:Nat} {l:List (Nat×Bs)} (h:∀q∈l,POk q∧Wf k q):Wf (k+1) (t,wraps l):= .inr ⟨l,h,rfl⟩
theorem Wf.mono {k j:Nat} (h:k≤j):∀ {p:Nat×Bs},Wf k p→Wf j p:=by
 induction j generalizing k with
 |zero=>intro p hp; rw [show k=0 by omega]at hp; exact hp
 | succ j ih=>
  intro p hp
  cases k with
  |zero=>exact .inl hp
  | succ k=>
   rcases hp with hp|⟨l,h1,h2⟩
   ·exact .inl hp
   ·exact .inr ⟨l,fun q hq=>⟨(h1 q hq).1,ih (by omega) (h1 q hq).2⟩,h2⟩
theorem eK {l:List (List Att)} (h:okN l):Wf 4 (jl l):=by
 refine Wf.node (t:=48) (k:=3) (l:=l.map dh) fun q hq=> ?_
 obtain⟨r,hr,rfl⟩:=Lg.1 hq
 have ho:=Un (h.2 r hr)
 refine⟨eN (h.2 r hr),Wf.node (t:=49) (k:=2) (l:=(Z0 r).map Dy) fun q hq=> ?_⟩
 obtain⟨a,ha,rfl⟩:=Lg.1 hq
 have hok:=ho.2.2.1 a ha
 refine⟨cK hok,Wf.node (t:=48) (k:=1) (l:=Wi a) fun q hq=>⟨(Wm hok).1 q hq, ?_⟩⟩
 simp only [Wi,Lo,List.not_mem_nil,or_false]at hq
 rcases hq with rfl|rfl
 ·exact Wf.leaf (t:=6) (by decide)
 ·refine Wf.leaf (t:=a.zI.toNat) ?_
  rcases VF hok.2.2.1 with e|e|e<;>rw [e]<;>decide
abbrev Gen:=zc
def okG (n:Nat) (g:Gen):Prop:=wQ n g false=some 0
def BdG (B:Nat) (g:Gen):Prop:=g.ye.length≤B∧BdN B g.zr.zk
def j2 (g:Gen):Nat×Bs:=if g.zI=4 then(164,(tWrap (jl g.zr.zk).1 (jl g.zr.zk).2).1)else((128+g.zI).toNat,g.ye)
def fb (g:Gen):Gen:=⟨g.zI,g.ye,⟨eS g.zr.zk⟩⟩
theorem Y5 {n B:Nat} {g:Gen} (h:okG n g) (hb:BdN B g.zr.zk) (hB:B≤1000000) (hn:B+100≤n):
  (g.zI=4∧g.ye= []∧okN g.zr.zk)∨((g.zI=1∨g.zI=2∨g.zI=7)∧g.zr.zk= []):=by
 unfold okG wQ gd at h
 by_cases k1:g.zI=4
 ·left
  rw [k1,L3 (by decide),L3 (by decide),L4 (by decide),L0,L3 (by decide),L4 (by decide)]at h
  by_cases ht:g.ye= []
  ·rw [L3 (by rw [ht]; decide),UM hb hB hn]at h
   injection h with h
   exact⟨k1,ht,kJ.1 h⟩
  ·rw [L4 (by simpa using ht)]at h; injection h with h; exact absurd h (by decide)
 ·right
  have rd:(if decide ((List.length g.zr.zk:Int)>0)=true then some true else none)=some true→False∨True:=fun _=> .inr trivial
  have key:∀v:Int,v≠4→v≠2→((some v:Option Int).bind fun r1=>
    if(r1==4)=true then(some (14:Int))else(if(r1==2)=true then(if(!(g.ye==([]:List UInt8)))=true then(some 14)else((ut n (zu.mk g.zr.zk)).bind fun r6=>
    some r6))else((if(decide ((List.length g.zr.zk:Int)>0))=true then(some true)else((xI n r1 g.ye false).bind fun r7=>
    some (!r7))).bind fun y9=>
    if y9=true then(some 14)else(some 0))))=some 0→g.zr.zk= []:=by
   intro v h4 h2 h
   rw [L0,L3 (by simpa using h4),L3 (by simpa using h2)]at h
   by_cases hl:g.zr.zk= []
   ·exact hl
   ·have:0<g.zr.zk.length:=List.length_pos_iff.2 hl
    rw [L4 (by rw [L1]; omega),L0,L4 rfl]at h
    injection h with h; exact absurd h (by decide)
  by_cases k2:g.zI=1
  ·rw [k2,L4 (by decide)]at h
   exact⟨.inl k2,key 0 (by decide) (by decide) h⟩
  by_cases k3:g.zI=2
  ·rw [k3,L3 (by decide),L4 (by decide)]at h
   exact⟨.inr (.inl k3),key 1 (by decide) (by decide) h⟩
  by_cases k4:g.zI=7
  ·rw [k4,L3 (by decide),L3 (by decide),L3 (by decide),L4 (by decide)]at h
   exact⟨.inr (.inr k4),key 3 (by decide) (by decide) h⟩
  rw [L3 (by simpa using k2),L3 (by simpa using k3),L3 (by simpa using k1),L3 (by simpa using k4),L0,L4 (by decide)]at h
  injection h with h; exact absurd h (by decide)
theorem en {n B:Nat} {l:List (List Att)} (h:okN l) (hb:BdN B l) (hB:B≤1000000) (hn:B+100≤n):okG n ⟨4,[],⟨l⟩⟩:=by
 unfold okG wQ gd
 dsimp only
 rw [L3 (by decide),L3 (by decide),L4 (by decide),L0,L3 (by decide),L4 (by decide),L3 (by decide),UM hb hB hn,kJ.2 h]
 rfl
theorem PN {n B:Nat} {g:Gen} (h:okG n g) (hb:BdN B g.zr.zk) (hB:B≤1000000) (hn:B+1000≤n):okG n (fb g):=by
 obtain⟨k,t,⟨l⟩⟩:=g
 rcases Y5 h hb hB (by omega)with⟨h1,h2,h3⟩|⟨h1,h2⟩
 ·simp only at h1 h2 h3
  subst h1 h2
  exact en (UN h3) (DP (UN h3)) (by omega) (by omega)
 ·simp only at h2
  subst h2
  exact h
theorem WF {n B:Nat} {g:Gen} (h:okG n g) (hb:BdG B g) (hB:B≤60000) (hn:B+1000≤n):POk (j2 g)∧(j2 g).2.length≤B+4333∧Wf 5 (j2 g):=by
 rcases Y5 h hb.2 (by omega) (by omega)with⟨h1,h2,h3⟩|⟨h1,h2⟩
 ·have e:j2 g=(164,(tWrap (jl g.zr.zk).1 (jl g.zr.zk).2).1):=by unfold j2; rw [L4 h1]
  have l1:=gM h3
  have l2:=ym (jl g.zr.zk).1 (jl g.zr.zk).2
  rw [e]
  refine⟨⟨by dsimp only; decide,by dsimp only; decide,by dsimp only; omega⟩,by dsimp only; omega, ?_⟩
  have ew:(tWrap (jl g.zr.zk).1 (jl g.zr.zk).2).1=wraps [jl g.zr.zk]:=by simp [wraps]
  rw [ew]
  exact Wf.node (t:=164) (k:=4) (l:= [jl g.zr.zk]) fun q hq=>by
   rw [Lm]at hq; subst hq; exact⟨QF h3,eK h3⟩
 ·have hk:¬g.zI=4:=by omega
  have e:j2 g=((128+g.zI).toNat,g.ye):=by unfold j2; rw [L3 hk]
  have:=hb.1
  rw [e]
  rcases h1 with h1|h1|h1<;>rw [h1]
  all_goals refine⟨⟨by dsimp only; decide,by dsimp only; decide,by dsimp only; omega⟩,by dsimp only; omega,Wf.leaf (by decide)⟩
theorem rk {n B:Nat} {g:Gen} (h:okG n g) (hb:BdG B g) (hB:B≤60000) (hn:B+1000≤n):j0 n g false=some ((tWrap (j2 g).1 (j2 g).2).1,0):=by
 obtain⟨hp,hl,_⟩:=WF h hb hB hn
 unfold j0
 have h':wQ n ⟨g.zI,g.ye,⟨g.zr.zk⟩⟩ false=some 0:=h
 rw [h',L0,L3 (by decide)]
 rcases Y5 h hb.2 (by omega) (by omega)with⟨h1,h2,h3⟩|⟨h1,h2⟩
 ·have e:j2 g=(164,(tWrap (jl g.zr.zk).1 (jl g.zr.zk).2).1):=by unfold j2; rw [L4 h1]
  rw [e]at hl ⊢
  have e0:Yx g.zr.zk=((tWrap 48 (jl g.zr.zk).2).1,0):=by unfold Yx; rw [L3 (by rw [kJ.2 h3]; simp)]
  have ek:IntKind.wrap .i64 ((160:Int)+4)=((164:Nat):Int):=by decide
  rw [L3 (by rw [h1]; decide),Jj hb.2 (by omega) (by omega),L0,e0,L3 (by simp),h1,ek]
  have l3:(tWrap 48 (jl g.zr.zk).2).1.length≤B+4333:=hl
  rw [WH (by omega) (by omega) (by dsimp only; omega) (by omega),L0,j3 (t:=164) (by dsimp only; omega)]
  rfl
 ·have hk:¬g.zI=4:=by omega
  have e:j2 g=((128+g.zI).toNat,g.ye):=by unfold j2; rw [L3 hk]
  have hbt:=hb.1
  have ek:IntKind.wrap .i64 ((128:Int)+g.zI)=(((128+g.zI).toNat:Nat):Int):=by rw [xf (by omega)]; omega
  rw [e,L4 (by simpa using hk),ek,WH (by omega) (by rcases h1 with h1|h1|h1<;>rw [h1]<;>decide) (by omega) (by omega),L0,j3 (by omega)]
theorem QR {n B:Nat} (hB:B≤60000) (hn:B+1000≤n) (l:List Gen) (ho:∀g∈l,okG n g) (hb:∀g∈l,BdG B g) (hl:l.length≤16):∀(k i:Nat) (acc:Bs),i≤l.length→l.length-i<k→acc.length≤100000*i→wO n l k acc (i:Int)=some (.nxt (acc++wraps ((l.drop i).map j2)))
 |0,i,_,_,h,_=>by omega
 | k+1,i,acc,hi,hk,ha=>by
  rw [wO]
  by_cases hc:i<l.length
  ·have hx:=Lk hc
   obtain⟨_,hgl,_⟩:=WF (ho _ hx) (hb _ hx) hB hn
   have hw:=ym (j2 l[i]).1 (j2 l[i]).2
   have he:j0 n ⟨l[i].zI,l[i].ye,⟨l[i].zr.zk⟩⟩ false=some ((tWrap (j2 l[i]).1 (j2 l[i]).2).1,0):=rk (ho _ hx) (hb _ hx) hB hn
   rw [L4 (by rw [L1]; omega),z2 hc,L0,he,L0,L3 (by simp),xh (by dsimp only; omega),L0,w1 (by omega)]
   dsimp only
   rw [QR hB hn l ho hb hl k (i+1) _ (by omega) (by omega) (by rw [L6]; omega),Lb hc,Ld,qm,Lp]
  ·rw [L3 (by rw [L1]; omega),Lc (by omega)]
   simp [wraps]
theorem oa {n B:Nat} (hB:B≤60000) (hn:B+1000≤n) {l:List Gen} (ho:∀g∈l,okG n g) (hb:∀g∈l,BdG B g) (h0:l≠ []) (hl:l.length≤16):uv n l=some (wraps (l.map j2),0):=by
 have hp:0<l.length:=List.length_pos_iff.2 h0
 unfold uv gH
 have e:=QR (n:=n) hB hn l ho hb hl n 0 [] (by omega) (by omega) (by simp)
 rw [show((0:Nat):Int)=0 from rfl,Lh,Li]at e
 rw [L3 (by rw [beq_iff_eq]; omega),L3 (by rw [L1]; omega),L0,L3 (by decide),e]
 rfl
def fk:List Int:= [0,1000,2000000000,3155759999,3155760000,254033452799,2400000000]
abbrev Qry:=zl
def U6 (q:Qry):Qry:={q with zD:=q.zD.map fb,zn:=q.zn.map Pd}
def BdQ (B:Nat) (q:Qry):Prop:=q.zM.length≤B∧(∀s∈q.zo,s.length≤B)∧(∀g∈q.zD,BdG B g)∧∀a∈q.zn,BdN B a.zr.zk
def QOk (n:Nat) (q:Qry):Prop:=(q.zM= []∨(vA q.zM).isSome=true)∧(0≤q.wb∧q.wb≤511)∧(1≤q.yU∧q.yU≤8)∧(q.zo.length≤8∧q.zD.length≤16∧q.zn.length≤64)∧q.zo.all (fun s=>(vA s).isSome)=true∧(∀g∈q.zD,okG n g)∧∀a∈q.zn,W7 a
theorem Ja {n:Nat} {q q':Qry} (h:q'.zo=q.zo):∀(k:Nat) (i:Int) (m:List (Bs×Bool)),yb n q' k i m=yb n q k i m
 |0,i,m=>rfl
 |k+1,i,m=>by rw [yb,yb]; simp only [h,Ja h k]
theorem K5 {n B:Nat} (hB:B≤100000) (hn:B+1000≤n) (q:Qry) (hb:∀s∈q.zo,s.length≤B) (hl:q.zo.length≤8):∀(k i:Nat) (m:List (Bs×Bool)) (c:Ctl Int (List (Bs×Bool))),i≤q.zo.length→yb n q k (i:Int) m=some c →
  (∃m',c= .nxt m'∧∀s∈q.zo.drop i,(vA s).isSome=true)∨c= .ret 11
 |0,i,m,c,_,h=>by rw [yb]at h; cases h
 | k + 1,i,m,c,hi,h=>by
  rw [yb]at h
  by_cases hc:i<q.zo.length
  ·have hx:=hb _ (Lk hc)
   rw [L4 (by rw [L1]; omega),z2 hc,L0,ZI (by omega) (by omega),L0]at h
   by_cases hv:(vA q.zo[i]).isSome=true
   ·rw [L3 (by rw [hv]; simp),w1 (by omega)]at h
    rcases K5 hB hn q hb hl k (i+1) _ c (by omega) h with⟨m',h1,h2⟩|h1
    ·refine .inl ⟨m',h1,fun s hs=> ?_⟩
     rw [Lb hc]at hs
     rcases Lo.1 hs with rfl|hs
     ·exact hv
     ·exact h2 s hs
    ·exact .inr h1
   ·rw [L4 (by simpa using hv)]at h
    injection h with h; exact .inr h.symm
  ·rw [L3 (by rw [L1]; omega)]at h
   injection h with h
   refine .inl ⟨m,h.symm, ?_⟩
   rw [Lc (by omega)]; simp
theorem BE {n:Nat} (q:Qry) (hl:q.zD.length≤16):∀(k i:Nat) (c:Ctl Int Unit),i≤q.zD.length→yE n q k (i:Int)=some c →
  (c= .nxt ()∧∀g∈q.zD.drop i,okG n g)∨∃r,r≠0∧c= .ret r
 |0,i,c,_,h=>by rw [yE]at h; cases h
 | k + 1,i,c,hi,h=>by
  rw [yE]at h
  by_cases hc:i<q.zD.length
  ·rw [L4 (by rw [L1]; omega),z2 hc,L0,Option.bind_eq_some_iff]at h
   obtain⟨r,h1,h2⟩:=h
   by_cases hv:r=0
   ·subst hv
    rw [L3 (by decide),w1 (by omega)]at h2
    rcases BE q hl k (i+1) c (by omega) h2 with⟨g1,g2⟩|g1
    ·refine .inl ⟨g1,fun s hs=> ?_⟩
     rw [Lb hc]at hs
     rcases Lo.1 hs with rfl|hs
     ·exact h1
     ·exact g2 s hs
    ·exact .inr g1
   ·rw [L4 (by simpa using hv)]at h2
    injection h2 with h2; exact .inr ⟨r,hv,h2.symm⟩
  ·rw [L3 (by rw [L1]; omega)]at h
   injection h with h
   refine .inl ⟨h.symm, ?_⟩
   rw [Lc (by omega)]; simp
theorem Jy {n:Nat} (q:Qry) (hl:q.zD.length≤16) (ho:∀g∈q.zD,okG n g):∀(k i:Nat),i≤q.zD.length→q.zD.length-i<k→yE n q k (i:Int)=some (.nxt ())
 |0,i,_,h=>by omega
 | k+1,i,hi,hk=>by
  rw [yE]
  by_cases hc:i<q.zD.length
  ·have h:wQ n ⟨q.zD[i].zI,q.zD[i].ye,⟨q.zD[i].zr.zk⟩⟩ false=some 0:=ho _ (Lk hc)
   rw [L4 (by rw [L1]; omega),z2 hc,L0,h,L0,L3 (by decide),w1 (by omega)]
   exact Jy q hl ho k (i+1) (by omega) (by omega)
  ·rw [L3 (by rw [L1]; omega)]
theorem BG {n B:Nat} (hB:B≤100000) (hn:B+1000≤n) (q:Qry) (hb:∀a∈q.zn,BdN B a.zr.zk) (hl:q.zn.length≤64):∀(k i:Nat) (c:Ctl Int Unit),i≤q.zn.length→yF n q k (i:Int)=some c →
  (c= .nxt ()∧∀a∈q.zn.drop i,W7 a)∨∃r,r≠0∧c= .ret r
 |0,i,c,_,h=>by rw [yF]at h; cases h
 | k + 1,i,c,hi,h=>by
  rw [yF]at h
  by_cases hc:i<q.zn.length
  ·rw [L4 (by rw [L1]; omega),z2 hc,L0,UM (hb _ (Lk hc)) (by omega) (by omega),L0]at h
   by_cases h1:uz q.zn[i].zr.zk≠0
   ·rw [L4 (by simpa using h1)]at h
    injection h with h; exact .inr ⟨_,h1,h.symm⟩
   rw [L3 (by simpa using h1)]at h
   by_cases h2:q.zn[i].zr.zk= []
   ·rw [L4 (by rw [h2]; rfl)]at h
    injection h with h; exact .inr ⟨14,by decide,h.symm⟩
   rw [L3 (by simpa using h2),eh,L0]at h
   by_cases h3:okK q.zn[i].zw=true
   ·rw [L4 (show okK ⟨q.zn[i].zw.zA,q.zn[i].zw.wm,q.zn[i].zw.zT⟩=true from h3),L3 (by decide),w1 (by omega)]at h
    rcases BG hB hn q hb hl k (i+1) c (by omega) h with⟨g1,g2⟩|g1
    ·refine .inl ⟨g1,fun s hs=> ?_⟩
     rw [Lb hc]at hs
     rcases Lo.1 hs with rfl|hs
     ·exact⟨kJ.1 (by simpa using h1),h2,h3⟩
     ·exact g2 s hs
    ·exact .inr g1
   ·rw [L3 (show ¬okK ⟨q.zn[i].zw.zA,q.zn[i].zw.wm,q.zn[i].zw.zT⟩=true from h3),L4 (by decide)]at h
    injection h with h; exact .inr ⟨18,by decide,h.symm⟩
  ·rw [L3 (by rw [L1]; omega)]at h
   injection h with h
   refine .inl ⟨h.symm, ?_⟩
   rw [Lc (by omega)]; simp
theorem JD {n:Nat} (hn:2000≤n) (q:Qry) (hl:q.zn.length≤64) (ho:∀a∈q.zn,W7 a):∀(k i:Nat),i≤q.zn.length→q.zn.length-i<k→yF n q k (i:Int)=some (.nxt ())
 |0,i,_,h=>by omega
 | k + 1,i,hi,hk=>by
  rw [yF]
  by_cases hc:i<q.zn.length
  ·have h:=ho _ (Lk hc)
   rw [L4 (by rw [L1]; omega),z2 hc,L0,UM (DP h.1) (by omega) (by omega),L0,kJ.2 h.1,L3 (by decide),L3 (by have:=h.2.1; simpa using this),eh,L0,
    L4 (show okK ⟨q.zn[i].zw.zA,q.zn[i].zw.wm,q.zn[i].zw.zT⟩=true from h.2.2),L3 (by decide),w1 (by omega)]
   exact JD hn q hl ho k (i+1) (by omega) (by omega)
  ·rw [L3 (by rw [L1]; omega)]
theorem lE {X:Type} {o:Option (Ctl Int X)} {f:X→Option Int} (h:yW o (fun r=>some r) f=some 0):o=some (.ret 0)∨∃x,o=some (.nxt x)∧f x=some 0:=by
 match o with
 |none=>cases h
 |some (.ret r)=>exact .inl (by simp only [yW]at h; injection h with h; rw [h])
 |some (.nxt x)=>exact .inr ⟨x,rfl,h⟩
theorem PJ {n B:Nat} {q:Qry} (hB:B≤60000) (hn:B+2000≤n) (hb:BdQ B q) (h:wh n q=some 0):QOk n q∧wh n (U6 q)=some 0:=by
 unfold wh at h ⊢
 have e1:(U6 q).qT=q.qT:=rfl
 have e2:(U6 q).zM=q.zM:=rfl
 have e3:(U6 q).wb=q.wb:=rfl
 have e4:(U6 q).yU=q.yU:=rfl
 have e5:(U6 q).zo=q.zo:=rfl
 have e6:(U6 q).zD.length=q.zD.length:=by show(q.zD.map fb).length=_; rw [La]
 have e7:(U6 q).zn.length=q.zn.length:=by show(q.zn.map Pd).length=_; rw [La]
 rw [e1,e2,e3,e4,e5,e6,e7]
 rw [ifb,L0]at h ⊢
 by_cases c1:(decide (q.qT<0)||decide (q.qT>254033452799))=true
 ·rw [L4 c1]at h; injection h with h; exact absurd h (by decide)
 rw [L3 c1]at h ⊢
 have hp:∃y,(if(!(q.zM==([]:List UInt8)))=true then((jy n q.zM).bind fun r12=>some (!r12))else(some false))=some y∧(y=false→q.zM= []∨(vA q.zM).isSome=true):=by
  by_cases p0:q.zM= []
  ·exact⟨false,by rw [L3 (by rw [p0]; decide)],fun _=> .inl p0⟩
  ·have:=hb.1
   refine⟨!(vA q.zM).isSome,by rw [L4 (by simpa using p0),ZI (by omega) (by omega)]; rfl,fun hy=> .inr (by simpa using hy)⟩
 obtain⟨y,hy1,hy2⟩:=hp
 rw [hy1,L0]at h ⊢
 cases y with
 |true=>rw [L4 rfl]at h; injection h with h; exact absurd h (by decide)
 | false=>
  rw [L3 (by decide)]at h ⊢
  rw [mY,L0]at h ⊢
  by_cases c2:(decide (q.wb<0)||(decide (q.wb>511)||(decide (q.yU<1)||decide (q.yU>8))))=true
  ·rw [L4 c2]at h; injection h with h; exact absurd h (by decide)
  rw [L3 c2]at h ⊢
  rw [hP,L0]at h ⊢
  by_cases c3:(decide ((List.length q.zo:Int)>8)||(decide ((List.length q.zD:Int)>16)||decide ((List.length q.zn:Int)>64)))=true
  ·rw [L4 c3]at h; injection h with h; exact absurd h (by decide)
  rw [L3 c3]at h ⊢
  simp only [Bool.not_eq_true,Bool.or_eq_false_iff,decide_eq_false_iff_not]at c2 c3
  obtain⟨l1,l2,l3⟩:=c3
  rw [Ja e5]
  rcases lE h with h1|⟨m,h1,h2⟩
  ·rcases K5 (by omega) (by omega) q hb.2.1 (by omega) n 0 [] _ (by omega) h1 with⟨m',h2,_⟩|h2
   ·cases h2
   ·injection h2 with h2; exact absurd h2 (by decide)
  have a1:∀s∈q.zo,(vA s).isSome=true:=by
   rcases K5 (by omega) (by omega) q hb.2.1 (by omega) n 0 [] _ (by omega) h1 with⟨m',_,h3⟩|h3
   ·rw [Lh]at h3; exact h3
   ·cases h3
  rw [h1]
  simp only [yW]
  by_cases c4:decide ((List.length m:Int)<(List.length q.zo:Int))=true
  ·rw [L4 c4]at h2; injection h2 with h2; exact absurd h2 (by decide)
  rw [L3 c4]at h2 ⊢
  rcases lE h2 with h3|⟨u,h3,h4⟩
  ·rcases BE q (by omega) n 0 _ (by omega) h3 with⟨h4,_⟩|⟨r,hr,h4⟩
   ·cases h4
   ·injection h4 with h4; exact absurd h4.symm hr
  have a2:∀g∈q.zD,okG n g:=by
   rcases BE q (by omega) n 0 _ (by omega) h3 with⟨_,h5⟩|⟨r,hr,h5⟩
   ·rw [Lh]at h5; exact h5
   ·cases h5
  rcases lE h4 with h5|⟨v,h5,h6⟩
  ·rcases BG (by omega) (by omega) q hb.2.2.2 (by omega) n 0 _ (by omega) h5 with⟨h6,_⟩|⟨r,hr,h6⟩
   ·cases h6
   ·injection h6 with h6; exact absurd h6.symm hr
  have a3:∀a∈q.zn,W7 a:=by
   rcases BG (by omega) (by omega) q hb.2.2.2 (by omega) n 0 _ (by omega) h5 with⟨_,h7⟩|⟨r,hr,h7⟩
   ·rw [Lh]at h7; exact h7
   ·cases h7
  refine⟨⟨hy2 rfl,by omega,by omega,by omega,Lf.2 a1,a2,a3⟩, ?_⟩
  have b2:=Jy (n:=n) (U6 q) (by omega) (fun g hg=>by
   obtain⟨x,hx,rfl⟩:=Lg.1 (show g∈q.zD.map fb from hg)
   exact PN (a2 x hx) (hb.2.2.1 x hx).2 (by omega) (by omega)) n 0 (by omega) (by omega)
  have b3:=JD (n:=n) (by omega) (U6 q) (by omega) (fun g hg=>by
   obtain⟨x,hx,rfl⟩:=Lg.1 (show g∈q.zn.map Pd from hg)
   exact Dz (a3 x hx)) n 0 (by omega) (by omega)
  rw [show((0:Nat):Int)=0 from rfl]at b2 b3
  rw [b2]
  simp only [yW]
  rw [b3]
end Go.Abs
end
