/- The typed Lean form of WireEncodesQueries gives true for every list of at most 9223372036854775807 numbers and every raw query of at most as many issuers. -/
import Derived.Test.YtbggpcnbbhjiaaaGreatDoorLaw2
set_option linter.unusedVariables false
set_option linter.unusedSimpArgs false
set_option linter.unnecessarySimpa false
section
set_option maxRecDepth 100000
namespace Go.Abs
open Go Go.Proofs
theorem nJ {n:Nat} {x:Int} (hx:sm x=true) (hn:20≤n):vG n x=some (tWrap 2 [o8 x.toNat]).1:=by
 obtain⟨v,rfl,hv⟩:=DW hx
 unfold vG
 have:=Yt (n:=n) (t:=2) (c:= [o8 v]) (by omega) (by omega) (by simp) hn
 rw [show((2:Nat):Int)=2 from rfl]at this
 rw [KX hn hv,L0,this,Int.toNat_natCast]; rfl
theorem QY {n B:Nat} (hB:B≤100000000) (hn:B+40≤n) (a:List Bs) (ha:a.length≤10000000) (hs:a.all (fun s=>(vA s).isSome)=true) (hl:∀s∈a,s.length≤B):∀(k i:Nat) (b:Bs),i≤a.length→a.length-i<k→b.length+60*(a.length-i)≤1000000000 →
  wn n a k b (i:Int)=some (b++wraps ((a.drop i).map polE))
 |0,_,_,_,h,_=>by omega
 | k+1,i,b,hi,hk,hb=>by
  rw [wn]
  by_cases hc:i<a.length
  ·have hx:=Lf.1 hs a[i] (Lk hc)
   have hxl:=hl a[i] (Lk hc)
   have hl0:=ym 6 (polE a[i]).2
   obtain⟨l,he⟩:=Option.isSome_iff_exists.1 hx
   have hl1:(polE a[i]).2.length≤55:=by unfold polE; rw [he]; exact gn (kf he)
   have hl2:(tWrap (polE a[i]).1 (polE a[i]).2).1.length≤60:=by show(tWrap 6 (polE a[i]).2).1.length≤60; omega
   rw [L4 (by rw [L1]; omega),z2 hc,L0,ou (by omega) (by omega) hx,L0,xh (by omega),L0,w1 (by omega)]
   rw [QY hB hn a ha hs hl k (i+1) _ (by omega) (by omega) (by rw [L6]; omega),Lb hc,Ld,qm,Lp]
  ·rw [L3 (by rw [L1]; omega),Lc (by omega)]; simp [wraps]
def Z:zL:=⟨0,[],⟨0,0,[]⟩⟩
theorem G7 {n:Nat} {x:Int} (h:0≤x∧x≤8):∃s,jz n x=some s∧s.length≤100:=by
 have:x=0∨x=1∨x=2∨x=3∨x=4∨x=5∨x=6∨x=7∨x=8:=by omega
 rcases this with h|h|h|h|h|h|h|h|h<;>subst h<;>exact⟨_,rfl,by decide⟩
theorem PQ {n:Nat}:∀(j k:Nat) (acc:List Bs) (L:List Int) (At:Int),j<k→acc.length+j≤100→(∀s∈acc,s.length≤100)→vE ⟨L,At⟩ →
  ∃ps L' At',yX n k acc (j:Int) L At=some (ps,L',At')∧ps.length≤acc.length+j∧(∀s∈ps,s.length≤100)∧vE ⟨L',At'⟩
 |_,0,_,_,_,h,_,_,_=>by omega
 |0,k+1,acc,L,At,_,_,h,hd=>⟨acc,L,At,rfl,by omega,h,hd⟩
 | j+1,k+1,acc,L,At,hk,ha,h,hd=>by
  obtain⟨r,d',h1,h2,h3,h4⟩:=vi (n:=n) (k:=5) (by decide) (by decide) hd
  have hx:∃x,z1 ([0,1,2,3,8]:List Int) r=some x∧0≤x∧x≤8:=by
   have:r=0∨r=1∨r=2∨r=3∨r=4:=by omega
   rcases this with h|h|h|h|h<;>subst h<;>exact⟨_,rfl,by decide⟩
  obtain⟨x,hx,hx1⟩:=hx
  obtain⟨s,hs,hsl⟩:=G7 (n:=n) hx1
  rw [yX,L4 (by rw [L1]; omega),h1,L0,hx,L0,hs,L0,w8 (by rw [L8]; omega),L0,xf (by omega),show((j+1:Nat):Int)-1=(j:Int)by omega]
  obtain ⟨ps,L',At',e1,e2,e3,e4⟩:=PQ j k (acc ++ [s]) d'.f_L d'.zW (by omega) (by rw [L6,L8]; omega) (by
   intro y hy; rcases Ln.1 hy with hy|hy
   ·exact h y hy
   ·simp at hy; subst hy; exact hsl) h4
  exact⟨ps,L',At',e1,by rw [L6,L8]at e2; omega,e3,e4⟩
def gb (s:Bs) (i:Nat):Nat:=(s.getD i 0).toNat
theorem gc (s:Bs) (i:Nat):gb s i<256:=co _
theorem V6 {s:Bs} {i:Nat} (h:i<s.length):wl s (i:Int)=some (gb s i:Int):=by
 rw [uF h]; simp [gb,h]
def uN (n b0 b1 b2 b3:Nat):Option Nat:=
 if b0<32∨b0=127 then none
 else if b0<128 then some 1
 else if b0/32=6 then(if 1<n∧b1/64=2∧128≤b0%32*64+b1%64 then some 2 else none)
 else if b0/16=14 then(if 2<n∧b1/64=2∧b2/64=2∧2048≤b0%16*4096+b1%64*64+b2%64∧(b0%16*4096+b1%64*64+b2%64<55296∨57344≤b0%16*4096+b1%64*64+b2%64)then some 3 else none)
 else if b0/8=30 then(if 3<n∧b1/64=2∧b2/64=2∧b3/64=2∧65536≤b0%8*262144+b1%64*4096+b2%64*64+b3%64∧b0%8*262144+b1%64*4096+b2%64*64+b3%64≤1114111 then some 4 else none)
 else none
def uAt (s:Bs) (i:Nat):Option Nat:=uN (s.length-i) (gb s i) (gb s (i+1)) (gb s (i+2)) (gb s (i+3))
theorem BD {s:Bs} {i d:Nat} (hi:i<s.length) (h:uAt s i=some d):0<d∧i+d≤s.length:=by
 unfold uAt uN at h
 repeat' split at h
 all_goals first|(simp at h; done)|(simp at h; omega)
def Ys (s:Bs):Nat→Nat→Bool
 |0,_=>true
 |k+1,i=>if i<s.length then(match uAt s i with|none=>false|some d=>Ys s k (i+d))else true
theorem K1 {b:Nat} (h:b<256):((IntKind.wrap .u8 (Int.tdiv (b:Int) 64)) !=2)= !decide (b/64=2):=by
 have:=Lf.1 (show((List.range 256).all fun b:Nat=>((IntKind.wrap .u8 (Int.tdiv (b:Int) 64)) !=2)== !decide (b/64=2))=true by kernel_rfl) b (by simpa using h)
 simpa using this
theorem Bt {b:Nat} (h:b<256):IntKind.wrap .i64 (Int.tmod (b:Int) 64)=((b%64:Nat):Int):=by
 have:=Lf.1 (show((List.range 256).all fun b:Nat=>IntKind.wrap .i64 (Int.tmod (b:Int) 64)==((b%64:Nat):Int))=true by kernel_rfl) b (by simpa using h)
 simpa using this
theorem mC {b:Nat} (h:b<256):w7 .i64 (IntKind.wrap .i64 (b:Int)) (IntKind.wrap .i64 ((IntKind.wrap .i64 ((1:Int)*32))-1))=((b%32:Nat):Int):=by
 have:=Lf.1 (show((List.range 256).all fun b:Nat=>w7 .i64 (IntKind.wrap .i64 (b:Int)) (IntKind.wrap .i64 ((IntKind.wrap .i64 ((1:Int)*32))-1))==((b%32:Nat):Int))=true by kernel_rfl) b (by simpa using h)
 simpa using this
theorem mT {b:Nat} (h:b<256):w7 .i64 (IntKind.wrap .i64 (b:Int)) (IntKind.wrap .i64 ((IntKind.wrap .i64 ((1:Int)*16))-1))=((b%16:Nat):Int):=by
 have:=Lf.1 (show((List.range 256).all fun b:Nat=>w7 .i64 (IntKind.wrap .i64 (b:Int)) (IntKind.wrap .i64 ((IntKind.wrap .i64 ((1:Int)*16))-1))==((b%16:Nat):Int))=true by kernel_rfl) b (by simpa using h)
 simpa using this
theorem sg {b:Nat} (h:b<256):w7 .i64 (IntKind.wrap .i64 (b:Int)) (IntKind.wrap .i64 ((IntKind.wrap .i64 ((1:Int)*8))-1))=((b%8:Nat):Int):=by
 have:=Lf.1 (show((List.range 256).all fun b:Nat=>w7 .i64 (IntKind.wrap .i64 (b:Int)) (IntKind.wrap .i64 ((IntKind.wrap .i64 ((1:Int)*8))-1))==((b%8:Nat):Int))=true by kernel_rfl) b (by simpa using h)
 simpa using this
theorem u2s {n:Nat} {a:Bs} {i j v k:Nat} (hi:i+j<a.length) (hl:a.length≤100000000) (hj:j≤1) (hv:v<1000000000):
  yw n a i (k+1) v j=if gb a (i+j)/64=2 then yw n a i k ((v*64+gb a (i+j)%64:Nat):Int) ((j+1:Nat):Int)else some (.ret false):=by
 rw [yw,L4 (by rw [L1]; omega),show IntKind.wrap .i64 ((i:Int)+(j:Int))=((i+j:Nat):Int)by rw [xf (by omega)]; omega,V6 hi]
 simp only [L0]
 have hg:=gc a (i+j)
 rw [K1 (gc _ _),Bt (gc _ _),w1 (by omega)]
 by_cases hc:gb a (i+j)/64=2
 ·simp only [hc,decide_true,Bool.not_true,Bool.false_eq_true,if_false,if_true]
  rw [xf (x:=64*(v:Int)) (by omega),xf (by omega)]
  congr 1; omega
 ·simp [hc]
theorem u3s {n:Nat} {a:Bs} {i j v k:Nat} (hi:i+j<a.length) (hl:a.length≤100000000) (hj:j≤2) (hv:v<1000000000):
  yv n a i (k+1) v j=if gb a (i+j)/64=2 then yv n a i k ((v*64+gb a (i+j)%64:Nat):Int) ((j+1:Nat):Int)else some (.ret false):=by
 rw [yv,L4 (by rw [L1]; omega),show IntKind.wrap .i64 ((i:Int)+(j:Int))=((i+j:Nat):Int)by rw [xf (by omega)]; omega,V6 hi]
 simp only [L0]
 have hg:=gc a (i+j)
 rw [K1 (gc _ _),Bt (gc _ _),w1 (by omega)]
 by_cases hc:gb a (i+j)/64=2
 ·simp only [hc,decide_true,Bool.not_true,Bool.false_eq_true,if_false,if_true]
  rw [xf (x:=64*(v:Int)) (by omega),xf (by omega)]
  congr 1; omega
 ·simp [hc]
theorem u4s {n:Nat} {a:Bs} {i j v k:Nat} (hi:i+j<a.length) (hl:a.length≤100000000) (hj:j≤3) (hv:v<1000000000):
  yy n a i (k+1) v j=if gb a (i+j)/64=2 then yy n a i k ((v*64+gb a (i+j)%64:Nat):Int) ((j+1:Nat):Int)else some (.ret false):=by
 rw [yy,L4 (by rw [L1]; omega),show IntKind.wrap .i64 ((i:Int)+(j:Int))=((i+j:Nat):Int)by rw [xf (by omega)]; omega,V6 hi]
 simp only [L0]
 have hg:=gc a (i+j)
 rw [K1 (gc _ _),Bt (gc _ _),w1 (by omega)]
 by_cases hc:gb a (i+j)/64=2
 ·simp only [hc,decide_true,Bool.not_true,Bool.false_eq_true,if_false,if_true]
  rw [xf (x:=64*(v:Int)) (by omega),xf (by omega)]
  congr 1; omega
 ·simp [hc]
theorem u2 {n:Nat} {a:Bs} {i v k:Nat} (hi:i+1<a.length) (hl:a.length≤100000000) (hv:v<64):
  yw n a i (k+5) v 1=if gb a (i+1)/64=2 then some (.nxt ((v*64+gb a (i+1)%64:Nat):Int))else some (.ret false):=by
 have:=u2s (n:=n) (a:=a) (i:=i) (j:=1) (v:=v) (k:=k+4) hi hl (by omega) (by omega)
 rw [show((1:Nat):Int)=1 from rfl]at this
 rw [show k+5=k+4+1 from rfl,this,yw]
 simp
theorem u3 {n:Nat} {a:Bs} {i v k:Nat} (hi:i+2<a.length) (hl:a.length≤100000000) (hv:v<64):
  yv n a i (k+5) v 1=if gb a (i+1)/64=2 then(if gb a (i+2)/64=2 then some (.nxt (((v*64+gb a (i+1)%64)*64+gb a (i+2)%64:Nat):Int))else some (.ret false))else some (.ret false):=by
 have g1:=gc a (i+1)
 have t1:=u3s (n:=n) (a:=a) (i:=i) (j:=1) (v:=v) (k:=k+4) (by omega) hl (by omega) (by omega)
 have t2:=u3s (n:=n) (a:=a) (i:=i) (j:=2) (v:=v*64+gb a (i+1)%64) (k:=k+3) (by omega) hl (by omega) (by omega)
 rw [show((1:Nat):Int)=1 from rfl]at t1
 rw [show k+5=k+4+1 from rfl,t1,show k+4=k+3+1 from rfl,t2,yv]
 simp
theorem u4 {n:Nat} {a:Bs} {i v k:Nat} (hi:i+3<a.length) (hl:a.length≤100000000) (hv:v<64):
  yy n a i (k+5) v 1=if gb a (i+1)/64=2 then(if gb a (i+2)/64=2 then(if gb a (i+3)/64=2 then some (.nxt ((((v*64+gb a (i+1)%64)*64+gb a (i+2)%64)*64+gb a (i+3)%64:Nat):Int))else some (.ret false))else some (.ret false))else some (.ret false):=by
 have g1:=gc a (i+1)
 have g2:=gc a (i+2)
 have t1:=u4s (n:=n) (a:=a) (i:=i) (j:=1) (v:=v) (k:=k+4) (by omega) hl (by omega) (by omega)
 have t2:=u4s (n:=n) (a:=a) (i:=i) (j:=2) (v:=v*64+gb a (i+1)%64) (k:=k+3) (by omega) hl (by omega) (by omega)
 have t3:=u4s (n:=n) (a:=a) (i:=i) (j:=3) (v:=(v*64+gb a (i+1)%64)*64+gb a (i+2)%64) (k:=k+2) (by omega) hl (by omega) (by omega)
 rw [show((1:Nat):Int)=1 from rfl]at t1
 rw [show k+5=k+4+1 from rfl,t1,show k+4=k+3+1 from rfl,t2,show k+3=k+2+1 from rfl,t3,yy]
 simp
theorem dro (b b':Bool):(if b=true then some true else some b')=some (b||b'):=by cases b<;>rfl
theorem dan (b b':Bool):(if b=true then some b' else some false)=some (b&&b'):=by cases b<;>rfl
theorem DG {n k i:Nat} {a:Bs} (hi:i<a.length) (hl:a.length≤100000000) (hn:5≤n):
  yx n a (k+1) i=match uAt a i with|none=>some (.ret false)|some d=>yx n a k ((i+d:Nat):Int):=by
 obtain⟨m,rfl⟩:∃m,n=m+5:=⟨n-5,by omega⟩
 have g0:=gc a i
 have g1:=gc a (i+1)
 have g2:=gc a (i+2)
 have g3:=gc a (i+3)
 rw [yx,L4 (by rw [L1]; omega),V6 hi]
 simp only [L0,dro,dan]
 rw [mC g0,mT g0,sg g0,xf (x:=(a.length:Int)-(i:Int)) (by omega)]
 unfold uAt uN
 by_cases c1:gb a i<32∨gb a i=127
 ·rw [L4 (by rw [Bool.or_eq_true,L1,beq_iff_eq]; omega),L4 c1]; rfl
 rw [L3 (by rw [Bool.or_eq_true,L1,beq_iff_eq]; omega),L3 c1]
 by_cases c2:gb a i<128
 ·rw [L4 (by rw [L1]; omega),L4 c2,w1 (by omega)]; rfl
 rw [L3 (by rw [L1]; omega),L3 c2]
 by_cases c3:gb a i/32=6
 ·rw [L4 (by rw [Le,L1,L1]; omega),L4 c3]
  by_cases cl:1<a.length-i
  ·rw [L3 (by rw [L1]; omega),u2 (by omega) hl (by omega)]
   by_cases d1:gb a (i+1)/64=2
   ·rw [L4 d1]
    simp only [yW]
    by_cases cv:128≤gb a i%32*64+gb a (i+1)%64
    ·rw [L3 (by simp only [Bool.or_eq_true,Le,L1]; omega),L4 ⟨cl,d1,cv⟩]
     simp only [yW]
     rw [xf (by omega)]; rfl
    ·rw [L4 (by simp only [Bool.or_eq_true,Le,L1]; omega),L3 (fun h=>cv h.2.2)]
   ·rw [L3 d1,L3 (fun h=>d1 h.2.1)]; rfl
  ·rw [L4 (by rw [L1]; omega),L3 (fun h=>cl h.1)]; rfl
 rw [L3 (by rw [Le,L1,L1]; omega),L3 c3]
 by_cases c4:gb a i/16=14
 ·rw [L4 (by rw [Le,L1,L1]; omega),L4 c4]
  by_cases cl:2<a.length-i
  ·rw [L3 (by rw [L1]; omega),u3 (by omega) hl (by omega)]
   by_cases d1:gb a (i+1)/64=2
   ·by_cases d2:gb a (i+2)/64=2
    ·rw [L4 d1,L4 d2]
     simp only [yW]
     by_cases cv:2048≤gb a i%16*4096+gb a (i+1)%64*64+gb a (i+2)%64∧(gb a i%16*4096+gb a (i+1)%64*64+gb a (i+2)%64<55296∨57344≤gb a i%16*4096+gb a (i+1)%64*64+gb a (i+2)%64)
     ·rw [L3 (by simp only [Bool.or_eq_true,Le,L1]; omega),L4 ⟨cl,d1,d2,cv⟩]
      simp only [yW]
      rw [xf (by omega)]; rfl
     ·rw [L4 (by simp only [Bool.or_eq_true,Le,L1]; omega),L3 (fun h=>cv h.2.2.2)]
    ·rw [L4 d1,L3 d2,L3 (fun h=>d2 h.2.2.1)]; rfl
   ·rw [L3 d1,L3 (fun h=>d1 h.2.1)]; rfl
  ·rw [L4 (by rw [L1]; omega),L3 (fun h=>cl h.1)]; rfl
 rw [L3 (by rw [Le,L1,L1]; omega),L3 c4]
 by_cases c5:gb a i/8=30
 ·rw [L4 (by rw [Le,L1,L1]; omega),L4 c5]
  by_cases cl:3<a.length-i
  ·rw [L3 (by rw [L1]; omega),u4 (by omega) hl (by omega)]
   by_cases d1:gb a (i+1)/64=2
   ·by_cases d2:gb a (i+2)/64=2
    ·by_cases d3:gb a (i+3)/64=2
     ·rw [L4 d1,L4 d2,L4 d3]
      simp only [yW]
      by_cases cv:65536≤gb a i%8*262144+gb a (i+1)%64*4096+gb a (i+2)%64*64+gb a (i+3)%64∧gb a i%8*262144+gb a (i+1)%64*4096+gb a (i+2)%64*64+gb a (i+3)%64≤1114111
      ·rw [L3 (by simp only [Bool.or_eq_true,Le,L1]; omega),L4 ⟨cl,d1,d2,d3,cv⟩]
       simp only [yW]
       rw [xf (by omega)]; rfl
      ·rw [L4 (by simp only [Bool.or_eq_true,Le,L1]; omega),L3 (fun h=>cv h.2.2.2.2)]
     ·rw [L4 d1,L4 d2,L3 d3,L3 (fun h=>d3 h.2.2.2.1)]; rfl
    ·rw [L4 d1,L3 d2,L3 (fun h=>d2 h.2.2.1)]; rfl
   ·rw [L3 d1,L3 (fun h=>d1 h.2.1)]; rfl
  ·rw [L4 (by rw [L1]; omega),L3 (fun h=>cl h.1)]; rfl
 rw [L3 (by rw [Le,L1,L1]; omega),L3 c5]
 rfl
theorem Ga {n:Nat} {a:Bs} (hl:a.length≤100000000) (hn:5≤n):∀(k i:Nat),i≤a.length→a.length-i<k→yW (yx n a k i) (fun r=>some r) (fun _=>some true)=some (Ys a k i)
 |0,i,_,h=>by omega
 | k + 1,i,hi,hk=>by
  rw [Ys]
  by_cases hc:i<a.length
  ·rw [DG hc hl hn,L4 hc]
   cases h:uAt a i with
   |none=>rfl
   | some d=>
    have:=BD hc h
    exact Ga hl hn k (i+d) (by omega) (by omega)
  ·rw [yx,L3 (by rw [L1]; omega),L3 hc]; rfl
theorem DU {n:Nat} {a:Bs} (hl:a.length≤100000000) (hn:a.length+5≤n):jT n a=some (Ys a n 0):=Ga hl (by omega) n 0 (by omega) (by omega)
theorem hC (a:Bs) (i:Nat):Xj a i=Lib.decodeN (a.length-i) (gb a i) (gb a (i+1)) (gb a (i+2)) (gb a (i+3)):=by
 have hg:∀j:Nat,((⟨a.toArray⟩:ByteArray).get! j).toNat=gb a j:=by
  intro j
  show(a.toArray[j]!).toNat=_
  rw [getElem!_def]
  unfold gb
  by_cases h:j<a.length
  ·simp [h]
  ·simp [h]; rfl
 unfold Xj
 rw [Lib.decode_at,hg,hg,hg,hg]
 rfl
theorem oS {n i:Nat} {a:Bs} (hi:i<a.length):((ssl a ((i:Nat):Int) (List.length a)).bind fun x74=>(u0 n x74 ([239,191,189]:List UInt8)).bind fun r75=>some (!r75))=some (!(decide (3≤a.length-i∧gb a i=239∧gb a (i+1)=191∧gb a (i+2)=189))):=by
 have h1:ssl a (i:Int) (a.length:Int)=some (a.drop i):=by rw [Wp (by omega) (by omega)]; simp
 rw [h1]
 simp only [L0,u0,yT]
 have hl:(a.drop i).length=a.length-i:=by simp
 have e:∀j,gb a (i+j)=((a.drop i).getD j 0).toNat:=by intro j; unfold gb; simp
 by_cases hc:3≤a.length-i
 ·have h3:3≤(a.drop i).length:=by omega
  rw [L4 (by rw [L1,hl]; simp; omega)]
  have e0:=e 0; have e1:=e 1; have e2:=e 2
  rw [Nat.add_zero]at e0
  rw [e0,e1,e2]
  generalize a.drop i=l at *
  match l,h3 with
  | x::y::z::r,_=>
   have:ssl (x::y::z::r) 0 (([239,191,189]:List UInt8).length:Int)=some [x,y,z]:=by
    unfold ssl; rw [L4 (by simp; omega)]; rfl
   rw [this]
   simp only [L0,hc,true_and]
   congr 2
   have t:∀u:UInt8,∀m:Nat,m<256→((u.toNat=m)↔u=UInt8.ofNat m):=by
    intro u m hm
    constructor
    ·intro h; rw [←h]; simp
    ·intro h; rw [h]; simp; omega
   have q:([x,y,z]==([239,191,189]:List UInt8))=decide ([x,y,z]=([239,191,189]:List UInt8)):=by
    rw [Bool.eq_iff_iff,beq_iff_eq,L1]
   rw [q]
   apply decide_eq_decide.2
   simp only [List.getD_cons_zero,List.getD_cons_succ,List.cons.injEq,and_true]
   rw [t x 239 (by omega),t y 191 (by omega),t z 189 (by omega)]
   rfl
 ·rw [L3 (by rw [L1,hl]; simp; omega)]
  simp [hc]
theorem Bb {n k i:Nat} {a:Bs} (hi:i<a.length):
  vy n a (k+1) i=match uAt a i with|none=>some (.ret false)|some d=>vy n a k (i+d):=by
 have g0:=gc a i
 have g1:=gc a (i+1)
 have g2:=gc a (i+2)
 have g3:=gc a (i+3)
 rw [vy,L4 (by rw [Nat.blt_eq]; exact hi),oS hi,hC]
 simp only [dro,dan,L0]
 unfold uAt
 generalize a.length-i=m at *
 generalize gb a i=b0 at *
 generalize gb a (i+1)=b1 at *
 generalize gb a (i+2)=b2 at *
 generalize gb a (i+3)=b3 at *
 by_cases c1:b0<128
 ·have:Lib.decodeN m b0 b1 b2 b3=(b0,1):=by unfold Lib.decodeN; rw [L4 c1]
  rw [this]
  by_cases c2:b0<32∨b0=127
  ·rw [L4 (by rw [Bool.or_eq_true,L1,beq_iff_eq]; simp only; omega)]
   unfold uN; rw [L4 c2]
  ·rw [L3 (by rw [Bool.or_eq_true,L1,beq_iff_eq]; simp only; omega),L3 (by rw [Le,beq_iff_eq]; simp only; omega)]
   unfold uN; rw [L3 c2,L4 c1]
 have key:uN m b0 b1 b2 b3=if(Lib.decodeN m b0 b1 b2 b3).1=65533∧¬(3≤m∧b0=239∧b1=191∧b2=189)then none else some (Lib.decodeN m b0 b1 b2 b3).2:=by
  unfold uN Lib.decodeN
  rw [L3 (show ¬(b0<32∨b0=127)by omega),L3 c1,L3 c1]
  by_cases c2:b0/32=6
  ·rw [L4 c2]
   by_cases d1:1<m∧b1/64=2
   ·rw [L4 (show(b0/32=6∧(1<m∧b1/64=2))from⟨c2,d1⟩)]
    by_cases d2:b0%32*64+b1%64≥128
    ·rw [L4 (show(1<m∧b1/64=2∧128≤b0%32*64+b1%64)from⟨d1.1,d1.2,d2⟩),L4 d2,L3 (by simp only; omega)]
    ·rw [L3 (show ¬(1<m∧b1/64=2∧128≤b0%32*64+b1%64)from fun h=>d2 h.2.2),L3 d2,L4 ⟨rfl,by omega⟩]
   ·rw [L3 (show ¬(1<m∧b1/64=2∧128≤b0%32*64+b1%64)by omega),L3 (show ¬(b0/32=6∧(1<m∧b1/64=2))by omega),L3 (show ¬(b0/16=14∧(1<m∧b1/64=2)∧(2<m∧b2/64=2))by omega),L3 (show ¬(b0/8=30∧(1<m∧b1/64=2)∧(2<m∧b2/64=2)∧(3<m∧b3/64=2))by omega),L4 ⟨rfl,by omega⟩]
  rw [L3 c2,L3 (show ¬(b0/32=6∧(1<m∧b1/64=2))from fun h=>c2 h.1)]
  by_cases c3:b0/16=14
  ·rw [L4 c3]
   by_cases d1:2<m∧b1/64=2∧b2/64=2
   ·rw [L4 (show(b0/16=14∧(1<m∧b1/64=2)∧(2<m∧b2/64=2))from⟨c3,⟨by omega,d1.2.1⟩,d1.1,d1.2.2⟩)]
    generalize hv:b0%16*4096+b1%64*64+b2%64=v
    by_cases d2:v≥2048∧(v<55296∨57344≤v∧v≤1114111)
    ·rw [L4 (show(2<m∧b1/64=2∧b2/64=2∧2048≤v∧(v<55296∨57344≤v))from⟨d1.1,d1.2.1,d1.2.2,by omega,by omega⟩),L4 d2,L3 (by simp only; omega)]
    ·rw [L3 (show ¬(2<m∧b1/64=2∧b2/64=2∧2048≤v∧(v<55296∨57344≤v))from fun h=>d2 ⟨h.2.2.2.1,by omega⟩),L3 d2,L4 ⟨rfl,by omega⟩]
   ·rw [L3 (show ¬(2<m∧b1/64=2∧b2/64=2∧2048≤b0%16*4096+b1%64*64+b2%64∧(b0%16*4096+b1%64*64+b2%64<55296∨57344≤b0%16*4096+b1%64*64+b2%64))from fun h=>d1 ⟨h.1,h.2.1,h.2.2.1⟩),L3 (show ¬(b0/16=14∧(1<m∧b1/64=2)∧(2<m∧b2/64=2))from fun h=>d1 ⟨h.2.2.1,h.2.1.2,h.2.2.2⟩),L3 (show ¬(b0/8=30∧(1<m∧b1/64=2)∧(2<m∧b2/64=2)∧(3<m∧b3/64=2))by omega),L4 ⟨rfl,by omega⟩]
  rw [L3 c3,L3 (show ¬(b0/16=14∧(1<m∧b1/64=2)∧(2<m∧b2/64=2))from fun h=>c3 h.1)]
  by_cases c4:b0/8=30
  ·rw [L4 c4]
   by_cases d1:3<m∧b1/64=2∧b2/64=2∧b3/64=2
   ·rw [L4 (show(b0/8=30∧(1<m∧b1/64=2)∧(2<m∧b2/64=2)∧(3<m∧b3/64=2))from⟨c4,⟨by omega,d1.2.1⟩,⟨by omega,d1.2.2.1⟩,d1.1,d1.2.2.2⟩)]
    generalize hv:b0%8*262144+b1%64*4096+b2%64*64+b3%64=v
    by_cases d2:v≥65536∧(v<55296∨57344≤v∧v≤1114111)
    ·rw [L4 (show(3<m∧b1/64=2∧b2/64=2∧b3/64=2∧65536≤v∧v≤1114111)from⟨d1.1,d1.2.1,d1.2.2.1,d1.2.2.2,by omega,by omega⟩),L4 d2,L3 (by simp only; omega)]
    ·rw [L3 (show ¬(3<m∧b1/64=2∧b2/64=2∧b3/64=2∧65536≤v∧v≤1114111)from fun h=>d2 ⟨h.2.2.2.2.1,by omega⟩),L3 d2,L4 ⟨rfl,by omega⟩]
   ·rw [L3 (show ¬(3<m∧b1/64=2∧b2/64=2∧b3/64=2∧65536≤b0%8*262144+b1%64*4096+b2%64*64+b3%64∧b0%8*262144+b1%64*4096+b2%64*64+b3%64≤1114111)from fun h=>d1 ⟨h.1,h.2.1,h.2.2.1,h.2.2.2.1⟩),L3 (show ¬(b0/8=30∧(1<m∧b1/64=2)∧(2<m∧b2/64=2)∧(3<m∧b3/64=2))from fun h=>d1 ⟨h.2.2.2.1,h.2.1.2,h.2.2.1.2,h.2.2.2.2⟩),L4 ⟨rfl,by omega⟩]
  rw [L3 c4,L3 (show ¬(b0/8=30∧(1<m∧b1/64=2)∧(2<m∧b2/64=2)∧(3<m∧b3/64=2))from fun h=>c4 h.1),L4 ⟨rfl,by omega⟩]
 have big:127<(Lib.decodeN m b0 b1 b2 b3).1:=by
  unfold Lib.decodeN
  rw [L3 c1]
  repeat' split
  all_goals simp only
  all_goals omega
 rw [key,L3 (by rw [Bool.or_eq_true,L1,beq_iff_eq]; omega)]
 by_cases c:(Lib.decodeN m b0 b1 b2 b3).1=65533∧¬(3≤m∧b0=239∧b1=191∧b2=189)
 ·rw [L4 c,L4 (by rw [Le,beq_iff_eq,Bool.not_eq_true',decide_eq_false_iff_not]; exact⟨by omega,c.2⟩)]
 ·rw [L3 c,L3 (by rw [Le,beq_iff_eq,Bool.not_eq_true',decide_eq_false_iff_not]; intro h; exact c ⟨by omega,h.2⟩)]
theorem Qn {n:Nat} {a:Bs}:∀(k i:Nat),i≤a.length→a.length-i<k→yW (vy n a k i) (fun r=>some r) (fun _=>some true)=some (Ys a k i)
 |0,i,_,h=>by omega
 | k + 1,i,hi,hk=>by
  rw [Ys]
  by_cases hc:i<a.length
  ·rw [Bb hc,L4 hc]
   cases h:uAt a i with
   |none=>rfl
   | some d=>
    have:=BD hc h
    exact Qn k (i+d) (by omega) (by omega)
  ·rw [vy,L3 (by rw [Nat.blt_eq]; exact hc),L3 hc]; rfl
theorem D4 {n:Nat} {a:Bs} (hn:a.length+5≤n):p9 n a=some (Ys a n 0):=Qn n 0 (by omega) (by omega)
theorem XW (s:Bs):∀(k k' i:Nat),s.length-i<k→s.length-i<k'→Ys s k i=Ys s k' i
 |0,_,i,h,_=>by omega
 |_,0,i,_,h=>by omega
 | k + 1,k'+1,i,h,h'=>by
  rw [Ys,Ys]
  by_cases hc:i<s.length
  ·rw [L4 hc,L4 hc]
   cases hu:uAt s i with
   |none=>rfl
   | some d=>
    have:=BD hc hu
    exact XW s k k' (i+d) (by omega) (by omega)
  ·rw [L3 hc,L3 hc]
def prC (b:Nat):Bool:=decide (97≤b∧b≤122)||decide (65≤b∧b≤90)||decide (48≤b∧b≤57)||([32,39,40,41,43,44,45,46,47,58,61,63]:List Nat).contains b
def iaC (b:Nat):Bool:=decide (32≤b∧b≤126)
def po (kind:Int) (s:Bs):Bool:=
 if kind=12 then Ys s (s.length+1) 0 else if kind=19 then s.all (fun c=>prC c.toNat)else if kind=22 then s.all (fun c=>iaC c.toNat)else false
theorem hU {n b:Nat} (hn:20≤n) (hb:b<256):kn n (b:Int)=some (prC b):=by
 obtain⟨m,rfl⟩:∃m,n=m+20:=⟨n-20,by omega⟩
 have:=Lf.1 (show((List.range 256).all fun b:Nat=>decide (kn (m+20) (b:Int)=some (prC b)))=true by kernel_rfl) b (by simpa using hb)
 simpa using this
theorem fX {n b:Nat} (hb:b<256):kc n (b:Int)=some (iaC b):=by
 have:=Lf.1 (show((List.range 256).all fun b:Nat=>decide (kc n (b:Int)=some (iaC b)))=true by kernel_rfl) b (by simpa using hb)
 simpa using this
theorem KV {n b:Nat} (hn:20≤n) (hb:b<256):((yP n (b:Int)).bind fun r451=>
  if(!r451)=true then((yR n (b:Int) ([32,39,40,41,43,44,45,46,47,58,61,63]:List UInt8)).bind fun r453=>
  some (!r453))else(some false))=some (!prC b):=by
 obtain⟨m,rfl⟩:∃m,n=m+20:=⟨n-20,by omega⟩
 have:=Lf.1 (show((List.range 256).all fun b:Nat=>decide (((yP (m+20) (b:Int)).bind fun r451=>
  if(!r451)=true then((yR (m+20) (b:Int) ([32,39,40,41,43,44,45,46,47,58,61,63]:List UInt8)).bind fun r453=>
  some (!r453))else(some false))=some (!prC b)))=true by kernel_rfl) b (by simpa using hb)
 simpa using this
theorem oc {n:Nat} {a:Bs} (hl:a.length≤100000000) (hn:20≤n):∀(k i:Nat),i≤a.length→a.length-i<k→yW (jI n a k (i:Int)) (fun r=>some r) (fun _=>some true)=some ((a.drop i).all fun c=>prC c.toNat)
 |0,i,_,h=>by omega
 | k + 1,i,hi,hk=>by
  rw [jI]
  by_cases hc:i<a.length
  ·rw [L4 (by rw [L1]; omega),uF hc,Lb hc,List.all_cons]
   simp only [L0]
   rw [hU hn (co _)]
   simp only [L0]
   by_cases hp:prC (a[i]).toNat=true
   ·rw [hp,L3 (by simp),w1 (by omega),oc hl hn k (i+1) (by omega) (by omega)]; simp
   ·rw [Bool.not_eq_true]at hp
    rw [hp,L4 (by simp)]; rfl
  ·rw [L3 (by rw [L1]; omega)]
   have:i=a.length:=by omega
   subst this
   simp [yW]
theorem nb {n:Nat} {a:Bs} (hl:a.length≤100000000):∀(k i:Nat),i≤a.length→a.length-i<k→yW (uT n a k (i:Int)) (fun r=>some r) (fun _=>some true)=some ((a.drop i).all fun c=>iaC c.toNat)
 |0,i,_,h=>by omega
 | k + 1,i,hi,hk=>by
  rw [uT]
  by_cases hc:i<a.length
  ·rw [L4 (by rw [L1]; omega),uF hc,Lb hc,List.all_cons]
   simp only [L0]
   rw [fX (co _)]
   simp only [L0]
   by_cases hp:iaC (a[i]).toNat=true
   ·rw [hp,L3 (by simp),w1 (by omega),nb hl k (i+1) (by omega) (by omega)]; simp
   ·rw [Bool.not_eq_true]at hp
    rw [hp,L4 (by simp)]; rfl
  ·rw [L3 (by rw [L1]; omega)]
   have:i=a.length:=by omega
   subst this
   simp [yW]
theorem Bx {n:Nat} {k:Int} {a:Bs} (hl:a.length≤100000000) (hn:a.length+20≤n):bA n k a=some (po k a):=by
 unfold bA po
 by_cases h1:k=12
 ·rw [L4 (by simpa using h1),L4 h1,D4 (by omega)]
  simp only [L0]
  rw [XW a n (a.length+1) 0 (by omega) (by omega)]
 rw [L3 (by simpa using h1),L3 h1]
 by_cases h2:k=19
 ·rw [L4 (by simpa using h2),L4 h2]
  unfold Zh
  have:=oc (n:=n) hl (by omega) n 0 (by omega) (by omega)
  rw [show((0:Nat):Int)=0 from rfl,Lh]at this
  rw [this]; rfl
 rw [L3 (by simpa using h2),L3 h2]
 by_cases h3:k=22
 ·rw [L4 (by simpa using h3),L4 h3]
  unfold db
  have:=nb (n:=n) hl n 0 (by omega) (by omega)
  rw [show((0:Nat):Int)=0 from rfl,Lh]at this
  rw [this]; rfl
 rw [L3 (by simpa using h3),L3 h3]
theorem fp {n:Nat} {a:Bs} (hl:a.length≤100000000) (hn:20≤n):∀(k i:Nat),i≤a.length→a.length-i<k→yW (yd n a 19 k (i:Int)) (fun r=>some r) (fun _=>some true)=some ((a.drop i).all fun c=>prC c.toNat)
 |0,i,_,h=>by omega
 | k + 1,i,hi,hk=>by
  rw [yd]
  by_cases hc:i<a.length
  ·rw [L4 (by rw [L1]; omega),uF hc,Lb hc,List.all_cons]
   rw [L3 (by decide),L4 (by decide)]
   simp only [L0]
   rw [KV hn (co _)]
   simp only [L0]
   by_cases hp:prC (a[i]).toNat=true
   ·rw [hp,L3 (by simp),w1 (by omega),fp hl hn k (i+1) (by omega) (by omega)]; simp
   ·rw [Bool.not_eq_true]at hp
    rw [hp,L4 (by simp)]; rfl
  ·rw [L3 (by rw [L1]; omega)]
   have:i=a.length:=by omega
   subst this
   simp [yW]
theorem fI {n:Nat} {a:Bs} (hl:a.length≤100000000):∀(k i:Nat),i≤a.length→a.length-i<k→yW (yd n a 22 k (i:Int)) (fun r=>some r) (fun _=>some true)=some ((a.drop i).all fun c=>iaC c.toNat)
 |0,i,_,h=>by omega
 | k + 1,i,hi,hk=>by
  rw [yd]
  by_cases hc:i<a.length
  ·rw [L4 (by rw [L1]; omega),uF hc,Lb hc,List.all_cons]
   rw [L4 (by decide)]
   simp only [L0]
   rw [L3 (show ¬((22:Int)==19)=true by decide)]
   by_cases hp:iaC (a[i]).toNat=true
   ·have hp':=hp
    unfold iaC at hp'; rw [L1]at hp'
    rw [L3 (by rw [L1]; omega),L3 (by rw [L1]; omega)]
    simp only [L0]
    rw [hp,L3 (by simp),w1 (by omega),fI hl k (i+1) (by omega) (by omega)]; simp
   ·rw [Bool.not_eq_true]at hp
    have hp':=hp
    unfold iaC at hp'; rw [decide_eq_false_iff_not]at hp'
    rw [hp]
    by_cases h1:(a[i]).toNat<32
    ·rw [L4 (by rw [L1]; omega)]; rfl
    ·rw [L3 (by rw [L1]; omega),L4 (by rw [L1]; omega)]; rfl
  ·rw [L3 (by rw [L1]; omega)]
   have:i=a.length:=by omega
   subst this
   simp [yW]
theorem U8 {n:Nat} {k:Int} {a:Bs} (hl:a.length≤100000000) (hn:a.length+20≤n):va n k a=some (po k a):=by
 unfold va po
 by_cases h1:k=12
 ·rw [L4 (by simpa using h1),L4 h1,DU hl (by omega)]
  simp only [L0]
  rw [XW a n (a.length+1) 0 (by omega) (by omega)]
 rw [L3 (by simpa using h1),L3 h1]
 by_cases h2:k=19
 ·subst h2
  rw [L4 (by decide),L4 rfl]
  simp only [L0]
  rw [L4 (by decide)]
  have:=fp (n:=n) hl (by omega) n 0 (by omega) (by omega)
  rw [show((0:Nat):Int)=0 from rfl,Lh]at this
  exact this
 rw [L3 (by simpa using h2),L3 h2]
 by_cases h3:k=22
 ·subst h3
  rw [L4 rfl]
  simp only [L0]
  rw [L4 (by decide)]
  have:=fI (n:=n) hl n 0 (by omega) (by omega)
  rw [show((0:Nat):Int)=0 from rfl,Lh]at this
  exact this
 rw [L3 h3]
 simp only [L0]
 rw [L3 (by simpa using h3)]
def leB (x y:Bs):Bool:=decide (x≤y)
theorem Pa:∀(x y:Bs),Op.bytesLess x y=decide (x<y)
 | [],[]=>by simp [Op.bytesLess]
 |_::_,[]=>by simp [Op.bytesLess]
 | [],_::_=>by simp [Op.bytesLess]
 | a::x,b::y=>by
  rw [Op.bytesLess,Pa x y]
  simp only [List.cons_lt_cons_iff]
  by_cases h1:a<b<;>by_cases h2:a=b<;>by_cases h3:x<y<;>simp [h1,h2,h3]
theorem Ju (a b c:Bs) (h1:leB a b=true) (h2:leB b c=true):leB a c=true:=by
 unfold leB at *; simp only [L1]at *; exact List.le_trans h1 h2
theorem Js (a b:Bs):(leB a b||leB b a)=true:=by
 unfold leB; simp only [Bool.or_eq_true,L1]; exact List.le_total a b
theorem cg {a b:Bs} (h1:leB a b=true) (h2:leB b a=true):a=b:=by
 unfold leB at *; simp only [L1]at *; exact List.le_antisymm h1 h2
theorem oH (a b:Bs):(Op.bytesLess a b||a==b)=leB a b:=by
 rw [Pa]; unfold leB
 by_cases h:a=b
 ·subst h; simp [List.le_refl]
 ·have e:(a==b)=false:=by simpa using h
  rw [e,Bool.or_false]
  apply decide_eq_decide.2
  constructor
  ·intro h; exact List.le_of_lt h
  ·intro h1
   by_cases hl:a<b
   ·exact hl
   ·exact absurd (List.le_antisymm h1 (List.not_lt.1 hl)) h
def dm (l:List Bs):List Bs:=l.mergeSort leB
theorem XV (l:List Bs):List.Perm (dm l) l:=List.mergeSort_perm l leB
theorem JS (l:List Bs):(dm l).Pairwise fun a b=>leB a b=true:=List.pairwise_mergeSort Ju Js l
theorem Bd {l s:List Bs} (hp:List.Perm s l) (hs:s.Pairwise fun a b=>leB a b=true):s=dm l:=
 List.Perm.eq_of_pairwise (le:=fun a b=>leB a b=true) (fun a b _ _ h1 h2=>cg h1 h2) hs (JS l) (hp.trans (XV l).symm)
def YM (s:List Bs) (x:Bs):List Bs:=s.takeWhile (leB · x)++x::s.dropWhile (leB · x)
theorem Vu (s:List Bs) (x:Bs):List.Perm (YM s x) (x::s):=by
 unfold YM
 refine List.perm_middle.trans (List.Perm.cons x ?_)
 rw [List.takeWhile_append_dropWhile]
theorem VJ:∀ {s:List Bs} (x:Bs),s.Pairwise (fun a b=>leB a b=true)→(YM s x).Pairwise fun a b=>leB a b=true
 | [],x,_=>by simp [YM]
 | a::s,x,h=>by
  unfold YM
  rw [List.takeWhile_cons,List.dropWhile_cons]
  by_cases hc:leB a x=true
  ·rw [L4 hc,L4 hc]
   rw [List.pairwise_cons]at h
   show(a::YM s x).Pairwise _
   rw [List.pairwise_cons]
   refine⟨fun b hb=> ?_,VJ x h.2⟩
   rcases Lo.1 ((Vu s x).mem_iff.1 hb)with rfl|hb
   ·exact hc
   ·exact h.1 b hb
  ·rw [L3 hc,L3 hc]
   have hx:leB x a=true:=by have:=Js a x; simpa [hc] using this
   show(x::a::s).Pairwise _
   rw [List.pairwise_cons]
   refine⟨fun b hb=> ?_,h⟩
   rcases Lo.1 hb with rfl|hb
   ·exact hx
   ·exact Ju _ _ _ hx ((List.pairwise_cons.1 h).1 b hb)
theorem QC:∀(l s:List Bs),s.Pairwise (fun a b=>leB a b=true)→(l.foldl YM s).Pairwise (fun a b=>leB a b=true)∧List.Perm (l.foldl YM s) (s++l)
 | [],s,h=>⟨h,by simp⟩
 | x::l,s,h=>by
  obtain⟨h1,h2⟩:=QC l (YM s x) (VJ x h)
  refine⟨h1,h2.trans ?_⟩
  exact((Vu s x).append_right l).trans (List.perm_middle.symm)
theorem Dm (l:List Bs):l.foldl YM []=dm l:=by
 obtain⟨h1,h2⟩:=QC l [] (by simp)
 exact Bd (by simpa using h2) h1
theorem cD {n:Nat} (s:List Bs) (x:Bs) (hs:s.length≤1000000):∀(k i:Nat),i≤s.length→s.length-i<k→xQ n s.length s x k (i:Int)=some ((i+((s.drop i).takeWhile (leB · x)).length:Nat):Int)
 |0,i,_,h=>by omega
 | k + 1,i,hi,hk=>by
  rw [xQ]
  by_cases hc:i<s.length
  ·rw [L4 (by rw [L1]; omega)]
   have h1:qh s.length (i:Int)=some i:=by unfold qh; rw [L4 ⟨by omega,by omega⟩]; simp
   rw [h1]
   simp only [L0,Nat.mul_one,List.getElem?_eq_getElem hc,oH]
   rw [Lb hc,List.takeWhile_cons]
   by_cases hl:leB s[i] x=true
   ·rw [L4 hl,L4 hl,w1 (by omega),cD s x hs k (i+1) (by omega) (by omega)]
    simp only [L9]
    congr 2; omega
   ·rw [L3 hl,L3 hl]
    simp
  ·rw [L3 (by rw [L1]; omega)]
   have:i=s.length:=by omega
   subst this
   simp
theorem D9 {n:Nat} (a:List Bs) (ha:a.length≤1000000) (hn:a.length+5≤n):∀(k i:Nat) (s:List Bs),i≤a.length→a.length-i<k→s.length=i→xc n a k s.length (i:Int) s=some ((((a.drop i).foldl YM s).length:Nat),(a.drop i).foldl YM s)
 |0,i,_,_,h,_=>by omega
 | k + 1,i,s,hi,hk,hs=>by
  rw [xc]
  by_cases hc:i<a.length
  ·rw [L4 (by rw [L1]; omega),z2 hc]
   simp only [L0]
   have h2:=cD (n:=n) s a[i] (by omega) n 0 (by omega) (by omega)
   rw [show((0:Nat):Int)=0 from rfl,Lh,Nat.zero_add]at h2
   have ht:s.takeWhile (leB · a[i])=s.take (s.takeWhile (leB · a[i])).length:=by
    have e:=List.takeWhile_append_dropWhile (p:=(leB · a[i])) (l:=s)
    conv=>rhs; arg 2; rw [←e]
    rw [List.take_left]
   have hd:s.dropWhile (leB · a[i])=s.drop (s.takeWhile (leB · a[i])).length:=by
    have e:=List.takeWhile_append_dropWhile (p:=(leB · a[i])) (l:=s)
    conv=>rhs; arg 2; rw [←e]
    rw [List.drop_left]
   have hle:(s.takeWhile (leB · a[i])).length≤s.length:=(List.takeWhile_sublist _).length_le
   have hf:Wn s.length s=some s:=by unfold Wn; rw [L4 (by omega)]; simp
   have l1:lsl s 0 ((s.takeWhile (leB · a[i])).length:Int)=some (s.takeWhile (leB · a[i])):=by
    unfold lsl; rw [L4 ⟨by omega,by omega,by omega⟩]
    simp only [Int.toNat_natCast,Int.toNat_zero,Lh]
    rw [←ht]
   have l2:lsl s ((s.takeWhile (leB · a[i])).length:Int) (s.length:Int)=some (s.dropWhile (leB · a[i])):=by
    unfold lsl; rw [L4 ⟨by omega,by omega,by omega⟩]
    simp only [Int.toNat_natCast,List.take_length]
    rw [←hd]
   have hlen:(s.takeWhile (leB · a[i])).length+(s.dropWhile (leB · a[i])).length=s.length:=by
    rw [←L6,List.takeWhile_append_dropWhile]
   rw [h2]
   simp only [L0]
   rw [hf]
   simp only [L0]
   rw [l1,L0,l2,L0]
   have o0:VG 16 (s.takeWhile (leB · a[i]))=some (s.takeWhile (leB · a[i])):=by unfold VG; rw [L4 (by omega)]
   rw [o0,L0]
   have o1:gI 16 (s.takeWhile (leB · a[i])).length (s.takeWhile (leB · a[i])) [a[i]]=some (s.takeWhile (leB · a[i]) ++ [a[i]]):=by
    unfold gI; rw [L4 ⟨rfl,by simp,by simp only [L8]; omega⟩]
   rw [o1,L0]
   have key:((if List.isEmpty (s.dropWhile (leB · a[i]))=true then some ((s.takeWhile (leB · a[i])).length+List.length ([a[i]]:List Bs),s.takeWhile (leB · a[i]) ++ [a[i]])else((gI 16 ((s.takeWhile (leB · a[i])).length+List.length ([a[i]]:List Bs)) (s.takeWhile (leB · a[i]) ++ [a[i]]) (s.dropWhile (leB · a[i]))).bind fun x709=>some (((s.takeWhile (leB · a[i])).length+List.length ([a[i]]:List Bs))+List.length (s.dropWhile (leB · a[i])),x709))):Option (Nat×List Bs))=some ((YM s a[i]).length,YM s a[i]):=by
    unfold YM
    by_cases he:List.isEmpty (s.dropWhile (leB · a[i]))=true
    ·rw [L4 he]
     have:s.dropWhile (leB · a[i])= []:=by simpa using he
     rw [this]; simp
    ·rw [L3 he]
     have hne:(s.dropWhile (leB · a[i])).length≠0:=by
      intro h0; apply he; rw [List.eq_nil_of_length_eq_zero h0]; rfl
     unfold gI
     rw [L4 ⟨by simp,hne,by simp only [L8]; omega⟩]
     simp only [L0,Lp,List.cons_append,Li,L6,L9,Ll]
     congr 2; omega
   rw [key]
   simp only [L0]
   have hil:(YM s a[i]).length=i+1:=by rw [(Vu s a[i]).length_eq]; simp [hs]
   rw [w1 (by omega),Lb hc,List.foldl_cons]
   exact D9 a ha hn k (i+1) (YM s a[i]) (by omega) (by omega) hil
  ·rw [L3 (by rw [L1]; omega)]
   have:i=a.length:=by omega
   subst this
   simp
theorem Pk {n:Nat} (s:List Bs) (hs:s.length≤1000000) (hm:s.flatten.length≤1000000000):∀(k i:Nat) (acc:Bs),i≤s.length→s.length-i<k→acc.length+(s.drop i).flatten.length≤1000000000→xU n (s.length,s) k acc (i:Int)=some (acc++(s.drop i).flatten)
 |0,i,_,_,h,_=>by omega
 | k+1,i,acc,hi,hk,hb=>by
  rw [xU]
  by_cases hc:i<s.length
  ·rw [L4 (by rw [L1]; simp only; omega)]
   have h1:qh s.length (i:Int)=some i:=by unfold qh; rw [L4 ⟨by omega,by omega⟩]; simp
   simp only [h1,L0,Nat.mul_one,List.getElem?_eq_getElem hc]
   rw [Lb hc]at hb ⊢
   rw [List.flatten_cons,L6]at hb
   rw [xh (by omega)]
   simp only [L0]
   rw [w1 (by omega),Pk s hs hm k (i+1) _ (by omega) (by omega) (by rw [L6]; omega),List.flatten_cons,Lp]
  ·rw [L3 (by rw [L1]; simp only; omega)]
   have:i=s.length:=by omega
   subst this
   simp
theorem Xa (l:List Bs):(dm l).length=l.length:=(XV l).length_eq
theorem XP (l:List Bs):(dm l).flatten.length=l.flatten.length:=by
 have:=(XV l).flatten
 exact this.length_eq
theorem DA {n:Nat} {a:List Bs} (ha:a.length≤1000000) (hm:a.flatten.length≤1000000000) (hn:a.length+5≤n):uq n a=some (dm a).flatten:=by
 unfold uq
 have h1:=D9 (n:=n) a ha hn n 0 [] (by omega) (by omega) rfl
 rw [Lh,Dm]at h1
 have e0:xc n a n 0 0 []=some ((dm a).length,dm a):=h1
 rw [e0]
 simp only [L0]
 have h3:=Pk (n:=n) (dm a) (by rw [Xa]; omega) (by rw [XP]; omega) n 0 [] (by omega) (by rw [Xa]; omega) (by simp only [Lh,Ll]; rw [XP]; omega)
 rw [show((0:Nat):Int)=0 from rfl]at h3
 rw [h3]; simp
end Go.Abs
end
