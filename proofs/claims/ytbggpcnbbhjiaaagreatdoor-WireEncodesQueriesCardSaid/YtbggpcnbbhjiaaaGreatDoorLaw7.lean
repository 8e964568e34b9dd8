/- The typed Lean form of WireEncodesQueries gives true for every list of at most 9223372036854775807 numbers and every raw query of at most as many issuers. -/
import Derived.Test.YtbggpcnbbhjiaaaGreatDoorLaw6
set_option linter.unusedVariables false
set_option linter.unusedSimpArgs false
set_option linter.unnecessarySimpa false
section
set_option maxRecDepth 100000
namespace Go.Abs
open Go Go.Proofs
theorem XT {n:Nat} {v:List Bs} {x:Bs} (hv:v.length≤100):∀(j k:Nat) (b:Bool),j≤v.length→j<k→∃r,xq n v x k b ((v.length-j:Nat):Int)=some r
 |j,0,_,_,h=>by omega
 | 0,k+1,b,_,_=>by
  rw [xq,L3 (by rw [L1]; omega)]
  exact⟨_,rfl⟩
 | j+1,k+1,b,hj,hk=>by
  rw [xq,L4 (by rw [L1]; omega)]
  obtain⟨y,ey⟩:=qz (s:=v) (i:=((v.length-(j+1):Nat):Int)) (by omega) (by omega)
  rw [ey,L0,xf (by omega),show((v.length-(j+1):Nat):Int)+1=((v.length-j:Nat):Int)by omega]
  cases b with
  |true=>rw [L4 rfl,L0]; exact XT hv j k _ (by omega) (by omega)
  |false=>rw [L3 (by decide),L0]; exact XT hv j k _ (by omega) (by omega)
theorem XL {n:Nat} {a:List Bs} (hn:200≤n) (ha:a.length≤50) (hs:∀s∈a,s.length≤100):∀(j k:Nat) (v:List Bs),j≤a.length→j<k→v.length≤a.length-j→(∀s∈v,s.length≤100) →
  ∃r,xk n a k v ((a.length-j:Nat):Int)=some r∧r.length≤a.length∧∀s∈r,s.length≤100
 |j,0,_,_,h,_,_=>by omega
 | 0,k+1,v,_,_,hv,hw=>by
  rw [xk,L3 (by rw [L1]; omega)]
  exact⟨_,rfl,by omega,hw⟩
 | j+1,k+1,v,hj,hk,hv,hw=>by
  rw [xk,L4 (by rw [L1]; omega)]
  obtain⟨y,ey⟩:=qz (s:=a) (i:=((a.length-(j+1):Nat):Int)) (by omega) (by omega)
  have ly:y.length≤100:=by
   unfold z1 at ey
   rw [L4 (by omega)]at ey
   exact hs y (List.mem_of_getElem? ey)
  obtain⟨b,eb⟩:=XT (n:=n) (v:=v) (x:=y) (by omega) v.length n false (by omega) (by omega)
  rw [show((v.length-v.length:Nat):Int)=0 by omega]at eb
  rw [ey,L0,eb,L0]
  rw [xf (x:=((a.length-(j+1):Nat):Int)+1) (by omega),show((a.length-(j+1):Nat):Int)+1=((a.length-j:Nat):Int)by omega]
  cases b with
  | true=>
   rw [L3 (by decide),L0]
   exact XL hn ha hs j k v (by omega) (by omega) (by omega) hw
  | false=>
   rw [L4 (by decide),w8 (by rw [L8]; omega),L0,L0]
   refine XL hn ha hs j k (v ++ [y]) (by omega) (by omega) (by rw [L6,L8]; omega) fun s h=> ?_
   rcases Ln.1 h with h|h
   ·exact hw s h
   ·rw [Lm]at h; subst h; exact ly
theorem eW {n:Nat} {a:List Bs} (hn:200≤n) (ha:a.length≤50) (hs:∀s∈a,s.length≤100):∃r,uG n a=some r∧r.length≤a.length∧∀s∈r,s.length≤100:=by
 unfold uG
 obtain⟨r,e,h1,h2⟩:=XL hn ha hs a.length n [] (by omega) (by omega) (by simp) (by simp)
 rw [show((a.length-a.length:Nat):Int)=0 by omega]at e
 rw [e]
 exact⟨r,rfl,h1,h2⟩
theorem D2 {n:Nat} {d:zh} (hn:10≤n) (hd:vE d):∃ps d',vl n 3 d=some (ps,d')∧ps.length≤3∧(∀s∈ps,s.length≤100)∧vE d':=by
 unfold vl
 obtain⟨r,d',h1,h2,h3,h4⟩:=vi (n:=n) (k:=4) (by decide) (by decide) hd
 rw [show IntKind.wrap .i64 ((3:Int)+1)=4 from rfl,h1,L0]
 obtain⟨ps,L',At',e1,e2,e3,e4⟩:=PQ (n:=n) r.toNat n [] d'.f_L d'.zW (by omega) (by simp; omega) (by simp) h4
 rw [show((r.toNat:Nat):Int)=r by omega]at e1
 simp only []
 rw [e1]
 exact⟨ps,_,rfl,by simp at e2; omega,e3,e4⟩
def qn9 (n:Nat) (r9:Int×zh):Option (List Int×Int×Bs×Int×List Gen×List Anc):=(if(r9.1==1)=true then(some (r9.2.f_L,r9.2.zW,([49,46,51,46,54,46,49,46,53,46,53,46,55,46,51,46,49]:List UInt8),0,([]:List zc),([]:List ze)))else(if(r9.1==2)=true then(some (r9.2.f_L,r9.2.zW,([]:List UInt8),1,([]:List zc),([]:List ze)))else(if(r9.1==3)=true then((yl n r9.2).bind fun r32=>
 some (r32.2.f_L,r32.2.zW,([]:List UInt8),0,([(zc.mk r32.1.zI r32.1.ye (zu.mk r32.1.zr.zk))]:List zc),([]:List ze)))else(if(r9.1==4)=true then((zp n 4 r9.2).bind fun r33=>
 (z6 n r33.1).bind fun r34=>
 some (r33.2.f_L,r33.2.zW,([]:List UInt8),0,([]:List zc),([(ze.mk (zu.mk r34.zr.zk) (zB.mk r34.zw.zA r34.zw.wm r34.zw.zT))]:List ze)))else(if(r9.1==5)=true then((zp n 4 r9.2).bind fun r35=>
 (z6 n r35.1).bind fun r36=>
 (zp n 4 r35.2).bind fun r37=>
 (z6 n r37.1).bind fun r38=>
 some (r37.2.f_L,r37.2.zW,([]:List UInt8),0,([]:List zc),([(ze.mk (zu.mk r36.zr.zk) (zB.mk r36.zw.zA r36.zw.wm r36.zw.zT)),(ze.mk (zu.mk r38.zr.zk) (zB.mk r38.zw.zA r38.zw.wm r38.zw.zT))]:List ze)))else(some (r9.2.f_L,r9.2.zW,([]:List UInt8),0,([]:List zc),([]:List ze))))))))
theorem fq {n:Nat} {k:Int} {d:zh} (hn:2000≤n) (hd:vE d):∃L At pu us nm an,qn9 n (k,d)=some (L,At,pu,us,nm,an)∧vE ⟨L,At⟩∧pu.length≤100∧(nm.length≤1∧∀g∈nm,K4 n g)∧an.length≤2∧∀a∈an,BdN 252 a.zr.zk:=by
 unfold qn9
 simp only []
 by_cases c1:(k==1)=true
 ·rw [L4 c1]; exact⟨_,_,_,_,_,_,rfl,hd,by decide,⟨by simp,by simp⟩,by simp,by simp⟩
 rw [L3 c1]
 by_cases c2:(k==2)=true
 ·rw [L4 c2]; exact⟨_,_,_,_,_,_,rfl,hd,by decide,⟨by simp,by simp⟩,by simp,by simp⟩
 rw [L3 c2]
 by_cases c3:(k==3)=true
 ·rw [L4 c3]
  obtain⟨g,d2,e2,g2,k2⟩:=Ya (n:=n) hn hd
  rw [e2]
  exact⟨_,_,_,_,_,_,rfl,k2,by decide,⟨by simp,by simpa using g2⟩,by simp,by simp⟩
 rw [L3 c3]
 by_cases c4:(k==4)=true
 ·rw [L4 c4]
  obtain⟨r,d2,e2,a2,b2,k2⟩:=vi (n:=n) (k:=4) (by decide) (by decide) hd
  obtain⟨x,ex,hx⟩:=Vi (n:=n) hn a2 b2
  rw [e2,L0]; simp only []; rw [ex]
  exact⟨_,_,_,_,_,_,rfl,k2,by decide,⟨by simp,by simp⟩,by simp,by simpa using hx⟩
 rw [L3 c4]
 by_cases c5:(k==5)=true
 ·rw [L4 c5]
  obtain⟨r,d2,e2,a2,b2,k2⟩:=vi (n:=n) (k:=4) (by decide) (by decide) hd
  obtain⟨x,ex,hx⟩:=Vi (n:=n) hn a2 b2
  obtain⟨r3,d3,e3,a3,b3,k3⟩:=vi (n:=n) (k:=4) (by decide) (by decide) k2
  obtain⟨y,ey,hy⟩:=Vi (n:=n) hn a3 b3
  rw [e2,L0]; simp only []; rw [ex,L0,e3,L0]; simp only []; rw [ey]
  exact⟨_,_,_,_,_,_,rfl,k3,by decide,⟨by simp,by simp⟩,by simp,by simpa using ⟨hx,hy⟩⟩
 rw [L3 c5]
 exact⟨_,_,_,_,_,_,rfl,hd,by decide,⟨by simp,by simp⟩,by simp,by simp⟩
theorem P6 {n:Nat} {d:zh} (hn:2000≤n) (hd:vE d):∃t pu us ps b1 b2 b3 nm ml b4 an d',ue n d=some (t,pu,us,ps,b1,b2,b3,nm,ml,b4,an,d')∧vE d'∧pu.length≤100∧(ps.length≤3∧∀s∈ps,s.length≤100)∧(nm.length≤1∧∀g∈nm,K4 n g)∧an.length≤2∧∀a∈an,BdN 252 a.zr.zk:=by
 unfold ue
 obtain⟨r1,d1,e1,_,_,k1⟩:=vi (n:=n) (k:=4) (by decide) (by decide) hd
 obtain⟨r2,d2,e2,_,_,k2⟩:=vi (n:=n) (k:=6) (by decide) (by decide) k1
 obtain⟨r3,d3,e3,_,_,k3⟩:=vi (n:=n) (k:=6) (by decide) (by decide) k2
 obtain⟨r4,d4,e4,_,_,k4⟩:=vi (n:=n) (k:=6) (by decide) (by decide) k3
 obtain⟨r5,d5,e5,_,_,k5⟩:=vi (n:=n) (k:=3) (by decide) (by decide) k4
 obtain⟨r6,d6,e6,_,_,k6⟩:=vi (n:=n) (k:=4) (by decide) (by decide) k5
 rw [e1,L0,e2,L0,e3,L0,e4,L0,e5,L0,e6,L0]
 simp only []
 by_cases c:(r6==1)=true
 ·rw [L4 c]
  obtain⟨ps,d7,e7,p7,q7,k7⟩:=D2 (n:=n) (by omega) k6
  obtain⟨ps',e8,p8,q8⟩:=eW (n:=n) (by omega) (show ps.length≤50 by omega) q7
  obtain⟨r9,d9,e9,_,_,k9⟩:=vi (n:=n) (k:=8) (by decide) (by decide) k7
  obtain⟨L,At,pu,us,nm,an,e,h1,h2,h3,h4,h5⟩:=fq (n:=n) (k:=r9) hn k9
  unfold qn9 at e
  rw [e7,L0]; simp only []; rw [e8,L0,e9,L0,e]
  exact⟨_,_,_,_,_,_,_,_,_,_,_,_,rfl,h1,h2,⟨by omega,q8⟩,h3,h4,h5⟩
 ·rw [L3 c]
  obtain⟨r9,d9,e9,_,_,k9⟩:=vi (n:=n) (k:=8) (by decide) (by decide) k6
  obtain⟨L,At,pu,us,nm,an,e,h1,h2,h3,h4,h5⟩:=fq (n:=n) (k:=r9) hn k9
  unfold qn9 at e
  rw [e9,L0,e]
  exact⟨_,_,_,_,_,_,_,_,_,_,_,_,rfl,h1,h2,⟨by simp,by simp⟩,h3,h4,h5⟩
def qn4 (n:Nat) (r4:Int×zh) (nm:List Gen):Option (List Int×Int×List Gen):=(if(decide (r4.1>0))=true then((yl n r4.2).bind fun r24=>
 (kD 48 nm ([(zc.mk r24.1.zI r24.1.ye (zu.mk r24.1.zr.zk))]:List zc)).bind fun x25=>
 if(decide ((IntKind.wrap .i64 (r4.1-1))>0))=true then((yl n r24.2).bind fun r28=>
 (jV 48 x25 ([(zc.mk r28.1.zI r28.1.ye (zu.mk r28.1.zr.zk))]:List zc)).bind fun x29=>
 if(decide ((IntKind.wrap .i64 ((IntKind.wrap .i64 (r4.1-1))-1))>0))=true then(none)else(some (r28.2.f_L,r28.2.zW,x29)))else(some (r24.2.f_L,r24.2.zW,x25)))else(some (r4.2.f_L,r4.2.zW,nm)))
theorem UJ {α:Type} {b:Nat} {l:List α} {x:α} (h:(l.length+1)*b≤140737488355328):kD b l [x]=some (l ++ [x]):=L4 ⟨by simp,by simpa using h⟩
theorem fY {n:Nat} {k:Int} {d:zh} {nm:List Gen} (hn:2000≤n) (hd:vE d) (h0:0≤k) (h1:k<3) (hm:nm.length≤1) (hg:∀g∈nm,K4 n g):∃L At r,qn4 n (k,d) nm=some (L,At,r)∧vE ⟨L,At⟩∧r.length≤3∧∀g∈r,K4 n g:=by
 unfold qn4
 simp only []
 have hk:k=0∨k=1∨k=2:=by omega
 rcases hk with rfl|rfl|rfl
 ·rw [L3 (by rw [L1]; decide)]; exact⟨_,_,_,rfl,hd,by omega,hg⟩
 ·rw [L4 (by rw [L1]; decide)]
  obtain⟨g,d2,e2,g2,k2⟩:=Ya (n:=n) hn hd
  rw [e2,L0]; simp only []
  rw [UJ (by omega),L0,L3 (by rw [L1]; decide)]
  refine⟨_,_,_,rfl,k2,by rw [L6,L8]; omega,fun x hx=> ?_⟩
  rcases Ln.1 hx with h|h
  ·exact hg x h
  ·rw [Lm]at h; subst h; exact g2
 ·rw [L4 (by rw [L1]; decide)]
  obtain⟨g,d2,e2,g2,k2⟩:=Ya (n:=n) hn hd
  obtain⟨g',d3,e3,g3,k3⟩:=Ya (n:=n) hn k2
  rw [e2,L0]; simp only []
  rw [UJ (by omega),L0,L4 (by rw [L1]; decide),e3,L0]; simp only []
  rw [w8 (by simp only [L6,L8]; omega),L0,L3 (by rw [L1]; decide)]
  refine⟨_,_,_,rfl,k3,by simp only [L6,L8]; omega,fun x hx=> ?_⟩
  rcases Ln.1 hx with h|h
  ·rcases Ln.1 h with h|h
   ·exact hg x h
   ·rw [Lm]at h; subst h; exact g2
  ·rw [Lm]at h; subst h; exact g3
def lG (n:Nat) (r34:Int×zh) (an:List Anc):Option (List Int×Int×List Anc):=(if(decide (r34.1>0))=true then((we n r34.2).bind fun r61=>
 (wW n r61.2).bind fun r62=>
 (kD 64 an ([(ze.mk r61.1 r62.1)]:List ze)).bind fun x63=>
 if(decide ((IntKind.wrap .i64 (r34.1-1))>0))=true then((we n r62.2).bind fun r67=>
 (wW n r67.2).bind fun r68=>
 (jV 64 x63 ([(ze.mk r67.1 r68.1)]:List ze)).bind fun x69=>
 if(decide ((IntKind.wrap .i64 ((IntKind.wrap .i64 (r34.1-1))-1))>0))=true then(none)else(some (r68.2.f_L,r68.2.zW,x69)))else(some (r62.2.f_L,r62.2.zW,x63)))else(some (r34.2.f_L,r34.2.zW,an)))
theorem eY {n:Nat} {k:Int} {d:zh} {nm:List Anc} (hn:2000≤n) (hd:vE d) (h0:0≤k) (h1:k<3) (hm:nm.length≤2) (hg:∀a∈nm,BdN 252 a.zr.zk):∃L At r,lG n (k,d) nm=some (L,At,r)∧vE ⟨L,At⟩∧r.length≤4∧∀a∈r,BdN 252 a.zr.zk:=by
 unfold lG
 simp only []
 have hk:k=0∨k=1∨k=2:=by omega
 rcases hk with rfl|rfl|rfl
 ·rw [L3 (by rw [L1]; decide)]; exact⟨_,_,_,rfl,hd,by omega,hg⟩
 ·rw [L4 (by rw [L1]; decide)]
  obtain⟨g,d2,e2,g2,k2⟩:=V4 (n:=n) (by omega) hd
  obtain⟨y,d3,e3,k3⟩:=K6 (n:=n) (by omega) k2
  rw [e2,L0]; simp only []
  rw [e3,L0]; simp only []
  rw [UJ (by omega),L0,L3 (by rw [L1]; decide)]
  refine⟨_,_,_,rfl,k3,by rw [L6,L8]; omega,fun x hx=> ?_⟩
  rcases Ln.1 hx with h|h
  ·exact hg x h
  ·rw [Lm]at h; subst h; exact g2
 ·rw [L4 (by rw [L1]; decide)]
  obtain⟨g,d2,e2,g2,k2⟩:=V4 (n:=n) (by omega) hd
  obtain⟨y,d3,e3,k3⟩:=K6 (n:=n) (by omega) k2
  obtain⟨g',d4,e4,g4,k4⟩:=V4 (n:=n) (by omega) k3
  obtain⟨y',d5,e5,k5⟩:=K6 (n:=n) (by omega) k4
  rw [e2,L0]; simp only []
  rw [e3,L0]; simp only []
  rw [UJ (by omega),L0,L4 (by rw [L1]; decide),e4,L0]; simp only []
  rw [e5,L0]; simp only []
  rw [w8 (by simp only [L6,L8]; omega),L0,L3 (by rw [L1]; decide)]
  refine⟨_,_,_,rfl,k5,by simp only [L6,L8]; omega,fun x hx=> ?_⟩
  rcases Ln.1 hx with h|h
  ·rcases Ln.1 h with h|h
   ·exact hg x h
   ·rw [Lm]at h; subst h; exact g2
  ·rw [Lm]at h; subst h; exact g4
def fQ (r76:Int×zh) (pu:Bs) (ps:List Bs) (ml:Int):Option (Bs×List Bs×Int):=(if(r76.1==1)=true then(some (pu,ps,0))else(if(r76.1==2)=true then(some (([51,46,49]:List UInt8),ps,ml))else(if(r76.1==3)=true then((jV 16 ps ([([49,46,50,46,51]:List UInt8),([49,46,50,46,51]:List UInt8)]:List (List UInt8))).bind fun x84=>
 some (pu,x84,ml))else(some (pu,ps,ml)))))
theorem eV {r:Int×zh} {pu:Bs} {ps:List Bs} {ml:Int} (h1:pu.length≤100) (h2:ps.length≤3) (h3:∀s∈ps,s.length≤100):∃a b c,fQ r pu ps ml=some (a,b,c)∧a.length≤100∧b.length≤5∧∀s∈b,s.length≤100:=by
 unfold fQ
 by_cases c1:(r.1==1)=true
 ·rw [L4 c1]; exact⟨_,_,_,rfl,h1,by omega,h3⟩
 rw [L3 c1]
 by_cases c2:(r.1==2)=true
 ·rw [L4 c2]; exact⟨_,_,_,rfl,by decide,by omega,h3⟩
 rw [L3 c2]
 by_cases c3:(r.1==3)=true
 ·rw [L4 c3,w8 (by simp only [L9,Ll]; omega)]
  refine⟨_,_,_,rfl,h1,by simp only [L6,L9,Ll]; omega,fun s hs=> ?_⟩
  rcases Ln.1 hs with h|h
  ·exact h3 s h
  ·simp only [Lo,List.not_mem_nil,or_false,or_self]at h; subst h; decide
 rw [L3 c3]
 exact⟨_,_,_,rfl,h1,by omega,h3⟩
theorem P5 {n:Nat} {y:Int}:qD n y=wz n y:=rfl
theorem lD {n:Nat} {y m:Int}:ja n y m=wr n y m:=by
 unfold ja wr dR
 have e:∀i:Int,((qh 12 i).bind fun x4=>((UQ)[(0+x4*1)]?).bind fun x5=>some x5)=((z1 ([31,28,31,30,31,30,31,31,30,31,30,31]:List Int) i).bind fun x3=>some x3):=by
  intro i
  unfold qh z1
  by_cases h0:0≤i
  ·rw [L4 h0]
   by_cases h1:i<((12:Nat):Int)
   ·rw [L4 ⟨h0,h1⟩,L0,show 0+i.toNat*1=i.toNat by omega]; rfl
   ·rw [L3 (by omega),List.getElem?_eq_none (by show 12≤_; omega)]; rfl
  ·rw [L3 (by omega),L3 h0]; rfl
 rw [e]
 by_cases c1:(m==2)=true
 ·rw [L4 c1,L4 c1]
  simp only [Option.bind_assoc,L0]
 ·rw [L3 c1,L3 c1]
theorem Gg {n:Nat} {t:Int}:∀(k:Nat) (v:Int),uR n t k v=yJ n t k v
 |0,_=>rfl
 | k+1,v=>by
  rw [uR,yJ,P5]
  simp only [Gg k]
theorem GO {n:Nat} {y:Int}:∀(k:Nat) (a b:Int),uQ n y k a b=ya n y k a b
 |0,_,_=>rfl
 | k+1,a,b=>by
  rw [uQ,ya,lD]
  simp only [GO k]
def bef (y:Int):Int:=365*(y-1950)+((y-1)/4-(y-1)/100+(y-1)/400)-472
theorem YZ {n:Nat} {y:Int} (h0:1950≤y) (h1:y≤10001):wz n y=some (bef y):=by
 unfold wz bef
 rw [xf (x:=y-1) (by omega),xf (x:=y-1950) (by omega),Int.tdiv_eq_ediv_of_nonneg (by omega),Int.tdiv_eq_ediv_of_nonneg (by omega),Int.tdiv_eq_ediv_of_nonneg (by omega),
  xf (x:=(y-1)/4) (by omega),xf (x:=(y-1)/100) (by omega),xf (x:=(y-1)/400) (by omega),xf (x:=(y-1)/4-(y-1)/100) (by omega),xf (x:=(y-1)/4-(y-1)/100+(y-1)/400) (by omega),xf (x:=(365:Int)*(y-1950)) (by omega),xf (x:=(365:Int)*(y-1950)+_) (by omega),xf (by omega)]
theorem Gk {n:Nat} {t:Int} (h0:0≤t) (h1:t≤254033452799):∀(j k:Nat) (v:Int),1950≤v→9999-v=(j:Int)→j<k→bef v≤t/86400→∃y,yJ n t k v=some y∧1950≤y∧y≤9999∧bef y≤t/86400∧t/86400<bef (y+1)
 |j,0,_,_,_,h,_=>by omega
 | j,k+1,v,a0,a1,hk,hb=>by
  rw [yJ,xf (x:=v+1) (by omega),YZ (by omega) (by omega),L0,Int.tdiv_eq_ediv_of_nonneg h0,xf (by omega)]
  by_cases c:bef (v+1)≤t/86400
  ·rw [L4 (by rw [L1]; exact c)]
   have hv:v+1≤9999:=by unfold bef at c; omega
   obtain⟨i,rfl⟩:∃i,j=i+1:=⟨j-1,by omega⟩
   exact Gk h0 h1 i k (v+1) (by omega) (by omega) (by omega) c
  ·rw [L3 (by rw [L1]; exact c)]
   exact⟨v,rfl,a0,by omega,hb,by omega⟩
def lpY (y:Int):Bool:=y%4==0&&(y%100 !=0||y%400==0)
theorem PY {y:Int} (h:1950≤y):bef (y+1)=bef y+365+(if lpY y=true then 1 else 0):=by
 unfold bef lpY
 by_cases a:y%4=0
 ·by_cases b:y%100=0
  ·by_cases c:y%400=0
   ·simp only [a,b,c]; simp; omega
   ·simp only [a,b]; simp [c]; omega
  ·simp only [a]; simp [b]; omega
 ·simp [a]; omega
def ml (lp:Bool) (m:Nat):Nat:=if m=2∧lp=true then 29 else [0,31,28,31,30,31,30,31,31,30,31,30,31].getD m 0
theorem Dd {n:Nat} {y:Int} (h0:0≤y):∀m:Nat,1≤m→m≤12→wr n y (m:Int)=some ((ml (lpY y) m:Nat):Int):=by
 have e:(if(Int.tmod y 4==0)=true then(if(Int.tmod y 100 !=0)=true then some true else some (Int.tmod y 400==0))else some false)=some (lpY y):=by
  rw [Int.tmod_eq_emod_of_nonneg h0,Int.tmod_eq_emod_of_nonneg h0,Int.tmod_eq_emod_of_nonneg h0]
  unfold lpY
  cases(y%4==0)<;>cases(y%100 !=0)<;>cases(y%400==0)<;>rfl
 intro m h1 h2
 unfold wr
 rw [e]
 generalize lpY y=lp
 match m,h1,h2 with
 |1,_,_|3,_,_|4,_,_|5,_,_|6,_,_|7,_,_|8,_,_|9,_,_|10,_,_|11,_,_|12,_,_=>cases lp<;>rfl
 |2,_,_=>cases lp<;>rfl
 |0,h,_=>omega
 |j+13,_,h=>omega
def rest (lp:Bool):Nat→Nat
 |0=>0
 |j+1=>ml lp (12-j)+rest lp j
theorem Ks {n:Nat} {y:Int} (h0:0≤y):∀(j k:Nat) (a:Int),1≤j→j≤12→j<k→0≤a→a<(rest (lpY y) j:Nat)→∃a' m',ya n y k a ((13-j:Nat):Int)=some (a',m')∧0≤a'∧a'≤30∧1≤m'∧m'≤12
 |j,0,_,_,_,h,_,_=>by omega
 |0,k+1,_,h,_,_,_,_=>by omega
 | j + 1,k+1,a,_,hj,hk,ha,hr=>by
  rw [ya,Dd h0 _ (by omega) (by omega),L0,L0]
  have hm:ml (lpY y) (12-j)≤31:=by
   have:=show ∀lp:Bool,∀m<13,ml lp m≤31 by decide
   exact this _ _ (by omega)
  rw [show 13-(j+1)=12-j by omega]
  by_cases c:a≥((ml (lpY y) (12-j):Nat):Int)
  ·rw [L4 (by rw [L1]; exact c),rest]at *
   have hj1:1≤j:=by
    cases j with
    |zero=>simp only [rest]at hr; omega
    |succ j=>omega
   have hb:(rest (lpY y) j:Nat)≤1000:=by
    have:=show ∀lp:Bool,∀m<13,rest lp m≤1000 by decide
    exact this _ _ (by omega)
   rw [xf (x:=a-_) (by omega),xf (by omega),show((12-j:Nat):Int)+1=((13-j:Nat):Int)by omega]
   exact Ks h0 j k _ hj1 (by omega) (by omega) (by omega) (by omega)
  ·rw [L3 (by rw [L1]; exact c)]
   exact⟨_,_,rfl,ha,by omega,by omega,by omega⟩
theorem P3 {n:Nat} {t:Int} (hn:10000≤n) (h0:0≤t) (h1:t≤254033452799):∃Y M D h m s:Nat,(1950≤Y∧Y≤9999)∧M<100∧D<100∧h<100∧m<100∧s<100 ∧
  bH n t=some (⟨Y,M,D,h,m,s⟩,0)∧um n t=some (⟨Y,M,D,h,m,s⟩,0):=by
 have hd:IntKind.wrap .i64 (Int.tdiv t 86400)=t/86400:=by rw [Int.tdiv_eq_ediv_of_nonneg h0,xf (by omega)]
 have hy:IntKind.wrap .i64 ((1950:Int)+IntKind.wrap .i64 (Int.tdiv (t/86400) 366))=1950+(t/86400)/366:=by
  rw [Int.tdiv_eq_ediv_of_nonneg (by omega),xf (x:=t/86400/366) (by omega),xf (by omega)]
 have hb0:bef (1950+(t/86400)/366)≤t/86400:=by
  generalize hg:t/86400=d
  have hd0:0≤d:=by omega
  generalize hq:d/366=q
  have hq0:0≤q:=by omega
  have hq1:366*q≤d:=by omega
  have:bef (1950+q)≤366*q:=by
   unfold bef
   have:q=0∨q=1∨q=2∨3≤q:=by omega
   rcases this with rfl|rfl|rfl|h
   ·decide
   ·decide
   ·decide
   ·omega
  omega
 obtain⟨y,ey,y0,y1,y2,y3⟩:=Gk (n:=n) h0 h1 (9999-(1950+(t/86400)/366)).toNat n (1950+(t/86400)/366) (by omega) (by omega) (by omega) hb0
 have hs:=PY y0
 have hr:∀lp:Bool,rest lp 12=365+(if lp=true then 1 else 0):=by decide
 obtain ⟨a,m,em,a0,a1,m0,m1⟩:=Ks (n:=n) (y:=y) (by omega) 12 n (t/86400-bef y) (by omega) (by omega) (by omega) (by omega) (by
  rw [hr]
  by_cases c:lpY y=true
  ·rw [L4 c]at hs ⊢; omega
  ·rw [L3 c]at hs ⊢; omega)
 have hbb: -1000000≤bef y:=by unfold bef; omega
 have e1:Int.tmod t 86400=t%86400:=Int.tmod_eq_emod_of_nonneg h0
 refine⟨y.toNat,m.toNat,(a+1).toNat,(t/3600%24).toNat,(t/60%60).toNat,(t%60).toNat,by omega,by omega,by omega,by omega,by omega,by omega, ?_, ?_⟩
 ·unfold bH
  rw [ifb,L0,L3 (by simp; omega),hd,hy,Gg,ey,L0,P5,YZ (by omega) (by omega),L0,xf (x:=t/86400-bef y) (by omega),GO,show ya n y n (t/86400-bef y) 1=some (a,m)from em,L0,e1]
  rw [Int.tdiv_eq_ediv_of_nonneg (by omega),Int.tdiv_eq_ediv_of_nonneg (by omega),xf (x:=t%86400/3600) (by omega),xf (x:=t%86400/60) (by omega),Int.tmod_eq_emod_of_nonneg (by omega),Int.tmod_eq_emod_of_nonneg (by omega)]
  dsimp only
  rw [xf (x:=a+1) (by omega)]
  congr 3<;>omega
 ·unfold um
  rw [ifb,L0,L3 (by simp; omega),hd,hy,ey,L0,YZ (by omega) (by omega),L0,xf (x:=t/86400-bef y) (by omega),show ya n y n (t/86400-bef y) 1=some (a,m)from em,L0]
  rw [Int.tdiv_eq_ediv_of_nonneg h0,Int.tdiv_eq_ediv_of_nonneg h0,xf (x:=t/3600) (by omega),xf (x:=t/60) (by omega),Int.tmod_eq_emod_of_nonneg (by omega),Int.tmod_eq_emod_of_nonneg (by omega),Int.tmod_eq_emod_of_nonneg (by omega)]
  dsimp only
  rw [xf (x:=a+1) (by omega)]
  congr 3<;>omega
def dI (x:Nat):Int:=((48+x%10:Nat):Int)
theorem Zw {x:Nat} (h:x≤100000):IntKind.wrap .u8 (IntKind.wrap .i64 ((48:Int)+Int.tmod (x:Int) 10))=dI x:=by
 rw [Int.tmod_eq_emod_of_nonneg (by omega),xf (by omega)]
 show _%(256:Int)=_
 unfold dI
 omega
theorem Xs {x:Nat} (h:x≤100000):IntKind.wrap .i64 (Int.tdiv (x:Int) 10)=((x/10:Nat):Int):=by
 rw [Int.tdiv_eq_ediv_of_nonneg (by omega),xf (by omega)]; omega
theorem eL {n x:Nat} {l:List Int} (hn:10≤n) (hx:x≤100000) (hl:l.length≤1000):bC n l.length (x:Int) 2 l=some (l.length+2,l ++ [dI (x/10),dI x]):=by
 obtain⟨m,rfl⟩:∃m,n=m+4:=⟨n-4,by omega⟩
 unfold bC
 have o1:∀l:List Int,l.length≤1001→gI 1 l.length l [48]=some (l ++ [48]):=by
  intro l hl
  unfold gI
  rw [L4 (by simp; omega)]
 have e1:ve (m+4) 2 (m+4) l.length 0 l=some (l.length+2,l ++ [48,48]):=by
  rw [ve,L4 (by decide),o1 l (by omega),L0,show IntKind.wrap .i64 ((0:Int)+1)=1 by rfl,ve,L4 (by decide),
   show l.length+List.length ([48]:List Int)=(l ++ [48]).length by simp,o1 _ (by simp; omega),L0,show IntKind.wrap .i64 ((1:Int)+1)=2 by rfl,ve,L3 (by decide)]
  simp
 rw [e1,L0]; dsimp only
 rw [xf (x:=((l.length+2:Nat):Int)-1) (by omega),vT,L4 (by rw [L1]; omega)]; dsimp only
 rw [gD (by omega),L0,Zw hx,show(((l.length+2:Nat):Int)-1).toNat*1=l.length+1 by omega,
  show pT (l ++ [48,48]) (l.length+1) (dI x)=some (l ++ [48,dI x])from(L4 (by simp)).trans (by simp [List.set_append]),L0,
  Xs hx,xf (x:=((l.length+2:Nat):Int)-1-1) (by omega),vT,L4 (by rw [L1]; omega)]; dsimp only
 rw [gD (by omega),L0,Zw (by omega),show(((l.length+2:Nat):Int)-1-1).toNat*1=l.length by omega,
  show pT (l ++ [48,dI x]) l.length (dI (x/10))=some (l ++ [dI (x/10),dI x])from(L4 (by simp)).trans (by simp [List.set_append]),L0,
  Xs (by omega),xf (by omega),vT,L3 (by rw [L1]; omega),L0]
theorem rD {n x:Nat} (hn:10≤n) (hx:x≤100000):bb n (x:Int) 2=some (2,[dI (x/10),dI x]):=by
 obtain⟨m,rfl⟩:∃m,n=m+4:=⟨n-4,by omega⟩
 rw [←Zw hx,←Zw (x:=x/10) (by omega),←Xs hx]
 rfl
theorem rR {n x:Nat} (hn:10≤n) (hx:x≤100000):bb n (x:Int) 4=some (4,[dI (x/10/10/10),dI (x/10/10),dI (x/10),dI x]):=by
 obtain⟨m,rfl⟩:∃m,n=m+6:=⟨n-6,by omega⟩
 rw [←Zw hx,←Zw (x:=x/10) (by omega),←Zw (x:=x/10/10) (by omega),←Zw (x:=x/10/10/10) (by omega),←Xs (x:=x/10/10) (by omega),←Xs (x:=x/10) (by omega),←Xs hx]
 rfl
def d2 (x:Nat):Bs:=b2s [dI (x/10),dI x]
theorem WW {n:Nat} {k x:Nat} (h:10≤x) (hx:x≤100000) {s:Bs} (hs:s.length≤100) (he:yD n k ((x/10:Nat):Int)=some s):yD n (k+1) (x:Int)=some (s++b2s [dI x]):=by
 rw [yD,L3 (by rw [L1]; omega),Xs hx,he,L0,Zw hx,show uw s (b2s [dI x])=some (s++b2s [dI x])from L4 (by show s.length+1≤_; omega),L0]
theorem J7 {n:Nat} {k x:Nat} (h:x<10):yD n (k+1) (x:Int)=some (b2s [dI x]):=by
 rw [yD,L4 (by rw [L1]; omega),←Zw (by omega),show Int.tmod (x:Int) 10=x by rw [Int.tmod_eq_emod_of_nonneg (by omega)]; omega]
theorem G6 {n x:Nat} (hn:10≤n) (hx:x<100):yn n (x:Int) 2=some (d2 x):=by
 obtain⟨m,rfl⟩:∃m,n=m+3:=⟨n-3,by omega⟩
 unfold yn d2
 by_cases h:x<10
 ·rw [J7 h,L0,show dI (x/10)=48 by rw [show x/10=0 by omega]; rfl]
  rfl
 ·rw [WW (by omega) (by omega) (s:=b2s [dI (x/10)]) (by simp [b2s]) (J7 (by omega)),L0]
  rfl
theorem rP {n x:Nat} (hn:10≤n) (h0:1000≤x) (hx:x<10000):yn n (x:Int) 4=some (b2s [dI (x/10/10/10),dI (x/10/10),dI (x/10),dI x]):=by
 obtain⟨m,rfl⟩:∃m,n=m+5:=⟨n-5,by omega⟩
 unfold yn
 rw [WW (by omega) (by omega) (by simp [b2s]) (WW (by omega) (by omega) (by simp [b2s]) (WW (by omega) (by omega) (s:=b2s [dI (x/10/10/10)]) (by simp [b2s]) (J7 (by omega)))),L0]
 rfl
theorem PA {n:Nat} (hn:100≤n) {Y M D h m s:Nat} {l:List Int} (a1:M<100) (a2:D<100) (a3:h<100) (a4:m<100) (a5:s<100) (hl:l.length≤4):
  wI n (⟨Y,M,D,h,m,s⟩,0) n l.length 0 l=some (l.length+10,l ++ [dI (M/10),dI M,dI (D/10),dI D,dI (h/10),dI h,dI (m/10),dI m,dI (s/10),dI s]):=by
 obtain⟨j,rfl⟩:∃j,n=j+6:=⟨n-6,by omega⟩
 have step:∀(k x:Nat) (l:List Int) (i:Nat),i<5→x<100→l.length≤100→([(M:Int),D,h,m,s]:List Int)[i]? =some (x:Int) →
   wI (j+6) (⟨Y,M,D,h,m,s⟩,0) (k+1) l.length (i:Int) l=wI (j+6) (⟨Y,M,D,h,m,s⟩,0) k (l ++ [dI (x/10),dI x]).length ((i+1:Nat):Int) (l ++ [dI (x/10),dI x]):=by
  intro k x l i hi hx hl hg
  rw [wI,L4 (by rw [L1]; show(i:Int)<((5:Nat):Int); omega)]
  dsimp only
  rw [show z1 ([(M:Int),D,h,m,s]:List Int) (i:Int)=some (x:Int)from(L4 (by omega)).trans (by rw [Int.toNat_natCast]; exact hg),L0,eL (by omega) (by omega) (by omega),L0,w1 (by omega)]
  simp
 refine(step (j+5) M l 0 (by omega) a1 (by omega) rfl).trans ?_
 refine(step (j+4) D _ 1 (by omega) a2 (by simp; omega) rfl).trans ?_
 refine(step (j+3) h _ 2 (by omega) a3 (by simp; omega) rfl).trans ?_
 refine(step (j+2) m _ 3 (by omega) a4 (by simp; omega) rfl).trans ?_
 refine(step (j+1) s _ 4 (by omega) a5 (by simp; omega) rfl).trans ?_
 rw [wI,L3 (by rw [L1]; show ¬(((4+1:Nat):Int)<((5:Nat):Int)); omega)]
 simp
theorem DE {n:Nat} {t:Int} (hn:10000≤n) (h0:0≤t) (h1:t≤254033452799):∃(g:Nat) (c:Bs),(g=23∨g=24)∧c.length≤20∧jM n t=some ((tWrap g c).1,0)∧xi n t=some ((tWrap g c).1,0):=by
 obtain⟨Y,M,D,h,m,s,⟨y0,y1⟩,a1,a2,a3,a4,a5,ep,er⟩:=P3 (n:=n) hn h0 h1
 have key:∀(g:Nat) (pre:List Int),(g=23∨g=24)→pre.length≤4→(g=24↔2050≤Y)→(g=23→pre= [dI (Y%100/10),dI (Y%100)])→(g=24→pre= [dI (Y/10/10/10),dI (Y/10/10),dI (Y/10),dI Y]) →
   (b2s pre++(d2 M++d2 D++d2 h++d2 m++d2 s ++ [90])).length≤20∧jM n t=some (tWrap g (b2s pre++(d2 M++d2 D++d2 h++d2 m++d2 s ++ [90])))∧xi n t=some (tWrap g (b2s pre++(d2 M++d2 D++d2 h++d2 m++d2 s ++ [90]))):=by
  intro g pre hg hpre hY p23 p24
  have ltot:(b2s pre++(d2 M++d2 D++d2 h++d2 m++d2 s ++ [90])).length≤20:=by simp [b2s,d2]; omega
  have hmod:Int.tmod (Y:Int) 100=((Y%100:Nat):Int):=by rw [Int.tmod_eq_emod_of_nonneg (by omega)]; omega
  refine⟨ltot, ?_, ?_⟩
  ·unfold jM
   rw [ep,L0,L3 (show ¬(((0:Int) !=0)=true)by decide)]; dsimp only
   rw [hmod,rD (by omega) (by omega),L0]
   have e:(if decide ((Y:Int)≥2050)=true then((bb n (Y:Int) 4).bind fun r9=>some ((24:Int),r9.1,r9.2))else some (23,(2,[dI (Y%100/10),dI (Y%100)]).1,(2,[dI (Y%100/10),dI (Y%100)]).2))=some ((g:Int),pre.length,pre):=by
    rcases hg with rfl|rfl
    ·rw [L3 (by rw [L1]; omega),p23 rfl]; rfl
    ·rw [L4 (by rw [L1]; omega),rR (by omega) (by omega),p24 rfl]; rfl
   rw [e,L0]; dsimp only
   rw [PA (by omega) a1 a2 a3 a4 a5 hpre,L0]; dsimp only
   rw [show Wz (pre.length+10) (pre ++ [dI (M/10),dI M,dI (D/10),dI D,dI (h/10),dI h,dI (m/10),dI m,dI (s/10),dI s])=some (b2s (pre ++ [dI (M/10),dI M,dI (D/10),dI D,dI (h/10),dI h,dI (m/10),dI m,dI (s/10),dI s]))from(L4 (by simp)).trans (by rw [List.take_of_length_le (by simp)]),L0]
   rw [YQ (t:=g) (by omega) (by rcases hg with rfl|rfl<;>decide) (by
    intro c hc
    simp only [Lo,List.not_mem_nil,or_false]at hc
    rcases hc with rfl|rfl
    ·simp [b2s]; omega
    ·simp) (by simp; omega) (by simp),L0]
   rw [show [b2s (pre ++ [dI (M/10),dI M,dI (D/10),dI D,dI (h/10),dI h,dI (m/10),dI m,dI (s/10),dI s]),[90]].flatten=b2s pre++(d2 M++d2 D++d2 h++d2 m++d2 s ++ [90])by simp [b2s,d2]]
  ·have hs:∀a b:Bs,a.length≤100→b.length≤100→uw a b=some (a++b):=fun a b ha hb=>L4 (by omega)
   have l2:∀x,(d2 x).length=2:=fun _=>rfl
   unfold xi
   rw [er,L0,L3 (show ¬(((0:Int) !=0)=true)by decide)]; dsimp only
   rw [G6 (by omega) a1,L0,G6 (by omega) a2,L0,hs _ _ (by simp [l2]) (by simp [l2]),L0,G6 (by omega) a3,L0,hs _ _ (by simp [l2]) (by simp [l2]),L0,G6 (by omega) a4,L0,hs _ _ (by simp [l2]) (by simp [l2]),L0,
    G6 (by omega) a5,L0,hs _ _ (by simp [l2]) (by simp [l2]),L0,hs _ _ (by simp [l2]) (by simp),L0]
   rcases hg with rfl|rfl
   ·rw [L4 (by rw [L1]; omega),hmod,G6 (by omega) (by omega),L0,hs _ _ (by simp [l2]) (by simp [l2]),L0,show((23:Int))=((23:Nat):Int)by rfl,pC (t:=23) (by omega) (by decide) (by simp [l2]) (by simp; omega) (by simp),L0,p23 rfl]
    simp [d2]
   ·rw [L3 (by rw [L1]; omega),rP (by omega) (by omega) (by omega),L0,hs _ _ (by simp [b2s]) (by simp [l2]),L0,show((24:Int))=((24:Nat):Int)by rfl,pC (t:=24) (by omega) (by decide) (by simp [l2,b2s]) (by simp; omega) (by simp),L0,p24 rfl]
    simp
 have fin:∀(g:Nat) (c:Bs),c.length≤20→tWrap g c=((tWrap g c).1,0):=fun g c hc=>by rw [Za (by omega)]
 by_cases c:2050≤Y
 ·obtain⟨k1,k2,k3⟩:=key 24 [dI (Y/10/10/10),dI (Y/10/10),dI (Y/10),dI Y] (.inr rfl) (by simp) (by omega) (by omega) (fun _=>rfl)
  exact⟨24,_, .inr rfl,k1,k2.trans (congrArg some (fin _ _ k1)),k3.trans (congrArg some (fin _ _ k1))⟩
 ·obtain⟨k1,k2,k3⟩:=key 23 [dI (Y%100/10),dI (Y%100)] (.inl rfl) (by simp) (by omega) (fun _=>rfl) (by omega)
  exact⟨23,_, .inl rfl,k1,k2.trans (congrArg some (fin _ _ k1)),k3.trans (congrArg some (fin _ _ k1))⟩
def ltB (a:Int):Bool:=(decide (a≥97)&&decide (a≤122))||(decide (a≥65)&&decide (a≤90))
def dgB (a:Int):Bool:=decide (a≥48)&&decide (a≤57)
def alB (a:Int):Bool:=ltB a||dgB a
theorem Jg {n:Nat} {a:Int}:qP n a=some (ltB a):=by
 unfold qP ltB
 cases decide (a≥97)<;>cases decide (a≤122)<;>cases decide (a≥65)<;>cases decide (a≤90)<;>rfl
theorem KA {n:Nat} {a:Int}:ku n a=some (dgB a):=by
 unfold ku dgB
 cases decide (a≥48)<;>cases decide (a≤57)<;>rfl
theorem QW {n:Nat} {a:Int}:yP n a=some (alB a):=by
 unfold yP alB ltB dgB
 cases decide (a≥97)<;>cases decide (a≤122)<;>cases decide (a≥65)<;>cases decide (a≤90)<;>cases decide (a≥48)<;>cases decide (a≤57)<;>rfl
def okc (b:UInt8):Bool:=alB (b.toNat:Int)||(b.toNat:Int)==45
theorem nP (x y w:Bool) (v:Int):((if(!x)=true then(some y).bind fun r=>if(!r)=true then some (v !=45)else some false else some false).bind fun y=>if y=true then some (Ctl.ret false)else some (if w=true then Ctl.nxt ()else Ctl.ret false))=some (if((x||y||v==45)&&w)=true then Ctl.nxt ()else(Ctl.ret false:Ctl Bool Unit)):=by
 cases h:(v==45)<;>cases x<;>cases y<;>cases w<;>simp [bne,h]
theorem PV {n:Nat} (a:Bs) (hl:a.length≤1000000):∀(k i:Nat),i≤a.length→a.length-i<k→uM n a k (i:Int)=some (if(a.drop i).all okc=true then .nxt ()else .ret false)
 |0,i,_,h=>by omega
 | k + 1,i,hi,hk=>by
  have ls:(s2b a).length=a.length:=by simp [s2b]
  rw [uM]
  by_cases hc:i<a.length
  ·have e:z1 (s2b a) (i:Int)=some (a[i].toNat:Int):=by
    rw [z2 (by omega)]; simp [s2b]
   rw [L4 (by rw [L1]; omega),e,L0,Jg,L0,KA,w1 (by omega),PV a hl k (i+1) (by omega) (by omega),Lb hc,List.all_cons]
   exact nP _ _ _ _
  ·rw [L3 (by rw [L1]; omega),Lc (by omega)]; rfl
theorem Gv {n:Nat} (a:Bs) (hl:a.length≤1000000):∀(k i:Nat),i≤a.length→a.length-i<k→ww n a k (i:Int)=some (if(a.drop i).all okc=true then .nxt ()else .ret false)
 |0,i,_,h=>by omega
 | k + 1,i,hi,hk=>by
  rw [ww]
  by_cases hc:i<a.length
  ·have e:wl a (i:Int)=some (a[i].toNat:Int):=by
    unfold wl; rw [L4 (by omega),Int.toNat_natCast,List.getElem?_eq_getElem hc]; rfl
   rw [L4 (by rw [L1]; omega),e,L0,QW,L0,L0,w1 (by omega),Gv a hl k (i+1) (by omega) (by omega),Lb hc,List.all_cons]
   have:=nP (alB (a[i].toNat:Int)) false ((a.drop (i+1)).all okc) (a[i].toNat:Int)
   rw [Bool.or_false]at this
   exact this
  ·rw [L3 (by rw [L1]; omega),Lc (by omega)]; rfl
def Ji (a:Bs) (m c:Int):Option Bool:=if(decide ((List.length a:Int)<1))=true then(some true)else(if(decide ((List.length a:Int)>m))=true then(some true)else((wl a 0).bind fun x1=>
 if(x1==c)=true then(some true)else((wl a (IntKind.wrap .i64 ((List.length a:Int)-1))).bind fun x2=>some (x2==c))))
theorem eE (a:Bs) (m c:Int) (h:a.length≤1000000):∃b,Ji a m c=some b:=by
 unfold Ji
 refine Uq (fun _=>⟨_,rfl⟩) fun h1=>Uq (fun _=>⟨_,rfl⟩) fun _=> ?_
 rw [L1]at h1
 refine Qe (Xc (by omega) (by omega)) fun _ _=>Uq (fun _=>⟨_,rfl⟩) fun _=> ?_
 rw [xf (by omega)]
 exact Qe (Xc (by omega) (by omega)) fun _ _=>⟨_,rfl⟩
def Zb (a:Bs) (m c:Int):Bool:=(Ji a m c).getD true
theorem V8 {a:Bs} {m c:Int} (h:a.length≤1000000):Ji a m c=some (Zb a m c):=by
 obtain⟨b,e⟩:=eE a m c h
 unfold Zb; rw [e]; rfl
def U5 (a:Bs):Bool:= !Zb a 63 45&&a.all okc
theorem ct {n:Nat} {a:Bs} (h:a.length≤1000000) (hn:a.length<n):bB n a=some (U5 a):=by
 unfold bB U5
 have e:=PV (n:=n) a h n 0 (by omega) (by omega)
 rw [show((0:Nat):Int)=0 from rfl,Lh]at e
 rw [show(if(decide ((List.length a:Int)<1))=true then _ else _)=some (Zb a 63 45)from V8 h,L0,e]
 cases Zb a 63 45<;>cases a.all okc<;>rfl
theorem pE {c:UInt8}:∀ {s l:Bs},l∈splitB c s→l.length≤s.length
 | [],l,h=>by simp [splitB]at h; subst h; simp
 | x ::r,l,h=>by
  simp only [splitB]at h
  split at h
  ·rcases Lo.1 h with rfl|h
   ·simp
   ·have:=pE h; simp; omega
  ·split at h
   ·rename_i p ps hp
    rcases Lo.1 h with rfl|h
    ·have:=pE (s:=r) (l:=p) (by rw [hp]; simp); simp; omega
    ·have:=pE (s:=r) (l:=l) (by rw [hp]; simp [h]); simp; omega
   ·rename_i hp; exact absurd hp (Y7 c r)
def Zr (s:Bs):Bool:=decide (s.length≤128)&&(splitB 46 s).all U5
theorem D3 {n:Nat} (l:List Bs) (hn:1000001≤n) (hl:l.length≤1000000) (hs:∀x∈l,x.length≤1000000):∀(k i:Nat),i≤l.length→l.length-i<k→jL n l k (i:Int)=some (if(l.drop i).all U5=true then .nxt ()else .ret false)
 |0,i,_,h=>by omega
 | k+1,i,hi,hk=>by
  rw [jL]
  by_cases hc:i<l.length
  ·have hx:=hs _ (Lk hc)
   rw [L4 (by rw [L1]; omega),z2 hc,L0,ct hx (by omega),L0,w1 (by omega),D3 l hn hl hs k (i+1) (by omega) (by omega),Lb hc,List.all_cons]
   cases U5 l[i]<;>simp
  ·rw [L3 (by rw [L1]; omega),Lc (by omega)]; rfl
theorem Bl {n:Nat} {s:Bs} (hn:2000000≤n) (hs:s.length≤1000000):kM n s=some (Zr s):=by
 unfold kM Zr
 by_cases h:s.length≤128
 ·have hc:(splitB 46 s).length≤129:=by rw [Z6]; have:=List.count_le_length (a:=(46:UInt8)) (l:=s); omega
  have e:=D3 (n:=n) (splitB 46 s) (by omega) (by omega) (fun x hx=>by have:=pE hx; omega) n 0 (by omega) (by omega)
  rw [show((0:Nat):Int)=0 from rfl,Lh]at e
  rw [L3 (by rw [L1]; omega),strings_Split (by omega) (by omega),L0,e,decide_eq_true h]
  cases(splitB 46 s).all U5<;>rfl
 ·rw [L4 (by rw [L1]; omega),decide_eq_false h]; rfl
theorem Gx {n:Nat} (l:List Bs) (hn:1000001≤n) (hl:l.length≤1000000) (hs:∀x∈l,x.length≤1000000):∀(k i:Nat),i≤l.length→l.length-i<k→wG n l k (i:Int)=some (if(l.drop i).all U5=true then .nxt ()else .ret false)
 |0,i,_,h=>by omega
 | k+1,i,hi,hk=>by
  rw [wG]
  by_cases hc:i<l.length
  ·have hx:=hs _ (Lk hc)
   have e:=Gv (n:=n) l[i] hx n 0 (by omega) (by omega)
   rw [show((0:Nat):Int)=0 from rfl,Lh]at e
   rw [L4 (by rw [L1]; omega),z2 hc,L0,show(if(decide ((List.length l[i]:Int)<1))=true then _ else _)=some (Zb l[i] 63 45)from V8 hx,L0,e,w1 (by omega),Gx l hn hl hs k (i+1) (by omega) (by omega),Lb hc,List.all_cons]
   unfold U5
   cases Zb l[i] 63 45<;>cases l[i].all okc<;>simp [yW]
  ·rw [L3 (by rw [L1]; omega),Lc (by omega)]; rfl
theorem W2 {n:Nat} {c:UInt8} (s:Bs) (hs:s.length≤1000000):∀(k i:Nat) (p:Bs) (acc:List Bs),p.length≤i→i≤s.length→s.length-i+1<k→(s.take i).drop (i-p.length)=p→c∉p→acc.length≤i →
  xd n s (c.toNat:Int) k acc ((i-p.length:Nat):Int) (i:Int)=some (acc++splitB c (p++s.drop i))
 |0,i,p,acc,_,_,h,_,_,_=>by omega
 | k + 1,i,p,acc,hp,hi,hk,he,hcp,ha=>by
  rw [xd,L4 (by rw [L1]; omega)]
  have hss:ssl s ((i-p.length:Nat):Int) (i:Int)=some p:=(L4 ⟨by omega,by omega,by omega⟩).trans (by rw [Int.toNat_natCast,Int.toNat_natCast,he])
  by_cases hc:i<s.length
  ·rw [L3 (by rw [beq_iff_eq]; omega)]
   have e:wl s (i:Int)=some (s[i].toNat:Int):=by
    unfold wl; rw [L4 (by omega),Int.toNat_natCast,List.getElem?_eq_getElem hc]; rfl
   rw [e,L0,L0,Lb hc]
   by_cases hx:s[i]=c
   ·rw [L4 (by rw [beq_iff_eq,hx]),hss,L0,w8 (by rw [L8]; omega),L0,L0]; dsimp only
    rw [w1 (by omega),hx,(bU hcp).2]
    have:=W2 (n:=n) (c:=c) s hs k (i+1) [] (acc ++ [p]) (by simp) (by omega) (by omega) (by simp) (by simp) (by simp; omega)
    rw [show i+1-List.length ([]:Bs)=i+1 by simp]at this
    rw [this]; simp
   ·rw [L3 (by rw [beq_iff_eq]; intro h; exact hx (UInt8.toNat_inj.1 (by omega))),L0]; dsimp only
    rw [w1 (by omega)]
    have:=W2 (n:=n) (c:=c) s hs k (i+1) (p ++ [s[i]]) acc (by simp; omega) (by omega) (by omega) (by
     rw [List.take_succ_eq_append_getElem hc,show i+1-(p ++ [s[i]]).length=i-p.length by simp,List.drop_append_of_le_length (by rw [List.length_take]; omega),he]) (by simp [hcp,Ne.symm hx]) (by omega)
    rw [show i+1-(p ++ [s[i]]).length=i-p.length by simp]at this
    rw [this]; simp
  ·have hi2:i=s.length:=by omega
   rw [L4 (by rw [beq_iff_eq]; omega),L0,L4 rfl,hss,L0,w8 (by rw [L8]; omega),L0,L0]; dsimp only
   obtain⟨k',rfl⟩:∃k',k=k'+1:=⟨k-1,by omega⟩
   rw [xd,w1 (by omega),L3 (by rw [L1]; omega),Lc (by omega),Lj,(bU hcp).1]
theorem QU {n:Nat} {c:UInt8} {s:Bs} (hs:s.length≤1000000) (hn:s.length+2≤n):wa n s (c.toNat:Int)=some (splitB c s):=by
 unfold wa
 have:=W2 (n:=n) (c:=c) s hs n 0 [] [] (by simp) (by omega) (by omega) (by simp) (by simp) (by simp)
 rw [show((0-List.length ([]:Bs):Nat):Int)=0 by rfl,show((0:Nat):Int)=0 by rfl]at this
 rw [this]; simp
theorem J4 {n:Nat} {s:Bs} (hn:2000000≤n) (hs:s.length≤1000000):vb n s=some (Zr s):=by
 unfold vb Zr
 by_cases h:s.length≤128
 ·have hc:(splitB 46 s).length≤129:=by rw [Z6]; have:=List.count_le_length (a:=(46:UInt8)) (l:=s); omega
  have e:=Gx (n:=n) (splitB 46 s) (by omega) (by omega) (fun x hx=>by have:=pE hx; omega) n 0 (by omega) (by omega)
  rw [show((0:Nat):Int)=0 from rfl,Lh]at e
  rw [L3 (by rw [L1]; omega),show wa n s 46=some (splitB 46 s)from QU (c:=46) (by omega) (by omega),L0,e,decide_eq_true h]
  cases(splitB 46 s).all U5<;>rfl
 ·rw [L4 (by rw [L1]; omega),decide_eq_false h]; rfl
end Go.Abs
end
