/- The typed Lean form of WireBytes gives true for every string. No condition. -/
import Derived.Test.YtbggpcnbbhjiaaaGreatDoorLaw6
set_option linter.unusedVariables false
set_option linter.unusedSimpArgs false
set_option linter.unnecessarySimpa false
section
set_option maxRecDepth 100000
namespace Go.Abs
open Go Go.Proofs IntKind
def ltB (a:Int):Bool:=(decide (a≥97)&&decide (a≤122))||(decide (a≥65)&&decide (a≤90))
def dgB (a:Int):Bool:=decide (a≥48)&&decide (a≤57)
def alB (a:Int):Bool:=ltB a||dgB a
theorem GM {n:Nat} {a:Int}:dz n a=some (ltB a):=by
 unfold dz ltB
 cases decide (a≥97)<;>cases decide (a≤122)<;>cases decide (a≥65)<;>cases decide (a≤90)<;>rfl
theorem Pt {n:Nat} {a:Int}:py n a=some (dgB a):=by
 unfold py dgB
 cases decide (a≥48)<;>cases decide (a≤57)<;>rfl
theorem PL {n:Nat} {a:Int}:wd n a=some (alB a):=by
 unfold wd alB ltB dgB
 cases decide (a≥97)<;>cases decide (a≤122)<;>cases decide (a≥65)<;>cases decide (a≤90)<;>cases decide (a≥48)<;>cases decide (a≤57)<;>rfl
def okc (b:UInt8):Bool:=alB (b.toNat:Int)||(b.toNat:Int)==45
theorem zbG (x y w:Bool) (v:Int):((if(!x)=true then(some y).bind fun r=>if(!r)=true then some (v !=45)else some false else some false).bind fun y=>if y=true then some (Ctl.ret false)else some (if w=true then Ctl.nxt ()else Ctl.ret false))=some (if((x||y||v==45)&&w)=true then Ctl.nxt ()else(Ctl.ret false:Ctl Bool Unit)):=by
 cases h:(v==45)<;>cases x<;>cases y<;>cases w<;>simp [bne,h]
theorem sH {n:Nat} (a:Bs) (hl:a.length≤1000000):∀(k i:Nat),i≤a.length→a.length-i<k→kH n a k (i:Int)=some (if(a.drop i).all okc=true then .nxt ()else .ret false)
 |0,i,_,h=>O0
 | k + 1,i,hi,hk=>by
  have ls:(s2b a).length=a.length:=by simp [s2b]
  rw [kH]
  by_cases hc:i<a.length
  ·have e:zV (s2b a) (i:Int)=some (a[i].toNat:Int):=by
    rw [zE O0]; simp [s2b]
   rw [L4 O4,e,L0,GM,L0,Pt,w1 O0,sH a hl k (i+1) O0 O0,L9 hc,List.all_cons]
   exact zbG _ _ _ _
  ·rw [L3 O4,La O0]; rfl
theorem mF {n:Nat} (a:Bs) (hl:a.length≤1000000):∀(k i:Nat),i≤a.length→a.length-i<k→uw n a k (i:Int)=some (if(a.drop i).all okc=true then .nxt ()else .ret false)
 |0,i,_,h=>O0
 | k + 1,i,hi,hk=>by
  rw [uw]
  by_cases hc:i<a.length
  ·have e:yw a (i:Int)=some (a[i].toNat:Int):=by
    unfold yw; rw [L4 O0,Int.toNat_natCast,List.getElem?_eq_getElem hc]; rfl
   rw [L4 O4,e,L0,PL,L0,L0,w1 O0,mF a hl k (i+1) O0 O0,L9 hc,List.all_cons]
   have:=zbG (alB (a[i].toNat:Int)) false ((a.drop (i+1)).all okc) (a[i].toNat:Int)
   rw [Bool.or_false]at this
   exact this
  ·rw [L3 O4,La O0]; rfl
def Gq (a:Bs) (m c:Int):Option Bool:=if(decide ((List.length a:Int)<1))=true then(some true)else(if(decide ((List.length a:Int)>m))=true then(some true)else((yw a 0).bind fun x1=>
 if(x1==c)=true then(some true)else((yw a (wrap .i64 ((List.length a:Int)-1))).bind fun x2=>some (x2==c))))
theorem th (a:Bs) (m c:Int) (h:a.length≤1000000):∃b,Gq a m c=some b:=by
 unfold Gq
 refine yn (fun _=>⟨_,rfl⟩) fun h1=>yn (fun _=>⟨_,rfl⟩) fun _=> ?_
 rw [L2]at h1
 refine yM (jK O0 O0) fun _ _=>yn (fun _=>⟨_,rfl⟩) fun _=> ?_
 rw [yv O0]
 exact yM (jK O0 O0) fun _ _=>⟨_,rfl⟩
def XZ (a:Bs) (m c:Int):Bool:=(Gq a m c).getD true
theorem Kv {a:Bs} {m c:Int} (h:a.length≤1000000):Gq a m c=some (XZ a m c):=by
 obtain⟨b,e⟩:=th a m c h
 unfold XZ; rw [e]; rfl
def BU (a:Bs):Bool:= !XZ a 63 45&&a.all okc
theorem rl {n:Nat} {a:Bs} (h:a.length≤1000000) (hn:a.length<n):Z0 n a=some (BU a):=by
 unfold Z0 BU
 have e:=sH (n:=n) a h n 0 O0 O0
 rw [show((0:Nat):Int)=0 from rfl,Lf]at e
 rw [show(if(decide ((List.length a:Int)<1))=true then _ else _)=some (XZ a 63 45)from Kv h,L0,e]
 cases XZ a 63 45<;>cases a.all okc<;>rfl
theorem Xq {c:UInt8}:∀ {s l:Bs},l∈yx c s→l.length≤s.length
 | [],l,h=>by simp [yx]at h; subst h; simp
 | x ::r,l,h=>by
  simp only [yx]at h
  split at h
  ·rcases Lm.1 h with rfl|h
   ·simp
   ·have:=Xq h; simp; omega
  ·split at h
   ·rename_i p ps hp
    rcases Lm.1 h with rfl|h
    ·have:=Xq (s:=r) (l:=p) (by rw [hp]; simp); simp; omega
    ·have:=Xq (s:=r) (l:=l) (by rw [hp]; simp [h]); simp; omega
   ·rename_i hp; exact absurd hp (Ud c r)
def Wp (s:Bs):Bool:=decide (s.length≤128)&&(yx 46 s).all BU
theorem sU {n:Nat} (l:List Bs) (hn:1000001≤n) (hl:l.length≤1000000) (hs:∀x∈l,x.length≤1000000):∀(k i:Nat),i≤l.length→l.length-i<k→gu n l k (i:Int)=some (if(l.drop i).all BU=true then .nxt ()else .ret false)
 |0,i,_,h=>O0
 | k+1,i,hi,hk=>by
  rw [gu]
  by_cases hc:i<l.length
  ·have hx:=hs _ (Li hc)
   rw [L4 O4,zE hc,L0,rl hx O0,L0,w1 O0,sU l hn hl hs k (i+1) O0 O0,L9 hc,List.all_cons]
   cases BU l[i]<;>simp
  ·rw [L3 O4,La O0]; rfl
theorem fP {n:Nat} {s:Bs} (hn:2000000≤n) (hs:s.length≤1000000):pW n s=some (Wp s):=by
 unfold pW Wp
 by_cases h:s.length≤128
 ·have hc:(yx 46 s).length≤129:=by rw [Va]; have:=List.count_le_length (a:=(46:UInt8)) (l:=s); omega
  have e:=sU (n:=n) (yx 46 s) O0 O0 (fun x hx=>by have:=Xq hx; omega) n 0 O0 O0
  rw [show((0:Nat):Int)=0 from rfl,Lf]at e
  rw [L3 O4,UI O0 O0,L0,e,decide_eq_true h]
  cases(yx 46 s).all BU<;>rfl
 ·rw [L4 O4,decide_eq_false h]; rfl
theorem lO {n:Nat} (l:List Bs) (hn:1000001≤n) (hl:l.length≤1000000) (hs:∀x∈l,x.length≤1000000):∀(k i:Nat),i≤l.length→l.length-i<k→ux n l k (i:Int)=some (if(l.drop i).all BU=true then .nxt ()else .ret false)
 |0,i,_,h=>O0
 | k+1,i,hi,hk=>by
  rw [ux]
  by_cases hc:i<l.length
  ·have hx:=hs _ (Li hc)
   have e:=mF (n:=n) l[i] hx n 0 O0 O0
   rw [show((0:Nat):Int)=0 from rfl,Lf]at e
   rw [L4 O4,zE hc,L0,show(if(decide ((List.length l[i]:Int)<1))=true then _ else _)=some (XZ l[i] 63 45)from Kv hx,L0,e,w1 O0,lO l hn hl hs k (i+1) O0 O0,L9 hc,List.all_cons]
   unfold BU
   cases XZ l[i] 63 45<;>cases l[i].all okc<;>simp [z8]
  ·rw [L3 O4,La O0]; rfl
theorem QL {n:Nat} {c:UInt8} (s:Bs) (hs:s.length≤1000000):∀(k i:Nat) (p:Bs) (acc:List Bs),p.length≤i→i≤s.length→s.length-i+1<k→(s.take i).drop (i-p.length)=p→c∉p→acc.length≤i →
  wI n s (c.toNat:Int) k acc ((i-p.length:Nat):Int) (i:Int)=some (acc++yx c (p++s.drop i))
 |0,i,p,acc,_,_,h,_,_,_=>O0
 | k + 1,i,p,acc,hp,hi,hk,he,hcp,ha=>by
  rw [wI,L4 O4]
  have hss:ssl s ((i-p.length:Nat):Int) (i:Int)=some p:=(L4 ⟨O0,O0,O0⟩).trans (by rw [Int.toNat_natCast,Int.toNat_natCast,he])
  by_cases hc:i<s.length
  ·rw [L3 O8]
   have e:yw s (i:Int)=some (s[i].toNat:Int):=by
    unfold yw; rw [L4 O0,Int.toNat_natCast,List.getElem?_eq_getElem hc]; rfl
   rw [e,L0,L0,L9 hc]
   by_cases hx:s[i]=c
   ·rw [L4 (by rw [beq_iff_eq,hx]),hss,L0,yU (by rw [L6]; omega),L0,L0]; dsimp only
    rw [w1 O0,hx,(pN hcp).2]
    have:=QL (n:=n) (c:=c) s hs k (i+1) [] (acc ++ [p]) O2 O0 O0 O2 O2 O3
    rw [show i+1-List.length ([]:Bs)=i+1 by simp]at this
    rw [this]; simp
   ·rw [L3 (by rw [beq_iff_eq]; intro h; exact hx (UInt8.toNat_inj.1 O0)),L0]; dsimp only
    rw [w1 O0]
    have:=QL (n:=n) (c:=c) s hs k (i+1) (p ++ [s[i]]) acc O3 O0 O0 (by
     rw [List.take_succ_eq_append_getElem hc,show i+1-(p ++ [s[i]]).length=i-p.length by simp,List.drop_append_of_le_length (by rw [List.length_take]; omega),he]) (by simp [hcp,Ne.symm hx]) O0
    rw [show i+1-(p ++ [s[i]]).length=i-p.length by simp]at this
    rw [this]; simp
  ·have hi2:i=s.length:=O0
   rw [L4 O8,L0,L4 rfl,hss,L0,yU (by rw [L6]; omega),L0,L0]; dsimp only
   obtain⟨k',rfl⟩:∃k',k=k'+1:=⟨k-1,O0⟩
   rw [wI,w1 O0,L3 O4,La O0,Lh,(pN hcp).1]
theorem cF {n:Nat} {c:UInt8} {s:Bs} (hs:s.length≤1000000) (hn:s.length+2≤n):vR n s (c.toNat:Int)=some (yx c s):=by
 unfold vR
 have:=QL (n:=n) (c:=c) s hs n 0 [] [] O2 O0 O0 O2 O2 O2
 rw [show((0-List.length ([]:Bs):Nat):Int)=0 by rfl,show((0:Nat):Int)=0 by rfl]at this
 rw [this]; simp
theorem DI {n:Nat} {s:Bs} (hn:2000000≤n) (hs:s.length≤1000000):jj n s=some (Wp s):=by
 unfold jj Wp
 by_cases h:s.length≤128
 ·have hc:(yx 46 s).length≤129:=by rw [Va]; have:=List.count_le_length (a:=(46:UInt8)) (l:=s); omega
  have e:=lO (n:=n) (yx 46 s) O0 O0 (fun x hx=>by have:=Xq hx; omega) n 0 O0 O0
  rw [show((0:Nat):Int)=0 from rfl,Lf]at e
  rw [L3 O4,show vR n s 46=some (yx 46 s)from cF (c:=46) O0 O0,L0,e,decide_eq_true h]
  cases(yx 46 s).all BU<;>rfl
 ·rw [L4 O4,decide_eq_false h]; rfl
theorem rf:BU [42]=false:=O7
theorem tQ:Wp []=false:=O7
theorem sJ (r:Bs):Wp (42::46::r)=false:=by
 unfold Wp
 rw [show(42::46::r:Bs)= [42]++46::r by rfl,(pN (c:=46) (p:= [42]) O2).2]
 simp [rf]
theorem nM (c:UInt8) (s:Bs):decide (Lib.index s [c]≥0)=decide (c∈s):=by
 rcases WM c s with⟨h1,h2⟩|⟨p,r,h1,h2,h3⟩
 ·rw [h1,decide_eq_false h2]; rfl
 ·rw [h2,h1,decide_eq_true O0,decide_eq_true O2]
def B1 (s:Bs):Bool:=match s with
 |42::46::r=>decide (s.length≤128)&&(Wp r&&decide ((46:UInt8)∈r))
 |_=>Wp s
def zaa (s:Bs):Bs×Bool:=match s with|42::46::r=>(r,true)|_=>(s,false)
theorem zbw {n:Nat} {s:Bs} (hs:s.length≤1000000):bH n s [42,46]=some (zaa s):=by
 unfold bH jv wD
 by_cases hl:s.length<2
 ·rw [L3 (by rw [L2]; show ¬((s.length:Int)≥((2:Nat):Int)); omega),L0,L0,L4 O1,L0]
  unfold zaa
  split
  ·rename_i r; have hl:r.length+1+1<2:=hl; omega
  ·rfl
 ·obtain ⟨x,s1,rfl⟩:∃x s1,s=x::s1:=by cases s with|nil=>simp at hl|cons x s1=>exact⟨x,s1,rfl⟩
  obtain⟨y,r,rfl⟩:∃x s2,s1=x::s2:=by cases s1 with|nil=>simp at hl|cons x s2=>exact⟨x,s2,rfl⟩
  have hs:r.length+1+1≤1000000:=hs
  rw [L4 (by rw [L2]; show((2:Nat):Int)≤((r.length+1+1:Nat):Int); omega),show ssl (x::y::r) 0 (List.length ([42,46]:Bs):Int)=some [x,y]from L4 ⟨O1,O1,by show((2:Nat):Int)≤((r.length+1+1:Nat):Int); omega⟩,L0,L0,L0]
  by_cases h:x=42∧y=46
  ·obtain⟨rfl,rfl⟩:=h
   rw [L3 O1,show ssl (42::46::r) (List.length ([42,46]:Bs):Int) (List.length (42::46::r):Int)=some r from(L4 ⟨O1,by show((2:Nat):Int)≤((r.length+1+1:Nat):Int); omega,O0⟩).trans (by rw [Int.toNat_natCast,List.take_of_length_le O0]; rfl),L0,L0]
   rfl
  ·rw [L4 (by have:=Decidable.not_and_iff_or_not.1 h; simpa using this),L0]
   unfold zaa
   split
   ·rename_i heq; injection heq with h1 h2; injection h2 with h2 _; exact absurd ⟨h1,h2⟩ h
   ·rfl
theorem za3 {n:Nat} {s:Bs} (hn:2000000≤n) (hs:s.length≤1000000):pM n s=some (B1 s):=by
 unfold pM
 rw [zbw hs,L0]
 unfold B1 zaa
 split
 ·rename_i r
  have hr:r.length+1+1≤1000000:=hs
  rw [L4 rfl]; dsimp only
  by_cases h:(42::46::r:Bs).length≤128
  ·rw [L4 O4,fP hn O0,L0,decide_eq_true h]
   have e:uf n r [46]=some (decide ((46:UInt8)∈r)):=by
    unfold uf Yd
    rw [L4 O0,L0,nM]
   rw [e]
   cases Wp r<;>simp
  ·rw [L3 O4,decide_eq_false h]; rfl
 ·rw [L3 (show ¬(false=true)by decide),fP hn hs]; rfl
theorem tT {s:Bs} (h:∀r,s≠42::46::r):B1 s=Wp s:=by
 unfold B1; split
 ·rename_i r; exact absurd rfl (h r)
 ·rfl
theorem tN {n:Nat} {s:Bs} (hn:2000000≤n) (hs:s.length≤1000000):qy n s=some (B1 s):=by
 unfold qy
 rw [DI hn hs,L0]
 by_cases hc:∃r,s=42::46::r
 ·obtain ⟨r,rfl⟩:=hc
  show _=some (decide ((42::46::r:Bs).length≤128)&&(Wp r&&decide ((46:UInt8)∈r)))
  have hr:r.length+1+1≤1000000:=hs
  rw [sJ,L3 O1]
  by_cases h:(42::46::r:Bs).length≤128
  ·rw [L4 O4,decide_eq_true h]
   by_cases h2:r= []
   ·subst h2
    rw [L3 O1,tQ]; rfl
   ·have h3:0<r.length:=List.length_pos_iff.2 h2
    rw [L4 (by rw [L2]; show((2:Nat):Int)<((r.length+1+1:Nat):Int); omega),show ssl (42::46::r) 0 2=some [42,46]from L4 ⟨O1,O1,by show((2:Nat):Int)≤((r.length+1+1:Nat):Int); omega⟩,L0,L4 O1,
     show ssl (42::46::r) 2 (List.length (42::46::r):Int)=some r from(L4 ⟨O1,by show((2:Nat):Int)≤((r.length+1+1:Nat):Int); omega,O0⟩).trans (by rw [Int.toNat_natCast,List.take_of_length_le O0]; rfl),L0,DI hn O0,L0,
     show vR n (42::46::r) 46=some (yx 46 (42::46::r))from cF (c:=46) O0 O0,L0,Va]
    have hcnt:decide (((List.count 46 (42::46::r:Bs)+1:Nat):Int)>2)=decide ((46:UInt8)∈r):=by
     rw [List.count_cons_of_ne O1,List.count_cons_self]
     by_cases hm:(46:UInt8)∈r
     ·have:=List.count_pos_iff.2 hm
      rw [decide_eq_true hm,decide_eq_true O0]
     ·have:=List.count_eq_zero.2 hm
      rw [decide_eq_false hm,decide_eq_false O0]
    rw [hcnt]
    cases Wp r<;>simp
  ·rw [L3 O4,decide_eq_false h]; rfl
 ·have hne:∀r,s≠42::46::r:=fun r h=>hc ⟨r,h⟩
  rw [tT hne]
  cases hd:Wp s with
  |true=>rfl
  | false=>
   rw [L3 O1]
   refine Eq.trans (congrArg (fun o=>Option.bind o fun y7=>some y7) (?_:_=some false)) rfl
   by_cases h:s.length≤128
   ·rw [L4 O4]
    by_cases h2:s.length>2
    ·obtain⟨x,s1,rfl⟩:∃x s1,s=x::s1:=by cases s with|nil=>simp at h2|cons x s1=>exact⟨x,s1,rfl⟩
     obtain⟨y,r,rfl⟩:∃x s2,s1=x::s2:=by cases s1 with|nil=>simp at h2|cons x s2=>exact⟨x,s2,rfl⟩
     have hr:2<r.length+1+1:=h2
     rw [L4 (by rw [L2]; show((2:Nat):Int)<((r.length+1+1:Nat):Int); omega),show ssl (x::y::r) 0 2=some [x,y]from L4 ⟨O1,O1,by show((2:Nat):Int)≤((r.length+1+1:Nat):Int); omega⟩,L0,L3]
     intro hxy
     simp at hxy
     obtain⟨rfl,rfl⟩:=hxy
     exact hne r rfl
    ·rw [L3 O4]
   ·rw [L3 O4]
def spc:Bs:= [33,35,36,37,38,39,42,43,45,47,61,63,94,95,96,123,124,125,126,46]
def amB (x:Int):Bool:=decide (Lib.indexByte spc x.toNat.toUInt8≥0)
theorem oj (m:Nat):((List.range 256).all fun x:Nat=>wb (m+100) (x:Int) spc==some (amB (x:Int)))=true:=O7
theorem oV {n:Nat} {b:UInt8} (hn:100≤n):wb n (b.toNat:Int) spc=some (amB (b.toNat:Int)):=by
 obtain⟨m,rfl⟩:∃m,n=m+100:=⟨n-100,O0⟩
 have:=Ld.1 (oj m) b.toNat (by rw [List.mem_range]; have:=b.toNat_lt; omega)
 simpa using this
def okl (b:UInt8):Bool:=alB (b.toNat:Int)||amB (b.toNat:Int)
def dd:Bs→Bool
 | []=>false
 |x::l=>(x==46&&l.head? ==some 46)||dd l
theorem sk (s:Bs):decide (Lib.index s [46,46]≥0)=dd s:=by
 induction s with
 |nil=>rfl
 | cons x l ih=>
  unfold Lib.index dd
  have e:List.isPrefixOf [46,46] (x::l)=(x==46&&l.head? ==some 46):=by
   cases l with
   |nil=>simp [List.isPrefixOf]
   | cons y r=>
    show(46==x&&(46==y&&true))=(x==46&&(y==46))
    rw [Bool.and_true,BEq.comm (a:=(46:UInt8)) (b:=x),BEq.comm (a:=(46:UInt8)) (b:=y)]
  rw [e,←ih]
  have hg:=Lib.index_ge l [46,46]
  cases(x==46&&l.head? ==some 46)with
  |true=>rfl
  | false=>
   rw [L3 O1,Bool.false_or]
   by_cases h:Lib.index l [46,46]= -1
   ·rw [L4 (by rw [beq_iff_eq]; exact h),h]
   ·rw [L3 (by rw [beq_iff_eq]; exact h),decide_eq_true (show Lib.index l [46,46]≥0 by omega),decide_eq_true O0]
def oR (a:Bs):Bool:= !(XZ a 64 46||dd a)&&a.all okl
theorem sx {n:Nat} (a:Bs) (hl:a.length≤1000000):∀(k i:Nat),i≤a.length→a.length-i<k→kr n a k (i:Int)=some (if(a.drop i).all okl=true then .nxt ()else .ret false)
 |0,i,_,h=>O0
 | k + 1,i,hi,hk=>by
  have ls:(s2b a).length=a.length:=by simp [s2b]
  rw [kr]
  by_cases hc:i<a.length
  ·have e:zV (s2b a) (i:Int)=some (a[i].toNat:Int):=by
    rw [zE O0]; simp [s2b]
   rw [L4 O4,e,L0,GM,L0,Pt,w1 O0,sx a hl k (i+1) O0 O0,L9 hc,List.all_cons]
   unfold YN
   have key:∀(x y z w:Bool),((if x=true then some true else(some y).bind fun r165=>if r165=true then some true else some z).bind fun y162=>if(!y162)=true then some (Ctl.ret false)else some (if w=true then Ctl.nxt ()else Ctl.ret false))=some (if(((x||y)||z)&&w)=true then Ctl.nxt ()else(Ctl.ret false:Ctl Bool Unit)):=by
    intro x y z w; cases x<;>cases y<;>cases z<;>cases w<;>rfl
   exact key (ltB (a[i].toNat:Int)) (dgB (a[i].toNat:Int)) (amB (a[i].toNat:Int)) ((a.drop (i+1)).all okl)
  ·rw [L3 O4,La O0]; rfl
theorem sK {n:Nat} {a:Bs} (h:a.length≤1000000) (hn:a.length<n):Z6 n a=some (oR a):=by
  unfold Z6 oR
  have e:=sx (n:=n) a h n 0 O0 O0
  rw [show((0:Nat):Int)=0 from rfl,Lf]at e
  have ec:uf n a [46,46]=some (dd a):=by
    unfold uf Yd
    rw [L4 O0,L0,sk]
  have e1 :(if(decide ((List.length a:Int)<1))=true then(some true)else(if(decide ((List.length a:Int)>64))=true then(some true)else((yw a 0).bind fun x1=>
     if(x1==46)=true then(some true)else((yw a (wrap .i64 ((List.length a:Int)-1))).bind fun x2=>
     if(x2==46)=true then(some true)else((uf n a ([46,46]:List UInt8)).bind fun r3=>
     some r3)))))=some (XZ a 64 46||dd a):=by
    have h0:=Kv (a:=a) (m:=64) (c:=46) h
    unfold Gq at h0
    revert h0
    generalize XZ a 64 46=eb
    intro h0
    by_cases c1:decide ((List.length a:Int)<1)=true
    · rw [L4 c1]at h0 ⊢; injection h0 with h0; subst h0; rfl
    · rw [L3 c1]at h0 ⊢
      by_cases c2:decide ((List.length a:Int)>64)=true
      · rw [L4 c2]at h0 ⊢; injection h0 with h0; subst h0; rfl
      · rw [L3 c2]at h0 ⊢
        obtain⟨x1,h1,h0⟩:=Option.bind_eq_some_iff.1 h0
        rw [h1,L0]
        by_cases c3:(x1==46)=true
        · rw [L4 c3]at h0 ⊢; injection h0 with h0; subst h0; rfl
        · rw [L3 c3]at h0 ⊢
          obtain⟨x2,h2,h0⟩:=Option.bind_eq_some_iff.1 h0
          rw [h2,L0]
          injection h0 with h0; subst h0
          rw [ec]
          cases(x2==46)<;>rfl
  rw [e1,L0,e]
  cases(XZ a 64 46||dd a)<;>cases a.all okl<;>rfl
def JB (s:Bs):Bool:=decide (s.length≤128)&&decide ((64:UInt8)∈s)&&(oR (s.takeWhile (· !=64))&&Wp ((s.dropWhile (· !=64)).drop 1))
theorem lk {p r:Bs} (h:(64:UInt8)∉p):(p++64::r).takeWhile (· !=64)=p∧((p++64::r).dropWhile (· !=64)).drop 1=r:=by
 induction p with
 |nil=>simp
 | cons x p ih=>
  simp only [Lm,not_or]at h
  have hx:(x !=64)=true:=by simp; exact Ne.symm h.1
  have:=ih h.2
  simp [List.takeWhile_cons,List.dropWhile_cons,hx]at this ⊢
  exact this
theorem tS {n:Nat} {s:Bs} (hn:2000000≤n) (hs:s.length≤1000000):YM n s=some (JB s):=by
 unfold YM Xl qZ Ue JB
 rw [L4 O0,L0]
 rcases WM 64 s with⟨h1,h2⟩|⟨p,r,h1,h2,h3⟩
 ·rw [h1,L3 O1,L0,L0]; dsimp only
  rw [L3 (show ¬(false=true)by decide),decide_eq_false h2]; simp
 ·have hlen:s.length=p.length+(r.length+1):=by rw [h1]; simp
  rw [h2,L4 O4,show ssl s 0 (p.length:Int)=some p from(L4 ⟨O0,O0,O0⟩).trans (by rw [Int.toNat_natCast,h1]; simp),L0,show wrap .i64 ((p.length:Int)+(List.length ([64]:Bs):Int))=((p.length+1:Nat):Int)from w1 O0,
   show ssl s ((p.length+1:Nat):Int) (s.length:Int)=some r from(L4 ⟨O0,O0,O0⟩).trans (by rw [Int.toNat_natCast,Int.toNat_natCast,List.take_of_length_le O0,h1]; simp),L0,L0,L0]
  dsimp only
  rw [L4 rfl,decide_eq_true (show(64:UInt8)∈s by rw [h1]; simp),sK O0 O0,fP hn O0]
  obtain⟨e1,e2⟩:=lk (p:=p) (r:=r) h3
  rw [h1,e1,e2,←h1]
  by_cases h:s.length≤128
  ·rw [L4 O4,decide_eq_true h]
   cases oR p<;>simp
  ·rw [L3 O4,decide_eq_false h]; rfl
def okW:Bs→Bool
 | []=>true
 |x::l=>(okl x && !(x==46&&l.head? ==some 46))&&okW l
theorem zbA (p:Bs):okW p=(!dd p&&p.all okl):=by
 induction p with
 |nil=>rfl
 | cons x l ih=>
  unfold okW dd
  rw [ih,List.all_cons]
  cases okl x<;>cases(x==46&&l.head? ==some 46)<;>cases dd l<;>cases l.all okl<;>rfl
theorem Pg {n : Nat} {p r : Bs} (hp : (64 :UInt8)∉p) (hs:(p++64::r).length≤1000000):∀(k i:Nat),i≤p.length→p.length-i<k→xO n (p++64::r) k (i:Int)=some (p.length:Int)
  |0,i,_,h=>O0
  | k + 1,i,hi,hk=>by
    have hl:(p++64::r).length=p.length+(r.length+1):=O2
    rw [xO,L4 O4,vC O0,L0,L0]
    by_cases hc:i<p.length
    · have hx : (p ++ 64 :: r)[i]' O0=p[i]:=List.getElem_append_left hc
      have hne:p[i]≠64:=fun h=>hp (h▸Li hc)
      rw [hx,L4 (by
        rw [bne_iff_ne]; intro h
        exact hne (UInt8.toNat_inj.1 (by have:p[i].toNat=64:=O0
                                         rw [this]; rfl))),w1 O0]
      exact Pg hp hs k (i+1) O0 O0
    · have hi2:i=p.length:=O0
      subst hi2
      rw [L3 O2]
theorem DT {n : Nat} {s : Bs} (hp : (64 : UInt8)∉s) (hs:s.length≤1000000):∀(k i:Nat),i≤s.length→s.length-i<k→xO n s k (i:Int)=some (s.length:Int)
  |0,i,_,h=>O0
  | k + 1,i,hi,hk=>by
    rw [xO]
    by_cases hc:i<s.length
    · have hne : s[i] ≠ 64 := fun h => hp (h▸Li hc)
      rw [L4 O4,vC hc,L0,L0,L4 (by
        rw [bne_iff_ne]; intro h
        exact hne (UInt8.toNat_inj.1 (by have:s[i].toNat=64:=O0
                                         rw [this]; rfl))),w1 O0]
      exact DT hp hs k (i+1) O0 O0
    · have hi2:i=s.length:=O0
      subst hi2
      rw [L3 O4,L0,L3 O1]
theorem b46 {b : UInt8} : ((b.toNat : Int)==46)=(b==46):=by
  rw [Bool.eq_iff_iff,beq_iff_eq,beq_iff_eq]
  constructor
  · intro h; exact UInt8.toNat_inj.1 (by have:b.toNat=46:=O0
                                         rw [this]; rfl)
  · intro h; subst h; rfl
theorem Pp {n:Nat} {p r:Bs} (hn:100≤n) (hs:(p++64::r).length≤1000000):∀(k i:Nat),i≤p.length→p.length-i<k→vH n (p.length:Int) (p++64::r) k (i:Int)=some (if okW (p.drop i)=true then .nxt ()else .ret ([],[],false))
 |0,i,_,h=>O0
 | k + 1,i,hi,hk=>by
  have hl:(p++64::r).length=p.length+(r.length+1):=O2
  rw [vH]
  by_cases hc:i<p.length
  ·have hx:(p++64::r)[i]' O0=p[i]:=List.getElem_append_left hc
   have hb:yw (p++64::r) (i:Int)=some (p[i].toNat:Int):=by rw [vC O0,hx]
   have hb1:∃y:UInt8,yw (p++64::r) ((i+1:Nat):Int)=some (y.toNat:Int)∧(y==46)=((p.drop (i+1)).head? ==some 46):=by
    by_cases h1:i+1<p.length
    ·refine⟨p[i+1],by rw [vC O0,List.getElem_append_left h1], ?_⟩
     rw [L9 h1]; rfl
    ·refine ⟨64, ?_, ?_⟩
     ·have h2:i+1=p.length:=O0
      rw [vC O0]; simp [h2]
     ·rw [La O0]; rfl
   obtain⟨y,hy,hy2⟩:=hb1
   have ham:wb n (p[i].toNat:Int) ([33,35,36,37,38,39,42,43,45,47,61,63,94,95,96,123,124,125,126,46]:List UInt8)=some (amB (p[i].toNat:Int)):=oV hn
   rw [L4 O4,hb]
   simp only [L0,PL,ham]
   rw [w1 O0,hy]
   simp only [L0]
   rw [b46,b46,hy2,Pp hn hs k (i+1) O0 O0,L9 hc,okW]
   unfold okl
   have key:∀(x y z w u:Bool),((if(!x)=true then(if(!y)=true then some true else if z=true then some w else some false)else if z=true then some w else some false).bind fun y154=>
     if y154=true then some (Ctl.ret (([]:List UInt8),([]:List UInt8),false))else some (if u=true then Ctl.nxt ()else Ctl.ret ([],[],false)))=some (if(((x||y) && !(z&&w))&&u)=true then Ctl.nxt ()else(Ctl.ret ([],[],false):Ctl (List UInt8×List UInt8×Bool) Unit)):=by
    intro x y z w u; cases x<;>cases y<;>cases z<;>cases w<;>cases u<;>rfl
   exact key _ _ _ _ _
  ·rw [L3 O4,La O0]; rfl
theorem D2 {p r:Bs} {m c:Int} (h0:1≤p.length) (hs:(p++64::r).length≤1000000):yw (p++64::r) 0=yw p 0∧yw (p++64::r) (wrap .i64 ((p.length:Int)-1))=yw p (wrap .i64 ((p.length:Int)-1)):=by
 have hl:(p++64::r).length=p.length+(r.length+1):=O2
 rw [yv O0,show(p.length:Int)-1=((p.length-1:Nat):Int)by omega,show(0:Int)=((0:Nat):Int)by rfl,vC O0,vC O0,vC O0,vC O0,List.getElem_append_left O0,List.getElem_append_left O0]
 exact⟨rfl,rfl⟩
theorem sQ {n:Nat} {s:Bs} (hn:2000000≤n) (hs:s.length≤1000000):bm n s=some (JB s):=by
 unfold bm gS JB
 by_cases h:s.length≤128
 ·rw [L3 O4,decide_eq_true h]
  rcases WM 64 s with⟨h1,h2⟩|⟨p,r,h1,h2,h3⟩
  ·have e:=DT (n:=n) h2 hs n 0 O0 O0
   rw [show((0:Nat):Int)=0 by rfl]at e
   rw [e,L0,decide_eq_false h2]
   have e2:∃b,(if(decide ((s.length:Int)<1))=true then some true else if(decide ((s.length:Int)>64))=true then some true else if((s.length:Int)==(List.length s:Int))=true then some true else b)=some true:=by
    refine⟨none, ?_⟩
    split
    ·rfl
    ·split
     ·rfl
     ·rw [L4 O2]
   have e3:∀b:Option Bool,(if(decide ((s.length:Int)<1))=true then some true else if(decide ((s.length:Int)>64))=true then some true else if((s.length:Int)==(List.length s:Int))=true then some true else b)=some true:=by
    intro b
    split
    ·rfl
    ·split
     ·rfl
     ·rw [L4 O2]
   rw [e3,L0,L4 rfl,L0]; rfl
  ·obtain ⟨t1,t2⟩:=lk (p:=p) (r:=r) h3
   subst h1
   have hl:(p++64::r).length=p.length+(r.length+1):=O2
   have e:=Pg (n:=n) h3 hs n 0 O0 O0
   rw [show((0:Nat):Int)=0 by rfl]at e
   rw [e,L0,t1,t2,decide_eq_true (show(64:UInt8)∈p++64::r by simp)]
   have es:ssl (p++64::r) (wrap .i64 ((p.length:Int)+1)) (List.length (p++64::r):Int)=some r:=by
    rw [w1 O0]
    exact(L4 ⟨O0,O0,O0⟩).trans (by rw [Int.toNat_natCast,Int.toNat_natCast,List.take_of_length_le O0]; simp)
   have e2:=Pp (n:=n) (p:=p) (r:=r) O0 hs n 0 O0 O0
   rw [show((0:Nat):Int)=0 by rfl,Lf]at e2
   rw [es,L0,DI hn O0,L0,e2,zbA]
   have hg:((p.length:Int)==(List.length (p++64::r):Int))=false:=by rw [beq_eq_false_iff_ne]; omega
   rw [hg]
   have he:=Kv (a:=p) (m:=64) (c:=46) O0
   unfold oR
   have e3:((if(decide ((p.length:Int)<1))=true then some true else if(decide ((p.length:Int)>64))=true then some true else if false=true then some true else
     if(!Wp r)=true then some true else(yw (p++64::r) 0).bind fun x26=>if(x26==46)=true then some true else(yw (p++64::r) (wrap .i64 ((p.length:Int)-1))).bind fun x27=>some (x27==46)):Option Bool)=some (XZ p 64 46|| !Wp r):=by
    unfold Gq at he
    revert he
    generalize XZ p 64 46=eb
    intro he
    by_cases c1:decide ((p.length:Int)<1)=true
    ·rw [L4 c1]at he ⊢; injection he with he; subst he; rfl
    ·rw [L3 c1]at he ⊢
     rw [L2]at c1
     by_cases c2:decide ((p.length:Int)>64)=true
     ·rw [L4 c2]at he ⊢; injection he with he; subst he; rfl
     ·rw [L3 c2]at he ⊢
      rw [L3 (show ¬(false=true)by decide),(D2 (m:=0) (c:=0) O0 hs).1,(D2 (m:=0) (c:=0) O0 hs).2]
      cases hd:Wp r with
      |false=>rw [L4 (show(!false)=true from rfl)]; simp
      |true=>rw [L3 (show ¬((!true)=true)by decide),he]; simp
   rw [e3,L0]
   cases XZ p 64 46 with
   |true=>rw [Bool.true_or,L4 rfl,L0]; simp
   | false=>
    cases Wp r with
    |false=>rw [Bool.false_or,L4 (show(!false)=true from rfl),L0]; simp
    | true=>
     rw [L3 O1]
     cases hk:(!dd p&&p.all okl)with
     |false=>simp only [z8,L3 (show ¬(false=true)by decide),L0]; simp [hk]
     | true=>
      simp only [z8,L4]
      rw [show ssl (p++64::r) 0 (p.length:Int)=some p from(L4 ⟨O0,O0,O0⟩).trans (by rw [Int.toNat_natCast]; simp)]
      simp only [L0]
      simp [hk]
 ·rw [L4 O4,decide_eq_false h]; rfl
def rU (k:Int) (s:Bs):Bool:=if k=1 then JB s else if k=2 then B1 s else decide (s.length=4)||decide (s.length=16)
def ju (g:Gen):Int:=if g.zG=4 then(if g.yy= []then vy g.zo.zg else 14)else if g.zG=1∨g.zG=2∨g.zG=7 then(if g.zo.zg= []∧rU g.zG g.yy=true then 0 else 14)else 14
theorem mS {n:Nat} {s:Bs}:pI n s=some (decide (s.length=4)||decide (s.length=16)):=by
 unfold pI
 by_cases h:s.length=4
 ·rw [L4 O8,decide_eq_true h]; rfl
 ·rw [L3 O8,decide_eq_false h,L0,Bool.false_or]
  congr 1
  rw [Bool.eq_iff_iff,beq_iff_eq,L2]; omega
theorem oO {n:Nat} {s:Bs}:gd n s=some (decide (s.length=4)||decide (s.length=16)):=mS (n:=n)
theorem sN (l:List (List Att)):decide ((List.length l:Int)>0)= !decide (l= []):=by
 cases l with
 |nil=>rfl
 |cons x l=>rw [decide_eq_true O2,decide_eq_false O2]; rfl
theorem JG (g:Gen):(g.zG=1→ju g=if g.zo.zg= []∧JB g.yy=true then 0 else 14)∧(g.zG=2→ju g=if g.zo.zg= []∧B1 g.yy=true then 0 else 14) ∧
  (g.zG=7→ju g=if g.zo.zg= []∧(decide (g.yy.length=4)||decide (g.yy.length=16))=true then 0 else 14)∧(g.zG=4→ju g=if g.yy= []then vy g.zo.zg else 14) ∧
  (g.zG≠1→g.zG≠2→g.zG≠7→g.zG≠4→ju g=14):=by
 unfold ju rU
 refine⟨fun h=> ?_,fun h=> ?_,fun h=> ?_,fun h=> ?_,fun h1 h2 h7 h4=> ?_⟩
 ·rw [L3 O0,L4 (.inl h),L4 h]
 ·rw [L3 (show ¬g.zG=4 by omega),L4 (.inr (.inl h)),L3 (show ¬g.zG=1 by omega),L4 h]
 ·rw [L3 (show ¬g.zG=4 by omega),L4 (.inr (.inr h)),L3 (show ¬g.zG=1 by omega),L3 (show ¬g.zG=2 by omega)]
 ·rw [L4 h]
 ·rw [L3 h4,L3 (by rintro(h|h|h)<;>contradiction)]
theorem Dy {n B:Nat} {g:Gen} (hn:2000000≤n) (hb:BdG B g) (hB:B≤1000000) (hBn:B+100≤n):wR n g false=some (ju g):=by
 obtain⟨hb1,hb2⟩:=hb
 have ht:g.yy.length≤1000000:=O0
 obtain⟨g1,g2,g7,g4,g0⟩:=JG g
 unfold wR Yo
 have fin:∀b:Bool,(((if decide ((List.length g.zo.zg:Int)>0)=true then some true else some (!b)).bind fun y9=>if y9=true then some (14:Int)else some 0))=some (if g.zo.zg= []∧b=true then 0 else 14):=by
  intro b
  rw [sN]
  by_cases h:g.zo.zg= []
  ·rw [decide_eq_true h,L3 O1,L0]; cases b<;>simp [h]
  ·rw [decide_eq_false h,L4 O1,L0,L4 rfl,L3 (fun h'=>h h'.1)]
 by_cases k1:g.zG=1
 ·rw [L4 (by rw [k1]; decide),L0,L3 O1,L3 O1,g1 k1]
  have ev:vj n 0 g.yy false=some (JB g.yy):=by
   unfold vj
   rw [L4 O1,L3 O1,L4 O1,tS hn ht,L0,L0]
  rw [ev,L0,fin]
 by_cases k2:g.zG=2
 ·rw [L3 (O9 k1),L4 (by rw [k2]; decide),L0,L3 O1,L3 O1,g2 k2]
  have ev:vj n 1 g.yy false=some (B1 g.yy):=by
   unfold vj
   rw [L3 O1,L4 O1,L3 O1,L4 O1,za3 hn ht,L0,L0]
  rw [ev,L0,fin]
 by_cases k4:g.zG=4
 ·rw [L3 (O9 k1),L3 (O9 k2),L4 (by rw [k4]; decide),L0,L3 O1,L4 O1,g4 k4]
  by_cases ht:g.yy= []
  ·rw [L3 (by rw [ht]; decide),L4 ht,J4 hb2 hB hBn]; rfl
  ·rw [L4 (O9 ht),L3 ht]
 by_cases k7:g.zG=7
 ·rw [L3 (O9 k1),L3 (O9 k2),L3 (O9 k4),L4 (by rw [k7]; decide),L0,L3 O1,L3 O1,g7 k7]
  have ev:vj n 3 g.yy false=some (decide (g.yy.length=4)||decide (g.yy.length=16)):=by
   unfold vj
   rw [L3 O1,L3 O1,L4 O1,L3 O1,L4 O1,mS,L0,L0]
  rw [ev,L0,fin]
 ·rw [L3 (O9 k1),L3 (O9 k2),L3 (O9 k4),L3 (O9 k7),L0,L4 O1,g0 k1 k2 k7 k4]
theorem Kx {n B:Nat} {g:Gen} (hn:2000000≤n) (hb:BdG B g) (hB:B≤1000000) (hBn:B+100≤n):xb n g false=some (ju g):=by
 obtain⟨hb1,hb2⟩:=hb
 have ht:g.yy.length≤1000000:=O0
 obtain⟨g1,g2,g7,g4,g0⟩:=JG g
 unfold xb
 have fin:∀b:Bool,(((if(!b)=true then some true else some (decide ((List.length g.zo.zg:Int)>0))).bind fun y54=>if y54=true then some (14:Int)else some 0))=some (if g.zo.zg= []∧b=true then 0 else 14):=by
  intro b
  rw [sN]
  by_cases h:g.zo.zg= []
  ·rw [decide_eq_true h]; cases b<;>simp [h]
  ·rw [decide_eq_false h]; cases b<;>simp [h]
 by_cases k1:g.zG=1
 ·rw [L4 (by rw [k1]; decide),L3 O1,L4 O1,sQ hn ht,L0,L0]
  simp only [z8]
  rw [fin,g1 k1]
 by_cases k2:g.zG=2
 ·rw [L3 (O9 k1),L4 (by rw [k2]; decide),L3 O1,L4 O1,tN hn ht,L0,L0]
  simp only [z8]
  rw [fin,g2 k2]
 by_cases k7:g.zG=7
 ·rw [L3 (O9 k1),L3 (O9 k2),L4 (by rw [k7]; decide),L3 O1,L4 O1,oO,L0,L0]
  simp only [z8]
  rw [fin,g7 k7]
 by_cases k4:g.zG=4
 ·rw [L3 (O9 k1),L3 (O9 k2),L3 (O9 k7),L4 (by rw [k4]; decide),g4 k4]
  by_cases ht:g.yy= []
  ·rw [L3 (by rw [ht]; decide),L4 ht,show xf n ⟨g.zo.zg⟩=_ from PR hb2 hB hBn]; rfl
  ·rw [L4 (O9 ht),L3 ht]; rfl
 ·rw [L3 (O9 k1),L3 (O9 k2),L3 (O9 k7),L3 (O9 k4),g0 k1 k2 k7 k4]
  simp only [z8]
  rw [fin,L3 O2]
theorem ltI (x:Bs):¬x<x:=List.lt_irrefl x
theorem ltT {x y z:Bs} (h:x<y) (h2:y<z):x<z:=List.lt_trans h h2
theorem tri {x y:Bs} (h1:¬x<y) (h2:x≠y):y<x:=by
 rcases List.le_total y x with h|h
 ·exact Std.lt_of_le_of_ne h (Ne.symm h2)
 ·exact absurd (Std.lt_of_le_of_ne h h2) h1
theorem o9 {n:Nat} {o a:List Bs} {q:Nat} (hq:q<a.length) (hl:o.length≤1000) (ha:a.length≤1000):∀(k j:Nat),j<k→j≤o.length→(∀i (h:i<o.length),j≤i→¬o[i]<a[q]) →
  ∃y:Nat,uy n o a (q:Int) k (j:Int)=some (y:Int)∧y≤o.length∧(∀i (h:i<o.length),y≤i→¬o[i]<a[q])∧(y=0∨∃h:y-1<o.length,o[y-1]<a[q])
 |0,j,h,_,_=>O0
 | k + 1,j,hk,hj,hi=>by
  rw [uy]
  match j,hj,hi with
  |0,hj,hi=>rw [L3 O1,L0,L3 O1]; exact⟨0,rfl,O0,hi, .inl rfl⟩
  | j + 1,hj,hi=>
   have e:wrap .i64 (((j+1:Nat):Int)-1)=(j:Int):=by rw [yv O0]; omega
   rw [L4 O4,e,zE O0,L0,zE hq,L0,L0,lV]
   by_cases c:o[j]' O0<a[q]
   ·rw [decide_eq_true c,L3 O1]
    exact⟨j+1,rfl,hj,hi, .inr ⟨O0,c⟩⟩
   ·rw [decide_eq_false c,L4 O1]
    exact o9 hq hl ha k j O0 O0 (fun i h hji=>by
     by_cases hij:i=j
     ·subst hij; exact c
     ·exact hi i h O0)
structure zdw (m:List (Bs×Bool)) (o:List Bs):Prop where
 len:m.length=o.length
 mem:∀x,x∈m.map (·.1)↔x∈o
 srt:o.Pairwise (· < ·)
theorem Bt (x:Bs):∀m:List (Bs×Bool),(∀y,y∈(Jb x true m).map (·.1)↔y=x∨y∈m.map (·.1))∧(Jb x true m).length=if x∈m.map (·.1)then m.length else m.length+1
 | []=>by simp [Jb]
 | p ::r=>by
  obtain⟨h1,h2⟩:=Bt x r
  unfold Jb
  by_cases h:x=p.1
  ·rw [L4 h]
   refine⟨fun y=>by simp [←h],by rw [L4 (by simp [h])]; simp⟩
  ·rw [L3 h]
   refine⟨fun y=> ?_, ?_⟩
   ·rw [Lb,Lm,h1,Lb,Lm]
    constructor
    ·rintro(h|h|h)
     ·exact .inr (.inl h)
     ·exact .inl h
     ·exact .inr (.inr h)
    ·rintro(h|h|h)
     ·exact .inr (.inl h)
     ·exact .inl h
     ·exact .inr (.inr h)
   ·rw [L7,h2]
    by_cases hm:x∈r.map (·.1)
    ·rw [L4 hm,L4 (by rw [Lb]; exact List.mem_cons_of_mem _ hm)]; rfl
    ·rw [L3 hm,L3 (by rw [Lb,Lm]; rintro(h'|h'); exact h h'; exact hm h')]; rfl
theorem oJ {o:List Bs} {x:Bs} (hs:o.Pairwise (· < ·)) {y:Nat} (hy:y≤o.length) (h1:∀i (h:i<o.length),y≤i→¬o[i]<x) (h2:y=0∨∃h:y-1<o.length,o[y-1]<x):
  ((∃h:y<o.length,o[y]=x)↔x∈o)∧((¬ ∃h:y<o.length,o[y]=x)→(o.take y++x::o.drop y).Pairwise (· < ·)):=by
 have hg:=List.pairwise_iff_getElem.1 hs
 have lo:∀i (h:i<o.length),i<y→o[i]<x:=by
  intro i h hi
  rcases h2 with h2|⟨h2,h3⟩
  ·omega
  ·by_cases e:i=y-1
   ·subst e; exact h3
   ·exact ltT (hg i (y-1) h h2 O0) h3
 have hm:(∃h:y<o.length,o[y]=x)↔x∈o:=by
  constructor
  ·rintro⟨h,rfl⟩; exact Li h
  ·intro h
   obtain⟨i,hi,rfl⟩:=List.getElem_of_mem h
   rcases Nat.lt_trichotomy i y with c|c|c
   ·exact absurd (lo i hi c) (ltI _)
   ·subst c; exact⟨hi,rfl⟩
   ·exact absurd (hg y i O0 hi c) (h1 y O0 (Nat.le_refl _))
 refine⟨hm,fun hn=> ?_⟩
 have hn2:x∉o:=fun h=>hn (hm.2 h)
 rw [List.pairwise_append,List.pairwise_cons]
 refine⟨hs.sublist (List.take_sublist _ _),⟨fun z hz=> ?_,hs.sublist (List.drop_sublist _ _)⟩,fun z hz w hw=> ?_⟩
 ·obtain⟨i,hi,rfl⟩:=List.getElem_of_mem hz
  rw [List.length_drop]at hi
  rw [List.getElem_drop]
  exact tri (h1 (y+i) O0 O0) (fun h=>hn2 (h▸Li _))
 ·obtain ⟨i,hi,rfl⟩:=List.getElem_of_mem hz
  rw [List.length_take]at hi
  rw [List.getElem_take]
  have l1:=lo i O0 O0
  rcases Lm.1 hw with rfl|hw
  ·exact l1
  ·obtain⟨j,hj,rfl⟩:=List.getElem_of_mem hw
   rw [List.length_drop]at hj
   rw [List.getElem_drop]
   exact hg i (y+j) O0 O0 O0
theorem cZ {n:Nat} {a:List Bs} (hn:3000≤n) (ha:a.length≤1000):∀(k i:Nat) (o:List Bs) (m:List (Bs×Bool)),i≤a.length→a.length-i<k→o.length≤i→zdw m o →
  ∃r,uv n a k o (i:Int)=some r∧zdw ((a.drop i).foldl (fun m s=>Jb s true m) m) r∧r.length≤a.length
 |0,i,_,_,_,h,_,_=>O0
 | k + 1,i,o,m,hi,hk,ho,hr=>by
  rw [uv]
  by_cases hc:i<a.length
  ·obtain ⟨y,ey,y1,y2,y3⟩:=o9 (n:=n) (o:=o) hc O0 ha n o.length O0 (Nat.le_refl _) (fun i h hj=>by omega)
   obtain⟨s1,s2⟩:=oJ hr.srt y1 y2 y3
   obtain⟨p1,p2⟩:=Bt a[i] m
   rw [L4 O4,ey,L0,w1 O0,L9 hc,List.foldl_cons]
   have e:(if(decide ((y:Int)<(List.length o:Int)))=true then((zV o (y:Int)).bind fun x786=>(zV a (i:Int)).bind fun x787=>some (x786==x787))else(some false))=some (decide (a[i]∈o)):=by
    by_cases hy:y<o.length
    ·rw [L4 O4,zE hy,L0,zE hc,L0]
     congr 1
     rw [Bool.eq_iff_iff,beq_iff_eq,L2,←s1]
     exact⟨fun h=>⟨hy,h⟩,fun⟨_,h⟩=>h⟩
    ·rw [L3 O4,decide_eq_false (fun h=>by obtain⟨h,_⟩:=s1.2 h; exact hy h)]
   rw [e,L0]
   by_cases hm:a[i]∈o
   ·rw [decide_eq_true hm,L4 rfl,L0]
    refine cZ hn ha k (i+1) o _ O0 O0 O0 ⟨by rw [p2,L4 ((hr.mem _).2 hm)]; exact hr.len,fun x=> ?_,hr.srt⟩
    rw [p1,hr.mem]
    exact⟨fun h=>h.elim (fun h=>h▸hm) id, .inr⟩
   ·rw [decide_eq_false hm,L3 O1]
    have hlsl1:lsl o 0 (y:Int)=some (o.take y):=(L4 ⟨O0,O0,O0⟩).trans (by rw [Int.toNat_natCast]; rfl)
    have hlsl2:lsl o (y:Int) (List.length o:Int)=some (o.drop y):=(L4 ⟨O0,O0,O0⟩).trans (by rw [Int.toNat_natCast,Int.toNat_natCast,List.take_of_length_le O0])
    have lt:(o.take y).length+(o.drop y).length=o.length:=by rw [List.length_take,List.length_drop]; omega
    have ein:(if(List.isEmpty (o.take y))=true then((pb 16 ([]:List (List UInt8)) ([a[i]]:List (List UInt8))).bind fun x793=>(gL 16 x793 (o.drop y)).bind fun x794=>some x794)else((pb 16 ([]:List (List UInt8)) (o.take y)).bind fun x795=>
      (gL 16 x795 ([a[i]]:List (List UInt8))).bind fun x796=>(gL 16 x796 (o.drop y)).bind fun x797=>some x797))=some (o.take y++a[i]::o.drop y):=by
     by_cases he:o.take y= []
     ·rw [he,L4 (show(List.isEmpty ([]:List Bs))=true from rfl),zbb O2,L0,yU O3]; rfl
     ·rw [L3 (O9 he),show pb 16 ([]:List (List UInt8)) (o.take y)=some ([]++o.take y)from L4 ⟨by simpa using he,O3⟩,L0,yU O3,L0,yU O3]
      simp
    rw [hlsl1,L0,zE hc,L0,hlsl2,L0,ein,L0,L0]
    refine cZ hn ha k (i+1) _ _ O0 O0 O3 ⟨?_,fun x=> ?_,s2 (fun h=>hm (s1.1 h))⟩
    ·rw [p2,L3 (fun h=>hm ((hr.mem _).1 h)),hr.len]; simp; omega
    ·rw [p1,hr.mem,Ll,Lm]
     have:x∈o↔x∈o.take y∨x∈o.drop y:=by rw [←Ll,List.take_append_drop]
     rw [this]
     constructor
     ·rintro(h|h|h)
      ·exact .inr (.inl h)
      ·exact .inl h
      ·exact .inr (.inr h)
     ·rintro(h|h|h)
      ·exact .inr (.inl h)
      ·exact .inl h
      ·exact .inr (.inr h)
  ·rw [L3 O4,La O0]
   exact⟨o,rfl,hr,O0⟩
def Yy {α:Type} (f:α→Int):List α→Int
 | []=>0
 |x::l=>if f x≠0 then f x else Yy f l
def fg (e:Int):Ctl Int Unit:=if e=0 then .nxt ()else .ret e
theorem gN {α:Type} {f:α→Int} {x:α} {l:List α} (h:f x≠0):fg (Yy f (x::l))= .ret (f x):=by unfold fg Yy; rw [L4 h,L3 h]
theorem XX {α:Type} {f:α→Int} {x:α} {l:List α} (h:f x=0):Yy f (x::l)=Yy f l:=by rw [Yy,L3 (by rw [h]; simp)]
def isV (s:Bs):Bool:=(y4 s).isSome
theorem zaG {n B:Nat} (hB:B≤100000) (hn:B+1000≤n) (q:Qry) (hb:∀s∈q.ze,s.length≤B) (hl:q.ze.length≤1000):∀(k i:Nat) (m:List (Bs×Bool)),i≤q.ze.length→q.ze.length-i<k →
  yT n q k (i:Int) m=some (if(q.ze.drop i).all isV=true then .nxt ((q.ze.drop i).foldl (fun m s=>Jb s true m) m)else .ret 11)
 |0,i,m,_,h=>O0
 | k+1,i,m,hi,hk=>by
  rw [yT]
  by_cases hc:i<q.ze.length
  ·have hx:=hb _ (Li hc)
   rw [L4 O4,zE hc,L0,Y5 O0 O0,L0,w1 O0,zaG hB hn q hb hl k (i+1) _ O0 O0,L9 hc,List.all_cons,List.foldl_cons]
   cases h:(y4 q.ze[i]).isSome<;>simp [isV,h]
  ·rw [L3 O4,La O0]; rfl
theorem zaw {n B:Nat} (hB:B≤100000) (hn:B+1000≤n) (q:Qry) (hb:∀s∈q.ze,s.length≤B) (hl:q.ze.length≤1000):∀(k i:Nat),i≤q.ze.length→q.ze.length-i<k →
  vL n q k (i:Int)=some (if(q.ze.drop i).all isV=true then .nxt ()else .ret 11)
 |0,i,_,h=>O0
 | k+1,i,hi,hk=>by
  rw [vL]
  by_cases hc:i<q.ze.length
  ·have hx:=hb _ (Li hc)
   rw [L4 O4,zE hc,L0,gU O0 O0,L0,w1 O0,zaw hB hn q hb hl k (i+1) O0 O0,L9 hc,List.all_cons]
   cases h:(y4 q.ze[i]).isSome<;>simp [isV,h]
  ·rw [L3 O4,La O0]; rfl
theorem zao {n B:Nat} (hB:B≤100000) (hn:2000000≤n) (q:Qry) (hb:∀g∈q.zw,BdG B g) (hl:q.zw.length≤1000):∀(k i:Nat),i≤q.zw.length→q.zw.length-i<k→xF n q k (i:Int)=some (fg (Yy ju (q.zw.drop i)))
 |0,i,_,h=>O0
 | k+1,i,hi,hk=>by
  rw [xF]
  by_cases hc:i<q.zw.length
  ·rw [L4 O4,zE hc,L0,show wR n ⟨q.zw[i].zG,q.zw[i].yy,⟨q.zw[i].zo.zg⟩⟩ false=some (ju q.zw[i])from Dy hn (hb _ (Li hc)) O0 O0,L0,L9 hc]
   by_cases h:ju q.zw[i]=0
   ·rw [L3 (by rw [h]; decide),w1 O0,zao hB hn q hb hl k (i+1) O0 O0,XX h]
   ·rw [L4 (O9 h),gN h]
  ·rw [L3 O4,La O0]; rfl
theorem zak {n B:Nat} (hB:B≤100000) (hn:2000000≤n) (q:Qry) (hb:∀g∈q.zw,BdG B g) (hl:q.zw.length≤1000):∀(k i:Nat),i≤q.zw.length→q.zw.length-i<k→vN n q k (i:Int)=some (fg (Yy ju (q.zw.drop i)))
 |0,i,_,h=>O0
 | k+1,i,hi,hk=>by
  rw [vN]
  by_cases hc:i<q.zw.length
  ·rw [L4 O4,zE hc,L0,show xb n ⟨q.zw[i].zG,q.zw[i].yy,⟨q.zw[i].zo.zg⟩⟩ false=some (ju q.zw[i])from Kx hn (hb _ (Li hc)) O0 O0,L0,L9 hc]
   by_cases h:ju q.zw[i]=0
   ·rw [L3 (by rw [h]; decide),w1 O0,zak hB hn q hb hl k (i+1) O0 O0,XX h]
   ·rw [L4 (O9 h),gN h]
  ·rw [L3 O4,La O0]; rfl
theorem zdt (l:List (List Att)):((List.length l:Int)==0)=decide (l= []):=by cases l with
 |nil=>rfl
 |cons x l=>rw [decide_eq_false O2]; rw [beq_eq_false_iff_ne]; simp; omega
theorem zal {n B:Nat} (hB:B≤100000) (hn:B+1000≤n) (q:Qry) (hb:∀a∈q.zf,BdN B a.zo.zg) (hl:q.zf.length≤1000):∀(k i:Nat),i≤q.zf.length→q.zf.length-i<k→xH n q k (i:Int)=some (fg (Yy bo (q.zf.drop i)))
 |0,i,_,h=>O0
 | k + 1,i,hi,hk=>by
  rw [xH]
  by_cases hc:i<q.zf.length
  ·rw [L4 O4,zE hc,L0,J4 (hb _ (Li hc)) O0 O0,L0,L9 hc,zdt,show qN n ⟨q.zf[i].zK.zy,q.zf[i].zK.wL,q.zf[i].zK.zY⟩=some (if okK q.zf[i].zK=true then 0 else 18)from nH]
   obtain⟨e,he⟩:∃e,bo q.zf[i]=e:=⟨_,rfl⟩
   have hdef:=he
   rw [bo]at hdef
   by_cases h1:vy q.zf[i].zo.zg=0
   ·rw [L3 (by rw [h1]; simp)]at hdef
    rw [L3 (by rw [h1]; decide)]
    by_cases h2:q.zf[i].zo.zg= []
    ·rw [L4 h2]at hdef
     rw [L4 (by rw [L2]; exact h2),gN (by rw [he,←hdef]; decide),he,←hdef]
    ·rw [L3 h2]at hdef
     rw [L3 (by rw [L2]; exact h2),L0]
     by_cases h3:okK q.zf[i].zK=true
     ·rw [L4 h3]at hdef
      rw [L4 h3,L3 O1,w1 O0,zal hB hn q hb hl k (i+1) O0 O0,XX (he.trans hdef.symm)]
     ·rw [L3 h3]at hdef
      rw [L3 h3,L4 O1,gN (by rw [he,←hdef]; decide),he,←hdef]
   ·rw [L4 h1]at hdef
    rw [L4 (O9 h1),gN (by rw [he,←hdef]; exact h1),he,←hdef]
  ·rw [L3 O4,La O0]; rfl
theorem PN {n B:Nat} {a:Anc} (hb:BdN B a.zo.zg) (hB:B≤1000000) (hn:B+100≤n):(vy a.zo.zg≠0→yr n a=some (vy a.zo.zg)) ∧
  (vy a.zo.zg=0→a.zo.zg= []→yr n a=some 14)∧(vy a.zo.zg=0→a.zo.zg≠ []→yr n a=some 0):=by
 unfold yr
 rw [show xf n ⟨a.zo.zg⟩=some (vy a.zo.zg)from PR hb hB hn,L0,zdt]
 refine⟨fun h=> ?_,fun h1 h2=> ?_,fun h1 h2=> ?_⟩
 ·rw [L4 (O9 h)]
 ·rw [L3 (by rw [h1]; decide),L4 (by rw [L2]; exact h2)]
 ·rw [L3 (by rw [h1]; decide),L3 (by rw [L2]; exact h2)]
theorem zau {n B:Nat} (hB:B≤100000) (hn:B+1000≤n) (q:Qry) (hb:∀a∈q.zf,BdN B a.zo.zg) (hl:q.zf.length≤1000):∀(k i:Nat),i≤q.zf.length→q.zf.length-i<k→vE n q k (i:Int)=some (fg (Yy bo (q.zf.drop i)))
 |0,i,_,h=>O0
 | k + 1,i,hi,hk=>by
  rw [vE]
  by_cases hc:i<q.zf.length
  ·obtain ⟨c1,c2,c3⟩:=PN (n:=n) (hb _ (Li hc)) O0 O0
   rw [L4 O4,zE hc,L0,L9 hc]
   show((yr n q.zf[i]).bind fun r128=>_)=_
   obtain⟨e,he⟩:∃e,bo q.zf[i]=e:=⟨_,rfl⟩
   have hdef:=he
   rw [bo]at hdef
   by_cases h1:vy q.zf[i].zo.zg=0
   ·rw [L3 (by rw [h1]; simp)]at hdef
    by_cases h2:q.zf[i].zo.zg= []
    ·rw [L4 h2]at hdef
     rw [c2 h1 h2,L0,L4 O1,gN (by rw [he,←hdef]; decide),he,←hdef]
    ·rw [L3 h2]at hdef
     rw [c3 h1 h2,L0,L3 O1,L0,show wH n ⟨q.zf[i].zK.zy,q.zf[i].zK.wL,q.zf[i].zK.zY⟩=some (if okK q.zf[i].zK=true then 0 else 18)from tX,L0]
     by_cases h3:okK q.zf[i].zK=true
     ·rw [L4 h3]at hdef
      rw [L4 h3,L3 O1,w1 O0,zau hB hn q hb hl k (i+1) O0 O0,XX (he.trans hdef.symm)]
     ·rw [L3 h3]at hdef
      rw [L3 h3,L4 O1,gN (by rw [he,←hdef]; decide),he,←hdef]
   ·rw [L4 h1]at hdef
    rw [c1 h1,L0,L4 (O9 h1),gN (by rw [he,←hdef]; exact h1),he,←hdef]
  ·rw [L3 O4,La O0]; rfl
theorem sj (l:List Bs):∀m:List (Bs×Bool),(l.foldl (fun m s=>Jb s true m) m).length≤m.length+l.length:=by
 induction l with
 |nil=>intro m; simp
 | cons x l ih=>
  intro m
  rw [List.foldl_cons]
  have h1:=ih (Jb x true m)
  have h2:=(Bt x m).2
  have h3:(Jb x true m).length≤m.length+1:=by rw [h2]; split<;>omega
  rw [L7]; omega
theorem zc5 {n B:Nat} {g:Gen} (hn:2000000≤n) (hb:BdG B g) (hB:B≤60000) (h:okG n g):ju g=0:=by
 unfold okG at h
 rw [Dy hn hb O0 O0]at h
 injection h
theorem zb0 {n B:Nat} {g:Gen} (h:okG n g) (hb:BdG B g) (hB:B≤60000) (hn:2000000≤n):vt n g false=some ((tWrap (vU g).1 (vU g).2).1,0):=by
 obtain⟨hp,hl,_⟩:=XS h hb hB O0
 unfold vt
 rw [show xb n ⟨g.zG,g.yy,⟨g.zo.zg⟩⟩ false=some (ju g)from Kx hn hb O0 O0,zc5 hn hb hB h,L0,L3 O1]
 rcases Y7 h hb.2 O0 O0 with⟨h1,h2,h3⟩|⟨h1,h2⟩
 ·have e:vU g=(164,(tWrap (y8 g.zo.zg).1 (y8 g.zo.zg).2).1):=by unfold vU; rw [L4 h1]
  rw [e]at hl ⊢
  have e0:XV g.zo.zg=((tWrap 48 (y8 g.zo.zg).2).1,0):=by unfold XV; rw [L3 (by rw [kT.2 h3]; simp)]
  have ek:wrap .i64 ((160:Int)+4)=((164:Nat):Int):=O1
  have l3:(tWrap 48 (y8 g.zo.zg).2).1.length≤B+4333:=hl
  rw [L4 (by rw [h1]; decide),show wc n ⟨g.zo.zg⟩=_ from VM hb.2 O0 O0,L0,e0,h1,ek]
  dsimp only
  rw [Xh O0 O0 O0 O0,L0]
  rfl
 ·have hk:¬g.zG=4:=O0
  have e:vU g=((128+g.zG).toNat,g.yy):=by unfold vU; rw [L3 hk]
  have hbt:=hb.1
  have ek:wrap .i64 ((128:Int)+g.zG)=(((128+g.zG).toNat:Nat):Int):=by rw [yv O0]; omega
  rw [e,L3 (O9 hk),ek,Xh O0 (by rcases h1 with h1|h1|h1<;>rw [h1]<;>decide) O0 O0,L0]
theorem Gk {n B:Nat} (hB:B≤60000) (hn:2000000≤n) (l:List Gen) (ho:∀g∈l,okG n g) (hb:∀g∈l,BdG B g) (hl:l.length≤16):∀(k i:Nat) (acc:Bs),i≤l.length→l.length-i<k→acc.length≤100000*i→wl n l k acc (i:Int)=some (.nxt (acc++wraps ((l.drop i).map vU)))
 |0,i,acc,_,h,_=>O0
 | k+1,i,acc,hi,hk,ha=>by
  rw [wl]
  by_cases hc:i<l.length
  ·have hx:=Li hc
   obtain⟨_,hgl,_⟩:=XS (ho _ hx) (hb _ hx) hB O0
   have hw:=zU (vU l[i]).1 (vU l[i]).2
   have he:vt n ⟨l[i].zG,l[i].yy,⟨l[i].zo.zg⟩⟩ false=some ((tWrap (vU l[i]).1 (vU l[i]).2).1,0):=zb0 (ho _ hx) (hb _ hx) hB hn
   rw [L4 O4,zE hc,L0,he,L0,L3 O2,yo O6,L0,w1 O0]
   dsimp only
   rw [Gk hB hn l ho hb hl k (i+1) _ O0 O0 (by rw [L5]; omega),L9 hc,Lb,ji,Ln]
  ·rw [L3 O4,La O0]
   simp [wraps]
theorem zbi {n B:Nat} (hB:B≤60000) (hn:2000000≤n) {l:List Gen} (ho:∀g∈l,okG n g) (hb:∀g∈l,BdG B g) (h0:l≠ []) (hl:l.length≤16):uq n l=some (wraps (l.map vU),0):=by
 have hp:0<l.length:=List.length_pos_iff.2 h0
 unfold uq
 have e:=Gk (n:=n) hB hn l ho hb hl n 0 [] O0 O0 O2
 rw [show((0:Nat):Int)=0 from rfl,Lf,Lg]at e
 rw [L3 O8,L3 O4,e]
 rfl
theorem zdv {n B:Nat} {a:Anc} (h:Zf a) (hb:BdN B a.zo.zg) (hB:B≤1000000) (hn:B+100≤n):xc n a=some ((tWrap (ancE a).1 (ancE a).2).1,0):=by
 unfold xc
 have k1:=dm h.1
 have k3:=(pL h).2
 have e0:XV a.zo.zg=((tWrap 48 (y8 a.zo.zg).2).1,0):=by unfold XV; rw [L3 (by rw [kT.2 h.1]; simp)]
 have hf:([(tWrap 48 (y8 a.zo.zg).2).1,(tWrap (kR a.zK).1 (kR a.zK).2).1]:List Bs).flatten=wraps (XJ a):=by
  simp only [XJ,wraps,Lb,List.map_nil]
  rfl
 rw [show yr n ⟨⟨a.zo.zg⟩,⟨a.zK.zy,a.zK.wL,a.zK.zY⟩⟩=some 0 from(PN hb hB hn).2.2 (kT.2 h.1) h.2.1,L0,L3 O1,
  show wc n ⟨a.zo.zg⟩=_ from VM hb hB hn,L0,show uF n ⟨a.zK.zy,a.zK.wL,a.zK.zY⟩=_ from mw (k:=a.zK) O0,L4 h.2.2,L0,L3 O2,e0]
 dsimp only
 rw [show(48:Int)=((48:Nat):Int)from rfl,DD O0 O0 (by rw [hf]; omega) O3 O2,hf,L0]
 rfl
theorem GS {n B:Nat} (q:Qry) (ho:∀a∈q.zf,Zf a) (hb:∀a∈q.zf,BdN B a.zo.zg) (hB:B≤1000000) (hn:B+100≤n) (hl:q.zf.length≤64):∀(k i:Nat) (b:Bs),i≤q.zf.length→q.zf.length-i<k→b.length≤4403*i →
  xW n q k b (i:Int)=some (b++wraps ((q.zf.drop i).map ancE))
 |0,i,_,_,h,_=>O0
 | k+1,i,b,hi,hk,hbl=>by
  rw [xW]
  by_cases hc:i<q.zf.length
  ·have hx:=Li hc
   have k3:=(pL (ho _ hx)).2
   have t1:=zU (ancE q.zf[i]).1 (ancE q.zf[i]).2
   have e2:(ancE q.zf[i]).2=wraps (XJ q.zf[i]):=rfl
   rw [←e2]at k3
   rw [L4 O4,zE hc,L0,show xc n ⟨⟨q.zf[i].zo.zg⟩,⟨q.zf[i].zK.zy,q.zf[i].zK.wL,q.zf[i].zK.zY⟩⟩=some ((tWrap (ancE q.zf[i]).1 (ancE q.zf[i]).2).1,0)from zdv (a:=q.zf[i]) (ho _ hx) (hb _ hx) hB hn,L0]
   dsimp only
   rw [yo O0,L0,w1 O0,GS q ho hb hB hn hl k (i+1) _ O0 O0 (by rw [L5]; omega),L9 hc,Lb,ji,Ln]
  ·rw [L3 O4,La O0]
   simp [wraps]
theorem lI {n t:Nat} {b:Bool} (h1:t≤255) (h2:t%32≠31) (hn:20≤n):ul n (t:Int) b=some (wraps (optE b (t,[255]))):=by
 unfold ul kd
 cases b with
 |true=>rw [L3 O1,L4 rfl,L0,Xh h1 h2 O2 hn,L0,gX]
 |false=>rw [L4 (show(!false)=true from rfl),W3]
theorem rN {s:Bs} (h:Wp s=true):s.length≤128:=by
 unfold Wp at h
 rw [Lc,L2]at h
 exact h.1
theorem rI {s:Bs} (h:B1 s=true):s.length≤128:=by
 unfold B1 at h
 split at h
 ·rw [Lc,L2]at h; exact h.1
 ·exact rN h
theorem nK {s:Bs} (h:JB s=true):s.length≤128:=by
 unfold JB at h
 rw [Lc,Lc,L2]at h
 exact h.1.1
theorem mA {g:Gen} (h:ju g=0):g.yy.length≤128:=by
 unfold ju at h
 split at h
 ·split at h
  ·rename_i h1; rw [h1]; decide
  ·exact absurd h O1
 ·split at h
  ·split at h
   ·rename_i h1
    have h2:=h1.2
    unfold rU at h2
    split at h2
    ·exact nK h2
    ·split at h2
     ·exact rI h2
     ·rw [Bool.or_eq_true,L2,L2]at h2; omega
   ·exact absurd h O1
  ·exact absurd h O1
theorem Pv {n:Nat} {q:Qry} (h:vz n q=some 0):0≤q.uB∧q.uB≤254033452799:=by
 unfold vz at h
 rw [ifb,L0]at h
 by_cases c:(decide (q.uB<0)||decide (q.uB>254033452799))=true
 ·rw [L4 c]at h; injection h with h; exact absurd h O1
 ·rw [Bool.not_eq_true,Bool.or_eq_false_iff,decide_eq_false_iff_not,decide_eq_false_iff_not]at c
  omega
def ndg (b:UInt8):Bool:=decide (b.toNat<48)||decide (57<b.toNat)
def G7:Bs→Int→Ctl Int Int
 | [],v=> .nxt v
 |b::s,v=>if ndg b=true then .ret (-1)else G7 s (10*v+((b.toNat:Int)-48))
def qk (s:Bs):Int:=match G7 s 0 with| .ret x=>x| .nxt x=>x
theorem zbd {a:Bs} {i:Nat} (hc:i<a.length):zV (s2b a) (i:Int)=some (a[i].toNat:Int):=by
 rw [zV,L4 O0]
 simp only [Int.toNat_natCast,s2b,List.getElem?_map]
 rw [List.getElem?_eq_getElem hc]; rfl
theorem zaf {b:UInt8} (h:ndg b=false):wrap .i64 (wrap .u8 ((b.toNat:Int)-48))=(b.toNat:Int)-48:=by
 unfold ndg at h
 rw [Bool.or_eq_false_iff,decide_eq_false_iff_not,decide_eq_false_iff_not]at h
 rw [wr8 O0 O0,yv O0]
theorem rZ {n:Nat} (s:Bs) (hs:s.length≤15):∀(k i:Nat) (v:Int),i≤s.length→s.length-i<k→0≤v→v<10^i→qI n s k v (i:Int)=some (G7 (s.drop i) v)∧vx n s k v (i:Int)=some (G7 (s.drop i) v)
 |0,_,_,_,h,_,_=>O0
 | k + 1,i,v,hi,hk,h0,h1=>by
  rw [qI,vx]
  have hb:(s2b s).length=s.length:=by simp [s2b]
  by_cases hc:i<s.length
  ·have hp:(10:Int)^i≤10^14:=by
    have:(10:Nat)^i≤10^14:=Nat.pow_le_pow_right O0 O0
    exact_mod_cast this
   have hlt:=WV s[i]
   rw [L4 (by rw [L2,hb]; omega),L4 O4,zbd hc,vC hc,L9 hc,G7]
   simp only [L0]
   cases hd:ndg s[i]with
   | true=>
    unfold ndg at hd
    rw [Bool.or_eq_true,L2,L2]at hd
    by_cases c:(s[i]).toNat<48
    ·rw [L4 O4]; exact⟨rfl,rfl⟩
    ·rw [L3 O4]
     have e:decide (((s[i]).toNat:Int)>57)=true:=O4
     rw [e]; exact⟨rfl,rfl⟩
   | false=>
    have hd2:=hd
    unfold ndg at hd2
    rw [Bool.or_eq_false_iff,decide_eq_false_iff_not,decide_eq_false_iff_not]at hd2
    have e:decide (((s[i]).toNat:Int)>57)=false:=by rw [decide_eq_false_iff_not]; omega
    have hstep:(10:Int)^(i+1)=10^i*10:=by rw [Int.pow_succ]
    rw [L3 O4,e,L0,L0,L3 O1,L3 O1,L3 O1,zaf hd,yv (x:=10*v) O0,yv (x:=10*v+_) O0,w1 O0]
    exact rZ s hs k (i+1) _ O0 O0 O0 O0
  ·rw [L3 (by rw [L2,hb]; omega),L3 O4,La O0]
   exact⟨rfl,rfl⟩
theorem qz {n:Nat} {s:Bs} (hs:s.length≤15) (hn:20≤n):yG n s=some (qk s)∧zH n s=some (qk s):=by
 obtain⟨h1,h2⟩:=rZ (n:=n) s hs n 0 0 O0 O0 O0 O1
 rw [show((0:Nat):Int)=0 from rfl,Lf]at h1 h2
 unfold yG zH qk
 rw [h1,h2]
 cases G7 s 0<;>exact⟨rfl,rfl⟩
theorem KM:∀(s:Bs) (v:Int),0≤v→(s.any ndg=true→G7 s v= .ret (-1))∧(s.any ndg=false→∃x,G7 s v= .nxt x∧0≤x∧x<(v+1)*10^s.length)
 | [],v,h=>⟨fun h=>(by cases h),fun _=>⟨v,rfl,h,O3⟩⟩
 | b::s,v,h=>by
  rw [List.any_cons,G7]
  cases hd:ndg b with
  |true=>exact⟨fun _=>by rw [L4 rfl],fun h=>by cases h⟩
  | false=>
   have hd2:=hd
   unfold ndg at hd2
   rw [Bool.or_eq_false_iff,decide_eq_false_iff_not,decide_eq_false_iff_not]at hd2
   rw [L3 O1,Bool.false_or]
   obtain⟨h1,h2⟩:=KM s (10*v+((b.toNat:Int)-48)) O0
   refine⟨h1,fun h3=> ?_⟩
   obtain⟨x,e,x0,x1⟩:=h2 h3
   refine⟨x,e,x0, ?_⟩
   rw [L7,Int.pow_succ]
   have hp:(0:Int)<10^s.length:=Int.pow_pos O0
   have:(10*v+((b.toNat:Int)-48)+1)*10^s.length≤(10*v+10)*10^s.length:=Int.mul_le_mul_of_nonneg_right O0 O0
   have e2:(v+1)*(10^s.length*10)=(10*v+10)*10^s.length:=by rw [show 10*v+10=(v+1)*10 by omega,Int.mul_assoc,Int.mul_comm 10]
   omega
theorem qV {s:Bs} (h:s.any ndg=true):qk s= -1:=by unfold qk; rw [(KM s 0 O0).1 h]
theorem KE {s:Bs} (h:s.any ndg=false):0≤qk s∧qk s<10^s.length:=by
 obtain⟨x,e,x0,x1⟩:=(KM s 0 O0).2 h
 unfold qk; rw [e]
 exact⟨x0,by simpa using x1⟩
end Go.Abs
end
