/- The typed Lean form of WireEncodesQueries gives true for every list of at most 9223372036854775807 numbers and every raw query of at most as many issuers. -/
import Derived.Test.YtbggpcnbbhjiaaaGreatDoorLaw7
set_option linter.unusedVariables false
set_option linter.unusedSimpArgs false
set_option linter.unnecessarySimpa false
section
set_option maxRecDepth 100000
namespace Go.Abs
open Go Go.Proofs
theorem DY:U5 [42]=false:=by kernel_rfl
theorem cV:Zr []=false:=by kernel_rfl
theorem cd (r:Bs):Zr (42::46::r)=false:=by
 unfold Zr
 rw [show(42::46::r:Bs)= [42]++46::r by rfl,(bU (c:=46) (p:= [42]) (by simp)).2]
 simp [DY]
theorem DL (c:UInt8) (s:Bs):decide (Lib.index s [c]≥0)=decide (c∈s):=by
 rcases ZR c s with⟨h1,h2⟩|⟨p,r,h1,h2,h3⟩
 ·rw [h1,decide_eq_false h2]; rfl
 ·rw [h2,h1,decide_eq_true (by omega),decide_eq_true (by simp)]
def U0 (s:Bs):Bool:=match s with
 |42::46::r=>decide (s.length≤128)&&(Zr r&&decide ((46:UInt8)∈r))
 |_=>Zr s
def cF (s:Bs):Bs×Bool:=match s with|42::46::r=>(r,true)|_=>(s,false)
theorem hJ {n:Nat} {s:Bs} (hs:s.length≤1000000):jd n s [42,46]=some (cF s):=by
 unfold jd wT yT
 by_cases hl:s.length<2
 ·rw [L3 (by rw [L1]; show ¬((s.length:Int)≥((2:Nat):Int)); omega),L0,L0,L4 (by decide),L0]
  unfold cF
  split
  ·rename_i r; have hl:r.length+1+1<2:=hl; omega
  ·rfl
 ·obtain ⟨x,s1,rfl⟩:∃x s1,s=x::s1:=by cases s with|nil=>simp at hl|cons x s1=>exact⟨x,s1,rfl⟩
  obtain⟨y,r,rfl⟩:∃x s2,s1=x::s2:=by cases s1 with|nil=>simp at hl|cons x s2=>exact⟨x,s2,rfl⟩
  have hs:r.length+1+1≤1000000:=hs
  rw [L4 (by rw [L1]; show((2:Nat):Int)≤((r.length+1+1:Nat):Int); omega),show ssl (x::y::r) 0 (List.length ([42,46]:Bs):Int)=some [x,y]from L4 ⟨by decide,by decide,by show((2:Nat):Int)≤((r.length+1+1:Nat):Int); omega⟩,L0,L0,L0]
  by_cases h:x=42∧y=46
  ·obtain⟨rfl,rfl⟩:=h
   rw [L3 (by decide),show ssl (42::46::r) (List.length ([42,46]:Bs):Int) (List.length (42::46::r):Int)=some r from(L4 ⟨by decide,by show((2:Nat):Int)≤((r.length+1+1:Nat):Int); omega,by omega⟩).trans (by rw [Int.toNat_natCast,List.take_of_length_le (by omega)]; rfl),L0,L0]
   rfl
  ·rw [L4 (by have:=Decidable.not_and_iff_or_not.1 h; simpa using this),L0]
   unfold cF
   split
   ·rename_i heq; injection heq with h1 h2; injection h2 with h2 _; exact absurd ⟨h1,h2⟩ h
   ·rfl
theorem lg {n:Nat} {s:Bs} (hn:2000000≤n) (hs:s.length≤1000000):kj n s=some (U0 s):=by
 unfold kj
 rw [hJ hs,L0]
 unfold U0 cF
 split
 ·rename_i r
  have hr:r.length+1+1≤1000000:=hs
  rw [L4 rfl]; dsimp only
  by_cases h:(42::46::r:Bs).length≤128
  ·rw [L4 (by rw [L1]; omega),Bl hn (by omega),L0,decide_eq_true h]
   have e:wv n r [46]=some (decide ((46:UInt8)∈r)):=by
    unfold wv df
    rw [L4 (by omega),L0,DL]
   rw [e]
   cases Zr r<;>simp
  ·rw [L3 (by rw [L1]; omega),decide_eq_false h]; rfl
 ·rw [L3 (show ¬(false=true)by decide),Bl hn hs]; rfl
theorem cM {s:Bs} (h:∀r,s≠42::46::r):U0 s=Zr s:=by
 unfold U0; split
 ·rename_i r; exact absurd rfl (h r)
 ·rfl
theorem cW {n:Nat} {s:Bs} (hn:2000000≤n) (hs:s.length≤1000000):vF n s=some (U0 s):=by
 unfold vF
 rw [J4 hn hs,L0]
 by_cases hc:∃r,s=42::46::r
 ·obtain ⟨r,rfl⟩:=hc
  show _=some (decide ((42::46::r:Bs).length≤128)&&(Zr r&&decide ((46:UInt8)∈r)))
  have hr:r.length+1+1≤1000000:=hs
  rw [cd,L3 (by decide)]
  by_cases h:(42::46::r:Bs).length≤128
  ·rw [L4 (by rw [L1]; omega),decide_eq_true h]
   by_cases h2:r= []
   ·subst h2
    rw [L3 (by decide),cV]; rfl
   ·have h3:0<r.length:=List.length_pos_iff.2 h2
    rw [L4 (by rw [L1]; show((2:Nat):Int)<((r.length+1+1:Nat):Int); omega),show ssl (42::46::r) 0 2=some [42,46]from L4 ⟨by decide,by decide,by show((2:Nat):Int)≤((r.length+1+1:Nat):Int); omega⟩,L0,L4 (by decide),
     show ssl (42::46::r) 2 (List.length (42::46::r):Int)=some r from(L4 ⟨by decide,by show((2:Nat):Int)≤((r.length+1+1:Nat):Int); omega,by omega⟩).trans (by rw [Int.toNat_natCast,List.take_of_length_le (by omega)]; rfl),L0,J4 hn (by omega),L0,
     show wa n (42::46::r) 46=some (splitB 46 (42::46::r))from QU (c:=46) (by omega) (by omega),L0,Z6]
    have hcnt:decide (((List.count 46 (42::46::r:Bs)+1:Nat):Int)>2)=decide ((46:UInt8)∈r):=by
     rw [List.count_cons_of_ne (by decide),List.count_cons_self]
     by_cases hm:(46:UInt8)∈r
     ·have:=List.count_pos_iff.2 hm
      rw [decide_eq_true hm,decide_eq_true (by omega)]
     ·have:=List.count_eq_zero.2 hm
      rw [decide_eq_false hm,decide_eq_false (by omega)]
    rw [hcnt]
    cases Zr r<;>simp
  ·rw [L3 (by rw [L1]; omega),decide_eq_false h]; rfl
 ·have hne:∀r,s≠42::46::r:=fun r h=>hc ⟨r,h⟩
  rw [cM hne]
  cases hd:Zr s with
  |true=>rfl
  | false=>
   rw [L3 (by decide)]
   refine Eq.trans (congrArg (fun o=>Option.bind o fun y7=>some y7) (?_:_=some false)) rfl
   by_cases h:s.length≤128
   ·rw [L4 (by rw [L1]; omega)]
    by_cases h2:s.length>2
    ·obtain⟨x,s1,rfl⟩:∃x s1,s=x::s1:=by cases s with|nil=>simp at h2|cons x s1=>exact⟨x,s1,rfl⟩
     obtain⟨y,r,rfl⟩:∃x s2,s1=x::s2:=by cases s1 with|nil=>simp at h2|cons x s2=>exact⟨x,s2,rfl⟩
     have hr:2<r.length+1+1:=h2
     rw [L4 (by rw [L1]; show((2:Nat):Int)<((r.length+1+1:Nat):Int); omega),show ssl (x::y::r) 0 2=some [x,y]from L4 ⟨by decide,by decide,by show((2:Nat):Int)≤((r.length+1+1:Nat):Int); omega⟩,L0,L3]
     intro hxy
     simp at hxy
     obtain⟨rfl,rfl⟩:=hxy
     exact hne r rfl
    ·rw [L3 (by rw [L1]; omega)]
   ·rw [L3 (by rw [L1]; omega)]
def spc:Bs:= [33,35,36,37,38,39,42,43,45,47,61,63,94,95,96,123,124,125,126,46]
def amB (x:Int):Bool:=decide (Lib.indexByte spc x.toNat.toUInt8≥0)
theorem DN (m:Nat):((List.range 256).all fun x:Nat=>yR (m+100) (x:Int) spc==some (amB (x:Int)))=true:=by kernel_rfl
theorem P0 {n:Nat} {b:UInt8} (hn:100≤n):yR n (b.toNat:Int) spc=some (amB (b.toNat:Int)):=by
 obtain⟨m,rfl⟩:∃m,n=m+100:=⟨n-100,by omega⟩
 have:=Lf.1 (DN m) b.toNat (by rw [List.mem_range]; have:=b.toNat_lt; omega)
 simpa using this
def okl (b:UInt8):Bool:=alB (b.toNat:Int)||amB (b.toNat:Int)
def dd:Bs→Bool
 | []=>false
 |x::l=>(x==46&&l.head? ==some 46)||dd l
theorem cA (s:Bs):decide (Lib.index s [46,46]≥0)=dd s:=by
 induction s with
 |nil=>rfl
 | cons x l ih=>
  unfold Lib.index dd
  have e:List.isPrefixOf [46,46] (x::l)=(x==46&&l.head? ==some 46):=by
   cases l with
   |nil=>simp [List.isPrefixOf]
   | cons y r=>
    show(46==x&&(46==y&&true))=(x==46&&(y==46))
    rw [Bool.and_true,BEq.comm (a:=(46:UInt8)) (b:=x),BEq.comm (a:=(46:UInt8)) (b:=y)]
  rw [e,←ih]
  have hg:=Lib.index_ge l [46,46]
  cases(x==46&&l.head? ==some 46)with
  |true=>rfl
  | false=>
   rw [L3 (by decide),Bool.false_or]
   by_cases h:Lib.index l [46,46]= -1
   ·rw [L4 (by rw [beq_iff_eq]; exact h),h]
   ·rw [L3 (by rw [beq_iff_eq]; exact h),decide_eq_true (show Lib.index l [46,46]≥0 by omega),decide_eq_true (by omega)]
def Pg (a:Bs):Bool:= !(Zb a 64 46||dd a)&&a.all okl
theorem D6 {n:Nat} (a:Bs) (hl:a.length≤1000000):∀(k i:Nat),i≤a.length→a.length-i<k→uO n a k (i:Int)=some (if(a.drop i).all okl=true then .nxt ()else .ret false)
 |0,i,_,h=>by omega
 | k + 1,i,hi,hk=>by
  have ls:(s2b a).length=a.length:=by simp [s2b]
  rw [uO]
  by_cases hc:i<a.length
  ·have e:z1 (s2b a) (i:Int)=some (a[i].toNat:Int):=by
    rw [z2 (by omega)]; simp [s2b]
   rw [L4 (by rw [L1]; omega),e,L0,Jg,L0,KA,w1 (by omega),D6 a hl k (i+1) (by omega) (by omega),Lb hc,List.all_cons]
   unfold pe
   have key:∀(x y z w:Bool),((if x=true then some true else(some y).bind fun r165=>if r165=true then some true else some z).bind fun y162=>if(!y162)=true then some (Ctl.ret false)else some (if w=true then Ctl.nxt ()else Ctl.ret false))=some (if(((x||y)||z)&&w)=true then Ctl.nxt ()else(Ctl.ret false:Ctl Bool Unit)):=by
    intro x y z w; cases x<;>cases y<;>cases z<;>cases w<;>rfl
   exact key (ltB (a[i].toNat:Int)) (dgB (a[i].toNat:Int)) (amB (a[i].toNat:Int)) ((a.drop (i+1)).all okl)
  ·rw [L3 (by rw [L1]; omega),Lc (by omega)]; rfl
theorem D7 {n:Nat} {a:Bs} (h:a.length≤1000000) (hn:a.length<n):bJ n a=some (Pg a):=by
  unfold bJ Pg
  have e:=D6 (n:=n) a h n 0 (by omega) (by omega)
  rw [show((0:Nat):Int)=0 from rfl,Lh]at e
  have ec:wv n a [46,46]=some (dd a):=by
    unfold wv df
    rw [L4 (by omega),L0,cA]
  have e1 :(if(decide ((List.length a:Int)<1))=true then(some true)else(if(decide ((List.length a:Int)>64))=true then(some true)else((wl a 0).bind fun x1=>
     if(x1==46)=true then(some true)else((wl a (IntKind.wrap .i64 ((List.length a:Int)-1))).bind fun x2=>
     if(x2==46)=true then(some true)else((wv n a ([46,46]:List UInt8)).bind fun r3=>
     some r3)))))=some (Zb a 64 46||dd a):=by
    have h0:=V8 (a:=a) (m:=64) (c:=46) h
    unfold Ji at h0
    revert h0
    generalize Zb a 64 46=eb
    intro h0
    by_cases c1:decide ((List.length a:Int)<1)=true
    · rw [L4 c1]at h0 ⊢; injection h0 with h0; subst h0; rfl
    · rw [L3 c1]at h0 ⊢
      by_cases c2:decide ((List.length a:Int)>64)=true
      · rw [L4 c2]at h0 ⊢; injection h0 with h0; subst h0; rfl
      · rw [L3 c2]at h0 ⊢
        obtain⟨x1,h1,h0⟩:=Option.bind_eq_some_iff.1 h0
        rw [h1,L0]
        by_cases c3:(x1==46)=true
        · rw [L4 c3]at h0 ⊢; injection h0 with h0; subst h0; rfl
        · rw [L3 c3]at h0 ⊢
          obtain⟨x2,h2,h0⟩:=Option.bind_eq_some_iff.1 h0
          rw [h2,L0]
          injection h0 with h0; subst h0
          rw [ec]
          cases(x2==46)<;>rfl
  rw [e1,L0,e]
  cases(Zb a 64 46||dd a)<;>cases a.all okl<;>rfl
def Wx (s:Bs):Bool:=decide (s.length≤128)&&decide ((64:UInt8)∈s)&&(Pg (s.takeWhile (· !=64))&&Zr ((s.dropWhile (· !=64)).drop 1))
theorem GU {p r:Bs} (h:(64:UInt8)∉p):(p++64::r).takeWhile (· !=64)=p∧((p++64::r).dropWhile (· !=64)).drop 1=r:=by
 induction p with
 |nil=>simp
 | cons x p ih=>
  simp only [Lo,not_or]at h
  have hx:(x !=64)=true:=by simp; exact Ne.symm h.1
  have:=ih h.2
  simp [List.takeWhile_cons,List.dropWhile_cons,hx]at this ⊢
  exact this
theorem cG {n:Nat} {s:Bs} (hn:2000000≤n) (hs:s.length≤1000000):gg n s=some (Wx s):=by
 unfold gg gC v6 Y9 Wx
 rw [L4 (by omega),L0]
 rcases ZR 64 s with⟨h1,h2⟩|⟨p,r,h1,h2,h3⟩
 ·rw [h1,L3 (by decide),L0,L0]; dsimp only
  rw [L3 (show ¬(false=true)by decide),decide_eq_false h2]; simp
 ·have hlen:s.length=p.length+(r.length+1):=by rw [h1]; simp
  rw [h2,L4 (by rw [L1]; omega),show ssl s 0 (p.length:Int)=some p from(L4 ⟨by omega,by omega,by omega⟩).trans (by rw [Int.toNat_natCast,h1]; simp),L0,show IntKind.wrap .i64 ((p.length:Int)+(List.length ([64]:Bs):Int))=((p.length+1:Nat):Int)from w1 (by omega),
   show ssl s ((p.length+1:Nat):Int) (s.length:Int)=some r from(L4 ⟨by omega,by omega,by omega⟩).trans (by rw [Int.toNat_natCast,Int.toNat_natCast,List.take_of_length_le (by omega),h1]; simp),L0,L0,L0]
  dsimp only
  rw [L4 rfl,decide_eq_true (show(64:UInt8)∈s by rw [h1]; simp),D7 (by omega) (by omega),Bl hn (by omega)]
  obtain⟨e1,e2⟩:=GU (p:=p) (r:=r) h3
  rw [h1,e1,e2,←h1]
  by_cases h:s.length≤128
  ·rw [L4 (by rw [L1]; omega),decide_eq_true h]
   cases Pg p<;>simp
  ·rw [L3 (by rw [L1]; omega),decide_eq_false h]; rfl
def okW:Bs→Bool
 | []=>true
 |x::l=>(okl x && !(x==46&&l.head? ==some 46))&&okW l
theorem fR (p:Bs):okW p=(!dd p&&p.all okl):=by
 induction p with
 |nil=>rfl
 | cons x l ih=>
  unfold okW dd
  rw [ih,List.all_cons]
  cases okl x<;>cases(x==46&&l.head? ==some 46)<;>cases dd l<;>cases l.all okl<;>rfl
theorem Qy {n : Nat} {p r : Bs} (hp : (64 :UInt8)∉p) (hs:(p++64::r).length≤1000000):∀(k i:Nat),i≤p.length→p.length-i<k→yI n (p++64::r) k (i:Int)=some (p.length:Int)
  |0,i,_,h=>by omega
  | k + 1,i,hi,hk=>by
    have hl:(p++64::r).length=p.length+(r.length+1):=by simp
    rw [yI,L4 (by rw [L1]; omega),uF (by omega),L0,L0]
    by_cases hc:i<p.length
    · have hx : (p ++ 64 :: r)[i]'(by omega)=p[i]:=List.getElem_append_left hc
      have hne:p[i]≠64:=fun h=>hp (h▸Lk hc)
      rw [hx,L4 (by
        rw [bne_iff_ne]; intro h
        exact hne (UInt8.toNat_inj.1 (by have:p[i].toNat=64:=by omega
                                         rw [this]; rfl))),w1 (by omega)]
      exact Qy hp hs k (i+1) (by omega) (by omega)
    · have hi2:i=p.length:=by omega
      subst hi2
      rw [L3 (by simp)]
theorem KO {n : Nat} {s : Bs} (hp : (64 : UInt8)∉s) (hs:s.length≤1000000):∀(k i:Nat),i≤s.length→s.length-i<k→yI n s k (i:Int)=some (s.length:Int)
  |0,i,_,h=>by omega
  | k + 1,i,hi,hk=>by
    rw [yI]
    by_cases hc:i<s.length
    · have hne : s[i] ≠ 64 := fun h => hp (h▸Lk hc)
      rw [L4 (by rw [L1]; omega),uF hc,L0,L0,L4 (by
        rw [bne_iff_ne]; intro h
        exact hne (UInt8.toNat_inj.1 (by have:s[i].toNat=64:=by omega
                                         rw [this]; rfl))),w1 (by omega)]
      exact KO hp hs k (i+1) (by omega) (by omega)
    · have hi2:i=s.length:=by omega
      subst hi2
      rw [L3 (by rw [L1]; omega),L0,L3 (by decide)]
theorem b46 {b : UInt8} : ((b.toNat : Int)==46)=(b==46):=by
  rw [Bool.eq_iff_iff,beq_iff_eq,beq_iff_eq]
  constructor
  · intro h; exact UInt8.toNat_inj.1 (by have:b.toNat=46:=by omega
                                         rw [this]; rfl)
  · intro h; subst h; rfl
theorem Kx {n:Nat} {p r:Bs} (hn:100≤n) (hs:(p++64::r).length≤1000000):∀(k i:Nat),i≤p.length→p.length-i<k→xP n (p.length:Int) (p++64::r) k (i:Int)=some (if okW (p.drop i)=true then .nxt ()else .ret ([],[],false))
 |0,i,_,h=>by omega
 | k + 1,i,hi,hk=>by
  have hl:(p++64::r).length=p.length+(r.length+1):=by simp
  rw [xP]
  by_cases hc:i<p.length
  ·have hx:(p++64::r)[i]'(by omega)=p[i]:=List.getElem_append_left hc
   have hb:wl (p++64::r) (i:Int)=some (p[i].toNat:Int):=by rw [uF (by omega),hx]
   have hb1:∃y:UInt8,wl (p++64::r) ((i+1:Nat):Int)=some (y.toNat:Int)∧(y==46)=((p.drop (i+1)).head? ==some 46):=by
    by_cases h1:i+1<p.length
    ·refine⟨p[i+1],by rw [uF (by omega),List.getElem_append_left h1], ?_⟩
     rw [Lb h1]; rfl
    ·refine ⟨64, ?_, ?_⟩
     ·have h2:i+1=p.length:=by omega
      rw [uF (by omega)]; simp [h2]
     ·rw [Lc (by omega)]; rfl
   obtain⟨y,hy,hy2⟩:=hb1
   have ham:yR n (p[i].toNat:Int) ([33,35,36,37,38,39,42,43,45,47,61,63,94,95,96,123,124,125,126,46]:List UInt8)=some (amB (p[i].toNat:Int)):=P0 hn
   rw [L4 (by rw [L1]; omega),hb]
   simp only [L0,QW,ham]
   rw [w1 (by omega),hy]
   simp only [L0]
   rw [b46,b46,hy2,Kx hn hs k (i+1) (by omega) (by omega),Lb hc,okW]
   unfold okl
   have key:∀(x y z w u:Bool),((if(!x)=true then(if(!y)=true then some true else if z=true then some w else some false)else if z=true then some w else some false).bind fun y154=>
     if y154=true then some (Ctl.ret (([]:List UInt8),([]:List UInt8),false))else some (if u=true then Ctl.nxt ()else Ctl.ret ([],[],false)))=some (if(((x||y) && !(z&&w))&&u)=true then Ctl.nxt ()else(Ctl.ret ([],[],false):Ctl (List UInt8×List UInt8×Bool) Unit)):=by
    intro x y z w u; cases x<;>cases y<;>cases z<;>cases w<;>cases u<;>rfl
   exact key _ _ _ _ _
  ·rw [L3 (by rw [L1]; omega),Lc (by omega)]; rfl
theorem Kw {p r:Bs} {m c:Int} (h0:1≤p.length) (hs:(p++64::r).length≤1000000):wl (p++64::r) 0=wl p 0∧wl (p++64::r) (IntKind.wrap .i64 ((p.length:Int)-1))=wl p (IntKind.wrap .i64 ((p.length:Int)-1)):=by
 have hl:(p++64::r).length=p.length+(r.length+1):=by simp
 rw [xf (by omega),show(p.length:Int)-1=((p.length-1:Nat):Int)by omega,show(0:Int)=((0:Nat):Int)by rfl,uF (by omega),uF (by omega),uF (by omega),uF (by omega),List.getElem_append_left (by omega),List.getElem_append_left (by omega)]
 exact⟨rfl,rfl⟩
theorem Pf {n:Nat} {s:Bs} (hn:2000000≤n) (hs:s.length≤1000000):uB n s=some (Wx s):=by
 unfold uB jA Wx
 by_cases h:s.length≤128
 ·rw [L3 (by rw [L1]; omega),decide_eq_true h]
  rcases ZR 64 s with⟨h1,h2⟩|⟨p,r,h1,h2,h3⟩
  ·have e:=KO (n:=n) h2 hs n 0 (by omega) (by omega)
   rw [show((0:Nat):Int)=0 by rfl]at e
   rw [e,L0,decide_eq_false h2]
   have e2:∃b,(if(decide ((s.length:Int)<1))=true then some true else if(decide ((s.length:Int)>64))=true then some true else if((s.length:Int)==(List.length s:Int))=true then some true else b)=some true:=by
    refine⟨none, ?_⟩
    split
    ·rfl
    ·split
     ·rfl
     ·rw [L4 (by simp)]
   have e3:∀b:Option Bool,(if(decide ((s.length:Int)<1))=true then some true else if(decide ((s.length:Int)>64))=true then some true else if((s.length:Int)==(List.length s:Int))=true then some true else b)=some true:=by
    intro b
    split
    ·rfl
    ·split
     ·rfl
     ·rw [L4 (by simp)]
   rw [e3,L0,L4 rfl,L0]; rfl
  ·obtain ⟨t1,t2⟩:=GU (p:=p) (r:=r) h3
   subst h1
   have hl:(p++64::r).length=p.length+(r.length+1):=by simp
   have e:=Qy (n:=n) h3 hs n 0 (by omega) (by omega)
   rw [show((0:Nat):Int)=0 by rfl]at e
   rw [e,L0,t1,t2,decide_eq_true (show(64:UInt8)∈p++64::r by simp)]
   have es:ssl (p++64::r) (IntKind.wrap .i64 ((p.length:Int)+1)) (List.length (p++64::r):Int)=some r:=by
    rw [w1 (by omega)]
    exact(L4 ⟨by omega,by omega,by omega⟩).trans (by rw [Int.toNat_natCast,Int.toNat_natCast,List.take_of_length_le (by omega)]; simp)
   have e2:=Kx (n:=n) (p:=p) (r:=r) (by omega) hs n 0 (by omega) (by omega)
   rw [show((0:Nat):Int)=0 by rfl,Lh]at e2
   rw [es,L0,J4 hn (by omega),L0,e2,fR]
   have hg:((p.length:Int)==(List.length (p++64::r):Int))=false:=by rw [beq_eq_false_iff_ne]; omega
   rw [hg]
   have he:=V8 (a:=p) (m:=64) (c:=46) (by omega)
   unfold Pg
   have e3:((if(decide ((p.length:Int)<1))=true then some true else if(decide ((p.length:Int)>64))=true then some true else if false=true then some true else
     if(!Zr r)=true then some true else(wl (p++64::r) 0).bind fun x26=>if(x26==46)=true then some true else(wl (p++64::r) (IntKind.wrap .i64 ((p.length:Int)-1))).bind fun x27=>some (x27==46)):Option Bool)=some (Zb p 64 46|| !Zr r):=by
    unfold Ji at he
    revert he
    generalize Zb p 64 46=eb
    intro he
    by_cases c1:decide ((p.length:Int)<1)=true
    ·rw [L4 c1]at he ⊢; injection he with he; subst he; rfl
    ·rw [L3 c1]at he ⊢
     rw [L1]at c1
     by_cases c2:decide ((p.length:Int)>64)=true
     ·rw [L4 c2]at he ⊢; injection he with he; subst he; rfl
     ·rw [L3 c2]at he ⊢
      rw [L3 (show ¬(false=true)by decide),(Kw (m:=0) (c:=0) (by omega) hs).1,(Kw (m:=0) (c:=0) (by omega) hs).2]
      cases hd:Zr r with
      |false=>rw [L4 (show(!false)=true from rfl)]; simp
      |true=>rw [L3 (show ¬((!true)=true)by decide),he]; simp
   rw [e3,L0]
   cases Zb p 64 46 with
   |true=>rw [Bool.true_or,L4 rfl,L0]; simp
   | false=>
    cases Zr r with
    |false=>rw [Bool.false_or,L4 (show(!false)=true from rfl),L0]; simp
    | true=>
     rw [L3 (by decide)]
     cases hk:(!dd p&&p.all okl)with
     |false=>simp only [yW,L3 (show ¬(false=true)by decide),L0]; simp [hk]
     | true=>
      simp only [yW,L4]
      rw [show ssl (p++64::r) 0 (p.length:Int)=some p from(L4 ⟨by omega,by omega,by omega⟩).trans (by rw [Int.toNat_natCast]; simp)]
      simp only [L0]
      simp [hk]
 ·rw [L4 (by rw [L1]; omega),decide_eq_false h]; rfl
def DR (k:Int) (s:Bs):Bool:=if k=1 then Wx s else if k=2 then U0 s else decide (s.length=4)||decide (s.length=16)
def qV (g:Gen):Int:=if g.zI=4 then(if g.ye= []then uz g.zr.zk else 14)else if g.zI=1∨g.zI=2∨g.zI=7 then(if g.zr.zk= []∧DR g.zI g.ye=true then 0 else 14)else 14
theorem Gn {n:Nat} {s:Bs}:ki n s=some (decide (s.length=4)||decide (s.length=16)):=by
 unfold ki
 by_cases h:s.length=4
 ·rw [L4 (by rw [beq_iff_eq]; omega),decide_eq_true h]; rfl
 ·rw [L3 (by rw [beq_iff_eq]; omega),decide_eq_false h,L0,Bool.false_or]
  congr 1
  rw [Bool.eq_iff_iff,beq_iff_eq,L1]; omega
theorem Pj {n:Nat} {s:Bs}:uY n s=some (decide (s.length=4)||decide (s.length=16)):=Gn (n:=n)
theorem cw (l:List (List Att)):decide ((List.length l:Int)>0)= !decide (l= []):=by
 cases l with
 |nil=>rfl
 |cons x l=>rw [decide_eq_true (by simp),decide_eq_false (by simp)]; rfl
theorem WK (g:Gen):(g.zI=1→qV g=if g.zr.zk= []∧Wx g.ye=true then 0 else 14)∧(g.zI=2→qV g=if g.zr.zk= []∧U0 g.ye=true then 0 else 14) ∧
  (g.zI=7→qV g=if g.zr.zk= []∧(decide (g.ye.length=4)||decide (g.ye.length=16))=true then 0 else 14)∧(g.zI=4→qV g=if g.ye= []then uz g.zr.zk else 14) ∧
  (g.zI≠1→g.zI≠2→g.zI≠7→g.zI≠4→qV g=14):=by
 unfold qV DR
 refine⟨fun h=> ?_,fun h=> ?_,fun h=> ?_,fun h=> ?_,fun h1 h2 h7 h4=> ?_⟩
 ·rw [L3 (by omega),L4 (.inl h),L4 h]
 ·rw [L3 (show ¬g.zI=4 by omega),L4 (.inr (.inl h)),L3 (show ¬g.zI=1 by omega),L4 h]
 ·rw [L3 (show ¬g.zI=4 by omega),L4 (.inr (.inr h)),L3 (show ¬g.zI=1 by omega),L3 (show ¬g.zI=2 by omega)]
 ·rw [L4 h]
 ·rw [L3 h4,L3 (by rintro(h|h|h)<;>contradiction)]
theorem PT {n B:Nat} {g:Gen} (hn:2000000≤n) (hb:BdG B g) (hB:B≤1000000) (hBn:B+100≤n):wQ n g false=some (qV g):=by
 obtain⟨hb1,hb2⟩:=hb
 have ht:g.ye.length≤1000000:=by omega
 obtain⟨g1,g2,g7,g4,g0⟩:=WK g
 unfold wQ gd
 have fin:∀b:Bool,(((if decide ((List.length g.zr.zk:Int)>0)=true then some true else some (!b)).bind fun y9=>if y9=true then some (14:Int)else some 0))=some (if g.zr.zk= []∧b=true then 0 else 14):=by
  intro b
  rw [cw]
  by_cases h:g.zr.zk= []
  ·rw [decide_eq_true h,L3 (by decide),L0]; cases b<;>simp [h]
  ·rw [decide_eq_false h,L4 (by decide),L0,L4 rfl,L3 (fun h'=>h h'.1)]
 by_cases k1:g.zI=1
 ·rw [L4 (by rw [k1]; decide),L0,L3 (by decide),L3 (by decide),g1 k1]
  have ev:xI n 0 g.ye false=some (Wx g.ye):=by
   unfold xI
   rw [L4 (by decide),L3 (by decide),L4 (by decide),cG hn ht,L0,L0]
  rw [ev,L0,fin]
 by_cases k2:g.zI=2
 ·rw [L3 (by simpa using k1),L4 (by rw [k2]; decide),L0,L3 (by decide),L3 (by decide),g2 k2]
  have ev:xI n 1 g.ye false=some (U0 g.ye):=by
   unfold xI
   rw [L3 (by decide),L4 (by decide),L3 (by decide),L4 (by decide),lg hn ht,L0,L0]
  rw [ev,L0,fin]
 by_cases k4:g.zI=4
 ·rw [L3 (by simpa using k1),L3 (by simpa using k2),L4 (by rw [k4]; decide),L0,L3 (by decide),L4 (by decide),g4 k4]
  by_cases ht:g.ye= []
  ·rw [L3 (by rw [ht]; decide),L4 ht,UM hb2 hB hBn]; rfl
  ·rw [L4 (by simpa using ht),L3 ht]
 by_cases k7:g.zI=7
 ·rw [L3 (by simpa using k1),L3 (by simpa using k2),L3 (by simpa using k4),L4 (by rw [k7]; decide),L0,L3 (by decide),L3 (by decide),g7 k7]
  have ev:xI n 3 g.ye false=some (decide (g.ye.length=4)||decide (g.ye.length=16)):=by
   unfold xI
   rw [L3 (by decide),L3 (by decide),L4 (by decide),L3 (by decide),L4 (by decide),Gn,L0,L0]
  rw [ev,L0,fin]
 ·rw [L3 (by simpa using k1),L3 (by simpa using k2),L3 (by simpa using k4),L3 (by simpa using k7),L0,L4 (by decide),g0 k1 k2 k7 k4]
theorem BX {n B:Nat} {g:Gen} (hn:2000000≤n) (hb:BdG B g) (hB:B≤1000000) (hBn:B+100≤n):yr n g false=some (qV g):=by
 obtain⟨hb1,hb2⟩:=hb
 have ht:g.ye.length≤1000000:=by omega
 obtain⟨g1,g2,g7,g4,g0⟩:=WK g
 unfold yr
 have fin:∀b:Bool,(((if(!b)=true then some true else some (decide ((List.length g.zr.zk:Int)>0))).bind fun y54=>if y54=true then some (14:Int)else some 0))=some (if g.zr.zk= []∧b=true then 0 else 14):=by
  intro b
  rw [cw]
  by_cases h:g.zr.zk= []
  ·rw [decide_eq_true h]; cases b<;>simp [h]
  ·rw [decide_eq_false h]; cases b<;>simp [h]
 by_cases k1:g.zI=1
 ·rw [L4 (by rw [k1]; decide),L3 (by decide),L4 (by decide),Pf hn ht,L0,L0]
  simp only [yW]
  rw [fin,g1 k1]
 by_cases k2:g.zI=2
 ·rw [L3 (by simpa using k1),L4 (by rw [k2]; decide),L3 (by decide),L4 (by decide),cW hn ht,L0,L0]
  simp only [yW]
  rw [fin,g2 k2]
 by_cases k7:g.zI=7
 ·rw [L3 (by simpa using k1),L3 (by simpa using k2),L4 (by rw [k7]; decide),L3 (by decide),L4 (by decide),Pj,L0,L0]
  simp only [yW]
  rw [fin,g7 k7]
 by_cases k4:g.zI=4
 ·rw [L3 (by simpa using k1),L3 (by simpa using k2),L3 (by simpa using k7),L4 (by rw [k4]; decide),g4 k4]
  by_cases ht:g.ye= []
  ·rw [L3 (by rw [ht]; decide),L4 ht,show yz n ⟨g.zr.zk⟩=_ from DQ hb2 hB hBn]; rfl
  ·rw [L4 (by simpa using ht),L3 ht]; rfl
 ·rw [L3 (by simpa using k1),L3 (by simpa using k2),L3 (by simpa using k7),L3 (by simpa using k4),g0 k1 k2 k7 k4]
  simp only [yW]
  rw [fin,L3 (by simp)]
theorem ltI (x:Bs):¬x<x:=List.lt_irrefl x
theorem ltT {x y z:Bs} (h:x<y) (h2:y<z):x<z:=List.lt_trans h h2
theorem tri {x y:Bs} (h1:¬x<y) (h2:x≠y):y<x:=by
 rcases List.le_total y x with h|h
 ·exact Std.lt_of_le_of_ne h (Ne.symm h2)
 ·exact absurd (Std.lt_of_le_of_ne h h2) h1
theorem DZ {n:Nat} {o a:List Bs} {q:Nat} (hq:q<a.length) (hl:o.length≤1000) (ha:a.length≤1000):∀(k j:Nat),j<k→j≤o.length→(∀i (h:i<o.length),j≤i→¬o[i]<a[q]) →
  ∃y:Nat,wC n o a (q:Int) k (j:Int)=some (y:Int)∧y≤o.length∧(∀i (h:i<o.length),y≤i→¬o[i]<a[q])∧(y=0∨∃h:y-1<o.length,o[y-1]<a[q])
 |0,j,h,_,_=>by omega
 | k + 1,j,hk,hj,hi=>by
  rw [wC]
  match j,hj,hi with
  |0,hj,hi=>rw [L3 (by decide),L0,L3 (by decide)]; exact⟨0,rfl,by omega,hi, .inl rfl⟩
  | j + 1,hj,hi=>
   have e:IntKind.wrap .i64 (((j+1:Nat):Int)-1)=(j:Int):=by rw [xf (by omega)]; omega
   rw [L4 (by rw [L1]; omega),e,z2 (by omega),L0,z2 hq,L0,L0,Pa]
   by_cases c:o[j]'(by omega)<a[q]
   ·rw [decide_eq_true c,L3 (by decide)]
    exact⟨j+1,rfl,hj,hi, .inr ⟨by omega,c⟩⟩
   ·rw [decide_eq_false c,L4 (by decide)]
    exact DZ hq hl ha k j (by omega) (by omega) (fun i h hji=>by
     by_cases hij:i=j
     ·subst hij; exact c
     ·exact hi i h (by omega))
structure oA (m:List (Bs×Bool)) (o:List Bs):Prop where
 len:m.length=o.length
 mem:∀x,x∈m.map (·.1)↔x∈o
 srt:o.Pairwise (· < ·)
theorem UO (x:Bs):∀m:List (Bs×Bool),(∀y,y∈(Xg x true m).map (·.1)↔y=x∨y∈m.map (·.1))∧(Xg x true m).length=if x∈m.map (·.1)then m.length else m.length+1
 | []=>by simp [Xg]
 | p ::r=>by
  obtain⟨h1,h2⟩:=UO x r
  unfold Xg
  by_cases h:x=p.1
  ·rw [L4 h]
   refine⟨fun y=>by simp [←h],by rw [L4 (by simp [h])]; simp⟩
  ·rw [L3 h]
   refine⟨fun y=> ?_, ?_⟩
   ·rw [Ld,Lo,h1,Ld,Lo]
    constructor
    ·rintro(h|h|h)
     ·exact .inr (.inl h)
     ·exact .inl h
     ·exact .inr (.inr h)
    ·rintro(h|h|h)
     ·exact .inr (.inl h)
     ·exact .inl h
     ·exact .inr (.inr h)
   ·rw [L9,h2]
    by_cases hm:x∈r.map (·.1)
    ·rw [L4 hm,L4 (by rw [Ld]; exact List.mem_cons_of_mem _ hm)]; rfl
    ·rw [L3 hm,L3 (by rw [Ld,Lo]; rintro(h'|h'); exact h h'; exact hm h')]; rfl
theorem PI {o:List Bs} {x:Bs} (hs:o.Pairwise (· < ·)) {y:Nat} (hy:y≤o.length) (h1:∀i (h:i<o.length),y≤i→¬o[i]<x) (h2:y=0∨∃h:y-1<o.length,o[y-1]<x):
  ((∃h:y<o.length,o[y]=x)↔x∈o)∧((¬ ∃h:y<o.length,o[y]=x)→(o.take y++x::o.drop y).Pairwise (· < ·)):=by
 have hg:=List.pairwise_iff_getElem.1 hs
 have lo:∀i (h:i<o.length),i<y→o[i]<x:=by
  intro i h hi
  rcases h2 with h2|⟨h2,h3⟩
  ·omega
  ·by_cases e:i=y-1
   ·subst e; exact h3
   ·exact ltT (hg i (y-1) h h2 (by omega)) h3
 have hm:(∃h:y<o.length,o[y]=x)↔x∈o:=by
  constructor
  ·rintro⟨h,rfl⟩; exact Lk h
  ·intro h
   obtain⟨i,hi,rfl⟩:=List.getElem_of_mem h
   rcases Nat.lt_trichotomy i y with c|c|c
   ·exact absurd (lo i hi c) (ltI _)
   ·subst c; exact⟨hi,rfl⟩
   ·exact absurd (hg y i (by omega) hi c) (h1 y (by omega) (Nat.le_refl _))
 refine⟨hm,fun hn=> ?_⟩
 have hn2:x∉o:=fun h=>hn (hm.2 h)
 rw [List.pairwise_append,List.pairwise_cons]
 refine⟨hs.sublist (List.take_sublist _ _),⟨fun z hz=> ?_,hs.sublist (List.drop_sublist _ _)⟩,fun z hz w hw=> ?_⟩
 ·obtain⟨i,hi,rfl⟩:=List.getElem_of_mem hz
  rw [List.length_drop]at hi
  rw [List.getElem_drop]
  exact tri (h1 (y+i) (by omega) (by omega)) (fun h=>hn2 (h▸Lk _))
 ·obtain ⟨i,hi,rfl⟩:=List.getElem_of_mem hz
  rw [List.length_take]at hi
  rw [List.getElem_take]
  have l1:=lo i (by omega) (by omega)
  rcases Lo.1 hw with rfl|hw
  ·exact l1
  ·obtain⟨j,hj,rfl⟩:=List.getElem_of_mem hw
   rw [List.length_drop]at hj
   rw [List.getElem_drop]
   exact hg i (y+j) (by omega) (by omega) (by omega)
theorem KR {n:Nat} {a:List Bs} (hn:3000≤n) (ha:a.length≤1000):∀(k i:Nat) (o:List Bs) (m:List (Bs×Bool)),i≤a.length→a.length-i<k→o.length≤i→oA m o →
  ∃r,wx n a k o (i:Int)=some r∧oA ((a.drop i).foldl (fun m s=>Xg s true m) m) r∧r.length≤a.length
 |0,i,_,_,_,h,_,_=>by omega
 | k + 1,i,o,m,hi,hk,ho,hr=>by
  rw [wx]
  by_cases hc:i<a.length
  ·obtain ⟨y,ey,y1,y2,y3⟩:=DZ (n:=n) (o:=o) hc (by omega) ha n o.length (by omega) (Nat.le_refl _) (fun i h hj=>by omega)
   obtain⟨s1,s2⟩:=PI hr.srt y1 y2 y3
   obtain⟨p1,p2⟩:=UO a[i] m
   rw [L4 (by rw [L1]; omega),ey,L0,w1 (by omega),Lb hc,List.foldl_cons]
   have e:(if(decide ((y:Int)<(List.length o:Int)))=true then((z1 o (y:Int)).bind fun x786=>(z1 a (i:Int)).bind fun x787=>some (x786==x787))else(some false))=some (decide (a[i]∈o)):=by
    by_cases hy:y<o.length
    ·rw [L4 (by rw [L1]; omega),z2 hy,L0,z2 hc,L0]
     congr 1
     rw [Bool.eq_iff_iff,beq_iff_eq,L1,←s1]
     exact⟨fun h=>⟨hy,h⟩,fun⟨_,h⟩=>h⟩
    ·rw [L3 (by rw [L1]; omega),decide_eq_false (fun h=>by obtain⟨h,_⟩:=s1.2 h; exact hy h)]
   rw [e,L0]
   by_cases hm:a[i]∈o
   ·rw [decide_eq_true hm,L4 rfl,L0]
    refine KR hn ha k (i+1) o _ (by omega) (by omega) (by omega) ⟨by rw [p2,L4 ((hr.mem _).2 hm)]; exact hr.len,fun x=> ?_,hr.srt⟩
    rw [p1,hr.mem]
    exact⟨fun h=>h.elim (fun h=>h▸hm) id, .inr⟩
   ·rw [decide_eq_false hm,L3 (by decide)]
    have hlsl1:lsl o 0 (y:Int)=some (o.take y):=(L4 ⟨by omega,by omega,by omega⟩).trans (by rw [Int.toNat_natCast]; rfl)
    have hlsl2:lsl o (y:Int) (List.length o:Int)=some (o.drop y):=(L4 ⟨by omega,by omega,by omega⟩).trans (by rw [Int.toNat_natCast,Int.toNat_natCast,List.take_of_length_le (by omega)])
    have lt:(o.take y).length+(o.drop y).length=o.length:=by rw [List.length_take,List.length_drop]; omega
    have ein:(if(List.isEmpty (o.take y))=true then((kD 16 ([]:List (List UInt8)) ([a[i]]:List (List UInt8))).bind fun x793=>(jV 16 x793 (o.drop y)).bind fun x794=>some x794)else((kD 16 ([]:List (List UInt8)) (o.take y)).bind fun x795=>
      (jV 16 x795 ([a[i]]:List (List UInt8))).bind fun x796=>(jV 16 x796 (o.drop y)).bind fun x797=>some x797))=some (o.take y++a[i]::o.drop y):=by
     by_cases he:o.take y= []
     ·rw [he,L4 (show(List.isEmpty ([]:List Bs))=true from rfl),UJ (by simp),L0,w8 (by simp; omega)]; rfl
     ·rw [L3 (by simpa using he),show kD 16 ([]:List (List UInt8)) (o.take y)=some ([]++o.take y)from L4 ⟨by simpa using he,by simp; omega⟩,L0,w8 (by simp; omega),L0,w8 (by simp; omega)]
      simp
    rw [hlsl1,L0,z2 hc,L0,hlsl2,L0,ein,L0,L0]
    refine KR hn ha k (i+1) _ _ (by omega) (by omega) (by simp; omega) ⟨?_,fun x=> ?_,s2 (fun h=>hm (s1.1 h))⟩
    ·rw [p2,L3 (fun h=>hm ((hr.mem _).1 h)),hr.len]; simp; omega
    ·rw [p1,hr.mem,Ln,Lo]
     have:x∈o↔x∈o.take y∨x∈o.drop y:=by rw [←Ln,List.take_append_drop]
     rw [this]
     constructor
     ·rintro(h|h|h)
      ·exact .inr (.inl h)
      ·exact .inl h
      ·exact .inr (.inr h)
     ·rintro(h|h|h)
      ·exact .inr (.inl h)
      ·exact .inl h
      ·exact .inr (.inr h)
  ·rw [L3 (by rw [L1]; omega),Lc (by omega)]
   exact⟨o,rfl,hr,by omega⟩
end Go.Abs
end
