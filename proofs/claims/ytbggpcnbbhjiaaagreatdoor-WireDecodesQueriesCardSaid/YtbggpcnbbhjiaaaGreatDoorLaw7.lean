/- The typed Lean form of WireDecodesQueries gives true for every list of at most 9223372036854775807 numbers. -/
import Derived.Test.YtbggpcnbbhjiaaaGreatDoorLaw6
set_option linter.unusedVariables false
set_option linter.unusedSimpArgs false
set_option linter.unnecessarySimpa false
section
set_option maxRecDepth 100000
namespace Go.Abs
open Go Go.Proofs IntKind
def ltB (a:Int):Bool:=(decide (a≥97)&&decide (a≤122))||(decide (a≥65)&&decide (a≤90))
def dgB (a:Int):Bool:=decide (a≥48)&&decide (a≤57)
def alB (a:Int):Bool:=ltB a||dgB a
theorem DT {n:Nat} {a:Int}:pi n a=some (ltB a):=by
 unfold pi ltB
 cases decide (a≥97)<;>cases decide (a≤122)<;>cases decide (a≥65)<;>cases decide (a≤90)<;>rfl
theorem cR {n:Nat} {a:Int}:Za n a=some (dgB a):=by
 unfold Za dgB
 cases decide (a≥48)<;>cases decide (a≤57)<;>rfl
theorem eG {n:Nat} {a:Int}:xV n a=some (alB a):=by
 unfold xV alB ltB dgB
 cases decide (a≥97)<;>cases decide (a≤122)<;>cases decide (a≥65)<;>cases decide (a≤90)<;>cases decide (a≥48)<;>cases decide (a≤57)<;>rfl
def okc (b:UInt8):Bool:=alB (b.toNat:Int)||(b.toNat:Int)==45
theorem zdi (x y w:Bool) (v:Int):((if(!x)=true then(some y).bind fun r=>if(!r)=true then some (v !=45)else some false else some false).bind fun y=>if y=true then some (Ctl.ret false)else some (if w=true then Ctl.nxt ()else Ctl.ret false))=some (if((x||y||v==45)&&w)=true then Ctl.nxt ()else(Ctl.ret false:Ctl Bool Unit)):=by
 cases h:(v==45)<;>cases x<;>cases y<;>cases w<;>simp [bne,h]
theorem zaq {n:Nat} (a:Bs) (hl:a.length≤1000000):∀(k i:Nat),i≤a.length→a.length-i<k→bm n a k (i:Int)=some (if(a.drop i).all okc=true then .nxt ()else .ret false)
 |0,i,_,h=>O0
 | k + 1,i,hi,hk=>by
  have ls:(s2b a).length=a.length:=by simp [s2b]
  rw [bm]
  by_cases hc:i<a.length
  ·have e:zM (s2b a) (i:Int)=some (a[i].toNat:Int):=by
    rw [zQ O0]; simp [s2b]
   rw [L6 O4,e,L0,DT,L0,cR,w1 O0,zaq a hl k (i+1) O0 O0,Lc hc,List.all_cons]
   exact zdi _ _ _ _
  ·rw [L4 O4,Ld O0]; rfl
theorem oc {n:Nat} (a:Bs) (hl:a.length≤1000000):∀(k i:Nat),i≤a.length→a.length-i<k→uG n a k (i:Int)=some (if(a.drop i).all okc=true then .nxt ()else .ret false)
 |0,i,_,h=>O0
 | k + 1,i,hi,hk=>by
  rw [uG]
  by_cases hc:i<a.length
  ·have e:yr a (i:Int)=some (a[i].toNat:Int):=by
    unfold yr; rw [L6 O0,Int.toNat_natCast,List.getElem?_eq_getElem hc]; rfl
   rw [L6 O4,e,L0,eG,L0,L0,w1 O0,oc a hl k (i+1) O0 O0,Lc hc,List.all_cons]
   have:=zdi (alB (a[i].toNat:Int)) false ((a.drop (i+1)).all okc) (a[i].toNat:Int)
   rw [Bool.or_false]at this
   exact this
  ·rw [L4 O4,Ld O0]; rfl
def DB (a:Bs) (m c:Int):Option Bool:=if(decide ((List.length a:Int)<1))=true then(some true)else(if(decide ((List.length a:Int)>m))=true then(some true)else((yr a 0).bind fun x1=>
 if(x1==c)=true then(some true)else((yr a (wrap .i64 ((List.length a:Int)-1))).bind fun x2=>some (x2==c))))
theorem zaU (a:Bs) (m c:Int) (h:a.length≤1000000):∃b,DB a m c=some b:=by
 unfold DB
 refine yq (fun _=>⟨_,rfl⟩) fun h1=>yq (fun _=>⟨_,rfl⟩) fun _=> ?_
 rw [L3]at h1
 refine yF (u9 O0 O0) fun _ _=>yq (fun _=>⟨_,rfl⟩) fun _=> ?_
 rw [z6 O0]
 exact yF (u9 O0 O0) fun _ _=>⟨_,rfl⟩
def WV (a:Bs) (m c:Int):Bool:=(DB a m c).getD true
theorem Bz {a:Bs} {m c:Int} (h:a.length≤1000000):DB a m c=some (WV a m c):=by
 obtain⟨b,e⟩:=zaU a m c h
 unfold WV; rw [e]; rfl
def G8 (a:Bs):Bool:= !WV a 63 45&&a.all okc
theorem sU {n:Nat} {a:Bs} (h:a.length≤1000000) (hn:a.length<n):Yx n a=some (G8 a):=by
 unfold Yx G8
 have e:=zaq (n:=n) a h n 0 O0 O0
 rw [show((0:Nat):Int)=0 from rfl,Li]at e
 rw [show(if(decide ((List.length a:Int)<1))=true then _ else _)=some (WV a 63 45)from Bz h,L0,e]
 cases WV a 63 45<;>cases a.all okc<;>rfl
theorem XZ {c:UInt8}:∀ {s l:Bs},l∈yy c s→l.length≤s.length
 | [],l,h=>by simp [yy]at h; subst h; simp
 | x ::r,l,h=>by
  simp only [yy]at h
  split at h
  ·rcases Lp.1 h with rfl|h
   ·simp
   ·have:=XZ h; simp; omega
  ·split at h
   ·rename_i p ps hp
    rcases Lp.1 h with rfl|h
    ·have:=XZ (s:=r) (l:=p) (by rw [hp]; simp); simp; omega
    ·have:=XZ (s:=r) (l:=l) (by rw [hp]; simp [h]); simp; omega
   ·rename_i hp; exact absurd hp (U9 c r)
def Vc (s:Bs):Bool:=decide (s.length≤128)&&(yy 46 s).all G8
theorem zaB {n:Nat} (l:List Bs) (hn:1000001≤n) (hl:l.length≤1000000) (hs:∀x∈l,x.length≤1000000):∀(k i:Nat),i≤l.length→l.length-i<k→gM n l k (i:Int)=some (if(l.drop i).all G8=true then .nxt ()else .ret false)
 |0,i,_,h=>O0
 | k+1,i,hi,hk=>by
  rw [gM]
  by_cases hc:i<l.length
  ·have hx:=hs _ (Ll hc)
   rw [L6 O4,zQ hc,L0,sU hx O0,L0,w1 O0,zaB l hn hl hs k (i+1) O0 O0,Lc hc,List.all_cons]
   cases G8 l[i]<;>simp
  ·rw [L4 O4,Ld O0]; rfl
theorem my {n:Nat} {s:Bs} (hn:2000000≤n) (hs:s.length≤1000000):Zz n s=some (Vc s):=by
 unfold Zz Vc
 by_cases h:s.length≤128
 ·have hc:(yy 46 s).length≤129:=by rw [V7]; have:=List.count_le_length (a:=(46:UInt8)) (l:=s); omega
  have e:=zaB (n:=n) (yy 46 s) O0 O0 (fun x hx=>by have:=XZ hx; omega) n 0 O0 O0
  rw [show((0:Nat):Int)=0 from rfl,Li]at e
  rw [L4 O4,JE O0 O0,L0,e,decide_eq_true h]
  cases(yy 46 s).all G8<;>rfl
 ·rw [L6 O4,decide_eq_false h]; rfl
theorem nq {n:Nat} (l:List Bs) (hn:1000001≤n) (hl:l.length≤1000000) (hs:∀x∈l,x.length≤1000000):∀(k i:Nat),i≤l.length→l.length-i<k→uH n l k (i:Int)=some (if(l.drop i).all G8=true then .nxt ()else .ret false)
 |0,i,_,h=>O0
 | k+1,i,hi,hk=>by
  rw [uH]
  by_cases hc:i<l.length
  ·have hx:=hs _ (Ll hc)
   have e:=oc (n:=n) l[i] hx n 0 O0 O0
   rw [show((0:Nat):Int)=0 from rfl,Li]at e
   rw [L6 O4,zQ hc,L0,show(if(decide ((List.length l[i]:Int)<1))=true then _ else _)=some (WV l[i] 63 45)from Bz hx,L0,e,w1 O0,nq l hn hl hs k (i+1) O0 O0,Lc hc,List.all_cons]
   unfold G8
   cases WV l[i] 63 45<;>cases l[i].all okc<;>simp [yb]
  ·rw [L4 O4,Ld O0]; rfl
theorem KH {n:Nat} {c:UInt8} (s:Bs) (hs:s.length≤1000000):∀(k i:Nat) (p:Bs) (acc:List Bs),p.length≤i→i≤s.length→s.length-i+1<k→(s.take i).drop (i-p.length)=p→c∉p→acc.length≤i →
  wE n s (c.toNat:Int) k acc ((i-p.length:Nat):Int) (i:Int)=some (acc++yy c (p++s.drop i))
 |0,i,p,acc,_,_,h,_,_,_=>O0
 | k + 1,i,p,acc,hp,hi,hk,he,hcp,ha=>by
  rw [wE,L6 O4]
  have hss:ssl s ((i-p.length:Nat):Int) (i:Int)=some p:=(L6 ⟨O0,O0,O0⟩).trans (by rw [Int.toNat_natCast,Int.toNat_natCast,he])
  by_cases hc:i<s.length
  ·rw [L4 O9]
   have e:yr s (i:Int)=some (s[i].toNat:Int):=by
    unfold yr; rw [L6 O0,Int.toNat_natCast,List.getElem?_eq_getElem hc]; rfl
   rw [e,L0,L0,Lc hc]
   by_cases hx:s[i]=c
   ·rw [L6 (by rw [beq_iff_eq,hx]),hss,L0,yx (by rw [L9]; omega),L0,L0]; dsimp only
    rw [w1 O0,hx,(Zp hcp).2]
    have:=KH (n:=n) (c:=c) s hs k (i+1) [] (acc ++ [p]) O2 O0 O0 O2 O2 O3
    rw [show i+1-List.length ([]:Bs)=i+1 by simp]at this
    rw [this]; simp
   ·rw [L4 (by rw [beq_iff_eq]; intro h; exact hx (UInt8.toNat_inj.1 O0)),L0]; dsimp only
    rw [w1 O0]
    have:=KH (n:=n) (c:=c) s hs k (i+1) (p ++ [s[i]]) acc O3 O0 O0 (by
     rw [List.take_succ_eq_append_getElem hc,show i+1-(p ++ [s[i]]).length=i-p.length by simp,List.drop_append_of_le_length (by rw [List.length_take]; omega),he]) (by simp [hcp,Ne.symm hx]) O0
    rw [show i+1-(p ++ [s[i]]).length=i-p.length by simp]at this
    rw [this]; simp
  ·have hi2:i=s.length:=O0
   rw [L6 O9,L0,L6 rfl,hss,L0,yx (by rw [L9]; omega),L0,L0]; dsimp only
   obtain⟨k',rfl⟩:∃k',k=k'+1:=⟨k-1,O0⟩
   rw [wE,w1 O0,L4 O4,Ld O0,Lk,(Zp hcp).1]
theorem fD {n:Nat} {c:UInt8} {s:Bs} (hs:s.length≤1000000) (hn:s.length+2≤n):v6 n s (c.toNat:Int)=some (yy c s):=by
 unfold v6
 have:=KH (n:=n) (c:=c) s hs n 0 [] [] O2 O0 O0 O2 O2 O2
 rw [show((0-List.length ([]:Bs):Nat):Int)=0 by rfl,show((0:Nat):Int)=0 by rfl]at this
 rw [this]; simp
theorem PP {n:Nat} {s:Bs} (hn:2000000≤n) (hs:s.length≤1000000):jB n s=some (Vc s):=by
 unfold jB Vc
 by_cases h:s.length≤128
 ·have hc:(yy 46 s).length≤129:=by rw [V7]; have:=List.count_le_length (a:=(46:UInt8)) (l:=s); omega
  have e:=nq (n:=n) (yy 46 s) O0 O0 (fun x hx=>by have:=XZ hx; omega) n 0 O0 O0
  rw [show((0:Nat):Int)=0 from rfl,Li]at e
  rw [L4 O4,show v6 n s 46=some (yy 46 s)from fD (c:=46) O0 O0,L0,e,decide_eq_true h]
  cases(yy 46 s).all G8<;>rfl
 ·rw [L6 O4,decide_eq_false h]; rfl
theorem sN:G8 [42]=false:=O8
theorem zbo:Vc []=false:=O8
theorem zar (r:Bs):Vc (42::46::r)=false:=by
 unfold Vc
 rw [show(42::46::r:Bs)= [42]++46::r by rfl,(Zp (c:=46) (p:= [42]) O2).2]
 simp [sN]
theorem rl (c:UInt8) (s:Bs):decide (Lib.index s [c]≥0)=decide (c∈s):=by
 rcases VD c s with⟨h1,h2⟩|⟨p,r,h1,h2,h3⟩
 ·rw [h1,decide_eq_false h2]; rfl
 ·rw [h2,h1,decide_eq_true O0,decide_eq_true O2]
def Dd (s:Bs):Bool:=match s with
 |42::46::r=>decide (s.length≤128)&&(Vc r&&decide ((46:UInt8)∈r))
 |_=>Vc s
def zbC (s:Bs):Bs×Bool:=match s with|42::46::r=>(r,true)|_=>(s,false)
theorem zc6 {n:Nat} {s:Bs} (hs:s.length≤1000000):bY n s [42,46]=some (zbC s):=by
 unfold bY jL wx
 by_cases hl:s.length<2
 ·rw [L4 (by rw [L3]; show ¬((s.length:Int)≥((2:Nat):Int)); omega),L0,L0,L6 O1,L0]
  unfold zbC
  split
  ·rename_i r; have hl:r.length+1+1<2:=hl; omega
  ·rfl
 ·obtain ⟨x,s1,rfl⟩:∃x s1,s=x::s1:=by cases s with|nil=>simp at hl|cons x s1=>exact⟨x,s1,rfl⟩
  obtain⟨y,r,rfl⟩:∃x s2,s1=x::s2:=by cases s1 with|nil=>simp at hl|cons x s2=>exact⟨x,s2,rfl⟩
  have hs:r.length+1+1≤1000000:=hs
  rw [L6 (by rw [L3]; show((2:Nat):Int)≤((r.length+1+1:Nat):Int); omega),show ssl (x::y::r) 0 (List.length ([42,46]:Bs):Int)=some [x,y]from L6 ⟨O1,O1,by show((2:Nat):Int)≤((r.length+1+1:Nat):Int); omega⟩,L0,L0,L0]
  by_cases h:x=42∧y=46
  ·obtain⟨rfl,rfl⟩:=h
   rw [L4 O1,show ssl (42::46::r) (List.length ([42,46]:Bs):Int) (List.length (42::46::r):Int)=some r from(L6 ⟨O1,by show((2:Nat):Int)≤((r.length+1+1:Nat):Int); omega,O0⟩).trans (by rw [Int.toNat_natCast,List.take_of_length_le O0]; rfl),L0,L0]
   rfl
  ·rw [L6 (by have:=Decidable.not_and_iff_or_not.1 h; simpa using this),L0]
   unfold zbC
   split
   ·rename_i heq; injection heq with h1 h2; injection h2 with h2 _; exact absurd ⟨h1,h2⟩ h
   ·rfl
theorem zcF {n:Nat} {s:Bs} (hn:2000000≤n) (hs:s.length≤1000000):Zn n s=some (Dd s):=by
 unfold Zn
 rw [zc6 hs,L0]
 unfold Dd zbC
 split
 ·rename_i r
  have hr:r.length+1+1≤1000000:=hs
  rw [L6 rfl]; dsimp only
  by_cases h:(42::46::r:Bs).length≤128
  ·rw [L6 O4,my hn O0,L0,decide_eq_true h]
   have e:uq n r [46]=some (decide ((46:UInt8)∈r)):=by
    unfold uq YL
    rw [L6 O0,L0,rl]
   rw [e]
   cases Vc r<;>simp
  ·rw [L4 O4,decide_eq_false h]; rfl
 ·rw [L4 (show ¬(false=true)by decide),my hn hs]; rfl
theorem zbr {s:Bs} (h:∀r,s≠42::46::r):Dd s=Vc s:=by
 unfold Dd; split
 ·rename_i r; exact absurd rfl (h r)
 ·rfl
theorem zbm {n:Nat} {s:Bs} (hn:2000000≤n) (hs:s.length≤1000000):qO n s=some (Dd s):=by
 unfold qO
 rw [PP hn hs,L0]
 by_cases hc:∃r,s=42::46::r
 ·obtain ⟨r,rfl⟩:=hc
  show _=some (decide ((42::46::r:Bs).length≤128)&&(Vc r&&decide ((46:UInt8)∈r)))
  have hr:r.length+1+1≤1000000:=hs
  rw [zar,L4 O1]
  by_cases h:(42::46::r:Bs).length≤128
  ·rw [L6 O4,decide_eq_true h]
   by_cases h2:r= []
   ·subst h2
    rw [L4 O1,zbo]; rfl
   ·have h3:0<r.length:=List.length_pos_iff.2 h2
    rw [L6 (by rw [L3]; show((2:Nat):Int)<((r.length+1+1:Nat):Int); omega),show ssl (42::46::r) 0 2=some [42,46]from L6 ⟨O1,O1,by show((2:Nat):Int)≤((r.length+1+1:Nat):Int); omega⟩,L0,L6 O1,
     show ssl (42::46::r) 2 (List.length (42::46::r):Int)=some r from(L6 ⟨O1,by show((2:Nat):Int)≤((r.length+1+1:Nat):Int); omega,O0⟩).trans (by rw [Int.toNat_natCast,List.take_of_length_le O0]; rfl),L0,PP hn O0,L0,
     show v6 n (42::46::r) 46=some (yy 46 (42::46::r))from fD (c:=46) O0 O0,L0,V7]
    have hcnt:decide (((List.count 46 (42::46::r:Bs)+1:Nat):Int)>2)=decide ((46:UInt8)∈r):=by
     rw [List.count_cons_of_ne O1,List.count_cons_self]
     by_cases hm:(46:UInt8)∈r
     ·have:=List.count_pos_iff.2 hm
      rw [decide_eq_true hm,decide_eq_true O0]
     ·have:=List.count_eq_zero.2 hm
      rw [decide_eq_false hm,decide_eq_false O0]
    rw [hcnt]
    cases Vc r<;>simp
  ·rw [L4 O4,decide_eq_false h]; rfl
 ·have hne:∀r,s≠42::46::r:=fun r h=>hc ⟨r,h⟩
  rw [zbr hne]
  cases hd:Vc s with
  |true=>rfl
  | false=>
   rw [L4 O1]
   refine Eq.trans (congrArg (fun o=>Option.bind o fun y7=>some y7) (?_:_=some false)) rfl
   by_cases h:s.length≤128
   ·rw [L6 O4]
    by_cases h2:s.length>2
    ·obtain⟨x,s1,rfl⟩:∃x s1,s=x::s1:=by cases s with|nil=>simp at h2|cons x s1=>exact⟨x,s1,rfl⟩
     obtain⟨y,r,rfl⟩:∃x s2,s1=x::s2:=by cases s1 with|nil=>simp at h2|cons x s2=>exact⟨x,s2,rfl⟩
     have hr:2<r.length+1+1:=h2
     rw [L6 (by rw [L3]; show((2:Nat):Int)<((r.length+1+1:Nat):Int); omega),show ssl (x::y::r) 0 2=some [x,y]from L6 ⟨O1,O1,by show((2:Nat):Int)≤((r.length+1+1:Nat):Int); omega⟩,L0,L4]
     intro hxy
     simp at hxy
     obtain⟨rfl,rfl⟩:=hxy
     exact hne r rfl
    ·rw [L4 O4]
   ·rw [L4 O4]
def spc:Bs:= [33,35,36,37,38,39,42,43,45,47,61,63,94,95,96,123,124,125,126,46]
def amB (x:Int):Bool:=decide (Lib.indexByte spc x.toNat.toUInt8≥0)
theorem rQ (m:Nat):((List.range 256).all fun x:Nat=>xT (m+100) (x:Int) spc==some (amB (x:Int)))=true:=O8
theorem sD {n:Nat} {b:UInt8} (hn:100≤n):xT n (b.toNat:Int) spc=some (amB (b.toNat:Int)):=by
 obtain⟨m,rfl⟩:∃m,n=m+100:=⟨n-100,O0⟩
 have:=Lg.1 (rQ m) b.toNat (by rw [List.mem_range]; have:=b.toNat_lt; omega)
 simpa using this
def okl (b:UInt8):Bool:=alB (b.toNat:Int)||amB (b.toNat:Int)
def dd:Bs→Bool
 | []=>false
 |x::l=>(x==46&&l.head? ==some 46)||dd l
theorem tY (s:Bs):decide (Lib.index s [46,46]≥0)=dd s:=by
 induction s with
 |nil=>rfl
 | cons x l ih=>
  unfold Lib.index dd
  have e:List.isPrefixOf [46,46] (x::l)=(x==46&&l.head? ==some 46):=by
   cases l with
   |nil=>simp [List.isPrefixOf]
   | cons y r=>
    show(46==x&&(46==y&&true))=(x==46&&(y==46))
    rw [Bool.and_true,BEq.comm (a:=(46:UInt8)) (b:=x),BEq.comm (a:=(46:UInt8)) (b:=y)]
  rw [e,←ih]
  have hg:=Lib.index_ge l [46,46]
  cases(x==46&&l.head? ==some 46)with
  |true=>rfl
  | false=>
   rw [L4 O1,Bool.false_or]
   by_cases h:Lib.index l [46,46]= -1
   ·rw [L6 (by rw [beq_iff_eq]; exact h),h]
   ·rw [L4 (by rw [beq_iff_eq]; exact h),decide_eq_true (show Lib.index l [46,46]≥0 by omega),decide_eq_true O0]
def sy (a:Bs):Bool:= !(WV a 64 46||dd a)&&a.all okl
theorem zah {n:Nat} (a:Bs) (hl:a.length≤1000000):∀(k i:Nat),i≤a.length→a.length-i<k→bc n a k (i:Int)=some (if(a.drop i).all okl=true then .nxt ()else .ret false)
 |0,i,_,h=>O0
 | k + 1,i,hi,hk=>by
  have ls:(s2b a).length=a.length:=by simp [s2b]
  rw [bc]
  by_cases hc:i<a.length
  ·have e:zM (s2b a) (i:Int)=some (a[i].toNat:Int):=by
    rw [zQ O0]; simp [s2b]
   rw [L6 O4,e,L0,DT,L0,cR,w1 O0,zah a hl k (i+1) O0 O0,Lc hc,List.all_cons]
   unfold Xl
   have key:∀(x y z w:Bool),((if x=true then some true else(some y).bind fun r165=>if r165=true then some true else some z).bind fun y162=>if(!y162)=true then some (Ctl.ret false)else some (if w=true then Ctl.nxt ()else Ctl.ret false))=some (if(((x||y)||z)&&w)=true then Ctl.nxt ()else(Ctl.ret false:Ctl Bool Unit)):=by
    intro x y z w; cases x<;>cases y<;>cases z<;>cases w<;>rfl
   exact key (ltB (a[i].toNat:Int)) (dgB (a[i].toNat:Int)) (amB (a[i].toNat:Int)) ((a.drop (i+1)).all okl)
  ·rw [L4 O4,Ld O0]; rfl
theorem zas {n:Nat} {a:Bs} (h:a.length≤1000000) (hn:a.length<n):YD n a=some (sy a):=by
  unfold YD sy
  have e:=zah (n:=n) a h n 0 O0 O0
  rw [show((0:Nat):Int)=0 from rfl,Li]at e
  have ec:uq n a [46,46]=some (dd a):=by
    unfold uq YL
    rw [L6 O0,L0,tY]
  have e1 :(if(decide ((List.length a:Int)<1))=true then(some true)else(if(decide ((List.length a:Int)>64))=true then(some true)else((yr a 0).bind fun x1=>
     if(x1==46)=true then(some true)else((yr a (wrap .i64 ((List.length a:Int)-1))).bind fun x2=>
     if(x2==46)=true then(some true)else((uq n a ([46,46]:List UInt8)).bind fun r3=>
     some r3)))))=some (WV a 64 46||dd a):=by
    have h0:=Bz (a:=a) (m:=64) (c:=46) h
    unfold DB at h0
    revert h0
    generalize WV a 64 46=eb
    intro h0
    by_cases c1:decide ((List.length a:Int)<1)=true
    · rw [L6 c1]at h0 ⊢; injection h0 with h0; subst h0; rfl
    · rw [L4 c1]at h0 ⊢
      by_cases c2:decide ((List.length a:Int)>64)=true
      · rw [L6 c2]at h0 ⊢; injection h0 with h0; subst h0; rfl
      · rw [L4 c2]at h0 ⊢
        obtain⟨x1,h1,h0⟩:=Option.bind_eq_some_iff.1 h0
        rw [h1,L0]
        by_cases c3:(x1==46)=true
        · rw [L6 c3]at h0 ⊢; injection h0 with h0; subst h0; rfl
        · rw [L4 c3]at h0 ⊢
          obtain⟨x2,h2,h0⟩:=Option.bind_eq_some_iff.1 h0
          rw [h2,L0]
          injection h0 with h0; subst h0
          rw [ec]
          cases(x2==46)<;>rfl
  rw [e1,L0,e]
  cases(WV a 64 46||dd a)<;>cases a.all okl<;>rfl
def Qw (s:Bs):Bool:=decide (s.length≤128)&&decide ((64:UInt8)∈s)&&(sy (s.takeWhile (· !=64))&&Vc ((s.dropWhile (· !=64)).drop 1))
theorem mS {p r:Bs} (h:(64:UInt8)∉p):(p++64::r).takeWhile (· !=64)=p∧((p++64::r).dropWhile (· !=64)).drop 1=r:=by
 induction p with
 |nil=>simp
 | cons x p ih=>
  simp only [Lp,not_or]at h
  have hx:(x !=64)=true:=by simp; exact Ne.symm h.1
  have:=ih h.2
  simp [List.takeWhile_cons,List.dropWhile_cons,hx]at this ⊢
  exact this
theorem zbq {n:Nat} {s:Bs} (hn:2000000≤n) (hs:s.length≤1000000):Xk n s=some (Qw s):=by
 unfold Xk XU kx Ja Qw
 rw [L6 O0,L0]
 rcases VD 64 s with⟨h1,h2⟩|⟨p,r,h1,h2,h3⟩
 ·rw [h1,L4 O1,L0,L0]; dsimp only
  rw [L4 (show ¬(false=true)by decide),decide_eq_false h2]; simp
 ·have hlen:s.length=p.length+(r.length+1):=by rw [h1]; simp
  rw [h2,L6 O4,show ssl s 0 (p.length:Int)=some p from(L6 ⟨O0,O0,O0⟩).trans (by rw [Int.toNat_natCast,h1]; simp),L0,show wrap .i64 ((p.length:Int)+(List.length ([64]:Bs):Int))=((p.length+1:Nat):Int)from w1 O0,
   show ssl s ((p.length+1:Nat):Int) (s.length:Int)=some r from(L6 ⟨O0,O0,O0⟩).trans (by rw [Int.toNat_natCast,Int.toNat_natCast,List.take_of_length_le O0,h1]; simp),L0,L0,L0]
  dsimp only
  rw [L6 rfl,decide_eq_true (show(64:UInt8)∈s by rw [h1]; simp),zas O0 O0,my hn O0]
  obtain⟨e1,e2⟩:=mS (p:=p) (r:=r) h3
  rw [h1,e1,e2,←h1]
  by_cases h:s.length≤128
  ·rw [L6 O4,decide_eq_true h]
   cases sy p<;>simp
  ·rw [L4 O4,decide_eq_false h]; rfl
def okW:Bs→Bool
 | []=>true
 |x::l=>(okl x && !(x==46&&l.head? ==some 46))&&okW l
theorem zdb (p:Bs):okW p=(!dd p&&p.all okl):=by
 induction p with
 |nil=>rfl
 | cons x l ih=>
  unfold okW dd
  rw [ih,List.all_cons]
  cases okl x<;>cases(x==46&&l.head? ==some 46)<;>cases dd l<;>cases l.all okl<;>rfl
theorem cB {n : Nat} {p r : Bs} (hp : (64 :UInt8)∉p) (hs:(p++64::r).length≤1000000):∀(k i:Nat),i≤p.length→p.length-i<k→xJ n (p++64::r) k (i:Int)=some (p.length:Int)
  |0,i,_,h=>O0
  | k + 1,i,hi,hk=>by
    have hl:(p++64::r).length=p.length+(r.length+1):=O2
    rw [xJ,L6 O4,vj O0,L0,L0]
    by_cases hc:i<p.length
    · have hx : (p ++ 64 :: r)[i]' O0=p[i]:=List.getElem_append_left hc
      have hne:p[i]≠64:=fun h=>hp (h▸Ll hc)
      rw [hx,L6 (by
        rw [bne_iff_ne]; intro h
        exact hne (UInt8.toNat_inj.1 (by have:p[i].toNat=64:=O0
                                         rw [this]; rfl))),w1 O0]
      exact cB hp hs k (i+1) O0 O0
    · have hi2:i=p.length:=O0
      subst hi2
      rw [L4 O2]
theorem P1 {n : Nat} {s : Bs} (hp : (64 : UInt8)∉s) (hs:s.length≤1000000):∀(k i:Nat),i≤s.length→s.length-i<k→xJ n s k (i:Int)=some (s.length:Int)
  |0,i,_,h=>O0
  | k + 1,i,hi,hk=>by
    rw [xJ]
    by_cases hc:i<s.length
    · have hne : s[i] ≠ 64 := fun h => hp (h▸Ll hc)
      rw [L6 O4,vj hc,L0,L0,L6 (by
        rw [bne_iff_ne]; intro h
        exact hne (UInt8.toNat_inj.1 (by have:s[i].toNat=64:=O0
                                         rw [this]; rfl))),w1 O0]
      exact P1 hp hs k (i+1) O0 O0
    · have hi2:i=s.length:=O0
      subst hi2
      rw [L4 O4,L0,L4 O1]
theorem b46 {b : UInt8} : ((b.toNat : Int)==46)=(b==46):=by
  rw [Bool.eq_iff_iff,beq_iff_eq,beq_iff_eq]
  constructor
  · intro h; exact UInt8.toNat_inj.1 (by have:b.toNat=46:=O0
                                         rw [this]; rfl)
  · intro h; subst h; rfl
theorem cM {n:Nat} {p r:Bs} (hn:100≤n) (hs:(p++64::r).length≤1000000):∀(k i:Nat),i≤p.length→p.length-i<k→vO n (p.length:Int) (p++64::r) k (i:Int)=some (if okW (p.drop i)=true then .nxt ()else .ret ([],[],false))
 |0,i,_,h=>O0
 | k + 1,i,hi,hk=>by
  have hl:(p++64::r).length=p.length+(r.length+1):=O2
  rw [vO]
  by_cases hc:i<p.length
  ·have hx:(p++64::r)[i]' O0=p[i]:=List.getElem_append_left hc
   have hb:yr (p++64::r) (i:Int)=some (p[i].toNat:Int):=by rw [vj O0,hx]
   have hb1:∃y:UInt8,yr (p++64::r) ((i+1:Nat):Int)=some (y.toNat:Int)∧(y==46)=((p.drop (i+1)).head? ==some 46):=by
    by_cases h1:i+1<p.length
    ·refine⟨p[i+1],by rw [vj O0,List.getElem_append_left h1], ?_⟩
     rw [Lc h1]; rfl
    ·refine ⟨64, ?_, ?_⟩
     ·have h2:i+1=p.length:=O0
      rw [vj O0]; simp [h2]
     ·rw [Ld O0]; rfl
   obtain⟨y,hy,hy2⟩:=hb1
   have ham:xT n (p[i].toNat:Int) ([33,35,36,37,38,39,42,43,45,47,61,63,94,95,96,123,124,125,126,46]:List UInt8)=some (amB (p[i].toNat:Int)):=sD hn
   rw [L6 O4,hb]
   simp only [L0,eG,ham]
   rw [w1 O0,hy]
   simp only [L0]
   rw [b46,b46,hy2,cM hn hs k (i+1) O0 O0,Lc hc,okW]
   unfold okl
   have key:∀(x y z w u:Bool),((if(!x)=true then(if(!y)=true then some true else if z=true then some w else some false)else if z=true then some w else some false).bind fun y154=>
     if y154=true then some (Ctl.ret (([]:List UInt8),([]:List UInt8),false))else some (if u=true then Ctl.nxt ()else Ctl.ret ([],[],false)))=some (if(((x||y) && !(z&&w))&&u)=true then Ctl.nxt ()else(Ctl.ret ([],[],false):Ctl (List UInt8×List UInt8×Bool) Unit)):=by
    intro x y z w u; cases x<;>cases y<;>cases z<;>cases w<;>cases u<;>rfl
   exact key _ _ _ _ _
  ·rw [L4 O4,Ld O0]; rfl
theorem cd {p r:Bs} {m c:Int} (h0:1≤p.length) (hs:(p++64::r).length≤1000000):yr (p++64::r) 0=yr p 0∧yr (p++64::r) (wrap .i64 ((p.length:Int)-1))=yr p (wrap .i64 ((p.length:Int)-1)):=by
 have hl:(p++64::r).length=p.length+(r.length+1):=O2
 rw [z6 O0,show(p.length:Int)-1=((p.length-1:Nat):Int)by omega,show(0:Int)=((0:Nat):Int)by rfl,vj O0,vj O0,vj O0,vj O0,List.getElem_append_left O0,List.getElem_append_left O0]
 exact⟨rfl,rfl⟩
theorem zax {n:Nat} {s:Bs} (hn:2000000≤n) (hs:s.length≤1000000):bK n s=some (Qw s):=by
 unfold bK dw Qw
 by_cases h:s.length≤128
 ·rw [L4 O4,decide_eq_true h]
  rcases VD 64 s with⟨h1,h2⟩|⟨p,r,h1,h2,h3⟩
  ·have e:=P1 (n:=n) h2 hs n 0 O0 O0
   rw [show((0:Nat):Int)=0 by rfl]at e
   rw [e,L0,decide_eq_false h2]
   have e2:∃b,(if(decide ((s.length:Int)<1))=true then some true else if(decide ((s.length:Int)>64))=true then some true else if((s.length:Int)==(List.length s:Int))=true then some true else b)=some true:=by
    refine⟨none, ?_⟩
    split
    ·rfl
    ·split
     ·rfl
     ·rw [L6 O2]
   have e3:∀b:Option Bool,(if(decide ((s.length:Int)<1))=true then some true else if(decide ((s.length:Int)>64))=true then some true else if((s.length:Int)==(List.length s:Int))=true then some true else b)=some true:=by
    intro b
    split
    ·rfl
    ·split
     ·rfl
     ·rw [L6 O2]
   rw [e3,L0,L6 rfl,L0]; rfl
  ·obtain ⟨t1,t2⟩:=mS (p:=p) (r:=r) h3
   subst h1
   have hl:(p++64::r).length=p.length+(r.length+1):=O2
   have e:=cB (n:=n) h3 hs n 0 O0 O0
   rw [show((0:Nat):Int)=0 by rfl]at e
   rw [e,L0,t1,t2,decide_eq_true (show(64:UInt8)∈p++64::r by simp)]
   have es:ssl (p++64::r) (wrap .i64 ((p.length:Int)+1)) (List.length (p++64::r):Int)=some r:=by
    rw [w1 O0]
    exact(L6 ⟨O0,O0,O0⟩).trans (by rw [Int.toNat_natCast,Int.toNat_natCast,List.take_of_length_le O0]; simp)
   have e2:=cM (n:=n) (p:=p) (r:=r) O0 hs n 0 O0 O0
   rw [show((0:Nat):Int)=0 by rfl,Li]at e2
   rw [es,L0,PP hn O0,L0,e2,zdb]
   have hg:((p.length:Int)==(List.length (p++64::r):Int))=false:=by rw [beq_eq_false_iff_ne]; omega
   rw [hg]
   have he:=Bz (a:=p) (m:=64) (c:=46) O0
   unfold sy
   have e3:((if(decide ((p.length:Int)<1))=true then some true else if(decide ((p.length:Int)>64))=true then some true else if false=true then some true else
     if(!Vc r)=true then some true else(yr (p++64::r) 0).bind fun x26=>if(x26==46)=true then some true else(yr (p++64::r) (wrap .i64 ((p.length:Int)-1))).bind fun x27=>some (x27==46)):Option Bool)=some (WV p 64 46|| !Vc r):=by
    unfold DB at he
    revert he
    generalize WV p 64 46=eb
    intro he
    by_cases c1:decide ((p.length:Int)<1)=true
    ·rw [L6 c1]at he ⊢; injection he with he; subst he; rfl
    ·rw [L4 c1]at he ⊢
     rw [L3]at c1
     by_cases c2:decide ((p.length:Int)>64)=true
     ·rw [L6 c2]at he ⊢; injection he with he; subst he; rfl
     ·rw [L4 c2]at he ⊢
      rw [L4 (show ¬(false=true)by decide),(cd (m:=0) (c:=0) O0 hs).1,(cd (m:=0) (c:=0) O0 hs).2]
      cases hd:Vc r with
      |false=>rw [L6 (show(!false)=true from rfl)]; simp
      |true=>rw [L4 (show ¬((!true)=true)by decide),he]; simp
   rw [e3,L0]
   cases WV p 64 46 with
   |true=>rw [Bool.true_or,L6 rfl,L0]; simp
   | false=>
    cases Vc r with
    |false=>rw [Bool.false_or,L6 (show(!false)=true from rfl),L0]; simp
    | true=>
     rw [L4 O1]
     cases hk:(!dd p&&p.all okl)with
     |false=>simp only [yb,L4 (show ¬(false=true)by decide),L0]; simp [hk]
     | true=>
      simp only [yb,L6]
      rw [show ssl (p++64::r) 0 (p.length:Int)=some p from(L6 ⟨O0,O0,O0⟩).trans (by rw [Int.toNat_natCast]; simp)]
      simp only [L0]
      simp [hk]
 ·rw [L6 O4,decide_eq_false h]; rfl
def tB (k:Int) (s:Bs):Bool:=if k=1 then Qw s else if k=2 then Dd s else decide (s.length=4)||decide (s.length=16)
def jK (g:Gen):Int:=if g.zG=4 then(if g.yl= []then jj g.zt.zh else 14)else if g.zG=1∨g.zG=2∨g.zG=7 then(if g.zt.zh= []∧tB g.zG g.yl=true then 0 else 14)else 14
theorem ot {n:Nat} {s:Bs}:Zk n s=some (decide (s.length=4)||decide (s.length=16)):=by
 unfold Zk
 by_cases h:s.length=4
 ·rw [L6 O9,decide_eq_true h]; rfl
 ·rw [L4 O9,decide_eq_false h,L0,Bool.false_or]
  congr 1
  rw [Bool.eq_iff_iff,beq_iff_eq,L3]; omega
theorem su {n:Nat} {s:Bs}:gx n s=some (decide (s.length=4)||decide (s.length=16)):=ot (n:=n)
theorem zaw (l:List (List Att)):decide ((List.length l:Int)>0)= !decide (l= []):=by
 cases l with
 |nil=>rfl
 |cons x l=>rw [decide_eq_true O2,decide_eq_false O2]; rfl
theorem QC (g:Gen):(g.zG=1→jK g=if g.zt.zh= []∧Qw g.yl=true then 0 else 14)∧(g.zG=2→jK g=if g.zt.zh= []∧Dd g.yl=true then 0 else 14) ∧
  (g.zG=7→jK g=if g.zt.zh= []∧(decide (g.yl.length=4)||decide (g.yl.length=16))=true then 0 else 14)∧(g.zG=4→jK g=if g.yl= []then jj g.zt.zh else 14) ∧
  (g.zG≠1→g.zG≠2→g.zG≠7→g.zG≠4→jK g=14):=by
 unfold jK tB
 refine⟨fun h=> ?_,fun h=> ?_,fun h=> ?_,fun h=> ?_,fun h1 h2 h7 h4=> ?_⟩
 ·rw [L4 O0,L6 (.inl h),L6 h]
 ·rw [L4 (show ¬g.zG=4 by omega),L6 (.inr (.inl h)),L4 (show ¬g.zG=1 by omega),L6 h]
 ·rw [L4 (show ¬g.zG=4 by omega),L6 (.inr (.inr h)),L4 (show ¬g.zG=1 by omega),L4 (show ¬g.zG=2 by omega)]
 ·rw [L6 h]
 ·rw [L4 h4,L4 (by rintro(h|h|h)<;>contradiction)]
theorem PD {n B:Nat} {g:Gen} (hn:2000000≤n) (hb:BdG B g) (hB:B≤1000000) (hBn:B+100≤n):wT n g false=some (jK g):=by
 obtain⟨hb1,hb2⟩:=hb
 have ht:g.yl.length≤1000000:=O0
 obtain⟨g1,g2,g7,g4,g0⟩:=QC g
 unfold wT YU
 have fin:∀b:Bool,(((if decide ((List.length g.zt.zh:Int)>0)=true then some true else some (!b)).bind fun y9=>if y9=true then some (14:Int)else some 0))=some (if g.zt.zh= []∧b=true then 0 else 14):=by
  intro b
  rw [zaw]
  by_cases h:g.zt.zh= []
  ·rw [decide_eq_true h,L4 O1,L0]; cases b<;>simp [h]
  ·rw [decide_eq_false h,L6 O1,L0,L6 rfl,L4 (fun h'=>h h'.1)]
 by_cases k1:g.zG=1
 ·rw [L6 (by rw [k1]; decide),L0,L4 O1,L4 O1,g1 k1]
  have ev:vf n 0 g.yl false=some (Qw g.yl):=by
   unfold vf
   rw [L6 O1,L4 O1,L6 O1,zbq hn ht,L0,L0]
  rw [ev,L0,fin]
 by_cases k2:g.zG=2
 ·rw [L4 (Oa k1),L6 (by rw [k2]; decide),L0,L4 O1,L4 O1,g2 k2]
  have ev:vf n 1 g.yl false=some (Dd g.yl):=by
   unfold vf
   rw [L4 O1,L6 O1,L4 O1,L6 O1,zcF hn ht,L0,L0]
  rw [ev,L0,fin]
 by_cases k4:g.zG=4
 ·rw [L4 (Oa k1),L4 (Oa k2),L6 (by rw [k4]; decide),L0,L4 O1,L6 O1,g4 k4]
  by_cases ht:g.yl= []
  ·rw [L4 (by rw [ht]; decide),L6 ht,K8 hb2 hB hBn]; rfl
  ·rw [L6 (Oa ht),L4 ht]
 by_cases k7:g.zG=7
 ·rw [L4 (Oa k1),L4 (Oa k2),L4 (Oa k4),L6 (by rw [k7]; decide),L0,L4 O1,L4 O1,g7 k7]
  have ev:vf n 3 g.yl false=some (decide (g.yl.length=4)||decide (g.yl.length=16)):=by
   unfold vf
   rw [L4 O1,L4 O1,L6 O1,L4 O1,L6 O1,ot,L0,L0]
  rw [ev,L0,fin]
 ·rw [L4 (Oa k1),L4 (Oa k2),L4 (Oa k4),L4 (Oa k7),L0,L6 O1,g0 k1 k2 k7 k4]
theorem BC {n B:Nat} {g:Gen} (hn:2000000≤n) (hb:BdG B g) (hB:B≤1000000) (hBn:B+100≤n):yZ n g false=some (jK g):=by
 obtain⟨hb1,hb2⟩:=hb
 have ht:g.yl.length≤1000000:=O0
 obtain⟨g1,g2,g7,g4,g0⟩:=QC g
 unfold yZ
 have fin:∀b:Bool,(((if(!b)=true then some true else some (decide ((List.length g.zt.zh:Int)>0))).bind fun y54=>if y54=true then some (14:Int)else some 0))=some (if g.zt.zh= []∧b=true then 0 else 14):=by
  intro b
  rw [zaw]
  by_cases h:g.zt.zh= []
  ·rw [decide_eq_true h]; cases b<;>simp [h]
  ·rw [decide_eq_false h]; cases b<;>simp [h]
 by_cases k1:g.zG=1
 ·rw [L6 (by rw [k1]; decide),L4 O1,L6 O1,zax hn ht,L0,L0]
  simp only [yb]
  rw [fin,g1 k1]
 by_cases k2:g.zG=2
 ·rw [L4 (Oa k1),L6 (by rw [k2]; decide),L4 O1,L6 O1,zbm hn ht,L0,L0]
  simp only [yb]
  rw [fin,g2 k2]
 by_cases k7:g.zG=7
 ·rw [L4 (Oa k1),L4 (Oa k2),L6 (by rw [k7]; decide),L4 O1,L6 O1,su,L0,L0]
  simp only [yb]
  rw [fin,g7 k7]
 by_cases k4:g.zG=4
 ·rw [L4 (Oa k1),L4 (Oa k2),L4 (Oa k7),L6 (by rw [k4]; decide),g4 k4]
  by_cases ht:g.yl= []
  ·rw [L4 (by rw [ht]; decide),L6 ht,show y8 n ⟨g.zt.zh⟩=_ from nX hb2 hB hBn]; rfl
  ·rw [L6 (Oa ht),L4 ht]; rfl
 ·rw [L4 (Oa k1),L4 (Oa k2),L4 (Oa k7),L4 (Oa k4),g0 k1 k2 k7 k4]
  simp only [yb]
  rw [fin,L4 O2]
theorem ltI (x:Bs):¬x<x:=List.lt_irrefl x
theorem ltT {x y z:Bs} (h:x<y) (h2:y<z):x<z:=List.lt_trans h h2
theorem tri {x y:Bs} (h1:¬x<y) (h2:x≠y):y<x:=by
 rcases List.le_total y x with h|h
 ·exact Std.lt_of_le_of_ne h (Ne.symm h2)
 ·exact absurd (Std.lt_of_le_of_ne h h2) h1
theorem sK {n:Nat} {o a:List Bs} {q:Nat} (hq:q<a.length) (hl:o.length≤1000) (ha:a.length≤1000):∀(k j:Nat),j<k→j≤o.length→(∀i (h:i<o.length),j≤i→¬o[i]<a[q]) →
  ∃y:Nat,uJ n o a (q:Int) k (j:Int)=some (y:Int)∧y≤o.length∧(∀i (h:i<o.length),y≤i→¬o[i]<a[q])∧(y=0∨∃h:y-1<o.length,o[y-1]<a[q])
 |0,j,h,_,_=>O0
 | k + 1,j,hk,hj,hi=>by
  rw [uJ]
  match j,hj,hi with
  |0,hj,hi=>rw [L4 O1,L0,L4 O1]; exact⟨0,rfl,O0,hi, .inl rfl⟩
  | j + 1,hj,hi=>
   have e:wrap .i64 (((j+1:Nat):Int)-1)=(j:Int):=by rw [z6 O0]; omega
   rw [L6 O4,e,zQ O0,L0,zQ hq,L0,L0,ny]
   by_cases c:o[j]' O0<a[q]
   ·rw [decide_eq_true c,L4 O1]
    exact⟨j+1,rfl,hj,hi, .inr ⟨O0,c⟩⟩
   ·rw [decide_eq_false c,L6 O1]
    exact sK hq hl ha k j O0 O0 (fun i h hji=>by
     by_cases hij:i=j
     ·subst hij; exact c
     ·exact hi i h O0)
structure ze6 (m:List (Bs×Bool)) (o:List Bs):Prop where
 len:m.length=o.length
 mem:∀x,x∈m.map (·.1)↔x∈o
 srt:o.Pairwise (· < ·)
theorem GF (x:Bs):∀m:List (Bs×Bool),(∀y,y∈(J6 x true m).map (·.1)↔y=x∨y∈m.map (·.1))∧(J6 x true m).length=if x∈m.map (·.1)then m.length else m.length+1
 | []=>by simp [J6]
 | p ::r=>by
  obtain⟨h1,h2⟩:=GF x r
  unfold J6
  by_cases h:x=p.1
  ·rw [L6 h]
   refine⟨fun y=>by simp [←h],by rw [L6 (by simp [h])]; simp⟩
  ·rw [L4 h]
   refine⟨fun y=> ?_, ?_⟩
   ·rw [Le,Lp,h1,Le,Lp]
    constructor
    ·rintro(h|h|h)
     ·exact .inr (.inl h)
     ·exact .inl h
     ·exact .inr (.inr h)
    ·rintro(h|h|h)
     ·exact .inr (.inl h)
     ·exact .inl h
     ·exact .inr (.inr h)
   ·rw [La,h2]
    by_cases hm:x∈r.map (·.1)
    ·rw [L6 hm,L6 (by rw [Le]; exact List.mem_cons_of_mem _ hm)]; rfl
    ·rw [L4 hm,L4 (by rw [Le,Lp]; rintro(h'|h'); exact h h'; exact hm h')]; rfl
theorem sk {o:List Bs} {x:Bs} (hs:o.Pairwise (· < ·)) {y:Nat} (hy:y≤o.length) (h1:∀i (h:i<o.length),y≤i→¬o[i]<x) (h2:y=0∨∃h:y-1<o.length,o[y-1]<x):
  ((∃h:y<o.length,o[y]=x)↔x∈o)∧((¬ ∃h:y<o.length,o[y]=x)→(o.take y++x::o.drop y).Pairwise (· < ·)):=by
 have hg:=List.pairwise_iff_getElem.1 hs
 have lo:∀i (h:i<o.length),i<y→o[i]<x:=by
  intro i h hi
  rcases h2 with h2|⟨h2,h3⟩
  ·omega
  ·by_cases e:i=y-1
   ·subst e; exact h3
   ·exact ltT (hg i (y-1) h h2 O0) h3
 have hm:(∃h:y<o.length,o[y]=x)↔x∈o:=by
  constructor
  ·rintro⟨h,rfl⟩; exact Ll h
  ·intro h
   obtain⟨i,hi,rfl⟩:=List.getElem_of_mem h
   rcases Nat.lt_trichotomy i y with c|c|c
   ·exact absurd (lo i hi c) (ltI _)
   ·subst c; exact⟨hi,rfl⟩
   ·exact absurd (hg y i O0 hi c) (h1 y O0 (Nat.le_refl _))
 refine⟨hm,fun hn=> ?_⟩
 have hn2:x∉o:=fun h=>hn (hm.2 h)
 rw [List.pairwise_append,List.pairwise_cons]
 refine⟨hs.sublist (List.take_sublist _ _),⟨fun z hz=> ?_,hs.sublist (List.drop_sublist _ _)⟩,fun z hz w hw=> ?_⟩
 ·obtain⟨i,hi,rfl⟩:=List.getElem_of_mem hz
  rw [List.length_drop]at hi
  rw [List.getElem_drop]
  exact tri (h1 (y+i) O0 O0) (fun h=>hn2 (h▸Ll _))
 ·obtain ⟨i,hi,rfl⟩:=List.getElem_of_mem hz
  rw [List.length_take]at hi
  rw [List.getElem_take]
  have l1:=lo i O0 O0
  rcases Lp.1 hw with rfl|hw
  ·exact l1
  ·obtain⟨j,hj,rfl⟩:=List.getElem_of_mem hw
   rw [List.length_drop]at hj
   rw [List.getElem_drop]
   exact hg i (y+j) O0 O0 O0
theorem fQ {n:Nat} {a:List Bs} (hn:3000≤n) (ha:a.length≤1000):∀(k i:Nat) (o:List Bs) (m:List (Bs×Bool)),i≤a.length→a.length-i<k→o.length≤i→ze6 m o →
  ∃r,uF n a k o (i:Int)=some r∧ze6 ((a.drop i).foldl (fun m s=>J6 s true m) m) r∧r.length≤a.length
 |0,i,_,_,_,h,_,_=>O0
 | k + 1,i,o,m,hi,hk,ho,hr=>by
  rw [uF]
  by_cases hc:i<a.length
  ·obtain ⟨y,ey,y1,y2,y3⟩:=sK (n:=n) (o:=o) hc O0 ha n o.length O0 (Nat.le_refl _) (fun i h hj=>by omega)
   obtain⟨s1,s2⟩:=sk hr.srt y1 y2 y3
   obtain⟨p1,p2⟩:=GF a[i] m
   rw [L6 O4,ey,L0,w1 O0,Lc hc,List.foldl_cons]
   have e:(if(decide ((y:Int)<(List.length o:Int)))=true then((zM o (y:Int)).bind fun x786=>(zM a (i:Int)).bind fun x787=>some (x786==x787))else(some false))=some (decide (a[i]∈o)):=by
    by_cases hy:y<o.length
    ·rw [L6 O4,zQ hy,L0,zQ hc,L0]
     congr 1
     rw [Bool.eq_iff_iff,beq_iff_eq,L3,←s1]
     exact⟨fun h=>⟨hy,h⟩,fun⟨_,h⟩=>h⟩
    ·rw [L4 O4,decide_eq_false (fun h=>by obtain⟨h,_⟩:=s1.2 h; exact hy h)]
   rw [e,L0]
   by_cases hm:a[i]∈o
   ·rw [decide_eq_true hm,L6 rfl,L0]
    refine fQ hn ha k (i+1) o _ O0 O0 O0 ⟨by rw [p2,L6 ((hr.mem _).2 hm)]; exact hr.len,fun x=> ?_,hr.srt⟩
    rw [p1,hr.mem]
    exact⟨fun h=>h.elim (fun h=>h▸hm) id, .inr⟩
   ·rw [decide_eq_false hm,L4 O1]
    have hlsl1:lsl o 0 (y:Int)=some (o.take y):=(L6 ⟨O0,O0,O0⟩).trans (by rw [Int.toNat_natCast]; rfl)
    have hlsl2:lsl o (y:Int) (List.length o:Int)=some (o.drop y):=(L6 ⟨O0,O0,O0⟩).trans (by rw [Int.toNat_natCast,Int.toNat_natCast,List.take_of_length_le O0])
    have lt:(o.take y).length+(o.drop y).length=o.length:=by rw [List.length_take,List.length_drop]; omega
    have ein:(if(List.isEmpty (o.take y))=true then((gP 16 ([]:List (List UInt8)) ([a[i]]:List (List UInt8))).bind fun x793=>(jR 16 x793 (o.drop y)).bind fun x794=>some x794)else((gP 16 ([]:List (List UInt8)) (o.take y)).bind fun x795=>
      (jR 16 x795 ([a[i]]:List (List UInt8))).bind fun x796=>(jR 16 x796 (o.drop y)).bind fun x797=>some x797))=some (o.take y++a[i]::o.drop y):=by
     by_cases he:o.take y= []
     ·rw [he,L6 (show(List.isEmpty ([]:List Bs))=true from rfl),GE O2,L0,yx O3]; rfl
     ·rw [L4 (Oa he),show gP 16 ([]:List (List UInt8)) (o.take y)=some ([]++o.take y)from L6 ⟨by simpa using he,O3⟩,L0,yx O3,L0,yx O3]
      simp
    rw [hlsl1,L0,zQ hc,L0,hlsl2,L0,ein,L0,L0]
    refine fQ hn ha k (i+1) _ _ O0 O0 O3 ⟨?_,fun x=> ?_,s2 (fun h=>hm (s1.1 h))⟩
    ·rw [p2,L4 (fun h=>hm ((hr.mem _).1 h)),hr.len]; simp; omega
    ·rw [p1,hr.mem,Lo,Lp]
     have:x∈o↔x∈o.take y∨x∈o.drop y:=by rw [←Lo,List.take_append_drop]
     rw [this]
     constructor
     ·rintro(h|h|h)
      ·exact .inr (.inl h)
      ·exact .inl h
      ·exact .inr (.inr h)
     ·rintro(h|h|h)
      ·exact .inr (.inl h)
      ·exact .inl h
      ·exact .inr (.inr h)
  ·rw [L4 O4,Ld O0]
   exact⟨o,rfl,hr,O0⟩
def Y6 {α:Type} (f:α→Int):List α→Int
 | []=>0
 |x::l=>if f x≠0 then f x else Y6 f l
def lM (e:Int):Ctl Int Unit:=if e=0 then .nxt ()else .ret e
theorem dl {α:Type} {f:α→Int} {x:α} {l:List α} (h:f x≠0):lM (Y6 f (x::l))= .ret (f x):=by unfold lM Y6; rw [L6 h,L4 h]
theorem WS {α:Type} {f:α→Int} {x:α} {l:List α} (h:f x=0):Y6 f (x::l)=Y6 f l:=by rw [Y6,L4 (by rw [h]; simp)]
def isV (s:Bs):Bool:=(xG s).isSome
theorem zcb {n B:Nat} (hB:B≤100000) (hn:B+1000≤n) (q:Qry) (hb:∀s∈q.zi,s.length≤B) (hl:q.zi.length≤1000):∀(k i:Nat) (m:List (Bs×Bool)),i≤q.zi.length→q.zi.length-i<k →
  yT n q k (i:Int) m=some (if(q.zi.drop i).all isV=true then .nxt ((q.zi.drop i).foldl (fun m s=>J6 s true m) m)else .ret 11)
 |0,i,m,_,h=>O0
 | k+1,i,m,hi,hk=>by
  rw [yT]
  by_cases hc:i<q.zi.length
  ·have hx:=hb _ (Ll hc)
   rw [L6 O4,zQ hc,L0,Vl O0 O0,L0,w1 O0,zcb hB hn q hb hl k (i+1) _ O0 O0,Lc hc,List.all_cons,List.foldl_cons]
   cases h:(xG q.zi[i]).isSome<;>simp [isV,h]
  ·rw [L4 O4,Ld O0]; rfl
theorem zb1 {n B:Nat} (hB:B≤100000) (hn:B+1000≤n) (q:Qry) (hb:∀s∈q.zi,s.length≤B) (hl:q.zi.length≤1000):∀(k i:Nat),i≤q.zi.length→q.zi.length-i<k →
  vT n q k (i:Int)=some (if(q.zi.drop i).all isV=true then .nxt ()else .ret 11)
 |0,i,_,h=>O0
 | k+1,i,hi,hk=>by
  rw [vT]
  by_cases hc:i<q.zi.length
  ·have hx:=hb _ (Ll hc)
   rw [L6 O4,zQ hc,L0,Z0 O0 O0,L0,w1 O0,zb1 hB hn q hb hl k (i+1) O0 O0,Lc hc,List.all_cons]
   cases h:(xG q.zi[i]).isSome<;>simp [isV,h]
  ·rw [L4 O4,Ld O0]; rfl
theorem zbT {n B:Nat} (hB:B≤100000) (hn:2000000≤n) (q:Qry) (hb:∀g∈q.zy,BdG B g) (hl:q.zy.length≤1000):∀(k i:Nat),i≤q.zy.length→q.zy.length-i<k→xz n q k (i:Int)=some (lM (Y6 jK (q.zy.drop i)))
 |0,i,_,h=>O0
 | k+1,i,hi,hk=>by
  rw [xz]
  by_cases hc:i<q.zy.length
  ·rw [L6 O4,zQ hc,L0,show wT n ⟨q.zy[i].zG,q.zy[i].yl,⟨q.zy[i].zt.zh⟩⟩ false=some (jK q.zy[i])from PD hn (hb _ (Ll hc)) O0 O0,L0,Lc hc]
   by_cases h:jK q.zy[i]=0
   ·rw [L4 (by rw [h]; decide),w1 O0,zbT hB hn q hb hl k (i+1) O0 O0,WS h]
   ·rw [L6 (Oa h),dl h]
  ·rw [L4 O4,Ld O0]; rfl
theorem zbP {n B:Nat} (hB:B≤100000) (hn:2000000≤n) (q:Qry) (hb:∀g∈q.zy,BdG B g) (hl:q.zy.length≤1000):∀(k i:Nat),i≤q.zy.length→q.zy.length-i<k→vV n q k (i:Int)=some (lM (Y6 jK (q.zy.drop i)))
 |0,i,_,h=>O0
 | k+1,i,hi,hk=>by
  rw [vV]
  by_cases hc:i<q.zy.length
  ·rw [L6 O4,zQ hc,L0,show yZ n ⟨q.zy[i].zG,q.zy[i].yl,⟨q.zy[i].zt.zh⟩⟩ false=some (jK q.zy[i])from BC hn (hb _ (Ll hc)) O0 O0,L0,Lc hc]
   by_cases h:jK q.zy[i]=0
   ·rw [L4 (by rw [h]; decide),w1 O0,zbP hB hn q hb hl k (i+1) O0 O0,WS h]
   ·rw [L6 (Oa h),dl h]
  ·rw [L4 O4,Ld O0]; rfl
theorem ze3 (l:List (List Att)):((List.length l:Int)==0)=decide (l= []):=by cases l with
 |nil=>rfl
 |cons x l=>rw [decide_eq_false O2]; rw [beq_eq_false_iff_ne]; simp; omega
theorem zbQ {n B:Nat} (hB:B≤100000) (hn:B+1000≤n) (q:Qry) (hb:∀a∈q.zg,BdN B a.zt.zh) (hl:q.zg.length≤1000):∀(k i:Nat),i≤q.zg.length→q.zg.length-i<k→xB n q k (i:Int)=some (lM (Y6 J0 (q.zg.drop i)))
 |0,i,_,h=>O0
 | k + 1,i,hi,hk=>by
  rw [xB]
  by_cases hc:i<q.zg.length
  ·rw [L6 O4,zQ hc,L0,K8 (hb _ (Ll hc)) O0 O0,L0,Lc hc,ze3,show km n ⟨q.zg[i].zP.zA,q.zg[i].zP.wj,q.zg[i].zP.zY⟩=some (if okK q.zg[i].zP=true then 0 else 18)from rh]
   obtain⟨e,he⟩:∃e,J0 q.zg[i]=e:=⟨_,rfl⟩
   have hdef:=he
   rw [J0]at hdef
   by_cases h1:jj q.zg[i].zt.zh=0
   ·rw [L4 (by rw [h1]; simp)]at hdef
    rw [L4 (by rw [h1]; decide)]
    by_cases h2:q.zg[i].zt.zh= []
    ·rw [L6 h2]at hdef
     rw [L6 (by rw [L3]; exact h2),dl (by rw [he,←hdef]; decide),he,←hdef]
    ·rw [L4 h2]at hdef
     rw [L4 (by rw [L3]; exact h2),L0]
     by_cases h3:okK q.zg[i].zP=true
     ·rw [L6 h3]at hdef
      rw [L6 h3,L4 O1,w1 O0,zbQ hB hn q hb hl k (i+1) O0 O0,WS (he.trans hdef.symm)]
     ·rw [L4 h3]at hdef
      rw [L4 h3,L6 O1,dl (by rw [he,←hdef]; decide),he,←hdef]
   ·rw [L6 h1]at hdef
    rw [L6 (Oa h1),dl (by rw [he,←hdef]; exact h1),he,←hdef]
  ·rw [L4 O4,Ld O0]; rfl
theorem eI {n B:Nat} {a:Anc} (hb:BdN B a.zt.zh) (hB:B≤1000000) (hn:B+100≤n):(jj a.zt.zh≠0→yM n a=some (jj a.zt.zh)) ∧
  (jj a.zt.zh=0→a.zt.zh= []→yM n a=some 14)∧(jj a.zt.zh=0→a.zt.zh≠ []→yM n a=some 0):=by
 unfold yM
 rw [show y8 n ⟨a.zt.zh⟩=some (jj a.zt.zh)from nX hb hB hn,L0,ze3]
 refine⟨fun h=> ?_,fun h1 h2=> ?_,fun h1 h2=> ?_⟩
 ·rw [L6 (Oa h)]
 ·rw [L4 (by rw [h1]; decide),L6 (by rw [L3]; exact h2)]
 ·rw [L4 (by rw [h1]; decide),L4 (by rw [L3]; exact h2)]
theorem zbZ {n B:Nat} (hB:B≤100000) (hn:B+1000≤n) (q:Qry) (hb:∀a∈q.zg,BdN B a.zt.zh) (hl:q.zg.length≤1000):∀(k i:Nat),i≤q.zg.length→q.zg.length-i<k→vL n q k (i:Int)=some (lM (Y6 J0 (q.zg.drop i)))
 |0,i,_,h=>O0
 | k + 1,i,hi,hk=>by
  rw [vL]
  by_cases hc:i<q.zg.length
  ·obtain ⟨c1,c2,c3⟩:=eI (n:=n) (hb _ (Ll hc)) O0 O0
   rw [L6 O4,zQ hc,L0,Lc hc]
   show((yM n q.zg[i]).bind fun r128=>_)=_
   obtain⟨e,he⟩:∃e,J0 q.zg[i]=e:=⟨_,rfl⟩
   have hdef:=he
   rw [J0]at hdef
   by_cases h1:jj q.zg[i].zt.zh=0
   ·rw [L4 (by rw [h1]; simp)]at hdef
    by_cases h2:q.zg[i].zt.zh= []
    ·rw [L6 h2]at hdef
     rw [c2 h1 h2,L0,L6 O1,dl (by rw [he,←hdef]; decide),he,←hdef]
    ·rw [L4 h2]at hdef
     rw [c3 h1 h2,L0,L4 O1,L0,show wB n ⟨q.zg[i].zP.zA,q.zg[i].zP.wj,q.zg[i].zP.zY⟩=some (if okK q.zg[i].zP=true then 0 else 18)from zbw,L0]
     by_cases h3:okK q.zg[i].zP=true
     ·rw [L6 h3]at hdef
      rw [L6 h3,L4 O1,w1 O0,zbZ hB hn q hb hl k (i+1) O0 O0,WS (he.trans hdef.symm)]
     ·rw [L4 h3]at hdef
      rw [L4 h3,L6 O1,dl (by rw [he,←hdef]; decide),he,←hdef]
   ·rw [L6 h1]at hdef
    rw [c1 h1,L0,L6 (Oa h1),dl (by rw [he,←hdef]; exact h1),he,←hdef]
  ·rw [L4 O4,Ld O0]; rfl
theorem tX (l:List Bs):∀m:List (Bs×Bool),(l.foldl (fun m s=>J6 s true m) m).length≤m.length+l.length:=by
 induction l with
 |nil=>intro m; simp
 | cons x l ih=>
  intro m
  rw [List.foldl_cons]
  have h1:=ih (J6 x true m)
  have h2:=(GF x m).2
  have h3:(J6 x true m).length≤m.length+1:=by rw [h2]; split<;>omega
  rw [La]; omega
theorem zeE {n B:Nat} {g:Gen} (hn:2000000≤n) (hb:BdG B g) (hB:B≤60000) (h:okG n g):jK g=0:=by
 unfold okG at h
 rw [PD hn hb O0 O0]at h
 injection h
theorem zdD {n B:Nat} {g:Gen} (h:okG n g) (hb:BdG B g) (hB:B≤60000) (hn:2000000≤n):vq n g false=some ((tWrap (v8 g).1 (v8 g).2).1,0):=by
 obtain⟨hp,hl,_⟩:=WO h hb hB O0
 unfold vq
 rw [show yZ n ⟨g.zG,g.yl,⟨g.zt.zh⟩⟩ false=some (jK g)from BC hn hb O0 O0,zeE hn hb hB h,L0,L4 O1]
 rcases XE h hb.2 O0 O0 with⟨h1,h2,h3⟩|⟨h1,h2⟩
 ·have e:v8 g=(164,(tWrap (xd g.zt.zh).1 (xd g.zt.zh).2).1):=by unfold v8; rw [L6 h1]
  rw [e]at hl ⊢
  have e0:Uo g.zt.zh=((tWrap 48 (xd g.zt.zh).2).1,0):=by unfold Uo; rw [L4 (by rw [gU.2 h3]; simp)]
  have ek:wrap .i64 ((160:Int)+4)=((164:Nat):Int):=O1
  have l3:(tWrap 48 (xd g.zt.zh).2).1.length≤B+4333:=hl
  rw [L6 (by rw [h1]; decide),show xU n ⟨g.zt.zh⟩=_ from K1 hb.2 O0 O0,L0,e0,h1,ek]
  dsimp only
  rw [Vz O0 O0 O0 O0,L0]
  rfl
 ·have hk:¬g.zG=4:=O0
  have e:v8 g=((128+g.zG).toNat,g.yl):=by unfold v8; rw [L4 hk]
  have hbt:=hb.1
  have ek:wrap .i64 ((128:Int)+g.zG)=(((128+g.zG).toNat:Nat):Int):=by rw [z6 O0]; omega
  rw [e,L4 (Oa hk),ek,Vz O0 (by rcases h1 with h1|h1|h1<;>rw [h1]<;>decide) O0 O0,L0]
theorem Du {n B:Nat} (hB:B≤60000) (hn:2000000≤n) (l:List Gen) (ho:∀g∈l,okG n g) (hb:∀g∈l,BdG B g) (hl:l.length≤16):∀(k i:Nat) (acc:Bs),i≤l.length→l.length-i<k→acc.length≤100000*i→wc n l k acc (i:Int)=some (.nxt (acc++wraps ((l.drop i).map v8)))
 |0,i,acc,_,h,_=>O0
 | k+1,i,acc,hi,hk,ha=>by
  rw [wc]
  by_cases hc:i<l.length
  ·have hx:=Ll hc
   obtain⟨_,hgl,_⟩:=WO (ho _ hx) (hb _ hx) hB O0
   have hw:=yc (v8 l[i]).1 (v8 l[i]).2
   have he:vq n ⟨l[i].zG,l[i].yl,⟨l[i].zt.zh⟩⟩ false=some ((tWrap (v8 l[i]).1 (v8 l[i]).2).1,0):=zdD (ho _ hx) (hb _ hx) hB hn
   rw [L6 O4,zQ hc,L0,he,L0,L4 O2,yd O7,L0,w1 O0]
   dsimp only
   rw [Du hB hn l ho hb hl k (i+1) _ O0 O0 (by rw [L8]; omega),Lc hc,Le,gz,Lq]
  ·rw [L4 O4,Ld O0]
   simp [wraps]
theorem zcS {n B:Nat} (hB:B≤60000) (hn:2000000≤n) {l:List Gen} (ho:∀g∈l,okG n g) (hb:∀g∈l,BdG B g) (h0:l≠ []) (hl:l.length≤16):uB n l=some (wraps (l.map v8),0):=by
 have hp:0<l.length:=List.length_pos_iff.2 h0
 unfold uB
 have e:=Du (n:=n) hB hn l ho hb hl n 0 [] O0 O0 O2
 rw [show((0:Nat):Int)=0 from rfl,Li,Lj]at e
 rw [L4 O9,L4 O4,e]
 rfl
theorem ze5 {n B:Nat} {a:Anc} (h:Uv a) (hb:BdN B a.zt.zh) (hB:B≤1000000) (hn:B+100≤n):vJ n a=some ((tWrap (ancE a).1 (ancE a).2).1,0):=by
 unfold vJ
 have k1:=dW h.1
 have k3:=(Xu h).2
 have e0:Uo a.zt.zh=((tWrap 48 (xd a.zt.zh).2).1,0):=by unfold Uo; rw [L4 (by rw [gU.2 h.1]; simp)]
 have hf:([(tWrap 48 (xd a.zt.zh).2).1,(tWrap (gT a.zP).1 (gT a.zP).2).1]:List Bs).flatten=wraps (UB a):=by
  simp only [UB,wraps,Le,List.map_nil]
  rfl
 rw [show yM n ⟨⟨a.zt.zh⟩,⟨a.zP.zA,a.zP.wj,a.zP.zY⟩⟩=some 0 from(eI hb hB hn).2.2 (gU.2 h.1) h.2.1,L0,L4 O1,
  show xU n ⟨a.zt.zh⟩=_ from K1 hb hB hn,L0,show uP n ⟨a.zP.zA,a.zP.wj,a.zP.zY⟩=_ from zbj (k:=a.zP) O0,L6 h.2.2,L0,L4 O2,e0]
 dsimp only
 rw [show(48:Int)=((48:Nat):Int)from rfl,mf O0 O0 (by rw [hf]; omega) O3 O2,hf,L0]
 rfl
theorem D0 {n B:Nat} (q:Qry) (ho:∀a∈q.zg,Uv a) (hb:∀a∈q.zg,BdN B a.zt.zh) (hB:B≤1000000) (hn:B+100≤n) (hl:q.zg.length≤64):∀(k i:Nat) (b:Bs),i≤q.zg.length→q.zg.length-i<k→b.length≤4403*i →
  xM n q k b (i:Int)=some (b++wraps ((q.zg.drop i).map ancE))
 |0,i,_,_,h,_=>O0
 | k+1,i,b,hi,hk,hbl=>by
  rw [xM]
  by_cases hc:i<q.zg.length
  ·have hx:=Ll hc
   have k3:=(Xu (ho _ hx)).2
   have t1:=yc (ancE q.zg[i]).1 (ancE q.zg[i]).2
   have e2:(ancE q.zg[i]).2=wraps (UB q.zg[i]):=rfl
   rw [←e2]at k3
   rw [L6 O4,zQ hc,L0,show vJ n ⟨⟨q.zg[i].zt.zh⟩,⟨q.zg[i].zP.zA,q.zg[i].zP.wj,q.zg[i].zP.zY⟩⟩=some ((tWrap (ancE q.zg[i]).1 (ancE q.zg[i]).2).1,0)from ze5 (a:=q.zg[i]) (ho _ hx) (hb _ hx) hB hn,L0]
   dsimp only
   rw [yd O0,L0,w1 O0,D0 q ho hb hB hn hl k (i+1) _ O0 O0 (by rw [L8]; omega),Lc hc,Le,gz,Lq]
  ·rw [L4 O4,Ld O0]
   simp [wraps]
theorem ne {n t:Nat} {b:Bool} (h1:t≤255) (h2:t%32≠31) (hn:20≤n):uv n (t:Int) b=some (wraps (optE b (t,[255]))):=by
 unfold uv kI
 cases b with
 |true=>rw [L4 O1,L6 rfl,L0,Vz h1 h2 O2 hn,L0,dD]
 |false=>rw [L6 (show(!false)=true from rfl),VY]
theorem tq {s:Bs} (h:Vc s=true):s.length≤128:=by
 unfold Vc at h
 rw [Lf,L3]at h
 exact h.1
theorem tj {s:Bs} (h:Dd s=true):s.length≤128:=by
 unfold Dd at h
 split at h
 ·rw [Lf,L3]at h; exact h.1
 ·exact tq h
theorem rk {s:Bs} (h:Qw s=true):s.length≤128:=by
 unfold Qw at h
 rw [Lf,Lf,L3]at h
 exact h.1.1
theorem nU {g:Gen} (h:jK g=0):g.yl.length≤128:=by
 unfold jK at h
 split at h
 ·split at h
  ·rename_i h1; rw [h1]; decide
  ·exact absurd h O1
 ·split at h
  ·split at h
   ·rename_i h1
    have h2:=h1.2
    unfold tB at h2
    split at h2
    ·exact rk h2
    ·split at h2
     ·exact tj h2
     ·rw [Bool.or_eq_true,L3,L3]at h2; omega
   ·exact absurd h O1
  ·exact absurd h O1
theorem cT {n:Nat} {q:Qry} (h:vC n q=some 0):0≤q.uu∧q.uu≤254033452799:=by
 unfold vC at h
 rw [ifb,L0]at h
 by_cases c:(decide (q.uu<0)||decide (q.uu>254033452799))=true
 ·rw [L6 c]at h; injection h with h; exact absurd h O1
 ·rw [Bool.not_eq_true,Bool.or_eq_false_iff,decide_eq_false_iff_not,decide_eq_false_iff_not]at c
  omega
def ndg (b:UInt8):Bool:=decide (b.toNat<48)||decide (57<b.toNat)
def Pa:Bs→Int→Ctl Int Int
 | [],v=> .nxt v
 |b::s,v=>if ndg b=true then .ret (-1)else Pa s (10*v+((b.toNat:Int)-48))
def qD (s:Bs):Int:=match Pa s 0 with| .ret x=>x| .nxt x=>x
theorem zcN {a:Bs} {i:Nat} (hc:i<a.length):zM (s2b a) (i:Int)=some (a[i].toNat:Int):=by
 rw [zM,L6 O0]
 simp only [Int.toNat_natCast,s2b,List.getElem?_map]
 rw [List.getElem?_eq_getElem hc]; rfl
theorem zbJ {b:UInt8} (h:ndg b=false):wrap .i64 (wrap .u8 ((b.toNat:Int)-48))=(b.toNat:Int)-48:=by
 unfold ndg at h
 rw [Bool.or_eq_false_iff,decide_eq_false_iff_not,decide_eq_false_iff_not]at h
 rw [wr8 O0 O0,z6 O0]
theorem tG {n:Nat} (s:Bs) (hs:s.length≤15):∀(k i:Nat) (v:Int),i≤s.length→s.length-i<k→0≤v→v<10^i→kg n s k v (i:Int)=some (Pa (s.drop i) v)∧vA n s k v (i:Int)=some (Pa (s.drop i) v)
 |0,_,_,_,h,_,_=>O0
 | k + 1,i,v,hi,hk,h0,h1=>by
  rw [kg,vA]
  have hb:(s2b s).length=s.length:=by simp [s2b]
  by_cases hc:i<s.length
  ·have hp:(10:Int)^i≤10^14:=by
    have:(10:Nat)^i≤10^14:=Nat.pow_le_pow_right O0 O0
    exact_mod_cast this
   have hlt:=W6 s[i]
   rw [L6 (by rw [L3,hb]; omega),L6 O4,zcN hc,vj hc,Lc hc,Pa]
   simp only [L0]
   cases hd:ndg s[i]with
   | true=>
    unfold ndg at hd
    rw [Bool.or_eq_true,L3,L3]at hd
    by_cases c:(s[i]).toNat<48
    ·rw [L6 O4]; exact⟨rfl,rfl⟩
    ·rw [L4 O4]
     have e:decide (((s[i]).toNat:Int)>57)=true:=O4
     rw [e]; exact⟨rfl,rfl⟩
   | false=>
    have hd2:=hd
    unfold ndg at hd2
    rw [Bool.or_eq_false_iff,decide_eq_false_iff_not,decide_eq_false_iff_not]at hd2
    have e:decide (((s[i]).toNat:Int)>57)=false:=by rw [decide_eq_false_iff_not]; omega
    have hstep:(10:Int)^(i+1)=10^i*10:=by rw [Int.pow_succ]
    rw [L4 O4,e,L0,L0,L4 O1,L4 O1,L4 O1,zbJ hd,z6 (x:=10*v) O0,z6 (x:=10*v+_) O0,w1 O0]
    exact tG s hs k (i+1) _ O0 O0 O0 O0
  ·rw [L4 (by rw [L3,hb]; omega),L4 O4,Ld O0]
   exact⟨rfl,rfl⟩
theorem qS {n:Nat} {s:Bs} (hs:s.length≤15) (hn:20≤n):yI n s=some (qD s)∧zH n s=some (qD s):=by
 obtain⟨h1,h2⟩:=tG (n:=n) s hs n 0 0 O0 O0 O0 O1
 rw [show((0:Nat):Int)=0 from rfl,Li]at h1 h2
 unfold yI zH qD
 rw [h1,h2]
 cases Pa s 0<;>exact⟨rfl,rfl⟩
theorem BX:∀(s:Bs) (v:Int),0≤v→(s.any ndg=true→Pa s v= .ret (-1))∧(s.any ndg=false→∃x,Pa s v= .nxt x∧0≤x∧x<(v+1)*10^s.length)
 | [],v,h=>⟨fun h=>(by cases h),fun _=>⟨v,rfl,h,O3⟩⟩
 | b::s,v,h=>by
  rw [List.any_cons,Pa]
  cases hd:ndg b with
  |true=>exact⟨fun _=>by rw [L6 rfl],fun h=>by cases h⟩
  | false=>
   have hd2:=hd
   unfold ndg at hd2
   rw [Bool.or_eq_false_iff,decide_eq_false_iff_not,decide_eq_false_iff_not]at hd2
   rw [L4 O1,Bool.false_or]
   obtain⟨h1,h2⟩:=BX s (10*v+((b.toNat:Int)-48)) O0
   refine⟨h1,fun h3=> ?_⟩
   obtain⟨x,e,x0,x1⟩:=h2 h3
   refine⟨x,e,x0, ?_⟩
   rw [La,Int.pow_succ]
   have hp:(0:Int)<10^s.length:=Int.pow_pos O0
   have:(10*v+((b.toNat:Int)-48)+1)*10^s.length≤(10*v+10)*10^s.length:=Int.mul_le_mul_of_nonneg_right O0 O0
   have e2:(v+1)*(10^s.length*10)=(10*v+10)*10^s.length:=by rw [show 10*v+10=(v+1)*10 by omega,Int.mul_assoc,Int.mul_comm 10]
   omega
theorem kq {s:Bs} (h:s.any ndg=true):qD s= -1:=by unfold qD; rw [(BX s 0 O0).1 h]
theorem BL {s:Bs} (h:s.any ndg=false):0≤qD s∧qD s<10^s.length:=by
 obtain⟨x,e,x0,x1⟩:=(BX s 0 O0).2 h
 unfold qD; rw [e]
 exact⟨x0,by simpa using x1⟩
end Go.Abs
end
