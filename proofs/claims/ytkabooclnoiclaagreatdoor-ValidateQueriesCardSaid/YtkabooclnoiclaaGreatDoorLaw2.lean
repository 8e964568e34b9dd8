/- The typed form of ValidateQueries gives true. No condition. -/
import Derived.Test.YtkabooclnoiclaaGreatDoorLaw1
set_option linter.all false
section
set_option maxRecDepth 100000
namespace Go.Abs
open Go Go.Proofs IntKind
def ltB (a:Int):Bool:=(decide (a≥97)&&decide (a<=122))||(decide (a≥65)&&decide (a<=90))
def dgB (a:Int):Bool:=decide (a≥48)&&decide (a<=57)
def alB (a:Int):Bool:=ltB a||dgB a
def JS {n:Nat} {a:Int}:ui n a=some (ltB a):=by
 unfold ui ltB;cases decide (a≥97)<;>cases decide (a<=122)<;>cases decide (a≥65)<;>cases decide (a<=90)<;>rfl
def Bo {n:Nat} {a:Int}:u1 n a=some (dgB a):=by
 unfold u1 dgB;cases decide (a≥48)<;>cases decide (a<=57)<;>rfl
def BP {n:Nat} {a:Int}:ye n a=some (alB a):=by
 unfold ye alB ltB dgB;cases decide (a≥97)<;>cases decide (a<=122)<;>cases decide (a≥65)<;>cases decide (a<=90)<;>cases decide (a≥48)<;>cases decide (a<=57)<;>rfl
def okc (b:UInt8):Bool:=alB (b.toNat:Int)||(b.toNat:Int)==45
def zci (x y w:Bool) (v:Int):((if(!x)=true then(some y).bind fun r=>if(!r)=true then some (v !=45)else some false else some false).bind fun y=>if y=true then some (Ctl.ret false)else some (if w=true then Ctl.nxt ()else Ctl.ret false))=some (if((x||y||v==45)&&w)=true then Ctl.nxt ()else(Ctl.ret false:Ctl Bool Unit)):=by
 cases h:(v==45)<;>cases x<;>cases y<;>cases w<;>simp [bne,h]
def oW {n:Nat} (a:Bs) (c:a.length<=1000000):∀(k i:Nat),i<=a.length->a.length-i<k->vH n a k (i:Int)=some (if(a.drop i).all okc=true then .nxt ()else .ret false)
 |0,i,_,h=>O0
 | k + 1,i,f,g=>by
  have j:(s2b a).length=a.length:=by simp [s2b]
  rw [vH]
  by_cases b:i<a.length
  ·have e:yj (s2b a) (i:Int)=some (a[i].toNat:Int):=by
    rw [xa O0]; simp [s2b]
   rw [iI O4,e,iG,JS,iG,Bo,w1 O0,oW a c k (i+1) O0 O0,iM b,List.all_cons];exact zci _ _ _ _
  ·rw [iH O4,List.drop_eq_nil_of_le O0]; rfl
def cB {n:Nat} (a:Bs) (c:a.length<=1000000):∀(k i:Nat),i<=a.length->a.length-i<k->xT n a k (i:Int)=some (if(a.drop i).all okc=true then .nxt ()else .ret false)
 |0,i,_,h=>O0
 | k + 1,i,f,g=>by
  rw [xT]
  by_cases b:i<a.length
  ·have e:xE a (i:Int)=some (a[i].toNat:Int):=by
    unfold xE; rw [iI O0,Int.toNat_natCast,iK b]; rfl
   rw [iI O4,e,iG,BP,iG,iG,w1 O0,cB a c k (i+1) O0 O0,iM b,List.all_cons];have:=zci (alB (a[i].toNat:Int)) false ((a.drop (i+1)).all okc) (a[i].toNat:Int);rw [Bool.or_false]at this;exact this
  ·rw [iH O4,List.drop_eq_nil_of_le O0]; rfl
def Jz (a:Bs) (m c:Int):Option Bool:=if(decide ((List.length a:Int)<1))=true then(some true)else(if(decide ((List.length a:Int)>m))=true then(some true)else((xE a 0).bind fun b=>
 if(b==c)=true then(some true)else((xE a (wrap .i64 ((List.length a:Int)-1))).bind fun e=>some (e==c))))
def rZ (a:Bs) (m c:Int) (h:a.length<=1000000):∃b,Jz a m c=some b:=by
 unfold Jz;refine VS (fun _=>⟨_,rfl⟩) fun e=>VS (fun _=>⟨_,rfl⟩) fun _=> ?_;rw [iJ]at e;refine PQ (eB O0 O0) fun _ _=>VS (fun _=>⟨_,rfl⟩) fun _=> ?_;rw [jn O0];exact PQ (eB O0 O0) fun _ _=>⟨_,rfl⟩
def gz (a:Bs) (m c:Int):Bool:=(Jz a m c).getD true
def W9 {a:Bs} {m c:Int} (h:a.length<=1000000):Jz a m c=some (gz a m c):=by
 obtain⟨b,e⟩:=rZ a m c h;unfold gz; rw [e]; rfl
def U0 (a:Bs):Bool:= !gz a 63 45&&a.all okc
def mG {n:Nat} {a:Bs} (h:a.length<=1000000) (b:a.length<n):jy n a=some (U0 a):=by
 unfold jy U0;have e:=oW (n:=n) a h n 0 O0 O0;rw [show((0:Nat):Int)=0 from rfl,List.drop_zero]at e;rw [show(if(decide ((List.length a:Int)<1))=true then _ else _)=some (gz a 63 45)from W9 h,iG,e];cases gz a 63 45<;>cases a.all okc<;>rfl
def bL {c:UInt8}:∀ {s l:Bs},l∈zV c s->l.length<=s.length
 | [],l,h=>by simp [zV]at h; subst h; simp
 | x ::r,l,h=>by
  simp only [zV]at h;split at h
  ·rcases List.mem_cons.1 h with rfl|h
   ·simp
   ·have:=bL h; simp; omega
  ·split at h
   ·rename_i p ps a;rcases List.mem_cons.1 h with rfl|h
    ·have:=bL (s:=r) (l:=p) (by rw [a]; simp); simp; omega
    ·have:=bL (s:=r) (l:=l) (by rw [a]; simp [h]); simp; omega
   ·rename_i a; exact absurd a (Jd c r)
def dT (s:Bs):Bool:=decide (s.length<=128)&&(zV 46 s).all U0
def rx {n:Nat} (l:List Bs) (e:1000001<=n) (c:l.length<=1000000) (b:∀x∈l,x.length<=1000000):∀(k i:Nat),i<=l.length->l.length-i<k->uh n l k (i:Int)=some (if(l.drop i).all U0=true then .nxt ()else .ret false)
 |0,i,_,h=>O0
 | k+1,i,g,j=>by
  rw [uh]
  by_cases a:i<l.length
  ·have f:=b _ (List.getElem_mem a);rw [iI O4,xa a,iG,mG f O0,iG,w1 O0,rx l e c b k (i+1) O0 O0,iM a,List.all_cons];cases U0 l[i]<;>simp
  ·rw [iH O4,List.drop_eq_nil_of_le O0]; rfl
def Pb {n:Nat} {s:Bs} (f:2000000<=n) (g:s.length<=1000000):ja n s=some (dT s):=by
 unfold ja dT
 by_cases h:s.length<=128
 ·have c:(zV 46 s).length<=129:=by rw [pd]; have:=List.count_le_length (a:=(46:UInt8)) (l:=s); omega
  have e:=rx (n:=n) (zV 46 s) O0 O0 (fun x b=>by have:=bL b; omega) n 0 O0 O0;rw [show((0:Nat):Int)=0 from rfl,List.drop_zero]at e;rw [iH O4,Z2 O0 O0,iG,e,decide_eq_true h];cases(zV 46 s).all U0<;>rfl
 ·rw [iI O4,decide_eq_false h]; rfl
def PO {n:Nat} (l:List Bs) (g:1000001<=n) (f:l.length<=1000000) (b:∀x∈l,x.length<=1000000):∀(k i:Nat),i<=l.length->l.length-i<k->xU n l k (i:Int)=some (if(l.drop i).all U0=true then .nxt ()else .ret false)
 |0,i,_,h=>O0
 | k+1,i,j,m=>by
  rw [xU]
  by_cases a:i<l.length
  ·have c:=b _ (List.getElem_mem a);have e:=cB (n:=n) l[i] c n 0 O0 O0;rw [show((0:Nat):Int)=0 from rfl,List.drop_zero]at e;rw [iI O4,xa a,iG,show(if(decide ((List.length l[i]:Int)<1))=true then _ else _)=some (gz l[i] 63 45)from W9 c,iG,e,w1 O0,PO l g f b k (i+1) O0 O0,iM a,List.all_cons];unfold U0;cases gz l[i] 63 45<;>cases l[i].all okc<;>simp [xb]
  ·rw [iH O4,List.drop_eq_nil_of_le O0]; rfl
def Wg {n:Nat} {c:UInt8} (s:Bs) (l:s.length<=1000000):∀(k i:Nat) (p:Bs) (acc:List Bs),p.length<=i->i<=s.length->s.length-i+1<k->(s.take i).drop (i-p.length)=p->c∉p->acc.length<=i ->
  yK n s (c.toNat:Int) k acc ((i-p.length:Nat):Int) (i:Int)=some (acc++zV c (p++s.drop i))
 |0,i,p,acc,_,_,h,_,_,_=>O0
 | k + 1,i,p,acc,v,r,t,j,a,q=>by
  rw [yK,iI O4];have b:ssl s ((i-p.length:Nat):Int) (i:Int)=some p:=(iI ⟨O0,O0,O0⟩).trans (by rw [Int.toNat_natCast,Int.toNat_natCast,j])
  by_cases g:i<s.length
  ·rw [iH O6]
   have e:xE s (i:Int)=some (s[i].toNat:Int):=by
    unfold xE; rw [iI O0,Int.toNat_natCast,iK g]; rfl
   rw [e,iG,iG,iM g]
   by_cases f:s[i]=c
   ·rw [iI (by rw [beq_iff_eq,f]),b,iG,vG (by rw [List.length_singleton]; omega),iG,iG]; dsimp only;rw [w1 O0,f,(jK a).2];have:=Wg (n:=n) (c:=c) s l k (i+1) [] (acc ++ [p]) O2 O0 O0 O2 O2 O3;rw [show i+1-List.length ([]:Bs)=i+1 by simp]at this;rw [this]; simp
   ·rw [iH (by rw [beq_iff_eq]; intro h; exact f (UInt8.toNat_inj.1 O0)),iG]; dsimp only;rw [w1 O0]
    have:=Wg (n:=n) (c:=c) s l k (i+1) (p ++ [s[i]]) acc O3 O0 O0 (by
     rw [List.take_succ_eq_append_getElem g,show i+1-(p ++ [s[i]]).length=i-p.length by simp,List.drop_append_of_le_length (by rw [List.length_take]; omega),j]) (by simp [a,Ne.symm f]) O0
    rw [show i+1-(p ++ [s[i]]).length=i-p.length by simp]at this;rw [this]; simp
  ·have o:i=s.length:=O0;rw [iI O6,iG,iI rfl,b,iG,vG (by rw [List.length_singleton]; omega),iG,iG]; dsimp only;obtain⟨m,rfl⟩:∃m,k=m+1:=⟨k-1,O0⟩
   rw [yK,w1 O0,iH O4,List.drop_eq_nil_of_le O0,List.append_nil,(jK a).1]
def GC {n:Nat} {c:UInt8} {s:Bs} (a:s.length<=1000000) (b:s.length+2<=n):yU n s (c.toNat:Int)=some (zV c s):=by
 unfold yU;have:=Wg (n:=n) (c:=c) s a n 0 [] [] O2 O0 O0 O2 O2 O2;rw [show((0-List.length ([]:Bs):Nat):Int)=0 by rfl,show((0:Nat):Int)=0 by rfl]at this;rw [this]; simp
def Kf {n:Nat} {s:Bs} (g:2000000<=n) (i:s.length<=1000000):xY n s=some (dT s):=by
 unfold xY dT
 by_cases h:s.length<=128
 ·have f:(zV 46 s).length<=129:=by rw [pd]; have:=List.count_le_length (a:=(46:UInt8)) (l:=s); omega
  have e:=PO (n:=n) (zV 46 s) O0 O0 (fun x b=>by have:=bL b; omega) n 0 O0 O0;rw [show((0:Nat):Int)=0 from rfl,List.drop_zero]at e;rw [iH O4,show yU n s 46=some (zV 46 s)from GC (c:=46) O0 O0,iG,e,decide_eq_true h];cases(zV 46 s).all U0<;>rfl
 ·rw [iI O4,decide_eq_false h]; rfl
def mh:U0 [42]=false:=O5
def s4:dT []=false:=O5
def o6 (r:Bs):dT (42::46::r)=false:=by
 unfold dT;rw [show(42::46::r:Bs)= [42]++46::r by rfl,(jK (c:=46) (p:= [42]) O2).2];simp [mh]
def fH (c:UInt8) (s:Bs):decide (Lib.index s [c]≥0)=decide (c∈s):=by
 rcases dm c s with⟨a,b⟩|⟨p,r,a,b,e⟩
 ·rw [a,decide_eq_false b]; rfl
 ·rw [b,a,decide_eq_true O0,decide_eq_true O2]
def Gb (s:Bs):Bool:=match s with
 |42::46::r=>decide (s.length<=128)&&(dT r&&decide ((46:UInt8)∈r))
 |_=>dT s
def tn (s:Bs):Bs×Bool:=match s with|42::46::r=>(r,true)|_=>(s,false)
def zb5 {n:Nat} {s:Bs} (g:s.length<=1000000):w8 n s [42,46]=some (tn s):=by
 unfold w8 xF yg
 by_cases b:s.length<2
 ·rw [iH (by rw [iJ]; show ¬((s.length:Int)≥((2:Nat):Int)); omega),iG,iG,iI O1,iG];unfold tn;split
  ·rename_i r; have b:r.length+1+1<2:=b; omega
  ·rfl
 ·obtain ⟨x,a,rfl⟩:∃x a,s=x::a:=by cases s with|nil=>simp at b|cons x a=>exact⟨x,a,rfl⟩
  obtain⟨y,r,rfl⟩:∃x f,a=x::f:=by cases a with|nil=>simp at b|cons x f=>exact⟨x,f,rfl⟩
  have g:r.length+1+1<=1000000:=g;rw [iI (by rw [iJ]; show((2:Nat):Int)<=((r.length+1+1:Nat):Int); omega),show ssl (x::y::r) 0 (List.length ([42,46]:Bs):Int)=some [x,y]from iI ⟨O1,O1,by show((2:Nat):Int)<=((r.length+1+1:Nat):Int); omega⟩,iG,iG,iG]
  by_cases h:x=42∧y=46
  ·obtain⟨rfl,rfl⟩:=h;rw [iH O1,show ssl (42::46::r) (List.length ([42,46]:Bs):Int) (List.length (42::46::r):Int)=some r from(iI ⟨O1,by show((2:Nat):Int)<=((r.length+1+1:Nat):Int); omega,O0⟩).trans (by rw [Int.toNat_natCast,List.take_of_length_le O0]; rfl),iG,iG];rfl
  ·rw [iI (by have:=Decidable.not_and_iff_or_not.1 h; simpa using this),iG];unfold tn;split
   ·rename_i e; injection e with i c; injection c with c _; exact absurd ⟨i,c⟩ h
   ·rfl
def zbo {n:Nat} {s:Bs} (b:2000000<=n) (a:s.length<=1000000):uV n s=some (Gb s):=by
 unfold uV;rw [zb5 a,iG];unfold Gb tn;split
 ·rename_i r;have c:r.length+1+1<=1000000:=a;rw [iI rfl]; dsimp only
  by_cases h:(42::46::r:Bs).length<=128
  ·rw [iI O4,Pb b O0,iG,decide_eq_true h]
   have e:xf n r [46]=some (decide ((46:UInt8)∈r)):=by
    unfold xf qO;rw [iI O0,iG,fH]
   rw [e];cases dT r<;>simp
  ·rw [iH O4,decide_eq_false h]; rfl
 ·rw [iH (show ¬(false=true)by decide),Pb b a]; rfl
def s8 {s:Bs} (h:∀r,s≠42::46::r):Gb s=dT s:=by
 unfold Gb; split
 ·rename_i r; exact absurd rfl (h r)
 ·rfl
def sV {n:Nat} {s:Bs} (l:2000000<=n) (m:s.length<=1000000):wu n s=some (Gb s):=by
 unfold wu;rw [Kf l m,iG]
 by_cases k:∃r,s=42::46::r
 ·obtain ⟨r,rfl⟩:=k;show _=some (decide ((42::46::r:Bs).length<=128)&&(dT r&&decide ((46:UInt8)∈r)));have p:r.length+1+1<=1000000:=m;rw [o6,iH O1]
  by_cases h:(42::46::r:Bs).length<=128
  ·rw [iI O4,decide_eq_true h]
   by_cases a:r= []
   ·subst a;rw [iH O1,s4]; rfl
   ·have t:0<r.length:=List.length_pos_iff.2 a
    rw [iI (by rw [iJ]; show((2:Nat):Int)<((r.length+1+1:Nat):Int); omega),show ssl (42::46::r) 0 2=some [42,46]from iI ⟨O1,O1,by show((2:Nat):Int)<=((r.length+1+1:Nat):Int); omega⟩,iG,iI O1,
     show ssl (42::46::r) 2 (List.length (42::46::r):Int)=some r from(iI ⟨O1,by show((2:Nat):Int)<=((r.length+1+1:Nat):Int); omega,O0⟩).trans (by rw [Int.toNat_natCast,List.take_of_length_le O0]; rfl),iG,Kf l O0,iG,
     show yU n (42::46::r) 46=some (zV 46 (42::46::r))from GC (c:=46) O0 O0,iG,pd]
    have e:decide (((List.count 46 (42::46::r:Bs)+1:Nat):Int)>2)=decide ((46:UInt8)∈r):=by
     rw [List.count_cons_of_ne O1,List.count_cons_self]
     by_cases i:(46:UInt8)∈r
     ·have:=List.count_pos_iff.2 i;rw [decide_eq_true i,decide_eq_true O0]
     ·have:=List.count_eq_zero.2 i;rw [decide_eq_false i,decide_eq_false O0]
    rw [e];cases dT r<;>simp
  ·rw [iH O4,decide_eq_false h]; rfl
 ·have f:∀r,s≠42::46::r:=fun r h=>k ⟨r,h⟩;rw [s8 f]
  cases hd:dT s with
  |true=>rfl
  | false=>
   rw [iH O1];refine Eq.trans (congrArg (fun o=>Option.bind o fun q=>some q) (?_:_=some false)) rfl
   by_cases h:s.length<=128
   ·rw [iI O4]
    by_cases a:s.length>2
    ·obtain⟨x,b,rfl⟩:∃x b,s=x::b:=by cases s with|nil=>simp at a|cons x b=>exact⟨x,b,rfl⟩
     obtain⟨y,r,rfl⟩:∃x j,b=x::j:=by cases b with|nil=>simp at a|cons x j=>exact⟨x,j,rfl⟩
     have p:2<r.length+1+1:=a;rw [iI (by rw [iJ]; show((2:Nat):Int)<((r.length+1+1:Nat):Int); omega),show ssl (x::y::r) 0 2=some [x,y]from iI ⟨O1,O1,by show((2:Nat):Int)<=((r.length+1+1:Nat):Int); omega⟩,iG,iH];intro g;simp at g;obtain⟨rfl,rfl⟩:=g;exact f r rfl
    ·rw [iH O4]
   ·rw [iH O4]
def spc:Bs:= [33,35,36,37,38,39,42,43,45,47,61,63,94,95,96,123,124,125,126,46]
def amB (x:Int):Bool:=decide (Lib.indexByte spc x.toNat.toUInt8≥0)
def f9 (m:Nat):((List.range 256).all fun x:Nat=>ya (m+100) (x:Int) spc==some (amB (x:Int)))=true:=O5
def lS {n:Nat} {b:UInt8} (a:100<=n):ya n (b.toNat:Int) spc=some (amB (b.toNat:Int)):=by
 obtain⟨m,rfl⟩:∃m,n=m+100:=⟨n-100,O0⟩
 have:=List.all_eq_true.1 (f9 m) b.toNat (by rw [List.mem_range]; have:=b.toNat_lt; omega);simpa using this
def okl (b:UInt8):Bool:=alB (b.toNat:Int)||amB (b.toNat:Int)
def dd:Bs->Bool
 | []=>false
 |x::l=>(x==46&&l.head? ==some 46)||dd l
def og (s:Bs):decide (Lib.index s [46,46]≥0)=dd s:=by
 induction s with
 |nil=>rfl
 | cons x l c=>
  unfold Lib.index dd
  have e:List.isPrefixOf [46,46] (x::l)=(x==46&&l.head? ==some 46):=by
   cases l with
   |nil=>simp [List.isPrefixOf]
   | cons y r=>
    show(46==x&&(46==y&&true))=(x==46&&(y==46));rw [Bool.and_true,BEq.comm (a:=(46:UInt8)) (b:=x),BEq.comm (a:=(46:UInt8)) (b:=y)]
  rw [e,<-c];have f:=Lib.index_ge l [46,46];cases(x==46&&l.head? ==some 46)with
  |true=>rfl
  | false=>
   rw [iH O1,Bool.false_or]
   by_cases h:Lib.index l [46,46]= -1
   ·rw [iI (by rw [beq_iff_eq]; exact h),h]
   ·rw [iH (by rw [beq_iff_eq]; exact h),decide_eq_true (show Lib.index l [46,46]≥0 by omega),decide_eq_true O0]
def lN (a:Bs):Bool:= !(gz a 64 46||dd a)&&a.all okl
def oG {n:Nat} (a:Bs) (c:a.length<=1000000):∀(k i:Nat),i<=a.length->a.length-i<k->vD n a k (i:Int)=some (if(a.drop i).all okl=true then .nxt ()else .ret false)
 |0,i,_,h=>O0
 | k + 1,i,f,g=>by
  have j:(s2b a).length=a.length:=by simp [s2b]
  rw [vD]
  by_cases b:i<a.length
  ·have e:yj (s2b a) (i:Int)=some (a[i].toNat:Int):=by
    rw [xa O0]; simp [s2b]
   rw [iI O4,e,iG,JS,iG,Bo,w1 O0,oG a c k (i+1) O0 O0,iM b,List.all_cons];unfold kT
   have key:∀(x y z w:Bool),((if x=true then some true else(some y).bind fun r165=>if r165=true then some true else some z).bind fun y162=>if(!y162)=true then some (Ctl.ret false)else some (if w=true then Ctl.nxt ()else Ctl.ret false))=some (if(((x||y)||z)&&w)=true then Ctl.nxt ()else(Ctl.ret false:Ctl Bool Unit)):=by
    intro x y z w; cases x<;>cases y<;>cases z<;>cases w<;>rfl
   exact key (ltB (a[i].toNat:Int)) (dgB (a[i].toNat:Int)) (amB (a[i].toNat:Int)) ((a.drop (i+1)).all okl)
  ·rw [iH O4,List.drop_eq_nil_of_le O0]; rfl
def o7 {n:Nat} {a:Bs} (h:a.length<=1000000) (r:a.length<n):jF n a=some (lN a):=by
  unfold jF lN;have e:=oG (n:=n) a h n 0 O0 O0;rw [show((0:Nat):Int)=0 from rfl,List.drop_zero]at e
  have ec:xf n a [46,46]=some (dd a):=by
    unfold xf qO;rw [iI O0,iG,og]
  have l :(if(decide ((List.length a:Int)<1))=true then(some true)else(if(decide ((List.length a:Int)>64))=true then(some true)else((xE a 0).bind fun f=>
     if(f==46)=true then(some true)else((xE a (wrap .i64 ((List.length a:Int)-1))).bind fun g=>
     if(g==46)=true then(some true)else((xf n a ([46,46]:List UInt8)).bind fun q=>
     some q)))))=some (gz a 64 46||dd a):=by
    have b:=W9 (a:=a) (m:=64) (c:=46) h;unfold Jz at b
    revert b
    generalize gz a 64 46=eb;intro b
    by_cases i:decide ((List.length a:Int)<1)=true
    · rw [iI i]at b ⊢; cases b; rfl
    · rw [iH i]at b ⊢
      by_cases j:decide ((List.length a:Int)>64)=true
      · rw [iI j]at b ⊢; cases b; rfl
      · rw [iH j]at b ⊢
        obtain⟨f,o,b⟩:=Option.bind_eq_some_iff.1 b;rw [o,iG]
        by_cases k:(f==46)=true
        · rw [iI k]at b ⊢; cases b; rfl
        · rw [iH k]at b ⊢
          obtain⟨g,p,b⟩:=Option.bind_eq_some_iff.1 b;rw [p,iG];cases b;rw [ec];cases(g==46)<;>rfl
  rw [l,iG,e];cases(gz a 64 46||dd a)<;>cases a.all okl<;>rfl
def VK (s:Bs):Bool:=decide (s.length<=128)&&decide ((64:UInt8)∈s)&&(lN (s.takeWhile (· !=64))&&dT ((s.dropWhile (· !=64)).drop 1))
def Ps {p r:Bs} (h:(64:UInt8)∉p):(p++64::r).takeWhile (· !=64)=p∧((p++64::r).dropWhile (· !=64)).drop 1=r:=by
 induction p with
 |nil=>simp
 | cons x p b=>
  simp only [List.mem_cons,not_or]at h;have a:(x !=64)=true:=by simp; exact Ne.symm h.1
  have:=b h.2;simp [List.takeWhile_cons,List.dropWhile_cons,a]at this ⊢;exact this
def s7 {n:Nat} {s:Bs} (i:2000000<=n) (j:s.length<=1000000):j2 n s=some (VK s):=by
 unfold j2 j8 wB Zz VK;rw [iI O0,iG];rcases dm 64 s with⟨a,b⟩|⟨p,r,a,b,g⟩
 ·rw [a,iH O1,iG,iG]; dsimp only;rw [iH (show ¬(false=true)by decide),decide_eq_false b]; simp
 ·have c:s.length=p.length+(r.length+1):=by rw [a]; simp
  rw [b,iI O4,show ssl s 0 (p.length:Int)=some p from(iI ⟨O0,O0,O0⟩).trans (by rw [Int.toNat_natCast,a]; simp),iG,show wrap .i64 ((p.length:Int)+(List.length ([64]:Bs):Int))=((p.length+1:Nat):Int)from w1 O0,
   show ssl s ((p.length+1:Nat):Int) (s.length:Int)=some r from(iI ⟨O0,O0,O0⟩).trans (by rw [Int.toNat_natCast,Int.toNat_natCast,List.take_of_length_le O0,a]; simp),iG,iG,iG]
  dsimp only;rw [iI rfl,decide_eq_true (show(64:UInt8)∈s by rw [a]; simp),o7 O0 O0,Pb i O0];obtain⟨e,f⟩:=Ps (p:=p) (r:=r) g;rw [a,e,f,<-a]
  by_cases h:s.length<=128
  ·rw [iI O4,decide_eq_true h];cases lN p<;>simp
  ·rw [iH O4,decide_eq_false h]; rfl
def okW:Bs->Bool
 | []=>true
 |x::l=>(okl x && !(x==46&&l.head? ==some 46))&&okW l
def zcf (p:Bs):okW p=(!dd p&&p.all okl):=by
 induction p with
 |nil=>rfl
 | cons x l a=>
  unfold okW dd;rw [a,List.all_cons];cases okl x<;>cases(x==46&&l.head? ==some 46)<;>cases dd l<;>cases l.all okl<;>rfl
theorem K7 {n : Nat} {p r : Bs} (hp : (64 :UInt8)∉p) (hs:(p++64::r).length<=1000000):∀(k i:Nat),i<=p.length->p.length-i<k->yr n (p++64::r) k (i:Int)=some (p.length:Int)
  |0,i,_,h=>O0
  | k + 1,i,hi,hk=>by
    have hl:(p++64::r).length=p.length+(r.length+1):=O2
    rw [yr,iI O4,wr O0,iG,iG]
    by_cases hc:i<p.length
    · have hx : (p ++ 64 :: r)[i]' O0=p[i]:=List.getElem_append_left hc
      have hne:p[i]≠64:=fun h=>hp (h▸List.getElem_mem hc)
      rw [hx,iI (by
        rw [bne_iff_ne]; intro h
        exact hne (UInt8.toNat_inj.1 (by have:p[i].toNat=64:=O0
                                         rw [this]; rfl))),w1 O0]
      exact K7 hp hs k (i+1) O0 O0
    · have hi2:i=p.length:=O0
      subst hi2
      rw [iH O2]
theorem KB {n : Nat} {s : Bs} (hp : (64 : UInt8)∉s) (hs:s.length<=1000000):∀(k i:Nat),i<=s.length->s.length-i<k->yr n s k (i:Int)=some (s.length:Int)
  |0,i,_,h=>O0
  | k + 1,i,hi,hk=>by
    rw [yr]
    by_cases hc:i<s.length
    · have hne : s[i] ≠ 64 := fun h => hp (h▸List.getElem_mem hc)
      rw [iI O4,wr hc,iG,iG,iI (by
        rw [bne_iff_ne]; intro h
        exact hne (UInt8.toNat_inj.1 (by have:s[i].toNat=64:=O0
                                         rw [this]; rfl))),w1 O0]
      exact KB hp hs k (i+1) O0 O0
    · have hi2:i=s.length:=O0
      subst hi2
      rw [iH O4,iG,iH O1]
def b46 {b : UInt8} : ((b.toNat : Int)==46)=(b==46):=by
  rw [Bool.eq_iff_iff,beq_iff_eq,beq_iff_eq];constructor
  · intro h; exact UInt8.toNat_inj.1 (by have:b.toNat=46:=O0
                                         rw [this]; rfl)
  · intro h; subst h; rfl
def Bl {n:Nat} {p r:Bs} (g:100<=n) (m:(p++64::r).length<=1000000):∀(k i:Nat),i<=p.length->p.length-i<k->xp n (p.length:Int) (p++64::r) k (i:Int)=some (if okW (p.drop i)=true then .nxt ()else .ret ([],[],false))
 |0,i,_,h=>O0
 | k + 1,i,s,t=>by
  have v:(p++64::r).length=p.length+(r.length+1):=O2;rw [xp]
  by_cases f:i<p.length
  ·have o:(p++64::r)[i]' O0=p[i]:=List.getElem_append_left f;have l:xE (p++64::r) (i:Int)=some (p[i].toNat:Int):=by rw [wr O0,o]
   have b:∃y:UInt8,xE (p++64::r) ((i+1:Nat):Int)=some (y.toNat:Int)∧(y==46)=((p.drop (i+1)).head? ==some 46):=by
    by_cases e:i+1<p.length
    ·refine⟨p[i+1],by rw [wr O0,List.getElem_append_left e], ?_⟩;rw [iM e]; rfl
    ·refine ⟨64, ?_, ?_⟩
     ·have j:i+1=p.length:=O0;rw [wr O0]; simp [j]
     ·rw [List.drop_eq_nil_of_le O0]; rfl
   obtain⟨y,q,c⟩:=b;have a:ya n (p[i].toNat:Int) ([33,35,36,37,38,39,42,43,45,47,61,63,94,95,96,123,124,125,126,46]:List UInt8)=some (amB (p[i].toNat:Int)):=lS g;rw [iI O4,l];simp only [iG,BP,a];rw [w1 O0,q];simp only [iG];rw [b46,b46,c,Bl g m k (i+1) O0 O0,iM f,okW];unfold okl
   have key:∀(x y z w u:Bool),((if(!x)=true then(if(!y)=true then some true else if z=true then some w else some false)else if z=true then some w else some false).bind fun y154=>
     if y154=true then some (Ctl.ret (([]:List UInt8),([]:List UInt8),false))else some (if u=true then Ctl.nxt ()else Ctl.ret ([],[],false)))=some (if(((x||y) && !(z&&w))&&u)=true then Ctl.nxt ()else(Ctl.ret ([],[],false):Ctl (List UInt8×List UInt8×Bool) Unit)):=by
    intro x y z w u; cases x<;>cases y<;>cases z<;>cases w<;>cases u<;>rfl
   exact key _ _ _ _ _
  ·rw [iH O4,List.drop_eq_nil_of_le O0]; rfl
def KW {p r:Bs} {m c:Int} (a:1<=p.length) (e:(p++64::r).length<=1000000):xE (p++64::r) 0=xE p 0∧xE (p++64::r) (wrap .i64 ((p.length:Int)-1))=xE p (wrap .i64 ((p.length:Int)-1)):=by
 have b:(p++64::r).length=p.length+(r.length+1):=O2;rw [jn O0,show(p.length:Int)-1=((p.length-1:Nat):Int)by omega,show(0:Int)=((0:Nat):Int)by rfl,wr O0,wr O0,wr O0,wr O0,List.getElem_append_left O0,List.getElem_append_left O0];exact⟨rfl,rfl⟩
def rp {n:Nat} {s:Bs} (A:2000000<=n) (g:s.length<=1000000):wW n s=some (VK s):=by
 unfold wW vC VK
 by_cases h:s.length<=128
 ·rw [iH O4,decide_eq_true h];rcases dm 64 s with⟨v,l⟩|⟨p,r,v,l,w⟩
  ·have e:=KB (n:=n) l g n 0 O0 O0;rw [show((0:Nat):Int)=0 by rfl]at e;rw [e,iG,decide_eq_false l]
   have j:∃b,(if(decide ((s.length:Int)<1))=true then some true else if(decide ((s.length:Int)>64))=true then some true else if((s.length:Int)==(List.length s:Int))=true then some true else b)=some true:=by
    refine⟨none, ?_⟩;split
    ·rfl
    ·split
     ·rfl
     ·rw [iI O2]
   have k:∀b:Option Bool,(if(decide ((s.length:Int)<1))=true then some true else if(decide ((s.length:Int)>64))=true then some true else if((s.length:Int)==(List.length s:Int))=true then some true else b)=some true:=by
    intro b;split
    ·rfl
    ·split
     ·rfl
     ·rw [iI O2]
   rw [k,iG,iI rfl,iG]; rfl
  ·obtain ⟨B,C⟩:=Ps (p:=p) (r:=r) w;subst v;have E:(p++64::r).length=p.length+(r.length+1):=O2;have e:=K7 (n:=n) w g n 0 O0 O0;rw [show((0:Nat):Int)=0 by rfl]at e;rw [e,iG,B,C,decide_eq_true (show(64:UInt8)∈p++64::r by simp)]
   have y:ssl (p++64::r) (wrap .i64 ((p.length:Int)+1)) (List.length (p++64::r):Int)=some r:=by
    rw [w1 O0];exact(iI ⟨O0,O0,O0⟩).trans (by rw [Int.toNat_natCast,Int.toNat_natCast,List.take_of_length_le O0]; simp)
   have j:=Bl (n:=n) (p:=p) (r:=r) O0 g n 0 O0 O0;rw [show((0:Nat):Int)=0 by rfl,List.drop_zero]at j;rw [y,iG,Kf A O0,iG,j,zcf];have z:((p.length:Int)==(List.length (p++64::r):Int))=false:=by rw [beq_eq_false_iff_ne]; omega
   rw [z];have f:=W9 (a:=p) (m:=64) (c:=46) O0;unfold lN
   have k:((if(decide ((p.length:Int)<1))=true then some true else if(decide ((p.length:Int)>64))=true then some true else if false=true then some true else
     if(!dT r)=true then some true else(xE (p++64::r) 0).bind fun o=>if(o==46)=true then some true else(xE (p++64::r) (wrap .i64 ((p.length:Int)-1))).bind fun q=>some (q==46)):Option Bool)=some (gz p 64 46|| !dT r):=by
    unfold Jz at f
    revert f
    generalize gz p 64 46=eb;intro f
    by_cases i:decide ((p.length:Int)<1)=true
    ·rw [iI i]at f ⊢; cases f; rfl
    ·rw [iH i]at f ⊢;rw [iJ]at i
     by_cases t:decide ((p.length:Int)>64)=true
     ·rw [iI t]at f ⊢; cases f; rfl
     ·rw [iH t]at f ⊢;rw [iH (show ¬(false=true)by decide),(KW (m:=0) (c:=0) O0 g).1,(KW (m:=0) (c:=0) O0 g).2]
      cases hd:dT r with
      |false=>rw [iI (show(!false)=true from rfl)]; simp
      |true=>rw [iH (show ¬((!true)=true)by decide),f]; simp
   rw [k,iG]
   cases gz p 64 46 with
   |true=>rw [Bool.true_or,iI rfl,iG]; simp
   | false=>
    cases dT r with
    |false=>rw [Bool.false_or,iI (show(!false)=true from rfl),iG]; simp
    | true=>
     rw [iH O1]
     cases x:(!dd p&&p.all okl)with
     |false=>simp only [xb,iH (show ¬(false=true)by decide),iG]; simp [x]
     | true=>
      simp only [xb,iI];rw [show ssl (p++64::r) 0 (p.length:Int)=some p from(iI ⟨O0,O0,O0⟩).trans (by rw [Int.toNat_natCast]; simp)];simp only [iG];simp [x]
 ·rw [iI O4,decide_eq_false h]; rfl
def zan (k:Int) (s:Bs):Bool:=if k=1 then VK s else if k=2 then Gb s else decide (s.length=4)||decide (s.length=16)
def jL (g:Gen):Int:=if g.yF=4 then(if g.wb= []then uB g.zL.zu else 14)else if g.yF=1∨g.yF=2∨g.yF=7 then(if g.zL.zu= []∧zan g.yF g.wb=true then 0 else 14)else 14
def cV {n:Nat} {s:Bs}:uR n s=some (decide (s.length=4)||decide (s.length=16)):=by
 unfold uR
 by_cases h:s.length=4
 ·rw [iI O6,decide_eq_true h]; rfl
 ·rw [iH O6,decide_eq_false h,iG,Bool.false_or]
  congr 1
  rw [Bool.eq_iff_iff,beq_iff_eq,iJ]; omega
def lI {n:Nat} {s:Bs}:w4 n s=some (decide (s.length=4)||decide (s.length=16)):=cV (n:=n)
def rj (l:List (List Att)):decide ((List.length l:Int)>0)= !decide (l= []):=by
 cases l with
 |nil=>rfl
 |cons x l=>rw [decide_eq_true O2,decide_eq_false O2]; rfl
def YY (g:Gen):(g.yF=1->jL g=if g.zL.zu= []∧VK g.wb=true then 0 else 14)∧(g.yF=2->jL g=if g.zL.zu= []∧Gb g.wb=true then 0 else 14) ∧
  (g.yF=7->jL g=if g.zL.zu= []∧(decide (g.wb.length=4)||decide (g.wb.length=16))=true then 0 else 14)∧(g.yF=4->jL g=if g.wb= []then uB g.zL.zu else 14) ∧
  (g.yF≠1->g.yF≠2->g.yF≠7->g.yF≠4->jL g=14):=by
 unfold jL zan;refine⟨fun h=> ?_,fun h=> ?_,fun h=> ?_,fun h=> ?_,fun b c e a=> ?_⟩
 ·rw [iH O0,iI (.inl h),iI h]
 ·rw [iH (show ¬g.yF=4 by omega),iI (.inr (.inl h)),iH (show ¬g.yF=1 by omega),iI h]
 ·rw [iH (show ¬g.yF=4 by omega),iI (.inr (.inr h)),iH (show ¬g.yF=1 by omega),iH (show ¬g.yF=2 by omega)]
 ·rw [iI h]
 ·rw [iH a,iH (by rintro(h|h|h)<;>contradiction)]
def zbm {n B:Nat} {g:Gen} (l:2000000<=n) (v:BdG B g) (t:B<=1000000) (j:B+100<=n):uo n g false=some (jL g):=by
 obtain⟨w,k⟩:=v;have a:g.wb.length<=1000000:=O0;obtain⟨o,p,r,q,m⟩:=YY g;unfold uo gu
 have fin:∀b:Bool,(((if decide ((List.length g.zL.zu:Int)>0)=true then some true else some (!b)).bind fun x=>if x=true then some (14:Int)else some 0))=some (if g.zL.zu= []∧b=true then 0 else 14):=by
  intro b;rw [rj]
  by_cases h:g.zL.zu= []
  ·rw [decide_eq_true h,iH O1,iG]; cases b<;>simp [h]
  ·rw [decide_eq_false h,iI O1,iG,iI rfl,iH (fun s=>h s.1)]
 by_cases c:g.yF=1
 ·rw [iI (by rw [c]; decide),iG,iH O1,iH O1,o c]
  have ev:xg n 0 g.wb false=some (VK g.wb):=by
   unfold xg;rw [iI O1,iH O1,iI O1,s7 l a,iG,iG]
  rw [ev,iG,fin]
 by_cases e:g.yF=2
 ·rw [iH (O7 c),iI (by rw [e]; decide),iG,iH O1,iH O1,p e]
  have ev:xg n 1 g.wb false=some (Gb g.wb):=by
   unfold xg;rw [iH O1,iI O1,iH O1,iI O1,zbo l a,iG,iG]
  rw [ev,iG,fin]
 by_cases f:g.yF=4
 ·rw [iH (O7 c),iH (O7 e),iI (by rw [f]; decide),iG,iH O1,iI O1,q f]
  by_cases a:g.wb= []
  ·rw [iH (by rw [a]; decide),iI a,zaz k t j]; rfl
  ·rw [iI (O7 a),iH a]
 by_cases i:g.yF=7
 ·rw [iH (O7 c),iH (O7 e),iH (O7 f),iI (by rw [i]; decide),iG,iH O1,iH O1,r i]
  have ev:xg n 3 g.wb false=some (decide (g.wb.length=4)||decide (g.wb.length=16)):=by
   unfold xg;rw [iH O1,iH O1,iI O1,iH O1,iI O1,cV,iG,iG]
  rw [ev,iG,fin]
 ·rw [iH (O7 c),iH (O7 e),iH (O7 f),iH (O7 i),iG,iI O1,m c e i f]
def sf {n B:Nat} {g:Gen} (m:2000000<=n) (v:BdG B g) (t:B<=1000000) (j:B+100<=n):yC n g false=some (jL g):=by
 obtain⟨w,k⟩:=v;have a:g.wb.length<=1000000:=O0;obtain⟨p,q,s,r,o⟩:=YY g;unfold yC
 have fin:∀b:Bool,(((if(!b)=true then some true else some (decide ((List.length g.zL.zu:Int)>0))).bind fun l=>if l=true then some (14:Int)else some 0))=some (if g.zL.zu= []∧b=true then 0 else 14):=by
  intro b;rw [rj]
  by_cases h:g.zL.zu= []
  ·rw [decide_eq_true h]; cases b<;>simp [h]
  ·rw [decide_eq_false h]; cases b<;>simp [h]
 by_cases c:g.yF=1
 ·rw [iI (by rw [c]; decide),iH O1,iI O1,rp m a,iG,iG];simp only [xb];rw [fin,p c]
 by_cases e:g.yF=2
 ·rw [iH (O7 c),iI (by rw [e]; decide),iH O1,iI O1,sV m a,iG,iG];simp only [xb];rw [fin,q e]
 by_cases f:g.yF=7
 ·rw [iH (O7 c),iH (O7 e),iI (by rw [f]; decide),iH O1,iI O1,lI,iG,iG];simp only [xb];rw [fin,s f]
 by_cases i:g.yF=4
 ·rw [iH (O7 c),iH (O7 e),iH (O7 f),iI (by rw [i]; decide),r i]
  by_cases a:g.wb= []
  ·rw [iH (by rw [a]; decide),iI a,show yh n ⟨g.zL.zu⟩=_ from zat k t j]; rfl
  ·rw [iI (O7 a),iH a]; rfl
 ·rw [iH (O7 c),iH (O7 e),iH (O7 f),iH (O7 i),o c e f i];simp only [xb];rw [fin,iH O2]
def ltI (x:Bs):¬x<x:=List.lt_irrefl x
def ltT {x y z:Bs} (h:x<y) (a:y<z):x<z:=List.lt_trans h a
def tri {x y:Bs} (b:¬x<y) (a:x≠y):y<x:=by
 rcases List.le_total y x with h|h
 ·exact Std.lt_of_le_of_ne h (Ne.symm a)
 ·exact absurd (Std.lt_of_le_of_ne h a) b
def ma {n:Nat} {o a:List Bs} {q:Nat} (l:q<a.length) (r:o.length<=1000) (m:a.length<=1000):∀(k j:Nat),j<k->j<=o.length->(∀i (h:i<o.length),j<=i->¬o[i]<a[q]) ->
  ∃y:Nat,xW n o a (q:Int) k (j:Int)=some (y:Int)∧y<=o.length∧(∀i (h:i<o.length),y<=i->¬o[i]<a[q])∧(y=0∨∃h:y-1<o.length,o[y-1]<a[q])
 |0,j,h,_,_=>O0
 | k + 1,j,s,f,b=>by
  rw [xW]
  match j,f,b with
  |0,f,b=>rw [iH O1,iG,iH O1]; exact⟨0,rfl,O0,b, .inl rfl⟩
  | j + 1,f,b=>
   have e:wrap .i64 (((j+1:Nat):Int)-1)=(j:Int):=by rw [jn O0]; omega
   rw [iI O4,e,xa O0,iG,xa l,iG,iG,zag]
   by_cases c:o[j]' O0<a[q]
   ·rw [decide_eq_true c,iH O1];exact⟨j+1,rfl,f,b, .inr ⟨O0,c⟩⟩
   ·rw [decide_eq_false c,iI O1]
    exact ma l r m k j O0 O0 (fun i h p=>by
     by_cases g:i=j
     ·subst g; exact c
     ·exact b i h O0)
structure zdo (m:List (Bs×Bool)) (o:List Bs):Prop where
 len:m.length=o.length
 mem:∀x,x∈m.map (·.1)↔x∈o
 srt:o.Pairwise (· < ·)
def Up (x:Bs):∀m:List (Bs×Bool),(∀y,y∈(Yy x true m).map (·.1)↔y=x∨y∈m.map (·.1))∧(Yy x true m).length=if x∈m.map (·.1)then m.length else m.length+1
 | []=>by simp [Yy]
 | p ::r=>by
  obtain⟨c,e⟩:=Up x r;unfold Yy
  by_cases h:x=p.1
  ·rw [iI h];refine⟨fun y=>by simp [<-h],by rw [iI (by simp [h])]; simp⟩
  ·rw [iH h];refine⟨fun y=> ?_, ?_⟩
   ·rw [List.map_cons,List.mem_cons,c,List.map_cons,List.mem_cons];constructor
    ·rintro(h|h|h)
     ·exact .inr (.inl h)
     ·exact .inl h
     ·exact .inr (.inr h)
    ·rintro(h|h|h)
     ·exact .inr (.inl h)
     ·exact .inl h
     ·exact .inr (.inr h)
   ·rw [List.length_cons,e]
    by_cases a:x∈r.map (·.1)
    ·rw [iI a,iI (by rw [List.map_cons]; exact List.mem_cons_of_mem _ a)]; rfl
    ·rw [iH a,iH (by rw [List.map_cons,List.mem_cons]; rintro(b|b); exact h b; exact a b)]; rfl
def lC {o:List Bs} {x:Bs} (k:o.Pairwise (· < ·)) {y:Nat} (v:y<=o.length) (n:∀i (h:i<o.length),y<=i->¬o[i]<x) (b:y=0∨∃h:y-1<o.length,o[y-1]<x):
  ((∃h:y<o.length,o[y]=x)↔x∈o)∧((¬ ∃h:y<o.length,o[y]=x)->(o.take y++x::o.drop y).Pairwise (· < ·)):=by
 have f:=List.pairwise_iff_getElem.1 k
 have lo:∀i (h:i<o.length),i<y->o[i]<x:=by
  intro i h a;rcases b with b|⟨b,p⟩
  ·omega
  ·by_cases e:i=y-1
   ·subst e; exact p
   ·exact ltT (f i (y-1) h b O0) p
 have q:(∃h:y<o.length,o[y]=x)↔x∈o:=by
  constructor
  ·rintro⟨h,rfl⟩; exact List.getElem_mem h
  ·intro h;obtain⟨i,a,rfl⟩:=List.getElem_of_mem h;rcases Nat.lt_trichotomy i y with c|c|c
   ·exact absurd (lo i a c) (ltI _)
   ·subst c; exact⟨a,rfl⟩
   ·exact absurd (f y i O0 a c) (n y O0 (iP _))
 refine⟨q,fun s=> ?_⟩;have g:x∉o:=fun h=>s (q.2 h);rw [List.pairwise_append,List.pairwise_cons];refine⟨k.sublist (List.take_sublist _ _),⟨fun z m=> ?_,k.sublist (List.drop_sublist _ _)⟩,fun z m w l=> ?_⟩
 ·obtain⟨i,a,rfl⟩:=List.getElem_of_mem m;rw [List.length_drop]at a;rw [List.getElem_drop];exact tri (n (y+i) O0 O0) (fun h=>g (h▸List.getElem_mem _))
 ·obtain ⟨i,a,rfl⟩:=List.getElem_of_mem m;rw [List.length_take]at a;rw [List.getElem_take];have t:=lo i O0 O0;rcases List.mem_cons.1 l with rfl|l
  ·exact t
  ·obtain⟨j,r,rfl⟩:=List.getElem_of_mem l;rw [List.length_drop]at r;rw [List.getElem_drop];exact f i (y+j) O0 O0 O0
def GR {n:Nat} {a:List Bs} (q:3000<=n) (g:a.length<=1000):∀(k i:Nat) (o:List Bs) (m:List (Bs×Bool)),i<=a.length->a.length-i<k->o.length<=i->zdo m o ->
  ∃r,xS n a k o (i:Int)=some r∧zdo ((a.drop i).foldl (fun m s=>Yy s true m) m) r∧r.length<=a.length
 |0,i,_,_,_,h,_,_=>O0
 | k + 1,i,o,m,C,F,G,b=>by
  rw [xS]
  by_cases f:i<a.length
  ·obtain ⟨y,ey,z,A,B⟩:=ma (n:=n) (o:=o) f O0 g n o.length O0 (iP _) (fun i h E=>by omega);obtain⟨p,w⟩:=lC b.srt z A B;obtain⟨t,v⟩:=Up a[i] m;rw [iI O4,ey,iG,w1 O0,iM f,List.foldl_cons]
   have e:(if(decide ((y:Int)<(List.length o:Int)))=true then((yj o (y:Int)).bind fun x786=>(yj a (i:Int)).bind fun x787=>some (x786==x787))else(some false))=some (decide (a[i]∈o)):=by
    by_cases l:y<o.length
    ·rw [iI O4,xa l,iG,xa f,iG]
     congr 1
     rw [Bool.eq_iff_iff,beq_iff_eq,iJ,<-p];exact⟨fun h=>⟨l,h⟩,fun⟨_,h⟩=>h⟩
    ·rw [iH O4,decide_eq_false (fun h=>by obtain⟨h,_⟩:=p.2 h; exact l h)]
   rw [e,iG]
   by_cases c:a[i]∈o
   ·rw [decide_eq_true c,iI rfl,iG];refine GR q g k (i+1) o _ O0 O0 O0 ⟨by rw [v,iI ((b.mem _).2 c)]; exact b.len,fun x=> ?_,b.srt⟩;rw [t,b.mem];exact⟨fun h=>h.elim (fun h=>h▸c) id, .inr⟩
   ·rw [decide_eq_false c,iH O1];have hlsl1:lsl o 0 (y:Int)=some (o.take y):=(iI ⟨O0,O0,O0⟩).trans (by rw [Int.toNat_natCast]; rfl);have hlsl2:lsl o (y:Int) (List.length o:Int)=some (o.drop y):=(iI ⟨O0,O0,O0⟩).trans (by rw [Int.toNat_natCast,Int.toNat_natCast,List.take_of_length_le O0]);have lt:(o.take y).length+(o.drop y).length=o.length:=by rw [List.length_take,List.length_drop]; omega
    have ein:(if(List.isEmpty (o.take y))=true then((pA 16 ([]:List (List UInt8)) ([a[i]]:List (List UInt8))).bind fun x793=>(vF 16 x793 (o.drop y)).bind fun x794=>some x794)else((pA 16 ([]:List (List UInt8)) (o.take y)).bind fun x795=>
      (vF 16 x795 ([a[i]]:List (List UInt8))).bind fun x796=>(vF 16 x796 (o.drop y)).bind fun x797=>some x797))=some (o.take y++a[i]::o.drop y):=by
     by_cases j:o.take y= []
     ·rw [j,iI (show(List.isEmpty ([]:List Bs))=true from rfl),Q5 O2,iG,vG O3]; rfl
     ·rw [iH (O7 j),show pA 16 ([]:List (List UInt8)) (o.take y)=some ([]++o.take y)from iI ⟨by simpa using j,O3⟩,iG,vG O3,iG,vG O3];simp
    rw [hlsl1,iG,xa f,iG,hlsl2,iG,ein,iG,iG];refine GR q g k (i+1) _ _ O0 O0 O3 ⟨?_,fun x=> ?_,w (fun h=>c (p.1 h))⟩
    ·rw [v,iH (fun h=>c ((b.mem _).1 h)),b.len]; simp; omega
    ·rw [t,b.mem,List.mem_append,List.mem_cons];have:x∈o↔x∈o.take y∨x∈o.drop y:=by rw [<-List.mem_append,List.take_append_drop]
     rw [this];constructor
     ·rintro(h|h|h)
      ·exact .inr (.inl h)
      ·exact .inl h
      ·exact .inr (.inr h)
     ·rintro(h|h|h)
      ·exact .inr (.inl h)
      ·exact .inl h
      ·exact .inr (.inr h)
  ·rw [iH O4,List.drop_eq_nil_of_le O0];exact⟨o,rfl,b,O0⟩
def kw {α:Type} (f:α->Int):List α->Int
 | []=>0
 |x::l=>if f x≠0 then f x else kw f l
def DG (e:Int):Ctl Int Unit:=if e=0 then .nxt ()else .ret e
def ux {α:Type} {f:α->Int} {x:α} {l:List α} (h:f x≠0):DG (kw f (x::l))= .ret (f x):=by unfold DG kw; rw [iI h,iH h]
def gv {α:Type} {f:α->Int} {x:α} {l:List α} (h:f x=0):kw f (x::l)=kw f l:=by rw [kw,iH (by rw [h]; simp)]
def isV (s:Bs):Bool:=(kQ s).isSome
def zaJ {n B:Nat} (c:B<=100000) (f:B+1000<=n) (q:Qry) (b:∀s∈q.zG,s.length<=B) (e:q.zG.length<=1000):∀(k i:Nat) (m:List (Bs×Bool)),i<=q.zG.length->q.zG.length-i<k ->
  wz n q k (i:Int) m=some (if(q.zG.drop i).all isV=true then .nxt ((q.zG.drop i).foldl (fun m s=>Yy s true m) m)else .ret 11)
 |0,i,m,_,h=>O0
 | k+1,i,m,g,j=>by
  rw [wz]
  by_cases a:i<q.zG.length
  ·have l:=b _ (List.getElem_mem a);rw [iI O4,xa a,iG,XG O0 O0,iG,w1 O0,zaJ c f q b e k (i+1) _ O0 O0,iM a,List.all_cons,List.foldl_cons];cases h:(kQ q.zG[i]).isSome<;>simp [isV,h]
  ·rw [iH O4,List.drop_eq_nil_of_le O0]; rfl
def zam {n B:Nat} (c:B<=100000) (f:B+1000<=n) (q:Qry) (b:∀s∈q.zG,s.length<=B) (e:q.zG.length<=1000):∀(k i:Nat),i<=q.zG.length->q.zG.length-i<k ->
  xu n q k (i:Int)=some (if(q.zG.drop i).all isV=true then .nxt ()else .ret 11)
 |0,i,_,h=>O0
 | k+1,i,g,j=>by
  rw [xu]
  by_cases a:i<q.zG.length
  ·have l:=b _ (List.getElem_mem a);rw [iI O4,xa a,iG,pa O0 O0,iG,w1 O0,zam c f q b e k (i+1) O0 O0,iM a,List.all_cons];cases h:(kQ q.zG[i]).isSome<;>simp [isV,h]
  ·rw [iH O4,List.drop_eq_nil_of_le O0]; rfl
def t6 {n B:Nat} (e:B<=100000) (c:2000000<=n) (q:Qry) (b:∀g∈q.ym,BdG B g) (f:q.ym.length<=1000):∀(k i:Nat),i<=q.ym.length->q.ym.length-i<k->wy n q k (i:Int)=some (DG (kw jL (q.ym.drop i)))
 |0,i,_,h=>O0
 | k+1,i,j,l=>by
  rw [wy]
  by_cases a:i<q.ym.length
  ·rw [iI O4,xa a,iG,show uo n ⟨q.ym[i].yF,q.ym[i].wb,⟨q.ym[i].zL.zu⟩⟩ false=some (jL q.ym[i])from zbm c (b _ (List.getElem_mem a)) O0 O0,iG,iM a]
   by_cases h:jL q.ym[i]=0
   ·rw [iH (by rw [h]; decide),w1 O0,t6 e c q b f k (i+1) O0 O0,gv h]
   ·rw [iI (O7 h),ux h]
  ·rw [iH O4,List.drop_eq_nil_of_le O0]; rfl
def tQ {n B:Nat} (e:B<=100000) (c:2000000<=n) (q:Qry) (b:∀g∈q.ym,BdG B g) (f:q.ym.length<=1000):∀(k i:Nat),i<=q.ym.length->q.ym.length-i<k->xw n q k (i:Int)=some (DG (kw jL (q.ym.drop i)))
 |0,i,_,h=>O0
 | k+1,i,j,l=>by
  rw [xw]
  by_cases a:i<q.ym.length
  ·rw [iI O4,xa a,iG,show yC n ⟨q.ym[i].yF,q.ym[i].wb,⟨q.ym[i].zL.zu⟩⟩ false=some (jL q.ym[i])from sf c (b _ (List.getElem_mem a)) O0 O0,iG,iM a]
   by_cases h:jL q.ym[i]=0
   ·rw [iH (by rw [h]; decide),w1 O0,tQ e c q b f k (i+1) O0 O0,gv h]
   ·rw [iI (O7 h),ux h]
  ·rw [iH O4,List.drop_eq_nil_of_le O0]; rfl
def zdl (l:List (List Att)):((List.length l:Int)==0)=decide (l= []):=by cases l with
 |nil=>rfl
 |cons x l=>rw [decide_eq_false O2]; rw [beq_eq_false_iff_ne]; simp; omega
def tR {n B:Nat} (o:B<=100000) (r:B+1000<=n) (q:Qry) (m:∀a∈q.zy,BdN B a.zL.zu) (p:q.zy.length<=1000):∀(k i:Nat),i<=q.zy.length->q.zy.length-i<k->wA n q k (i:Int)=some (DG (kw Ys (q.zy.drop i)))
 |0,i,_,h=>O0
 | k + 1,i,s,t=>by
  rw [wA]
  by_cases l:i<q.zy.length
  ·rw [iI O4,xa l,iG,zaz (m _ (List.getElem_mem l)) O0 O0,iG,iM l,zdl,show v6 n ⟨q.zy[i].xe.xd,q.zy[i].xe.bC,q.zy[i].xe.vK⟩=some (if okK q.zy[i].xe=true then 0 else 18)from zd0];obtain⟨e,c⟩:∃e,Ys q.zy[i]=e:=⟨_,rfl⟩
   have b:=c;rw [Ys]at b
   by_cases f:uB q.zy[i].zL.zu=0
   ·rw [iH (by rw [f]; simp)]at b;rw [iH (by rw [f]; decide)]
    by_cases g:q.zy[i].zL.zu= []
    ·rw [iI g]at b;rw [iI (by rw [iJ]; exact g),ux (by rw [c,<-b]; decide),c,<-b]
    ·rw [iH g]at b;rw [iH (by rw [iJ]; exact g),iG]
     by_cases j:okK q.zy[i].xe=true
     ·rw [iI j]at b;rw [iI j,iH O1,w1 O0,tR o r q m p k (i+1) O0 O0,gv (c.trans b.symm)]
     ·rw [iH j]at b;rw [iH j,iI O1,ux (by rw [c,<-b]; decide),c,<-b]
   ·rw [iI f]at b;rw [iI (O7 f),ux (by rw [c,<-b]; exact f),c,<-b]
  ·rw [iH O4,List.drop_eq_nil_of_le O0]; rfl
def nQ {n B:Nat} {a:Anc} (f:BdN B a.zL.zu) (e:B<=1000000) (g:B+100<=n):(uB a.zL.zu≠0->zY n a=some (uB a.zL.zu)) ∧
  (uB a.zL.zu=0->a.zL.zu= []->zY n a=some 14)∧(uB a.zL.zu=0->a.zL.zu≠ []->zY n a=some 0):=by
 unfold zY;rw [show yh n ⟨a.zL.zu⟩=some (uB a.zL.zu)from zat f e g,iG,zdl];refine⟨fun h=> ?_,fun b c=> ?_,fun b c=> ?_⟩
 ·rw [iI (O7 h)]
 ·rw [iH (by rw [b]; decide),iI (by rw [iJ]; exact c)]
 ·rw [iH (by rw [b]; decide),iH (by rw [iJ]; exact c)]
def zai {n B:Nat} (s:B<=100000) (v:B+1000<=n) (q:Qry) (m:∀a∈q.zy,BdN B a.zL.zu) (t:q.zy.length<=1000):∀(k i:Nat),i<=q.zy.length->q.zy.length-i<k->xo n q k (i:Int)=some (DG (kw Ys (q.zy.drop i)))
 |0,i,_,h=>O0
 | k + 1,i,w,x=>by
  rw [xo]
  by_cases l:i<q.zy.length
  ·obtain ⟨o,p,r⟩:=nQ (n:=n) (m _ (List.getElem_mem l)) O0 O0;rw [iI O4,xa l,iG,iM l];show((zY n q.zy[i]).bind fun r128=>_)=_;obtain⟨e,c⟩:∃e,Ys q.zy[i]=e:=⟨_,rfl⟩
   have b:=c;rw [Ys]at b
   by_cases f:uB q.zy[i].zL.zu=0
   ·rw [iH (by rw [f]; simp)]at b
    by_cases g:q.zy[i].zL.zu= []
    ·rw [iI g]at b;rw [p f g,iG,iI O1,ux (by rw [c,<-b]; decide),c,<-b]
    ·rw [iH g]at b;rw [r f g,iG,iH O1,iG,show xr n ⟨q.zy[i].xe.xd,q.zy[i].xe.bC,q.zy[i].xe.vK⟩=some (if okK q.zy[i].xe=true then 0 else 18)from zeG,iG]
     by_cases j:okK q.zy[i].xe=true
     ·rw [iI j]at b;rw [iI j,iH O1,w1 O0,zai s v q m t k (i+1) O0 O0,gv (c.trans b.symm)]
     ·rw [iH j]at b;rw [iH j,iI O1,ux (by rw [c,<-b]; decide),c,<-b]
   ·rw [iI f]at b;rw [o f,iG,iI (O7 f),ux (by rw [c,<-b]; exact f),c,<-b]
  ·rw [iH O4,List.drop_eq_nil_of_le O0]; rfl
def oe (l:List Bs):∀m:List (Bs×Bool),(l.foldl (fun m s=>Yy s true m) m).length<=m.length+l.length:=by
 induction l with
 |nil=>intro m; simp
 | cons x l b=>
  intro m;rw [List.foldl_cons];have c:=b (Yy x true m);have a:=(Up x m).2;have e:(Yy x true m).length<=m.length+1:=by rw [a]; split<;>omega
  rw [List.length_cons]; omega
structure QS (B:Nat) (q:Qry):Prop where
 b:B<=60000
 pu:q.u0.length<=B
 pl:∀s∈q.zG,s.length<=B
 nm:∀g∈q.ym,BdG B g
 is:∀a∈q.zy,BdN B a.zL.zu
 l1:q.zG.length<=1000
 l2:q.ym.length<=1000
 l3:q.zy.length<=1000
def Bh {n B:Nat} {q:Qry} (G:2000000<=n) (h:QS B q):∃e,vg n q=some e∧wl n q=some e:=by
 obtain⟨N,K,j,i,c,b,f,g⟩:=h;unfold vg wl;rw [ifb,iG,iG]
 by_cases k:(decide (q.Yv<0)||decide (q.Yv>254033452799))=true
 ·rw [iI k,iI k]; exact⟨_,rfl,rfl⟩
 rw [iH k,iH k,XG O0 O0,pa O0 O0];have s:∃y,(if(!(q.u0==([]:List UInt8)))=true then((some (kQ q.u0).isSome).bind fun t=>some (!t))else(some false))=some y:=VS (fun _=>⟨_,rfl⟩) fun _=>⟨_,rfl⟩
 obtain⟨y,s⟩:=s;rw [s,iG,iG]
 cases y with
 |true=>rw [iI rfl,iI rfl]; exact⟨_,rfl,rfl⟩
 | false=>
  rw [iH (show ¬(false=true)by decide),iH (show ¬(false=true)by decide),zdG,iG,iG]
  by_cases l:(decide (q.dK<0)||(decide (q.dK>511)||(decide (q.jj<1)||decide (q.jj>8))))=true
  ·rw [iI l,iI l]; exact⟨_,rfl,rfl⟩
  rw [iH l,iH l,zd9,iG,iG]
  by_cases m:(decide ((List.length q.zG:Int)>8)||(decide ((List.length q.ym:Int)>16)||decide ((List.length q.zy:Int)>64)))=true
  ·rw [iI m,iI m]; exact⟨_,rfl,rfl⟩
  rw [iH m,iH m];have v:=zaJ (n:=n) (B:=B) O0 O0 q j b n 0 [] O0 O0;have w:=zam (n:=n) (B:=B) O0 O0 q j b n 0 O0 O0;have x:=t6 (n:=n) (B:=B) O0 G q i f n 0 O0 O0;have z:=tQ (n:=n) (B:=B) O0 G q i f n 0 O0 O0;have A:=tR (n:=n) (B:=B) O0 O0 q c g n 0 O0 O0;have C:=zai (n:=n) (B:=B) O0 O0 q c g n 0 O0 O0;obtain⟨o,H,I,_⟩:=GR (n:=n) (a:=q.zG) O0 b n 0 [] [] O0 O0 O2 ⟨rfl,O2,O2⟩;rw [show((0:Nat):Int)=0 from rfl,List.drop_zero]at v w x z A C;rw [show((0:Nat):Int)=0 from rfl]at H;rw [List.drop_zero]at I;have L:w5 n q.zG=some o:=by unfold w5; rw [H]; rfl
  rw [v,w,x,z,A,C,L];have r:=oe q.zG []
  by_cases p:q.zG.all isV=true
  ·rw [iI p,iI p];simp only [xb,iG];rw [I.len]at *;simp only [List.length_nil,Nat.zero_add]at r
   by_cases M:o.length<q.zG.length
   ·rw [iI O4,iI (by rw [bne_iff_ne]; omega)]; exact⟨_,rfl,rfl⟩
   ·rw [iH O4,iH (by rw [bne_iff_ne]; omega)];unfold DG
    by_cases E:kw jL q.ym=0
    ·rw [iI E];simp only []
     by_cases F:kw Ys q.zy=0
     ·rw [iI F]; exact⟨_,rfl,rfl⟩
     ·rw [iH F]; exact⟨_,rfl,rfl⟩
    ·rw [iH E]; exact⟨_,rfl,rfl⟩
  ·rw [iH p,iH p]; exact⟨_,rfl,rfl⟩
def n5 {n:Nat} (a:List Bs) (g:a.length<=12):∀(k i:Nat),i<=a.length->a.length-i<k->xA n a 200 k (i:Int)=some (.ret false)∨(xA n a 200 k (i:Int)=some (.nxt ())∧∀s∈a.drop i,s.length<=200)
 |0,_,_,h=>O0
 | k + 1,i,j,l=>by
  rw [xA]
  by_cases f:i<a.length
  ·rw [iI O4,xa f,iG]
   by_cases h:a[i].length<=200
   ·rw [iH O4,w1 O0];rcases n5 a g k (i+1) O0 O0 with b|⟨b,c⟩
    ·exact .inl b
    ·refine .inr ⟨b, ?_⟩;rw [iM f];intro s e;rcases List.mem_cons.1 e with rfl|e
     ·exact h
     ·exact c s e
   ·rw [iI O4]; exact .inl rfl
  ·rw [iH O4,List.drop_eq_nil_of_le O0];exact .inr ⟨rfl,O2⟩
def zbW {n:Nat} (a:List Bs) (f:100<=n):∃b,vx n a 12 200=some b∧(b=true->a.length<=12∧∀s∈a,s.length<=200):=by
 unfold vx
 by_cases h:a.length<=12
 ·rw [iH O4];have:=n5 (n:=n) a h n 0 O0 O0;rw [show((0:Nat):Int)=0 from rfl,List.drop_zero]at this;rcases this with c|⟨c,e⟩
  ·rw [c]; exact⟨false,rfl,fun h=>by cases h⟩
  ·rw [c]; exact⟨true,rfl,fun _=>⟨h,e⟩⟩
 ·rw [iI O4]; exact⟨false,rfl,fun h=>by cases h⟩
def BO {n:Nat} (l:List Gen) (q:l.length<=20) (o:1000<=n):∀(k i:Nat),i<=l.length->l.length-i<k->yi n l k (i:Int)=some (.ret false)∨(yi n l k (i:Int)=some (.nxt ())∧∀g∈l.drop i,BdG 300 g∧BdN 252 g.zL.zu)
 |0,i,_,h=>O0
 | k + 1,i,r,s=>by
  rw [yi]
  by_cases m:i<l.length
  ·obtain ⟨b,j,c⟩:=Bq (n:=n) l[i].zL.zu o;rw [iI O4];simp only [xa m,iG,j]
   by_cases h:l[i].wb.length<=300
   ·rw [iH O4,iG]
    cases b with
    |false=>rw [iI O1]; exact .inl rfl
    | true=>
     rw [iH O1,w1 O0];rcases BO (n:=n) l q o k (i+1) O0 O0 with f|⟨f,p⟩
     ·exact .inl f
     ·refine .inr ⟨f,fun a e=> ?_⟩;rw [iM m]at e;rcases List.mem_cons.1 e with rfl|e
      ·exact⟨⟨h,(c rfl).mono O0⟩,c rfl⟩
      ·exact p a e
   ·rw [iI O4,iG,iI O1]; exact .inl rfl
  ·rw [iH O4,List.drop_eq_nil_of_le O0];exact .inr ⟨rfl,O2⟩
def nL {n:Nat} (l:List Gen) (e:1000<=n):∃b,wd n l=some b∧(b=true->l.length<=20∧∀g∈l,BdG 300 g∧BdN 252 g.zL.zu):=by
 unfold wd
 by_cases h:l.length<=20
 ·rw [iH O4];have:=BO (n:=n) l h e n 0 O0 O0;rw [show((0:Nat):Int)=0 from rfl,List.drop_zero]at this;rcases this with a|⟨a,c⟩
  ·rw [a]; exact⟨false,rfl,fun h=>by cases h⟩
  ·rw [a]; exact⟨true,rfl,fun _=>⟨h,c⟩⟩
 ·rw [iI O4]; exact⟨false,rfl,fun h=>by cases h⟩
def PE {n:Nat}:∀(k i:Nat) (l:List Bs),i<=9->9-i<k->l.length+(9-i)<=20->(∀s∈l,s.length<=100)->∃r,xx n k (i:Int) l=some r∧r.length<=20∧∀s∈r,s.length<=100
 |0,i,l,_,h,_,_=>O0
 | k+1,i,l,c,e,f,a=>by
  rw [xx]
  by_cases b:i<9
  ·rw [iI O4,fG (by simp [b2s]),iG,vG (by rw [List.length_singleton]; omega),iG,w1 O0];refine PE k (i+1) _ O0 O0 (by rw [iO,List.length_singleton]; omega) fun s h=> ?_;rcases List.mem_append.1 h with h|h
   ·exact a s h
   ·rw [List.mem_singleton]at h; subst h; simp [b2s]
  ·rw [iH O4];exact⟨_,rfl,O0,a⟩
def Z5 {t k ml:Int} {pu:Bs} {ps:List Bs} {c b2 e f:Bool} {nm:List Gen} {an:List Anc} (l:pu.length<=100) (i:ps.length<=20∧∀s∈ps,s.length<=100) (b:nm.length<=2∧∀g∈nm,BdG 252 g) (j:an.length<=3∧∀a∈an,BdN 252 a.zL.zu):
  QS 300 ⟨t,pu,k,ps,c,b2,e,nm,ml,f,an⟩:=⟨O0,by show pu.length<=300; omega,fun s h=>by have:=i.2 s h; omega,fun g h=>⟨by have:=(b.2 g h).1; omega,(b.2 g h).2.mono O0⟩,fun a h=>(j.2 a h).mono O0,by show ps.length<=1000; omega,by show nm.length<=1000; omega,by show an.length<=1000; omega⟩
def tA {α:Type} {P:α->Prop} {k:Nat} {l:List α} {x:α} (h:l.length<=k∧∀y∈l,P y) (b:P x):(l ++ [x]).length<=k+1∧∀y∈l ++ [x],P y:=⟨by rw [iO,List.length_singleton]; omega,fun y c=>by
 rcases List.mem_append.1 c with a|a
 ·exact h.2 y a
 ·rw [List.mem_singleton]at a; subst a; exact b⟩
def ke {α:Type} {P:α->Prop} {k m:Nat} {l:List α} (h:l.length<=k∧∀y∈l,P y) (a:k<=m:=by omega):l.length<=m∧∀y∈l,P y:=⟨O0,h.2⟩
def D4 {n:Nat} {d:zc} (S:100000<=n) (hd:w9 d):∃q M,wM n d=some (q,M)∧QS 300 q:=by
 unfold wM;obtain⟨t,pu,us,ps,W,X,Y,nm,ml,Z,an,d1,N,T,e,c,A,b⟩:=nX (n:=n) S hd;obtain⟨h,d2,O,U,z2,v⟩:=wi (n:=n) (k:=14) O1 O1 T;have a:nm.length<=1∧∀g∈nm,BdG 252 g:=A;rw [N,iG]; dsimp only;rw [O,iG]; dsimp only
 by_cases B:(h==0)=true
 ·rw [iI B];obtain⟨r,z,f,j,m,w⟩:=wi (n:=n) (k:=3) O1 O1 v;obtain⟨x,ex⟩:=pk (s:=([-1,254033452799,254033452800]:List Int)) (i:=r) j (O7 m);rw [f,iG]; dsimp only;rw [ex];exact⟨_,_,rfl,Z5 e (ke c) (ke a) (ke b)⟩
 rw [iH B]
 by_cases C:(h==1)=true
 ·rw [iI C];exact⟨_,_,rfl,Z5 (show(4:Nat)<=100 by decide) (ke c) (ke a) (ke b)⟩
 rw [iH C]
 by_cases E:(h==2)=true
 ·rw [iI E];obtain⟨r,z,f,j,m,w⟩:=wi (n:=n) (k:=3) O1 O1 v;obtain⟨x,ex⟩:=pk (s:=([-1,511,512]:List Int)) (i:=r) j (O7 m);rw [f,iG]; dsimp only;rw [ex];exact⟨_,_,rfl,Z5 e (ke c) (ke a) (ke b)⟩
 rw [iH E]
 by_cases F:(h==3)=true
 ·rw [iI F];obtain⟨r,z,f,j,m,w⟩:=wi (n:=n) (k:=3) O1 O1 v;obtain⟨x,ex⟩:=pk (s:=([0,8,9]:List Int)) (i:=r) j (O7 m);rw [f,iG]; dsimp only;rw [ex];exact⟨_,_,rfl,Z5 e (ke c) (ke a) (ke b)⟩
 rw [iH F]
 by_cases G:(h==4)=true
 ·rw [iI G];obtain⟨p,ep,lp⟩:=Jg (n:=n) (x:=0) O1;obtain⟨r,z,f,j,m,w⟩:=wi (n:=n) (k:=3) O1 O1 v;obtain⟨x,ex,mx⟩:=Ju (l:=([([49,46,50,46,51]:List UInt8),([120]:List UInt8),p]:List Bs)) (i:=r) j (O7 m)
  have o:x.length<=100:=by
   rcases List.mem_cons.1 mx with rfl|mx
   ·decide
   rcases List.mem_cons.1 mx with rfl|mx
   ·decide
   rw [List.mem_singleton]at mx; subst mx; exact lp
  rw [ep,iG,f,iG]; dsimp only;rw [ex,iG,vG (by rw [List.length_singleton]; omega)];exact⟨_,_,rfl,Z5 e (ke (tA c o)) (ke a) (ke b)⟩
 rw [iH G]
 by_cases H:(h==5)=true
 ·rw [iI H,Q5 O0];exact⟨_,_,rfl,Z5 e (ke c) (tA a ⟨O1,by simp [BdN]⟩) (ke b)⟩
 rw [iH H]
 by_cases I:(h==6)=true
 ·rw [iI I];obtain⟨x,z,f,o,w⟩:=cF (n:=n) O0 v;obtain⟨y,d4,P,k4⟩:=zb7 (n:=n) O0 w;rw [f,iG]; dsimp only;rw [P,iG]; dsimp only;rw [Q5 O0];exact⟨_,_,rfl,Z5 e (ke c) (ke a) (tA b o)⟩
 rw [iH I]
 by_cases K:(h==7)=true
 ·rw [iI K];obtain⟨x,f,o⟩:=Xe (n:=n) (r:=0) O0 O1 O1;rw [f,iG,Q5 O0];exact⟨_,_,rfl,Z5 e (ke c) (ke a) (tA b o)⟩
 rw [iH K]
 by_cases L:(h==8)=true
 ·rw [iI L];obtain⟨l,f,Q⟩:=PE (n:=n) n 0 ps O0 O0 O0 c.2;rw [show((0:Nat):Int)=0 from rfl]at f;rw [f,iG];exact⟨_,_,rfl,Z5 e Q (ke a) (ke b)⟩
 rw [iH L];exact⟨_,_,rfl,Z5 e (ke c) (ke a) (ke b)⟩
def zaF {n:Nat} (o:2000<=n) (q:zv) (m:q.zy.length<=5):∀(k i:Nat),i<=q.zy.length->q.zy.length-i<k->zS n q k (i:Int)=some (.ret true)∨(zS n q k (i:Int)=some (.nxt ())∧∀a∈q.zy.drop i,BdN 252 a.zL.zu)
 |0,i,_,h=>O0
 | k + 1,i,p,r=>by
  rw [zS]
  by_cases g:i<q.zy.length
  ·obtain ⟨b,e,f⟩:=Bq (n:=n) q.zy[i].zL.zu O0;rw [iI O4,xa g,iG,e,iG]
   cases b with
   |false=>rw [iI O1]; exact .inl rfl
   | true=>
    rw [iH O1,w1 O0];rcases zaF o q m k (i+1) O0 O0 with h|⟨j,l⟩
    ·exact .inl h
    ·refine .inr ⟨j,fun a c=> ?_⟩;rw [iM g]at c;rcases List.mem_cons.1 c with rfl|c
     ·exact f rfl
     ·exact l a c
  ·rw [iH O4,List.drop_eq_nil_of_le O0];exact .inr ⟨rfl,O2⟩
def Kj {n:Nat} (c:2000000<=n) (l:List Int) (q:zv) (r:l.length<=9223372036854775807):yR n l q=some true:=by
 have hd:w9 ⟨l,0⟩:=⟨O2,O2,r⟩
 obtain⟨y,f,j⟩:=zbW (n:=n) q.zG O0;obtain⟨A,i,k⟩:=nL (n:=n) q.ym O0;unfold yR;rw [f,iG,i,iG]
 by_cases H:q.u0.length<=200
 ·rw [iH O4]
  cases y with
  |false=>rfl
  | true=>
   rw [iH O1]
   cases A with
   |false=>rfl
   | true=>
    rw [iH O1,iG]
    by_cases m:q.zy.length<=5
    ·rw [iH O4];obtain⟨I,v⟩:=j rfl;obtain⟨K,w⟩:=k rfl;have b:=zaF (n:=n) O0 q m n 0 O0 O0;rw [show((0:Nat):Int)=0 from rfl,List.drop_zero]at b;rcases b with b|⟨b,o⟩
     ·rw [b]; rfl
     ·rw [b];obtain⟨p,G,e,t⟩:=D4 (n:=n) O0 hd;obtain⟨x,C,E⟩:=Bh (n:=n) c t;obtain⟨z,z1,F⟩:=Bh (n:=n) (B:=300) (q:=q) c ⟨O0,O0,fun s h=>by have:=v s h; omega,fun g h=>(w g h).1,fun a h=>(o a h).mono O0,O0,O0,O0⟩;dsimp only [xb];rw [show ue n l=some ⟨l,0⟩from rfl,iG,e,iG];dsimp only;rw [C,iG,E,iG,z1,iG,F,iG];simp [Zt]
    ·rw [iI O4]; rfl
 ·rw [iI O4]; rfl
def B9 (l:List Int) (q:zv) (a:l.length<=9223372036854775807):yR 2000000 l q=some true:=Kj (iP _) l q a
end Go.Abs
end
