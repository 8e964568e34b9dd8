/- The typed Lean form of WireDecodesQueries gives true for every list of at most 9223372036854775807 numbers. -/
import Derived.Test.YtbggpcnbbhjiaaaGreatDoorLaw1
set_option linter.unusedVariables false
set_option linter.unusedSimpArgs false
set_option linter.unnecessarySimpa false
section
set_option maxRecDepth 100000
namespace Go.Abs
open Go Go.Proofs IntKind
def o8 (n:Nat):UInt8:=UInt8.ofNat n
def GI (t n:Nat):Bs:=
 if n<128 then [o8 t,o8 n]else if n<256 then [o8 t,129,o8 n]else if n<65536 then [o8 t,130,o8 (n/256),o8 n]else [o8 t,131,o8 (n/65536),o8 (n/256),o8 n]
def tWrap (t:Nat) (c:Bs):Bs×Int:=if c.length≤131072 then(GI t c.length++c,0)else([],6)
theorem gG (n:Nat):UInt8.ofNat (wrap .u8 (n:Int)).toNat=o8 n:=by
 have h:wrap .u8 (n:Int)=((n%256:Nat):Int):=by
  rw [wrap]; simp [IntKind.signed,IntKind.bits]
 rw [h]; unfold o8
 apply UInt8.toNat_inj.1
 simp; omega
theorem eZ (a b:Nat) (h:0<b):Int.fdiv (a:Int) (b:Int)=((a/b:Nat):Int):=by
 rw [Int.fdiv_eq_ediv_of_nonneg _ O0]; rfl
theorem DV (t n:Nat):2≤(GI t n).length∧(GI t n).length≤5:=by
 unfold GI; split
 ·simp
 ·split
  ·simp
  ·split<;>simp
theorem yc (t:Nat) (c:Bs):(tWrap t c).1.length≤c.length+5:=by
 unfold tWrap; split
 ·have:=DV t c.length; simp; omega
 ·simp
theorem mQ {n:Nat} (cs:List Bs) (hm:∀c∈cs,c.length≤1000000000000):∀(k:Nat) (pre suf:List Bs),cs=pre++suf→suf.length<k→cs.length≤1000000000000→pre.flatten.length≤131072 →
  br n cs k (pre.flatten.length:Int) (pre.length:Int)=some (if cs.flatten.length≤131072 then .nxt (cs.flatten.length:Int)else .ret ([],6))
 |0,_,_,_,h,_,_=>O0
 | k+1,pre,[],hp,hk,hl,ht=>by
  simp at hp; subst hp
  rw [br,L4 (by simp [-List.length_flatten]),L6 ht]
 | k+1,pre,c::suf,hp,hk,hl,ht=>by
  have hlen:cs.length=pre.length+(suf.length+1):=by rw [hp]; simp [-List.length_flatten]
  have hfl:cs.flatten.length=pre.flatten.length+(c.length+suf.flatten.length):=by rw [hp,List.flatten_append,L8,List.flatten_cons,L8]
  have hx:zM cs (pre.length:Int)=some c:=by
   rw [zQ O0]; congr 1; simp [hp]
  rw [br,L6 O6,hx]
  simp only [L0]
  rw [z6 (x:=(131072:Int)-(pre.flatten.length:Int)) O0]
  have hc:=hm c (by rw [hp]; simp)
  by_cases hb:pre.flatten.length+c.length≤131072
  ·have ih:=mQ (n:=n) cs hm k (pre ++ [c]) suf (by rw [hp]; simp) (by simp at hk; omega) hl (by rw [List.flatten_append,L8]; simp [-List.length_flatten]; omega)
   rw [L4 O6,z6 O0,w1 O0]
   rw [show((pre.flatten.length:Int)+(c.length:Int))=(((pre ++ [c]).flatten.length:Nat):Int)by rw [List.flatten_append,L8]; simp [-List.length_flatten],show pre.length+1=(pre ++ [c]).length by simp]
   exact ih
  ·rw [L6 O6,L4 O0]
theorem QF (cs:List Bs):Lib.join cs []=cs.flatten:=by
 induction cs with
 |nil=>rfl
 |cons c r ih=>rw [Lib.join_cons]; simp [Lib.joinTail]
theorem zbH {n:Nat} {cs:List Bs} (h1:cs.flatten.length≤140737488355328) (h2:cs.length≤140737488355328):WY n cs []=some cs.flatten:=by
 unfold WY; rw [QF,L6 ⟨h1,h2⟩]
theorem Vm {n:Nat} {t:Nat} {cs:List Bs} (h1:t≤255) (h2:t%32≠31) (hm:∀c∈cs,c.length≤1000000000000) (hn:cs.length<n) (hl:cs.length≤1000000000000):
  vb n (t:Int) cs=some (tWrap t cs.flatten):=by
 unfold vb tWrap
 have h31:(uU .i64 (t:Int) 31==31)=false:=by
  have:=zb2 (UInt8.ofNat t)
  rw [show(UInt8.ofNat t).toNat=t by simp [-List.length_flatten]; omega]at this
  rw [this]; simp [h2]
 rw [L4 (by simp [-List.length_flatten]),L4 O6,h31]
 simp only [L0,Bool.false_eq_true,if_false]
 have:=mQ (n:=n) cs hm n [] cs rfl hn hl (by simp [-List.length_flatten])
 simp only [List.flatten_nil,Lm]at this
 rw [show((0:Nat):Int)=0 from rfl]at this
 rw [this]
 by_cases hc:cs.flatten.length≤131072
 ·rw [L6 hc,L6 hc]
  simp only [yb]
  generalize hL:cs.flatten.length=L at *
  have e1:Int.fdiv (L:Int) 256=((L/256:Nat):Int):=eZ L 256 O0
  have e2:Int.fdiv (L:Int) 65536=((L/65536:Nat):Int):=eZ L 65536 O0
  rw [e1,e2,zbH O0 O0]
  unfold GI
  by_cases a1:L<128
  ·rw [L6 O6,L6 a1]
   simp only [gP,L0]
   simp [um,b2s,gG,hL]
   have:2+L≤9223372036854775807:=O0
   simp [this]
  ·by_cases a2:L<256
   ·rw [L4 O6,L6 O6,L4 a1,L6 a2]
    simp only [gP,L0]
    simp [um,b2s,gG,hL]
    have:3+L≤9223372036854775807:=O0
    simp [this]
   ·by_cases a3:L<65536
    ·rw [L4 O6,L4 O6,L6 O6,L4 a1,L4 a2,L6 a3]
     simp only [gP,L0]
     simp only [um,b2s,List.map_append,Le,List.map_nil,gG,L8,La,Lm,hL]
     have:0+1+(0+1+1+1)+L≤9223372036854775807:=O0
     simp [this]
     exact⟨gG t,gG (L/256),gG L⟩
    ·rw [L4 O6,L4 O6,L4 O6,L4 a1,L4 a2,L4 a3]
     simp only [gP,L0]
     simp only [um,b2s,List.map_append,Le,List.map_nil,gG,L8,La,Lm,hL]
     have:0+1+(0+1+1+1+1)+L≤9223372036854775807:=O0
     simp [this]
     exact⟨gG t,gG (L/65536),gG (L/256),gG L⟩
 ·rw [L4 hc,L4 hc]; rfl
theorem fA {n:Nat} (cs:List Bs):∀(k:Nat) (pre suf:List Bs),cs=pre++suf→suf.length<k→cs.length≤1000000000000→cs.flatten.length≤1000000000000 →
  wY n cs k pre.flatten (pre.length:Int)=some cs.flatten
 |0,_,_,_,h,_,_=>O0
 | k+1,pre,[],hp,hk,hl,ht=>by
  simp at hp; subst hp
  rw [wY,L4 (by simp [-List.length_flatten])]
 | k+1,pre,c::suf,hp,hk,hl,ht=>by
  have hlen:cs.length=pre.length+(suf.length+1):=by rw [hp]; simp [-List.length_flatten]
  have hfl:cs.flatten.length=pre.flatten.length+(c.length+suf.flatten.length):=by rw [hp,List.flatten_append,L8,List.flatten_cons,L8]
  have hx:zM cs (pre.length:Int)=some c:=by
   rw [zQ O0]; congr 1; simp [hp]
  rw [wY,L6 O6,hx]
  simp only [L0]
  rw [yd O0,w1 O0]
  simp only [L0]
  have ih:=fA (n:=n) cs k (pre ++ [c]) suf (by rw [hp]; simp) (by simp at hk; omega) hl ht
  simp only [List.flatten_append,List.flatten_cons,List.flatten_nil,Lk,L8,La,Lm,Nat.zero_add]at ih
  exact ih
theorem XL {n:Nat} {t:Nat} {cs:List Bs} (h1:t≤255) (h2:t%32≠31) (hm:cs.flatten.length≤1000000000000) (hn:cs.length<n) (hl:cs.length≤1000000000000):
  xi n (t:Int) cs=some (tWrap t cs.flatten):=by
 unfold xi tWrap
 have h31:(Int.tmod (t:Int) 32==31)=false:=by
  rw [show Int.tmod (t:Int) 32=((t%32:Nat):Int)from rfl]; simp; omega
 rw [L4 (by simp [-List.length_flatten]),L4 O6,h31]
 simp only [L0,Bool.false_eq_true,if_false]
 have:=fA (n:=n) cs n [] cs rfl hn hl hm
 simp only [List.flatten_nil,Lm]at this
 rw [show((0:Nat):Int)=0 from rfl]at this
 rw [this]
 simp only [L0]
 by_cases hc:cs.flatten.length≤131072
 ·rw [L4 O6,L6 hc]
  generalize hL:cs.flatten.length=L at *
  have e1:Int.fdiv (L:Int) 256=((L/256:Nat):Int):=eZ L 256 O0
  have e2:Int.fdiv (L:Int) 65536=((L/65536:Nat):Int):=eZ L 65536 O0
  rw [e1,e2]
  unfold GI
  by_cases a3:L<65536
  ·rw [L4 O6]
   by_cases a2:L<256
   ·rw [L4 O6]
    by_cases a1:L<128
    ·rw [L4 O6,L6 a1]
     simp only [L0]
     rw [yd (by simp [b2s, -List.length_flatten]; omega)]
     simp [b2s,gG]
    ·rw [L6 O6,L4 a1,L6 a2]
     simp only [L0]
     rw [yd (by simp [b2s, -List.length_flatten]; omega)]
     simp [b2s,gG]
   ·rw [L6 O6,L4 O0,L4 a2,L6 a3]
    simp only [L0]
    rw [yd (by simp [b2s, -List.length_flatten]; omega)]
    simp only [b2s,Le,List.map_nil,gG]; rfl
  ·rw [L6 O6,L4 O0,L4 O0,L4 a3]
   simp only [L0]
   rw [yd (by simp [b2s, -List.length_flatten]; omega)]
   simp only [b2s,Le,List.map_nil,gG]; rfl
 ·rw [L6 O6,L4 hc]
theorem Xc {n:Nat} (h:n<256):(o8 n).toNat=n:=by unfold o8; simp; omega
theorem G5 {t:Nat} {c rest:Bs} (h1:t≤255) (h2:t%32≠31) (hc:c.length≤131072):wm ((tWrap t c).1++rest)=(⟨t,c,(tWrap t c).1⟩,rest,0):=by
 unfold tWrap
 rw [L6 hc]
 simp only
 generalize hL:c.length=L at *
 have ht:(o8 t).toNat=t:=Xc O0
 unfold GI
 by_cases a1:L<128
 ·rw [L6 a1]
  have hb:(o8 L).toNat=L:=Xc O0
  simp only [List.cons_append,Lj,wm,ht,hb,h2,if_false]
  rw [L4 O0,L6 a1,L4 O3]
  simp [←hL]
 ·rw [L4 a1]
  by_cases a2:L<256
  ·rw [L6 a2]
   have hb:(o8 L).toNat=L:=Xc O0
   have hn:num ((o8 L::(c++rest)).take 1)=L:=by simp [num,hb]
   simp only [List.cons_append,Lj,wm,ht,h2,if_false]
   rw [L4 O1,L4 O1,show(129:UInt8).toNat-128=1 from rfl,L4 O2,hn,L4 (by simp [least]; omega),L4 O3]
   simp [←hL,show 1+c.length=c.length+1 by omega]
  ·rw [L4 a2]
   by_cases a3:L<65536
   ·rw [L6 a3]
    have hb:(o8 (L/256)).toNat=L/256:=Xc O0
    have hb2:(o8 L).toNat=L%256:=by unfold o8; simp
    have hn:num ((o8 (L/256)::o8 L::(c++rest)).take 2)=L:=by simp [num,hb,hb2]; omega
    simp only [List.cons_append,Lj,wm,ht,h2,if_false]
    rw [L4 O1,L4 O1,show(130:UInt8).toNat-128=2 from rfl,L4 O2,hn,L4 (by simp [least]; omega),L4 O3]
    simp [←hL,show 2+c.length=c.length+1+1 by omega]
   ·rw [L4 a3]
    have hb0:(o8 (L/65536)).toNat=L/65536:=Xc O0
    have hb:(o8 (L/256)).toNat=L/256%256:=by unfold o8; simp
    have hb2:(o8 L).toNat=L%256:=by unfold o8; simp
    have hn:num ((o8 (L/65536)::o8 (L/256)::o8 L::(c++rest)).take 3)=L:=by simp [num,hb0,hb,hb2]; omega
    simp only [List.cons_append,Lj,wm,ht,h2,if_false]
    rw [L4 O1,L4 O1,show(131:UInt8).toNat-128=3 from rfl,L4 O2,hn,L4 (by simp [least]; omega),L4 O3]
    simp [←hL,show 3+c.length=c.length+1+1+1 by omega]
def elm (p:Nat×Bs):zb:=⟨p.1,p.2,(tWrap p.1 p.2).1⟩
def POk (p:Nat×Bs):Prop:=p.1≤255∧p.1%32≠31∧p.2.length≤131072
def wraps (l:List (Nat×Bs)):Bs:=(l.map fun p=>(tWrap p.1 p.2).1).flatten
theorem zaO (t:Nat) {c:Bs} (hc:c.length≤131072):2≤(tWrap t c).1.length:=by
 unfold tWrap; rw [L6 hc]; have:=DV t c.length; simp; omega
theorem Qu:∀(l:List (Nat×Bs)) (k:Nat) (acc:List zb),(∀p∈l,POk p)→(wraps l).length<k→pQ k (wraps l) acc=(acc++l.map elm,0)
 | [],0,acc,_,h=>O0
 | [],k+1,acc,_,_=>by simp [wraps,pQ]
 |p::r,0,acc,_,h=>O0
 | p::r,k+1,acc,hp,h=>by
  obtain⟨h1,h2,h3⟩:=hp p O2
  have hw:wraps (p::r)=(tWrap p.1 p.2).1++wraps r:=by simp [wraps]
  have hne:=zaO p.1 h3
  rw [hw]at h ⊢
  rw [pQ,L4 (by intro h'; have:=congrArg List.length h'; simp at this; simp [this.1]at hne),G5 h1 h2 h3]
  rw [L4 O2]
  rw [Qu r k _ (fun q hq=>hp q (by simp [hq])) (by simp at h; omega)]
  simp [elm]
theorem wV {l:List (Nat×Bs)} (h:∀p∈l,POk p):tList (wraps l)=(l.map elm,0):=by
 unfold tList; rw [Qu l _ [] h O0]; rfl
theorem XD {t:Nat} {c:Bs} (h1:t≤255) (h2:t%32≠31) (hc:c.length≤131072):vE (tWrap t c).1=(⟨t,c,(tWrap t c).1⟩,0):=by
 have:=G5 (rest:= []) h1 h2 hc
 rw [Lk]at this
 unfold vE
 rw [this]; simp
theorem Jf {n k:Nat} (h:k≤n):∃m,n=m+k:=⟨n-k,O0⟩
theorem UI {α:Type} {l:List α} {x:α}:lsl (x::l) 1 ((x::l).length:Nat)=some l:=by
 unfold lsl
 rw [L6 O3]
 simp
def yy (c:UInt8):Bs→List Bs
 | []=> [[]]
 | x::r=>if x=c then []::yy c r else match yy c r with
  |p::ps=>(x::p)::ps
  | []=> [[x]]
theorem U9 (c:UInt8) (s:Bs):yy c s≠ []:=by
 cases s with
 |nil=>simp [yy]
 | cons x r=>
  simp only [yy]; split
  ·simp
  ·split<;>simp
theorem V7 (c:UInt8) (s:Bs):(yy c s).length=s.count c+1:=by
 induction s with
 |nil=>rfl
 | cons x r ih=>
  simp only [yy]
  by_cases h:x=c
  ·subst h; rw [L6 rfl]; simp [ih]
  ·rw [L4 h,List.count_cons_of_ne h]
   split
   ·rename_i p ps hp; rw [hp]at ih; simpa using ih
   ·rename_i hp; exact absurd hp (U9 c r)
theorem Zp {c:UInt8} {p:Bs} (hp:c∉p):yy c p= [p]∧∀r,yy c (p++c::r)=p::yy c r:=by
 induction p with
 |nil=>exact⟨rfl,fun r=>by simp [yy]⟩
 | cons x q ih=>
  simp only [Lp,not_or]at hp
  obtain⟨h1,h2⟩:=ih hp.2
  refine⟨?_,fun r=> ?_⟩
  ·simp only [yy]; rw [L4 (Ne.symm hp.1),h1]
  ·simp only [List.cons_append,yy]; rw [L4 (Ne.symm hp.1),h2 r]
theorem eX {c x:UInt8} {p r:Bs} (hp:c∉p) (hx:x≠c):∃q ps,yy c (p++x::r)=(p++x::q)::ps:=by
 induction p with
 | nil=>
  simp only [Lj,yy]; rw [L4 hx]
  split
  ·exact⟨_,_,rfl⟩
  ·exact⟨[],[],rfl⟩
 | cons y q ih=>
  simp only [Lp,not_or]at hp
  obtain⟨q',ps,h⟩:=ih hp.2
  simp only [List.cons_append,yy]; rw [L4 (Ne.symm hp.1),h]
  exact⟨q',ps,rfl⟩
theorem VD (c:UInt8):∀s:Bs,(Lib.index s [c]= -1∧c∉s)∨∃p r,s=p++c::r∧Lib.index s [c]=(p.length:Int)∧c∉p
 | []=> .inl ⟨rfl,O2⟩
 | x ::l=>by
  unfold Lib.index
  by_cases h:x=c
  ·subst h; exact .inr ⟨[],l,rfl,by simp [List.isPrefixOf],O2⟩
  ·have hpre:List.isPrefixOf [c] (x::l)=false:=by simp [List.isPrefixOf]; exact fun h'=>absurd h'.symm h
   rw [hpre]
   rcases VD c l with⟨h1,h2⟩|⟨p,r,h1,h2,h3⟩
   ·refine .inl ⟨by simp [h1], ?_⟩
    simp only [Lp,not_or]; exact⟨Ne.symm h,h2⟩
   ·refine .inr ⟨x::p,r,by rw [h1]; rfl, ?_, ?_⟩
    ·rw [h2]
     have:((p.length:Int)== -1)=false:=O2
     simp [this]
    ·simp only [Lp,not_or]; exact⟨Ne.symm h,h3⟩
theorem nk {α:Type} {l:List α} {x y:α} {r:List α} {i:Nat} (h:i=l.length):Wt (l++y::r) (i*1) x=some (l++x::r):=by
 subst h
 unfold Wt
 rw [Nat.mul_one,L6 O2]
 simp
theorem KW {n:Nat} {c:UInt8} {s:Bs} (hs:s.length≤1000000000) (m:Nat) (hm:m=s.count c+1):∀(k i:Nat) (v:Bs) (done:List Bs),done.length=i→i+v.count c+1=m→v.length≤s.length→v.count c<k →
  ∃w done2,uW n s (m:Int) [c] 0 m k v (i:Int) (done++List.replicate (m-i) [])=some (w,((m-1:Nat):Int),done2++List.replicate 1 [])∧done2.length=m-1∧done++yy c v=done2 ++ [w]
 |0,_,_,_,_,_,_,h=>O0
 | k + 1,i,v,done,hd,hi,hv,hk=>by
  have hcs:s.count c≤s.length:=List.count_le_length
  rw [uW]
  have e1:wrap .i64 ((s.length:Int)+1)=((s.length+1:Nat):Int):=by rw [z6 O0]; omega
  rw [e1]
  have e2:(if(((s.length+1:Nat):Int))<(m:Int)then((s.length+1:Nat):Int)else(m:Int))=(m:Int):=by
   rw [L4 O0]
  rw [e2,z6 (x:=(m:Int)-1) O0]
  by_cases hc:i<m-1
  ·rw [L6 O3]
   have hidx:YL n v [c]=some (Lib.index v [c]):=by unfold YL; rw [L6 O0]
   rw [hidx]
   simp only [L0]
   rcases VD c v with⟨h1,h2⟩|⟨p,r,h1,h2,h3⟩
   ·have:v.count c=0:=List.count_eq_zero.2 h2
    omega
   ·have hvc:v.count c=r.count c+1:=by rw [h1,List.count_append,List.count_eq_zero.2 h3]; simp
    have hvl:v.length=p.length+1+r.length:=by rw [h1]; simp; omega
    rw [h2,L4 O2,z6 (x:=(p.length:Int)+0) O0,Int.add_zero]
    have s1:ssl v 0 (p.length:Int)=some p:=by
     rw [show(0:Int)=((0:Nat):Int)from rfl,kX O0 O0,h1]; simp
    have s2:ssl v (wrap .i64 ((p.length:Int)+(([c]:Bs).length:Int))) (v.length:Int)=some r:=by
     rw [show(([c]:Bs).length:Int)=1 from rfl,w1 O0,kX O0 O0,List.take_length,h1,show p.length+1=(p ++ [c]).length by simp,show p++c::r=(p ++ [c])++r by simp,List.drop_left]
    have s3:gu m (i:Int)=some i:=by unfold gu; rw [L6 O0]; simp
    have hrep:List.replicate (m-i) ([]:Bs)= []::List.replicate (m-(i+1)) []:=by
     rw [show m-i=(m-(i+1))+1 by omega,List.replicate_succ]
    rw [s1,s3,s2,hrep]
    simp only [L0]
    rw [nk hd.symm,w1 O0]
    simp only [L0]
    have ih:=KW (n:=n) hs m hm k (i+1) r (done ++ [p]) (by simp [hd]) O0 O0 O0
    obtain⟨w,d2,g1,g2,g3⟩:=ih
    refine⟨w,d2, ?_,g2, ?_⟩
    ·rw [←g1]; simp
    ·rw [←g3,h1,(Zp h3).2 r]; simp
  ·rw [L4 O3]
   have hi':i=m-1:=O0
   have h0:v.count c=0:=O0
   have hn:c∉v:=List.count_eq_zero.1 h0
   refine⟨v,done, ?_,O0,by rw [(Zp hn).1]⟩
   rw [hi',show m-(m-1)=1 by omega]
theorem JE {n:Nat} {c:UInt8} {s:Bs} (hs:s.length≤1000000000) (hn:s.length+2≤n):dc n s [c]=some (yy c s):=by
 unfold dc pM
 have hcs:s.count c≤s.length:=List.count_le_length
 rw [L4 O1,L4 O2,L6 O1]
 have hct:QB n s [c]=some ((s.count c:Nat):Int):=rfl
 rw [hct]
 simp only [L0]
 have e0:wrap .i64 (((s.count c:Nat):Int)+1)=((s.count c+1:Nat):Int):=by rw [z6 O0]; omega
 have e1:wrap .i64 ((s.length:Int)+1)=((s.length+1:Nat):Int):=by rw [z6 O0]; omega
 rw [e0,e1]
 generalize hm:s.count c+1=m at *
 have e2:(if(((s.length+1:Nat):Int))<(m:Int)then((s.length+1:Nat):Int)else(m:Int))=(m:Int):=by
  rw [L4 O0]
 rw [e2]
 have hmk:Kg 16 (m:Int) (m:Int)=some m:=by unfold Kg; rw [L6 O0]; simp
 rw [hmk]
 simp only [L0]
 obtain⟨w,d2,g1,g2,g3⟩:=KW (n:=n) (c:=c) hs m hm.symm n 0 s [] rfl O0 (Nat.le_refl _) O0
 rw [show((0:Nat):Int)=0 from rfl,Lj,Nat.sub_zero]at g1
 rw [Lj]at g3
 rw [g1]
 simp only [L0]
 have s3:gu m (((m-1:Nat):Int))=some (m-1):=by unfold gu; rw [L6 O0]; simp
 rw [s3]
 simp only [L0]
 rw [show List.replicate 1 ([]:Bs)= [[]]from rfl,nk g2.symm]
 simp only [L0]
 have e3:wrap .i64 (((m-1:Nat):Int)+1)=(m:Int):=by rw [z6 O0]; omega
 rw [e3]
 have e4:osl m (m:Int)=some m:=by unfold osl; rw [L6 O0]; simp
 rw [e4]
 simp only [L0]
 have e5:QZ m (d2 ++ [w])=some (d2 ++ [w]):=by
  unfold QZ; rw [L6 O3,List.take_of_length_le O3]
 rw [e5,g3]; rfl
def Xw (c:UInt8):Bool:=decide (48≤c.toNat)&&decide (c.toNat≤57)
def dval (p:Bs):Nat:=p.foldl (fun n c=>10*n+(c.toNat-48)) 0
def gL (p:Bs):Bool:=decide (p≠ [])&&decide (p.length≤10) && !(decide (1<p.length)&&decide (p.head? =some 48))&&p.all Xw&&decide (dval p≤2147483647)
def XX (l:List Nat):Bool:=match l with
 |a::b::_=>(decide (a≤1)&&decide (b≤39))||decide (a=2)
 |_=>false
def xG (s:Bs):Option (List Nat):=
 if 2≤(yy 46 s).length∧(yy 46 s).length≤12∧(yy 46 s).all gL=true∧XX ((yy 46 s).map dval)=true then some ((yy 46 s).map dval)else none
def yC (l:List Nat):List Int:=l.map fun n:Nat=>(n:Int)
theorem ZI (p:Bs):gL p=true↔p≠ []∧p.length≤10∧¬(1<p.length∧p.head? =some 48)∧p.all Xw=true∧dval p≤2147483647:=by
 unfold gL
 simp only [Lf,L3,Bool.not_eq_true',Bool.and_eq_false_imp,decide_eq_false_iff_not,and_assoc,not_and]
theorem WR {p:Bs} (h:¬(p≠ []∧p.length≤10∧¬(1<p.length∧p.head? =some 48)∧p.all Xw=true∧dval p≤2147483647)):gL p=false:=by
 rw [Bool.eq_false_iff]; exact fun h'=>h ((ZI p).1 h')
theorem Gm {c:UInt8} (hc:Xw c=true) {v:Nat} (hv:v<100000000000):wrap .i64 (wrap .i64 ((10:Int)*(v:Int))+wrap .i64 (wrap .u8 ((c.toNat:Int)-48)))=((10*v+(c.toNat-48):Nat):Int):=by
 simp only [Xw,Lf,L3]at hc
 rw [wr8 O0 O0,z6 (x:=(10:Int)*(v:Int)) O0,z6 (x:=(c.toNat:Int)-48) O0,z6 O0]
 omega
theorem GP {n:Nat} (p:Bs) (hl:p.length≤10):∀(k i v:Nat),i≤p.length→p.length-i<k→v<10^i→(p.take i).all Xw=true →
  dO n p k (v:Int) (i:Int)=some (if(p.drop i).all Xw=true then .nxt (((p.drop i).foldl (fun n c=>10*n+(c.toNat-48)) v:Nat):Int)else .ret (-1))
 |0,i,v,_,h,_,_=>O0
 | k + 1,i,v,hi,hk,hv,hd=>by
  rw [dO]
  by_cases hc:i<p.length
  ·rw [L6 O3,vj hc]
   simp only [L0]
   have hdr:p.drop i=p[i]::p.drop (i+1):=Lc hc
   have hv10:v<10000000000:=Nat.lt_of_lt_of_le hv (Nat.le_trans (Nat.pow_le_pow_right O0 (show i≤10 by omega)) O1)
   rw [hdr,List.all_cons,List.foldl_cons]
   by_cases hdg:Xw p[i]=true
   ·have h2:=hdg
    simp only [Xw,Lf,L3]at h2
    rw [L4 O3]
    simp only [L0]
    rw [L4 O3,Gm hdg O0,w1 O0,hdg,Bool.true_and]
    refine GP p hl k (i+1) _ O0 O0 ?_ ?_
    ·rw [Nat.pow_succ]; omega
    ·rw [List.take_succ_eq_append_getElem hc,List.all_append,hd]; simp [hdg]
   ·have h2:p[i].toNat<48∨57<p[i].toNat:=by
     simp only [Xw,Lf,L3]at hdg; omega
    have:(if(decide (((p[i]).toNat:Int)<48))=true then some true else some (decide (((p[i]).toNat:Int)>57)))=some true:=by
     by_cases h:p[i].toNat<48
     ·rw [L6 O3]
     ·rw [L4 O3]; simp; omega
    rw [this]
    simp only [Bool.not_eq_true]at hdg
    simp [hdg]
  ·have:i=p.length:=O0
   subst this
   rw [L4 O2]
   simp
theorem zbl {n:Nat} {p:Bs} (hn:20≤n) (hp:p.length≤1000000000):VM n p=some (if gL p=true then((dval p:Nat):Int)else -1):=by
 unfold VM
 match p,hp with
 | [],_=>simp [gL]
 | c :: r,hp=>
  rw [L4 O2]
  by_cases h10:(c::r).length≤10
  ·rw [L4 (by simp; simp at h10; omega)]
   have h0:yr (c::r) 0=some (c.toNat:Int):=by simp [yr]
   rw [h0]
   simp only [L0]
   by_cases hz:c=48∧1<(c::r).length
   ·have:gL (c::r)=false:=WR fun h=>h.2.2.1 ⟨hz.2,by rw [hz.1]; rfl⟩
    rw [L6 (by rw [hz.1]; rfl),this]
    have:=hz.2
    simp at this
    have h3:decide (((c::r).length:Int)>1)=true:=O3
    rw [h3]; rfl
   ·have hb:(if((c.toNat:Int)==48)=true then some (decide (((c::r).length:Int)>1))else some false)=some false:=by
     by_cases h:c=48
     ·rw [L6 (by rw [h]; rfl)]
      have:¬1<(c::r).length:=fun h'=>hz ⟨h,h'⟩
      have h3:decide (((c::r).length:Int)>1)=false:=by rw [decide_eq_false_iff_not]; omega
      rw [h3]
     ·rw [L4]
      simp
      intro h'
      have:(48:UInt8).toNat=48:=rfl
      exact h (UInt8.toNat_inj.1 O0)
    rw [hb]
    simp only [L0,Bool.false_eq_true,if_false]
    have:=GP (n:=n) (c::r) h10 n 0 0 O0 O0 O2 O2
    rw [show((0:Nat):Int)=0 from rfl,Li]at this
    rw [this]
    by_cases ha:(c::r).all Xw=true
    ·rw [L6 ha]
     simp only [yb]
     by_cases hm:dval (c::r)≤2147483647
     ·have hok:gL (c::r)=true:=(ZI _).2 ⟨O2,h10,fun h=>hz ⟨by simpa using h.2,h.1⟩,ha,hm⟩
      rw [hok,L6 rfl]
      rw [L4]
      ·rfl
      ·show ¬decide (((dval (c::r):Nat):Int)>2147483647)=true
       simp; omega
     ·have hok:gL (c::r)=false:=WR fun h=>hm h.2.2.2.2
      rw [hok,L6]
      ·rfl
      ·show decide (((dval (c::r):Nat):Int)>2147483647)=true
       simp; omega
    ·have hok:gL (c::r)=false:=WR fun h=>ha h.2.2.2.1
     rw [L4 ha,hok]; rfl
  ·have hok:gL (c::r)=false:=WR fun h=>h10 h.2.1
   rw [L6 (by simp; simp at h10; omega),hok]; rfl
theorem xh (l:List Nat):(yC l).length=l.length:=by simp [yC]
theorem K3 {n:Nat} (hn:20≤n) (ps:List Bs) (hp:∀p∈ps,p.length≤1000000000) (hl:ps.length≤1000000000):∀(k:Nat) (pre suf:List Bs),ps=pre++suf→suf.length<k→pre.all gL=true →
  bq n ps k (yC (pre.map dval)) (pre.length:Int)=some (if suf.all gL=true then .nxt (yC (ps.map dval))else .ret none)
 |0,_,_,_,h,_=>O0
 | k+1,pre,[],hps,hk,ha=>by
  simp at hps; subst hps
  rw [bq,L4 O2]; simp
 | k+1,pre,p::suf,hps,hk,ha=>by
  have hlen:ps.length=pre.length+(suf.length+1):=by rw [hps]; simp
  have hx:zM ps (pre.length:Int)=some p:=by
   rw [zQ O0]; congr 1; simp [hps]
  rw [bq,L6 O3,hx]
  simp only [L0]
  rw [zbl hn (hp p (by rw [hps]; simp))]
  simp only [L0]
  by_cases ho:gL p=true
  ·rw [L6 ho,L4 O2,yx (by simp [xh]; omega)]
   simp only [L0]
   have e:(p::suf).all gL=suf.all gL:=by simp [ho]
   rw [w1 O0,e]
   have ih:=K3 hn ps hp hl k (pre ++ [p]) suf (by rw [hps]; simp) (by simp at hk; omega) (by simp [ha,ho])
   rw [←ih]
   simp [yC]
  ·have e:(p::suf).all gL=false:=by simp [ho]
   rw [L4 ho,e]
   simp
theorem lY {c:UInt8} {s p:Bs} (h:p∈yy c s):p.length≤s.length:=by
 induction s generalizing p with
 |nil=>simp [yy]at h; subst h; simp
 | cons x r ih=>
  simp only [yy]at h
  split at h
  ·rcases Lp.1 h with h|h
   ·subst h; simp
   ·have:=ih h; simp; omega
  ·split at h
   ·rename_i q ps hq
    rcases Lp.1 h with h|h
    ·subst h
     have:=ih (p:=q) (by rw [hq]; simp)
     simp; omega
    ·have:=ih (p:=p) (by rw [hq]; simp [h])
     simp; omega
   ·simp at h; subst h; simp
theorem cu {n:Nat} {s:Bs} (hs:s.length≤100000000) (hn:s.length+20≤n):YR n s=some ((xG s).map yC):=by
 unfold YR xG
 rw [JE O0 O0]
 simp only [L0]
 have hlen:(yy 46 s).length≤s.length+1:=by
  rw [V7]; have:= @List.count_le_length _ _ (46:UInt8) s; omega
 by_cases h2:2≤(yy 46 s).length∧(yy 46 s).length≤12
 ·have :(if(decide (((yy 46 s).length:Int)<2))=true then some true else some (decide (((yy 46 s).length:Int)>12)))=some false:=by
   rw [L4 O3,decide_eq_false_iff_not.2 O0]
  rw [this]
  simp only [L0,Bool.false_eq_true,if_false]
  have hl:=K3 (n:=n) O0 (yy 46 s) (fun p hp=>by have:=lY hp; omega) O0 n [] (yy 46 s) rfl O0 rfl
  rw [show(yC (List.map dval ([]:List Bs)))= []from rfl,show((([]:List Bs).length:Nat):Int)=0 from rfl]at hl
  rw [hl]
  by_cases ha:(yy 46 s).all gL=true
  ·rw [L6 ha]
   simp only [yb]
   match hd:(yy 46 s).map dval with
   | []=>have:=congrArg List.length hd; rw [Lb,Lm]at this; omega
   | [x]=>have:=congrArg List.length hd; rw [Lb,L9]at this; omega
   | a ::b::l=>
    have h0:zM (yC (a::b::l)) 0=some (a:Int):=by simp [zM,yC]
    have h1:zM (yC (a::b::l)) 1=some (b:Int):=by simp [zM,yC]
    rw [h0,h1]
    simp only [L0]
    have hr:WP n (a:Int) (b:Int)=some (XX (a::b::l)):=by
     unfold WP XX
     have e2:((a:Int)==2)=decide (a=2):=by
      by_cases h:a=2
      ·simp [h]
      ·simp [h]; omega
     rw [e2]
     by_cases c1:a≤1
     ·by_cases c2:b≤39
      ·rw [L6 O3,L6 O3]; simp [c1,c2]
      ·rw [L6 O3,L4 O3]; simp [c2]
     ·rw [L4 O3]; simp [c1]
    rw [hr]
    simp only [L0]
    cases hro:XX (a::b::l)with
    |true=>simp [h2,ha,lne,yC]
    |false=>simp
  ·rw [L4 ha,L4 (fun h=>ha h.2.2.1)]; rfl
 ·have:(if(decide (((yy 46 s).length:Int)<2))=true then some true else some (decide (((yy 46 s).length:Int)>12)))=some true:=by
   by_cases h:(yy 46 s).length<2
   ·rw [L6 O3]
   ·rw [L4 O3,decide_eq_true O0]
  rw [this,L4 (fun h=>h2 ⟨h.1,h.2.1⟩)]; rfl
theorem Vl {n:Nat} {s:Bs} (hs:s.length≤100000000) (hn:s.length+20≤n):gi n s=some (xG s).isSome:=by
 unfold gi
 rw [cu hs hn]
 cases h:xG s with
 |none=>rfl
 | some l=>
  have:l≠ []:=by
   unfold xG at h
   split at h
   ·rename_i hc; injection h with h; subst h
    intro h'
    have:=congrArg List.length h'
    rw [Lb,Lm]at this
    omega
   ·cases h
  cases l with
  |nil=>exact absurd rfl this
  |cons a r=>rfl
theorem PY {n:Nat} (p:Bs) (hl:p.length≤10) (hd:p.all Xw=true):∀(k i v:Nat),i≤p.length→p.length-i<k→v<10^i →
  w4 n p k (v:Int) (i:Int)=some (((p.drop i).foldl (fun n c=>10*n+(c.toNat-48)) v:Nat):Int)
 |0,i,v,_,h,_=>O0
 | k+1,i,v,hi,hk,hv=>by
  rw [w4]
  by_cases hc:i<p.length
  ·rw [L6 O3,vj hc]
   simp only [L0]
   have hdr:p.drop i=p[i]::p.drop (i+1):=Lc hc
   have hv10:v<10000000000:=Nat.lt_of_lt_of_le hv (Nat.le_trans (Nat.pow_le_pow_right O0 (show i≤10 by omega)) O1)
   have hdg:Xw p[i]=true:=Lg.1 hd _ (Ll hc)
   have h2:=hdg
   simp only [Xw,Lf,L3]at h2
   rw [hdr,List.foldl_cons,Gm hdg O0,w1 O0]
   refine PY p hl hd k (i+1) _ O0 O0 ?_
   rw [Nat.pow_succ]; omega
  ·have:i=p.length:=O0
   subst this
   rw [L4 O2]
   simp
def Ph (out:List Nat):List Bs→Ctl (List Int×Bool) (List Int)
 | []=> .nxt (yC out)
 |p::ps=>if gL p=true∧out.length≠12 then Ph (out ++ [dval p]) ps else .ret ([],false)
theorem mT (a b:Nat):((a:Int)==(b:Int))=decide (a=b):=by
 by_cases h:a=b
 ·subst h; simp
 ·simp [h]; omega
theorem zbR {c d:UInt8}:((c.toNat:Int)==(d.toNat:Int))=decide (c=d):=by
 rw [mT]
 by_cases h:c=d
 ·subst h; simp
 ·rw [decide_eq_false h,decide_eq_false]
  exact fun h'=>h (UInt8.toNat_inj.1 h')
theorem rK (p:Bs) (m:Nat):(if((List.length p:Int)==0)=true then(some true)else(if(decide ((List.length p:Int)>10))=true then(some true)else(if(decide ((List.length p:Int)>1))=true then((yr p 0).bind fun x578=>
  if(x578==48)=true then(some true)else(some ((m:Int)==12)))else(some ((m:Int)==12)))))=some (decide (p.length=0∨10<p.length∨(1<p.length∧p.head? =some 48)∨m=12)):=by
 rw [show(12:Int)=((12:Nat):Int)from rfl,mT]
 match p with
 | []=>simp
 | [c]=>simp
 | c ::d::r=>
  rw [L4 O3]
  by_cases h10:10<(c::d::r).length
  ·rw [L6 O4,decide_eq_true (.inr (.inl h10))]
  ·have h0:yr (c::d::r) 0=some (c.toNat:Int):=by simp [yr]
   rw [L4 O4,L6 O3,h0]
   simp only [L0]
   rw [show((c.toNat:Int)==48)=decide (c=48)from zbR (d:=48)]
   by_cases hc:c=48
   ·rw [L6 (by simp [hc]),decide_eq_true (.inr (.inr (.inl ⟨O2,by simp [hc]⟩)))]
   ·rw [L4 (by simp [hc])]
    congr 1
    by_cases hm:m=12
    ·rw [decide_eq_true hm,decide_eq_true (.inr (.inr (.inr hm)))]
    ·rw [decide_eq_false hm,decide_eq_false]
     rintro(h|h|h|h)
     ·simp at h
     ·exact h10 h
     ·exact hc (by simpa using h.2)
     ·exact hm h
theorem KZ {n:Nat} (hn:20≤n) (p:Bs) (out:List Nat) (rest:List Bs) (j:Int) (go:List Int→Int→Option (Ctl (List Int×Bool) (List Int))) (hd:p.all Xw=true) (ho:out.length≤100000000)
  (hnext:gL p=true→go (yC (out ++ [dval p])) j=some (Ph (out ++ [dval p]) rest)):
  yb ((if((List.length p:Int)==0)=true then(some true)else(if(decide ((List.length p:Int)>10))=true then(some true)else(if(decide ((List.length p:Int)>1))=true then((yr p 0).bind fun x578=>
      if(x578==48)=true then(some true)else(some ((List.length (yC out):Int)==12)))else(some ((List.length (yC out):Int)==12))))).bind fun y580=>
     if y580=true then(some (.ret (([]:(List Int)),false)))else((w4 n p n 0 0).bind fun y590=>
     if(decide (y590>2147483647))=true then(some (.ret (([]:(List Int)),false)))else((jR 8 (yC out) ([y590]:List Int)).bind fun x600=>
     some (.nxt (x600,j))))) (fun r=>some (.ret r)) (fun y567=>go y567.1 y567.2)=some (Ph out (p::rest)):=by
 rw [xh,rK,Ph]
 simp only [L0]
 by_cases hb:p.length=0∨10<p.length∨(1<p.length∧p.head? =some 48)∨out.length=12
 ·rw [decide_eq_true hb,L6 rfl,L4]
  ·rfl
  ·intro h
   obtain⟨k1,k2,k3,k4,k5⟩:=(ZI p).1 h.1
   rcases hb with h'|h'|h'|h'
   ·exact k1 (List.eq_nil_of_length_eq_zero h')
   ·omega
   ·exact k3 h'
   ·exact h.2 h'
 ·simp only [not_or]at hb
  obtain⟨b1,b2,b3,b4⟩:=hb
  rw [decide_eq_false (by simp only [not_or]; exact⟨b1,b2,b3,b4⟩),L4 O2]
  have hval:=PY (n:=n) p O0 hd n 0 0 O0 O0 O2
  rw [show((0:Nat):Int)=0 from rfl,Li]at hval
  rw [hval]
  simp only [L0]
  by_cases hm:dval p≤2147483647
  ·have hok:gL p=true:=(ZI p).2 ⟨fun h=>b1 (by rw [h]; rfl),O0,b3,hd,hm⟩
   rw [L4 (by show ¬decide (((dval p:Nat):Int)>2147483647)=true; simp; omega),L6 ⟨hok,b4⟩,yx (by simp [xh]; omega)]
   simp only [L0,yb]
   have e:yC out ++ [((dval p:Nat):Int)]=yC (out ++ [dval p]):=by simp [yC]
   have h3:=hnext hok
   rw [←e]at h3
   exact h3
  ·rw [L6 (by show decide (((dval p:Nat):Int)>2147483647)=true; simp; omega),L4 (fun h=>hm ((ZI p).1 h.1).2.2.2.2)]; rfl
theorem B4 {n:Nat} (hn:20≤n) (s:Bs) (hs:s.length≤100000000):∀(k at_ i:Nat) (out:List Nat),at_≤i→i≤s.length→s.length-i+1<k→((s.take i).drop at_).all Xw=true→out.length+(s.length-i)≤100000000 →
  y4 n s k (yC out) (at_:Int) (i:Int)=some (Ph out (yy 46 (s.drop at_)))
 |0,_,_,_,_,_,h,_,_=>O0
 | k + 1,at_,i,out,ha,hi,hk,hd,ho=>by
  have hcur:s.drop at_=(s.take i).drop at_++s.drop i:=by
   conv=>lhs; rw [←List.take_append_drop i s]
   rw [List.drop_append_of_le_length O3]
  have hno:(46:UInt8)∉(s.take i).drop at_:=fun h=>by
   have:=Lg.1 hd _ h
   exact absurd this O1
  rw [y4,L6 O3]
  by_cases hc:i<s.length
  ·have hdr:s.drop i=s[i]::s.drop (i+1):=Lc hc
   rw [L6 O3,vj hc]
   simp only [L0]
   by_cases h46:s[i]=46
   ·have e1:(((s[i]).toNat:Int) !=46)=false:=by rw [h46]; rfl
    rw [e1,L4 O2,kX ha hi]
    have hsp:yy 46 (s.drop at_)=(s.take i).drop at_::yy 46 (s.drop (i+1)):=by
     rw [hcur,hdr,h46]; exact(Zp hno).2 _
    rw [hsp]
    have:=KZ (n:=n) hn ((s.take i).drop at_) out (yy 46 (s.drop (i+1))) ((i+1:Nat):Int) (fun o a=>y4 n s k o a ((i+1:Nat):Int)) hd O0
     (fun hok=>B4 hn s hs k (i+1) (i+1) (out ++ [dval ((s.take i).drop at_)]) (Nat.le_refl _) O0 O0 O2 O3)
    rw [w1 O0]
    exact this
   ·have e1:(((s[i]).toNat:Int) !=46)=true:=by
     have:(((s[i]).toNat:Int)==46)=decide (s[i]=46):=zbR (d:=46)
     simp only [bne,this]; simp [h46]
    rw [e1,L6 rfl]
    by_cases hdg:Xw s[i]=true
    ·have h2:=hdg
     simp only [Xw,Lf,L3]at h2
     rw [L4 O3]
     simp only [L0]
     rw [L4 O3,w1 O0]
     simp only [yb]
     refine B4 hn s hs k at_ (i+1) out O0 O0 O0 ?_ O0
     rw [List.take_succ_eq_append_getElem hc,List.drop_append_of_le_length O3,List.all_append,hd]; simp [hdg]
    ·have h2:s[i].toNat<48∨57<s[i].toNat:=by
      simp only [Xw,Lf,L3]at hdg; omega
     have e2:(if(decide (((s[i]).toNat:Int)<48))=true then some true else some (decide (((s[i]).toNat:Int)>57)))=some true:=by
      by_cases h:s[i].toNat<48
      ·rw [L6 O3]
      ·rw [L4 O3]; simp; omega
     rw [e2]
     obtain⟨q,ps,hq⟩:=eX (r:=s.drop (i+1)) hno h46
     rw [hcur,hdr,hq,Ph,L4]
     ·rfl
     ·intro h
      have:=((ZI _).1 h.1).2.2.2.1
      rw [List.all_append,List.all_cons]at this
      simp [hdg]at this
  ·have hie:i=s.length:=O0
   rw [L4 O3]
   simp only [L0,Bool.false_eq_true,if_false]
   have hsp:yy 46 (s.drop at_)=(s.take i).drop at_:: []:=by
    rw [hcur,hie,List.drop_length,Lk]; exact(Zp (by rw [←hie]; exact hno)).1
   rw [hsp,kX ha hi,w1 O0]
   refine KZ (n:=n) hn ((s.take i).drop at_) out [] ((i+1:Nat):Int) (fun o a=>y4 n s k o a ((i+1:Nat):Int)) hd O0 (fun hok=> ?_)
   match k,hk with
   | k+1,hk=>
    show y4 n s (k+1) _ _ _=_
    rw [y4,L4 O3]; rfl
theorem cZ:∀(ps:List Bs) (out:List Nat),out.length≤12→Ph out ps=if ps.all gL=true∧out.length+ps.length≤12 then .nxt (yC (out++ps.map dval))else .ret ([],false)
 | [],out,h=>by rw [Ph,L6 ⟨rfl,by simpa using h⟩]; simp
 | p ::ps,out,h=>by
  rw [Ph]
  by_cases hp:gL p=true
  ·by_cases h12:out.length=12
   ·rw [L4 (fun h'=>h'.2 h12),L4 (fun h'=>by have:=h'.2; simp at this; omega)]
   ·rw [L6 ⟨hp,h12⟩,cZ ps _ O3]
    have e:((p::ps).all gL=true∧out.length+(p::ps).length≤12)↔(ps.all gL=true∧(out ++ [dval p]).length+ps.length≤12):=by
     rw [List.all_cons,hp,Bool.true_and]; simp; omega
    simp only [e]; simp
  ·rw [L4 (fun h'=>hp h'.1),L4 (fun h'=>hp (by have:=h'.1; rw [List.all_cons,Lf]at this; exact this.1))]
theorem cV {n:Nat} {s:Bs} (hs:s.length≤100000000) (hn:s.length+20≤n):qf n s=some (match xG s with|some l=>(yC l,true)|none=>([],false)):=by
 unfold qf xG
 have h1:=B4 (n:=n) O0 s hs n 0 0 [] O0 O0 O0 O2 O3
 rw [show((0:Nat):Int)=0 from rfl,Li,show yC []= []from rfl,cZ _ _ O2]at h1
 rw [h1]
 simp only [Lm,Nat.zero_add,Lj]
 by_cases ha:(yy 46 s).all gL=true∧(yy 46 s).length≤12
 ·rw [L6 ha]
  simp only [yb,xh,Lb]
  by_cases h2:2≤(yy 46 s).length
  ·rw [L4 O3]
   match hd:(yy 46 s).map dval with
   | []=>have:=congrArg List.length hd; rw [Lb,Lm]at this; omega
   | [x]=>have:=congrArg List.length hd; rw [Lb,L9]at this; omega
   | a ::b::l=>
    have k0:zM (yC (a::b::l)) 0=some (a:Int):=by simp [zM,yC]
    have k1:zM (yC (a::b::l)) 1=some (b:Int):=by simp [zM,yC]
    rw [k0,k1]
    simp only [L0]
    have hr:(if(decide ((a:Int)>2))=true then some true else if(decide ((a:Int)<2))=true then some (decide ((b:Int)>39))else some false)=some (!XX (a::b::l)):=by
     show _=some (!(decide (a≤1)&&decide (b≤39)||decide (a=2)))
     by_cases c1:2<a
     ·rw [L6 O3,decide_eq_false (show ¬a≤1 by omega),decide_eq_false (show ¬a=2 by omega)]; rfl
     ·rw [L4 O3]
      by_cases c2:a<2
      ·rw [L6 O3,decide_eq_true (show a≤1 by omega),decide_eq_false (show ¬a=2 by omega)]
       by_cases c3:b≤39
       ·rw [decide_eq_true c3,decide_eq_false O0]; rfl
       ·rw [decide_eq_false c3,decide_eq_true O0]; rfl
      ·rw [L4 O3,decide_eq_true (show a=2 by omega)]; simp
    rw [hr]
    simp only [L0]
    cases hro:XX (a::b::l)with
    |true=>rw [L4 O2,L6 ⟨h2,ha.2,ha.1,rfl⟩]
    |false=>rw [L6 O2,L4 (fun h=>by have:=h.2.2.2; simp at this)]
  ·rw [L6 O3,L4 (fun h=>h2 h.1)]; rfl
 ·rw [L4 ha,L4 (fun h=>ha ⟨h.2.2.1,h.2.1⟩)]; rfl
theorem Z0 {n:Nat} {s:Bs} (hs:s.length≤100000000) (hn:s.length+20≤n):wD n s=some (xG s).isSome:=by
 unfold wD
 rw [cV hs hn]
 cases xG s<;>rfl
def dg (v:Nat):Nat→List Nat
 |0=> []
 |g+1=>(v/128^g%128)::dg v g
def hi (v:Nat):Nat→List Nat
 |0=> []
 |g+1=>(v/128^(g+1)%128+128)::hi v g
def Grp (v g:Nat):Prop:=1≤g∧g≤5∧v/128^g=0∧∀j,1≤j→j<g→0<v/128^j
def grp (v:Nat):Nat:=if v<128 then 1 else if v<16384 then 2 else if v<2097152 then 3 else if v<268435456 then 4 else 5
theorem UX {v:Nat} (h:v<34359738368):Grp v (grp v):=by
 have p1:(128:Nat)^1=128:=rfl
 have p2:(128:Nat)^2=16384:=rfl
 have p3:(128:Nat)^3=2097152:=rfl
 have p4:(128:Nat)^4=268435456:=rfl
 have p5:(128:Nat)^5=34359738368:=rfl
 have key:∀g,1≤g→g≤5→v<128^g→(g=1∨128^(g-1)≤v)→Grp v g:=by
  intro g h1 h5 hlt hge
  refine⟨h1,h5,Nat.div_eq_of_lt hlt,fun j j1 jg=> ?_⟩
  refine Nat.div_pos ?_ (Nat.pow_pos O0)
  rcases hge with rfl|hge
  ·omega
  ·exact Nat.le_trans (Nat.pow_le_pow_right O0 O0) hge
 unfold grp
 split
 ·exact key 1 O0 O0 O0 (.inl rfl)
 ·split
  ·exact key 2 O0 O0 O0 (.inr O3)
  ·split
   ·exact key 3 O0 O0 O0 (.inr O3)
   ·split
    ·exact key 4 O0 O0 O0 (.inr O3)
    ·exact key 5 O0 O0 O0 (.inr O3)
def kp (v:Nat):List Nat:=hi v (grp v-1) ++ [v%128]
def WZ (v:Nat):Bs:=(kp v).map o8
theorem Ve (v g:Nat):(hi v g).length=g:=by induction g<;>simp [hi, *]
theorem hQ (v g:Nat):(dg v g).length=g:=by induction g<;>simp [dg, *]
theorem Qr (v:Nat):(kp v).length≤5∧1≤(kp v).length:=by
 simp only [kp,L8,Ve,L9]
 unfold grp; repeat' split
 all_goals omega
theorem tp (l:List Nat):b2s (yC l)=l.map o8:=by
 induction l with
 |nil=>rfl
 | cons a r ih=>
  simp only [b2s,yC,Le]at *
  rw [ih]; simp [o8]
theorem zb0 {v j:Nat} (hj:j≤8):WA .i64 (v:Int) (wrap .u64 ((7:Int)*(wrap .u64 (j:Int))))=some ((v/128^j:Nat):Int):=by
 have hw:wrap .u64 (j:Int)=(j:Int):=by
  have:j=0∨j=1∨j=2∨j=3∨j=4∨j=5∨j=6∨j=7∨j=8:=O0
  rcases this with rfl|rfl|rfl|rfl|rfl|rfl|rfl|rfl|rfl<;>rfl
 have hw2:wrap .u64 ((7:Int)*(j:Int))=((7*j:Nat):Int):=by
  have:j=0∨j=1∨j=2∨j=3∨j=4∨j=5∨j=6∨j=7∨j=8:=O0
  rcases this with rfl|rfl|rfl|rfl|rfl|rfl|rfl|rfl|rfl<;>rfl
 rw [hw,hw2]
 unfold WA
 rw [L4 O0]
 have hm:min ((7*j:Nat):Int).toNat IntKind.i64.bits=7*j:=by
  rw [Int.toNat_natCast]; show min (7*j) 64=7*j; omega
 rw [hm]
 have:((2:Int)^(7*j))=((128^j:Nat):Int):=by
  rw [show(128:Nat)=2^7 from rfl,←Nat.pow_mul]; simp
 rw [this,eZ _ _ (Nat.pow_pos O0)]
theorem zaG {x:Nat} (hx:x<9223372036854775808):wrap .u8 (uU .i64 (x:Int) 127)=((x%128:Nat):Int):=by
 rw [show(127:Int)=((127:Nat):Int)from rfl,Gq hx O0,show(127:Nat)=2^7-1 from rfl,Nat.and_two_pow_sub_one_eq_mod,wr8 O0 O0]
theorem zcT {x:Nat} (hx:x<9223372036854775808):wrap .u8 (ior .i64 (uU .i64 (x:Int) 127) 128)=((x%128+128:Nat):Int):=by
 rw [show(127:Int)=((127:Nat):Int)from rfl,Gq hx O0,show(127:Nat)=2^7-1 from rfl,Nat.and_two_pow_sub_one_eq_mod,show(128:Int)=((128:Nat):Int)from rfl,oE O0 O0,Nat.or_comm]
 have:=Nat.two_pow_add_eq_or_of_lt (i:=7) (b:=x%2^7) O0 1
 rw [show(2:Nat)^7*1=128 from rfl]at this
 rw [←this,wr8 O0 O0]
 omega
theorem fY {n v g:Nat} (hg:Grp v g):∀(k j:Nat),1≤j→j≤g→g-j<k→kY n (v:Int) k (j:Int)=some (g:Int)
 |0,_,_,_,h=>O0
 | k+1,j,h1,h2,h3=>by
  have h5:=hg.2.1
  rw [kY,zb0 O0]
  simp only [L0]
  by_cases hj:j<g
  ·have:=hg.2.2.2 j h1 hj
   rw [L6 O4,w1 O0]
   exact fY hg k (j+1) O0 O0 O0
  ·have:j=g:=O0
   subst this
   rw [hg.2.2.1,L4 O2]
theorem md {n v:Nat} (hv:v<9223372036854775808):∀(k i c:Nat) (b:List Int),i≤8→i<k→b.length=c→c+i≤1000000→qE n (v:Int) k c (i:Int) b=some (c+i,b++yC (hi v i))
 |0,_,_,_,_,h,_,_=>O0
 |k+1,0,c,b,_,_,hb,hc=>by rw [qE,L4 O2]; simp [hi,yC]
 | k+1,i+1,c,b,h8,hk,hb,hc=>by
  rw [qE,L6 O2,zb0 h8]
  simp only [L0]
  rw [zcT (Nat.lt_of_le_of_lt (Nat.div_le_self _ _) hv)]
  have ho:Yd 1 c b ([((v/128^(i+1)%128+128:Nat):Int)]:List Int)=some (b ++ [((v/128^(i+1)%128+128:Nat):Int)]):=by
   unfold Yd; rw [L6 O3]
  rw [ho,z6 O0,show((i+1:Nat):Int)-1=(i:Int)by omega]
  simp only [L0,L9]
  rw [md hv k i (c+1) _ O0 O0 (by simp [hb]) O0]
  simp [hi,yC]; omega
theorem zaX {n v:Nat} (hv:v<34359738368) (hn:20≤n):Ug n (v:Int)=some ((kp v).length,yC (kp v)):=by
 have hg:=UX hv
 have h5:=hg.2.1
 have h1:=hg.1
 unfold Ug
 have e1:=fY (n:=n) hg n 1 O0 hg.1 O0
 rw [show((1:Nat):Int)=1 from rfl]at e1
 rw [e1]
 simp only [L0]
 rw [z6 O0,show((grp v:Nat):Int)-1=((grp v-1:Nat):Int)by omega,md O0 n (grp v-1) 0 [] O0 O0 rfl O0]
 simp only [L0,Lj]
 rw [zaG O0]
 have ho:Yd 1 (0+(grp v-1)) (yC (hi v (grp v-1))) ([((v%128:Nat):Int)]:List Int)=some (yC (kp v)):=by
  unfold Yd; rw [L6 (by simp [xh,Ve]; omega)]; simp [yC,kp]
 rw [ho]
 simp [kp,Ve]
theorem oh {n:Nat} (a:Int):∀(k:Nat) (v:Int),bQ n a k v=kY n a k v
 |0,v=>rfl
 |k+1,v=>by rw [bQ,kY]; simp only [oh a k]
theorem oz {n:Nat} (a:Int):∀(k c:Nat) (v:Int) (b:List Int),bR n a k c v b=qE n a k c v b
 |0,_,_,_=>rfl
 |k+1,c,v,b=>by rw [bR,qE]; simp only [oz a k]
theorem oO {n v c:Nat} {m:List Int} (hv:v<34359738368) (hn:20≤n) (hm:m.length=c) (hc:c≤100000):XB n c (v:Int) m=some (c+(kp v).length,m++yC (kp v)):=by
 have hg:=UX hv
 have h5:=hg.2.1
 have h1:=hg.1
 unfold XB
 have e1:=fY (n:=n) hg n 1 O0 hg.1 O0
 rw [show((1:Nat):Int)=1 from rfl]at e1
 rw [oh,e1]
 simp only [L0,oz]
 rw [z6 O0,show((grp v:Nat):Int)-1=((grp v-1:Nat):Int)by omega,md O0 n (grp v-1) c m O0 O0 hm O0]
 simp only [L0]
 rw [zaG O0]
 have ho:Yd 1 (c+(grp v-1)) (m++yC (hi v (grp v-1))) ([((v%128:Nat):Int)]:List Int)=some (m++yC (kp v)):=by
  unfold Yd; rw [L6 (by simp [xh,Ve]; omega)]; simp [yC,kp]
 rw [ho]
 simp [kp,Ve]; omega
def Yq (l:List Nat):List Nat:=match l with
 |a::b::r=>(40*a+b)::r
 |_=> []
def qA (l:List Nat):Bs:=((Yq l).map WZ).flatten
theorem JF {n:Nat} (hn:20≤n) (r:List Nat) (hr:∀x∈r,x<34359738368) (hl:r.length≤1000):∀(k:Nat) (pre suf:List Nat) (m:List Int),r=pre++suf→suf.length<k→m.length≤5+5*pre.length →
  qk n (yC r) k m.length (pre.length:Int) m=some (m.length+((suf.map kp).flatten).length,m++yC ((suf.map kp).flatten))
 |0,_,_,_,_,h,_=>O0
 | k+1,pre,[],m,hp,hk,hm=>by
  simp at hp; subst hp
  rw [qk,L4 (by simp [xh])]
  simp [yC]
 | k+1,pre,x::suf,m,hp,hk,hm=>by
  have hlen:r.length=pre.length+(suf.length+1):=by rw [hp]; simp
  have hx:zM (yC r) (pre.length:Int)=some (x:Int):=by
   rw [zQ (by rw [xh]; omega)]; congr 1; simp [yC,hp]
  have hxv:=hr x (by rw [hp]; simp)
  have h5:=Qr x
  rw [qk,L6 (by simp [xh]; omega),hx]
  simp only [L0]
  rw [oO hxv hn rfl O0]
  simp only [L0]
  rw [w1 O0]
  have ih:=JF hn r hr hl k (pre ++ [x]) suf (m++yC (kp x)) (by rw [hp]; simp) (by simp at hk; omega) (by simp [xh]; omega)
  rw [L8,xh]at ih
  rw [show pre.length+1=(pre ++ [x]).length by simp,ih]
  simp [yC,Nat.add_assoc]
theorem mP (l:List Nat):b2s (yC (((Yq l).map kp).flatten))=qA l:=by
 rw [tp]
 unfold qA
 generalize Yq l=q
 induction q with
 |nil=>rfl
 |cons a r ih=>simp only [Le,List.flatten_cons,List.map_append,ih]; rfl
def Pq (l:List Nat):Prop:=2≤l.length∧l.length≤12∧XX l=true∧∀x∈l,x≤2147483647
theorem bB {s:Bs} {l:List Nat} (h:xG s=some l):Pq l:=by
 unfold xG at h
 split at h
 ·rename_i hc
  injection h with h; subst h
  refine⟨by simp; exact hc.1,by simp; exact hc.2.1,hc.2.2.2, ?_⟩
  intro x hx
  obtain⟨p,hp,rfl⟩:=Lh.1 hx
  exact((ZI p).1 (Lg.1 hc.2.2.1 p hp)).2.2.2.2
 ·cases h
theorem zae {α β:Type} {x:β} {a:Option α} {b:β→Option α}:onE (some x) a b=b x:=rfl
theorem Gv {l:List Nat} (h:2≤l.length):∃a b r,l=a::b::r:=by
 match l,h with
 | [],h=>simp at h
 | [_],h=>simp at h
 |a::b::r,_=>exact⟨a,b,r,rfl⟩
theorem J2 {n:Nat} {s:Bs} {l:List Nat} (hs:s.length≤100000000) (hn:s.length+40≤n) (h:xG s=some l):ba n s=some (qA l,0):=by
 obtain⟨h2,h12,hr,hb⟩:=bB h
 obtain⟨a,b,r,rfl⟩:=Gv h2
 have ha:=hb a O2
 have hbb:=hb b O2
 have ha2:a≤2:=by
  simp only [XX,Bool.or_eq_true,Lf,L3]at hr; omega
 unfold ba
 rw [cu hs O0,h]
 rw [Option.map_some,L0,zae,L0]
 have k0:zM (yC (a::b::r)) 0=some (a:Int):=by simp [zM,yC]
 have k1:zM (yC (a::b::r)) 1=some (b:Int):=by simp [zM,yC]
 have k2:lsl (yC (a::b::r)) 2 ((yC (a::b::r)).length:Nat)=some (yC r):=by
  unfold lsl; rw [L6 (by simp [xh]; omega),Int.toNat_natCast,List.take_length]; rfl
 rw [show lne (yC (a::b::r))=some ()from rfl,k0,k1]
 simp only [L0]
 have e1:wrap .i64 (wrap .i64 ((40:Int)*(a:Int))+(b:Int))=((40*a+b:Nat):Int):=by
  rw [z6 (x:=(40:Int)*(a:Int)) O0,z6 O0]; omega
 rw [e1,zaX O0 O0,k2]
 simp only [L0]
 have h5:=Qr (40*a+b)
 simp only [La]at h12
 have hl:=JF (n:=n) O0 r (fun x hx=>by have:=hb x (by simp [hx]); omega) O0 n [] r (yC (kp (40*a+b))) rfl O0 (by simp [xh]; omega)
 rw [xh]at hl
 rw [show(0:Int)=((([]:List Nat).length:Nat):Int)from rfl,hl]
 simp only [L0]
 have e2:yC (kp (40*a+b))++yC ((r.map kp).flatten)=yC (((Yq (a::b::r)).map kp).flatten):=by simp [Yq,yC]
 rw [e2]
 have e3:Ke ((kp (40*a+b)).length+((r.map kp).flatten).length) (yC (((Yq (a::b::r)).map kp).flatten))=some (qA (a::b::r)):=by
  unfold Ke
  have hlen:(yC (((Yq (a::b::r)).map kp).flatten)).length=(kp (40*a+b)).length+((r.map kp).flatten).length:=by
   rw [←e2,L8,xh,xh]
  rw [L6 (by rw [hlen]; exact Nat.le_refl _),←hlen,List.take_length,mP]
 rw [e3]; rfl
theorem zdS (v:Nat):Int.tdiv (v:Int) 128=((v/128:Nat):Int):=by
 rw [show(128:Int)=((128:Nat):Int)from rfl]; exact(Int.ofNat_tdiv v 128).symm
theorem zdl (v:Nat):Int.tmod (v:Int) 128=((v%128:Nat):Int):=by
 rw [show(128:Int)=((128:Nat):Int)from rfl]; exact(Int.ofNat_tmod v 128).symm
theorem cH (l:List Int):QZ l.length l=some l:=by unfold QZ; rw [L6 (Nat.le_refl _),List.take_length]
theorem sE {n v g:Nat} (hv:v<34359738368) (hg:Grp v g):∀(k i:Nat),i<g→g-i≤k →
  yD n k ((v/128^i:Nat):Int) i (yC (dg v i))=some (g,yC (dg v g))
 |0,i,h,hk=>O0
 | k + 1,i,h,hk=>by
  have h5:=hg.2.1
  have hvi:v/128^i<34359738368:=Nat.lt_of_le_of_lt (Nat.div_le_self _ _) hv
  have hd:v/128^i/128=v/128^(i+1):=by rw [Nat.div_div_eq_div_mul,Nat.pow_succ]
  have hw:wrap .i64 (Int.tdiv ((v/128^i:Nat):Int) 128)=((v/128^(i+1):Nat):Int):=by
   have hvj:v/128^(i+1)<34359738368:=Nat.lt_of_le_of_lt (Nat.div_le_self _ _) hv
   rw [zdS,hd,z6 (by generalize v/128^(i+1)=q at hvj ⊢; omega)]
  have hw8:wrap .u8 (Int.tmod ((v/128^i:Nat):Int) 128)=((v/128^i%128:Nat):Int):=by
   rw [zdl,wr8 O0 O0]
  have hnx:(if(((v/128^(i+1):Nat):Int)==0)=true then some (i+1,yC (dg v (i+1)))else yD n k ((v/128^(i+1):Nat):Int) (i+1) (yC (dg v (i+1))))=some (g,yC (dg v g)):=by
   by_cases hj:i+1<g
   ·have:=hg.2.2.2 (i+1) O0 hj
    rw [L4 (by rw [beq_iff_eq]; generalize v/128^(i+1)=q at this ⊢; omega)]
    rw [sE hv hg k (i+1) hj O0]
   ·have:i+1=g:=O0
    subst this
    rw [hg.2.2.1,L6 O2]
  rw [yD]
  have e0:QZ i (yC (dg v i))=some (yC (dg v i)):=by
   have:=cH (yC (dg v i)); rwa [xh,hQ]at this
  rw [e0]
  simp only [L0,hw,hw8]
  match i,h,hk,hnx with
  | 0,h,hk,hnx=>
   rw [L6 (show List.isEmpty (yC (dg v 0))=true from rfl)]
   exact hnx
  | i+1,h,hk,hnx=>
   rw [L4 (by simp [dg,yC])]
   have ho:Yd 1 1 ([((v/128^(i+1)%128:Nat):Int)]:List Int) (yC (dg v (i+1)))=some (yC (dg v (i+1+1))):=by
    unfold Yd; rw [L6 (by simp [xh,hQ]; omega)]; rfl
   rw [ho]
   simp only [L0,xh,hQ]
   rw [show 1+(i+1)=i+1+1 by omega]
   exact hnx
def lo (v:Nat):Nat→List Nat
 |0=> []
 |g+1=>(v/128^(g+1)%128)::lo v g
theorem zb3 (v:Nat):∀g,dg v (g+1)=lo v g ++ [v%128]
 |0=>by simp [dg,lo]
 |g+1=>by rw [dg,zb3 v g]; rfl
theorem zbN (v:Nat):∀g,hi v g=(lo v g).map (· + 128)
 |0=>rfl
 |g+1=>by rw [hi,zbN v g]; rfl
theorem zcc (v:Nat):∀g,∀x∈lo v g,x<128
 |0,x,h=>by simp [lo]at h
 | g+1,x,h=>by
  simp only [lo,Lp]at h
  rcases h with rfl|h
  ·omega
  ·exact zcc v g x h
theorem zai (v g:Nat):(lo v g).length=g:=by induction g<;>simp [lo, *]
theorem td {n g:Nat} (q:List Int) (x:Nat) (hg5:g≤1000):∀(k:Nat) (a b:List Nat),(∀y∈b,y<128)→a.length+b.length+1=g→b.length<k →
  yY n (g,q) k (a.length:Int) (yC (a++b ++ [x]))=some (yC (a++b.map (· + 128) ++ [x]))
 |0,a,b,_,_,h=>O0
 | k+1,a,[],_,hg,_=>by
  simp at hg
  rw [yY,w1 O0,L4 O3]
  simp
 | k+1,a,y::b,hy,hg,hk=>by
  simp only [La]at hg hk
  have hy0:=hy y O2
  have ho:gu g (a.length:Int)=some a.length:=by unfold gu; rw [L6 O0,Int.toNat_natCast]
  have hge:(yC (a++y::b ++ [x]))[a.length*1]? =some (y:Int):=by
   simp [yC]
  rw [yY,w1 O0,L6 O3]
  simp only [ho,L0,hge]
  rw [wr8 O0 O0]
  have hs:Wt (yC (a++y::b ++ [x])) (a.length*1) ((y:Int)+128)=some (yC ((a ++ [y+128])++b ++ [x])):=by
   unfold Wt
   rw [L6 (by simp [xh])]
   simp [yC,List.set_append]
  rw [hs]
  simp only [L0]
  have ih:=td (n:=n) q x hg5 k (a ++ [y+128]) b (fun z hz=>hy z (by simp [hz])) O3 O0
  rw [show((a ++ [y+128]).length:Int)=((a.length+1:Nat):Int)by simp]at ih
  rw [ih]
  simp
theorem za6 {n v:Nat} (hv:v<34359738368) (hn:20≤n):(yD n n (v:Int) 0 ([]:List Int)).bind (fun y1414=>
  (yY n y1414 n 0 y1414.2).bind fun y1452=>QZ y1414.1 y1452)=some (yC (kp v)):=by
 have hg:=UX hv
 have h5:=hg.2.1
 have h1:=hg.1
 have e:=sE (n:=n) hv hg n 0 O0 O0
 rw [Nat.pow_zero,Nat.div_one,show yC (dg v 0)= []from rfl]at e
 rw [e]
 simp only [L0]
 obtain⟨g',hg'⟩:∃g',grp v=g'+1:=⟨grp v-1,O0⟩
 have e3:=td (n:=n) (g:=grp v) (yC (dg v (grp v))) (v%128) O0 n [] (lo v g') (zcc v g') (by simp [zai,hg']) (by simp [zai]; omega)
 rw [Lj,←zb3,←hg',Lj,←zbN,show(([]:List Nat).length:Int)=0 from rfl]at e3
 rw [e3]
 simp only [L0]
 have hen:hi v g' ++ [v%128]=kp v:=by unfold kp; rw [hg']; rfl
 rw [hen]
 have hl:(kp v).length=grp v:=by unfold kp; simp [Ve]; omega
 have:=cH (yC (kp v))
 rwa [xh,hl]at this
theorem fG {n:Nat} (hn:20≤n) (r:List Nat) (hr:∀x∈r,x<34359738368) (hl:r.length≤1000):∀(k:Nat) (pre suf:List Nat) (m:List Int),r=pre++suf→suf.length<k→m.length≤5+5*pre.length →
  xA n (yC r) k m.length (pre.length:Int) m=some (m.length+((suf.map kp).flatten).length,m++yC ((suf.map kp).flatten))
 |0,_,_,_,_,h,_=>O0
 | k+1,pre,[],m,hp,hk,hm=>by
  simp at hp; subst hp
  rw [xA,L4 (by simp [xh])]
  simp [yC]
 | k+1,pre,x::suf,m,hp,hk,hm=>by
  have hlen:r.length=pre.length+(suf.length+1):=by rw [hp]; simp
  have hx:zM (yC r) (pre.length:Int)=some (x:Int):=by
   rw [zQ (by rw [xh]; omega)]; congr 1; simp [yC,hp]
  have hxv:=hr x (by rw [hp]; simp)
  have h5:=Qr x
  have h1:=za6 (n:=n) hxv hn
  obtain⟨y1,e1,h1⟩:=cw h1
  obtain⟨y2,e2,h1⟩:=cw h1
  rw [xA,L6 (by simp [xh]; omega),hx,L0,e1,L0,e2,L0,h1,L0]
  have hne:List.isEmpty (yC (kp x))=false:=by
   match he:kp x,h5 with
   | [],h5=>simp at h5
   |_::_,_=>rfl
  rw [hne,L4 O2]
  have ho:Yd 1 m.length m (yC (kp x))=some (m++yC (kp x)):=by
   unfold Yd; rw [L6 (by rw [xh]; exact⟨rfl,O0,O0⟩)]
  rw [ho]
  simp only [L0]
  rw [w1 O0]
  have ih:=fG hn r hr hl k (pre ++ [x]) suf (m++yC (kp x)) (by rw [hp]; simp) (by simp at hk; omega) (by simp [xh]; omega)
  rw [L8]at ih
  rw [show pre.length+1=(pre ++ [x]).length by simp,ih]
  simp [yC,Nat.add_assoc]
theorem Jz {n:Nat} {s:Bs} {l:List Nat} (hs:s.length≤100000000) (hn:s.length+40≤n) (h:xG s=some l):vm n s=some (qA l,0):=by
 obtain⟨h2,h12,hr,hb⟩:=bB h
 obtain⟨a,b,r,rfl⟩:=Gv h2
 have ha:=hb a O2
 have hbb:=hb b O2
 have ha2:a≤2:=by
  simp only [XX,Bool.or_eq_true,Lf,L3]at hr; omega
 simp only [La]at h12
 unfold vm
 rw [cV hs O0,h,L0]
 simp only []
 rw [L4 O2]
 have k0:zM (yC (a::b::r)) 0=some (a:Int):=by simp [zM,yC]
 have k1:zM (yC (a::b::r)) 1=some (b:Int):=by simp [zM,yC]
 have k2:lsl (yC (a::b::r)) 2 ((yC (a::b::r)).length:Nat)=some (yC r):=by
  unfold lsl; rw [L6 (by simp [xh]; omega),Int.toNat_natCast,List.take_length]; rfl
 rw [k0,k1,k2]
 simp only [L0]
 have e1:wrap .i64 (wrap .i64 ((40:Int)*(a:Int))+(b:Int))=((40*a+b:Nat):Int):=by
  rw [z6 (x:=(40:Int)*(a:Int)) O0,z6 O0]; omega
 rw [e1]
 have ey:(if List.isEmpty (yC r)=true then some ([((40*a+b:Nat):Int)]:List Int)else(gP 8 ([((40*a+b:Nat):Int)]:List Int) (yC r)).bind fun x5=>some x5)=some (yC (Yq (a::b::r))):=by
  match r with
  | []=>rfl
  | c::r=>
   rw [L4 (by simp [yC])]
   unfold gP
   simp only [La]at h12
   rw [L6 (by simp [xh]; omega)]; rfl
 rw [ey,L0]
 have hl:=fG (n:=n) O0 (Yq (a::b::r)) (fun x hx=>by
  simp only [Yq,Lp]at hx
  rcases hx with rfl|hx
  ·omega
  ·have:=hb x (by simp [hx]); omega) (by simp [Yq]; omega) n [] (Yq (a::b::r)) [] rfl (by simp [Yq]; omega) O2
 rw [show((([]:List Nat).length:Nat):Int)=0 from rfl,Lm,Lj,Nat.zero_add]at hl
 rw [hl,L0]
 have e3:Ke (((Yq (a::b::r)).map kp).flatten).length (yC (((Yq (a::b::r)).map kp).flatten))=some (qA (a::b::r)):=by
  unfold Ke
  have hlen:=xh (((Yq (a::b::r)).map kp).flatten)
  rw [L6 (by rw [hlen]; exact Nat.le_refl _),←hlen,List.take_length,mP]
 simp only []
 rw [e3]; rfl
theorem oG (q:Bs) (c:UInt8):dval (q ++ [c])=10*dval q+(c.toNat-48):=by simp [dval]
theorem tK {c:UInt8} (h:Xw c=true):UInt8.ofNat (48+(c.toNat-48))=c:=by
 simp only [Xw,Lf,L3]at h
 rw [show 48+(c.toNat-48)=c.toNat by omega]; exact UInt8.ofNat_toNat
theorem zb7:∀(k:Nat) (p:Bs),p.length=k+1→p.all Xw=true→p.head? ≠some 48→Lib.decDigits (dval p)=p∧1≤dval p
 | 0,p,hl,hd,hh=>by
  match p,hl with
  | [c],_=>
   simp only [List.all_cons,List.all_nil,Bool.and_true]at hd
   have e:dval [c]=c.toNat-48:=by simp [dval]
   have h2:=hd
   simp only [Xw,Lf,L3]at h2
   rw [e,Lib.decDigits_one O0,tK hd]
   refine⟨rfl, ?_⟩
   have:c.toNat≠48:=fun h=>hh (by rw [List.head?_cons,←UInt8.ofNat_toNat (x:=c),h]; rfl)
   omega
 | k+1,p,hl,hd,hh=>by
  obtain⟨q,c,rfl⟩:∃q c,p=q ++ [c]:=⟨p.dropLast,p.getLast (by intro h; rw [h]at hl; simp at hl),(List.dropLast_concat_getLast _).symm⟩
  simp only [L8,L9]at hl
  rw [List.all_append]at hd
  simp only [List.all_cons,List.all_nil,Bool.and_true,Lf]at hd
  have hq:q.head? ≠some 48:=by
   match q,hl with
   |x::q,_=>simpa using hh
  obtain⟨ih1,ih2⟩:=zb7 k q O0 hd.1 hq
  have h2:=hd.2
  simp only [Xw,Lf,L3]at h2
  rw [oG]
  refine⟨?_,O0⟩
  rw [Lib.decDigits,dif_neg O0,show(10*dval q+(c.toNat-48))/10=dval q by omega,show(10*dval q+(c.toNat-48))%10=c.toNat-48 by omega,ih1,tK hd.2]
theorem oP {p:Bs} (h:gL p=true):Lib.decDigits (dval p)=p:=by
 obtain⟨h1,h2,h3,h4,h5⟩:=(ZI p).1 h
 by_cases hh:p.head? =some 48
 ·have:p.length≤1:=by
   apply Decidable.byContradiction; intro hc; exact h3 ⟨O0,hh⟩
  match p,h1,this,hh with
  | [c],_,_,hh=>simp at hh; subst hh; rw [show dval [48]=0 from rfl]; exact Lib.decDigits_one O0
 ·match p,h1,hh,h4 with
  |c::r,_,hh,h4=>exact(zb7 r.length (c::r) rfl h4 hh).1
def mK (l:List Nat):Bs:=Lib.join (l.map fun a=>Lib.decDigits a) [46]
theorem BV (c:UInt8):∀s:Bs,Lib.join (yy c s) [c]=s
 | []=>Lib.join_one _ _
 | x ::r=>by
  have ih:=BV c r
  rw [yy]
  split
  ·rename_i h
   subst h
   match hs:yy x r,U9 x r,ih with
   | p::ps,_,ih=>
    rw [Lib.join_cons]at ih ⊢
    rw [Lj]
    show [x]++p++Lib.joinTail [x] ps=_
    rw [Lq,ih]; rfl
  ·match hs:yy c r,U9 c r,ih with
   | p::ps,_,ih=>
    rw [Lib.join_cons]at ih
    show Lib.join ((x::p)::ps) [c]=_
    rw [Lib.join_cons,List.cons_append,ih]
theorem JJ {s:Bs} {l:List Nat} (h:xG s=some l):mK l=s:=by
 unfold xG at h
 split at h
 ·rename_i hc
  injection h with h; subst h
  unfold mK
  rw [List.map_map]
  have:(yy 46 s).map ((fun a=>Lib.decDigits a)∘dval)=yy 46 s:=by
   have hall:=Lg.1 hc.2.2.1
   generalize yy 46 s=ps at hall ⊢
   induction ps with
   |nil=>rfl
   | cons p r ih=>
    rw [Le,ih (fun x hx=>hall x (by simp [hx]))]
    rw [Function.comp,oP (hall p O2)]
  rw [this,BV]
 ·cases h
theorem Zl {u:Nat} (h:u<18446744073709551616):(Lib.decDigits u).length≤20:=by
 rw [Lib.decDigits_length]; exact Lib.nDigits_le20 u h
theorem DF (sep:Bs) (b:Nat):∀l:List Bs,(∀x∈l,x.length≤b)→(Lib.joinTail sep l).length≤l.length*(sep.length+b)
 | [],_=>by simp [Lib.joinTail]
 | x::r,h=>by
  have h1:=h x O2
  have ih:=DF sep b r (fun y hy=>h y (by simp [hy]))
  have e:Lib.joinTail sep (x::r)=sep++x++Lib.joinTail sep r:=by simp [Lib.joinTail]
  rw [e,L8,L8,La,Nat.succ_mul]; omega
theorem eh {sep:Bs} {b:Nat} {l:List Bs} (h:∀x∈l,x.length≤b):(Lib.join l sep).length≤l.length*(sep.length+b):=by
 match l,h with
 | [],_=>simp [Lib.join_nil]
 | x::r,h=>
  have h1:=h x O2
  have ih:=DF sep b r (fun y hy=>h y (by simp [hy]))
  rw [Lib.join_cons,L8,La,Nat.succ_mul]; omega
end Go.Abs
end
