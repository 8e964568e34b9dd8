/- The typed Lean form of WireEncodesQueries gives true for every list of at most 9223372036854775807 numbers and every raw query of at most as many issuers. -/
import Derived.Test.YtbggpcnbbhjiaaaGreatDoorW4
set_option linter.unusedVariables false
set_option linter.unusedSimpArgs false
set_option linter.unnecessarySimpa false
section
set_option maxRecDepth 100000
namespace Go.Abs
open Go Go.Proofs
theorem L0{α β:Type}{a:α}{f:α→Option β}:(some a).bind f=f a:=rfl
theorem L1{p:Prop}[Decidable p]:(decide p=true)=p:=decide_eq_true_eq
theorem L3{c:Prop}{h:Decidable c}(H:¬c){α:Type}{t e:α}:ite c t e=e:=if_neg H
theorem L4{c:Prop}{h:Decidable c}(H:c){α:Type}{t e:α}:ite c t e=t:=if_pos H
theorem L6{α:Type}{a b:List α}:(a++b).length=a.length+b.length:=List.length_append
theorem L8{α:Type}{a:α}:[a].length=1:=rfl
theorem L9{α:Type}{a:α}{l:List α}:(a::l).length=l.length+1:=rfl
theorem La{α β:Type}{l:List α}{f:α→β}:(l.map f).length=l.length:=List.length_map f
theorem Lb{α:Type}{i:Nat}{l:List α}(h:i<l.length):l.drop i=l[i]::l.drop (i+1):=List.drop_eq_getElem_cons h
theorem Lc{α:Type}{i:Nat}{l:List α}(h:l.length≤i):l.drop i=[]:=List.drop_eq_nil_of_le h
theorem Ld{α β:Type}{f:α→β}{a:α}{l:List α}:(a::l).map f=f a::l.map f:=rfl
theorem Le(a b:Bool):((a&&b)=true)=(a=true∧b=true):=Bool.and_eq_true a b
theorem Lf{α:Type}{p:α→Bool}{l:List α}:l.all p=true↔∀x∈l,p x=true:=List.all_eq_true
theorem Lg{α β:Type}{f:α→β}{b:β}{l:List α}:b∈l.map f↔∃a,a∈l∧f a=b:=List.mem_map
theorem Lh{α:Type}{l:List α}:l.drop 0=l:=rfl
theorem Li{α:Type}(l:List α):[]++l=l:=rfl
theorem Lj{α:Type}(l:List α):l++[]=l:=List.append_nil l
theorem Lk{α:Type}{l:List α}{n:Nat}(h:n<l.length):l[n]∈l:=List.getElem_mem h
theorem Ll{α:Type}:([]:List α).length=0:=rfl
theorem Lm{α:Type}{a b:α}:a∈[b]↔a=b:=List.mem_singleton
theorem Ln{α:Type}{a:α}{s t:List α}:a∈s++t↔a∈s∨a∈t:=List.mem_append
theorem Lo{α:Type}{a b:α}{l:List α}:a∈b::l↔a=b∨a∈l:=List.mem_cons
theorem Lp{α:Type}(a b c:List α):a++b++c=a++(b++c):=List.append_assoc a b c
abbrev Bs:=List UInt8
theorem xf {x:Int} (h: -9223372036854775808≤x∧x≤9223372036854775807):IntKind.wrap .i64 x=x:=IntWalk.i64_in x h
theorem wr8 {x:Int} (h0:0≤x) (h1:x≤255):IntKind.wrap .u8 x=x:=by
 obtain⟨n,rfl⟩:=Int.eq_ofNat_of_zero_le h0
 have hn:n<256:=by omega
 have:∀n:Nat,n<256→IntKind.wrap .u8 (n:Int)=n:=by
  intro n hn
  have:=Lf.1 (show((List.range 256).all fun n:Nat=>IntKind.wrap .u8 (n:Int)==(n:Int))=true by kernel_rfl) n (by simpa using hn)
  simpa using this
 exact this n hn
theorem QM {x y:Nat} (hx:x<9223372036854775808) (hy:y<9223372036854775808):w7 .i64 (x:Int) (y:Int)=((x &&& y:Nat):Int):=by
 show IntKind.wrap .i64 (((BitVec.ofInt 64 (x:Int) &&& BitVec.ofInt 64 (y:Int)).toNat:Nat):Int)=_
 rw [BitVec.ofInt_natCast,BitVec.ofInt_natCast]
 have h3:(BitVec.ofNat 64 x &&& BitVec.ofNat 64 y).toNat=x &&& y:=by
  rw [BitVec.toNat_and,BitVec.toNat_ofNat,BitVec.toNat_ofNat,Nat.mod_eq_of_lt (by omega),Nat.mod_eq_of_lt (by omega)]
 rw [h3]
 have:x &&& y≤x:=Nat.and_le_left
 exact xf (by omega)
theorem eA {x y:Nat} (hx:x<9223372036854775808) (hy:y<9223372036854775808):ior .i64 (x:Int) (y:Int)=((x|||y:Nat):Int):=by
 show IntKind.wrap .i64 (((BitVec.ofInt 64 (x:Int)|||BitVec.ofInt 64 (y:Int)).toNat:Nat):Int)=_
 rw [BitVec.ofInt_natCast,BitVec.ofInt_natCast]
 have h3:(BitVec.ofNat 64 x|||BitVec.ofNat 64 y).toNat=x|||y:=by
  rw [BitVec.toNat_or,BitVec.toNat_ofNat,BitVec.toNat_ofNat,Nat.mod_eq_of_lt (by omega),Nat.mod_eq_of_lt (by omega)]
 rw [h3]
 have:x|||y<2^63:=Nat.or_lt_two_pow (by simpa using hx) (by simpa using hy)
 exact xf (by omega)
theorem uF {s:Bs} {i:Nat} (h:i<s.length):wl s (i:Int)=some ((s[i]).toNat:Int):=by
 simp [wl,h]
theorem z2 {α:Type} {l:List α} {i:Nat} (h:i<l.length):z1 l (i:Int)=some l[i]:=by
 simp [z1,h]
theorem Wp {s:Bs} {i j:Nat} (h:i≤j) (hj:j≤s.length):ssl s (i:Int) (j:Int)=some ((s.take j).drop i):=by
 unfold ssl; rw [L4 (by omega)]; simp
theorem xh {s t:Bs} (h:s.length+t.length≤9223372036854775807):uw s t=some (s++t):=by
 unfold uw; rw [L4 h]
theorem w8 {α:Type} {b:Nat} {l m:List α} (h:(l.length+m.length)*b≤140737488355328):jV b l m=some (l++m):=by
 unfold jV; rw [L4 h]
theorem w1 {i:Nat} (h:i<9223372036854775807):IntKind.wrap .i64 ((i:Int)+1)=((i+1:Nat):Int):=by rw [xf (by omega)]; omega
theorem co (c:UInt8):c.toNat<256:=c.toNat_lt
theorem Qe {α β:Type} {c:Option α} {f:α→Option β} (h:∃a,c=some a) (k:∀a,c=some a→∃y,f a=some y):∃y,c.bind f=some y:=by
 obtain⟨a,ha⟩:=h
 obtain⟨y,hy⟩:=k a ha
 exact⟨y,by rw [ha]; exact hy⟩
theorem Uq {α:Type} {c:Prop} [Decidable c] {a b:Option α} (h1:c→∃y,a=some y) (h2:¬c→∃y,b=some y):∃y,(if c then a else b)=some y:=by
 by_cases hc:c
 ·rw [L4 hc]; exact h1 hc
 ·rw [L3 hc]; exact h2 hc
theorem Xc {s:Bs} {i:Int} (h0:0≤i) (h1:i<s.length):∃x,wl s i=some x:=by
 obtain⟨n,rfl⟩:=Int.eq_ofNat_of_zero_le h0
 exact⟨_,uF (by omega)⟩
theorem qz {α:Type} {s:List α} {i:Int} (h0:0≤i) (h1:i<s.length):∃x,z1 s i=some x:=by
 obtain⟨n,rfl⟩:=Int.eq_ofNat_of_zero_le h0
 exact⟨_,z2 (by omega)⟩
theorem cz {s:Bs} {i j:Int} (h0:0≤i) (h1:i≤j) (h2:j≤s.length):∃x,ssl s i j=some x:=by
 unfold ssl; rw [L4 ⟨h0,h1,h2⟩]; exact⟨_,rfl⟩
theorem nx (t:UInt8):(w7 .i64 (t.toNat:Int) 31==31)=decide (t.toNat%32=31):=by
 have:∀n:Nat,n<256→(w7 .i64 (n:Int) 31==31)=decide (n%32=31):=by
  intro n hn
  have:=Lf.1 (show((List.range 256).all fun n:Nat=>(w7 .i64 (n:Int) 31==31)==decide (n%32=31))=true by kernel_rfl) n (by simpa using hn)
  simpa using this
 exact this _ (co t)
def o8 (n:Nat):UInt8:=UInt8.ofNat n
def JE (t n:Nat):Bs:=
 if n<128 then [o8 t,o8 n]else if n<256 then [o8 t,129,o8 n]else if n<65536 then [o8 t,130,o8 (n/256),o8 n]else [o8 t,131,o8 (n/65536),o8 (n/256),o8 n]
def tWrap (t:Nat) (c:Bs):Bs×Int:=if c.length≤131072 then(JE t c.length++c,0)else([],6)
theorem qA (n:Nat):UInt8.ofNat (IntKind.wrap .u8 (n:Int)).toNat=o8 n:=by
 have h:IntKind.wrap .u8 (n:Int)=((n%256:Nat):Int):=by
  rw [IntKind.wrap]; simp [IntKind.signed,IntKind.bits]
 rw [h]; unfold o8
 apply UInt8.toNat_inj.1
 simp; omega
theorem Kt (a b:Nat) (h:0<b):Int.fdiv (a:Int) (b:Int)=((a/b:Nat):Int):=by
 rw [Int.fdiv_eq_ediv_of_nonneg _ (by omega)]; rfl
theorem GV (t n:Nat):2≤(JE t n).length∧(JE t n).length≤5:=by
 unfold JE; split
 ·simp
 ·split
  ·simp
  ·split<;>simp
theorem ym (t:Nat) (c:Bs):(tWrap t c).1.length≤c.length+5:=by
 unfold tWrap; split
 ·have:=GV t c.length; simp; omega
 ·simp
theorem B7 {n:Nat} (cs:List Bs) (hm:∀c∈cs,c.length≤1000000000000):∀(k:Nat) (pre suf:List Bs),cs=pre++suf→suf.length<k→cs.length≤1000000000000→pre.flatten.length≤131072 →
  jh n cs k (pre.flatten.length:Int) (pre.length:Int)=some (if cs.flatten.length≤131072 then .nxt (cs.flatten.length:Int)else .ret ([],6))
 |0,_,_,_,h,_,_=>by omega
 | k+1,pre,[],hp,hk,hl,ht=>by
  simp at hp; subst hp
  rw [jh,L3 (by simp [-List.length_flatten]),L4 ht]
 | k+1,pre,c::suf,hp,hk,hl,ht=>by
  have hlen:cs.length=pre.length+(suf.length+1):=by rw [hp]; simp [-List.length_flatten]
  have hfl:cs.flatten.length=pre.flatten.length+(c.length+suf.flatten.length):=by rw [hp,List.flatten_append,L6,List.flatten_cons,L6]
  have hx:z1 cs (pre.length:Int)=some c:=by
   rw [z2 (by omega)]; congr 1; simp [hp]
  rw [jh,L4 (by simp [-List.length_flatten]; omega),hx]
  simp only [L0]
  rw [xf (x:=(131072:Int)-(pre.flatten.length:Int)) (by omega)]
  have hc:=hm c (by rw [hp]; simp)
  by_cases hb:pre.flatten.length+c.length≤131072
  ·have ih:=B7 (n:=n) cs hm k (pre ++ [c]) suf (by rw [hp]; simp) (by simp at hk; omega) hl (by rw [List.flatten_append,L6]; simp [-List.length_flatten]; omega)
   rw [L3 (by simp [-List.length_flatten]; omega),xf (by omega),w1 (by omega)]
   rw [show((pre.flatten.length:Int)+(c.length:Int))=(((pre ++ [c]).flatten.length:Nat):Int)by rw [List.flatten_append,L6]; simp [-List.length_flatten],show pre.length+1=(pre ++ [c]).length by simp]
   exact ih
  ·rw [L4 (by simp [-List.length_flatten]; omega),L3 (by omega)]
theorem WS (cs:List Bs):Lib.join cs []=cs.flatten:=by
 induction cs with
 |nil=>rfl
 |cons c r ih=>rw [Lib.join_cons]; simp [Lib.joinTail]
theorem cJ {n:Nat} {cs:List Bs} (h1:cs.flatten.length≤140737488355328) (h2:cs.length≤140737488355328):Wv n cs []=some cs.flatten:=by
 unfold Wv; rw [WS,L4 ⟨h1,h2⟩]
theorem YQ {n:Nat} {t:Nat} {cs:List Bs} (h1:t≤255) (h2:t%32≠31) (hm:∀c∈cs,c.length≤1000000000000) (hn:cs.length<n) (hl:cs.length≤1000000000000):
  wf n (t:Int) cs=some (tWrap t cs.flatten):=by
 unfold wf tWrap
 have h31:(w7 .i64 (t:Int) 31==31)=false:=by
  have:=nx (UInt8.ofNat t)
  rw [show(UInt8.ofNat t).toNat=t by simp [-List.length_flatten]; omega]at this
  rw [this]; simp [h2]
 rw [L3 (by simp [-List.length_flatten]),L3 (by simp [-List.length_flatten]; omega),h31]
 simp only [L0,Bool.false_eq_true,if_false]
 have:=B7 (n:=n) cs hm n [] cs rfl hn hl (by simp [-List.length_flatten])
 simp only [List.flatten_nil,Ll]at this
 rw [show((0:Nat):Int)=0 from rfl]at this
 rw [this]
 by_cases hc:cs.flatten.length≤131072
 ·rw [L4 hc,L4 hc]
  simp only [yW]
  generalize hL:cs.flatten.length=L at *
  have e1:Int.fdiv (L:Int) 256=((L/256:Nat):Int):=Kt L 256 (by omega)
  have e2:Int.fdiv (L:Int) 65536=((L/65536:Nat):Int):=Kt L 65536 (by omega)
  rw [e1,e2,cJ (by omega) (by omega)]
  unfold JE
  by_cases a1:L<128
  ·rw [L4 (by simp [-List.length_flatten]; omega),L4 a1]
   simp only [kD,L0]
   simp [uw,b2s,qA,hL]
   have:2+L≤9223372036854775807:=by omega
   simp [this]
  ·by_cases a2:L<256
   ·rw [L3 (by simp [-List.length_flatten]; omega),L4 (by simp [-List.length_flatten]; omega),L3 a1,L4 a2]
    simp only [kD,L0]
    simp [uw,b2s,qA,hL]
    have:3+L≤9223372036854775807:=by omega
    simp [this]
   ·by_cases a3:L<65536
    ·rw [L3 (by simp [-List.length_flatten]; omega),L3 (by simp [-List.length_flatten]; omega),L4 (by simp [-List.length_flatten]; omega),L3 a1,L3 a2,L4 a3]
     simp only [kD,L0]
     simp only [uw,b2s,List.map_append,Ld,List.map_nil,qA,L6,L9,Ll,hL]
     have:0+1+(0+1+1+1)+L≤9223372036854775807:=by omega
     simp [this]
     exact⟨qA t,qA (L/256),qA L⟩
    ·rw [L3 (by simp [-List.length_flatten]; omega),L3 (by simp [-List.length_flatten]; omega),L3 (by simp [-List.length_flatten]; omega),L3 a1,L3 a2,L3 a3]
     simp only [kD,L0]
     simp only [uw,b2s,List.map_append,Ld,List.map_nil,qA,L6,L9,Ll,hL]
     have:0+1+(0+1+1+1+1)+L≤9223372036854775807:=by omega
     simp [this]
     exact⟨qA t,qA (L/65536),qA (L/256),qA L⟩
 ·rw [L3 hc,L3 hc]; rfl
theorem KC {n:Nat} (cs:List Bs):∀(k:Nat) (pre suf:List Bs),cs=pre++suf→suf.length<k→cs.length≤1000000000000→cs.flatten.length≤1000000000000 →
  xp n cs k pre.flatten (pre.length:Int)=some cs.flatten
 |0,_,_,_,h,_,_=>by omega
 | k+1,pre,[],hp,hk,hl,ht=>by
  simp at hp; subst hp
  rw [xp,L3 (by simp [-List.length_flatten])]
 | k+1,pre,c::suf,hp,hk,hl,ht=>by
  have hlen:cs.length=pre.length+(suf.length+1):=by rw [hp]; simp [-List.length_flatten]
  have hfl:cs.flatten.length=pre.flatten.length+(c.length+suf.flatten.length):=by rw [hp,List.flatten_append,L6,List.flatten_cons,L6]
  have hx:z1 cs (pre.length:Int)=some c:=by
   rw [z2 (by omega)]; congr 1; simp [hp]
  rw [xp,L4 (by simp [-List.length_flatten]; omega),hx]
  simp only [L0]
  rw [xh (by omega),w1 (by omega)]
  simp only [L0]
  have ih:=KC (n:=n) cs k (pre ++ [c]) suf (by rw [hp]; simp) (by simp at hk; omega) hl ht
  simp only [List.flatten_append,List.flatten_cons,List.flatten_nil,Lj,L6,L9,Ll,Nat.zero_add]at ih
  exact ih
theorem pC {n:Nat} {t:Nat} {cs:List Bs} (h1:t≤255) (h2:t%32≠31) (hm:cs.flatten.length≤1000000000000) (hn:cs.length<n) (hl:cs.length≤1000000000000):
  yp n (t:Int) cs=some (tWrap t cs.flatten):=by
 unfold yp tWrap
 have h31:(Int.tmod (t:Int) 32==31)=false:=by
  rw [show Int.tmod (t:Int) 32=((t%32:Nat):Int)from rfl]; simp; omega
 rw [L3 (by simp [-List.length_flatten]),L3 (by simp [-List.length_flatten]; omega),h31]
 simp only [L0,Bool.false_eq_true,if_false]
 have:=KC (n:=n) cs n [] cs rfl hn hl hm
 simp only [List.flatten_nil,Ll]at this
 rw [show((0:Nat):Int)=0 from rfl]at this
 rw [this]
 simp only [L0]
 by_cases hc:cs.flatten.length≤131072
 ·rw [L3 (by simp [-List.length_flatten]; omega),L4 hc]
  generalize hL:cs.flatten.length=L at *
  have e1:Int.fdiv (L:Int) 256=((L/256:Nat):Int):=Kt L 256 (by omega)
  have e2:Int.fdiv (L:Int) 65536=((L/65536:Nat):Int):=Kt L 65536 (by omega)
  rw [e1,e2]
  unfold JE
  by_cases a3:L<65536
  ·rw [L3 (by simp [-List.length_flatten]; omega)]
   by_cases a2:L<256
   ·rw [L3 (by simp [-List.length_flatten]; omega)]
    by_cases a1:L<128
    ·rw [L3 (by simp [-List.length_flatten]; omega),L4 a1]
     simp only [L0]
     rw [xh (by simp [b2s, -List.length_flatten]; omega)]
     simp [b2s,qA]
    ·rw [L4 (by simp [-List.length_flatten]; omega),L3 a1,L4 a2]
     simp only [L0]
     rw [xh (by simp [b2s, -List.length_flatten]; omega)]
     simp [b2s,qA]
   ·rw [L4 (by simp [-List.length_flatten]; omega),L3 (by omega),L3 a2,L4 a3]
    simp only [L0]
    rw [xh (by simp [b2s, -List.length_flatten]; omega)]
    simp only [b2s,Ld,List.map_nil,qA]; rfl
  ·rw [L4 (by simp [-List.length_flatten]; omega),L3 (by omega),L3 (by omega),L3 a3]
   simp only [L0]
   rw [xh (by simp [b2s, -List.length_flatten]; omega)]
   simp only [b2s,Ld,List.map_nil,qA]; rfl
 ·rw [L4 (by simp [-List.length_flatten]; omega),L3 hc]
def POk (p:Nat×Bs):Prop:=p.1≤255∧p.1%32≠31∧p.2.length≤131072
def wraps (l:List (Nat×Bs)):Bs:=(l.map fun p=>(tWrap p.1 p.2).1).flatten
theorem Jr {n k:Nat} (h:k≤n):∃m,n=m+k:=⟨n-k,by omega⟩
theorem BK {n v:Nat} (hn:20≤n) (hv:v<64):jQ n (v:Int)=some [o8 v]:=by
 obtain⟨m,rfl⟩:=Jr hn
 have:=Lf.1 (show((List.range 64).all fun v:Nat=>decide (jQ (m+20) (v:Int)=some [o8 v]))=true by kernel_rfl) v (by simpa using hv)
 simpa using this
theorem KX {n v:Nat} (hn:20≤n) (hv:v<64):w4 n (v:Int)=some [o8 v]:=by
 obtain⟨m,rfl⟩:=Jr hn
 have:=Lf.1 (show((List.range 64).all fun v:Nat=>decide (w4 (m+20) (v:Int)=some [o8 v]))=true by kernel_rfl) v (by simpa using hv)
 simpa using this
def splitB (c:UInt8):Bs→List Bs
 | []=> [[]]
 | x::r=>if x=c then []::splitB c r else match splitB c r with
  |p::ps=>(x::p)::ps
  | []=> [[x]]
theorem Y7 (c:UInt8) (s:Bs):splitB c s≠ []:=by
 cases s with
 |nil=>simp [splitB]
 | cons x r=>
  simp only [splitB]; split
  ·simp
  ·split<;>simp
theorem Z6 (c:UInt8) (s:Bs):(splitB c s).length=s.count c+1:=by
 induction s with
 |nil=>rfl
 | cons x r ih=>
  simp only [splitB]
  by_cases h:x=c
  ·subst h; rw [L4 rfl]; simp [ih]
  ·rw [L3 h,List.count_cons_of_ne h]
   split
   ·rename_i p ps hp; rw [hp]at ih; simpa using ih
   ·rename_i hp; exact absurd hp (Y7 c r)
theorem bU {c:UInt8} {p:Bs} (hp:c∉p):splitB c p= [p]∧∀r,splitB c (p++c::r)=p::splitB c r:=by
 induction p with
 |nil=>exact⟨rfl,fun r=>by simp [splitB]⟩
 | cons x q ih=>
  simp only [Lo,not_or]at hp
  obtain⟨h1,h2⟩:=ih hp.2
  refine⟨?_,fun r=> ?_⟩
  ·simp only [splitB]; rw [L3 (Ne.symm hp.1),h1]
  ·simp only [List.cons_append,splitB]; rw [L3 (Ne.symm hp.1),h2 r]
theorem QL {c x:UInt8} {p r:Bs} (hp:c∉p) (hx:x≠c):∃q ps,splitB c (p++x::r)=(p++x::q)::ps:=by
 induction p with
 | nil=>
  simp only [Li,splitB]; rw [L3 hx]
  split
  ·exact⟨_,_,rfl⟩
  ·exact⟨[],[],rfl⟩
 | cons y q ih=>
  simp only [Lo,not_or]at hp
  obtain⟨q',ps,h⟩:=ih hp.2
  simp only [List.cons_append,splitB]; rw [L3 (Ne.symm hp.1),h]
  exact⟨q',ps,rfl⟩
theorem ZR (c:UInt8):∀s:Bs,(Lib.index s [c]= -1∧c∉s)∨∃p r,s=p++c::r∧Lib.index s [c]=(p.length:Int)∧c∉p
 | []=> .inl ⟨rfl,by simp⟩
 | x ::l=>by
  unfold Lib.index
  by_cases h:x=c
  ·subst h; exact .inr ⟨[],l,rfl,by simp [List.isPrefixOf],by simp⟩
  ·have hpre:List.isPrefixOf [c] (x::l)=false:=by simp [List.isPrefixOf]; exact fun h'=>absurd h'.symm h
   rw [hpre]
   rcases ZR c l with⟨h1,h2⟩|⟨p,r,h1,h2,h3⟩
   ·refine .inl ⟨by simp [h1], ?_⟩
    simp only [Lo,not_or]; exact⟨Ne.symm h,h2⟩
   ·refine .inr ⟨x::p,r,by rw [h1]; rfl, ?_, ?_⟩
    ·rw [h2]
     have:((p.length:Int)== -1)=false:=by simp
     simp [this]
    ·simp only [Lo,not_or]; exact⟨Ne.symm h,h3⟩
theorem Gc {α:Type} {l:List α} {x y:α} {r:List α} {i:Nat} (h:i=l.length):pT (l++y::r) (i*1) x=some (l++x::r):=by
 subst h
 unfold pT
 rw [Nat.mul_one,L4 (by simp)]
 simp
theorem VM {n:Nat} {c:UInt8} {s:Bs} (hs:s.length≤1000000000) (m:Nat) (hm:m=s.count c+1):∀(k i:Nat) (v:Bs) (done:List Bs),done.length=i→i+v.count c+1=m→v.length≤s.length→v.count c<k →
  ∃w done2,wM n s (m:Int) [c] 0 m k v (i:Int) (done++List.replicate (m-i) [])=some (w,((m-1:Nat):Int),done2++List.replicate 1 [])∧done2.length=m-1∧done++splitB c v=done2 ++ [w]
 |0,_,_,_,_,_,_,h=>by omega
 | k + 1,i,v,done,hd,hi,hv,hk=>by
  have hcs:s.count c≤s.length:=List.count_le_length
  rw [wM]
  have e1:IntKind.wrap .i64 ((s.length:Int)+1)=((s.length+1:Nat):Int):=by rw [xf (by omega)]; omega
  rw [e1]
  have e2:(if(((s.length+1:Nat):Int))<(m:Int)then((s.length+1:Nat):Int)else(m:Int))=(m:Int):=by
   rw [L3 (by omega)]
  rw [e2,xf (x:=(m:Int)-1) (by omega)]
  by_cases hc:i<m-1
  ·rw [L4 (by simp; omega)]
   have hidx:df n v [c]=some (Lib.index v [c]):=by unfold df; rw [L4 (by omega)]
   rw [hidx]
   simp only [L0]
   rcases ZR c v with⟨h1,h2⟩|⟨p,r,h1,h2,h3⟩
   ·have:v.count c=0:=List.count_eq_zero.2 h2
    omega
   ·have hvc:v.count c=r.count c+1:=by rw [h1,List.count_append,List.count_eq_zero.2 h3]; simp
    have hvl:v.length=p.length+1+r.length:=by rw [h1]; simp; omega
    rw [h2,L3 (by simp),xf (x:=(p.length:Int)+0) (by omega),Int.add_zero]
    have s1:ssl v 0 (p.length:Int)=some p:=by
     rw [show(0:Int)=((0:Nat):Int)from rfl,Wp (by omega) (by omega),h1]; simp
    have s2:ssl v (IntKind.wrap .i64 ((p.length:Int)+(([c]:Bs).length:Int))) (v.length:Int)=some r:=by
     rw [show(([c]:Bs).length:Int)=1 from rfl,w1 (by omega),Wp (by omega) (by omega),List.take_length,h1,show p.length+1=(p ++ [c]).length by simp,show p++c::r=(p ++ [c])++r by simp,List.drop_left]
    have s3:qh m (i:Int)=some i:=by unfold qh; rw [L4 (by omega)]; simp
    have hrep:List.replicate (m-i) ([]:Bs)= []::List.replicate (m-(i+1)) []:=by
     rw [show m-i=(m-(i+1))+1 by omega,List.replicate_succ]
    rw [s1,s3,s2,hrep]
    simp only [L0]
    rw [Gc hd.symm,w1 (by omega)]
    simp only [L0]
    have ih:=VM (n:=n) hs m hm k (i+1) r (done ++ [p]) (by simp [hd]) (by omega) (by omega) (by omega)
    obtain⟨w,d2,g1,g2,g3⟩:=ih
    refine⟨w,d2, ?_,g2, ?_⟩
    ·rw [←g1]; simp
    ·rw [←g3,h1,(bU h3).2 r]; simp
  ·rw [L3 (by simp; omega)]
   have hi':i=m-1:=by omega
   have h0:v.count c=0:=by omega
   have hn:c∉v:=List.count_eq_zero.1 h0
   refine⟨v,done, ?_,by omega,by rw [(bU hn).1]⟩
   rw [hi',show m-(m-1)=1 by omega]
theorem strings_Split {n:Nat} {c:UInt8} {s:Bs} (hs:s.length≤1000000000) (hn:s.length+2≤n):jH n s [c]=some (splitB c s):=by
 unfold jH qw
 have hcs:s.count c≤s.length:=List.count_le_length
 rw [L3 (by decide),L3 (by simp),L4 (by decide)]
 have hct:Wu n s [c]=some ((s.count c:Nat):Int):=rfl
 rw [hct]
 simp only [L0]
 have e0:IntKind.wrap .i64 (((s.count c:Nat):Int)+1)=((s.count c+1:Nat):Int):=by rw [xf (by omega)]; omega
 have e1:IntKind.wrap .i64 ((s.length:Int)+1)=((s.length+1:Nat):Int):=by rw [xf (by omega)]; omega
 rw [e0,e1]
 generalize hm:s.count c+1=m at *
 have e2:(if(((s.length+1:Nat):Int))<(m:Int)then((s.length+1:Nat):Int)else(m:Int))=(m:Int):=by
  rw [L3 (by omega)]
 rw [e2]
 have hmk:Wa 16 (m:Int) (m:Int)=some m:=by unfold Wa; rw [L4 (by omega)]; simp
 rw [hmk]
 simp only [L0]
 obtain⟨w,d2,g1,g2,g3⟩:=VM (n:=n) (c:=c) hs m hm.symm n 0 s [] rfl (by omega) (Nat.le_refl _) (by omega)
 rw [show((0:Nat):Int)=0 from rfl,Li,Nat.sub_zero]at g1
 rw [Li]at g3
 rw [g1]
 simp only [L0]
 have s3:qh m (((m-1:Nat):Int))=some (m-1):=by unfold qh; rw [L4 (by omega)]; simp
 rw [s3]
 simp only [L0]
 rw [show List.replicate 1 ([]:Bs)= [[]]from rfl,Gc g2.symm]
 simp only [L0]
 have e3:IntKind.wrap .i64 (((m-1:Nat):Int)+1)=(m:Int):=by rw [xf (by omega)]; omega
 rw [e3]
 have e4:osl m (m:Int)=some m:=by unfold osl; rw [L4 (by omega)]; simp
 rw [e4]
 simp only [L0]
 have e5:Wn m (d2 ++ [w])=some (d2 ++ [w]):=by
  unfold Wn; rw [L4 (by simp; omega),List.take_of_length_le (by simp; omega)]
 rw [e5,g3]; rfl
def dW (c:UInt8):Bool:=decide (48≤c.toNat)&&decide (c.toNat≤57)
def dval (p:Bs):Nat:=p.foldl (fun n c=>10*n+(c.toNat-48)) 0
def qG (p:Bs):Bool:=decide (p≠ [])&&decide (p.length≤10) && !(decide (1<p.length)&&decide (p.head? =some 48))&&p.all dW&&decide (dval p≤2147483647)
def Zv (l:List Nat):Bool:=match l with
 |a::b::_=>(decide (a≤1)&&decide (b≤39))||decide (a=2)
 |_=>false
def vA (s:Bs):Option (List Nat):=
 if 2≤(splitB 46 s).length∧(splitB 46 s).length≤12∧(splitB 46 s).all qG=true∧Zv ((splitB 46 s).map dval)=true then some ((splitB 46 s).map dval)else none
def yQ (l:List Nat):List Int:=l.map fun n:Nat=>(n:Int)
theorem bZ (p:Bs):qG p=true↔p≠ []∧p.length≤10∧¬(1<p.length∧p.head? =some 48)∧p.all dW=true∧dval p≤2147483647:=by
 unfold qG
 simp only [Le,L1,Bool.not_eq_true',Bool.and_eq_false_imp,decide_eq_false_iff_not,and_assoc,not_and]
theorem Ze {p:Bs} (h:¬(p≠ []∧p.length≤10∧¬(1<p.length∧p.head? =some 48)∧p.all dW=true∧dval p≤2147483647)):qG p=false:=by
 rw [Bool.eq_false_iff]; exact fun h'=>h ((bZ p).1 h')
theorem Uh {c:UInt8} (hc:dW c=true) {v:Nat} (hv:v<100000000000):IntKind.wrap .i64 (IntKind.wrap .i64 ((10:Int)*(v:Int))+IntKind.wrap .i64 (IntKind.wrap .u8 ((c.toNat:Int)-48)))=((10*v+(c.toNat-48):Nat):Int):=by
 simp only [dW,Le,L1]at hc
 rw [wr8 (by omega) (by omega),xf (x:=(10:Int)*(v:Int)) (by omega),xf (x:=(c.toNat:Int)-48) (by omega),xf (by omega)]
 omega
theorem Up {n:Nat} (p:Bs) (hl:p.length≤10):∀(k i v:Nat),i≤p.length→p.length-i<k→v<10^i→(p.take i).all dW=true →
  qo n p k (v:Int) (i:Int)=some (if(p.drop i).all dW=true then .nxt (((p.drop i).foldl (fun n c=>10*n+(c.toNat-48)) v:Nat):Int)else .ret (-1))
 |0,i,v,_,h,_,_=>by omega
 | k + 1,i,v,hi,hk,hv,hd=>by
  rw [qo]
  by_cases hc:i<p.length
  ·rw [L4 (by simp; omega),uF hc]
   simp only [L0]
   have hdr:p.drop i=p[i]::p.drop (i+1):=Lb hc
   have hv10:v<10000000000:=Nat.lt_of_lt_of_le hv (Nat.le_trans (Nat.pow_le_pow_right (by omega) (show i≤10 by omega)) (by decide))
   rw [hdr,List.all_cons,List.foldl_cons]
   by_cases hdg:dW p[i]=true
   ·have h2:=hdg
    simp only [dW,Le,L1]at h2
    rw [L3 (by simp; omega)]
    simp only [L0]
    rw [L3 (by simp; omega),Uh hdg (by omega),w1 (by omega),hdg,Bool.true_and]
    refine Up p hl k (i+1) _ (by omega) (by omega) ?_ ?_
    ·rw [Nat.pow_succ]; omega
    ·rw [List.take_succ_eq_append_getElem hc,List.all_append,hd]; simp [hdg]
   ·have h2:p[i].toNat<48∨57<p[i].toNat:=by
     simp only [dW,Le,L1]at hdg; omega
    have:(if(decide (((p[i]).toNat:Int)<48))=true then some true else some (decide (((p[i]).toNat:Int)>57)))=some true:=by
     by_cases h:p[i].toNat<48
     ·rw [L4 (by simp; omega)]
     ·rw [L3 (by simp; omega)]; simp; omega
    rw [this]
    simp only [Bool.not_eq_true]at hdg
    simp [hdg]
  ·have:i=p.length:=by omega
   subst this
   rw [L3 (by simp)]
   simp
theorem eM {n:Nat} {p:Bs} (hn:20≤n) (hp:p.length≤1000000000):pp n p=some (if qG p=true then((dval p:Nat):Int)else -1):=by
 unfold pp
 match p,hp with
 | [],_=>simp [qG]
 | c :: r,hp=>
  rw [L3 (by simp)]
  by_cases h10:(c::r).length≤10
  ·rw [L3 (by simp; simp at h10; omega)]
   have h0:wl (c::r) 0=some (c.toNat:Int):=by simp [wl]
   rw [h0]
   simp only [L0]
   by_cases hz:c=48∧1<(c::r).length
   ·have:qG (c::r)=false:=Ze fun h=>h.2.2.1 ⟨hz.2,by rw [hz.1]; rfl⟩
    rw [L4 (by rw [hz.1]; rfl),this]
    have:=hz.2
    simp at this
    have h3:decide (((c::r).length:Int)>1)=true:=by simp; omega
    rw [h3]; rfl
   ·have hb:(if((c.toNat:Int)==48)=true then some (decide (((c::r).length:Int)>1))else some false)=some false:=by
     by_cases h:c=48
     ·rw [L4 (by rw [h]; rfl)]
      have:¬1<(c::r).length:=fun h'=>hz ⟨h,h'⟩
      have h3:decide (((c::r).length:Int)>1)=false:=by rw [decide_eq_false_iff_not]; omega
      rw [h3]
     ·rw [L3]
      simp
      intro h'
      have:(48:UInt8).toNat=48:=rfl
      exact h (UInt8.toNat_inj.1 (by omega))
    rw [hb]
    simp only [L0,Bool.false_eq_true,if_false]
    have:=Up (n:=n) (c::r) h10 n 0 0 (by omega) (by omega) (by simp) (by simp)
    rw [show((0:Nat):Int)=0 from rfl,Lh]at this
    rw [this]
    by_cases ha:(c::r).all dW=true
    ·rw [L4 ha]
     simp only [yW]
     by_cases hm:dval (c::r)≤2147483647
     ·have hok:qG (c::r)=true:=(bZ _).2 ⟨by simp,h10,fun h=>hz ⟨by simpa using h.2,h.1⟩,ha,hm⟩
      rw [hok,L4 rfl]
      rw [L3]
      ·rfl
      ·show ¬decide (((dval (c::r):Nat):Int)>2147483647)=true
       simp; omega
     ·have hok:qG (c::r)=false:=Ze fun h=>hm h.2.2.2.2
      rw [hok,L4]
      ·rfl
      ·show decide (((dval (c::r):Nat):Int)>2147483647)=true
       simp; omega
    ·have hok:qG (c::r)=false:=Ze fun h=>ha h.2.2.2.1
     rw [L3 ha,hok]; rfl
  ·have hok:qG (c::r)=false:=Ze fun h=>h10 h.2.1
   rw [L4 (by simp; simp at h10; omega),hok]; rfl
theorem wg (l:List Nat):(yQ l).length=l.length:=by simp [yQ]
theorem VQ {n:Nat} (hn:20≤n) (ps:List Bs) (hp:∀p∈ps,p.length≤1000000000) (hl:ps.length≤1000000000):∀(k:Nat) (pre suf:List Bs),ps=pre++suf→suf.length<k→pre.all qG=true →
  u6 n ps k (yQ (pre.map dval)) (pre.length:Int)=some (if suf.all qG=true then .nxt (yQ (ps.map dval))else .ret none)
 |0,_,_,_,h,_=>by omega
 | k+1,pre,[],hps,hk,ha=>by
  simp at hps; subst hps
  rw [u6,L3 (by simp)]; simp
 | k+1,pre,p::suf,hps,hk,ha=>by
  have hlen:ps.length=pre.length+(suf.length+1):=by rw [hps]; simp
  have hx:z1 ps (pre.length:Int)=some p:=by
   rw [z2 (by omega)]; congr 1; simp [hps]
  rw [u6,L4 (by simp; omega),hx]
  simp only [L0]
  rw [eM hn (hp p (by rw [hps]; simp))]
  simp only [L0]
  by_cases ho:qG p=true
  ·rw [L4 ho,L3 (by simp),w8 (by simp [wg]; omega)]
   simp only [L0]
   have e:(p::suf).all qG=suf.all qG:=by simp [ho]
   rw [w1 (by omega),e]
   have ih:=VQ hn ps hp hl k (pre ++ [p]) suf (by rw [hps]; simp) (by simp at hk; omega) (by simp [ha,ho])
   rw [←ih]
   simp [yQ]
  ·have e:(p::suf).all qG=false:=by simp [ho]
   rw [L3 ho,e]
   simp
theorem BH {c:UInt8} {s p:Bs} (h:p∈splitB c s):p.length≤s.length:=by
 induction s generalizing p with
 |nil=>simp [splitB]at h; subst h; simp
 | cons x r ih=>
  simp only [splitB]at h
  split at h
  ·rcases Lo.1 h with h|h
   ·subst h; simp
   ·have:=ih h; simp; omega
  ·split at h
   ·rename_i q ps hq
    rcases Lo.1 h with h|h
    ·subst h
     have:=ih (p:=q) (by rw [hq]; simp)
     simp; omega
    ·have:=ih (p:=p) (by rw [hq]; simp [h])
     simp; omega
   ·simp at h; subst h; simp
theorem Qz {n:Nat} {s:Bs} (hs:s.length≤100000000) (hn:s.length+20≤n):bW n s=some ((vA s).map yQ):=by
 unfold bW vA
 rw [strings_Split (by omega) (by omega)]
 simp only [L0]
 have hlen:(splitB 46 s).length≤s.length+1:=by
  rw [Z6]; have:= @List.count_le_length _ _ (46:UInt8) s; omega
 by_cases h2:2≤(splitB 46 s).length∧(splitB 46 s).length≤12
 ·have :(if(decide (((splitB 46 s).length:Int)<2))=true then some true else some (decide (((splitB 46 s).length:Int)>12)))=some false:=by
   rw [L3 (by simp; omega),decide_eq_false_iff_not.2 (by omega)]
  rw [this]
  simp only [L0,Bool.false_eq_true,if_false]
  have hl:=VQ (n:=n) (by omega) (splitB 46 s) (fun p hp=>by have:=BH hp; omega) (by omega) n [] (splitB 46 s) rfl (by omega) rfl
  rw [show(yQ (List.map dval ([]:List Bs)))= []from rfl,show((([]:List Bs).length:Nat):Int)=0 from rfl]at hl
  rw [hl]
  by_cases ha:(splitB 46 s).all qG=true
  ·rw [L4 ha]
   simp only [yW]
   match hd:(splitB 46 s).map dval with
   | []=>have:=congrArg List.length hd; rw [La,Ll]at this; omega
   | [x]=>have:=congrArg List.length hd; rw [La,L8]at this; omega
   | a ::b::l=>
    have h0:z1 (yQ (a::b::l)) 0=some (a:Int):=by simp [z1,yQ]
    have h1:z1 (yQ (a::b::l)) 1=some (b:Int):=by simp [z1,yQ]
    rw [h0,h1]
    simp only [L0]
    have hr:dt n (a:Int) (b:Int)=some (Zv (a::b::l)):=by
     unfold dt Zv
     have e2:((a:Int)==2)=decide (a=2):=by
      by_cases h:a=2
      ·simp [h]
      ·simp [h]; omega
     rw [e2]
     by_cases c1:a≤1
     ·by_cases c2:b≤39
      ·rw [L4 (by simp; omega),L4 (by simp; omega)]; simp [c1,c2]
      ·rw [L4 (by simp; omega),L3 (by simp; omega)]; simp [c2]
     ·rw [L3 (by simp; omega)]; simp [c1]
    rw [hr]
    simp only [L0]
    cases hro:Zv (a::b::l)with
    |true=>simp [h2,ha,lne,yQ]
    |false=>simp
  ·rw [L3 ha,L3 (fun h=>ha h.2.2.1)]; rfl
 ·have:(if(decide (((splitB 46 s).length:Int)<2))=true then some true else some (decide (((splitB 46 s).length:Int)>12)))=some true:=by
   by_cases h:(splitB 46 s).length<2
   ·rw [L4 (by simp; omega)]
   ·rw [L3 (by simp; omega),decide_eq_true (by omega)]
  rw [this,L3 (fun h=>h2 ⟨h.1,h.2.1⟩)]; rfl
theorem ZI {n:Nat} {s:Bs} (hs:s.length≤100000000) (hn:s.length+20≤n):jy n s=some (vA s).isSome:=by
 unfold jy
 rw [Qz hs hn]
 cases h:vA s with
 |none=>rfl
 | some l=>
  have:l≠ []:=by
   unfold vA at h
   split at h
   ·rename_i hc; injection h with h; subst h
    intro h'
    have:=congrArg List.length h'
    rw [La,Ll]at this
    omega
   ·cases h
  cases l with
  |nil=>exact absurd rfl this
  |cons a r=>rfl
theorem Qx {n:Nat} (p:Bs) (hl:p.length≤10) (hd:p.all dW=true):∀(k i v:Nat),i≤p.length→p.length-i<k→v<10^i →
  xo n p k (v:Int) (i:Int)=some (((p.drop i).foldl (fun n c=>10*n+(c.toNat-48)) v:Nat):Int)
 |0,i,v,_,h,_=>by omega
 | k+1,i,v,hi,hk,hv=>by
  rw [xo]
  by_cases hc:i<p.length
  ·rw [L4 (by simp; omega),uF hc]
   simp only [L0]
   have hdr:p.drop i=p[i]::p.drop (i+1):=Lb hc
   have hv10:v<10000000000:=Nat.lt_of_lt_of_le hv (Nat.le_trans (Nat.pow_le_pow_right (by omega) (show i≤10 by omega)) (by decide))
   have hdg:dW p[i]=true:=Lf.1 hd _ (Lk hc)
   have h2:=hdg
   simp only [dW,Le,L1]at h2
   rw [hdr,List.foldl_cons,Uh hdg (by omega),w1 (by omega)]
   refine Qx p hl hd k (i+1) _ (by omega) (by omega) ?_
   rw [Nat.pow_succ]; omega
  ·have:i=p.length:=by omega
   subst this
   rw [L3 (by simp)]
   simp
def JO (out:List Nat):List Bs→Ctl (List Int×Bool) (List Int)
 | []=> .nxt (yQ out)
 |p::ps=>if qG p=true∧out.length≠12 then JO (out ++ [dval p]) ps else .ret ([],false)
theorem GF (a b:Nat):((a:Int)==(b:Int))=decide (a=b):=by
 by_cases h:a=b
 ·subst h; simp
 ·simp [h]; omega
theorem fj {c d:UInt8}:((c.toNat:Int)==(d.toNat:Int))=decide (c=d):=by
 rw [GF]
 by_cases h:c=d
 ·subst h; simp
 ·rw [decide_eq_false h,decide_eq_false]
  exact fun h'=>h (UInt8.toNat_inj.1 h')
theorem Ds (p:Bs) (m:Nat):(if((List.length p:Int)==0)=true then(some true)else(if(decide ((List.length p:Int)>10))=true then(some true)else(if(decide ((List.length p:Int)>1))=true then((wl p 0).bind fun x578=>
  if(x578==48)=true then(some true)else(some ((m:Int)==12)))else(some ((m:Int)==12)))))=some (decide (p.length=0∨10<p.length∨(1<p.length∧p.head? =some 48)∨m=12)):=by
 rw [show(12:Int)=((12:Nat):Int)from rfl,GF]
 match p with
 | []=>simp
 | [c]=>simp
 | c ::d::r=>
  rw [L3 (by simp; omega)]
  by_cases h10:10<(c::d::r).length
  ·rw [L4 (by rw [L1]; omega),decide_eq_true (.inr (.inl h10))]
  ·have h0:wl (c::d::r) 0=some (c.toNat:Int):=by simp [wl]
   rw [L3 (by rw [L1]; omega),L4 (by simp; omega),h0]
   simp only [L0]
   rw [show((c.toNat:Int)==48)=decide (c=48)from fj (d:=48)]
   by_cases hc:c=48
   ·rw [L4 (by simp [hc]),decide_eq_true (.inr (.inr (.inl ⟨by simp,by simp [hc]⟩)))]
   ·rw [L3 (by simp [hc])]
    congr 1
    by_cases hm:m=12
    ·rw [decide_eq_true hm,decide_eq_true (.inr (.inr (.inr hm)))]
    ·rw [decide_eq_false hm,decide_eq_false]
     rintro(h|h|h|h)
     ·simp at h
     ·exact h10 h
     ·exact hc (by simpa using h.2)
     ·exact hm h
theorem VE {n:Nat} (hn:20≤n) (p:Bs) (out:List Nat) (rest:List Bs) (j:Int) (go:List Int→Int→Option (Ctl (List Int×Bool) (List Int))) (hd:p.all dW=true) (ho:out.length≤100000000)
  (hnext:qG p=true→go (yQ (out ++ [dval p])) j=some (JO (out ++ [dval p]) rest)):
  yW ((if((List.length p:Int)==0)=true then(some true)else(if(decide ((List.length p:Int)>10))=true then(some true)else(if(decide ((List.length p:Int)>1))=true then((wl p 0).bind fun x578=>
      if(x578==48)=true then(some true)else(some ((List.length (yQ out):Int)==12)))else(some ((List.length (yQ out):Int)==12))))).bind fun y580=>
     if y580=true then(some (.ret (([]:(List Int)),false)))else((xo n p n 0 0).bind fun y590=>
     if(decide (y590>2147483647))=true then(some (.ret (([]:(List Int)),false)))else((jV 8 (yQ out) ([y590]:List Int)).bind fun x600=>
     some (.nxt (x600,j))))) (fun r=>some (.ret r)) (fun y567=>go y567.1 y567.2)=some (JO out (p::rest)):=by
 rw [wg,Ds,JO]
 simp only [L0]
 by_cases hb:p.length=0∨10<p.length∨(1<p.length∧p.head? =some 48)∨out.length=12
 ·rw [decide_eq_true hb,L4 rfl,L3]
  ·rfl
  ·intro h
   obtain⟨k1,k2,k3,k4,k5⟩:=(bZ p).1 h.1
   rcases hb with h'|h'|h'|h'
   ·exact k1 (List.eq_nil_of_length_eq_zero h')
   ·omega
   ·exact k3 h'
   ·exact h.2 h'
 ·simp only [not_or]at hb
  obtain⟨b1,b2,b3,b4⟩:=hb
  rw [decide_eq_false (by simp only [not_or]; exact⟨b1,b2,b3,b4⟩),L3 (by simp)]
  have hval:=Qx (n:=n) p (by omega) hd n 0 0 (by omega) (by omega) (by simp)
  rw [show((0:Nat):Int)=0 from rfl,Lh]at hval
  rw [hval]
  simp only [L0]
  by_cases hm:dval p≤2147483647
  ·have hok:qG p=true:=(bZ p).2 ⟨fun h=>b1 (by rw [h]; rfl),by omega,b3,hd,hm⟩
   rw [L3 (by show ¬decide (((dval p:Nat):Int)>2147483647)=true; simp; omega),L4 ⟨hok,b4⟩,w8 (by simp [wg]; omega)]
   simp only [L0,yW]
   have e:yQ out ++ [((dval p:Nat):Int)]=yQ (out ++ [dval p]):=by simp [yQ]
   have h3:=hnext hok
   rw [←e]at h3
   exact h3
  ·rw [L4 (by show decide (((dval p:Nat):Int)>2147483647)=true; simp; omega),L3 (fun h=>hm ((bZ p).1 h.1).2.2.2.2)]; rfl
theorem Ux {n:Nat} (hn:20≤n) (s:Bs) (hs:s.length≤100000000):∀(k at_ i:Nat) (out:List Nat),at_≤i→i≤s.length→s.length-i+1<k→((s.take i).drop at_).all dW=true→out.length+(s.length-i)≤100000000 →
  yf n s k (yQ out) (at_:Int) (i:Int)=some (JO out (splitB 46 (s.drop at_)))
 |0,_,_,_,_,_,h,_,_=>by omega
 | k + 1,at_,i,out,ha,hi,hk,hd,ho=>by
  have hcur:s.drop at_=(s.take i).drop at_++s.drop i:=by
   conv=>lhs; rw [←List.take_append_drop i s]
   rw [List.drop_append_of_le_length (by simp; omega)]
  have hno:(46:UInt8)∉(s.take i).drop at_:=fun h=>by
   have:=Lf.1 hd _ h
   exact absurd this (by decide)
  rw [yf,L4 (by simp; omega)]
  by_cases hc:i<s.length
  ·have hdr:s.drop i=s[i]::s.drop (i+1):=Lb hc
   rw [L4 (by simp; omega),uF hc]
   simp only [L0]
   by_cases h46:s[i]=46
   ·have e1:(((s[i]).toNat:Int) !=46)=false:=by rw [h46]; rfl
    rw [e1,L3 (by simp),Wp ha hi]
    have hsp:splitB 46 (s.drop at_)=(s.take i).drop at_::splitB 46 (s.drop (i+1)):=by
     rw [hcur,hdr,h46]; exact(bU hno).2 _
    rw [hsp]
    have:=VE (n:=n) hn ((s.take i).drop at_) out (splitB 46 (s.drop (i+1))) ((i+1:Nat):Int) (fun o a=>yf n s k o a ((i+1:Nat):Int)) hd (by omega)
     (fun hok=>Ux hn s hs k (i+1) (i+1) (out ++ [dval ((s.take i).drop at_)]) (Nat.le_refl _) (by omega) (by omega) (by simp) (by simp; omega))
    rw [w1 (by omega)]
    exact this
   ·have e1:(((s[i]).toNat:Int) !=46)=true:=by
     have:(((s[i]).toNat:Int)==46)=decide (s[i]=46):=fj (d:=46)
     simp only [bne,this]; simp [h46]
    rw [e1,L4 rfl]
    by_cases hdg:dW s[i]=true
    ·have h2:=hdg
     simp only [dW,Le,L1]at h2
     rw [L3 (by simp; omega)]
     simp only [L0]
     rw [L3 (by simp; omega),w1 (by omega)]
     simp only [yW]
     refine Ux hn s hs k at_ (i+1) out (by omega) (by omega) (by omega) ?_ (by omega)
     rw [List.take_succ_eq_append_getElem hc,List.drop_append_of_le_length (by simp; omega),List.all_append,hd]; simp [hdg]
    ·have h2:s[i].toNat<48∨57<s[i].toNat:=by
      simp only [dW,Le,L1]at hdg; omega
     have e2:(if(decide (((s[i]).toNat:Int)<48))=true then some true else some (decide (((s[i]).toNat:Int)>57)))=some true:=by
      by_cases h:s[i].toNat<48
      ·rw [L4 (by simp; omega)]
      ·rw [L3 (by simp; omega)]; simp; omega
     rw [e2]
     obtain⟨q,ps,hq⟩:=QL (r:=s.drop (i+1)) hno h46
     rw [hcur,hdr,hq,JO,L3]
     ·rfl
     ·intro h
      have:=((bZ _).1 h.1).2.2.2.1
      rw [List.all_append,List.all_cons]at this
      simp [hdg]at this
  ·have hie:i=s.length:=by omega
   rw [L3 (by simp; omega)]
   simp only [L0,Bool.false_eq_true,if_false]
   have hsp:splitB 46 (s.drop at_)=(s.take i).drop at_:: []:=by
    rw [hcur,hie,List.drop_length,Lj]; exact(bU (by rw [←hie]; exact hno)).1
   rw [hsp,Wp ha hi,w1 (by omega)]
   refine VE (n:=n) hn ((s.take i).drop at_) out [] ((i+1:Nat):Int) (fun o a=>yf n s k o a ((i+1:Nat):Int)) hd (by omega) (fun hok=> ?_)
   match k,hk with
   | k+1,hk=>
    show yf n s (k+1) _ _ _=_
    rw [yf,L3 (by simp; omega)]; rfl
theorem Kz:∀(ps:List Bs) (out:List Nat),out.length≤12→JO out ps=if ps.all qG=true∧out.length+ps.length≤12 then .nxt (yQ (out++ps.map dval))else .ret ([],false)
 | [],out,h=>by rw [JO,L4 ⟨rfl,by simpa using h⟩]; simp
 | p ::ps,out,h=>by
  rw [JO]
  by_cases hp:qG p=true
  ·by_cases h12:out.length=12
   ·rw [L3 (fun h'=>h'.2 h12),L3 (fun h'=>by have:=h'.2; simp at this; omega)]
   ·rw [L4 ⟨hp,h12⟩,Kz ps _ (by simp; omega)]
    have e:((p::ps).all qG=true∧out.length+(p::ps).length≤12)↔(ps.all qG=true∧(out ++ [dval p]).length+ps.length≤12):=by
     rw [List.all_cons,hp,Bool.true_and]; simp; omega
    simp only [e]; simp
  ·rw [L3 (fun h'=>hp h'.1),L3 (fun h'=>hp (by have:=h'.1; rw [List.all_cons,Le]at this; exact this.1))]
theorem KM {n:Nat} {s:Bs} (hs:s.length≤100000000) (hn:s.length+20≤n):vw n s=some (match vA s with|some l=>(yQ l,true)|none=>([],false)):=by
 unfold vw vA
 have h1:=Ux (n:=n) (by omega) s hs n 0 0 [] (by omega) (by omega) (by omega) (by simp) (by simp; omega)
 rw [show((0:Nat):Int)=0 from rfl,Lh,show yQ []= []from rfl,Kz _ _ (by simp)]at h1
 rw [h1]
 simp only [Ll,Nat.zero_add,Li]
 by_cases ha:(splitB 46 s).all qG=true∧(splitB 46 s).length≤12
 ·rw [L4 ha]
  simp only [yW,wg,La]
  by_cases h2:2≤(splitB 46 s).length
  ·rw [L3 (by simp; omega)]
   match hd:(splitB 46 s).map dval with
   | []=>have:=congrArg List.length hd; rw [La,Ll]at this; omega
   | [x]=>have:=congrArg List.length hd; rw [La,L8]at this; omega
   | a ::b::l=>
    have k0:z1 (yQ (a::b::l)) 0=some (a:Int):=by simp [z1,yQ]
    have k1:z1 (yQ (a::b::l)) 1=some (b:Int):=by simp [z1,yQ]
    rw [k0,k1]
    simp only [L0]
    have hr:(if(decide ((a:Int)>2))=true then some true else if(decide ((a:Int)<2))=true then some (decide ((b:Int)>39))else some false)=some (!Zv (a::b::l)):=by
     show _=some (!(decide (a≤1)&&decide (b≤39)||decide (a=2)))
     by_cases c1:2<a
     ·rw [L4 (by simp; omega),decide_eq_false (show ¬a≤1 by omega),decide_eq_false (show ¬a=2 by omega)]; rfl
     ·rw [L3 (by simp; omega)]
      by_cases c2:a<2
      ·rw [L4 (by simp; omega),decide_eq_true (show a≤1 by omega),decide_eq_false (show ¬a=2 by omega)]
       by_cases c3:b≤39
       ·rw [decide_eq_true c3,decide_eq_false (by omega)]; rfl
       ·rw [decide_eq_false c3,decide_eq_true (by omega)]; rfl
      ·rw [L3 (by simp; omega),decide_eq_true (show a=2 by omega)]; simp
    rw [hr]
    simp only [L0]
    cases hro:Zv (a::b::l)with
    |true=>rw [L3 (by simp),L4 ⟨h2,ha.2,ha.1,rfl⟩]
    |false=>rw [L4 (by simp),L3 (fun h=>by have:=h.2.2.2; simp at this)]
  ·rw [L4 (by simp; omega),L3 (fun h=>h2 h.1)]; rfl
 ·rw [L3 ha,L3 (fun h=>ha ⟨h.2.2.1,h.2.1⟩)]; rfl
theorem Yh {n:Nat} {s:Bs} (hs:s.length≤100000000) (hn:s.length+20≤n):xN n s=some (vA s).isSome:=by
 unfold xN
 rw [KM hs hn]
 cases vA s<;>rfl
end Go.Abs
end
