/- The typed Lean form of WireBytes gives true for every string. No condition. -/
import Derived.Test.YtbggpcnbbhjiaaaGreatDoorLaw1
set_option linter.unusedVariables false
set_option linter.unusedSimpArgs false
set_option linter.unnecessarySimpa false
section
set_option maxRecDepth 100000
namespace Go.Abs
open Go Go.Proofs IntKind
def o8 (n:Nat):UInt8:=UInt8.ofNat n
def Bw (t n:Nat):Bs:=
 if n<128 then [o8 t,o8 n]else if n<256 then [o8 t,129,o8 n]else if n<65536 then [o8 t,130,o8 (n/256),o8 n]else [o8 t,131,o8 (n/65536),o8 (n/256),o8 n]
def tWrap (t:Nat) (c:Bs):Bs×Int:=if c.length≤131072 then(Bw t c.length++c,0)else([],6)
theorem gn (n:Nat):UInt8.ofNat (wrap .u8 (n:Int)).toNat=o8 n:=by
 have h:wrap .u8 (n:Int)=((n%256:Nat):Int):=by
  rw [wrap]; simp [IntKind.signed,IntKind.bits]
 rw [h]; unfold o8
 apply UInt8.toNat_inj.1
 simp; omega
theorem P5 (a b:Nat) (h:0<b):Int.fdiv (a:Int) (b:Int)=((a/b:Nat):Int):=by
 rw [Int.fdiv_eq_ediv_of_nonneg _ O0]; rfl
theorem GP (t n:Nat):2≤(Bw t n).length∧(Bw t n).length≤5:=by
 unfold Bw; split
 ·simp
 ·split
  ·simp
  ·split<;>simp
theorem zU (t:Nat) (c:Bs):(tWrap t c).1.length≤c.length+5:=by
 unfold tWrap; split
 ·have:=GP t c.length; simp; omega
 ·simp
theorem lg {n:Nat} (cs:List Bs) (hm:∀c∈cs,c.length≤1000000000000):∀(k:Nat) (pre suf:List Bs),cs=pre++suf→suf.length<k→cs.length≤1000000000000→pre.flatten.length≤131072 →
  kN n cs k (pre.flatten.length:Int) (pre.length:Int)=some (if cs.flatten.length≤131072 then .nxt (cs.flatten.length:Int)else .ret ([],6))
 |0,_,_,_,h,_,_=>O0
 | k+1,pre,[],hp,hk,hl,ht=>by
  simp at hp; subst hp
  rw [kN,L3 (by simp [-List.length_flatten]),L4 ht]
 | k+1,pre,c::suf,hp,hk,hl,ht=>by
  have hlen:cs.length=pre.length+(suf.length+1):=by rw [hp]; simp [-List.length_flatten]
  have hfl:cs.flatten.length=pre.flatten.length+(c.length+suf.flatten.length):=by rw [hp,List.flatten_append,L5,List.flatten_cons,L5]
  have hx:zV cs (pre.length:Int)=some c:=by
   rw [zE O0]; congr 1; simp [hp]
  rw [kN,L4 O5,hx]
  simp only [L0]
  rw [yv (x:=(131072:Int)-(pre.flatten.length:Int)) O0]
  have hc:=hm c (by rw [hp]; simp)
  by_cases hb:pre.flatten.length+c.length≤131072
  ·have ih:=lg (n:=n) cs hm k (pre ++ [c]) suf (by rw [hp]; simp) (by simp at hk; omega) hl (by rw [List.flatten_append,L5]; simp [-List.length_flatten]; omega)
   rw [L3 O5,yv O0,w1 O0]
   rw [show((pre.flatten.length:Int)+(c.length:Int))=(((pre ++ [c]).flatten.length:Nat):Int)by rw [List.flatten_append,L5]; simp [-List.length_flatten],show pre.length+1=(pre ++ [c]).length by simp]
   exact ih
  ·rw [L4 O5,L3 O0]
theorem JI (cs:List Bs):Lib.join cs []=cs.flatten:=by
 induction cs with
 |nil=>rfl
 |cons c r ih=>rw [Lib.join_cons]; simp [Lib.joinTail]
theorem zad {n:Nat} {cs:List Bs} (h1:cs.flatten.length≤140737488355328) (h2:cs.length≤140737488355328):Wc n cs []=some cs.flatten:=by
 unfold Wc; rw [JI,L4 ⟨h1,h2⟩]
theorem Ww {n:Nat} {t:Nat} {cs:List Bs} (h1:t≤255) (h2:t%32≠31) (hm:∀c∈cs,c.length≤1000000000000) (hn:cs.length<n) (hl:cs.length≤1000000000000):
  ve n (t:Int) cs=some (tWrap t cs.flatten):=by
 unfold ve tWrap
 have h31:(kY .i64 (t:Int) 31==31)=false:=by
  have:=zax (UInt8.ofNat t)
  rw [show(UInt8.ofNat t).toNat=t by simp [-List.length_flatten]; omega]at this
  rw [this]; simp [h2]
 rw [L3 (by simp [-List.length_flatten]),L3 O5,h31]
 simp only [L0,Bool.false_eq_true,if_false]
 have:=lg (n:=n) cs hm n [] cs rfl hn hl (by simp [-List.length_flatten])
 simp only [List.flatten_nil,Lj]at this
 rw [show((0:Nat):Int)=0 from rfl]at this
 rw [this]
 by_cases hc:cs.flatten.length≤131072
 ·rw [L4 hc,L4 hc]
  simp only [z8]
  generalize hL:cs.flatten.length=L at *
  have e1:Int.fdiv (L:Int) 256=((L/256:Nat):Int):=P5 L 256 O0
  have e2:Int.fdiv (L:Int) 65536=((L/65536:Nat):Int):=P5 L 65536 O0
  rw [e1,e2,zad O0 O0]
  unfold Bw
  by_cases a1:L<128
  ·rw [L4 O5,L4 a1]
   simp only [pb,L0]
   simp [jw,b2s,gn,hL]
   have:2+L≤9223372036854775807:=O0
   simp [this]
  ·by_cases a2:L<256
   ·rw [L3 O5,L4 O5,L3 a1,L4 a2]
    simp only [pb,L0]
    simp [jw,b2s,gn,hL]
    have:3+L≤9223372036854775807:=O0
    simp [this]
   ·by_cases a3:L<65536
    ·rw [L3 O5,L3 O5,L4 O5,L3 a1,L3 a2,L4 a3]
     simp only [pb,L0]
     simp only [jw,b2s,List.map_append,Lb,List.map_nil,gn,L5,L7,Lj,hL]
     have:0+1+(0+1+1+1)+L≤9223372036854775807:=O0
     simp [this]
     exact⟨gn t,gn (L/256),gn L⟩
    ·rw [L3 O5,L3 O5,L3 O5,L3 a1,L3 a2,L3 a3]
     simp only [pb,L0]
     simp only [jw,b2s,List.map_append,Lb,List.map_nil,gn,L5,L7,Lj,hL]
     have:0+1+(0+1+1+1+1)+L≤9223372036854775807:=O0
     simp [this]
     exact⟨gn t,gn (L/65536),gn (L/256),gn L⟩
 ·rw [L3 hc,L3 hc]; rfl
theorem cD {n:Nat} (cs:List Bs):∀(k:Nat) (pre suf:List Bs),cs=pre++suf→suf.length<k→cs.length≤1000000000000→cs.flatten.length≤1000000000000 →
  wW n cs k pre.flatten (pre.length:Int)=some cs.flatten
 |0,_,_,_,h,_,_=>O0
 | k+1,pre,[],hp,hk,hl,ht=>by
  simp at hp; subst hp
  rw [wW,L3 (by simp [-List.length_flatten])]
 | k+1,pre,c::suf,hp,hk,hl,ht=>by
  have hlen:cs.length=pre.length+(suf.length+1):=by rw [hp]; simp [-List.length_flatten]
  have hfl:cs.flatten.length=pre.flatten.length+(c.length+suf.flatten.length):=by rw [hp,List.flatten_append,L5,List.flatten_cons,L5]
  have hx:zV cs (pre.length:Int)=some c:=by
   rw [zE O0]; congr 1; simp [hp]
  rw [wW,L4 O5,hx]
  simp only [L0]
  rw [yo O0,w1 O0]
  simp only [L0]
  have ih:=cD (n:=n) cs k (pre ++ [c]) suf (by rw [hp]; simp) (by simp at hk; omega) hl ht
  simp only [List.flatten_append,List.flatten_cons,List.flatten_nil,Lh,L5,L7,Lj,Nat.zero_add]at ih
  exact ih
theorem Xc {n:Nat} {t:Nat} {cs:List Bs} (h1:t≤255) (h2:t%32≠31) (hm:cs.flatten.length≤1000000000000) (hn:cs.length<n) (hl:cs.length≤1000000000000):
  yZ n (t:Int) cs=some (tWrap t cs.flatten):=by
 unfold yZ tWrap
 have h31:(Int.tmod (t:Int) 32==31)=false:=by
  rw [show Int.tmod (t:Int) 32=((t%32:Nat):Int)from rfl]; simp; omega
 rw [L3 (by simp [-List.length_flatten]),L3 O5,h31]
 simp only [L0,Bool.false_eq_true,if_false]
 have:=cD (n:=n) cs n [] cs rfl hn hl hm
 simp only [List.flatten_nil,Lj]at this
 rw [show((0:Nat):Int)=0 from rfl]at this
 rw [this]
 simp only [L0]
 by_cases hc:cs.flatten.length≤131072
 ·rw [L3 O5,L4 hc]
  generalize hL:cs.flatten.length=L at *
  have e1:Int.fdiv (L:Int) 256=((L/256:Nat):Int):=P5 L 256 O0
  have e2:Int.fdiv (L:Int) 65536=((L/65536:Nat):Int):=P5 L 65536 O0
  rw [e1,e2]
  unfold Bw
  by_cases a3:L<65536
  ·rw [L3 O5]
   by_cases a2:L<256
   ·rw [L3 O5]
    by_cases a1:L<128
    ·rw [L3 O5,L4 a1]
     simp only [L0]
     rw [yo (by simp [b2s, -List.length_flatten]; omega)]
     simp [b2s,gn]
    ·rw [L4 O5,L3 a1,L4 a2]
     simp only [L0]
     rw [yo (by simp [b2s, -List.length_flatten]; omega)]
     simp [b2s,gn]
   ·rw [L4 O5,L3 O0,L3 a2,L4 a3]
    simp only [L0]
    rw [yo (by simp [b2s, -List.length_flatten]; omega)]
    simp only [b2s,Lb,List.map_nil,gn]; rfl
  ·rw [L4 O5,L3 O0,L3 O0,L3 a3]
   simp only [L0]
   rw [yo (by simp [b2s, -List.length_flatten]; omega)]
   simp only [b2s,Lb,List.map_nil,gn]; rfl
 ·rw [L4 O5,L3 hc]
theorem YF {n:Nat} (h:n<256):(o8 n).toNat=n:=by unfold o8; simp; omega
theorem BR {t:Nat} {c rest:Bs} (h1:t≤255) (h2:t%32≠31) (hc:c.length≤131072):wT ((tWrap t c).1++rest)=(⟨t,c,(tWrap t c).1⟩,rest,0):=by
 unfold tWrap
 rw [L4 hc]
 simp only
 generalize hL:c.length=L at *
 have ht:(o8 t).toNat=t:=YF O0
 unfold Bw
 by_cases a1:L<128
 ·rw [L4 a1]
  have hb:(o8 L).toNat=L:=YF O0
  simp only [List.cons_append,Lg,wT,ht,hb,h2,if_false]
  rw [L3 O0,L4 a1,L3 O3]
  simp [←hL]
 ·rw [L3 a1]
  by_cases a2:L<256
  ·rw [L4 a2]
   have hb:(o8 L).toNat=L:=YF O0
   have hn:num ((o8 L::(c++rest)).take 1)=L:=by simp [num,hb]
   simp only [List.cons_append,Lg,wT,ht,h2,if_false]
   rw [L3 O1,L3 O1,show(129:UInt8).toNat-128=1 from rfl,L3 O2,hn,L3 (by simp [least]; omega),L3 O3]
   simp [←hL,show 1+c.length=c.length+1 by omega]
  ·rw [L3 a2]
   by_cases a3:L<65536
   ·rw [L4 a3]
    have hb:(o8 (L/256)).toNat=L/256:=YF O0
    have hb2:(o8 L).toNat=L%256:=by unfold o8; simp
    have hn:num ((o8 (L/256)::o8 L::(c++rest)).take 2)=L:=by simp [num,hb,hb2]; omega
    simp only [List.cons_append,Lg,wT,ht,h2,if_false]
    rw [L3 O1,L3 O1,show(130:UInt8).toNat-128=2 from rfl,L3 O2,hn,L3 (by simp [least]; omega),L3 O3]
    simp [←hL,show 2+c.length=c.length+1+1 by omega]
   ·rw [L3 a3]
    have hb0:(o8 (L/65536)).toNat=L/65536:=YF O0
    have hb:(o8 (L/256)).toNat=L/256%256:=by unfold o8; simp
    have hb2:(o8 L).toNat=L%256:=by unfold o8; simp
    have hn:num ((o8 (L/65536)::o8 (L/256)::o8 L::(c++rest)).take 3)=L:=by simp [num,hb0,hb,hb2]; omega
    simp only [List.cons_append,Lg,wT,ht,h2,if_false]
    rw [L3 O1,L3 O1,show(131:UInt8).toNat-128=3 from rfl,L3 O2,hn,L3 (by simp [least]; omega),L3 O3]
    simp [←hL,show 3+c.length=c.length+1+1+1 by omega]
def elm (p:Nat×Bs):za:=⟨p.1,p.2,(tWrap p.1 p.2).1⟩
def POk (p:Nat×Bs):Prop:=p.1≤255∧p.1%32≠31∧p.2.length≤131072
def wraps (l:List (Nat×Bs)):Bs:=(l.map fun p=>(tWrap p.1 p.2).1).flatten
theorem tb (t:Nat) {c:Bs} (hc:c.length≤131072):2≤(tWrap t c).1.length:=by
 unfold tWrap; rw [L4 hc]; have:=GP t c.length; simp; omega
theorem Jz:∀(l:List (Nat×Bs)) (k:Nat) (acc:List za),(∀p∈l,POk p)→(wraps l).length<k→pm k (wraps l) acc=(acc++l.map elm,0)
 | [],0,acc,_,h=>O0
 | [],k+1,acc,_,_=>by simp [wraps,pm]
 |p::r,0,acc,_,h=>O0
 | p::r,k+1,acc,hp,h=>by
  obtain⟨h1,h2,h3⟩:=hp p O2
  have hw:wraps (p::r)=(tWrap p.1 p.2).1++wraps r:=by simp [wraps]
  have hne:=tb p.1 h3
  rw [hw]at h ⊢
  rw [pm,L3 (by intro h'; have:=congrArg List.length h'; simp at this; simp [this.1]at hne),BR h1 h2 h3]
  rw [L3 O2]
  rw [Jz r k _ (fun q hq=>hp q (by simp [hq])) (by simp at h; omega)]
  simp [elm]
theorem yV {l:List (Nat×Bs)} (h:∀p∈l,POk p):tList (wraps l)=(l.map elm,0):=by
 unfold tList; rw [Jz l _ [] h O0]; rfl
theorem pZ {t:Nat} {c:Bs} (h1:t≤255) (h2:t%32≠31) (hc:c.length≤131072):va (tWrap t c).1=(⟨t,c,(tWrap t c).1⟩,0):=by
 have:=BR (rest:= []) h1 h2 hc
 rw [Lh]at this
 unfold va
 rw [this]; simp
theorem Ul {n k:Nat} (h:k≤n):∃m,n=m+k:=⟨n-k,O0⟩
theorem Wu {α:Type} {l:List α} {x:α}:lsl (x::l) 1 ((x::l).length:Nat)=some l:=by
 unfold lsl
 rw [L4 O3]
 simp
def yx (c:UInt8):Bs→List Bs
 | []=> [[]]
 | x::r=>if x=c then []::yx c r else match yx c r with
  |p::ps=>(x::p)::ps
  | []=> [[x]]
theorem Ud (c:UInt8) (s:Bs):yx c s≠ []:=by
 cases s with
 |nil=>simp [yx]
 | cons x r=>
  simp only [yx]; split
  ·simp
  ·split<;>simp
theorem Va (c:UInt8) (s:Bs):(yx c s).length=s.count c+1:=by
 induction s with
 |nil=>rfl
 | cons x r ih=>
  simp only [yx]
  by_cases h:x=c
  ·subst h; rw [L4 rfl]; simp [ih]
  ·rw [L3 h,List.count_cons_of_ne h]
   split
   ·rename_i p ps hp; rw [hp]at ih; simpa using ih
   ·rename_i hp; exact absurd hp (Ud c r)
theorem pN {c:UInt8} {p:Bs} (hp:c∉p):yx c p= [p]∧∀r,yx c (p++c::r)=p::yx c r:=by
 induction p with
 |nil=>exact⟨rfl,fun r=>by simp [yx]⟩
 | cons x q ih=>
  simp only [Lm,not_or]at hp
  obtain⟨h1,h2⟩:=ih hp.2
  refine⟨?_,fun r=> ?_⟩
  ·simp only [yx]; rw [L3 (Ne.symm hp.1),h1]
  ·simp only [List.cons_append,yx]; rw [L3 (Ne.symm hp.1),h2 r]
theorem P3 {c x:UInt8} {p r:Bs} (hp:c∉p) (hx:x≠c):∃q ps,yx c (p++x::r)=(p++x::q)::ps:=by
 induction p with
 | nil=>
  simp only [Lg,yx]; rw [L3 hx]
  split
  ·exact⟨_,_,rfl⟩
  ·exact⟨[],[],rfl⟩
 | cons y q ih=>
  simp only [Lm,not_or]at hp
  obtain⟨q',ps,h⟩:=ih hp.2
  simp only [List.cons_append,yx]; rw [L3 (Ne.symm hp.1),h]
  exact⟨q',ps,rfl⟩
theorem WM (c:UInt8):∀s:Bs,(Lib.index s [c]= -1∧c∉s)∨∃p r,s=p++c::r∧Lib.index s [c]=(p.length:Int)∧c∉p
 | []=> .inl ⟨rfl,O2⟩
 | x ::l=>by
  unfold Lib.index
  by_cases h:x=c
  ·subst h; exact .inr ⟨[],l,rfl,by simp [List.isPrefixOf],O2⟩
  ·have hpre:List.isPrefixOf [c] (x::l)=false:=by simp [List.isPrefixOf]; exact fun h'=>absurd h'.symm h
   rw [hpre]
   rcases WM c l with⟨h1,h2⟩|⟨p,r,h1,h2,h3⟩
   ·refine .inl ⟨by simp [h1], ?_⟩
    simp only [Lm,not_or]; exact⟨Ne.symm h,h2⟩
   ·refine .inr ⟨x::p,r,by rw [h1]; rfl, ?_, ?_⟩
    ·rw [h2]
     have:((p.length:Int)== -1)=false:=O2
     simp [this]
    ·simp only [Lm,not_or]; exact⟨Ne.symm h,h3⟩
theorem lL {α:Type} {l:List α} {x y:α} {r:List α} {i:Nat} (h:i=l.length):VT (l++y::r) (i*1) x=some (l++x::r):=by
 subst h
 unfold VT
 rw [Nat.mul_one,L4 O2]
 simp
theorem QZ {n:Nat} {c:UInt8} {s:Bs} (hs:s.length≤1000000000) (m:Nat) (hm:m=s.count c+1):∀(k i:Nat) (v:Bs) (done:List Bs),done.length=i→i+v.count c+1=m→v.length≤s.length→v.count c<k →
  ∃w done2,uJ n s (m:Int) [c] 0 m k v (i:Int) (done++List.replicate (m-i) [])=some (w,((m-1:Nat):Int),done2++List.replicate 1 [])∧done2.length=m-1∧done++yx c v=done2 ++ [w]
 |0,_,_,_,_,_,_,h=>O0
 | k + 1,i,v,done,hd,hi,hv,hk=>by
  have hcs:s.count c≤s.length:=List.count_le_length
  rw [uJ]
  have e1:wrap .i64 ((s.length:Int)+1)=((s.length+1:Nat):Int):=by rw [yv O0]; omega
  rw [e1]
  have e2:(if(((s.length+1:Nat):Int))<(m:Int)then((s.length+1:Nat):Int)else(m:Int))=(m:Int):=by
   rw [L3 O0]
  rw [e2,yv (x:=(m:Int)-1) O0]
  by_cases hc:i<m-1
  ·rw [L4 O3]
   have hidx:Yd n v [c]=some (Lib.index v [c]):=by unfold Yd; rw [L4 O0]
   rw [hidx]
   simp only [L0]
   rcases WM c v with⟨h1,h2⟩|⟨p,r,h1,h2,h3⟩
   ·have:v.count c=0:=List.count_eq_zero.2 h2
    omega
   ·have hvc:v.count c=r.count c+1:=by rw [h1,List.count_append,List.count_eq_zero.2 h3]; simp
    have hvl:v.length=p.length+1+r.length:=by rw [h1]; simp; omega
    rw [h2,L3 O2,yv (x:=(p.length:Int)+0) O0,Int.add_zero]
    have s1:ssl v 0 (p.length:Int)=some p:=by
     rw [show(0:Int)=((0:Nat):Int)from rfl,bn O0 O0,h1]; simp
    have s2:ssl v (wrap .i64 ((p.length:Int)+(([c]:Bs).length:Int))) (v.length:Int)=some r:=by
     rw [show(([c]:Bs).length:Int)=1 from rfl,w1 O0,bn O0 O0,List.take_length,h1,show p.length+1=(p ++ [c]).length by simp,show p++c::r=(p ++ [c])++r by simp,List.drop_left]
    have s3:pq m (i:Int)=some i:=by unfold pq; rw [L4 O0]; simp
    have hrep:List.replicate (m-i) ([]:Bs)= []::List.replicate (m-(i+1)) []:=by
     rw [show m-i=(m-(i+1))+1 by omega,List.replicate_succ]
    rw [s1,s3,s2,hrep]
    simp only [L0]
    rw [lL hd.symm,w1 O0]
    simp only [L0]
    have ih:=QZ (n:=n) hs m hm k (i+1) r (done ++ [p]) (by simp [hd]) O0 O0 O0
    obtain⟨w,d2,g1,g2,g3⟩:=ih
    refine⟨w,d2, ?_,g2, ?_⟩
    ·rw [←g1]; simp
    ·rw [←g3,h1,(pN h3).2 r]; simp
  ·rw [L3 O3]
   have hi':i=m-1:=O0
   have h0:v.count c=0:=O0
   have hn:c∉v:=List.count_eq_zero.1 h0
   refine⟨v,done, ?_,O0,by rw [(pN hn).1]⟩
   rw [hi',show m-(m-1)=1 by omega]
theorem UI {n:Nat} {c:UInt8} {s:Bs} (hs:s.length≤1000000000) (hn:s.length+2≤n):gI n s [c]=some (yx c s):=by
 unfold gI ph
 have hcs:s.count c≤s.length:=List.count_le_length
 rw [L3 O1,L3 O2,L4 O1]
 have hct:JF n s [c]=some ((s.count c:Nat):Int):=rfl
 rw [hct]
 simp only [L0]
 have e0:wrap .i64 (((s.count c:Nat):Int)+1)=((s.count c+1:Nat):Int):=by rw [yv O0]; omega
 have e1:wrap .i64 ((s.length:Int)+1)=((s.length+1:Nat):Int):=by rw [yv O0]; omega
 rw [e0,e1]
 generalize hm:s.count c+1=m at *
 have e2:(if(((s.length+1:Nat):Int))<(m:Int)then((s.length+1:Nat):Int)else(m:Int))=(m:Int):=by
  rw [L3 O0]
 rw [e2]
 have hmk:BP 16 (m:Int) (m:Int)=some m:=by unfold BP; rw [L4 O0]; simp
 rw [hmk]
 simp only [L0]
 obtain⟨w,d2,g1,g2,g3⟩:=QZ (n:=n) (c:=c) hs m hm.symm n 0 s [] rfl O0 (Nat.le_refl _) O0
 rw [show((0:Nat):Int)=0 from rfl,Lg,Nat.sub_zero]at g1
 rw [Lg]at g3
 rw [g1]
 simp only [L0]
 have s3:pq m (((m-1:Nat):Int))=some (m-1):=by unfold pq; rw [L4 O0]; simp
 rw [s3]
 simp only [L0]
 rw [show List.replicate 1 ([]:Bs)= [[]]from rfl,lL g2.symm]
 simp only [L0]
 have e3:wrap .i64 (((m-1:Nat):Int)+1)=(m:Int):=by rw [yv O0]; omega
 rw [e3]
 have e4:osl m (m:Int)=some m:=by unfold osl; rw [L4 O0]; simp
 rw [e4]
 simp only [L0]
 have e5:J5 m (d2 ++ [w])=some (d2 ++ [w]):=by
  unfold J5; rw [L4 O3,List.take_of_length_le O3]
 rw [e5,g3]; rfl
def YY (c:UInt8):Bool:=decide (48≤c.toNat)&&decide (c.toNat≤57)
def dval (p:Bs):Nat:=p.foldl (fun n c=>10*n+(c.toNat-48)) 0
def gt (p:Bs):Bool:=decide (p≠ [])&&decide (p.length≤10) && !(decide (1<p.length)&&decide (p.head? =some 48))&&p.all YY&&decide (dval p≤2147483647)
def Xo (l:List Nat):Bool:=match l with
 |a::b::_=>(decide (a≤1)&&decide (b≤39))||decide (a=2)
 |_=>false
def y4 (s:Bs):Option (List Nat):=
 if 2≤(yx 46 s).length∧(yx 46 s).length≤12∧(yx 46 s).all gt=true∧Xo ((yx 46 s).map dval)=true then some ((yx 46 s).map dval)else none
def yA (l:List Nat):List Int:=l.map fun n:Nat=>(n:Int)
theorem Zb (p:Bs):gt p=true↔p≠ []∧p.length≤10∧¬(1<p.length∧p.head? =some 48)∧p.all YY=true∧dval p≤2147483647:=by
 unfold gt
 simp only [Lc,L2,Bool.not_eq_true',Bool.and_eq_false_imp,decide_eq_false_iff_not,and_assoc,not_and]
theorem XW {p:Bs} (h:¬(p≠ []∧p.length≤10∧¬(1<p.length∧p.head? =some 48)∧p.all YY=true∧dval p≤2147483647)):gt p=false:=by
 rw [Bool.eq_false_iff]; exact fun h'=>h ((Zb p).1 h')
theorem K8 {c:UInt8} (hc:YY c=true) {v:Nat} (hv:v<100000000000):wrap .i64 (wrap .i64 ((10:Int)*(v:Int))+wrap .i64 (wrap .u8 ((c.toNat:Int)-48)))=((10*v+(c.toNat-48):Nat):Int):=by
 simp only [YY,Lc,L2]at hc
 rw [wr8 O0 O0,yv (x:=(10:Int)*(v:Int)) O0,yv (x:=(c.toNat:Int)-48) O0,yv O0]
 omega
theorem BD {n:Nat} (p:Bs) (hl:p.length≤10):∀(k i v:Nat),i≤p.length→p.length-i<k→v<10^i→(p.take i).all YY=true →
  de n p k (v:Int) (i:Int)=some (if(p.drop i).all YY=true then .nxt (((p.drop i).foldl (fun n c=>10*n+(c.toNat-48)) v:Nat):Int)else .ret (-1))
 |0,i,v,_,h,_,_=>O0
 | k + 1,i,v,hi,hk,hv,hd=>by
  rw [de]
  by_cases hc:i<p.length
  ·rw [L4 O3,vC hc]
   simp only [L0]
   have hdr:p.drop i=p[i]::p.drop (i+1):=L9 hc
   have hv10:v<10000000000:=Nat.lt_of_lt_of_le hv (Nat.le_trans (Nat.pow_le_pow_right O0 (show i≤10 by omega)) O1)
   rw [hdr,List.all_cons,List.foldl_cons]
   by_cases hdg:YY p[i]=true
   ·have h2:=hdg
    simp only [YY,Lc,L2]at h2
    rw [L3 O3]
    simp only [L0]
    rw [L3 O3,K8 hdg O0,w1 O0,hdg,Bool.true_and]
    refine BD p hl k (i+1) _ O0 O0 ?_ ?_
    ·rw [Nat.pow_succ]; omega
    ·rw [List.take_succ_eq_append_getElem hc,List.all_append,hd]; simp [hdg]
   ·have h2:p[i].toNat<48∨57<p[i].toNat:=by
     simp only [YY,Lc,L2]at hdg; omega
    have:(if(decide (((p[i]).toNat:Int)<48))=true then some true else some (decide (((p[i]).toNat:Int)>57)))=some true:=by
     by_cases h:p[i].toNat<48
     ·rw [L4 O3]
     ·rw [L3 O3]; simp; omega
    rw [this]
    simp only [Bool.not_eq_true]at hdg
    simp [hdg]
  ·have:i=p.length:=O0
   subst this
   rw [L3 O2]
   simp
theorem tM {n:Nat} {p:Bs} (hn:20≤n) (hp:p.length≤1000000000):WS n p=some (if gt p=true then((dval p:Nat):Int)else -1):=by
 unfold WS
 match p,hp with
 | [],_=>simp [gt]
 | c :: r,hp=>
  rw [L3 O2]
  by_cases h10:(c::r).length≤10
  ·rw [L3 (by simp; simp at h10; omega)]
   have h0:yw (c::r) 0=some (c.toNat:Int):=by simp [yw]
   rw [h0]
   simp only [L0]
   by_cases hz:c=48∧1<(c::r).length
   ·have:gt (c::r)=false:=XW fun h=>h.2.2.1 ⟨hz.2,by rw [hz.1]; rfl⟩
    rw [L4 (by rw [hz.1]; rfl),this]
    have:=hz.2
    simp at this
    have h3:decide (((c::r).length:Int)>1)=true:=O3
    rw [h3]; rfl
   ·have hb:(if((c.toNat:Int)==48)=true then some (decide (((c::r).length:Int)>1))else some false)=some false:=by
     by_cases h:c=48
     ·rw [L4 (by rw [h]; rfl)]
      have:¬1<(c::r).length:=fun h'=>hz ⟨h,h'⟩
      have h3:decide (((c::r).length:Int)>1)=false:=by rw [decide_eq_false_iff_not]; omega
      rw [h3]
     ·rw [L3]
      simp
      intro h'
      have:(48:UInt8).toNat=48:=rfl
      exact h (UInt8.toNat_inj.1 O0)
    rw [hb]
    simp only [L0,Bool.false_eq_true,if_false]
    have:=BD (n:=n) (c::r) h10 n 0 0 O0 O0 O2 O2
    rw [show((0:Nat):Int)=0 from rfl,Lf]at this
    rw [this]
    by_cases ha:(c::r).all YY=true
    ·rw [L4 ha]
     simp only [z8]
     by_cases hm:dval (c::r)≤2147483647
     ·have hok:gt (c::r)=true:=(Zb _).2 ⟨O2,h10,fun h=>hz ⟨by simpa using h.2,h.1⟩,ha,hm⟩
      rw [hok,L4 rfl]
      rw [L3]
      ·rfl
      ·show ¬decide (((dval (c::r):Nat):Int)>2147483647)=true
       simp; omega
     ·have hok:gt (c::r)=false:=XW fun h=>hm h.2.2.2.2
      rw [hok,L4]
      ·rfl
      ·show decide (((dval (c::r):Nat):Int)>2147483647)=true
       simp; omega
    ·have hok:gt (c::r)=false:=XW fun h=>ha h.2.2.2.1
     rw [L3 ha,hok]; rfl
  ·have hok:gt (c::r)=false:=XW fun h=>h10 h.2.1
   rw [L4 (by simp; simp at h10; omega),hok]; rfl
theorem xp (l:List Nat):(yA l).length=l.length:=by simp [yA]
theorem Q5 {n:Nat} (hn:20≤n) (ps:List Bs) (hp:∀p∈ps,p.length≤1000000000) (hl:ps.length≤1000000000):∀(k:Nat) (pre suf:List Bs),ps=pre++suf→suf.length<k→pre.all gt=true →
  kM n ps k (yA (pre.map dval)) (pre.length:Int)=some (if suf.all gt=true then .nxt (yA (ps.map dval))else .ret none)
 |0,_,_,_,h,_=>O0
 | k+1,pre,[],hps,hk,ha=>by
  simp at hps; subst hps
  rw [kM,L3 O2]; simp
 | k+1,pre,p::suf,hps,hk,ha=>by
  have hlen:ps.length=pre.length+(suf.length+1):=by rw [hps]; simp
  have hx:zV ps (pre.length:Int)=some p:=by
   rw [zE O0]; congr 1; simp [hps]
  rw [kM,L4 O3,hx]
  simp only [L0]
  rw [tM hn (hp p (by rw [hps]; simp))]
  simp only [L0]
  by_cases ho:gt p=true
  ·rw [L4 ho,L3 O2,yU (by simp [xp]; omega)]
   simp only [L0]
   have e:(p::suf).all gt=suf.all gt:=by simp [ho]
   rw [w1 O0,e]
   have ih:=Q5 hn ps hp hl k (pre ++ [p]) suf (by rw [hps]; simp) (by simp at hk; omega) (by simp [ha,ho])
   rw [←ih]
   simp [yA]
  ·have e:(p::suf).all gt=false:=by simp [ho]
   rw [L3 ho,e]
   simp
theorem fB {c:UInt8} {s p:Bs} (h:p∈yx c s):p.length≤s.length:=by
 induction s generalizing p with
 |nil=>simp [yx]at h; subst h; simp
 | cons x r ih=>
  simp only [yx]at h
  split at h
  ·rcases Lm.1 h with h|h
   ·subst h; simp
   ·have:=ih h; simp; omega
  ·split at h
   ·rename_i q ps hq
    rcases Lm.1 h with h|h
    ·subst h
     have:=ih (p:=q) (by rw [hq]; simp)
     simp; omega
    ·have:=ih (p:=p) (by rw [hq]; simp [h])
     simp; omega
   ·simp at h; subst h; simp
theorem Pb {n:Nat} {s:Bs} (hs:s.length≤100000000) (hn:s.length+20≤n):Yk n s=some ((y4 s).map yA):=by
 unfold Yk y4
 rw [UI O0 O0]
 simp only [L0]
 have hlen:(yx 46 s).length≤s.length+1:=by
  rw [Va]; have:= @List.count_le_length _ _ (46:UInt8) s; omega
 by_cases h2:2≤(yx 46 s).length∧(yx 46 s).length≤12
 ·have :(if(decide (((yx 46 s).length:Int)<2))=true then some true else some (decide (((yx 46 s).length:Int)>12)))=some false:=by
   rw [L3 O3,decide_eq_false_iff_not.2 O0]
  rw [this]
  simp only [L0,Bool.false_eq_true,if_false]
  have hl:=Q5 (n:=n) O0 (yx 46 s) (fun p hp=>by have:=fB hp; omega) O0 n [] (yx 46 s) rfl O0 rfl
  rw [show(yA (List.map dval ([]:List Bs)))= []from rfl,show((([]:List Bs).length:Nat):Int)=0 from rfl]at hl
  rw [hl]
  by_cases ha:(yx 46 s).all gt=true
  ·rw [L4 ha]
   simp only [z8]
   match hd:(yx 46 s).map dval with
   | []=>have:=congrArg List.length hd; rw [L8,Lj]at this; omega
   | [x]=>have:=congrArg List.length hd; rw [L8,L6]at this; omega
   | a ::b::l=>
    have h0:zV (yA (a::b::l)) 0=some (a:Int):=by simp [zV,yA]
    have h1:zV (yA (a::b::l)) 1=some (b:Int):=by simp [zV,yA]
    rw [h0,h1]
    simp only [L0]
    have hr:XT n (a:Int) (b:Int)=some (Xo (a::b::l)):=by
     unfold XT Xo
     have e2:((a:Int)==2)=decide (a=2):=by
      by_cases h:a=2
      ·simp [h]
      ·simp [h]; omega
     rw [e2]
     by_cases c1:a≤1
     ·by_cases c2:b≤39
      ·rw [L4 O3,L4 O3]; simp [c1,c2]
      ·rw [L4 O3,L3 O3]; simp [c2]
     ·rw [L3 O3]; simp [c1]
    rw [hr]
    simp only [L0]
    cases hro:Xo (a::b::l)with
    |true=>simp [h2,ha,lne,yA]
    |false=>simp
  ·rw [L3 ha,L3 (fun h=>ha h.2.2.1)]; rfl
 ·have:(if(decide (((yx 46 s).length:Int)<2))=true then some true else some (decide (((yx 46 s).length:Int)>12)))=some true:=by
   by_cases h:(yx 46 s).length<2
   ·rw [L4 O3]
   ·rw [L3 O3,decide_eq_true O0]
  rw [this,L3 (fun h=>h2 ⟨h.1,h.2.1⟩)]; rfl
theorem Y5 {n:Nat} {s:Bs} (hs:s.length≤100000000) (hn:s.length+20≤n):bM n s=some (y4 s).isSome:=by
 unfold bM
 rw [Pb hs hn]
 cases h:y4 s with
 |none=>rfl
 | some l=>
  have:l≠ []:=by
   unfold y4 at h
   split at h
   ·rename_i hc; injection h with h; subst h
    intro h'
    have:=congrArg List.length h'
    rw [L8,Lj]at this
    omega
   ·cases h
  cases l with
  |nil=>exact absurd rfl this
  |cons a r=>rfl
theorem DR {n:Nat} (p:Bs) (hl:p.length≤10) (hd:p.all YY=true):∀(k i v:Nat),i≤p.length→p.length-i<k→v<10^i →
  wY n p k (v:Int) (i:Int)=some (((p.drop i).foldl (fun n c=>10*n+(c.toNat-48)) v:Nat):Int)
 |0,i,v,_,h,_=>O0
 | k+1,i,v,hi,hk,hv=>by
  rw [wY]
  by_cases hc:i<p.length
  ·rw [L4 O3,vC hc]
   simp only [L0]
   have hdr:p.drop i=p[i]::p.drop (i+1):=L9 hc
   have hv10:v<10000000000:=Nat.lt_of_lt_of_le hv (Nat.le_trans (Nat.pow_le_pow_right O0 (show i≤10 by omega)) O1)
   have hdg:YY p[i]=true:=Ld.1 hd _ (Li hc)
   have h2:=hdg
   simp only [YY,Lc,L2]at h2
   rw [hdr,List.foldl_cons,K8 hdg O0,w1 O0]
   refine DR p hl hd k (i+1) _ O0 O0 ?_
   rw [Nat.pow_succ]; omega
  ·have:i=p.length:=O0
   subst this
   rw [L3 O2]
   simp
def Dd (out:List Nat):List Bs→Ctl (List Int×Bool) (List Int)
 | []=> .nxt (yA out)
 |p::ps=>if gt p=true∧out.length≠12 then Dd (out ++ [dval p]) ps else .ret ([],false)
theorem lq (a b:Nat):((a:Int)==(b:Int))=decide (a=b):=by
 by_cases h:a=b
 ·subst h; simp
 ·simp [h]; omega
theorem zam {c d:UInt8}:((c.toNat:Int)==(d.toNat:Int))=decide (c=d):=by
 rw [lq]
 by_cases h:c=d
 ·subst h; simp
 ·rw [decide_eq_false h,decide_eq_false]
  exact fun h'=>h (UInt8.toNat_inj.1 h')
theorem oc (p:Bs) (m:Nat):(if((List.length p:Int)==0)=true then(some true)else(if(decide ((List.length p:Int)>10))=true then(some true)else(if(decide ((List.length p:Int)>1))=true then((yw p 0).bind fun x578=>
  if(x578==48)=true then(some true)else(some ((m:Int)==12)))else(some ((m:Int)==12)))))=some (decide (p.length=0∨10<p.length∨(1<p.length∧p.head? =some 48)∨m=12)):=by
 rw [show(12:Int)=((12:Nat):Int)from rfl,lq]
 match p with
 | []=>simp
 | [c]=>simp
 | c ::d::r=>
  rw [L3 O3]
  by_cases h10:10<(c::d::r).length
  ·rw [L4 O4,decide_eq_true (.inr (.inl h10))]
  ·have h0:yw (c::d::r) 0=some (c.toNat:Int):=by simp [yw]
   rw [L3 O4,L4 O3,h0]
   simp only [L0]
   rw [show((c.toNat:Int)==48)=decide (c=48)from zam (d:=48)]
   by_cases hc:c=48
   ·rw [L4 (by simp [hc]),decide_eq_true (.inr (.inr (.inl ⟨O2,by simp [hc]⟩)))]
   ·rw [L3 (by simp [hc])]
    congr 1
    by_cases hm:m=12
    ·rw [decide_eq_true hm,decide_eq_true (.inr (.inr (.inr hm)))]
    ·rw [decide_eq_false hm,decide_eq_false]
     rintro(h|h|h|h)
     ·simp at h
     ·exact h10 h
     ·exact hc (by simpa using h.2)
     ·exact hm h
theorem Q3 {n:Nat} (hn:20≤n) (p:Bs) (out:List Nat) (rest:List Bs) (j:Int) (go:List Int→Int→Option (Ctl (List Int×Bool) (List Int))) (hd:p.all YY=true) (ho:out.length≤100000000)
  (hnext:gt p=true→go (yA (out ++ [dval p])) j=some (Dd (out ++ [dval p]) rest)):
  z8 ((if((List.length p:Int)==0)=true then(some true)else(if(decide ((List.length p:Int)>10))=true then(some true)else(if(decide ((List.length p:Int)>1))=true then((yw p 0).bind fun x578=>
      if(x578==48)=true then(some true)else(some ((List.length (yA out):Int)==12)))else(some ((List.length (yA out):Int)==12))))).bind fun y580=>
     if y580=true then(some (.ret (([]:(List Int)),false)))else((wY n p n 0 0).bind fun y590=>
     if(decide (y590>2147483647))=true then(some (.ret (([]:(List Int)),false)))else((gL 8 (yA out) ([y590]:List Int)).bind fun x600=>
     some (.nxt (x600,j))))) (fun r=>some (.ret r)) (fun y567=>go y567.1 y567.2)=some (Dd out (p::rest)):=by
 rw [xp,oc,Dd]
 simp only [L0]
 by_cases hb:p.length=0∨10<p.length∨(1<p.length∧p.head? =some 48)∨out.length=12
 ·rw [decide_eq_true hb,L4 rfl,L3]
  ·rfl
  ·intro h
   obtain⟨k1,k2,k3,k4,k5⟩:=(Zb p).1 h.1
   rcases hb with h'|h'|h'|h'
   ·exact k1 (List.eq_nil_of_length_eq_zero h')
   ·omega
   ·exact k3 h'
   ·exact h.2 h'
 ·simp only [not_or]at hb
  obtain⟨b1,b2,b3,b4⟩:=hb
  rw [decide_eq_false (by simp only [not_or]; exact⟨b1,b2,b3,b4⟩),L3 O2]
  have hval:=DR (n:=n) p O0 hd n 0 0 O0 O0 O2
  rw [show((0:Nat):Int)=0 from rfl,Lf]at hval
  rw [hval]
  simp only [L0]
  by_cases hm:dval p≤2147483647
  ·have hok:gt p=true:=(Zb p).2 ⟨fun h=>b1 (by rw [h]; rfl),O0,b3,hd,hm⟩
   rw [L3 (by show ¬decide (((dval p:Nat):Int)>2147483647)=true; simp; omega),L4 ⟨hok,b4⟩,yU (by simp [xp]; omega)]
   simp only [L0,z8]
   have e:yA out ++ [((dval p:Nat):Int)]=yA (out ++ [dval p]):=by simp [yA]
   have h3:=hnext hok
   rw [←e]at h3
   exact h3
  ·rw [L4 (by show decide (((dval p:Nat):Int)>2147483647)=true; simp; omega),L3 (fun h=>hm ((Zb p).1 h.1).2.2.2.2)]; rfl
theorem KS {n:Nat} (hn:20≤n) (s:Bs) (hs:s.length≤100000000):∀(k at_ i:Nat) (out:List Nat),at_≤i→i≤s.length→s.length-i+1<k→((s.take i).drop at_).all YY=true→out.length+(s.length-i)≤100000000 →
  xd n s k (yA out) (at_:Int) (i:Int)=some (Dd out (yx 46 (s.drop at_)))
 |0,_,_,_,_,_,h,_,_=>O0
 | k + 1,at_,i,out,ha,hi,hk,hd,ho=>by
  have hcur:s.drop at_=(s.take i).drop at_++s.drop i:=by
   conv=>lhs; rw [←List.take_append_drop i s]
   rw [List.drop_append_of_le_length O3]
  have hno:(46:UInt8)∉(s.take i).drop at_:=fun h=>by
   have:=Ld.1 hd _ h
   exact absurd this O1
  rw [xd,L4 O3]
  by_cases hc:i<s.length
  ·have hdr:s.drop i=s[i]::s.drop (i+1):=L9 hc
   rw [L4 O3,vC hc]
   simp only [L0]
   by_cases h46:s[i]=46
   ·have e1:(((s[i]).toNat:Int) !=46)=false:=by rw [h46]; rfl
    rw [e1,L3 O2,bn ha hi]
    have hsp:yx 46 (s.drop at_)=(s.take i).drop at_::yx 46 (s.drop (i+1)):=by
     rw [hcur,hdr,h46]; exact(pN hno).2 _
    rw [hsp]
    have:=Q3 (n:=n) hn ((s.take i).drop at_) out (yx 46 (s.drop (i+1))) ((i+1:Nat):Int) (fun o a=>xd n s k o a ((i+1:Nat):Int)) hd O0
     (fun hok=>KS hn s hs k (i+1) (i+1) (out ++ [dval ((s.take i).drop at_)]) (Nat.le_refl _) O0 O0 O2 O3)
    rw [w1 O0]
    exact this
   ·have e1:(((s[i]).toNat:Int) !=46)=true:=by
     have:(((s[i]).toNat:Int)==46)=decide (s[i]=46):=zam (d:=46)
     simp only [bne,this]; simp [h46]
    rw [e1,L4 rfl]
    by_cases hdg:YY s[i]=true
    ·have h2:=hdg
     simp only [YY,Lc,L2]at h2
     rw [L3 O3]
     simp only [L0]
     rw [L3 O3,w1 O0]
     simp only [z8]
     refine KS hn s hs k at_ (i+1) out O0 O0 O0 ?_ O0
     rw [List.take_succ_eq_append_getElem hc,List.drop_append_of_le_length O3,List.all_append,hd]; simp [hdg]
    ·have h2:s[i].toNat<48∨57<s[i].toNat:=by
      simp only [YY,Lc,L2]at hdg; omega
     have e2:(if(decide (((s[i]).toNat:Int)<48))=true then some true else some (decide (((s[i]).toNat:Int)>57)))=some true:=by
      by_cases h:s[i].toNat<48
      ·rw [L4 O3]
      ·rw [L3 O3]; simp; omega
     rw [e2]
     obtain⟨q,ps,hq⟩:=P3 (r:=s.drop (i+1)) hno h46
     rw [hcur,hdr,hq,Dd,L3]
     ·rfl
     ·intro h
      have:=((Zb _).1 h.1).2.2.2.1
      rw [List.all_append,List.all_cons]at this
      simp [hdg]at this
  ·have hie:i=s.length:=O0
   rw [L3 O3]
   simp only [L0,Bool.false_eq_true,if_false]
   have hsp:yx 46 (s.drop at_)=(s.take i).drop at_:: []:=by
    rw [hcur,hie,List.drop_length,Lh]; exact(pN (by rw [←hie]; exact hno)).1
   rw [hsp,bn ha hi,w1 O0]
   refine Q3 (n:=n) hn ((s.take i).drop at_) out [] ((i+1:Nat):Int) (fun o a=>xd n s k o a ((i+1:Nat):Int)) hd O0 (fun hok=> ?_)
   match k,hk with
   | k+1,hk=>
    show xd n s (k+1) _ _ _=_
    rw [xd,L3 O3]; rfl
theorem PB:∀(ps:List Bs) (out:List Nat),out.length≤12→Dd out ps=if ps.all gt=true∧out.length+ps.length≤12 then .nxt (yA (out++ps.map dval))else .ret ([],false)
 | [],out,h=>by rw [Dd,L4 ⟨rfl,by simpa using h⟩]; simp
 | p ::ps,out,h=>by
  rw [Dd]
  by_cases hp:gt p=true
  ·by_cases h12:out.length=12
   ·rw [L3 (fun h'=>h'.2 h12),L3 (fun h'=>by have:=h'.2; simp at this; omega)]
   ·rw [L4 ⟨hp,h12⟩,PB ps _ O3]
    have e:((p::ps).all gt=true∧out.length+(p::ps).length≤12)↔(ps.all gt=true∧(out ++ [dval p]).length+ps.length≤12):=by
     rw [List.all_cons,hp,Bool.true_and]; simp; omega
    simp only [e]; simp
  ·rw [L3 (fun h'=>hp h'.1),L3 (fun h'=>hp (by have:=h'.1; rw [List.all_cons,Lc]at this; exact this.1))]
theorem Px {n:Nat} {s:Bs} (hs:s.length≤100000000) (hn:s.length+20≤n):jW n s=some (match y4 s with|some l=>(yA l,true)|none=>([],false)):=by
 unfold jW y4
 have h1:=KS (n:=n) O0 s hs n 0 0 [] O0 O0 O0 O2 O3
 rw [show((0:Nat):Int)=0 from rfl,Lf,show yA []= []from rfl,PB _ _ O2]at h1
 rw [h1]
 simp only [Lj,Nat.zero_add,Lg]
 by_cases ha:(yx 46 s).all gt=true∧(yx 46 s).length≤12
 ·rw [L4 ha]
  simp only [z8,xp,L8]
  by_cases h2:2≤(yx 46 s).length
  ·rw [L3 O3]
   match hd:(yx 46 s).map dval with
   | []=>have:=congrArg List.length hd; rw [L8,Lj]at this; omega
   | [x]=>have:=congrArg List.length hd; rw [L8,L6]at this; omega
   | a ::b::l=>
    have k0:zV (yA (a::b::l)) 0=some (a:Int):=by simp [zV,yA]
    have k1:zV (yA (a::b::l)) 1=some (b:Int):=by simp [zV,yA]
    rw [k0,k1]
    simp only [L0]
    have hr:(if(decide ((a:Int)>2))=true then some true else if(decide ((a:Int)<2))=true then some (decide ((b:Int)>39))else some false)=some (!Xo (a::b::l)):=by
     show _=some (!(decide (a≤1)&&decide (b≤39)||decide (a=2)))
     by_cases c1:2<a
     ·rw [L4 O3,decide_eq_false (show ¬a≤1 by omega),decide_eq_false (show ¬a=2 by omega)]; rfl
     ·rw [L3 O3]
      by_cases c2:a<2
      ·rw [L4 O3,decide_eq_true (show a≤1 by omega),decide_eq_false (show ¬a=2 by omega)]
       by_cases c3:b≤39
       ·rw [decide_eq_true c3,decide_eq_false O0]; rfl
       ·rw [decide_eq_false c3,decide_eq_true O0]; rfl
      ·rw [L3 O3,decide_eq_true (show a=2 by omega)]; simp
    rw [hr]
    simp only [L0]
    cases hro:Xo (a::b::l)with
    |true=>rw [L3 O2,L4 ⟨h2,ha.2,ha.1,rfl⟩]
    |false=>rw [L4 O2,L3 (fun h=>by have:=h.2.2.2; simp at this)]
  ·rw [L4 O3,L3 (fun h=>h2 h.1)]; rfl
 ·rw [L3 ha,L3 (fun h=>ha ⟨h.2.2.1,h.2.1⟩)]; rfl
theorem gU {n:Nat} {s:Bs} (hs:s.length≤100000000) (hn:s.length+20≤n):xN n s=some (y4 s).isSome:=by
 unfold xN
 rw [Px hs hn]
 cases y4 s<;>rfl
def dg (v:Nat):Nat→List Nat
 |0=> []
 |g+1=>(v/128^g%128)::dg v g
def hi (v:Nat):Nat→List Nat
 |0=> []
 |g+1=>(v/128^(g+1)%128+128)::hi v g
def Grp (v g:Nat):Prop:=1≤g∧g≤5∧v/128^g=0∧∀j,1≤j→j<g→0<v/128^j
def grp (v:Nat):Nat:=if v<128 then 1 else if v<16384 then 2 else if v<2097152 then 3 else if v<268435456 then 4 else 5
theorem V2 {v:Nat} (h:v<34359738368):Grp v (grp v):=by
 have p1:(128:Nat)^1=128:=rfl
 have p2:(128:Nat)^2=16384:=rfl
 have p3:(128:Nat)^3=2097152:=rfl
 have p4:(128:Nat)^4=268435456:=rfl
 have p5:(128:Nat)^5=34359738368:=rfl
 have key:∀g,1≤g→g≤5→v<128^g→(g=1∨128^(g-1)≤v)→Grp v g:=by
  intro g h1 h5 hlt hge
  refine⟨h1,h5,Nat.div_eq_of_lt hlt,fun j j1 jg=> ?_⟩
  refine Nat.div_pos ?_ (Nat.pow_pos O0)
  rcases hge with rfl|hge
  ·omega
  ·exact Nat.le_trans (Nat.pow_le_pow_right O0 O0) hge
 unfold grp
 split
 ·exact key 1 O0 O0 O0 (.inl rfl)
 ·split
  ·exact key 2 O0 O0 O0 (.inr O3)
  ·split
   ·exact key 3 O0 O0 O0 (.inr O3)
   ·split
    ·exact key 4 O0 O0 O0 (.inr O3)
    ·exact key 5 O0 O0 O0 (.inr O3)
def qT (v:Nat):List Nat:=hi v (grp v-1) ++ [v%128]
def Wd (v:Nat):Bs:=(qT v).map o8
theorem Wq (v g:Nat):(hi v g).length=g:=by induction g<;>simp [hi, *]
theorem eG (v g:Nat):(dg v g).length=g:=by induction g<;>simp [dg, *]
theorem Jw (v:Nat):(qT v).length≤5∧1≤(qT v).length:=by
 simp only [qT,L5,Wq,L6]
 unfold grp; repeat' split
 all_goals omega
theorem rM (l:List Nat):b2s (yA l)=l.map o8:=by
 induction l with
 |nil=>rfl
 | cons a r ih=>
  simp only [b2s,yA,Lb]at *
  rw [ih]; simp [o8]
theorem zav {v j:Nat} (hj:j≤8):Wr .i64 (v:Int) (wrap .u64 ((7:Int)*(wrap .u64 (j:Int))))=some ((v/128^j:Nat):Int):=by
 have hw:wrap .u64 (j:Int)=(j:Int):=by
  have:j=0∨j=1∨j=2∨j=3∨j=4∨j=5∨j=6∨j=7∨j=8:=O0
  rcases this with rfl|rfl|rfl|rfl|rfl|rfl|rfl|rfl|rfl<;>rfl
 have hw2:wrap .u64 ((7:Int)*(j:Int))=((7*j:Nat):Int):=by
  have:j=0∨j=1∨j=2∨j=3∨j=4∨j=5∨j=6∨j=7∨j=8:=O0
  rcases this with rfl|rfl|rfl|rfl|rfl|rfl|rfl|rfl|rfl<;>rfl
 rw [hw,hw2]
 unfold Wr
 rw [L3 O0]
 have hm:min ((7*j:Nat):Int).toNat IntKind.i64.bits=7*j:=by
  rw [Int.toNat_natCast]; show min (7*j) 64=7*j; omega
 rw [hm]
 have:((2:Int)^(7*j))=((128^j:Nat):Int):=by
  rw [show(128:Nat)=2^7 from rfl,←Nat.pow_mul]; simp
 rw [this,P5 _ _ (Nat.pow_pos O0)]
theorem sY {x:Nat} (hx:x<9223372036854775808):wrap .u8 (kY .i64 (x:Int) 127)=((x%128:Nat):Int):=by
 rw [show(127:Int)=((127:Nat):Int)from rfl,Bc hx O0,show(127:Nat)=2^7-1 from rfl,Nat.and_two_pow_sub_one_eq_mod,wr8 O0 O0]
theorem zbj {x:Nat} (hx:x<9223372036854775808):wrap .u8 (ior .i64 (kY .i64 (x:Int) 127) 128)=((x%128+128:Nat):Int):=by
 rw [show(127:Int)=((127:Nat):Int)from rfl,Bc hx O0,show(127:Nat)=2^7-1 from rfl,Nat.and_two_pow_sub_one_eq_mod,show(128:Int)=((128:Nat):Int)from rfl,nb O0 O0,Nat.or_comm]
 have:=Nat.two_pow_add_eq_or_of_lt (i:=7) (b:=x%2^7) O0 1
 rw [show(2:Nat)^7*1=128 from rfl]at this
 rw [←this,wr8 O0 O0]
 omega
theorem eB {n v g:Nat} (hg:Grp v g):∀(k j:Nat),1≤j→j≤g→g-j<k→kn n (v:Int) k (j:Int)=some (g:Int)
 |0,_,_,_,h=>O0
 | k+1,j,h1,h2,h3=>by
  have h5:=hg.2.1
  rw [kn,zav O0]
  simp only [L0]
  by_cases hj:j<g
  ·have:=hg.2.2.2 j h1 hj
   rw [L4 O4,w1 O0]
   exact eB hg k (j+1) O0 O0 O0
  ·have:j=g:=O0
   subst this
   rw [hg.2.2.1,L3 O2]
theorem fG {n v:Nat} (hv:v<9223372036854775808):∀(k i c:Nat) (b:List Int),i≤8→i<k→b.length=c→c+i≤1000000→qm n (v:Int) k c (i:Int) b=some (c+i,b++yA (hi v i))
 |0,_,_,_,_,h,_,_=>O0
 |k+1,0,c,b,_,_,hb,hc=>by rw [qm,L3 O2]; simp [hi,yA]
 | k+1,i+1,c,b,h8,hk,hb,hc=>by
  rw [qm,L4 O2,zav h8]
  simp only [L0]
  rw [zbj (Nat.lt_of_le_of_lt (Nat.div_le_self _ _) hv)]
  have ho:ZI 1 c b ([((v/128^(i+1)%128+128:Nat):Int)]:List Int)=some (b ++ [((v/128^(i+1)%128+128:Nat):Int)]):=by
   unfold ZI; rw [L4 O3]
  rw [ho,yv O0,show((i+1:Nat):Int)-1=(i:Int)by omega]
  simp only [L0,L6]
  rw [fG hv k i (c+1) _ O0 O0 (by simp [hb]) O0]
  simp [hi,yA]; omega
theorem tn {n v:Nat} (hv:v<34359738368) (hn:20≤n):Vj n (v:Int)=some ((qT v).length,yA (qT v)):=by
 have hg:=V2 hv
 have h5:=hg.2.1
 have h1:=hg.1
 unfold Vj
 have e1:=eB (n:=n) hg n 1 O0 hg.1 O0
 rw [show((1:Nat):Int)=1 from rfl]at e1
 rw [e1]
 simp only [L0]
 rw [yv O0,show((grp v:Nat):Int)-1=((grp v-1:Nat):Int)by omega,fG O0 n (grp v-1) 0 [] O0 O0 rfl O0]
 simp only [L0,Lg]
 rw [sY O0]
 have ho:ZI 1 (0+(grp v-1)) (yA (hi v (grp v-1))) ([((v%128:Nat):Int)]:List Int)=some (yA (qT v)):=by
  unfold ZI; rw [L4 (by simp [xp,Wq]; omega)]; simp [yA,qT]
 rw [ho]
 simp [qT,Wq]
theorem mL {n:Nat} (a:Int):∀(k:Nat) (v:Int),bt n a k v=kn n a k v
 |0,v=>rfl
 |k+1,v=>by rw [bt,kn]; simp only [mL a k]
theorem mY {n:Nat} (a:Int):∀(k c:Nat) (v:Int) (b:List Int),bu n a k c v b=qm n a k c v b
 |0,_,_,_=>rfl
 |k+1,c,v,b=>by rw [bu,qm]; simp only [mY a k]
theorem np {n v c:Nat} {m:List Int} (hv:v<34359738368) (hn:20≤n) (hm:m.length=c) (hc:c≤100000):Y4 n c (v:Int) m=some (c+(qT v).length,m++yA (qT v)):=by
 have hg:=V2 hv
 have h5:=hg.2.1
 have h1:=hg.1
 unfold Y4
 have e1:=eB (n:=n) hg n 1 O0 hg.1 O0
 rw [show((1:Nat):Int)=1 from rfl]at e1
 rw [mL,e1]
 simp only [L0,mY]
 rw [yv O0,show((grp v:Nat):Int)-1=((grp v-1:Nat):Int)by omega,fG O0 n (grp v-1) c m O0 O0 hm O0]
 simp only [L0]
 rw [sY O0]
 have ho:ZI 1 (c+(grp v-1)) (m++yA (hi v (grp v-1))) ([((v%128:Nat):Int)]:List Int)=some (m++yA (qT v)):=by
  unfold ZI; rw [L4 (by simp [xp,Wq]; omega)]; simp [yA,qT]
 rw [ho]
 simp [qT,Wq]; omega
def ZT (l:List Nat):List Nat:=match l with
 |a::b::r=>(40*a+b)::r
 |_=> []
def qg (l:List Nat):Bs:=((ZT l).map Wd).flatten
theorem UJ {n:Nat} (hn:20≤n) (r:List Nat) (hr:∀x∈r,x<34359738368) (hl:r.length≤1000):∀(k:Nat) (pre suf:List Nat) (m:List Int),r=pre++suf→suf.length<k→m.length≤5+5*pre.length →
  j8 n (yA r) k m.length (pre.length:Int) m=some (m.length+((suf.map qT).flatten).length,m++yA ((suf.map qT).flatten))
 |0,_,_,_,_,h,_=>O0
 | k+1,pre,[],m,hp,hk,hm=>by
  simp at hp; subst hp
  rw [j8,L3 (by simp [xp])]
  simp [yA]
 | k+1,pre,x::suf,m,hp,hk,hm=>by
  have hlen:r.length=pre.length+(suf.length+1):=by rw [hp]; simp
  have hx:zV (yA r) (pre.length:Int)=some (x:Int):=by
   rw [zE (by rw [xp]; omega)]; congr 1; simp [yA,hp]
  have hxv:=hr x (by rw [hp]; simp)
  have h5:=Jw x
  rw [j8,L4 (by simp [xp]; omega),hx]
  simp only [L0]
  rw [np hxv hn rfl O0]
  simp only [L0]
  rw [w1 O0]
  have ih:=UJ hn r hr hl k (pre ++ [x]) suf (m++yA (qT x)) (by rw [hp]; simp) (by simp at hk; omega) (by simp [xp]; omega)
  rw [L5,xp]at ih
  rw [show pre.length+1=(pre ++ [x]).length by simp,ih]
  simp [yA,Nat.add_assoc]
theorem lf (l:List Nat):b2s (yA (((ZT l).map qT).flatten))=qg l:=by
 rw [rM]
 unfold qg
 generalize ZT l=q
 induction q with
 |nil=>rfl
 |cons a r ih=>simp only [Lb,List.flatten_cons,List.map_append,ih]; rfl
def Dk (l:List Nat):Prop:=2≤l.length∧l.length≤12∧Xo l=true∧∀x∈l,x≤2147483647
theorem bf {s:Bs} {l:List Nat} (h:y4 s=some l):Dk l:=by
 unfold y4 at h
 split at h
 ·rename_i hc
  injection h with h; subst h
  refine⟨by simp; exact hc.1,by simp; exact hc.2.1,hc.2.2.2, ?_⟩
  intro x hx
  obtain⟨p,hp,rfl⟩:=Le.1 hx
  exact((Zb p).1 (Ld.1 hc.2.2.1 p hp)).2.2.2.2
 ·cases h
theorem su {α β:Type} {x:β} {a:Option α} {b:β→Option α}:onE (some x) a b=b x:=rfl
theorem Bj {l:List Nat} (h:2≤l.length):∃a b r,l=a::b::r:=by
 match l,h with
 | [],h=>simp at h
 | [_],h=>simp at h
 |a::b::r,_=>exact⟨a,b,r,rfl⟩
theorem U7 {n:Nat} {s:Bs} {l:List Nat} (hs:s.length≤100000000) (hn:s.length+40≤n) (h:y4 s=some l):kp n s=some (qg l,0):=by
 obtain⟨h2,h12,hr,hb⟩:=bf h
 obtain⟨a,b,r,rfl⟩:=Bj h2
 have ha:=hb a O2
 have hbb:=hb b O2
 have ha2:a≤2:=by
  simp only [Xo,Bool.or_eq_true,Lc,L2]at hr; omega
 unfold kp
 rw [Pb hs O0,h]
 rw [Option.map_some,L0,su,L0]
 have k0:zV (yA (a::b::r)) 0=some (a:Int):=by simp [zV,yA]
 have k1:zV (yA (a::b::r)) 1=some (b:Int):=by simp [zV,yA]
 have k2:lsl (yA (a::b::r)) 2 ((yA (a::b::r)).length:Nat)=some (yA r):=by
  unfold lsl; rw [L4 (by simp [xp]; omega),Int.toNat_natCast,List.take_length]; rfl
 rw [show lne (yA (a::b::r))=some ()from rfl,k0,k1]
 simp only [L0]
 have e1:wrap .i64 (wrap .i64 ((40:Int)*(a:Int))+(b:Int))=((40*a+b:Nat):Int):=by
  rw [yv (x:=(40:Int)*(a:Int)) O0,yv O0]; omega
 rw [e1,tn O0 O0,k2]
 simp only [L0]
 have h5:=Jw (40*a+b)
 simp only [L7]at h12
 have hl:=UJ (n:=n) O0 r (fun x hx=>by have:=hb x (by simp [hx]); omega) O0 n [] r (yA (qT (40*a+b))) rfl O0 (by simp [xp]; omega)
 rw [xp]at hl
 rw [show(0:Int)=((([]:List Nat).length:Nat):Int)from rfl,hl]
 simp only [L0]
 have e2:yA (qT (40*a+b))++yA ((r.map qT).flatten)=yA (((ZT (a::b::r)).map qT).flatten):=by simp [ZT,yA]
 rw [e2]
 have e3:Kt ((qT (40*a+b)).length+((r.map qT).flatten).length) (yA (((ZT (a::b::r)).map qT).flatten))=some (qg (a::b::r)):=by
  unfold Kt
  have hlen:(yA (((ZT (a::b::r)).map qT).flatten)).length=(qT (40*a+b)).length+((r.map qT).flatten).length:=by
   rw [←e2,L5,xp,xp]
  rw [L4 (by rw [hlen]; exact Nat.le_refl _),←hlen,List.take_length,lf]
 rw [e3]; rfl
theorem zch (v:Nat):Int.tdiv (v:Int) 128=((v/128:Nat):Int):=by
 rw [show(128:Int)=((128:Nat):Int)from rfl]; exact(Int.ofNat_tdiv v 128).symm
theorem zbJ (v:Nat):Int.tmod (v:Int) 128=((v%128:Nat):Int):=by
 rw [show(128:Int)=((128:Nat):Int)from rfl]; exact(Int.ofNat_tmod v 128).symm
theorem Pl (l:List Int):J5 l.length l=some l:=by unfold J5; rw [L4 (Nat.le_refl _),List.take_length]
theorem oX {n v g:Nat} (hv:v<34359738368) (hg:Grp v g):∀(k i:Nat),i<g→g-i≤k →
  yC n k ((v/128^i:Nat):Int) i (yA (dg v i))=some (g,yA (dg v g))
 |0,i,h,hk=>O0
 | k + 1,i,h,hk=>by
  have h5:=hg.2.1
  have hvi:v/128^i<34359738368:=Nat.lt_of_le_of_lt (Nat.div_le_self _ _) hv
  have hd:v/128^i/128=v/128^(i+1):=by rw [Nat.div_div_eq_div_mul,Nat.pow_succ]
  have hw:wrap .i64 (Int.tdiv ((v/128^i:Nat):Int) 128)=((v/128^(i+1):Nat):Int):=by
   have hvj:v/128^(i+1)<34359738368:=Nat.lt_of_le_of_lt (Nat.div_le_self _ _) hv
   rw [zch,hd,yv (by generalize v/128^(i+1)=q at hvj ⊢; omega)]
  have hw8:wrap .u8 (Int.tmod ((v/128^i:Nat):Int) 128)=((v/128^i%128:Nat):Int):=by
   rw [zbJ,wr8 O0 O0]
  have hnx:(if(((v/128^(i+1):Nat):Int)==0)=true then some (i+1,yA (dg v (i+1)))else yC n k ((v/128^(i+1):Nat):Int) (i+1) (yA (dg v (i+1))))=some (g,yA (dg v g)):=by
   by_cases hj:i+1<g
   ·have:=hg.2.2.2 (i+1) O0 hj
    rw [L3 (by rw [beq_iff_eq]; generalize v/128^(i+1)=q at this ⊢; omega)]
    rw [oX hv hg k (i+1) hj O0]
   ·have:i+1=g:=O0
    subst this
    rw [hg.2.2.1,L4 O2]
  rw [yC]
  have e0:J5 i (yA (dg v i))=some (yA (dg v i)):=by
   have:=Pl (yA (dg v i)); rwa [xp,eG]at this
  rw [e0]
  simp only [L0,hw,hw8]
  match i,h,hk,hnx with
  | 0,h,hk,hnx=>
   rw [L4 (show List.isEmpty (yA (dg v 0))=true from rfl)]
   exact hnx
  | i+1,h,hk,hnx=>
   rw [L3 (by simp [dg,yA])]
   have ho:ZI 1 1 ([((v/128^(i+1)%128:Nat):Int)]:List Int) (yA (dg v (i+1)))=some (yA (dg v (i+1+1))):=by
    unfold ZI; rw [L4 (by simp [xp,eG]; omega)]; rfl
   rw [ho]
   simp only [L0,xp,eG]
   rw [show 1+(i+1)=i+1+1 by omega]
   exact hnx
def lo (v:Nat):Nat→List Nat
 |0=> []
 |g+1=>(v/128^(g+1)%128)::lo v g
theorem zay (v:Nat):∀g,dg v (g+1)=lo v g ++ [v%128]
 |0=>by simp [dg,lo]
 |g+1=>by rw [dg,zay v g]; rfl
theorem zaj (v:Nat):∀g,hi v g=(lo v g).map (· + 128)
 |0=>rfl
 |g+1=>by rw [hi,zaj v g]; rfl
theorem zaH (v:Nat):∀g,∀x∈lo v g,x<128
 |0,x,h=>by simp [lo]at h
 | g+1,x,h=>by
  simp only [lo,Lm]at h
  rcases h with rfl|h
  ·omega
  ·exact zaH v g x h
theorem sy (v g:Nat):(lo v g).length=g:=by induction g<;>simp [lo, *]
theorem rD {n g:Nat} (q:List Int) (x:Nat) (hg5:g≤1000):∀(k:Nat) (a b:List Nat),(∀y∈b,y<128)→a.length+b.length+1=g→b.length<k →
  xa n (g,q) k (a.length:Int) (yA (a++b ++ [x]))=some (yA (a++b.map (· + 128) ++ [x]))
 |0,a,b,_,_,h=>O0
 | k+1,a,[],_,hg,_=>by
  simp at hg
  rw [xa,w1 O0,L3 O3]
  simp
 | k+1,a,y::b,hy,hg,hk=>by
  simp only [L7]at hg hk
  have hy0:=hy y O2
  have ho:pq g (a.length:Int)=some a.length:=by unfold pq; rw [L4 O0,Int.toNat_natCast]
  have hge:(yA (a++y::b ++ [x]))[a.length*1]? =some (y:Int):=by
   simp [yA]
  rw [xa,w1 O0,L4 O3]
  simp only [ho,L0,hge]
  rw [wr8 O0 O0]
  have hs:VT (yA (a++y::b ++ [x])) (a.length*1) ((y:Int)+128)=some (yA ((a ++ [y+128])++b ++ [x])):=by
   unfold VT
   rw [L4 (by simp [xp])]
   simp [yA,List.set_append]
  rw [hs]
  simp only [L0]
  have ih:=rD (n:=n) q x hg5 k (a ++ [y+128]) b (fun z hz=>hy z (by simp [hz])) O3 O0
  rw [show((a ++ [y+128]).length:Int)=((a.length+1:Nat):Int)by simp]at ih
  rw [ih]
  simp
theorem tz {n v:Nat} (hv:v<34359738368) (hn:20≤n):(yC n n (v:Int) 0 ([]:List Int)).bind (fun y1414=>
  (xa n y1414 n 0 y1414.2).bind fun y1452=>J5 y1414.1 y1452)=some (yA (qT v)):=by
 have hg:=V2 hv
 have h5:=hg.2.1
 have h1:=hg.1
 have e:=oX (n:=n) hv hg n 0 O0 O0
 rw [Nat.pow_zero,Nat.div_one,show yA (dg v 0)= []from rfl]at e
 rw [e]
 simp only [L0]
 obtain⟨g',hg'⟩:∃g',grp v=g'+1:=⟨grp v-1,O0⟩
 have e3:=rD (n:=n) (g:=grp v) (yA (dg v (grp v))) (v%128) O0 n [] (lo v g') (zaH v g') (by simp [sy,hg']) (by simp [sy]; omega)
 rw [Lg,←zay,←hg',Lg,←zaj,show(([]:List Nat).length:Int)=0 from rfl]at e3
 rw [e3]
 simp only [L0]
 have hen:hi v g' ++ [v%128]=qT v:=by unfold qT; rw [hg']; rfl
 rw [hen]
 have hl:(qT v).length=grp v:=by unfold qT; simp [Wq]; omega
 have:=Pl (yA (qT v))
 rwa [xp,hl]at this
theorem cJ {n:Nat} (hn:20≤n) (r:List Nat) (hr:∀x∈r,x<34359738368) (hl:r.length≤1000):∀(k:Nat) (pre suf:List Nat) (m:List Int),r=pre++suf→suf.length<k→m.length≤5+5*pre.length →
  xG n (yA r) k m.length (pre.length:Int) m=some (m.length+((suf.map qT).flatten).length,m++yA ((suf.map qT).flatten))
 |0,_,_,_,_,h,_=>O0
 | k+1,pre,[],m,hp,hk,hm=>by
  simp at hp; subst hp
  rw [xG,L3 (by simp [xp])]
  simp [yA]
 | k+1,pre,x::suf,m,hp,hk,hm=>by
  have hlen:r.length=pre.length+(suf.length+1):=by rw [hp]; simp
  have hx:zV (yA r) (pre.length:Int)=some (x:Int):=by
   rw [zE (by rw [xp]; omega)]; congr 1; simp [yA,hp]
  have hxv:=hr x (by rw [hp]; simp)
  have h5:=Jw x
  have h1:=tz (n:=n) hxv hn
  obtain⟨y1,e1,h1⟩:=Pc h1
  obtain⟨y2,e2,h1⟩:=Pc h1
  rw [xG,L4 (by simp [xp]; omega),hx,L0,e1,L0,e2,L0,h1,L0]
  have hne:List.isEmpty (yA (qT x))=false:=by
   match he:qT x,h5 with
   | [],h5=>simp at h5
   |_::_,_=>rfl
  rw [hne,L3 O2]
  have ho:ZI 1 m.length m (yA (qT x))=some (m++yA (qT x)):=by
   unfold ZI; rw [L4 (by rw [xp]; exact⟨rfl,O0,O0⟩)]
  rw [ho]
  simp only [L0]
  rw [w1 O0]
  have ih:=cJ hn r hr hl k (pre ++ [x]) suf (m++yA (qT x)) (by rw [hp]; simp) (by simp at hk; omega) (by simp [xp]; omega)
  rw [L5]at ih
  rw [show pre.length+1=(pre ++ [x]).length by simp,ih]
  simp [yA,Nat.add_assoc]
theorem UD {n:Nat} {s:Bs} {l:List Nat} (hs:s.length≤100000000) (hn:s.length+40≤n) (h:y4 s=some l):vp n s=some (qg l,0):=by
 obtain⟨h2,h12,hr,hb⟩:=bf h
 obtain⟨a,b,r,rfl⟩:=Bj h2
 have ha:=hb a O2
 have hbb:=hb b O2
 have ha2:a≤2:=by
  simp only [Xo,Bool.or_eq_true,Lc,L2]at hr; omega
 simp only [L7]at h12
 unfold vp
 rw [Px hs O0,h,L0]
 simp only []
 rw [L3 O2]
 have k0:zV (yA (a::b::r)) 0=some (a:Int):=by simp [zV,yA]
 have k1:zV (yA (a::b::r)) 1=some (b:Int):=by simp [zV,yA]
 have k2:lsl (yA (a::b::r)) 2 ((yA (a::b::r)).length:Nat)=some (yA r):=by
  unfold lsl; rw [L4 (by simp [xp]; omega),Int.toNat_natCast,List.take_length]; rfl
 rw [k0,k1,k2]
 simp only [L0]
 have e1:wrap .i64 (wrap .i64 ((40:Int)*(a:Int))+(b:Int))=((40*a+b:Nat):Int):=by
  rw [yv (x:=(40:Int)*(a:Int)) O0,yv O0]; omega
 rw [e1]
 have ey:(if List.isEmpty (yA r)=true then some ([((40*a+b:Nat):Int)]:List Int)else(pb 8 ([((40*a+b:Nat):Int)]:List Int) (yA r)).bind fun x5=>some x5)=some (yA (ZT (a::b::r))):=by
  match r with
  | []=>rfl
  | c::r=>
   rw [L3 (by simp [yA])]
   unfold pb
   simp only [L7]at h12
   rw [L4 (by simp [xp]; omega)]; rfl
 rw [ey,L0]
 have hl:=cJ (n:=n) O0 (ZT (a::b::r)) (fun x hx=>by
  simp only [ZT,Lm]at hx
  rcases hx with rfl|hx
  ·omega
  ·have:=hb x (by simp [hx]); omega) (by simp [ZT]; omega) n [] (ZT (a::b::r)) [] rfl (by simp [ZT]; omega) O2
 rw [show((([]:List Nat).length:Nat):Int)=0 from rfl,Lj,Lg,Nat.zero_add]at hl
 rw [hl,L0]
 have e3:Kt (((ZT (a::b::r)).map qT).flatten).length (yA (((ZT (a::b::r)).map qT).flatten))=some (qg (a::b::r)):=by
  unfold Kt
  have hlen:=xp (((ZT (a::b::r)).map qT).flatten)
  rw [L4 (by rw [hlen]; exact Nat.le_refl _),←hlen,List.take_length,lf]
 simp only []
 rw [e3]; rfl
theorem nd (q:Bs) (c:UInt8):dval (q ++ [c])=10*dval q+(c.toNat-48):=by simp [dval]
theorem sa {c:UInt8} (h:YY c=true):UInt8.ofNat (48+(c.toNat-48))=c:=by
 simp only [YY,Lc,L2]at h
 rw [show 48+(c.toNat-48)=c.toNat by omega]; exact UInt8.ofNat_toNat
theorem zaC:∀(k:Nat) (p:Bs),p.length=k+1→p.all YY=true→p.head? ≠some 48→Lib.decDigits (dval p)=p∧1≤dval p
 | 0,p,hl,hd,hh=>by
  match p,hl with
  | [c],_=>
   simp only [List.all_cons,List.all_nil,Bool.and_true]at hd
   have e:dval [c]=c.toNat-48:=by simp [dval]
   have h2:=hd
   simp only [YY,Lc,L2]at h2
   rw [e,Lib.decDigits_one O0,sa hd]
   refine⟨rfl, ?_⟩
   have:c.toNat≠48:=fun h=>hh (by rw [List.head?_cons,←UInt8.ofNat_toNat (x:=c),h]; rfl)
   omega
 | k+1,p,hl,hd,hh=>by
  obtain⟨q,c,rfl⟩:∃q c,p=q ++ [c]:=⟨p.dropLast,p.getLast (by intro h; rw [h]at hl; simp at hl),(List.dropLast_concat_getLast _).symm⟩
  simp only [L5,L6]at hl
  rw [List.all_append]at hd
  simp only [List.all_cons,List.all_nil,Bool.and_true,Lc]at hd
  have hq:q.head? ≠some 48:=by
   match q,hl with
   |x::q,_=>simpa using hh
  obtain⟨ih1,ih2⟩:=zaC k q O0 hd.1 hq
  have h2:=hd.2
  simp only [YY,Lc,L2]at h2
  rw [nd]
  refine⟨?_,O0⟩
  rw [Lib.decDigits,dif_neg O0,show(10*dval q+(c.toNat-48))/10=dval q by omega,show(10*dval q+(c.toNat-48))%10=c.toNat-48 by omega,ih1,sa hd.2]
theorem nq {p:Bs} (h:gt p=true):Lib.decDigits (dval p)=p:=by
 obtain⟨h1,h2,h3,h4,h5⟩:=(Zb p).1 h
 by_cases hh:p.head? =some 48
 ·have:p.length≤1:=by
   apply Decidable.byContradiction; intro hc; exact h3 ⟨O0,hh⟩
  match p,h1,this,hh with
  | [c],_,_,hh=>simp at hh; subst hh; rw [show dval [48]=0 from rfl]; exact Lib.decDigits_one O0
 ·match p,h1,hh,h4 with
  |c::r,_,hh,h4=>exact(zaC r.length (c::r) rfl h4 hh).1
def hQ (l:List Nat):Bs:=Lib.join (l.map fun a=>Lib.decDigits a) [46]
theorem KL (c:UInt8):∀s:Bs,Lib.join (yx c s) [c]=s
 | []=>Lib.join_one _ _
 | x ::r=>by
  have ih:=KL c r
  rw [yx]
  split
  ·rename_i h
   subst h
   match hs:yx x r,Ud x r,ih with
   | p::ps,_,ih=>
    rw [Lib.join_cons]at ih ⊢
    rw [Lg]
    show [x]++p++Lib.joinTail [x] ps=_
    rw [Ln,ih]; rfl
  ·match hs:yx c r,Ud c r,ih with
   | p::ps,_,ih=>
    rw [Lib.join_cons]at ih
    show Lib.join ((x::p)::ps) [c]=_
    rw [Lib.join_cons,List.cons_append,ih]
theorem UM {s:Bs} {l:List Nat} (h:y4 s=some l):hQ l=s:=by
 unfold y4 at h
 split at h
 ·rename_i hc
  injection h with h; subst h
  unfold hQ
  rw [List.map_map]
  have:(yx 46 s).map ((fun a=>Lib.decDigits a)∘dval)=yx 46 s:=by
   have hall:=Ld.1 hc.2.2.1
   generalize yx 46 s=ps at hall ⊢
   induction ps with
   |nil=>rfl
   | cons p r ih=>
    rw [Lb,ih (fun x hx=>hall x (by simp [hx]))]
    rw [Function.comp,nq (hall p O2)]
  rw [this,KL]
 ·cases h
theorem pJ {u:Nat} (h:u<18446744073709551616):(Lib.decDigits u).length≤20:=by
 rw [Lib.decDigits_length]; exact Lib.nDigits_le20 u h
theorem Gu (sep:Bs) (b:Nat):∀l:List Bs,(∀x∈l,x.length≤b)→(Lib.joinTail sep l).length≤l.length*(sep.length+b)
 | [],_=>by simp [Lib.joinTail]
 | x::r,h=>by
  have h1:=h x O2
  have ih:=Gu sep b r (fun y hy=>h y (by simp [hy]))
  have e:Lib.joinTail sep (x::r)=sep++x++Lib.joinTail sep r:=by simp [Lib.joinTail]
  rw [e,L5,L5,L7,Nat.succ_mul]; omega
theorem PE {sep:Bs} {b:Nat} {l:List Bs} (h:∀x∈l,x.length≤b):(Lib.join l sep).length≤l.length*(sep.length+b):=by
 match l,h with
 | [],_=>simp [Lib.join_nil]
 | x::r,h=>
  have h1:=h x O2
  have ih:=Gu sep b r (fun y hy=>h y (by simp [hy]))
  rw [Lib.join_cons,L5,L7,Nat.succ_mul]; omega
end Go.Abs
end
