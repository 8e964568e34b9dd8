/- The typed Lean form of WireReturns gives true for every list of at most 9223372036854775807 numbers. -/
import Derived.Test.YtbggpcnbbhjiaaaGreatDoorLaw1
set_option linter.unusedVariables false
set_option linter.unusedSimpArgs false
set_option linter.unnecessarySimpa false
section
set_option maxRecDepth 100000
namespace Go.Abs
open Go Go.Proofs
def o8 (n:Nat):UInt8:=UInt8.ofNat n
def U2 (t n:Nat):Bs:=
 if n<128 then [o8 t,o8 n]else if n<256 then [o8 t,129,o8 n]else if n<65536 then [o8 t,130,o8 (n/256),o8 n]else [o8 t,131,o8 (n/65536),o8 (n/256),o8 n]
def tWrap (t:Nat) (c:Bs):Bs×Int:=if c.length≤131072 then(U2 t c.length++c,0)else([],6)
theorem ke (n:Nat):UInt8.ofNat (IntKind.wrap .u8 (n:Int)).toNat=o8 n:=by
 have h:IntKind.wrap .u8 (n:Int)=((n%256:Nat):Int):=by
  rw [IntKind.wrap]; simp [IntKind.signed,IntKind.bits]
 rw [h]; unfold o8
 apply UInt8.toNat_inj.1
 simp; omega
theorem Dq (a b:Nat) (h:0<b):Int.fdiv (a:Int) (b:Int)=((a/b:Nat):Int):=by
 rw [Int.fdiv_eq_ediv_of_nonneg _ (by omega)]; rfl
theorem Je (t n:Nat):2≤(U2 t n).length∧(U2 t n).length≤5:=by
 unfold U2; split
 ·simp
 ·split
  ·simp
  ·split<;>simp
theorem yd (t:Nat) (c:Bs):(tWrap t c).1.length≤c.length+5:=by
 unfold tWrap; split
 ·have:=Je t c.length; simp; omega
 ·simp
theorem BA {n:Nat} (cs:List Bs) (hm:∀c∈cs,c.length≤1000000000000):∀(k:Nat) (pre suf:List Bs),cs=pre++suf→suf.length<k→cs.length≤1000000000000→pre.flatten.length≤131072 →
  ud n cs k (pre.flatten.length:Int) (pre.length:Int)=some (if cs.flatten.length≤131072 then .nxt (cs.flatten.length:Int)else .ret ([],6))
 |0,_,_,_,h,_,_=>by omega
 | k+1,pre,[],hp,hk,hl,ht=>by
  simp at hp; subst hp
  rw [ud,if_neg (by simp [-List.length_flatten]),if_pos ht]
 | k+1,pre,c::suf,hp,hk,hl,ht=>by
  have hlen:cs.length=pre.length+(suf.length+1):=by rw [hp]; simp [-List.length_flatten]
  have hfl:cs.flatten.length=pre.flatten.length+(c.length+suf.flatten.length):=by rw [hp,List.flatten_append,List.length_append,List.flatten_cons,List.length_append]
  have hx:z6 cs (pre.length:Int)=some c:=by
   rw [yf (by omega)]; congr 1; simp [hp]
  rw [ud,if_pos (by simp [-List.length_flatten]; omega),hx]
  simp only [Option.bind_some]
  rw [wt (x:=(131072:Int)-(pre.flatten.length:Int)) (by omega)]
  have hc:=hm c (by rw [hp]; simp)
  by_cases hb:pre.flatten.length+c.length≤131072
  ·have ih:=BA (n:=n) cs hm k (pre ++ [c]) suf (by rw [hp]; simp) (by simp at hk; omega) hl (by rw [List.flatten_append,List.length_append]; simp [-List.length_flatten]; omega)
   rw [if_neg (by simp [-List.length_flatten]; omega),wt (by omega),w1 (by omega)]
   rw [show((pre.flatten.length:Int)+(c.length:Int))=(((pre ++ [c]).flatten.length:Nat):Int)by rw [List.flatten_append,List.length_append]; simp [-List.length_flatten],show pre.length+1=(pre ++ [c]).length by simp]
   exact ih
  ·rw [if_pos (by simp [-List.length_flatten]; omega),if_neg (by omega)]
theorem Xd (cs:List Bs):Lib.join cs []=cs.flatten:=by
 induction cs with
 |nil=>rfl
 |cons c r ih=>rw [Lib.join_cons]; simp [Lib.joinTail]
theorem Pv {n:Nat} {cs:List Bs} (h1:cs.flatten.length≤140737488355328) (h2:cs.length≤140737488355328):dY n cs []=some cs.flatten:=by
 unfold dY; rw [Xd,if_pos ⟨h1,h2⟩]
theorem Xr {n:Nat} {t:Nat} {cs:List Bs} (h1:t≤255) (h2:t%32≠31) (hm:∀c∈cs,c.length≤1000000000000) (hn:cs.length<n) (hl:cs.length≤1000000000000):
  xy n (t:Int) cs=some (tWrap t cs.flatten):=by
 unfold xy tWrap
 have h31:(wq .i64 (t:Int) 31==31)=false:=by
  have:=cg (UInt8.ofNat t)
  rw [show(UInt8.ofNat t).toNat=t by simp [-List.length_flatten]; omega]at this
  rw [this]; simp [h2]
 rw [if_neg (by simp [-List.length_flatten]),if_neg (by simp [-List.length_flatten]; omega),h31]
 simp only [Option.bind_some,Bool.false_eq_true,if_false]
 have:=BA (n:=n) cs hm n [] cs rfl hn hl (by simp [-List.length_flatten])
 simp only [List.flatten_nil,List.length_nil]at this
 rw [show((0:Nat):Int)=0 from rfl]at this
 rw [this]
 by_cases hc:cs.flatten.length≤131072
 ·rw [if_pos hc,if_pos hc]
  simp only [xJ]
  generalize hL:cs.flatten.length=L at *
  have e1:Int.fdiv (L:Int) 256=((L/256:Nat):Int):=Dq L 256 (by omega)
  have e2:Int.fdiv (L:Int) 65536=((L/65536:Nat):Int):=Dq L 65536 (by omega)
  rw [e1,e2,Pv (by omega) (by omega)]
  unfold U2
  by_cases a1:L<128
  ·rw [if_pos (by simp [-List.length_flatten]; omega),if_pos a1]
   simp only [kW,Option.bind_some]
   simp [dt,b2s,ke,hL]
   have:2+L≤9223372036854775807:=by omega
   simp [this]
  ·by_cases a2:L<256
   ·rw [if_neg (by simp [-List.length_flatten]; omega),if_pos (by simp [-List.length_flatten]; omega),if_neg a1,if_pos a2]
    simp only [kW,Option.bind_some]
    simp [dt,b2s,ke,hL]
    have:3+L≤9223372036854775807:=by omega
    simp [this]
   ·by_cases a3:L<65536
    ·rw [if_neg (by simp [-List.length_flatten]; omega),if_neg (by simp [-List.length_flatten]; omega),if_pos (by simp [-List.length_flatten]; omega),if_neg a1,if_neg a2,if_pos a3]
     simp only [kW,Option.bind_some]
     simp only [dt,b2s,List.map_append,List.map_cons,List.map_nil,ke,List.length_append,List.length_cons,List.length_nil,hL]
     have:0+1+(0+1+1+1)+L≤9223372036854775807:=by omega
     simp [this]
     exact⟨ke t,ke (L/256),ke L⟩
    ·rw [if_neg (by simp [-List.length_flatten]; omega),if_neg (by simp [-List.length_flatten]; omega),if_neg (by simp [-List.length_flatten]; omega),if_neg a1,if_neg a2,if_neg a3]
     simp only [kW,Option.bind_some]
     simp only [dt,b2s,List.map_append,List.map_cons,List.map_nil,ke,List.length_append,List.length_cons,List.length_nil,hL]
     have:0+1+(0+1+1+1+1)+L≤9223372036854775807:=by omega
     simp [this]
     exact⟨ke t,ke (L/65536),ke (L/256),ke L⟩
 ·rw [if_neg hc,if_neg hc]; rfl
theorem py {n:Nat} (h:n<256):(o8 n).toNat=n:=by unfold o8; simp; omega
theorem Y5 {t:Nat} {c rest:Bs} (h1:t≤255) (h2:t%32≠31) (hc:c.length≤131072):w4 ((tWrap t c).1++rest)=(⟨t,c,(tWrap t c).1⟩,rest,0):=by
 unfold tWrap
 rw [if_pos hc]
 simp only
 generalize hL:c.length=L at *
 have ht:(o8 t).toNat=t:=py (by omega)
 unfold U2
 by_cases a1:L<128
 ·rw [if_pos a1]
  have hb:(o8 L).toNat=L:=py (by omega)
  simp only [List.cons_append,List.nil_append,w4,ht,hb,h2,if_false]
  rw [if_neg (by omega),if_pos a1,if_neg (by simp; omega)]
  simp [←hL]
 ·rw [if_neg a1]
  by_cases a2:L<256
  ·rw [if_pos a2]
   have hb:(o8 L).toNat=L:=py (by omega)
   have hn:num ((o8 L::(c++rest)).take 1)=L:=by simp [num,hb]
   simp only [List.cons_append,List.nil_append,w4,ht,h2,if_false]
   rw [if_neg (by decide),if_neg (by decide),show(129:UInt8).toNat-128=1 from rfl,if_neg (by simp),hn,if_neg (by simp [least]; omega),if_neg (by simp; omega)]
   simp [←hL,show 1+c.length=c.length+1 by omega]
  ·rw [if_neg a2]
   by_cases a3:L<65536
   ·rw [if_pos a3]
    have hb:(o8 (L/256)).toNat=L/256:=py (by omega)
    have hb2:(o8 L).toNat=L%256:=by unfold o8; simp
    have hn:num ((o8 (L/256)::o8 L::(c++rest)).take 2)=L:=by simp [num,hb,hb2]; omega
    simp only [List.cons_append,List.nil_append,w4,ht,h2,if_false]
    rw [if_neg (by decide),if_neg (by decide),show(130:UInt8).toNat-128=2 from rfl,if_neg (by simp),hn,if_neg (by simp [least]; omega),if_neg (by simp; omega)]
    simp [←hL,show 2+c.length=c.length+1+1 by omega]
   ·rw [if_neg a3]
    have hb0:(o8 (L/65536)).toNat=L/65536:=py (by omega)
    have hb:(o8 (L/256)).toNat=L/256%256:=by unfold o8; simp
    have hb2:(o8 L).toNat=L%256:=by unfold o8; simp
    have hn:num ((o8 (L/65536)::o8 (L/256)::o8 L::(c++rest)).take 3)=L:=by simp [num,hb0,hb,hb2]; omega
    simp only [List.cons_append,List.nil_append,w4,ht,h2,if_false]
    rw [if_neg (by decide),if_neg (by decide),show(131:UInt8).toNat-128=3 from rfl,if_neg (by simp),hn,if_neg (by simp [least]; omega),if_neg (by simp; omega)]
    simp [←hL,show 3+c.length=c.length+1+1+1 by omega]
def elm (p:Nat×Bs):zd:=⟨p.1,p.2,(tWrap p.1 p.2).1⟩
def POk (p:Nat×Bs):Prop:=p.1≤255∧p.1%32≠31∧p.2.length≤131072
def wraps (l:List (Nat×Bs)):Bs:=(l.map fun p=>(tWrap p.1 p.2).1).flatten
theorem BM (t:Nat) {c:Bs} (hc:c.length≤131072):2≤(tWrap t c).1.length:=by
 unfold tWrap; rw [if_pos hc]; have:=Je t c.length; simp; omega
theorem We:∀(l:List (Nat×Bs)) (k:Nat) (acc:List zd),(∀p∈l,POk p)→(wraps l).length<k→bp k (wraps l) acc=(acc++l.map elm,0)
 | [],0,acc,_,h=>by omega
 | [],k+1,acc,_,_=>by simp [wraps,bp]
 |p::r,0,acc,_,h=>by omega
 | p::r,k+1,acc,hp,h=>by
  obtain⟨h1,h2,h3⟩:=hp p (by simp)
  have hw:wraps (p::r)=(tWrap p.1 p.2).1++wraps r:=by simp [wraps]
  have hne:=BM p.1 h3
  rw [hw]at h ⊢
  rw [bp,if_neg (by intro h'; have:=congrArg List.length h'; simp at this; simp [this.1]at hne),Y5 h1 h2 h3]
  rw [if_neg (by simp)]
  rw [We r k _ (fun q hq=>hp q (by simp [hq])) (by simp at h; omega)]
  simp [elm]
theorem vb {l:List (Nat×Bs)} (h:∀p∈l,POk p):tList (wraps l)=(l.map elm,0):=by
 unfold tList; rw [We l _ [] h (by omega)]; rfl
theorem pN {t:Nat} {c:Bs} (h1:t≤255) (h2:t%32≠31) (hc:c.length≤131072):jZ (tWrap t c).1=(⟨t,c,(tWrap t c).1⟩,0):=by
 have:=Y5 (rest:= []) h1 h2 hc
 rw [List.append_nil]at this
 unfold jZ
 rw [this]; simp
theorem UT {n k:Nat} (h:k≤n):∃m,n=m+k:=⟨n-k,by omega⟩
theorem Ue {α:Type} {l:List α} {x:α}:lsl (x::l) 1 ((x::l).length:Nat)=some l:=by
 unfold lsl
 rw [if_pos (by simp; omega)]
 simp
def splitB (c:UInt8):Bs→List Bs
 | []=> [[]]
 | x::r=>if x=c then []::splitB c r else match splitB c r with
  |p::ps=>(x::p)::ps
  | []=> [[x]]
theorem WH (c:UInt8) (s:Bs):splitB c s≠ []:=by
 cases s with
 |nil=>simp [splitB]
 | cons x r=>
  simp only [splitB]; split
  ·simp
  ·split<;>simp
theorem K7 (c:UInt8) (s:Bs):(splitB c s).length=s.count c+1:=by
 induction s with
 |nil=>rfl
 | cons x r ih=>
  simp only [splitB]
  by_cases h:x=c
  ·subst h; rw [if_pos rfl]; simp [ih]
  ·rw [if_neg h,List.count_cons_of_ne h]
   split
   ·rename_i p ps hp; rw [hp]at ih; simpa using ih
   ·rename_i hp; exact absurd hp (WH c r)
theorem VQ {c:UInt8} {p:Bs} (hp:c∉p):splitB c p= [p]∧∀r,splitB c (p++c::r)=p::splitB c r:=by
 induction p with
 |nil=>exact⟨rfl,fun r=>by simp [splitB]⟩
 | cons x q ih=>
  simp only [List.mem_cons,not_or]at hp
  obtain⟨h1,h2⟩:=ih hp.2
  refine⟨?_,fun r=> ?_⟩
  ·simp only [splitB]; rw [if_neg (Ne.symm hp.1),h1]
  ·simp only [List.cons_append,splitB]; rw [if_neg (Ne.symm hp.1),h2 r]
theorem Jh (c:UInt8):∀s:Bs,(Lib.index s [c]= -1∧c∉s)∨∃p r,s=p++c::r∧Lib.index s [c]=(p.length:Int)∧c∉p
 | []=> .inl ⟨rfl,by simp⟩
 | x ::l=>by
  unfold Lib.index
  by_cases h:x=c
  ·subst h; exact .inr ⟨[],l,rfl,by simp [List.isPrefixOf],by simp⟩
  ·have hpre:List.isPrefixOf [c] (x::l)=false:=by simp [List.isPrefixOf]; exact fun h'=>absurd h'.symm h
   rw [hpre]
   rcases Jh c l with⟨h1,h2⟩|⟨p,r,h1,h2,h3⟩
   ·refine .inl ⟨by simp [h1], ?_⟩
    simp only [List.mem_cons,not_or]; exact⟨Ne.symm h,h2⟩
   ·refine .inr ⟨x::p,r,by rw [h1]; rfl, ?_, ?_⟩
    ·rw [h2]
     have:((p.length:Int)== -1)=false:=by simp
     simp [this]
    ·simp only [List.mem_cons,not_or]; exact⟨Ne.symm h,h3⟩
theorem Bv {α:Type} {l:List α} {x y:α} {r:List α} {i:Nat} (h:i=l.length):Z5 (l++y::r) (i*1) x=some (l++x::r):=by
 subst h
 unfold Z5
 rw [Nat.mul_one,if_pos (by simp)]
 simp
theorem Vb {n:Nat} {c:UInt8} {s:Bs} (hs:s.length≤1000000000) (m:Nat) (hm:m=s.count c+1):∀(k i:Nat) (v:Bs) (done:List Bs),done.length=i→i+v.count c+1=m→v.length≤s.length→v.count c<k →
  ∃w done2,xW n s (m:Int) [c] 0 m k v (i:Int) (done++List.replicate (m-i) [])=some (w,((m-1:Nat):Int),done2++List.replicate 1 [])∧done2.length=m-1∧done++splitB c v=done2 ++ [w]
 |0,_,_,_,_,_,_,h=>by omega
 | k + 1,i,v,done,hd,hi,hv,hk=>by
  have hcs:s.count c≤s.length:=List.count_le_length
  rw [xW]
  have e1:IntKind.wrap .i64 ((s.length:Int)+1)=((s.length+1:Nat):Int):=by rw [wt (by omega)]; omega
  rw [e1]
  have e2:(if(((s.length+1:Nat):Int))<(m:Int)then((s.length+1:Nat):Int)else(m:Int))=(m:Int):=by
   rw [if_neg (by omega)]
  rw [e2,wt (x:=(m:Int)-1) (by omega)]
  by_cases hc:i<m-1
  ·rw [if_pos (by simp; omega)]
   have hidx:pL n v [c]=some (Lib.index v [c]):=by unfold pL; rw [if_pos (by omega)]
   rw [hidx]
   simp only [Option.bind_some]
   rcases Jh c v with⟨h1,h2⟩|⟨p,r,h1,h2,h3⟩
   ·have:v.count c=0:=List.count_eq_zero.2 h2
    omega
   ·have hvc:v.count c=r.count c+1:=by rw [h1,List.count_append,List.count_eq_zero.2 h3]; simp
    have hvl:v.length=p.length+1+r.length:=by rw [h1]; simp; omega
    rw [h2,if_neg (by simp),wt (x:=(p.length:Int)+0) (by omega),Int.add_zero]
    have s1:ssl v 0 (p.length:Int)=some p:=by
     rw [show(0:Int)=((0:Nat):Int)from rfl,bJ (by omega) (by omega),h1]; simp
    have s2:ssl v (IntKind.wrap .i64 ((p.length:Int)+(([c]:Bs).length:Int))) (v.length:Int)=some r:=by
     rw [show(([c]:Bs).length:Int)=1 from rfl,w1 (by omega),bJ (by omega) (by omega),List.take_length,h1,show p.length+1=(p ++ [c]).length by simp,show p++c::r=(p ++ [c])++r by simp,List.drop_left]
    have s3:kI m (i:Int)=some i:=by unfold kI; rw [if_pos (by omega)]; simp
    have hrep:List.replicate (m-i) ([]:Bs)= []::List.replicate (m-(i+1)) []:=by
     rw [show m-i=(m-(i+1))+1 by omega,List.replicate_succ]
    rw [s1,s3,s2,hrep]
    simp only [Option.bind_some]
    rw [Bv hd.symm,w1 (by omega)]
    simp only [Option.bind_some]
    have ih:=Vb (n:=n) hs m hm k (i+1) r (done ++ [p]) (by simp [hd]) (by omega) (by omega) (by omega)
    obtain⟨w,d2,g1,g2,g3⟩:=ih
    refine⟨w,d2, ?_,g2, ?_⟩
    ·rw [←g1]; simp
    ·rw [←g3,h1,(VQ h3).2 r]; simp
  ·rw [if_neg (by simp; omega)]
   have hi':i=m-1:=by omega
   have h0:v.count c=0:=by omega
   have hn:c∉v:=List.count_eq_zero.1 h0
   refine⟨v,done, ?_,by omega,by rw [(VQ hn).1]⟩
   rw [hi',show m-(m-1)=1 by omega]
theorem strings_Split {n:Nat} {c:UInt8} {s:Bs} (hs:s.length≤1000000000) (hn:s.length+2≤n):uJ n s [c]=some (splitB c s):=by
 unfold uJ js
 have hcs:s.count c≤s.length:=List.count_le_length
 rw [if_neg (by decide),if_neg (by simp),if_pos (by decide)]
 have hct:XE n s [c]=some ((s.count c:Nat):Int):=rfl
 rw [hct]
 simp only [Option.bind_some]
 have e0:IntKind.wrap .i64 (((s.count c:Nat):Int)+1)=((s.count c+1:Nat):Int):=by rw [wt (by omega)]; omega
 have e1:IntKind.wrap .i64 ((s.length:Int)+1)=((s.length+1:Nat):Int):=by rw [wt (by omega)]; omega
 rw [e0,e1]
 generalize hm:s.count c+1=m at *
 have e2:(if(((s.length+1:Nat):Int))<(m:Int)then((s.length+1:Nat):Int)else(m:Int))=(m:Int):=by
  rw [if_neg (by omega)]
 rw [e2]
 have hmk:Xk 16 (m:Int) (m:Int)=some m:=by unfold Xk; rw [if_pos (by omega)]; simp
 rw [hmk]
 simp only [Option.bind_some]
 obtain⟨w,d2,g1,g2,g3⟩:=Vb (n:=n) (c:=c) hs m hm.symm n 0 s [] rfl (by omega) (Nat.le_refl _) (by omega)
 rw [show((0:Nat):Int)=0 from rfl,List.nil_append,Nat.sub_zero]at g1
 rw [List.nil_append]at g3
 rw [g1]
 simp only [Option.bind_some]
 have s3:kI m (((m-1:Nat):Int))=some (m-1):=by unfold kI; rw [if_pos (by omega)]; simp
 rw [s3]
 simp only [Option.bind_some]
 rw [show List.replicate 1 ([]:Bs)= [[]]from rfl,Bv g2.symm]
 simp only [Option.bind_some]
 have e3:IntKind.wrap .i64 (((m-1:Nat):Int)+1)=(m:Int):=by rw [wt (by omega)]; omega
 rw [e3]
 have e4:osl m (m:Int)=some m:=by unfold osl; rw [if_pos (by omega)]; simp
 rw [e4]
 simp only [Option.bind_some]
 have e5:Kt m (d2 ++ [w])=some (d2 ++ [w]):=by
  unfold Kt; rw [if_pos (by simp; omega),List.take_of_length_le (by simp; omega)]
 rw [e5,g3]; rfl
def Yp (c:UInt8):Bool:=decide (48≤c.toNat)&&decide (c.toNat≤57)
def dval (p:Bs):Nat:=p.foldl (fun n c=>10*n+(c.toNat-48)) 0
def kX (p:Bs):Bool:=decide (p≠ [])&&decide (p.length≤10) && !(decide (1<p.length)&&decide (p.head? =some 48))&&p.all Yp&&decide (dval p≤2147483647)
def ZP (l:List Nat):Bool:=match l with
 |a::b::_=>(decide (a≤1)&&decide (b≤39))||decide (a=2)
 |_=>false
def xS (s:Bs):Option (List Nat):=
 if 2≤(splitB 46 s).length∧(splitB 46 s).length≤12∧(splitB 46 s).all kX=true∧ZP ((splitB 46 s).map dval)=true then some ((splitB 46 s).map dval)else none
def wo (l:List Nat):List Int:=l.map fun n:Nat=>(n:Int)
theorem Yf (p:Bs):kX p=true↔p≠ []∧p.length≤10∧¬(1<p.length∧p.head? =some 48)∧p.all Yp=true∧dval p≤2147483647:=by
 unfold kX
 simp only [Bool.and_eq_true,decide_eq_true_eq,Bool.not_eq_true',Bool.and_eq_false_imp,decide_eq_false_iff_not,and_assoc,not_and]
theorem pe {p:Bs} (h:¬(p≠ []∧p.length≤10∧¬(1<p.length∧p.head? =some 48)∧p.all Yp=true∧dval p≤2147483647)):kX p=false:=by
 rw [Bool.eq_false_iff]; exact fun h'=>h ((Yf p).1 h')
theorem Kg {c:UInt8} (hc:Yp c=true) {v:Nat} (hv:v<100000000000):IntKind.wrap .i64 (IntKind.wrap .i64 ((10:Int)*(v:Int))+IntKind.wrap .i64 (IntKind.wrap .u8 ((c.toNat:Int)-48)))=((10*v+(c.toNat-48):Nat):Int):=by
 simp only [Yp,Bool.and_eq_true,decide_eq_true_eq]at hc
 rw [wr8 (by omega) (by omega),wt (x:=(10:Int)*(v:Int)) (by omega),wt (x:=(c.toNat:Int)-48) (by omega),wt (by omega)]
 omega
theorem Ug {n:Nat} (p:Bs) (hl:p.length≤10):∀(k i v:Nat),i≤p.length→p.length-i<k→v<10^i→(p.take i).all Yp=true →
  jn n p k (v:Int) (i:Int)=some (if(p.drop i).all Yp=true then .nxt (((p.drop i).foldl (fun n c=>10*n+(c.toNat-48)) v:Nat):Int)else .ret (-1))
 |0,i,v,_,h,_,_=>by omega
 | k + 1,i,v,hi,hk,hv,hd=>by
  rw [jn]
  by_cases hc:i<p.length
  ·rw [if_pos (by simp; omega),b9 hc]
   simp only [Option.bind_some]
   have hdr:p.drop i=p[i]::p.drop (i+1):=List.drop_eq_getElem_cons hc
   have hv10:v<10000000000:=Nat.lt_of_lt_of_le hv (Nat.le_trans (Nat.pow_le_pow_right (by omega) (show i≤10 by omega)) (by decide))
   rw [hdr,List.all_cons,List.foldl_cons]
   by_cases hdg:Yp p[i]=true
   ·have h2:=hdg
    simp only [Yp,Bool.and_eq_true,decide_eq_true_eq]at h2
    rw [if_neg (by simp; omega)]
    simp only [Option.bind_some]
    rw [if_neg (by simp; omega),Kg hdg (by omega),w1 (by omega),hdg,Bool.true_and]
    refine Ug p hl k (i+1) _ (by omega) (by omega) ?_ ?_
    ·rw [Nat.pow_succ]; omega
    ·rw [List.take_succ_eq_append_getElem hc,List.all_append,hd]; simp [hdg]
   ·have h2:p[i].toNat<48∨57<p[i].toNat:=by
     simp only [Yp,Bool.and_eq_true,decide_eq_true_eq]at hdg; omega
    have:(if(decide (((p[i]).toNat:Int)<48))=true then some true else some (decide (((p[i]).toNat:Int)>57)))=some true:=by
     by_cases h:p[i].toNat<48
     ·rw [if_pos (by simp; omega)]
     ·rw [if_neg (by simp; omega)]; simp; omega
    rw [this]
    simp only [Bool.not_eq_true]at hdg
    simp [hdg]
  ·have:i=p.length:=by omega
   subst this
   rw [if_neg (by simp)]
   simp
theorem PQ {n:Nat} {p:Bs} (hn:20≤n) (hp:p.length≤1000000000):de n p=some (if kX p=true then((dval p:Nat):Int)else -1):=by
 unfold de
 match p,hp with
 | [],_=>simp [kX]
 | c :: r,hp=>
  rw [if_neg (by simp)]
  by_cases h10:(c::r).length≤10
  ·rw [if_neg (by simp; simp at h10; omega)]
   have h0:uE (c::r) 0=some (c.toNat:Int):=by simp [uE]
   rw [h0]
   simp only [Option.bind_some]
   by_cases hz:c=48∧1<(c::r).length
   ·have:kX (c::r)=false:=pe fun h=>h.2.2.1 ⟨hz.2,by rw [hz.1]; rfl⟩
    rw [if_pos (by rw [hz.1]; rfl),this]
    have:=hz.2
    simp at this
    have h3:decide (((c::r).length:Int)>1)=true:=by simp; omega
    rw [h3]; rfl
   ·have hb:(if((c.toNat:Int)==48)=true then some (decide (((c::r).length:Int)>1))else some false)=some false:=by
     by_cases h:c=48
     ·rw [if_pos (by rw [h]; rfl)]
      have:¬1<(c::r).length:=fun h'=>hz ⟨h,h'⟩
      have h3:decide (((c::r).length:Int)>1)=false:=by rw [decide_eq_false_iff_not]; omega
      rw [h3]
     ·rw [if_neg]
      simp
      intro h'
      have:(48:UInt8).toNat=48:=rfl
      exact h (UInt8.toNat_inj.1 (by omega))
    rw [hb]
    simp only [Option.bind_some,Bool.false_eq_true,if_false]
    have:=Ug (n:=n) (c::r) h10 n 0 0 (by omega) (by omega) (by simp) (by simp)
    rw [show((0:Nat):Int)=0 from rfl,List.drop_zero]at this
    rw [this]
    by_cases ha:(c::r).all Yp=true
    ·rw [if_pos ha]
     simp only [xJ]
     by_cases hm:dval (c::r)≤2147483647
     ·have hok:kX (c::r)=true:=(Yf _).2 ⟨by simp,h10,fun h=>hz ⟨by simpa using h.2,h.1⟩,ha,hm⟩
      rw [hok,if_pos rfl]
      rw [if_neg]
      ·rfl
      ·show ¬decide (((dval (c::r):Nat):Int)>2147483647)=true
       simp; omega
     ·have hok:kX (c::r)=false:=pe fun h=>hm h.2.2.2.2
      rw [hok,if_pos]
      ·rfl
      ·show decide (((dval (c::r):Nat):Int)>2147483647)=true
       simp; omega
    ·have hok:kX (c::r)=false:=pe fun h=>ha h.2.2.2.1
     rw [if_neg ha,hok]; rfl
  ·have hok:kX (c::r)=false:=pe fun h=>h10 h.2.1
   rw [if_pos (by simp; simp at h10; omega),hok]; rfl
theorem wL (l:List Nat):(wo l).length=l.length:=by simp [wo]
theorem Vd {n:Nat} (hn:20≤n) (ps:List Bs) (hp:∀p∈ps,p.length≤1000000000) (hl:ps.length≤1000000000):∀(k:Nat) (pre suf:List Bs),ps=pre++suf→suf.length<k→pre.all kX=true →
  ua n ps k (wo (pre.map dval)) (pre.length:Int)=some (if suf.all kX=true then .nxt (wo (ps.map dval))else .ret none)
 |0,_,_,_,h,_=>by omega
 | k+1,pre,[],hps,hk,ha=>by
  simp at hps; subst hps
  rw [ua,if_neg (by simp)]; simp
 | k+1,pre,p::suf,hps,hk,ha=>by
  have hlen:ps.length=pre.length+(suf.length+1):=by rw [hps]; simp
  have hx:z6 ps (pre.length:Int)=some p:=by
   rw [yf (by omega)]; congr 1; simp [hps]
  rw [ua,if_pos (by simp; omega),hx]
  simp only [Option.bind_some]
  rw [PQ hn (hp p (by rw [hps]; simp))]
  simp only [Option.bind_some]
  by_cases ho:kX p=true
  ·rw [if_pos ho,if_neg (by simp),yZ (by simp [wL]; omega)]
   simp only [Option.bind_some]
   have e:(p::suf).all kX=suf.all kX:=by simp [ho]
   rw [w1 (by omega),e]
   have ih:=Vd hn ps hp hl k (pre ++ [p]) suf (by rw [hps]; simp) (by simp at hk; omega) (by simp [ha,ho])
   rw [←ih]
   simp [wo]
  ·have e:(p::suf).all kX=false:=by simp [ho]
   rw [if_neg ho,e]
   simp
theorem Kl {c:UInt8} {s p:Bs} (h:p∈splitB c s):p.length≤s.length:=by
 induction s generalizing p with
 |nil=>simp [splitB]at h; subst h; simp
 | cons x r ih=>
  simp only [splitB]at h
  split at h
  ·rcases List.mem_cons.1 h with h|h
   ·subst h; simp
   ·have:=ih h; simp; omega
  ·split at h
   ·rename_i q ps hq
    rcases List.mem_cons.1 h with h|h
    ·subst h
     have:=ih (p:=q) (by rw [hq]; simp)
     simp; omega
    ·have:=ih (p:=p) (by rw [hq]; simp [h])
     simp; omega
   ·simp at h; subst h; simp
theorem J1 {n:Nat} {s:Bs} (hs:s.length≤100000000) (hn:s.length+20≤n):ky n s=some ((xS s).map wo):=by
 unfold ky xS
 rw [strings_Split (by omega) (by omega)]
 simp only [Option.bind_some]
 have hlen:(splitB 46 s).length≤s.length+1:=by
  rw [K7]; have:= @List.count_le_length _ _ (46:UInt8) s; omega
 by_cases h2:2≤(splitB 46 s).length∧(splitB 46 s).length≤12
 ·have :(if(decide (((splitB 46 s).length:Int)<2))=true then some true else some (decide (((splitB 46 s).length:Int)>12)))=some false:=by
   rw [if_neg (by simp; omega),decide_eq_false_iff_not.2 (by omega)]
  rw [this]
  simp only [Option.bind_some,Bool.false_eq_true,if_false]
  have hl:=Vd (n:=n) (by omega) (splitB 46 s) (fun p hp=>by have:=Kl hp; omega) (by omega) n [] (splitB 46 s) rfl (by omega) rfl
  rw [show(wo (List.map dval ([]:List Bs)))= []from rfl,show((([]:List Bs).length:Nat):Int)=0 from rfl]at hl
  rw [hl]
  by_cases ha:(splitB 46 s).all kX=true
  ·rw [if_pos ha]
   simp only [xJ]
   match hd:(splitB 46 s).map dval with
   | []=>have:=congrArg List.length hd; rw [List.length_map,List.length_nil]at this; omega
   | [x]=>have:=congrArg List.length hd; rw [List.length_map,List.length_singleton]at this; omega
   | a ::b::l=>
    have h0:z6 (wo (a::b::l)) 0=some (a:Int):=by simp [z6,wo]
    have h1:z6 (wo (a::b::l)) 1=some (b:Int):=by simp [z6,wo]
    rw [h0,h1]
    simp only [Option.bind_some]
    have hr:bU n (a:Int) (b:Int)=some (ZP (a::b::l)):=by
     unfold bU ZP
     have e2:((a:Int)==2)=decide (a=2):=by
      by_cases h:a=2
      ·simp [h]
      ·simp [h]; omega
     rw [e2]
     by_cases c1:a≤1
     ·by_cases c2:b≤39
      ·rw [if_pos (by simp; omega),if_pos (by simp; omega)]; simp [c1,c2]
      ·rw [if_pos (by simp; omega),if_neg (by simp; omega)]; simp [c2]
     ·rw [if_neg (by simp; omega)]; simp [c1]
    rw [hr]
    simp only [Option.bind_some]
    cases hro:ZP (a::b::l)with
    |true=>simp [h2,ha,lne,wo]
    |false=>simp
  ·rw [if_neg ha,if_neg (fun h=>ha h.2.2.1)]; rfl
 ·have:(if(decide (((splitB 46 s).length:Int)<2))=true then some true else some (decide (((splitB 46 s).length:Int)>12)))=some true:=by
   by_cases h:(splitB 46 s).length<2
   ·rw [if_pos (by simp; omega)]
   ·rw [if_neg (by simp; omega),decide_eq_true (by omega)]
  rw [this,if_neg (fun h=>h2 ⟨h.1,h.2.1⟩)]; rfl
theorem gM {n:Nat} {s:Bs} (hs:s.length≤100000000) (hn:s.length+20≤n):uA n s=some (xS s).isSome:=by
 unfold uA
 rw [J1 hs hn]
 cases h:xS s with
 |none=>rfl
 | some l=>
  have:l≠ []:=by
   unfold xS at h
   split at h
   ·rename_i hc; injection h with h; subst h
    intro h'
    have:=congrArg List.length h'
    rw [List.length_map,List.length_nil]at this
    omega
   ·cases h
  cases l with
  |nil=>exact absurd rfl this
  |cons a r=>rfl
end Go.Abs
end
