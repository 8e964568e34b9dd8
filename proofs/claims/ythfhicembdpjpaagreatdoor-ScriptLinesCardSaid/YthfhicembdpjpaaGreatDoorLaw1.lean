/- The typed Lean form of ScriptLines gives true for every list of numbers. No condition beyond each statement's own. -/
import Derived.Test.YthfhicembdpjpaaGreatDoorW4
import Derived.Lib.AtoiAllCases
import Derived.Lib.Join
set_option linter.all false
section
set_option maxRecDepth 100000
namespace Go.Abs
open Go Go.Proofs IntKind
abbrev Bs:=List UInt8
theorem jX {x:Int} (h: -9223372036854775808≤x∧x≤9223372036854775807):wrap .i64 x=x:=IntWalk.i64_in x h
theorem wr8 {x:Int} (h0:0≤x) (h1:x≤255):wrap .u8 x=x:=by
 obtain⟨n,rfl⟩:=Int.eq_ofNat_of_zero_le h0
 have hn:n<256:=O0
 have:∀n:Nat,n<256→wrap .u8 (n:Int)=n:=by
  intro n hn
  have:=List.all_eq_true.1 (show((List.range 256).all fun n:Nat=>wrap .u8 (n:Int)==(n:Int))=true by kernel_rfl) n (O7 hn)
  simpa using this
 exact this n hn
theorem gP {s:Bs} {i:Nat} (h:i<s.length):xD s (i:Int)=some ((s[i]).toNat:Int):=by
 simp [xD,h]
theorem un {α:Type} {l:List α} {i:Nat} (h:i<l.length):xe l (i:Int)=some l[i]:=by
 simp [xe,h]
theorem qN {s:Bs} {i j:Nat} (h:i≤j) (hj:j≤s.length):ssl s (i:Int) (j:Int)=some ((s.take j).drop i):=by
 unfold ssl; rw [if_pos O0]; simp
theorem qV {s t:Bs} (h:s.length+t.length≤9223372036854775807):pb s t=some (s++t):=by
 unfold pb; rw [if_pos h]
theorem j2 {α:Type} {b:Nat} {l m:List α} (h:(l.length+m.length)*b≤140737488355328):jO b l m=some (l++m):=by
 unfold jO; rw [if_pos h]
theorem w1 {i:Nat} (h:i<9223372036854775807):wrap .i64 ((i:Int)+1)=((i+1:Nat):Int):=by rw [jX O0]; omega
theorem Di (c:UInt8):c.toNat<256:=c.toNat_lt
theorem JC {α:Type} {l:List α} {x:α}:lsl (x::l) 1 ((x::l).length:Nat)=some l:=by
 unfold lsl
 rw [if_pos O3]
 simp
def splitB (c:UInt8):Bs→List Bs
 | []=> [[]]
 | x::r=>if x=c then []::splitB c r else match splitB c r with
  |p::ps=>(x::p)::ps
  | []=> [[x]]
theorem ZT (c:UInt8) (s:Bs):splitB c s≠ []:=by
 cases s with
 |nil=>simp [splitB]
 | cons x r=>
  simp only [splitB]; split
  ·simp
  ·split<;>simp
theorem j7 (c:UInt8) (s:Bs):(splitB c s).length=s.count c+1:=by
 induction s with
 |nil=>rfl
 | cons x r ih=>
  simp only [splitB]
  by_cases h:x=c
  ·subst h; rw [if_pos rfl]; simp [ih]
  ·rw [if_neg h,List.count_cons_of_ne h]
   split
   ·rename_i p ps hp; rw [hp]at ih; simpa using ih
   ·rename_i hp; exact absurd hp (ZT c r)
theorem u1 {c:UInt8} {p:Bs} (hp:c∉p):splitB c p= [p]∧∀r,splitB c (p++c::r)=p::splitB c r:=by
 induction p with
 |nil=>exact⟨rfl,fun r=>by simp [splitB]⟩
 | cons x q ih=>
  simp only [List.mem_cons,not_or]at hp
  obtain⟨h1,h2⟩:=ih hp.2
  refine⟨?_,fun r=> ?_⟩
  ·simp only [splitB]; rw [if_neg (Ne.symm hp.1),h1]
  ·simp only [List.cons_append,splitB]; rw [if_neg (Ne.symm hp.1),h2 r]
theorem Qd {c x:UInt8} {p r:Bs} (hp:c∉p) (hx:x≠c):∃q ps,splitB c (p++x::r)=(p++x::q)::ps:=by
 induction p with
 | nil=>
  simp only [List.nil_append,splitB]; rw [if_neg hx]
  split
  ·exact⟨_,_,rfl⟩
  ·exact⟨[],[],rfl⟩
 | cons y q ih=>
  simp only [List.mem_cons,not_or]at hp
  obtain⟨q',ps,h⟩:=ih hp.2
  simp only [List.cons_append,splitB]; rw [if_neg (Ne.symm hp.1),h]
  exact⟨q',ps,rfl⟩
theorem Z4 (c:UInt8):∀s:Bs,(Lib.index s [c]= -1∧c∉s)∨∃p r,s=p++c::r∧Lib.index s [c]=(p.length:Int)∧c∉p
 | []=> .inl ⟨rfl,O2⟩
 | x ::l=>by
  unfold Lib.index
  by_cases h:x=c
  ·subst h; exact .inr ⟨[],l,rfl,by simp [List.isPrefixOf],O2⟩
  ·have hpre:List.isPrefixOf [c] (x::l)=false:=by simp [List.isPrefixOf]; exact fun h'=>absurd h'.symm h
   rw [hpre]
   rcases Z4 c l with⟨h1,h2⟩|⟨p,r,h1,h2,h3⟩
   ·refine .inl ⟨by simp [h1], ?_⟩
    simp only [List.mem_cons,not_or]; exact⟨Ne.symm h,h2⟩
   ·refine .inr ⟨x::p,r,by rw [h1]; rfl, ?_, ?_⟩
    ·rw [h2]
     have:((p.length:Int)== -1)=false:=O2
     simp [this]
    ·simp only [List.mem_cons,not_or]; exact⟨Ne.symm h,h3⟩
theorem Vq {α:Type} {l:List α} {x y:α} {r:List α} {i:Nat} (h:i=l.length):VT (l++y::r) (i*1) x=some (l++x::r):=by
 subst h
 unfold VT
 rw [Nat.mul_one,if_pos O2]
 simp
theorem W2 {n:Nat} {c:UInt8} {s:Bs} (hs:s.length≤1000000000) (m:Nat) (hm:m=s.count c+1):∀(k i:Nat) (v:Bs) (done:List Bs),done.length=i→i+v.count c+1=m→v.length≤s.length→v.count c<k →
  ∃w done2,wj n s (m:Int) [c] 0 m k v (i:Int) (done++List.replicate (m-i) [])=some (w,((m-1:Nat):Int),done2++List.replicate 1 [])∧done2.length=m-1∧done++splitB c v=done2 ++ [w]
 |0,_,_,_,_,_,_,h=>O0
 | k + 1,i,v,done,hd,hi,hv,hk=>by
  have hcs:s.count c≤s.length:=List.count_le_length
  rw [wj]
  have e1:wrap .i64 ((s.length:Int)+1)=((s.length+1:Nat):Int):=by rw [jX O0]; omega
  rw [e1]
  have e2:(if(((s.length+1:Nat):Int))<(m:Int)then((s.length+1:Nat):Int)else(m:Int))=(m:Int):=by
   rw [if_neg O0]
  rw [e2,jX (x:=(m:Int)-1) O0]
  by_cases hc:i<m-1
  ·rw [if_pos O3]
   have hidx:pL n v [c]=some (Lib.index v [c]):=by unfold pL; rw [if_pos O0]
   rw [hidx]
   simp only [Option.bind_some]
   rcases Z4 c v with⟨h1,h2⟩|⟨p,r,h1,h2,h3⟩
   ·have:v.count c=0:=List.count_eq_zero.2 h2
    omega
   ·have hvc:v.count c=r.count c+1:=by rw [h1,List.count_append,List.count_eq_zero.2 h3]; simp
    have hvl:v.length=p.length+1+r.length:=by rw [h1]; simp; omega
    rw [h2,if_neg O2,jX (x:=(p.length:Int)+0) O0,Int.add_zero]
    have s1:ssl v 0 (p.length:Int)=some p:=by
     rw [show(0:Int)=((0:Nat):Int)from rfl,qN O0 O0,h1]; simp
    have s2:ssl v (wrap .i64 ((p.length:Int)+(([c]:Bs).length:Int))) (v.length:Int)=some r:=by
     rw [show(([c]:Bs).length:Int)=1 from rfl,w1 O0,qN O0 O0,List.take_length,h1,show p.length+1=(p ++ [c]).length by simp,show p++c::r=(p ++ [c])++r by simp,List.drop_left]
    have s3:pJ m (i:Int)=some i:=by unfold pJ; rw [if_pos O0]; simp
    have hrep:List.replicate (m-i) ([]:Bs)= []::List.replicate (m-(i+1)) []:=by
     rw [show m-i=(m-(i+1))+1 by omega,List.replicate_succ]
    rw [s1,s3,s2,hrep]
    simp only [Option.bind_some]
    rw [Vq hd.symm,w1 O0]
    simp only [Option.bind_some]
    have ih:=W2 (n:=n) hs m hm k (i+1) r (done ++ [p]) (by simp [hd]) O0 O0 O0
    obtain⟨w,d2,g1,g2,g3⟩:=ih
    refine⟨w,d2, ?_,g2, ?_⟩
    ·rw [←g1]; simp
    ·rw [←g3,h1,(u1 h3).2 r]; simp
  ·rw [if_neg O3]
   have hi':i=m-1:=O0
   have h0:v.count c=0:=O0
   have hn:c∉v:=List.count_eq_zero.1 h0
   refine⟨v,done, ?_,O0,by rw [(u1 hn).1]⟩
   rw [hi',show m-(m-1)=1 by omega]
theorem ga {n:Nat} {c:UInt8} {s:Bs} (hs:s.length≤1000000000) (hn:s.length+2≤n):wU n s [c]=some (splitB c s):=by
 unfold wU uD
 have hcs:s.count c≤s.length:=List.count_le_length
 rw [if_neg O1,if_neg O2,if_pos O1]
 have hct:X0 n s [c]=some ((s.count c:Nat):Int):=rfl
 rw [hct]
 simp only [Option.bind_some]
 have e0:wrap .i64 (((s.count c:Nat):Int)+1)=((s.count c+1:Nat):Int):=by rw [jX O0]; omega
 have e1:wrap .i64 ((s.length:Int)+1)=((s.length+1:Nat):Int):=by rw [jX O0]; omega
 rw [e0,e1]
 generalize hm:s.count c+1=m at *
 have e2:(if(((s.length+1:Nat):Int))<(m:Int)then((s.length+1:Nat):Int)else(m:Int))=(m:Int):=by
  rw [if_neg O0]
 rw [e2]
 have hmk:Un 16 (m:Int) (m:Int)=some m:=by unfold Un; rw [if_pos O0]; simp
 rw [hmk]
 simp only [Option.bind_some]
 obtain⟨w,d2,g1,g2,g3⟩:=W2 (n:=n) (c:=c) hs m hm.symm n 0 s [] rfl O0 (Nat.le_refl _) O0
 rw [show((0:Nat):Int)=0 from rfl,List.nil_append,Nat.sub_zero]at g1
 rw [List.nil_append]at g3
 rw [g1]
 simp only [Option.bind_some]
 have s3:pJ m (((m-1:Nat):Int))=some (m-1):=by unfold pJ; rw [if_pos O0]; simp
 rw [s3]
 simp only [Option.bind_some]
 rw [show List.replicate 1 ([]:Bs)= [[]]from rfl,Vq g2.symm]
 simp only [Option.bind_some]
 have e3:wrap .i64 (((m-1:Nat):Int)+1)=(m:Int):=by rw [jX O0]; omega
 rw [e3]
 have e4:osl m (m:Int)=some m:=by unfold osl; rw [if_pos O0]; simp
 rw [e4]
 simp only [Option.bind_some]
 have e5:Jj m (d2 ++ [w])=some (d2 ++ [w]):=by
  unfold Jj; rw [if_pos O3,List.take_of_length_le O3]
 rw [e5,g3]; rfl
def bU (c:UInt8):Bool:=decide (48≤c.toNat)&&decide (c.toNat≤57)
def dval (p:Bs):Nat:=p.foldl (fun n c=>10*n+(c.toNat-48)) 0
def q9 (p:Bs):Bool:=decide (p≠ [])&&decide (p.length≤10) && !(decide (1<p.length)&&decide (p.head? =some 48))&&p.all bU&&decide (dval p≤2147483647)
def WU (l:List Nat):Bool:=match l with
 |a::b::_=>(decide (a≤1)&&decide (b≤39))||decide (a=2)
 |_=>false
def Ya (s:Bs):Option (List Nat):=
 if 2≤(splitB 46 s).length∧(splitB 46 s).length≤12∧(splitB 46 s).all q9=true∧WU ((splitB 46 s).map dval)=true then some ((splitB 46 s).map dval)else none
def dh (l:List Nat):List Int:=l.map fun n:Nat=>(n:Int)
theorem pE (p:Bs):q9 p=true↔p≠ []∧p.length≤10∧¬(1<p.length∧p.head? =some 48)∧p.all bU=true∧dval p≤2147483647:=by
 unfold q9
 simp only [iE,decide_eq_true_eq,Bool.not_eq_true',Bool.and_eq_false_imp,decide_eq_false_iff_not,and_assoc,not_and]
theorem Zy {p:Bs} (h:¬(p≠ []∧p.length≤10∧¬(1<p.length∧p.head? =some 48)∧p.all bU=true∧dval p≤2147483647)):q9 p=false:=by
 rw [Bool.eq_false_iff]; exact fun h'=>h ((pE p).1 h')
theorem VV {c:UInt8} (hc:bU c=true) {v:Nat} (hv:v<100000000000):wrap .i64 (wrap .i64 ((10:Int)*(v:Int))+wrap .i64 (wrap .u8 ((c.toNat:Int)-48)))=((10*v+(c.toNat-48):Nat):Int):=by
 simp only [bU,iE,decide_eq_true_eq]at hc
 rw [wr8 O0 O0,jX (x:=(10:Int)*(v:Int)) O0,jX (x:=(c.toNat:Int)-48) O0,jX O0]
 omega
theorem Ub {n:Nat} (p:Bs) (hl:p.length≤10):∀(k i v:Nat),i≤p.length→p.length-i<k→v<10^i→(p.take i).all bU=true →
  kR n p k (v:Int) (i:Int)=some (if(p.drop i).all bU=true then .nxt (((p.drop i).foldl (fun n c=>10*n+(c.toNat-48)) v:Nat):Int)else .ret (-1))
 |0,i,v,_,h,_,_=>O0
 | k + 1,i,v,hi,hk,hv,hd=>by
  rw [kR]
  by_cases hc:i<p.length
  ·rw [if_pos O3,gP hc]
   simp only [Option.bind_some]
   have hdr:p.drop i=p[i]::p.drop (i+1):=List.drop_eq_getElem_cons hc
   have hv10:v<10000000000:=Nat.lt_of_lt_of_le hv (Nat.le_trans (Nat.pow_le_pow_right O0 (show i≤10 by omega)) O1)
   rw [hdr,List.all_cons,List.foldl_cons]
   by_cases hdg:bU p[i]=true
   ·have h2:=hdg
    simp only [bU,iE,decide_eq_true_eq]at h2
    rw [if_neg O3]
    simp only [Option.bind_some]
    rw [if_neg O3,VV hdg O0,w1 O0,hdg,Bool.true_and]
    refine Ub p hl k (i+1) _ O0 O0 ?_ ?_
    ·rw [Nat.pow_succ]; omega
    ·rw [List.take_succ_eq_append_getElem hc,List.all_append,hd]; simp [hdg]
   ·have h2:p[i].toNat<48∨57<p[i].toNat:=by
     simp only [bU,iE,decide_eq_true_eq]at hdg; omega
    have:(if(decide (((p[i]).toNat:Int)<48))=true then some true else some (decide (((p[i]).toNat:Int)>57)))=some true:=by
     by_cases h:p[i].toNat<48
     ·rw [if_pos O3]
     ·rw [if_neg O3]; simp; omega
    rw [this]
    simp only [Bool.not_eq_true]at hdg
    simp [hdg]
  ·have:i=p.length:=O0
   subst this
   rw [if_neg O2]
   simp
theorem Dy {n:Nat} {p:Bs} (hn:20≤n) (hp:p.length≤1000000000):pH n p=some (if q9 p=true then((dval p:Nat):Int)else -1):=by
 unfold pH
 match p,hp with
 | [],_=>simp [q9]
 | c :: r,hp=>
  rw [if_neg O2]
  by_cases h10:(c::r).length≤10
  ·rw [if_neg (by simp; simp at h10; omega)]
   have h0:xD (c::r) 0=some (c.toNat:Int):=by simp [xD]
   rw [h0]
   simp only [Option.bind_some]
   by_cases hz:c=48∧1<(c::r).length
   ·have:q9 (c::r)=false:=Zy fun h=>h.2.2.1 ⟨hz.2,by rw [hz.1]; rfl⟩
    rw [if_pos (by rw [hz.1]; rfl),this]
    have:=hz.2
    simp at this
    have h3:decide (((c::r).length:Int)>1)=true:=O3
    rw [h3]; rfl
   ·have hb:(if((c.toNat:Int)==48)=true then some (decide (((c::r).length:Int)>1))else some false)=some false:=by
     by_cases h:c=48
     ·rw [if_pos (by rw [h]; rfl)]
      have:¬1<(c::r).length:=fun h'=>hz ⟨h,h'⟩
      have h3:decide (((c::r).length:Int)>1)=false:=by rw [decide_eq_false_iff_not]; omega
      rw [h3]
     ·rw [if_neg]
      simp
      intro h'
      have:(48:UInt8).toNat=48:=rfl
      exact h (UInt8.toNat_inj.1 O0)
    rw [hb]
    simp only [Option.bind_some,Bool.false_eq_true,if_false]
    have:=Ub (n:=n) (c::r) h10 n 0 0 O0 O0 O2 O2
    rw [show((0:Nat):Int)=0 from rfl,List.drop_zero]at this
    rw [this]
    by_cases ha:(c::r).all bU=true
    ·rw [if_pos ha]
     simp only [yM]
     by_cases hm:dval (c::r)≤2147483647
     ·have hok:q9 (c::r)=true:=(pE _).2 ⟨O2,h10,fun h=>hz ⟨by simpa using h.2,h.1⟩,ha,hm⟩
      rw [hok,if_pos rfl]
      rw [if_neg]
      ·rfl
      ·show ¬decide (((dval (c::r):Nat):Int)>2147483647)=true
       simp; omega
     ·have hok:q9 (c::r)=false:=Zy fun h=>hm h.2.2.2.2
      rw [hok,if_pos]
      ·rfl
      ·show decide (((dval (c::r):Nat):Int)>2147483647)=true
       simp; omega
    ·have hok:q9 (c::r)=false:=Zy fun h=>ha h.2.2.2.1
     rw [if_neg ha,hok]; rfl
  ·have hok:q9 (c::r)=false:=Zy fun h=>h10 h.2.1
   rw [if_pos (by simp; simp at h10; omega),hok]; rfl
theorem XY (l:List Nat):(dh l).length=l.length:=by simp [dh]
theorem W7 {n:Nat} (hn:20≤n) (ps:List Bs) (hp:∀p∈ps,p.length≤1000000000) (hl:ps.length≤1000000000):∀(k:Nat) (pre suf:List Bs),ps=pre++suf→suf.length<k→pre.all q9=true →
  j3 n ps k (dh (pre.map dval)) (pre.length:Int)=some (if suf.all q9=true then .nxt (dh (ps.map dval))else .ret none)
 |0,_,_,_,h,_=>O0
 | k+1,pre,[],hps,hk,ha=>by
  simp at hps; subst hps
  rw [j3,if_neg O2]; simp
 | k+1,pre,p::suf,hps,hk,ha=>by
  have hlen:ps.length=pre.length+(suf.length+1):=by rw [hps]; simp
  have hx:xe ps (pre.length:Int)=some p:=by
   rw [un O0]; congr 1; simp [hps]
  rw [j3,if_pos O3,hx]
  simp only [Option.bind_some]
  rw [Dy hn (hp p (by rw [hps]; simp))]
  simp only [Option.bind_some]
  by_cases ho:q9 p=true
  ·rw [if_pos ho,if_neg O2,j2 (by simp [XY]; omega)]
   simp only [Option.bind_some]
   have e:(p::suf).all q9=suf.all q9:=by simp [ho]
   rw [w1 O0,e]
   have ih:=W7 hn ps hp hl k (pre ++ [p]) suf (by rw [hps]; simp) (by simp at hk; omega) (by simp [ha,ho])
   rw [←ih]
   simp [dh]
  ·have e:(p::suf).all q9=false:=by simp [ho]
   rw [if_neg ho,e]
   simp
theorem kw {c:UInt8} {s p:Bs} (h:p∈splitB c s):p.length≤s.length:=by
 induction s generalizing p with
 |nil=>simp [splitB]at h; subst h; simp
 | cons x r ih=>
  simp only [splitB]at h
  split at h
  ·rcases List.mem_cons.1 h with h|h
   ·subst h; simp
   ·have:=ih h; simp; omega
  ·split at h
   ·rename_i q ps hq
    rcases List.mem_cons.1 h with h|h
    ·subst h
     have:=ih (p:=q) (by rw [hq]; simp)
     simp; omega
    ·have:=ih (p:=p) (by rw [hq]; simp [h])
     simp; omega
   ·simp at h; subst h; simp
theorem B3 {n:Nat} {s:Bs} (hs:s.length≤100000000) (hn:s.length+20≤n):d6 n s=some ((Ya s).map dh):=by
 unfold d6 Ya
 rw [ga O0 O0]
 simp only [Option.bind_some]
 have hlen:(splitB 46 s).length≤s.length+1:=by
  rw [j7]; have:= @List.count_le_length _ _ (46:UInt8) s; omega
 by_cases h2:2≤(splitB 46 s).length∧(splitB 46 s).length≤12
 ·have :(if(decide (((splitB 46 s).length:Int)<2))=true then some true else some (decide (((splitB 46 s).length:Int)>12)))=some false:=by
   rw [if_neg O3,decide_eq_false_iff_not.2 O0]
  rw [this]
  simp only [Option.bind_some,Bool.false_eq_true,if_false]
  have hl:=W7 (n:=n) O0 (splitB 46 s) (fun p hp=>by have:=kw hp; omega) O0 n [] (splitB 46 s) rfl O0 rfl
  rw [show(dh (List.map dval ([]:List Bs)))= []from rfl,show((([]:List Bs).length:Nat):Int)=0 from rfl]at hl
  rw [hl]
  by_cases ha:(splitB 46 s).all q9=true
  ·rw [if_pos ha]
   simp only [yM]
   match hd:(splitB 46 s).map dval with
   | []=>have:=congrArg List.length hd; rw [List.length_map,List.length_nil]at this; omega
   | [x]=>have:=congrArg List.length hd; rw [List.length_map,List.length_singleton]at this; omega
   | a ::b::l=>
    have h0:xe (dh (a::b::l)) 0=some (a:Int):=by simp [xe,dh]
    have h1:xe (dh (a::b::l)) 1=some (b:Int):=by simp [xe,dh]
    rw [h0,h1]
    simp only [Option.bind_some]
    have hr:dY n (a:Int) (b:Int)=some (WU (a::b::l)):=by
     unfold dY WU
     have e2:((a:Int)==2)=decide (a=2):=by
      by_cases h:a=2
      ·simp [h]
      ·simp [h]; omega
     rw [e2]
     by_cases c1:a≤1
     ·by_cases c2:b≤39
      ·rw [if_pos O3,if_pos O3]; simp [c1,c2]
      ·rw [if_pos O3,if_neg O3]; simp [c2]
     ·rw [if_neg O3]; simp [c1]
    rw [hr]
    simp only [Option.bind_some]
    cases hro:WU (a::b::l)with
    |true=>simp [h2,ha,lne,dh]
    |false=>simp
  ·rw [if_neg ha,if_neg (fun h=>ha h.2.2.1)]; rfl
 ·have:(if(decide (((splitB 46 s).length:Int)<2))=true then some true else some (decide (((splitB 46 s).length:Int)>12)))=some true:=by
   by_cases h:(splitB 46 s).length<2
   ·rw [if_pos O3]
   ·rw [if_neg O3,decide_eq_true O0]
  rw [this,if_neg (fun h=>h2 ⟨h.1,h.2.1⟩)]; rfl
theorem UC {n:Nat} {s:Bs} (hs:s.length≤100000000) (hn:s.length+20≤n):bH n s=some (Ya s).isSome:=by
 unfold bH
 rw [B3 hs hn]
 cases h:Ya s with
 |none=>rfl
 | some l=>
  have:l≠ []:=by
   unfold Ya at h
   split at h
   ·rename_i hc; injection h with h; subst h
    intro h'
    have:=congrArg List.length h'
    rw [List.length_map,List.length_nil]at this
    omega
   ·cases h
  cases l with
  |nil=>exact absurd rfl this
  |cons a r=>rfl
theorem Jw {n:Nat} (p:Bs) (hl:p.length≤10) (hd:p.all bU=true):∀(k i v:Nat),i≤p.length→p.length-i<k→v<10^i →
  wo n p k (v:Int) (i:Int)=some (((p.drop i).foldl (fun n c=>10*n+(c.toNat-48)) v:Nat):Int)
 |0,i,v,_,h,_=>O0
 | k+1,i,v,hi,hk,hv=>by
  rw [wo]
  by_cases hc:i<p.length
  ·rw [if_pos O3,gP hc]
   simp only [Option.bind_some]
   have hdr:p.drop i=p[i]::p.drop (i+1):=List.drop_eq_getElem_cons hc
   have hv10:v<10000000000:=Nat.lt_of_lt_of_le hv (Nat.le_trans (Nat.pow_le_pow_right O0 (show i≤10 by omega)) O1)
   have hdg:bU p[i]=true:=List.all_eq_true.1 hd _ (List.getElem_mem hc)
   have h2:=hdg
   simp only [bU,iE,decide_eq_true_eq]at h2
   rw [hdr,List.foldl_cons,VV hdg O0,w1 O0]
   refine Jw p hl hd k (i+1) _ O0 O0 ?_
   rw [Nat.pow_succ]; omega
  ·have:i=p.length:=O0
   subst this
   rw [if_neg O2]
   simp
def U2 (out:List Nat):List Bs→Ctl (List Int×Bool) (List Int)
 | []=> .nxt (dh out)
 |p::ps=>if q9 p=true∧out.length≠12 then U2 (out ++ [dval p]) ps else .ret ([],false)
theorem Ku (a b:Nat):((a:Int)==(b:Int))=decide (a=b):=by
 by_cases h:a=b
 ·subst h; simp
 ·simp [h]; omega
theorem DX {c d:UInt8}:((c.toNat:Int)==(d.toNat:Int))=decide (c=d):=by
 rw [Ku]
 by_cases h:c=d
 ·subst h; simp
 ·rw [decide_eq_false h,decide_eq_false]
  exact fun h'=>h (UInt8.toNat_inj.1 h')
theorem Bz (p:Bs) (m:Nat):(if((List.length p:Int)==0)=true then(some true)else(if(decide ((List.length p:Int)>10))=true then(some true)else(if(decide ((List.length p:Int)>1))=true then((xD p 0).bind fun x578=>
  if(x578==48)=true then(some true)else(some ((m:Int)==12)))else(some ((m:Int)==12)))))=some (decide (p.length=0∨10<p.length∨(1<p.length∧p.head? =some 48)∨m=12)):=by
 rw [show(12:Int)=((12:Nat):Int)from rfl,Ku]
 match p with
 | []=>simp
 | [c]=>simp
 | c ::d::r=>
  rw [if_neg O3]
  by_cases h10:10<(c::d::r).length
  ·rw [if_pos O4,decide_eq_true (.inr (.inl h10))]
  ·have h0:xD (c::d::r) 0=some (c.toNat:Int):=by simp [xD]
   rw [if_neg O4,if_pos O3,h0]
   simp only [Option.bind_some]
   rw [show((c.toNat:Int)==48)=decide (c=48)from DX (d:=48)]
   by_cases hc:c=48
   ·rw [if_pos (by simp [hc]),decide_eq_true (.inr (.inr (.inl ⟨O2,by simp [hc]⟩)))]
   ·rw [if_neg (by simp [hc])]
    congr 1
    by_cases hm:m=12
    ·rw [decide_eq_true hm,decide_eq_true (.inr (.inr (.inr hm)))]
    ·rw [decide_eq_false hm,decide_eq_false]
     rintro(h|h|h|h)
     ·simp at h
     ·exact h10 h
     ·exact hc (by simpa using h.2)
     ·exact hm h
theorem W4 {n:Nat} (hn:20≤n) (p:Bs) (out:List Nat) (rest:List Bs) (j:Int) (go:List Int→Int→Option (Ctl (List Int×Bool) (List Int))) (hd:p.all bU=true) (ho:out.length≤100000000)
  (hnext:q9 p=true→go (dh (out ++ [dval p])) j=some (U2 (out ++ [dval p]) rest)):
  yM ((if((List.length p:Int)==0)=true then(some true)else(if(decide ((List.length p:Int)>10))=true then(some true)else(if(decide ((List.length p:Int)>1))=true then((xD p 0).bind fun x578=>
      if(x578==48)=true then(some true)else(some ((List.length (dh out):Int)==12)))else(some ((List.length (dh out):Int)==12))))).bind fun y580=>
     if y580=true then(some (.ret (([]:(List Int)),false)))else((wo n p n 0 0).bind fun y590=>
     if(decide (y590>2147483647))=true then(some (.ret (([]:(List Int)),false)))else((jO 8 (dh out) ([y590]:List Int)).bind fun x600=>
     some (.nxt (x600,j))))) (fun r=>some (.ret r)) (fun y567=>go y567.1 y567.2)=some (U2 out (p::rest)):=by
 rw [XY,Bz,U2]
 simp only [Option.bind_some]
 by_cases hb:p.length=0∨10<p.length∨(1<p.length∧p.head? =some 48)∨out.length=12
 ·rw [decide_eq_true hb,if_pos rfl,if_neg]
  ·rfl
  ·intro h
   obtain⟨k1,k2,k3,k4,k5⟩:=(pE p).1 h.1
   rcases hb with h'|h'|h'|h'
   ·exact k1 (List.eq_nil_of_length_eq_zero h')
   ·omega
   ·exact k3 h'
   ·exact h.2 h'
 ·simp only [not_or]at hb
  obtain⟨b1,b2,b3,b4⟩:=hb
  rw [decide_eq_false (by simp only [not_or]; exact⟨b1,b2,b3,b4⟩),if_neg O2]
  have hval:=Jw (n:=n) p O0 hd n 0 0 O0 O0 O2
  rw [show((0:Nat):Int)=0 from rfl,List.drop_zero]at hval
  rw [hval]
  simp only [Option.bind_some]
  by_cases hm:dval p≤2147483647
  ·have hok:q9 p=true:=(pE p).2 ⟨fun h=>b1 (by rw [h]; rfl),O0,b3,hd,hm⟩
   rw [if_neg (by show ¬decide (((dval p:Nat):Int)>2147483647)=true; simp; omega),if_pos ⟨hok,b4⟩,j2 (by simp [XY]; omega)]
   simp only [Option.bind_some,yM]
   have e:dh out ++ [((dval p:Nat):Int)]=dh (out ++ [dval p]):=by simp [dh]
   have h3:=hnext hok
   rw [←e]at h3
   exact h3
  ·rw [if_pos (by show decide (((dval p:Nat):Int)>2147483647)=true; simp; omega),if_neg (fun h=>hm ((pE p).1 h.1).2.2.2.2)]; rfl
theorem VG {n:Nat} (hn:20≤n) (s:Bs) (hs:s.length≤100000000):∀(k at_ i:Nat) (out:List Nat),at_≤i→i≤s.length→s.length-i+1<k→((s.take i).drop at_).all bU=true→out.length+(s.length-i)≤100000000 →
  xf n s k (dh out) (at_:Int) (i:Int)=some (U2 out (splitB 46 (s.drop at_)))
 |0,_,_,_,_,_,h,_,_=>O0
 | k + 1,at_,i,out,ha,hi,hk,hd,ho=>by
  have hcur:s.drop at_=(s.take i).drop at_++s.drop i:=by
   conv=>lhs; rw [←List.take_append_drop i s]
   rw [List.drop_append_of_le_length O3]
  have hno:(46:UInt8)∉(s.take i).drop at_:=fun h=>by
   have:=List.all_eq_true.1 hd _ h
   exact absurd this O1
  rw [xf,if_pos O3]
  by_cases hc:i<s.length
  ·have hdr:s.drop i=s[i]::s.drop (i+1):=List.drop_eq_getElem_cons hc
   rw [if_pos O3,gP hc]
   simp only [Option.bind_some]
   by_cases h46:s[i]=46
   ·have e1:(((s[i]).toNat:Int) !=46)=false:=by rw [h46]; rfl
    rw [e1,if_neg O2,qN ha hi]
    have hsp:splitB 46 (s.drop at_)=(s.take i).drop at_::splitB 46 (s.drop (i+1)):=by
     rw [hcur,hdr,h46]; exact(u1 hno).2 _
    rw [hsp]
    have:=W4 (n:=n) hn ((s.take i).drop at_) out (splitB 46 (s.drop (i+1))) ((i+1:Nat):Int) (fun o a=>xf n s k o a ((i+1:Nat):Int)) hd O0
     (fun hok=>VG hn s hs k (i+1) (i+1) (out ++ [dval ((s.take i).drop at_)]) (Nat.le_refl _) O0 O0 O2 O3)
    rw [w1 O0]
    exact this
   ·have e1:(((s[i]).toNat:Int) !=46)=true:=by
     have:(((s[i]).toNat:Int)==46)=decide (s[i]=46):=DX (d:=46)
     simp only [bne,this]; simp [h46]
    rw [e1,if_pos rfl]
    by_cases hdg:bU s[i]=true
    ·have h2:=hdg
     simp only [bU,iE,decide_eq_true_eq]at h2
     rw [if_neg O3]
     simp only [Option.bind_some]
     rw [if_neg O3,w1 O0]
     simp only [yM]
     refine VG hn s hs k at_ (i+1) out O0 O0 O0 ?_ O0
     rw [List.take_succ_eq_append_getElem hc,List.drop_append_of_le_length O3,List.all_append,hd]; simp [hdg]
    ·have h2:s[i].toNat<48∨57<s[i].toNat:=by
      simp only [bU,iE,decide_eq_true_eq]at hdg; omega
     have e2:(if(decide (((s[i]).toNat:Int)<48))=true then some true else some (decide (((s[i]).toNat:Int)>57)))=some true:=by
      by_cases h:s[i].toNat<48
      ·rw [if_pos O3]
      ·rw [if_neg O3]; simp; omega
     rw [e2]
     obtain⟨q,ps,hq⟩:=Qd (r:=s.drop (i+1)) hno h46
     rw [hcur,hdr,hq,U2,if_neg]
     ·rfl
     ·intro h
      have:=((pE _).1 h.1).2.2.2.1
      rw [List.all_append,List.all_cons]at this
      simp [hdg]at this
  ·have hie:i=s.length:=O0
   rw [if_neg O3]
   simp only [Option.bind_some,Bool.false_eq_true,if_false]
   have hsp:splitB 46 (s.drop at_)=(s.take i).drop at_:: []:=by
    rw [hcur,hie,List.drop_length,List.append_nil]; exact(u1 (by rw [←hie]; exact hno)).1
   rw [hsp,qN ha hi,w1 O0]
   refine W4 (n:=n) hn ((s.take i).drop at_) out [] ((i+1:Nat):Int) (fun o a=>xf n s k o a ((i+1:Nat):Int)) hd O0 (fun hok=> ?_)
   match k,hk with
   | k+1,hk=>
    show xf n s (k+1) _ _ _=_
    rw [xf,if_neg O3]; rfl
theorem JW:∀(ps:List Bs) (out:List Nat),out.length≤12→U2 out ps=if ps.all q9=true∧out.length+ps.length≤12 then .nxt (dh (out++ps.map dval))else .ret ([],false)
 | [],out,h=>by rw [U2,if_pos ⟨rfl,by simpa using h⟩]; simp
 | p ::ps,out,h=>by
  rw [U2]
  by_cases hp:q9 p=true
  ·by_cases h12:out.length=12
   ·rw [if_neg (fun h'=>h'.2 h12),if_neg (fun h'=>by have:=h'.2; simp at this; omega)]
   ·rw [if_pos ⟨hp,h12⟩,JW ps _ O3]
    have e:((p::ps).all q9=true∧out.length+(p::ps).length≤12)↔(ps.all q9=true∧(out ++ [dval p]).length+ps.length≤12):=by
     rw [List.all_cons,hp,Bool.true_and]; simp; omega
    simp only [e]; simp
  ·rw [if_neg (fun h'=>hp h'.1),if_neg (fun h'=>hp (by have:=h'.1; rw [List.all_cons,iE]at this; exact this.1))]
theorem Gp {n:Nat} {s:Bs} (hs:s.length≤100000000) (hn:s.length+20≤n):uW n s=some (match Ya s with|some l=>(dh l,true)|none=>([],false)):=by
 unfold uW Ya
 have h1:=VG (n:=n) O0 s hs n 0 0 [] O0 O0 O0 O2 O3
 rw [show((0:Nat):Int)=0 from rfl,List.drop_zero,show dh []= []from rfl,JW _ _ O2]at h1
 rw [h1]
 simp only [List.length_nil,Nat.zero_add,List.nil_append]
 by_cases ha:(splitB 46 s).all q9=true∧(splitB 46 s).length≤12
 ·rw [if_pos ha]
  simp only [yM,XY,List.length_map]
  by_cases h2:2≤(splitB 46 s).length
  ·rw [if_neg O3]
   match hd:(splitB 46 s).map dval with
   | []=>have:=congrArg List.length hd; rw [List.length_map,List.length_nil]at this; omega
   | [x]=>have:=congrArg List.length hd; rw [List.length_map,List.length_singleton]at this; omega
   | a ::b::l=>
    have k0:xe (dh (a::b::l)) 0=some (a:Int):=by simp [xe,dh]
    have k1:xe (dh (a::b::l)) 1=some (b:Int):=by simp [xe,dh]
    rw [k0,k1]
    simp only [Option.bind_some]
    have hr:(if(decide ((a:Int)>2))=true then some true else if(decide ((a:Int)<2))=true then some (decide ((b:Int)>39))else some false)=some (!WU (a::b::l)):=by
     show _=some (!(decide (a≤1)&&decide (b≤39)||decide (a=2)))
     by_cases c1:2<a
     ·rw [if_pos O3,decide_eq_false (show ¬a≤1 by omega),decide_eq_false (show ¬a=2 by omega)]; rfl
     ·rw [if_neg O3]
      by_cases c2:a<2
      ·rw [if_pos O3,decide_eq_true (show a≤1 by omega),decide_eq_false (show ¬a=2 by omega)]
       by_cases c3:b≤39
       ·rw [decide_eq_true c3,decide_eq_false O0]; rfl
       ·rw [decide_eq_false c3,decide_eq_true O0]; rfl
      ·rw [if_neg O3,decide_eq_true (show a=2 by omega)]; simp
    rw [hr]
    simp only [Option.bind_some]
    cases hro:WU (a::b::l)with
    |true=>rw [if_neg O2,if_pos ⟨h2,ha.2,ha.1,rfl⟩]
    |false=>rw [if_pos O2,if_neg (fun h=>by have:=h.2.2.2; simp at this)]
  ·rw [if_pos O3,if_neg (fun h=>h2 h.1)]; rfl
 ·rw [if_neg ha,if_neg (fun h=>ha ⟨h.2.2.1,h.2.1⟩)]; rfl
theorem Wd {n:Nat} {s:Bs} (hs:s.length≤100000000) (hn:s.length+20≤n):yJ n s=some (Ya s).isSome:=by
 unfold yJ
 rw [Gp hs hn]
 cases Ya s<;>rfl
def hi (v:Nat):Nat→List Nat
 |0=> []
 |g+1=>(v/128^(g+1)%128+128)::hi v g
def lo (v:Nat):Nat→List Nat
 |0=> []
 |g+1=>(v/128^(g+1)%128)::lo v g
theorem Bc (q:Bs) (c:UInt8):dval (q ++ [c])=10*dval q+(c.toNat-48):=by simp [dval]
theorem VB (c:UInt8):∀s:Bs,Lib.join (splitB c s) [c]=s
 | []=>Lib.join_one _ _
 | x ::r=>by
  have ih:=VB c r
  rw [splitB]
  split
  ·rename_i h
   subst h
   match hs:splitB x r,ZT x r,ih with
   | p::ps,_,ih=>
    rw [Lib.join_cons]at ih ⊢
    rw [List.nil_append]
    show [x]++p++Lib.joinTail [x] ps=_
    rw [List.append_assoc,ih]; rfl
  ·match hs:splitB c r,ZT c r,ih with
   | p::ps,_,ih=>
    rw [Lib.join_cons]at ih
    show Lib.join ((x::p)::ps) [c]=_
    rw [Lib.join_cons,List.cons_append,ih]
theorem Dt {u:Nat} (h:u<18446744073709551616):(Lib.decDigits u).length≤20:=by
 rw [Lib.decDigits_length]; exact Lib.nDigits_le20 u h
theorem Bb {n:Nat}:∀(k v:Nat),v<9000000000000000000→v<10^k→1≤k→wE n k (v:Int)=some (Lib.decDigits v)
 |0,_,_,_,h=>O0
 | k + 1,v,hv,hk,_=>by
  rw [wE]
  by_cases h:v<10
  ·rw [if_pos O4,Lib.decDigits_one h]
   rw [jX O0,show(48:Int)+(v:Int)=((48+v:Nat):Int)by omega,wr8 O0 O0]
   show some [UInt8.ofNat ((48+v:Nat):Int).toNat]=_
   rw [Int.toNat_natCast]
  ·rw [if_neg O4,Lib.decDigits,dif_neg h]
   have e1:Int.tdiv (v:Int) 10=((v/10:Nat):Int):=by rw [show(10:Int)=((10:Nat):Int)from rfl]; exact(Int.ofNat_tdiv v 10).symm
   have e2:Int.tmod (v:Int) 10=((v%10:Nat):Int):=by rw [show(10:Int)=((10:Nat):Int)from rfl]; exact(Int.ofNat_tmod v 10).symm
   have hk1:1≤k:=by
    match k,hk with
    |0,hk=>simp at hk; omega
    |k+1,_=>omega
   rw [e1,e2,jX (x:=((v/10:Nat):Int)) O0,Bb k (v/10) O0 (by rw [Nat.pow_succ]at hk; omega) hk1,Option.bind_some]
   rw [jX O0,show(48:Int)+((v%10:Nat):Int)=((48+v%10:Nat):Int)by omega,wr8 O0 O0]
   have hl:=Dt (u:=v/10) O0
   rw [show b2s ([((48+v%10:Nat):Int)]:List Int)= [UInt8.ofNat (48+v%10)]by show [UInt8.ofNat ((48+v%10:Nat):Int).toNat]=_; rw [Int.toNat_natCast]]
   rw [qV (by rw [List.length_singleton]; omega)]; rfl
theorem Bv {n v:Nat} (hn:20≤n) (hv:v<9000000000000000000):wE n n (v:Int)=some (Lib.decDigits v):=
 Bb n v hv (Nat.lt_of_lt_of_le (show v<10^20 by omega) (Nat.pow_le_pow_right O0 hn)) O0
def gb (s:Bs) (i:Nat):Nat:=(s.getD i 0).toNat
theorem gz (s:Bs) (i:Nat):gb s i<256:=Di _
theorem Vm {s:Bs} {i:Nat} (h:i<s.length):xD s (i:Int)=some (gb s i:Int):=by
 rw [gP h]; simp [gb,h]
def uN (n b0 b1 b2 b3:Nat):Option Nat:=
 if b0<32∨b0=127 then none
 else if b0<128 then some 1
 else if b0/32=6 then(if 1<n∧b1/64=2∧128≤b0%32*64+b1%64 then some 2 else none)
 else if b0/16=14 then(if 2<n∧b1/64=2∧b2/64=2∧2048≤b0%16*4096+b1%64*64+b2%64∧(b0%16*4096+b1%64*64+b2%64<55296∨57344≤b0%16*4096+b1%64*64+b2%64)then some 3 else none)
 else if b0/8=30 then(if 3<n∧b1/64=2∧b2/64=2∧b3/64=2∧65536≤b0%8*262144+b1%64*4096+b2%64*64+b3%64∧b0%8*262144+b1%64*4096+b2%64*64+b3%64≤1114111 then some 4 else none)
 else none
def uAt (s:Bs) (i:Nat):Option Nat:=uN (s.length-i) (gb s i) (gb s (i+1)) (gb s (i+2)) (gb s (i+3))
theorem Q1 {s:Bs} {i d:Nat} (hi:i<s.length) (h:uAt s i=some d):0<d∧i+d≤s.length:=by
 unfold uAt uN at h
 repeat' split at h
 all_goals first|(simp at h; done)|(simp at h; omega)
def YA (s:Bs):Nat→Nat→Bool
 |0,_=>true
 |k+1,i=>if i<s.length then(match uAt s i with|none=>false|some d=>YA s k (i+d))else true
theorem QN {b:Nat} (h:b<256):((wrap .u8 (Int.tdiv (b:Int) 64)) !=2)= !decide (b/64=2):=by
 have:=List.all_eq_true.1 (show((List.range 256).all fun b:Nat=>((wrap .u8 (Int.tdiv (b:Int) 64)) !=2)== !decide (b/64=2))=true by kernel_rfl) b (O7 h)
 simpa using this
theorem Kp {b:Nat} (h:b<256):wrap .i64 (Int.tmod (b:Int) 64)=((b%64:Nat):Int):=by
 have:=List.all_eq_true.1 (show((List.range 256).all fun b:Nat=>wrap .i64 (Int.tmod (b:Int) 64)==((b%64:Nat):Int))=true by kernel_rfl) b (O7 h)
 simpa using this
theorem P4 {b:Nat} (h:b<256):va .i64 (wrap .i64 (b:Int)) (wrap .i64 ((wrap .i64 ((1:Int)*32))-1))=((b%32:Nat):Int):=by
 have:=List.all_eq_true.1 (show((List.range 256).all fun b:Nat=>va .i64 (wrap .i64 (b:Int)) (wrap .i64 ((wrap .i64 ((1:Int)*32))-1))==((b%32:Nat):Int))=true by kernel_rfl) b (O7 h)
 simpa using this
theorem eV {b:Nat} (h:b<256):va .i64 (wrap .i64 (b:Int)) (wrap .i64 ((wrap .i64 ((1:Int)*16))-1))=((b%16:Nat):Int):=by
 have:=List.all_eq_true.1 (show((List.range 256).all fun b:Nat=>va .i64 (wrap .i64 (b:Int)) (wrap .i64 ((wrap .i64 ((1:Int)*16))-1))==((b%16:Nat):Int))=true by kernel_rfl) b (O7 h)
 simpa using this
theorem f7 {b:Nat} (h:b<256):va .i64 (wrap .i64 (b:Int)) (wrap .i64 ((wrap .i64 ((1:Int)*8))-1))=((b%8:Nat):Int):=by
 have:=List.all_eq_true.1 (show((List.range 256).all fun b:Nat=>va .i64 (wrap .i64 (b:Int)) (wrap .i64 ((wrap .i64 ((1:Int)*8))-1))==((b%8:Nat):Int))=true by kernel_rfl) b (O7 h)
 simpa using this
theorem u2s {n:Nat} {a:Bs} {i j v k:Nat} (hi:i+j<a.length) (hl:a.length≤100000000) (hj:j≤1) (hv:v<1000000000):
  xr n a i (k+1) v j=if gb a (i+j)/64=2 then xr n a i k ((v*64+gb a (i+j)%64:Nat):Int) ((j+1:Nat):Int)else some (.ret false):=by
 rw [xr,if_pos O4,show wrap .i64 ((i:Int)+(j:Int))=((i+j:Nat):Int)by rw [jX O0]; omega,Vm hi]
 simp only [Option.bind_some]
 have hg:=gz a (i+j)
 rw [QN (gz _ _),Kp (gz _ _),w1 O0]
 by_cases hc:gb a (i+j)/64=2
 ·simp only [hc,decide_true,Bool.not_true,Bool.false_eq_true,if_false,if_true]
  rw [jX (x:=64*(v:Int)) O0,jX O0]
  congr 1; omega
 ·simp [hc]
theorem u3s {n:Nat} {a:Bs} {i j v k:Nat} (hi:i+j<a.length) (hl:a.length≤100000000) (hj:j≤2) (hv:v<1000000000):
  xu n a i (k+1) v j=if gb a (i+j)/64=2 then xu n a i k ((v*64+gb a (i+j)%64:Nat):Int) ((j+1:Nat):Int)else some (.ret false):=by
 rw [xu,if_pos O4,show wrap .i64 ((i:Int)+(j:Int))=((i+j:Nat):Int)by rw [jX O0]; omega,Vm hi]
 simp only [Option.bind_some]
 have hg:=gz a (i+j)
 rw [QN (gz _ _),Kp (gz _ _),w1 O0]
 by_cases hc:gb a (i+j)/64=2
 ·simp only [hc,decide_true,Bool.not_true,Bool.false_eq_true,if_false,if_true]
  rw [jX (x:=64*(v:Int)) O0,jX O0]
  congr 1; omega
 ·simp [hc]
theorem u4s {n:Nat} {a:Bs} {i j v k:Nat} (hi:i+j<a.length) (hl:a.length≤100000000) (hj:j≤3) (hv:v<1000000000):
  xw n a i (k+1) v j=if gb a (i+j)/64=2 then xw n a i k ((v*64+gb a (i+j)%64:Nat):Int) ((j+1:Nat):Int)else some (.ret false):=by
 rw [xw,if_pos O4,show wrap .i64 ((i:Int)+(j:Int))=((i+j:Nat):Int)by rw [jX O0]; omega,Vm hi]
 simp only [Option.bind_some]
 have hg:=gz a (i+j)
 rw [QN (gz _ _),Kp (gz _ _),w1 O0]
 by_cases hc:gb a (i+j)/64=2
 ·simp only [hc,decide_true,Bool.not_true,Bool.false_eq_true,if_false,if_true]
  rw [jX (x:=64*(v:Int)) O0,jX O0]
  congr 1; omega
 ·simp [hc]
theorem u2 {n:Nat} {a:Bs} {i v k:Nat} (hi:i+1<a.length) (hl:a.length≤100000000) (hv:v<64):
  xr n a i (k+5) v 1=if gb a (i+1)/64=2 then some (.nxt ((v*64+gb a (i+1)%64:Nat):Int))else some (.ret false):=by
 have:=u2s (n:=n) (a:=a) (i:=i) (j:=1) (v:=v) (k:=k+4) hi hl O0 O0
 rw [show((1:Nat):Int)=1 from rfl]at this
 rw [show k+5=k+4+1 from rfl,this,xr]
 simp
theorem u3 {n:Nat} {a:Bs} {i v k:Nat} (hi:i+2<a.length) (hl:a.length≤100000000) (hv:v<64):
  xu n a i (k+5) v 1=if gb a (i+1)/64=2 then(if gb a (i+2)/64=2 then some (.nxt (((v*64+gb a (i+1)%64)*64+gb a (i+2)%64:Nat):Int))else some (.ret false))else some (.ret false):=by
 have g1:=gz a (i+1)
 have t1:=u3s (n:=n) (a:=a) (i:=i) (j:=1) (v:=v) (k:=k+4) O0 hl O0 O0
 have t2:=u3s (n:=n) (a:=a) (i:=i) (j:=2) (v:=v*64+gb a (i+1)%64) (k:=k+3) O0 hl O0 O0
 rw [show((1:Nat):Int)=1 from rfl]at t1
 rw [show k+5=k+4+1 from rfl,t1,show k+4=k+3+1 from rfl,t2,xu]
 simp
theorem u4 {n:Nat} {a:Bs} {i v k:Nat} (hi:i+3<a.length) (hl:a.length≤100000000) (hv:v<64):
  xw n a i (k+5) v 1=if gb a (i+1)/64=2 then(if gb a (i+2)/64=2 then(if gb a (i+3)/64=2 then some (.nxt ((((v*64+gb a (i+1)%64)*64+gb a (i+2)%64)*64+gb a (i+3)%64:Nat):Int))else some (.ret false))else some (.ret false))else some (.ret false):=by
 have g1:=gz a (i+1)
 have g2:=gz a (i+2)
 have t1:=u4s (n:=n) (a:=a) (i:=i) (j:=1) (v:=v) (k:=k+4) O0 hl O0 O0
 have t2:=u4s (n:=n) (a:=a) (i:=i) (j:=2) (v:=v*64+gb a (i+1)%64) (k:=k+3) O0 hl O0 O0
 have t3:=u4s (n:=n) (a:=a) (i:=i) (j:=3) (v:=(v*64+gb a (i+1)%64)*64+gb a (i+2)%64) (k:=k+2) O0 hl O0 O0
 rw [show((1:Nat):Int)=1 from rfl]at t1
 rw [show k+5=k+4+1 from rfl,t1,show k+4=k+3+1 from rfl,t2,show k+3=k+2+1 from rfl,t3,xw]
 simp
theorem dro (b b':Bool):(if b=true then some true else some b')=some (b||b'):=by cases b<;>rfl
theorem dan (b b':Bool):(if b=true then some b' else some false)=some (b&&b'):=by cases b<;>rfl
theorem BJ {n k i:Nat} {a:Bs} (hi:i<a.length) (hl:a.length≤100000000) (hn:5≤n):
  xq n a (k+1) i=match uAt a i with|none=>some (.ret false)|some d=>xq n a k ((i+d:Nat):Int):=by
 obtain⟨m,rfl⟩:∃m,n=m+5:=⟨n-5,O0⟩
 have g0:=gz a i
 have g1:=gz a (i+1)
 have g2:=gz a (i+2)
 have g3:=gz a (i+3)
 rw [xq,if_pos O4,Vm hi]
 simp only [Option.bind_some,dro,dan]
 rw [P4 g0,eV g0,f7 g0,jX (x:=(a.length:Int)-(i:Int)) O0]
 unfold uAt uN
 by_cases c1:gb a i<32∨gb a i=127
 ·rw [if_pos (by rw [Bool.or_eq_true,decide_eq_true_eq,beq_iff_eq]; omega),if_pos c1]; rfl
 rw [if_neg (by rw [Bool.or_eq_true,decide_eq_true_eq,beq_iff_eq]; omega),if_neg c1]
 by_cases c2:gb a i<128
 ·rw [if_pos O4,if_pos c2,w1 O0]; rfl
 rw [if_neg O4,if_neg c2]
 by_cases c3:gb a i/32=6
 ·rw [if_pos (by rw [iE,decide_eq_true_eq,decide_eq_true_eq]; omega),if_pos c3]
  by_cases cl:1<a.length-i
  ·rw [if_neg O4,u2 O0 hl O0]
   by_cases d1:gb a (i+1)/64=2
   ·rw [if_pos d1]
    simp only [yM]
    by_cases cv:128≤gb a i%32*64+gb a (i+1)%64
    ·rw [if_neg (by simp only [Bool.or_eq_true,iE,decide_eq_true_eq]; omega),if_pos ⟨cl,d1,cv⟩]
     simp only [yM]
     rw [jX O0]; rfl
    ·rw [if_pos (by simp only [Bool.or_eq_true,iE,decide_eq_true_eq]; omega),if_neg (fun h=>cv h.2.2)]
   ·rw [if_neg d1,if_neg (fun h=>d1 h.2.1)]; rfl
  ·rw [if_pos O4,if_neg (fun h=>cl h.1)]; rfl
 rw [if_neg (by rw [iE,decide_eq_true_eq,decide_eq_true_eq]; omega),if_neg c3]
 by_cases c4:gb a i/16=14
 ·rw [if_pos (by rw [iE,decide_eq_true_eq,decide_eq_true_eq]; omega),if_pos c4]
  by_cases cl:2<a.length-i
  ·rw [if_neg O4,u3 O0 hl O0]
   by_cases d1:gb a (i+1)/64=2
   ·by_cases d2:gb a (i+2)/64=2
    ·rw [if_pos d1,if_pos d2]
     simp only [yM]
     by_cases cv:2048≤gb a i%16*4096+gb a (i+1)%64*64+gb a (i+2)%64∧(gb a i%16*4096+gb a (i+1)%64*64+gb a (i+2)%64<55296∨57344≤gb a i%16*4096+gb a (i+1)%64*64+gb a (i+2)%64)
     ·rw [if_neg (by simp only [Bool.or_eq_true,iE,decide_eq_true_eq]; omega),if_pos ⟨cl,d1,d2,cv⟩]
      simp only [yM]
      rw [jX O0]; rfl
     ·rw [if_pos (by simp only [Bool.or_eq_true,iE,decide_eq_true_eq]; omega),if_neg (fun h=>cv h.2.2.2)]
    ·rw [if_pos d1,if_neg d2,if_neg (fun h=>d2 h.2.2.1)]; rfl
   ·rw [if_neg d1,if_neg (fun h=>d1 h.2.1)]; rfl
  ·rw [if_pos O4,if_neg (fun h=>cl h.1)]; rfl
 rw [if_neg (by rw [iE,decide_eq_true_eq,decide_eq_true_eq]; omega),if_neg c4]
 by_cases c5:gb a i/8=30
 ·rw [if_pos (by rw [iE,decide_eq_true_eq,decide_eq_true_eq]; omega),if_pos c5]
  by_cases cl:3<a.length-i
  ·rw [if_neg O4,u4 O0 hl O0]
   by_cases d1:gb a (i+1)/64=2
   ·by_cases d2:gb a (i+2)/64=2
    ·by_cases d3:gb a (i+3)/64=2
     ·rw [if_pos d1,if_pos d2,if_pos d3]
      simp only [yM]
      by_cases cv:65536≤gb a i%8*262144+gb a (i+1)%64*4096+gb a (i+2)%64*64+gb a (i+3)%64∧gb a i%8*262144+gb a (i+1)%64*4096+gb a (i+2)%64*64+gb a (i+3)%64≤1114111
      ·rw [if_neg (by simp only [Bool.or_eq_true,iE,decide_eq_true_eq]; omega),if_pos ⟨cl,d1,d2,d3,cv⟩]
       simp only [yM]
       rw [jX O0]; rfl
      ·rw [if_pos (by simp only [Bool.or_eq_true,iE,decide_eq_true_eq]; omega),if_neg (fun h=>cv h.2.2.2.2)]
     ·rw [if_pos d1,if_pos d2,if_neg d3,if_neg (fun h=>d3 h.2.2.2.1)]; rfl
    ·rw [if_pos d1,if_neg d2,if_neg (fun h=>d2 h.2.2.1)]; rfl
   ·rw [if_neg d1,if_neg (fun h=>d1 h.2.1)]; rfl
  ·rw [if_pos O4,if_neg (fun h=>cl h.1)]; rfl
 rw [if_neg (by rw [iE,decide_eq_true_eq,decide_eq_true_eq]; omega),if_neg c5]
 rfl
theorem KS {n:Nat} {a:Bs} (hl:a.length≤100000000) (hn:5≤n):∀(k i:Nat),i≤a.length→a.length-i<k→yM (xq n a k i) (fun r=>some r) (fun _=>some true)=some (YA a k i)
 |0,i,_,h=>O0
 | k + 1,i,hi,hk=>by
  rw [YA]
  by_cases hc:i<a.length
  ·rw [BJ hc hl hn,if_pos hc]
   cases h:uAt a i with
   |none=>rfl
   | some d=>
    have:=Q1 hc h
    exact KS hl hn k (i+d) O0 O0
  ·rw [xq,if_neg O4,if_neg hc]; rfl
theorem GN {n:Nat} {a:Bs} (hl:a.length≤100000000) (hn:a.length+5≤n):qd n a=some (YA a n 0):=KS hl O0 n 0 O0 O0
theorem Ph (a:Bs) (i:Nat):YI a i=Lib.decodeN (a.length-i) (gb a i) (gb a (i+1)) (gb a (i+2)) (gb a (i+3)):=by
 have hg:∀j:Nat,((⟨a.toArray⟩:ByteArray).get! j).toNat=gb a j:=by
  intro j
  show(a.toArray[j]!).toNat=_
  rw [getElem!_def]
  unfold gb
  by_cases h:j<a.length
  ·simp [h]
  ·simp [h]; rfl
 unfold YI
 rw [Lib.decode_at,hg,hg,hg,hg]
 rfl
theorem hM {n i:Nat} {a:Bs} (hi:i<a.length):((ssl a ((i:Nat):Int) (List.length a)).bind fun x74=>(wG n x74 ([239,191,189]:List UInt8)).bind fun r75=>some (!r75))=some (!(decide (3≤a.length-i∧gb a i=239∧gb a (i+1)=191∧gb a (i+2)=189))):=by
 have h1:ssl a (i:Int) (a.length:Int)=some (a.drop i):=by rw [qN O0 O0]; simp
 rw [h1]
 simp only [Option.bind_some,wG,xZ]
 have hl:(a.drop i).length=a.length-i:=O2
 have e:∀j,gb a (i+j)=((a.drop i).getD j 0).toNat:=by intro j; unfold gb; simp
 by_cases hc:3≤a.length-i
 ·have h3:3≤(a.drop i).length:=O0
  rw [if_pos (by rw [decide_eq_true_eq,hl]; simp; omega)]
  have e0:=e 0; have e1:=e 1; have e2:=e 2
  rw [Nat.add_zero]at e0
  rw [e0,e1,e2]
  generalize a.drop i=l at *
  match l,h3 with
  | x::y::z::r,_=>
   have:ssl (x::y::z::r) 0 (([239,191,189]:List UInt8).length:Int)=some [x,y,z]:=by
    unfold ssl; rw [if_pos O3]; rfl
   rw [this]
   simp only [Option.bind_some,hc,true_and]
   congr 2
   have t:∀u:UInt8,∀m:Nat,m<256→((u.toNat=m)↔u=UInt8.ofNat m):=by
    intro u m hm
    constructor
    ·intro h; rw [←h]; simp
    ·intro h; rw [h]; simp; omega
   have q:([x,y,z]==([239,191,189]:List UInt8))=decide ([x,y,z]=([239,191,189]:List UInt8)):=by
    rw [Bool.eq_iff_iff,beq_iff_eq,decide_eq_true_eq]
   rw [q]
   apply decide_eq_decide.2
   simp only [List.getD_cons_zero,List.getD_cons_succ,List.cons.injEq,and_true]
   rw [t x 239 O0,t y 191 O0,t z 189 O0]
   rfl
 ·rw [if_neg (by rw [decide_eq_true_eq,hl]; simp; omega)]
  simp [hc]
theorem QR {n k i:Nat} {a:Bs} (hi:i<a.length):
  ut n a (k+1) i=match uAt a i with|none=>some (.ret false)|some d=>ut n a k (i+d):=by
 have g0:=gz a i
 have g1:=gz a (i+1)
 have g2:=gz a (i+2)
 have g3:=gz a (i+3)
 rw [ut,if_pos (by rw [Nat.blt_eq]; exact hi),hM hi,Ph]
 simp only [dro,dan,Option.bind_some]
 unfold uAt
 generalize a.length-i=m at *
 generalize gb a i=b0 at *
 generalize gb a (i+1)=b1 at *
 generalize gb a (i+2)=b2 at *
 generalize gb a (i+3)=b3 at *
 by_cases c1:b0<128
 ·have:Lib.decodeN m b0 b1 b2 b3=(b0,1):=by unfold Lib.decodeN; rw [if_pos c1]
  rw [this]
  by_cases c2:b0<32∨b0=127
  ·rw [if_pos (by rw [Bool.or_eq_true,decide_eq_true_eq,beq_iff_eq]; simp only; omega)]
   unfold uN; rw [if_pos c2]
  ·rw [if_neg (by rw [Bool.or_eq_true,decide_eq_true_eq,beq_iff_eq]; simp only; omega),if_neg (by rw [iE,beq_iff_eq]; simp only; omega)]
   unfold uN; rw [if_neg c2,if_pos c1]
 have key:uN m b0 b1 b2 b3=if(Lib.decodeN m b0 b1 b2 b3).1=65533∧¬(3≤m∧b0=239∧b1=191∧b2=189)then none else some (Lib.decodeN m b0 b1 b2 b3).2:=by
  unfold uN Lib.decodeN
  rw [if_neg (show ¬(b0<32∨b0=127)by omega),if_neg c1,if_neg c1]
  by_cases c2:b0/32=6
  ·rw [if_pos c2]
   by_cases d1:1<m∧b1/64=2
   ·rw [if_pos (show(b0/32=6∧(1<m∧b1/64=2))from⟨c2,d1⟩)]
    by_cases d2:b0%32*64+b1%64≥128
    ·rw [if_pos (show(1<m∧b1/64=2∧128≤b0%32*64+b1%64)from⟨d1.1,d1.2,d2⟩),if_pos d2,if_neg (by simp only; omega)]
    ·rw [if_neg (show ¬(1<m∧b1/64=2∧128≤b0%32*64+b1%64)from fun h=>d2 h.2.2),if_neg d2,if_pos ⟨rfl,O0⟩]
   ·rw [if_neg (show ¬(1<m∧b1/64=2∧128≤b0%32*64+b1%64)by omega),if_neg (show ¬(b0/32=6∧(1<m∧b1/64=2))by omega),if_neg (show ¬(b0/16=14∧(1<m∧b1/64=2)∧(2<m∧b2/64=2))by omega),if_neg (show ¬(b0/8=30∧(1<m∧b1/64=2)∧(2<m∧b2/64=2)∧(3<m∧b3/64=2))by omega),if_pos ⟨rfl,O0⟩]
  rw [if_neg c2,if_neg (show ¬(b0/32=6∧(1<m∧b1/64=2))from fun h=>c2 h.1)]
  by_cases c3:b0/16=14
  ·rw [if_pos c3]
   by_cases d1:2<m∧b1/64=2∧b2/64=2
   ·rw [if_pos (show(b0/16=14∧(1<m∧b1/64=2)∧(2<m∧b2/64=2))from⟨c3,⟨O0,d1.2.1⟩,d1.1,d1.2.2⟩)]
    generalize hv:b0%16*4096+b1%64*64+b2%64=v
    by_cases d2:v≥2048∧(v<55296∨57344≤v∧v≤1114111)
    ·rw [if_pos (show(2<m∧b1/64=2∧b2/64=2∧2048≤v∧(v<55296∨57344≤v))from⟨d1.1,d1.2.1,d1.2.2,O0,O0⟩),if_pos d2,if_neg (by simp only; omega)]
    ·rw [if_neg (show ¬(2<m∧b1/64=2∧b2/64=2∧2048≤v∧(v<55296∨57344≤v))from fun h=>d2 ⟨h.2.2.2.1,O0⟩),if_neg d2,if_pos ⟨rfl,O0⟩]
   ·rw [if_neg (show ¬(2<m∧b1/64=2∧b2/64=2∧2048≤b0%16*4096+b1%64*64+b2%64∧(b0%16*4096+b1%64*64+b2%64<55296∨57344≤b0%16*4096+b1%64*64+b2%64))from fun h=>d1 ⟨h.1,h.2.1,h.2.2.1⟩),if_neg (show ¬(b0/16=14∧(1<m∧b1/64=2)∧(2<m∧b2/64=2))from fun h=>d1 ⟨h.2.2.1,h.2.1.2,h.2.2.2⟩),if_neg (show ¬(b0/8=30∧(1<m∧b1/64=2)∧(2<m∧b2/64=2)∧(3<m∧b3/64=2))by omega),if_pos ⟨rfl,O0⟩]
  rw [if_neg c3,if_neg (show ¬(b0/16=14∧(1<m∧b1/64=2)∧(2<m∧b2/64=2))from fun h=>c3 h.1)]
  by_cases c4:b0/8=30
  ·rw [if_pos c4]
   by_cases d1:3<m∧b1/64=2∧b2/64=2∧b3/64=2
   ·rw [if_pos (show(b0/8=30∧(1<m∧b1/64=2)∧(2<m∧b2/64=2)∧(3<m∧b3/64=2))from⟨c4,⟨O0,d1.2.1⟩,⟨O0,d1.2.2.1⟩,d1.1,d1.2.2.2⟩)]
    generalize hv:b0%8*262144+b1%64*4096+b2%64*64+b3%64=v
    by_cases d2:v≥65536∧(v<55296∨57344≤v∧v≤1114111)
    ·rw [if_pos (show(3<m∧b1/64=2∧b2/64=2∧b3/64=2∧65536≤v∧v≤1114111)from⟨d1.1,d1.2.1,d1.2.2.1,d1.2.2.2,O0,O0⟩),if_pos d2,if_neg (by simp only; omega)]
    ·rw [if_neg (show ¬(3<m∧b1/64=2∧b2/64=2∧b3/64=2∧65536≤v∧v≤1114111)from fun h=>d2 ⟨h.2.2.2.2.1,O0⟩),if_neg d2,if_pos ⟨rfl,O0⟩]
   ·rw [if_neg (show ¬(3<m∧b1/64=2∧b2/64=2∧b3/64=2∧65536≤b0%8*262144+b1%64*4096+b2%64*64+b3%64∧b0%8*262144+b1%64*4096+b2%64*64+b3%64≤1114111)from fun h=>d1 ⟨h.1,h.2.1,h.2.2.1,h.2.2.2.1⟩),if_neg (show ¬(b0/8=30∧(1<m∧b1/64=2)∧(2<m∧b2/64=2)∧(3<m∧b3/64=2))from fun h=>d1 ⟨h.2.2.2.1,h.2.1.2,h.2.2.1.2,h.2.2.2.2⟩),if_pos ⟨rfl,O0⟩]
  rw [if_neg c4,if_neg (show ¬(b0/8=30∧(1<m∧b1/64=2)∧(2<m∧b2/64=2)∧(3<m∧b3/64=2))from fun h=>c4 h.1),if_pos ⟨rfl,O0⟩]
 have big:127<(Lib.decodeN m b0 b1 b2 b3).1:=by
  unfold Lib.decodeN
  rw [if_neg c1]
  repeat' split
  all_goals simp only
  all_goals omega
 rw [key,if_neg (by rw [Bool.or_eq_true,decide_eq_true_eq,beq_iff_eq]; omega)]
 by_cases c:(Lib.decodeN m b0 b1 b2 b3).1=65533∧¬(3≤m∧b0=239∧b1=191∧b2=189)
 ·rw [if_pos c,if_pos (by rw [iE,beq_iff_eq,Bool.not_eq_true',decide_eq_false_iff_not]; exact⟨O0,c.2⟩)]
 ·rw [if_neg c,if_neg (by rw [iE,beq_iff_eq,Bool.not_eq_true',decide_eq_false_iff_not]; intro h; exact c ⟨O0,h.2⟩)]
theorem Qn {n:Nat} {a:Bs}:∀(k i:Nat),i≤a.length→a.length-i<k→yM (ut n a k i) (fun r=>some r) (fun _=>some true)=some (YA a k i)
 |0,i,_,h=>O0
 | k + 1,i,hi,hk=>by
  rw [YA]
  by_cases hc:i<a.length
  ·rw [QR hc,if_pos hc]
   cases h:uAt a i with
   |none=>rfl
   | some d=>
    have:=Q1 hc h
    exact Qn k (i+d) O0 O0
  ·rw [ut,if_neg (by rw [Nat.blt_eq]; exact hc),if_neg hc]; rfl
theorem GS {n:Nat} {a:Bs} (hn:a.length+5≤n):Zv n a=some (YA a n 0):=Qn n 0 O0 O0
theorem Xv (s:Bs):∀(k k' i:Nat),s.length-i<k→s.length-i<k'→YA s k i=YA s k' i
 |0,_,i,h,_=>O0
 |_,0,i,_,h=>O0
 | k + 1,k'+1,i,h,h'=>by
  rw [YA,YA]
  by_cases hc:i<s.length
  ·rw [if_pos hc,if_pos hc]
   cases hu:uAt s i with
   |none=>rfl
   | some d=>
    have:=Q1 hc hu
    exact Xv s k k' (i+d) O0 O0
  ·rw [if_neg hc,if_neg hc]
def prC (b:Nat):Bool:=decide (97≤b∧b≤122)||decide (65≤b∧b≤90)||decide (48≤b∧b≤57)||([32,39,40,41,43,44,45,46,47,58,61,63]:List Nat).contains b
def iaC (b:Nat):Bool:=decide (32≤b∧b≤126)
def ZE (kind:Int) (s:Bs):Bool:=
 if kind=12 then YA s (s.length+1) 0 else if kind=19 then s.all (fun c=>prC c.toNat)else if kind=22 then s.all (fun c=>iaC c.toNat)else false
theorem Pl {n b:Nat} (hn:20≤n) (hb:b<256):kM n (b:Int)=some (prC b):=by
 obtain⟨m,rfl⟩:∃m,n=m+20:=⟨n-20,O0⟩
 have:=List.all_eq_true.1 (show((List.range 256).all fun b:Nat=>decide (kM (m+20) (b:Int)=some (prC b)))=true by kernel_rfl) b (O7 hb)
 simpa using this
theorem Pr {n b:Nat} (hb:b<256):kI n (b:Int)=some (iaC b):=by
 have:=List.all_eq_true.1 (show((List.range 256).all fun b:Nat=>decide (kI n (b:Int)=some (iaC b)))=true by kernel_rfl) b (O7 hb)
 simpa using this
theorem Ka {n b:Nat} (hn:20≤n) (hb:b<256):((wO n (b:Int)).bind fun r451=>
  if(!r451)=true then((wN n (b:Int) ([32,39,40,41,43,44,45,46,47,58,61,63]:List UInt8)).bind fun r453=>
  some (!r453))else(some false))=some (!prC b):=by
 obtain⟨m,rfl⟩:∃m,n=m+20:=⟨n-20,O0⟩
 have:=List.all_eq_true.1 (show((List.range 256).all fun b:Nat=>decide (((wO (m+20) (b:Int)).bind fun r451=>
  if(!r451)=true then((wN (m+20) (b:Int) ([32,39,40,41,43,44,45,46,47,58,61,63]:List UInt8)).bind fun r453=>
  some (!r453))else(some false))=some (!prC b)))=true by kernel_rfl) b (O7 hb)
 simpa using this
theorem fM {n:Nat} {a:Bs} (hl:a.length≤100000000) (hn:20≤n):∀(k i:Nat),i≤a.length→a.length-i<k→yM (qW n a k (i:Int)) (fun r=>some r) (fun _=>some true)=some ((a.drop i).all fun c=>prC c.toNat)
 |0,i,_,h=>O0
 | k + 1,i,hi,hk=>by
  rw [qW]
  by_cases hc:i<a.length
  ·rw [if_pos O4,gP hc,List.drop_eq_getElem_cons hc,List.all_cons]
   simp only [Option.bind_some]
   rw [Pl hn (Di _)]
   simp only [Option.bind_some]
   by_cases hp:prC (a[i]).toNat=true
   ·rw [hp,if_neg O2,w1 O0,fM hl hn k (i+1) O0 O0]; simp
   ·rw [Bool.not_eq_true]at hp
    rw [hp,if_pos O2]; rfl
  ·rw [if_neg O4]
   have:i=a.length:=O0
   subst this
   simp [yM]
theorem c8 {n:Nat} {a:Bs} (hl:a.length≤100000000):∀(k i:Nat),i≤a.length→a.length-i<k→yM (jY n a k (i:Int)) (fun r=>some r) (fun _=>some true)=some ((a.drop i).all fun c=>iaC c.toNat)
 |0,i,_,h=>O0
 | k + 1,i,hi,hk=>by
  rw [jY]
  by_cases hc:i<a.length
  ·rw [if_pos O4,gP hc,List.drop_eq_getElem_cons hc,List.all_cons]
   simp only [Option.bind_some]
   rw [Pr (Di _)]
   simp only [Option.bind_some]
   by_cases hp:iaC (a[i]).toNat=true
   ·rw [hp,if_neg O2,w1 O0,c8 hl k (i+1) O0 O0]; simp
   ·rw [Bool.not_eq_true]at hp
    rw [hp,if_pos O2]; rfl
  ·rw [if_neg O4]
   have:i=a.length:=O0
   subst this
   simp [yM]
theorem VN {n:Nat} {k:Int} {a:Bs} (hl:a.length≤100000000) (hn:a.length+20≤n):kQ n k a=some (ZE k a):=by
 unfold kQ ZE
 by_cases h1:k=12
 ·rw [if_pos (O7 h1),if_pos h1,GS O0]
  simp only [Option.bind_some]
  rw [Xv a n (a.length+1) 0 O0 O0]
 rw [if_neg (O7 h1),if_neg h1]
 by_cases h2:k=19
 ·rw [if_pos (O7 h2),if_pos h2]
  unfold Zx
  have:=fM (n:=n) hl O0 n 0 O0 O0
  rw [show((0:Nat):Int)=0 from rfl,List.drop_zero]at this
  rw [this]; rfl
 rw [if_neg (O7 h2),if_neg h2]
 by_cases h3:k=22
 ·rw [if_pos (O7 h3),if_pos h3]
  unfold dI
  have:=c8 (n:=n) hl n 0 O0 O0
  rw [show((0:Nat):Int)=0 from rfl,List.drop_zero]at this
  rw [this]; rfl
 rw [if_neg (O7 h3),if_neg h3]
theorem D0 {n:Nat} {a:Bs} (hl:a.length≤100000000) (hn:20≤n):∀(k i:Nat),i≤a.length→a.length-i<k→yM (xa n a 19 k (i:Int)) (fun r=>some r) (fun _=>some true)=some ((a.drop i).all fun c=>prC c.toNat)
 |0,i,_,h=>O0
 | k + 1,i,hi,hk=>by
  rw [xa]
  by_cases hc:i<a.length
  ·rw [if_pos O4,gP hc,List.drop_eq_getElem_cons hc,List.all_cons]
   rw [if_neg O1,if_pos O1]
   simp only [Option.bind_some]
   rw [Ka hn (Di _)]
   simp only [Option.bind_some]
   by_cases hp:prC (a[i]).toNat=true
   ·rw [hp,if_neg O2,w1 O0,D0 hl hn k (i+1) O0 O0]; simp
   ·rw [Bool.not_eq_true]at hp
    rw [hp,if_pos O2]; rfl
  ·rw [if_neg O4]
   have:i=a.length:=O0
   subst this
   simp [yM]
theorem D1 {n:Nat} {a:Bs} (hl:a.length≤100000000):∀(k i:Nat),i≤a.length→a.length-i<k→yM (xa n a 22 k (i:Int)) (fun r=>some r) (fun _=>some true)=some ((a.drop i).all fun c=>iaC c.toNat)
 |0,i,_,h=>O0
 | k + 1,i,hi,hk=>by
  rw [xa]
  by_cases hc:i<a.length
  ·rw [if_pos O4,gP hc,List.drop_eq_getElem_cons hc,List.all_cons]
   rw [if_pos O1]
   simp only [Option.bind_some]
   rw [if_neg (show ¬((22:Int)==19)=true by decide)]
   by_cases hp:iaC (a[i]).toNat=true
   ·have hp':=hp
    unfold iaC at hp'; rw [decide_eq_true_eq]at hp'
    rw [if_neg O4,if_neg O4]
    simp only [Option.bind_some]
    rw [hp,if_neg O2,w1 O0,D1 hl k (i+1) O0 O0]; simp
   ·rw [Bool.not_eq_true]at hp
    have hp':=hp
    unfold iaC at hp'; rw [decide_eq_false_iff_not]at hp'
    rw [hp]
    by_cases h1:(a[i]).toNat<32
    ·rw [if_pos O4]; rfl
    ·rw [if_neg O4,if_pos O4]; rfl
  ·rw [if_neg O4]
   have:i=a.length:=O0
   subst this
   simp [yM]
theorem Xr {n:Nat} {k:Int} {a:Bs} (hl:a.length≤100000000) (hn:a.length+20≤n):xR n k a=some (ZE k a):=by
 unfold xR ZE
 by_cases h1:k=12
 ·rw [if_pos (O7 h1),if_pos h1,GN hl O0]
  simp only [Option.bind_some]
  rw [Xv a n (a.length+1) 0 O0 O0]
 rw [if_neg (O7 h1),if_neg h1]
 by_cases h2:k=19
 ·subst h2
  rw [if_pos O1,if_pos rfl]
  simp only [Option.bind_some]
  rw [if_pos O1]
  have:=D0 (n:=n) hl O0 n 0 O0 O0
  rw [show((0:Nat):Int)=0 from rfl,List.drop_zero]at this
  exact this
 rw [if_neg (O7 h2),if_neg h2]
 by_cases h3:k=22
 ·subst h3
  rw [if_pos rfl]
  simp only [Option.bind_some]
  rw [if_pos O1]
  have:=D1 (n:=n) hl n 0 O0 O0
  rw [show((0:Nat):Int)=0 from rfl,List.drop_zero]at this
  exact this
 rw [if_neg h3]
 simp only [Option.bind_some]
 rw [if_neg (O7 h3)]
def Bd (M:Nat) (l:List zd):Prop:=l.length≤M∧∀e∈l,e.wJ.length≤M
theorem Bd.tail {M:Nat} {e:zd} {l:List zd} (h:Bd M (e::l)):e.wJ.length≤M∧Bd M l:=
 ⟨h.2 e O2,by have:=h.1; simp at this; omega,fun x hx=>h.2 x (by simp [hx])⟩
theorem ifb (a b:Bool):(if a=true then some true else some b)=some (a||b):=by cases a<;>rfl
def YW (d:yy):Prop:=0≤d.kH∧d.kH≤(d.f_L.length:Int)∧d.f_L.length≤9223372036854775807
theorem WC {α:Type} {l:List α} {i:Int} (h0:0≤i) (h1:i<(l.length:Int)):∃x,xe l i=some x∧x∈l:=by
 have h:i.toNat<l.length:=O0
 exact⟨l[i.toNat],by simp [xe,h0,h],O2⟩
theorem BX {n:Nat} {k:Int} {d:yy} (hk:0<k) (hk2:k≤4611686018427387904) (hd:YW d):
  ∃r d',z6 n k d=some (r,d')∧0≤r∧r<k∧YW d':=by
 obtain⟨h0,h1,h2⟩:=hd
 unfold z6
 by_cases hc:d.kH≥(d.f_L.length:Int)
 ·exact⟨0,d,by simp [hc],O0,O0,h0,h1,h2⟩
 ·have ha:wrap .i64 (d.kH+1)=d.kH+1:=jX O0
  have hb:wrap .i64 (wrap .i64 (d.kH+1)-1)=d.kH:=by rw [ha,jX O0]; omega
  obtain⟨x,hx,_⟩:=WC h0 (Int.not_le.1 hc)
  have hm1: -k<x.tmod k:=by
   have:=Int.lt_tmod_of_pos x hk; omega
  have hm2:x.tmod k<k:=Int.tmod_lt_of_pos x hk
  have hw:wrap .i64 (x.tmod k+k)=x.tmod k+k:=jX O0
  refine⟨(x.tmod k+k).tmod k,⟨d.f_L,d.kH+1⟩, ?_, ?_, ?_, ?_⟩
  ·rw [hb,hx,ha]
   have hk':k≠0:=O0
   simp [hc,Bp,hk',hw]
  ·exact Int.tmod_nonneg k O0
  ·exact Int.tmod_lt_of_pos _ hk
  ·exact⟨O3,O3,h2⟩
theorem Zw {n:Nat} {k:Int} {d:yy} (hk:0<k) (hk2:k≤4611686018427387904) (hd:YW d):∃r d',z6 n k d=some (r,d')∧0≤r∧r<k∧YW d':=BX hk hk2 hd
abbrev Att:=zc
def Jf (pre:List Att) (a:Att):Int:=
 if(Ya a.uH).isSome=false then 11 else if a.uy= []∨ZE a.yA a.uy=false then 13 else if 64<a.uy.length then 2 else if(pre.any fun b=>b.uH==a.uH)=true then 10 else 0
def dK:List Att→List Att→Int
 |_,[]=>0
 |pre,a::r=>if Jf pre a≠0 then Jf pre a else dK (pre ++ [a]) r
def WF (r:List Att):Int:=if r= []then 14 else if 4<r.length then 2 else dK [] r
def Zu:List (List Att)→Int
 | []=>0
 |r::l=>if WF r≠0 then WF r else Zu l
def Vn (l:List (List Att)):Int:=if 8<l.length then 2 else Zu l
def BdA (B:Nat) (a:Att):Prop:=a.uH.length≤B∧a.uy.length≤B
def BdR (B:Nat) (r:List Att):Prop:=r.length≤B∧∀a∈r,BdA B a
def BdN (B:Nat) (l:List (List Att)):Prop:=l.length≤B∧∀r∈l,BdR B r
theorem UQ {α:Type} {l:List α} {i:Nat} (h:i<l.length):l.take (i+1)=l.take i ++ [l[i]]:=by
 rw [List.take_add_one,List.getElem?_eq_getElem h]; rfl
theorem K1 {n:Nat} (p:List Att) (a:Att) (hp:p.length≤1000000):∀(k j:Nat),j≤p.length→p.length-j<k→wI n p a k (j:Int)=some (if((p.drop j).any fun b=>b.uH==a.uH)=true then .ret 10 else .nxt ())
 |0,j,_,h=>O0
 | k + 1,j,hj,hk=>by
  rw [wI]
  by_cases hc:j<p.length
  ·rw [if_pos O4,un hc,List.drop_eq_getElem_cons hc,List.any_cons]
   simp only [Option.bind_some]
   by_cases he:(p[j].uH==a.uH)=true
   ·rw [if_pos he,he]; rfl
   ·rw [if_neg he,w1 O0,K1 p a hp k (j+1) O0 O0]
    rw [Bool.not_eq_true]at he
    rw [he,Bool.false_or]
  ·rw [if_neg O4]
   have:j=p.length:=O0
   subst this
   simp
theorem KX {n B:Nat} (r:List Att) (hb:BdR B r) (hB:B≤1000000) (hn:B+100≤n):∀(k i:Nat),i≤r.length→r.length-i<k→yM (wb n r k (i:Int)) (fun x=>some x) (fun _=>some 0)=some (dK (r.take i) (r.drop i))
 |0,i,_,h=>O0
 | k+1,i,hi,hk=>by
  have hl:=hb.1
  rw [wb]
  by_cases hc:i<r.length
  ·have ha:=hb.2 r[i] O2
   rw [if_pos O4,un hc,List.drop_eq_getElem_cons hc,dK]
   simp only [Option.bind_some]
   rw [UC (by have:=ha.1; omega) (by have:=ha.1; omega),VN (by have:=ha.2; omega) (by have:=ha.2; omega)]
   simp only [Option.bind_some]
   unfold Jf
   by_cases h1:(Ya (r[i]).uH).isSome=false
   ·rw [if_pos h1,if_pos (by rw [h1]; rfl)]; rfl
   rw [if_neg h1,if_neg (O7 h1)]
   rw [ifb]
   simp only [Option.bind_some]
   by_cases h2:(r[i]).uy= []∨ZE (r[i]).yA (r[i]).uy=false
   ·rw [if_pos h2,if_pos (O7 h2)]; rfl
   rw [if_neg h2,if_neg (O7 h2)]
   by_cases h3:64<(r[i]).uy.length
   ·rw [if_pos h3,if_pos O4]; rfl
   rw [if_neg h3,if_neg O4]
   have hs:lsl r 0 (i:Int)=some (r.take i):=by unfold lsl; rw [if_pos ⟨O0,O0,O0⟩]; simp
   rw [hs]
   simp only [Option.bind_some]
   have h4:=K1 (n:=n) (r.take i) r[i] (by rw [List.length_take]; omega) n 0 O0 (by rw [List.length_take]; omega)
   rw [show((0:Nat):Int)=0 from rfl,List.drop_zero]at h4
   rw [h4]
   by_cases h5:((r.take i).any fun b=>b.uH==(r[i]).uH)=true
   ·rw [if_pos h5,if_pos h5]; rfl
   rw [if_neg h5,if_neg h5]
   rw [if_neg (show ¬((0:Int)≠0)by simp)]
   show yM (wb n r k (wrap .i64 ((i:Int)+1))) (fun x=>some x) (fun _=>some 0)=_
   rw [w1 O0,KX r hb hB hn k (i+1) O0 O0,UQ hc]
  ·rw [if_neg O4]
   have:i=r.length:=O0
   subst this
   simp [yM,dK]
theorem mb {n B:Nat} {r:List Att} (hb:BdR B r) (hB:B≤1000000) (hn:B+100≤n):uo n r=some (WF r):=by
 unfold uo WF
 have hl:=hb.1
 by_cases h1:r= []
 ·subst h1; rfl
 rw [if_neg (O7 h1),if_neg h1]
 by_cases h2:4<r.length
 ·rw [if_pos O4,if_pos h2]
 rw [if_neg O4,if_neg h2]
 have:=KX (n:=n) r hb hB hn n 0 O0 O0
 rw [show((0:Nat):Int)=0 from rfl,List.drop_zero,List.take_zero]at this
 exact this
theorem JY {n B:Nat} (l:List (List Att)) (hb:BdN B l) (hB:B≤1000000) (hn:B+100≤n):∀(k i:Nat),i≤l.length→l.length-i<k→yM (jA n ⟨l⟩ k (i:Int)) (fun x=>some x) (fun _=>some 0)=some (Zu (l.drop i))
 |0,i,_,h=>O0
 | k + 1,i,hi,hk=>by
  have hl:=hb.1
  rw [jA]
  by_cases hc:i<l.length
  ·rw [if_pos (by rw [decide_eq_true_eq]; show(i:Int)<(l.length:Int); omega)]
   simp only [un hc,Option.bind_some]
   rw [List.drop_eq_getElem_cons hc,Zu,mb (hb.2 l[i] O2) hB hn]
   simp only [Option.bind_some]
   by_cases h1:WF l[i]≠0
   ·rw [if_pos h1,if_pos (O7 h1)]; rfl
   ·rw [if_neg h1,if_neg (O7 h1),w1 O0]
    exact JY l hb hB hn k (i+1) O0 O0
  ·rw [if_neg (by rw [decide_eq_true_eq]; show ¬(i:Int)<(l.length:Int); omega)]
   have:i=l.length:=O0
   subst this
   simp [yM,Zu]
theorem fe {n B:Nat} {l:List (List Att)} (hb:BdN B l) (hB:B≤1000000) (hn:B+100≤n):bn n ⟨l⟩=some (Vn l):=by
 unfold bn Vn
 have hl:=hb.1
 by_cases h2:8<l.length
 ·rw [if_pos (by rw [decide_eq_true_eq]; show((l.length:Int)>8); omega),if_pos h2]
 rw [if_neg (by rw [decide_eq_true_eq]; show ¬((l.length:Int)>8); omega),if_neg h2]
 have:=JY (n:=n) l hb hB hn n 0 O0 O0
 rw [show((0:Nat):Int)=0 from rfl,List.drop_zero]at this
 exact this
theorem KZ {n:Nat} (r:List Att) (a:Att) (hr:r.length≤1000000) (i:Nat) (hi:i≤r.length):∀(k j:Nat),j≤i→i-j<k→xk n (i:Int) r a k (j:Int)=some (if(((r.take i).drop j).any fun b=>b.uH==a.uH)=true then .ret 10 else .nxt ())
 |0,j,_,h=>O0
 | k + 1,j,hj,hk=>by
  rw [xk]
  by_cases hc:j<i
  ·have hc':j<(r.take i).length:=by rw [List.length_take]; omega
   have hg:(r.take i)[j]=r[j]:=O2
   rw [if_pos O4,un O0,List.drop_eq_getElem_cons hc',List.any_cons,hg]
   simp only [Option.bind_some]
   by_cases he:(r[j].uH==a.uH)=true
   ·rw [if_pos he,he]; rfl
   ·rw [if_neg he,w1 O0,KZ r a hr i hi k (j+1) O0 O0]
    rw [Bool.not_eq_true]at he
    rw [he,Bool.false_or]
  ·rw [if_neg O4]
   have:j=i:=O0
   subst this
   rw [List.drop_eq_nil_of_le (by rw [List.length_take]; omega)]
   rfl
theorem KR {n B:Nat} (r:List Att) (hb:BdR B r) (hB:B≤1000000) (hn:B+100≤n):∀(k i:Nat),i≤r.length→r.length-i<k→yM (yP n r k (i:Int)) (fun x=>some x) (fun _=>some 0)=some (dK (r.take i) (r.drop i))
 |0,i,_,h=>O0
 | k+1,i,hi,hk=>by
  have hl:=hb.1
  rw [yP]
  by_cases hc:i<r.length
  ·have ha:=hb.2 r[i] O2
   rw [if_pos O4,un hc,List.drop_eq_getElem_cons hc,dK]
   simp only [Option.bind_some]
   rw [Wd (by have:=ha.1; omega) (by have:=ha.1; omega),Xr (by have:=ha.2; omega) (by have:=ha.2; omega)]
   simp only [Option.bind_some]
   unfold Jf
   by_cases h1:(Ya (r[i]).uH).isSome=false
   ·rw [if_pos h1,if_pos (by rw [h1]; rfl)]; rfl
   rw [if_neg h1,if_neg (O7 h1)]
   rw [ifb]
   simp only [Option.bind_some]
   by_cases h2:(r[i]).uy= []∨ZE (r[i]).yA (r[i]).uy=false
   ·rw [if_pos h2,if_pos (O7 h2)]; rfl
   rw [if_neg h2,if_neg (O7 h2)]
   by_cases h3:64<(r[i]).uy.length
   ·rw [if_pos h3,if_pos O4]; rfl
   rw [if_neg h3,if_neg O4]
   have h4:=KZ (n:=n) r r[i] O0 i O0 n 0 O0 O0
   rw [show((0:Nat):Int)=0 from rfl,List.drop_zero]at h4
   rw [h4]
   by_cases h5:((r.take i).any fun b=>b.uH==(r[i]).uH)=true
   ·rw [if_pos h5,if_pos h5]; rfl
   rw [if_neg h5,if_neg h5]
   rw [if_neg (show ¬((0:Int)≠0)by simp)]
   show yM (yP n r k (wrap .i64 ((i:Int)+1))) (fun x=>some x) (fun _=>some 0)=_
   rw [w1 O0,KR r hb hB hn k (i+1) O0 O0,UQ hc]
  ·rw [if_neg O4]
   have:i=r.length:=O0
   subst this
   simp [yM,dK]
theorem hN {n B:Nat} {r:List Att} (hb:BdR B r) (hB:B≤1000000) (hn:B+100≤n):wm n r=some (dK [] r):=by
 unfold wm
 have hl:=hb.1
 have:=KR (n:=n) r hb hB hn n 0 O0 O0
 rw [show((0:Nat):Int)=0 from rfl,List.drop_zero,List.take_zero]at this
 exact this
theorem J9 {n B:Nat} (l:List (List Att)) (hb:BdN B l) (hB:B≤1000000) (hn:B+100≤n):∀(k i:Nat),i≤l.length→l.length-i<k→yM (xV n ⟨l⟩ k (i:Int)) (fun x=>some x) (fun _=>some 0)=some (Zu (l.drop i))
 |0,i,_,h=>O0
 | k + 1,i,hi,hk=>by
  have hl:=hb.1
  rw [xV]
  by_cases hc:i<l.length
  ·rw [if_pos (by rw [decide_eq_true_eq]; show(i:Int)<(l.length:Int); omega)]
   simp only [un hc,Option.bind_some]
   rw [List.drop_eq_getElem_cons hc,Zu,hN (hb.2 l[i] O2) hB hn]
   simp only [Option.bind_some]
   unfold WF
   by_cases h0:l[i]= []
   ·rw [if_pos (by rw [h0]; rfl),if_pos h0,if_pos O1]; rfl
   rw [if_neg (O7 h0),if_neg h0]
   by_cases h4:4<(l[i]).length
   ·rw [if_pos O4,if_pos h4,if_pos O1]; rfl
   rw [if_neg O4,if_neg h4]
   by_cases h1:dK [] l[i]≠0
   ·rw [if_pos h1,if_pos (O7 h1)]; rfl
   ·rw [if_neg h1,if_neg (O7 h1),w1 O0]
    exact J9 l hb hB hn k (i+1) O0 O0
  ·rw [if_neg (by rw [decide_eq_true_eq]; show ¬(i:Int)<(l.length:Int); omega)]
   have:i=l.length:=O0
   subst this
   simp [yM,Zu]
theorem eX {n B:Nat} {l:List (List Att)} (hb:BdN B l) (hB:B≤1000000) (hn:B+100≤n):wx n ⟨l⟩=some (Vn l):=by
 unfold wx Vn
 have hl:=hb.1
 by_cases h2:8<l.length
 ·rw [if_pos (by rw [decide_eq_true_eq]; show((l.length:Int)>8); omega),if_pos h2]
 rw [if_neg (by rw [decide_eq_true_eq]; show ¬((l.length:Int)>8); omega),if_neg h2]
 have:=J9 (n:=n) l hb hB hn n 0 O0 O0
 rw [show((0:Nat):Int)=0 from rfl,List.drop_zero]at this
 exact this
theorem Gm (v:Nat):(Lib.decDigits v).all bU=true∧dval (Lib.decDigits v)=v:=by
 induction v using Nat.strongRecOn with
 | ind v ih=>
  by_cases h:v<10
  ·rw [Lib.decDigits_one h]
   have h2:(UInt8.ofNat (48+v)).toNat=48+v:=by rw [UInt8.toNat_ofNat']; omega
   refine⟨?_, ?_⟩
   ·simp only [List.all_cons,List.all_nil,Bool.and_true,bU,h2,iE,decide_eq_true_eq]; omega
   ·simp only [dval,List.foldl_cons,List.foldl_nil,h2]; omega
  ·rw [Lib.decDigits,dif_neg h]
   obtain⟨h1,h2⟩:=ih (v/10) O0
   have h3:(UInt8.ofNat (48+v%10)).toNat=48+v%10:=by rw [UInt8.toNat_ofNat']; omega
   refine⟨?_, ?_⟩
   ·rw [List.all_append,h1]
    simp only [List.all_cons,List.all_nil,Bool.and_true,Bool.true_and,bU,h3,iE,decide_eq_true_eq]; omega
   ·rw [Bc,h2,h3]; omega
def Z5 (s:Bs):Option Nat:=if s.all bU=true∧Lib.decDigits (dval s)=s∧dval s≤4611686018427387904 then some (dval s)else none
theorem JA {v:Nat} (h:v≤4611686018427387904):Z5 (Lib.decDigits v)=some v:=by
 obtain⟨h1,h2⟩:=Gm v
 unfold Z5
 rw [if_pos ⟨h1,by rw [h2],by rw [h2]; exact h⟩,h2]
theorem uC {s:Bs} {v:Nat} (h:Z5 s=some v):Lib.decDigits v=s∧v≤4611686018427387904∧s.all bU=true∧dval s=v:=by
 unfold Z5 at h
 split at h
 ·rename_i hc; injection h with h; subst h; exact⟨hc.2.1,hc.2.2,hc.1,rfl⟩
 ·cases h
theorem B0 {s:Bs} {v:Nat}:Z5 s=some v↔Lib.decDigits v=s∧v≤4611686018427387904:=⟨fun h=>⟨(uC h).1,(uC h).2.1⟩,fun⟨h1,h2⟩=>by rw [←h1]; exact JA h2⟩
theorem PL (r:Bs):∀(acc:Nat),r.all bU=true→r.foldl (fun n c=>10*n+(c.toNat-48)) acc≤4611686018427387904→Lib.parseUint10 acc r= .ok (r.foldl (fun n c=>10*n+(c.toNat-48)) acc):=by
 induction r with
 |nil=>intro acc _ _; rfl
 | cons c r ih=>
  intro acc h1 h2
  rw [List.all_cons,iE]at h1
  have hd:=h1.1
  simp only [bU,iE,decide_eq_true_eq]at hd
  have hm:∀(l:Bs) (a:Nat),a≤l.foldl (fun n c=>10*n+(c.toNat-48)) a:=by
   intro l
   induction l with
   |nil=>intro a; exact Nat.le_refl _
   |cons x l ih2=>intro a; rw [List.foldl_cons]; have:=ih2 (10*a+(x.toNat-48)); omega
  rw [List.foldl_cons]at h2 ⊢
  have h3:=hm r (10*acc+(c.toNat-48))
  rw [Lib.parseUint10,if_pos hd,if_neg O0,if_neg O0,show acc*10+(c.toNat-48)=10*acc+(c.toNat-48)by omega]
  exact ih _ h1.2 h2
theorem Gq {s:Bs} {v:Nat} (h:Z5 s=some v):Lib.atoiAll s= .ok (v:Int):=by
 obtain⟨h1,h2,h3,h4⟩:=uC h
 have hne:s≠ []:=by
  intro e; subst e
  have:=congrArg List.length h1
  rw [Lib.decDigits_length]at this
  have:=Lib.nDigits_pos v
  simp_all
 cases s with
 |nil=>exact absurd rfl hne
 | cons c r=>
  have hd:=h3
  rw [List.all_cons,iE]at hd
  have hd:=hd.1
  simp only [bU,iE,decide_eq_true_eq]at hd
  have hp:Lib.parseMag (c::r)= .ok v:=by
   unfold Lib.parseMag
   rw [if_neg O2,PL (c::r) 0 h3 (by show dval (c::r)≤_; omega)]
   show Lib.NumEnd.ok (dval (c::r))=_
   rw [h4]
  unfold Lib.atoiAll
  simp only []
  rw [if_neg O0,hp]
  simp only []
  rw [if_neg O0,if_neg O0]
  simp; omega
theorem pC {n:Nat} {s:Bs} {m:zk} (hs:s.length≤281474976710656):wA n s m=some (match Z5 s with|some u=>((u:Int),m)|none=>(0,⟨m.yz,true⟩)):=by
 unfold wA Vu
 rw [if_pos hs]
 cases hn:Z5 s with
 | some v=>
  have hv:=(uC hn).2.1
  rw [Gq hn]
  simp only [Option.bind_some,onE,Yh]
  rw [if_neg O4,if_neg O4,if_pos O0,Option.bind_some,Option.bind_some]
  have e:Lib.itoa (v:Int)=s:=by rw [Lib.itoa_nonneg]; exact(uC hn).1
  rw [e]
  simp
 | none=>
  cases ha:Lib.atoiAll s with
  | ok v=>
   obtain⟨b1,b2⟩:=Lib.atoiAll_bounds ha
   simp only [Option.bind_some,onE,Yh]
   by_cases c1:v<0
   ·rw [if_pos (by rw [decide_eq_true_eq]; exact c1)]; rfl
   ·rw [if_neg (by rw [decide_eq_true_eq]; exact c1)]
    by_cases c2:v>4611686018427387904
    ·rw [if_pos (by rw [decide_eq_true_eq]; exact c2)]; rfl
    ·rw [if_neg (by rw [decide_eq_true_eq]; exact c2),if_pos ⟨b1,b2⟩,Option.bind_some]
     have hne:Lib.itoa v≠s:=by
      intro e
      obtain⟨u,rfl⟩:∃u:Nat,v=u:=⟨v.toNat,O0⟩
      rw [Lib.itoa_nonneg]at e
      rw [←e,JA O0]at hn
      cases hn
     rw [Option.bind_some,if_pos (by simp [hne])]
  |_=>simp only [Option.bind_some,onE]; rfl
theorem YU {s:Bs} {i:Nat} (h:i<s.length):xD s (i:Int)=some ((s[i].toNat:Nat):Int):=gP h
theorem UN {n:Nat} {s:Bs} (hs:s.length≤1000000000):∀(k i v:Nat),i≤s.length→s.length-i<k→v≤5764607523034234889 →
  (xS n s k (v:Int) (i:Int)=some (.ret (0,false))∧∀u,u≤4611686018427387904→¬((s.drop i).all bU=true∧(s.drop i).foldl (fun n c=>10*n+(c.toNat-48)) v=u)) ∨
  (∃u:Nat,xS n s k (v:Int) (i:Int)=some (.nxt (u:Int))∧u≤5764607523034234889∧(s.drop i).all bU=true∧(s.drop i).foldl (fun n c=>10*n+(c.toNat-48)) v=u)
 |0,i,v,_,h,_=>O0
 | k + 1,i,v,hi,hk,hv=>by
  rw [xS]
  by_cases hc:i<s.length
  ·rw [if_pos O4,YU hc,Option.bind_some,List.drop_eq_getElem_cons hc]
   have hu:=s[i].toNat_lt
   have hm:∀(l:Bs) (a:Nat),a≤l.foldl (fun n c=>10*n+(c.toNat-48)) a:=by
    intro l
    induction l with
    |nil=>intro a; exact Nat.le_refl _
    |cons x l ih2=>intro a; rw [List.foldl_cons]; have:=ih2 (10*a+(x.toNat-48)); omega
   by_cases c1:s[i].toNat<48
   ·rw [if_pos O4,Option.bind_some,if_pos rfl]
    refine .inl ⟨rfl,fun u _ hx=> ?_⟩
    have:=hx.1
    rw [List.all_cons,iE]at this
    have:=this.1
    simp only [bU,iE,decide_eq_true_eq]at this
    omega
   ·rw [if_neg O4,Option.bind_some]
    by_cases c2:s[i].toNat>57
    ·rw [if_pos O4,Option.bind_some,if_pos rfl]
     refine .inl ⟨rfl,fun u _ hx=> ?_⟩
     have:=hx.1
     rw [List.all_cons,iE]at this
     have:=this.1
     simp only [bU,iE,decide_eq_true_eq]at this
     omega
    ·rw [if_neg O4,Option.bind_some]
     by_cases c3:v>576460752303423488
     ·rw [if_pos O4]
      refine .inl ⟨rfl,fun u hu2 hx=> ?_⟩
      have h2:=hx.2
      rw [List.foldl_cons]at h2
      have:=hm (s.drop (i+1)) (10*v+(s[i].toNat-48))
      omega
     ·rw [if_neg O4,Option.bind_some]
      have e1:wrap .u8 (((s[i].toNat:Nat):Int)-48)=((s[i].toNat-48:Nat):Int):=by
       rw [wrap]; simp [IntKind.bits]; omega
      have e2:wrap .i64 ((v:Int)*10)=((10*v:Nat):Int):=by rw [jX O0]; omega
      rw [e1,jX (x:=((s[i].toNat-48:Nat):Int)) O0,e2,jX O0,w1 O0]
      have ih:=UN (n:=n) hs k (i+1) (10*v+(s[i].toNat-48)) O0 O0 O0
      have e3:((10*v:Nat):Int)+((s[i].toNat-48:Nat):Int)=((10*v+(s[i].toNat-48):Nat):Int):=O0
      rw [e3]
      have hd:bU s[i]=true:=by simp only [bU,iE,decide_eq_true_eq]; omega
      rw [List.all_cons,hd,Bool.true_and,List.foldl_cons]
      exact ih
  ·rw [if_neg O4,List.drop_eq_nil_of_le O0]
   exact .inr ⟨v,rfl,hv,rfl,rfl⟩
theorem JK:Z5 []=none:=by
 cases h:Z5 []with
 |none=>rfl
 | some v=>
  have:=congrArg List.length (uC h).1
  rw [Lib.decDigits_length]at this
  have:=Lib.nDigits_pos v
  simp_all
theorem WQ {n:Nat} {s:Bs} {opt:Bool} (hs:s.length≤1000000) (hn:s.length+20≤n):∃(v:Int) (ok:Bool),vd n s opt=some (v,ok) ∧
  (s= [45]∧opt=true∧v= -1∧ok=true∨(s≠ [45]∨opt=false)∧((∃u:Nat,Z5 s=some u∧v=u∧ok=true)∨(Z5 s=none∧(ok=false∨v>4611686018427387904)))):=by
 unfold vd
 by_cases h:s= [45]∧opt=true
 ·obtain⟨rfl,rfl⟩:=h
  exact⟨-1,true,rfl, .inl ⟨rfl,rfl,rfl,rfl⟩⟩
 ·have h':s≠ [45]∨opt=false:=by
   by_cases h1:s= [45]
   ·right; cases opt with
    |false=>rfl
    |true=>exact absurd ⟨h1,rfl⟩ h
   ·exact .inl h1
  have e:(if(s==([45]:Bs))=true then some opt else some false)=some false:=by
   by_cases h1:s= [45]
   ·rw [if_pos (O7 h1)]
    rcases h' with h2|h2
    ·exact absurd h1 h2
    ·rw [h2]
   ·rw [if_neg (O7 h1)]
  rw [e,Option.bind_some,if_neg O1]
  have hl:=UN (n:=n) (s:=s) O0 n 0 0 O0 O0 O0
  rw [show((0:Nat):Int)=0 from rfl,List.drop_zero]at hl
  rcases hl with⟨h1,h2⟩|⟨u,h1,h2,h3,h4⟩
  ·rw [h1]
   refine⟨0,false,rfl, .inr ⟨h', .inr ⟨?_, .inl rfl⟩⟩⟩
   cases hx:Z5 s with
   |none=>rfl
   |some v=>exact absurd ⟨(uC hx).2.2.1,(uC hx).2.2.2⟩ (h2 v (uC hx).2.1)
  ·rw [h1]
   dsimp only [yM]
   have hu:dval s=u:=h4
   by_cases c:s= []
   ·subst c
    exact⟨_,false,rfl, .inr ⟨h', .inr ⟨JK, .inl rfl⟩⟩⟩
   ·have hpos:0<s.length:=by
     cases s with
     |nil=>exact absurd rfl c
     |cons _ _=>simp
    rw [if_pos O4,Bv O0 O0,Option.bind_some,Option.bind_some]
    refine⟨_,_,rfl, .inr ⟨h', ?_⟩⟩
    by_cases d:Lib.decDigits u=s
    ·by_cases b:u≤4611686018427387904
     ·exact .inl ⟨u,B0.2 ⟨d,b⟩,rfl,by simpa using d⟩
     ·refine .inr ⟨?_, .inr O0⟩
      cases hx:Z5 s with
      |none=>rfl
      |some v=>have:=(uC hx).2.1; have:=(uC hx).2.2.2; omega
    ·refine .inr ⟨?_, .inl (O7 d)⟩
     cases hx:Z5 s with
     |none=>rfl
     | some v=>
      exfalso
      have e1:=(uC hx).1
      rw [←(uC hx).2.2.2,hu]at e1
      exact d e1
structure RW (m:zk) (w:ze):Prop where
 pos:∃k:Nat,w.wB=k∧k≤w.f_l.length∧m.yz=w.f_l.drop k
 bad:m.zG=w.zG
 len:w.f_l.length≤1000000
 ws:∀s∈w.f_l,s.length≤1000000
theorem pt {n:Nat} {m:zk} {w:ze} (h:RW m w):∃s m' w',yh n m=some (s,m')∧zT n w=some (s,w')∧RW m' w'∧s.length≤1000000∧w'.f_l=w.f_l∧(m.zG=true→m'.zG=true)∧(m'.zG=false→s∈w.f_l)∧(m'.zG=true→m.zG=true∨s= []):=by
 obtain⟨⟨k,h1,h2,h3⟩,h4,h5,h6⟩:=h
 unfold yh zT
 by_cases c:k<w.f_l.length
 ·have e1:m.yz=w.f_l[k]::w.f_l.drop (k+1):=by rw [h3,List.drop_eq_getElem_cons c]
  have hlen:m.yz.length=w.f_l.length-k:=by rw [h3,List.length_drop]
  rw [if_neg (by simp only [beq_iff_eq]; omega),if_neg O4,h1]
  have e2:wrap .i64 (wrap .i64 ((k:Int)+1)-1)=(k:Int):=by rw [jX (x:=(k:Int)+1) O0,jX O0]; omega
  rw [e2,un c,w1 O0]
  have e3:xe m.yz 0=some w.f_l[k]:=by rw [e1]; rfl
  have e4:lsl m.yz 1 (List.length m.yz)=some (w.f_l.drop (k+1)):=by rw [e1]; exact JC
  rw [e3,Option.bind_some,e4]
  refine⟨w.f_l[k],⟨w.f_l.drop (k+1),m.zG⟩,⟨w.f_l,((k+1:Nat):Int),w.zG⟩,rfl,rfl,⟨⟨k+1,rfl,by show k+1≤w.f_l.length; omega,rfl⟩,h4,h5,h6⟩,h6 _ (List.getElem_mem c),rfl,fun h=>h,fun _=>List.getElem_mem c,fun h=> .inl h⟩
 ·have e1:m.yz= []:=by rw [h3,List.drop_eq_nil_of_le O0]
  rw [e1,if_pos O1,if_pos O4]
  exact⟨[],⟨[],true⟩,⟨w.f_l,w.wB,true⟩,rfl,rfl,⟨⟨k,h1,h2,by show []=w.f_l.drop k; rw [List.drop_eq_nil_of_le O0]⟩,rfl,h5,h6⟩,O2,rfl,fun _=>rfl,fun h=>by simp at h,fun _=> .inr rfl⟩
theorem vj {n:Nat} {m:zk} {w:ze} (hn:2000000≤n) (h:RW m w):∃a b m' w',zu n m=some (a,m')∧zo n false w=some (b,w')∧RW m' w'∧(m.zG=true→m'.zG=true)∧(m'.zG=false→a=b)∧w'.f_l=w.f_l:=by
 unfold zu zo
 obtain⟨s,m1,w1,e1,e2,r1,l1,f1,b1,_,_⟩:=pt (n:=n) h
 rw [e1,Option.bind_some,e2,Option.bind_some]
 dsimp only
 obtain⟨v,ok,e3,hv⟩:=WQ (n:=n) (s:=s) (opt:=false) O0 O0
 rw [pC O0,Option.bind_some,e3,Option.bind_some]
 dsimp only
 have hv:(∃u:Nat,Z5 s=some u∧v=u∧ok=true)∨(Z5 s=none∧(ok=false∨v>4611686018427387904)):=by
  rcases hv with⟨_,h,_⟩|⟨_,h⟩
  ·cases h
  ·exact h
 rcases hv with⟨u,h1,rfl,rfl⟩|⟨h1,h2⟩
 ·rw [h1]
  have hu:=(uC h1).2.1
  dsimp only
  have e4:(if w1.zG=true then some true else if(!true)=true then some true else some (decide ((u:Int)>4611686018427387904)))=some w1.zG:=by
   cases hb:w1.zG with
   |true=>rfl
   |false=>rw [if_neg O1,if_neg O1]; congr 1; rw [decide_eq_false_iff_not]; omega
  rw [e4,Option.bind_some]
  exact⟨_,_,m1,⟨w1.f_l,w1.wB,w1.zG⟩,rfl,rfl,r1,b1,fun _=>rfl,f1⟩
 ·rw [h1]
  dsimp only
  have e4:(if w1.zG=true then some true else if(!ok)=true then some true else some (decide (v>4611686018427387904)))=some true:=by
   cases hb:w1.zG with
   |true=>rfl
   | false=>
    rw [if_neg O1]
    rcases h2 with rfl|h2
    ·rfl
    ·cases ok with
     |false=>rfl
     |true=>rw [if_neg O1]; congr 1; rw [decide_eq_true_eq]; omega
  rw [e4,Option.bind_some]
  exact⟨_,_,_,_,rfl,rfl,⟨r1.pos,rfl,r1.len,r1.ws⟩,fun _=>rfl,fun h=>by simp at h,f1⟩
theorem QM {n:Nat} {m:zk} {w:ze} (hn:2000000≤n) (h:RW m w):∃a b m' w',yW n m=some (a,m')∧zo n true w=some (b,w')∧RW m' w'∧(m.zG=true→m'.zG=true)∧(m'.zG=false→a=b)∧w'.f_l=w.f_l:=by
 unfold yW zo
 obtain⟨s,m1,w1,e1,e2,r1,l1,f1,b1,_,_⟩:=pt (n:=n) h
 rw [e1,Option.bind_some,e2,Option.bind_some]
 dsimp only
 obtain⟨v,ok,e3,hv⟩:=WQ (n:=n) (s:=s) (opt:=true) O0 O0
 rw [e3,Option.bind_some]
 dsimp only
 rcases hv with⟨rfl,_,rfl,rfl⟩|⟨hne,hv⟩
 ·rw [if_pos O1]
  have e4:(if w1.zG=true then some true else if(!true)=true then some true else some (decide ((-1:Int)>4611686018427387904)))=some w1.zG:=by
   cases hb:w1.zG<;>rfl
  rw [e4,Option.bind_some]
  exact⟨_,_,m1,⟨w1.f_l,w1.wB,w1.zG⟩,rfl,rfl,r1,b1,fun _=>rfl,f1⟩
 ·have hs:s≠ [45]:=by
   rcases hne with h|h
   ·exact h
   ·cases h
  rw [if_neg (O7 hs),pC O0,Option.bind_some]
  rcases hv with⟨u,h1,rfl,rfl⟩|⟨h1,h2⟩
  ·rw [h1]
   have hu:=(uC h1).2.1
   dsimp only
   have e4:(if w1.zG=true then some true else if(!true)=true then some true else some (decide ((u:Int)>4611686018427387904)))=some w1.zG:=by
    cases hb:w1.zG with
    |true=>rfl
    |false=>rw [if_neg O1,if_neg O1]; congr 1; rw [decide_eq_false_iff_not]; omega
   rw [e4,Option.bind_some]
   exact⟨_,_,m1,⟨w1.f_l,w1.wB,w1.zG⟩,rfl,rfl,r1,b1,fun _=>rfl,f1⟩
  ·rw [h1]
   dsimp only
   have e4:(if w1.zG=true then some true else if(!ok)=true then some true else some (decide (v>4611686018427387904)))=some true:=by
    cases hb:w1.zG with
    |true=>rfl
    | false=>
     rw [if_neg O1]
     rcases h2 with rfl|h2
     ·rfl
     ·cases ok with
      |false=>rfl
      |true=>rw [if_neg O1]; congr 1; rw [decide_eq_true_eq]; omega
   rw [e4,Option.bind_some]
   exact⟨_,_,_,_,rfl,rfl,⟨r1.pos,rfl,r1.len,r1.ws⟩,fun _=>rfl,fun h=>by simp at h,f1⟩
theorem gT {n:Nat} {m:zk} {w:ze} (h:RW m w):∃b:Bool,yO n m=some (if b=true then(0,m)else(32,m))∧yS n w=some (b,w)∧(b=true→m.zG=false):=by
 obtain⟨⟨k,h1,h2,h3⟩,h4,h5,h6⟩:=h
 unfold yO yS
 have hlen:m.yz.length=w.f_l.length-k:=by rw [h3,List.length_drop]
 rw [←h4]
 cases hb:m.zG with
 |true=>exact⟨false,rfl,rfl,fun h=>by cases h⟩
 | false=>
  have e0:(if(false=true)then(some true:Option Bool)else some (decide ((List.length m.yz:Int)>0)))=some (decide ((List.length m.yz:Int)>0)):=if_neg O1
  have e5:(if(!false)=true then some (w.wB==(w.f_l.length:Int))else some false)=some (w.wB==(w.f_l.length:Int)):=if_pos O1
  rw [e0,Option.bind_some,e5,Option.bind_some]
  by_cases c:k=w.f_l.length
  ·rw [if_neg O4]
   exact⟨true,rfl,by rw [h1,c]; simp,fun _=>rfl⟩
  ·rw [if_pos O4]
   refine⟨false,rfl, ?_,fun h=>by cases h⟩
   have:(w.wB==(w.f_l.length:Int))=false:=by rw [h1]; simp only [beq_eq_false_iff_ne,ne_eq]; omega
   rw [this]
theorem WV {n:Nat} {c:UInt8} (s:Bs) (hs:s.length≤1000000):∀(k i:Nat) (p:Bs) (acc:List Bs),p.length≤i→i≤s.length→s.length-i+1<k→(s.take i).drop (i-p.length)=p→c∉p→acc.length≤i →
  wc n s (c.toNat:Int) k acc ((i-p.length:Nat):Int) (i:Int)=some (acc++splitB c (p++s.drop i))
 |0,i,p,acc,_,_,h,_,_,_=>O0
 | k + 1,i,p,acc,hp,hi,hk,he,hcp,ha=>by
  rw [wc,if_pos O4]
  have hss:ssl s ((i-p.length:Nat):Int) (i:Int)=some p:=(if_pos ⟨O0,O0,O0⟩).trans (by rw [Int.toNat_natCast,Int.toNat_natCast,he])
  by_cases hc:i<s.length
  ·rw [if_neg (by rw [beq_iff_eq]; omega)]
   have e:xD s (i:Int)=some (s[i].toNat:Int):=by
    unfold xD; rw [if_pos O0,Int.toNat_natCast,List.getElem?_eq_getElem hc]; rfl
   rw [e,Option.bind_some,Option.bind_some,List.drop_eq_getElem_cons hc]
   by_cases hx:s[i]=c
   ·rw [if_pos (by rw [beq_iff_eq,hx]),hss,Option.bind_some,j2 (by rw [List.length_singleton]; omega),Option.bind_some,Option.bind_some]; dsimp only
    rw [w1 O0,hx,(u1 hcp).2]
    have:=WV (n:=n) (c:=c) s hs k (i+1) [] (acc ++ [p]) O2 O0 O0 O2 O2 O3
    rw [show i+1-List.length ([]:Bs)=i+1 by simp]at this
    rw [this]; simp
   ·rw [if_neg (by rw [beq_iff_eq]; intro h; exact hx (UInt8.toNat_inj.1 O0)),Option.bind_some]; dsimp only
    rw [w1 O0]
    have:=WV (n:=n) (c:=c) s hs k (i+1) (p ++ [s[i]]) acc O3 O0 O0 (by
     rw [List.take_succ_eq_append_getElem hc,show i+1-(p ++ [s[i]]).length=i-p.length by simp,List.drop_append_of_le_length (by rw [List.length_take]; omega),he]) (by simp [hcp,Ne.symm hx]) O0
    rw [show i+1-(p ++ [s[i]]).length=i-p.length by simp]at this
    rw [this]; simp
  ·have hi2:i=s.length:=O0
   rw [if_pos (by rw [beq_iff_eq]; omega),Option.bind_some,if_pos rfl,hss,Option.bind_some,j2 (by rw [List.length_singleton]; omega),Option.bind_some,Option.bind_some]; dsimp only
   obtain⟨k',rfl⟩:∃k',k=k'+1:=⟨k-1,O0⟩
   rw [wc,w1 O0,if_neg O4,List.drop_eq_nil_of_le O0,List.append_nil,(u1 hcp).1]
theorem Z8 {n:Nat} {c:UInt8} {s:Bs} (hs:s.length≤1000000) (hn:s.length+2≤n):xh n s (c.toNat:Int)=some (splitB c s):=by
 unfold xh
 have:=WV (n:=n) (c:=c) s hs n 0 [] [] O2 O0 O0 O2 O2 O2
 rw [show((0-List.length ([]:Bs):Nat):Int)=0 by rfl,show((0:Nat):Int)=0 by rfl]at this
 rw [this]; simp
theorem Jo {n:Nat} {p:List Bs} {ws:List Bs} (hp:p.length≤2000000) (hs:∀s∈p,s.length≤1000000) (hn:2000000≤n):∀(k i:Nat) (a b:List Int) (bad:Bool),i≤p.length→p.length-i<k→a.length=i→b.length=i→(bad=false→a=b) →
  ∃a' b' bad',wR n p k a (i:Int) ws bad=some (a',ws,bad')∧xN n p k b (i:Int) bad=some (b',bad')∧(bad=true→bad'=true)∧(bad'=false→a'=b')∧a'.length≤p.length
 |0,i,_,_,_,_,h,_,_,_=>O0
 | k + 1,i,a,b,bad,hi,hk,ha,hb,hab=>by
  rw [wR,xN]
  by_cases c:i<p.length
  ·have hl:=hs _ (List.getElem_mem c)
   rw [if_pos O4,if_pos O4,un c,Option.bind_some,Option.bind_some,pC O0,Option.bind_some]
   obtain⟨v,ok,e3,hv⟩:=WQ (n:=n) (s:=p[i]) (opt:=false) O0 O0
   rw [e3,Option.bind_some]
   have hv:(∃u:Nat,Z5 p[i]=some u∧v=u∧ok=true)∨(Z5 p[i]=none∧(ok=false∨v>4611686018427387904)):=by
    rcases hv with⟨_,h,_⟩|⟨_,h⟩
    ·cases h
    ·exact h
   have la:∀x:Int,jO 8 a [x]=some (a ++ [x]):=fun x=>j2 (by rw [List.length_singleton]; omega)
   have lb:∀x:Int,jO 8 b [x]=some (b ++ [x]):=fun x=>j2 (by rw [List.length_singleton]; omega)
   rcases hv with⟨u,h1,rfl,rfl⟩|⟨h1,h2⟩
   ·rw [h1]
    have hu:=(uC h1).2.1
    dsimp only
    have e4:(if bad=true then some true else if(!true)=true then some true else some (decide ((u:Int)>4611686018427387904)))=some bad:=by
     cases hb:bad with
     |true=>rfl
     |false=>rw [if_neg O1,if_neg O1]; congr 1; rw [decide_eq_false_iff_not]; omega
    rw [e4,Option.bind_some,la,Option.bind_some,lb,Option.bind_some,w1 O0]
    exact Jo hp hs hn k (i+1) _ _ bad O0 O0 (by simp [ha]) (by simp [hb]) (fun h=>by rw [hab h])
   ·rw [h1]
    dsimp only
    have e4:(if bad=true then some true else if(!ok)=true then some true else some (decide (v>4611686018427387904)))=some true:=by
     cases hb:bad with
     |true=>rfl
     | false=>
      rw [if_neg O1]
      rcases h2 with rfl|h2
      ·rfl
      ·cases ok with
       |false=>rfl
       |true=>rw [if_neg O1]; congr 1; rw [decide_eq_true_eq]; omega
    rw [e4,Option.bind_some,la,Option.bind_some,lb,Option.bind_some,w1 O0]
    obtain⟨a',b',bad',f1,f2,f3,f4⟩:=Jo (ws:=ws) hp hs hn k (i+1) (a ++ [0]) (b ++ [v]) true O0 O0 (by simp [ha]) (by simp [hb]) (fun h=>by cases h)
    exact⟨a',b',bad',f1,f2,fun _=>f3 rfl,f4⟩
  ·rw [if_neg O4,if_neg O4]
   exact⟨a,b,bad,rfl,rfl,fun h=>h,hab,O0⟩
theorem Kt {n:Nat} {m:zk} {w:ze} (hn:2000000≤n) (h:RW m w):∃a b m' w',wr n m=some (a,m')∧xn n w=some (b,w')∧RW m' w'∧(m.zG=true→m'.zG=true)∧(m'.zG=false→a=b∧a.length≤1000001)∧w'.f_l=w.f_l:=by
 unfold wr xn
 obtain⟨s,m1,w1,e1,e2,r1,l1,f1,b1,_,_⟩:=pt (n:=n) h
 rw [e1,Option.bind_some,e2,Option.bind_some]
 dsimp only
 by_cases c:s= [45]
 ·subst c
  rw [if_pos O1,if_pos O1]
  exact⟨_,_,m1,w1,rfl,rfl,r1,b1,fun _=>⟨rfl,O1⟩,f1⟩
 ·rw [if_neg (O7 c),if_neg (O7 c),ga O0 O0,Option.bind_some,show xh n s 44=some (splitB 44 s)from Z8 (c:=44) l1 O0,Option.bind_some]
  have hlen:(splitB 44 s).length≤1000001:=by
   rw [j7]; have:= @List.count_le_length _ _ (44:UInt8) s; omega
  obtain⟨a,b,bad,g1,g2,g3,g4⟩:=Jo (n:=n) (p:=splitB 44 s) (ws:=m1.yz) O0 (fun x hx=>by have:=kw hx; omega) hn n 0 [] [] m1.zG O0 O0 rfl rfl (fun _=>rfl)
  rw [show((0:Nat):Int)=0 from rfl]at g1 g2
  rw [g1,Option.bind_some,←r1.bad,g2,Option.bind_some]
  exact⟨a,b,_,_,rfl,rfl,⟨r1.pos,rfl,r1.len,r1.ws⟩,fun h=>g3 (b1 h),fun h=>⟨(g4.1 h),by have:=g4.2; omega⟩,f1⟩
theorem Xg (n:Nat) (a:Int):bv n a=yK n a:=rfl
theorem Dx:∀x:Fin 256,(match yK 0 ((x.val:Nat):Int)with|some v=>decide (-1≤v)&&decide (v≤15)|none=>false)=true:=by decide +kernel
theorem U3 {n:Nat} (b:UInt8):∃v,yK n ((b.toNat:Nat):Int)=some v∧ -1≤v∧v≤15:=by
 have h:=Dx ⟨b.toNat,b.toNat_lt⟩
 have e:yK n ((b.toNat:Nat):Int)=yK 0 ((b.toNat:Nat):Int):=rfl
 rw [e]
 cases hg:yK 0 ((b.toNat:Nat):Int)with
 |none=>simp only [hg]at h; cases h
 | some v=>
  simp only [hg,iE,decide_eq_true_eq]at h
  exact⟨v,rfl,h⟩
theorem Gd:∀a b:Fin 16,wrap .u8 (ior .i64 (wrap .i64 ((a.val:Int)*16)) (b.val:Int))=wrap .u8 (wrap .i64 (wrap .i64 ((16:Int)*(a.val:Int))+(b.val:Int))):=by decide +kernel
theorem Dv {a b:Int} (ha:0≤a∧a≤15) (hb:0≤b∧b≤15):wrap .u8 (ior .i64 (wrap .i64 (a*16)) b)=wrap .u8 (wrap .i64 (wrap .i64 ((16:Int)*a)+b)):=by
 have:=Gd ⟨a.toNat,O0⟩ ⟨b.toNat,O0⟩
 simp only at this
 rw [show((a.toNat:Nat):Int)=a by omega,show((b.toNat:Nat):Int)=b by omega]at this
 exact this
theorem J5 {n:Nat} {s:Bs} (hs:s.length≤1000000) (he:s.length%2=0):∀(k i:Nat) (a:List Int),i≤s.length→i%2=0→s.length-i<k→a.length≤i→∃r,vA n s k a (i:Int)=some r∧wK n s k a (i:Int)=some r∧∀l,r= .nxt l→l.length≤s.length
 |0,i,_,_,_,h,_=>O0
 | k + 1,i,a,hi,hm,hk,ha=>by
  rw [vA,wK]
  by_cases c:i<s.length
  ·have c2:i+1<s.length:=O0
   have e2:wrap .i64 ((i:Int)+1)=((i+1:Nat):Int):=w1 O0
   have e3:wrap .i64 ((i:Int)+2)=((i+2:Nat):Int):=by rw [jX O0]; omega
   obtain⟨x,hx,hx1,hx2⟩:=U3 (n:=n) s[i]
   obtain⟨y,hy,hy1,hy2⟩:=U3 (n:=n) s[i+1]
   rw [if_pos O4,if_pos O4,e2,YU c,YU c2,Option.bind_some,Option.bind_some,Option.bind_some,Option.bind_some,Xg,Xg,hx,hy,Option.bind_some,Option.bind_some,Option.bind_some,Option.bind_some]
   by_cases d:x<0
   ·rw [if_pos (by rw [decide_eq_true_eq]; exact d),Option.bind_some,if_pos rfl,Option.bind_some,if_pos rfl]
    exact⟨_,rfl,rfl,fun l h=>by cases h⟩
   ·rw [if_neg (by rw [decide_eq_true_eq]; exact d),Option.bind_some,Option.bind_some]
    by_cases d2:y<0
    ·rw [if_pos (by rw [decide_eq_true_eq]; exact d2),if_pos (by rw [decide_eq_true_eq]; exact d2)]
     exact⟨_,rfl,rfl,fun l h=>by cases h⟩
    ·rw [if_neg (by rw [decide_eq_true_eq]; exact d2),if_neg (by rw [decide_eq_true_eq]; exact d2),Dv ⟨O0,hx2⟩ ⟨O0,hy2⟩,j2 (by rw [List.length_singleton]; omega),Option.bind_some,e3]
     exact J5 hs he k (i+2) _ O0 O0 O0 (by rw [List.length_append,List.length_singleton]; omega)
  ·rw [if_neg O4,if_neg O4]
   exact⟨_,rfl,rfl,fun l h=>by cases h; omega⟩
theorem VE {n:Nat} {s:Bs} (hs:s.length≤1000000) (hn:2000000≤n):∃b ok,jg n s=some (b,ok)∧vv n s=some (b,ok):=by
 unfold jg vv
 by_cases c:((Int.tmod (List.length s:Int) 2) !=0)=true
 ·rw [if_pos c,if_pos c]; exact⟨_,_,rfl,rfl⟩
 ·rw [if_neg c,if_neg c]
  have he:s.length%2=0:=by
   simp only [bne_iff_ne,ne_eq,Decidable.not_not]at c
   rw [Int.tmod_eq_emod_of_nonneg O0]at c
   omega
  obtain⟨r,h1,h2,_⟩:=J5 (n:=n) hs he n 0 [] O0 O0 O0 O2
  rw [show((0:Nat):Int)=0 from rfl]at h1 h2
  rw [h1,h2]
  cases r with
  |ret x=>exact⟨_,_,rfl,rfl⟩
  |nxt l=>exact⟨_,_,rfl,rfl⟩
def UR (n:Nat) (l:List Bs) (b:Bs):Prop:=b= []∨∃s∈l,jg n s=some (b,true)
theorem WB {n:Nat} {m:zk} {w:ze} (hn:2000000≤n) (h:RW m w):∃a m' w',yx n m=some (a,m')∧yG n w=some (a,w')∧RW m' w'∧(m.zG=true→m'.zG=true)∧(m'.zG=false→UR n w.f_l a)∧w'.f_l=w.f_l:=by
 unfold yx yG
 obtain⟨s,m1,w1,e1,e2,r1,l1,f1,b1,i1,_⟩:=pt (n:=n) h
 rw [e1,Option.bind_some,e2,Option.bind_some]
 dsimp only
 by_cases c:s= [45]
 ·subst c
  rw [if_pos O1,if_pos O1]
  exact⟨_,m1,w1,rfl,rfl,r1,b1,fun _=> .inl rfl,f1⟩
 ·rw [if_neg (O7 c),if_neg (O7 c)]
  obtain⟨b,ok,g1,g2⟩:=VE (n:=n) (s:=s) l1 hn
  rw [g1,Option.bind_some,g2,Option.bind_some,r1.bad]
  dsimp only
  obtain ⟨y,hy⟩:∃y,(if w1.zG=true then some true else if(!ok)=true then some true else some (b==([]:Bs)))=some y:=by
   cases w1.zG with
   |true=>exact⟨_,rfl⟩
   | false=>
    cases ok with
    |false=>exact⟨_,rfl⟩
    |true=>exact⟨_,rfl⟩
  rw [hy,Option.bind_some,Option.bind_some]
  refine⟨_,_,_,rfl,rfl,⟨r1.pos,rfl,r1.len,r1.ws⟩,fun h=> ?_,fun h=> ?_,f1⟩
  ·have:=b1 h
   rw [r1.bad]at this
   rw [this]at hy
   injection hy with hy
   exact hy.symm
  ·have h:y=false:=h
   subst h
   cases hb:w1.zG with
   |true=>rw [hb]at hy; cases hy
   | false=>
    rw [hb,if_neg O1]at hy
    cases ok with
    |false=>cases hy
    |true=>exact .inr ⟨s,i1 (by rw [r1.bad]; exact hb),g1⟩
theorem PR {n:Nat} {s:Bs} (hs:s.length≤1048576):((10:UInt8)∉s∧vN n s [10]=some (s,[],false))∨∃p r,s=p++10::r∧(10:UInt8)∉p∧vN n s [10]=some (p,r,true):=by
 unfold vN wY ZU
 rw [if_pos O0,Option.bind_some]
 rcases Z4 10 s with⟨h1,h2⟩|⟨p,r,h1,h2,h3⟩
 ·rw [h1,if_neg O1]; exact .inl ⟨h2,rfl⟩
 ·right
  have hlen:s.length=p.length+(r.length+1):=by rw [h1]; simp
  have e1:ssl s 0 (p.length:Int)=some p:=by
   have:=qN (s:=s) (i:=0) (j:=p.length) O0 O0
   rw [show((0:Nat):Int)=0 from rfl]at this
   rw [this,h1]; simp
  have e2:wrap .i64 ((p.length:Int)+(List.length ([10]:Bs):Int))=((p.length+1:Nat):Int):=by rw [jX O3]; simp
  have e3:ssl s ((p.length+1:Nat):Int) (List.length s)=some r:=by
   rw [qN O0 (Nat.le_refl _),List.take_length,h1]; simp
  rw [h2,if_pos O4,e1,Option.bind_some,e2,e3]
  exact⟨p,r,h1,h3,rfl⟩
theorem VX {n:Nat} (s:Bs) (hs:s.length≤1048576):∀(k i:Nat) (p:Bs) (acc:List Bs),p.length≤i→i≤s.length→s.length-i<k→(s.take i).drop (i-p.length)=p→(10:UInt8)∉p→acc.length≤i →
  ∃L t,splitB 10 (p++s.drop i)=L ++ [t]∧t.length≤s.length∧wH n s k acc ((i-p.length:Nat):Int) (i:Int)=some (acc++L,((s.length-t.length:Nat):Int))
 |0,i,p,acc,_,_,h,_,_,_=>O0
 | k + 1,i,p,acc,hp,hi,hk,he,hcp,ha=>by
  rw [wH]
  by_cases hc:i<s.length
  ·have hss:ssl s ((i-p.length:Nat):Int) (i:Int)=some p:=(if_pos ⟨O0,O0,O0⟩).trans (by rw [Int.toNat_natCast,Int.toNat_natCast,he])
   rw [if_pos O4,YU hc,Option.bind_some,List.drop_eq_getElem_cons hc]
   by_cases hx:s[i]=10
   ·have e:((s[i].toNat:Nat):Int)==10:=by rw [hx]; rfl
    rw [if_pos e,hss,Option.bind_some,j2 (by rw [List.length_singleton]; omega),Option.bind_some,Option.bind_some]; dsimp only
    rw [w1 O0,hx,(u1 hcp).2]
    obtain⟨L,t,f1,f2,f3⟩:=VX (n:=n) s hs k (i+1) [] (acc ++ [p]) O2 O0 O0 O2 O2 O3
    rw [show i+1-List.length ([]:Bs)=i+1 by simp,List.nil_append]at *
    exact⟨p::L,t,by rw [f1]; rfl,f2,by rw [f3]; simp⟩
   ·rw [if_neg (by rw [beq_iff_eq]; intro h; exact hx (UInt8.toNat_inj.1 (by have:(10:UInt8).toNat=10:=rfl; omega))),Option.bind_some]; dsimp only
    rw [w1 O0]
    obtain ⟨L,t,f1,f2,f3⟩:=VX (n:=n) s hs k (i+1) (p ++ [s[i]]) acc O3 O0 O0 (by
     rw [List.take_succ_eq_append_getElem hc,show i+1-(p ++ [s[i]]).length=i-p.length by simp,List.drop_append_of_le_length (by rw [List.length_take]; omega),he]) (by simp [hcp,Ne.symm hx]) O0
    rw [show i+1-(p ++ [s[i]]).length=i-p.length by simp]at f3
    exact⟨L,t,by rw [←f1]; simp,f2,f3⟩
  ·rw [if_neg O4,List.drop_eq_nil_of_le O0,List.append_nil,(u1 hcp).1]
   exact⟨[],p,rfl,O0,by rw [List.append_nil,show i=s.length by omega]⟩
theorem Gb {n:Nat} {s:Bs} (hs:s.length≤1048576) (hn:2000000≤n):∃L t,splitB 10 s=L ++ [t]∧ux n s=some (L,decide (t= [])):=by
 unfold ux
 obtain⟨L,t,h1,h2,h3⟩:=VX (n:=n) s hs n 0 [] [] O2 O0 O0 O2 O2 O2
 rw [List.nil_append,List.drop_zero]at h1
 rw [show((0-List.length ([]:Bs):Nat):Int)=0 from rfl,show((0:Nat):Int)=0 from rfl,List.nil_append]at h3
 refine⟨L,t,h1, ?_⟩
 rw [h3,Option.bind_some]
 congr 2
 by_cases c:t= []
 ·subst c; simp
 ·have:0<t.length:=by
   cases t with
   |nil=>exact absurd rfl c
   |cons _ _=>simp
  rw [decide_eq_false c,beq_eq_false_iff_ne]
  omega
def plV (m:Nat) (x:Nat):Bool:=match jW (m+1000) (x:Int),um (m+1000) (x:Int),jW 1000 (x:Int),jt (m+1000) [UInt8.ofNat x]with
 |some a,some b,some c,some h=>(a==b)&&(a==c)&&decide (h.length=2)
 |_,_,_,_=>false
theorem co (m:Nat):((List.range 256).all fun x=>plV m x)=true:=O5
def plB (b:UInt8):Bool:=(jW 1000 (b.toNat:Int)).getD false
theorem D6 {n:Nat} (hn:1000≤n) (b:UInt8):jW n ((b.toNat:Nat):Int)=some (plB b)∧um n ((b.toNat:Nat):Int)=some (plB b)∧∃h,jt n [b]=some h∧h.length=2:=by
 obtain⟨m,rfl⟩:∃m,n=m+1000:=⟨n-1000,O0⟩
 have h:=List.all_eq_true.1 (co m) b.toNat (by rw [List.mem_range]; exact b.toNat_lt)
 unfold plV at h
 rw [UInt8.ofNat_toNat]at h
 split at h
 ·rename_i a c d e h1 h2 h3 h4
  simp only [iE,beq_iff_eq,decide_eq_true_eq]at h
  obtain⟨⟨rfl,rfl⟩,h5⟩:=h
  refine⟨?_, ?_,e,h4,h5⟩
  ·rw [h1]; unfold plB; rw [h3]; rfl
  ·rw [h2]; unfold plB; rw [h3]; rfl
 ·cases h
theorem JT {n:Nat} {s:Bs} (hs:s.length≤1000000) (hn:2000000≤n) (hb:(92:UInt8)∉s):∀(k i:Nat) (a:List Int),i≤s.length→s.length-i<k→a.length≤i →
  uA n s k a (i:Int)=some (if(s.drop i).all plB=true then .nxt (a++(s.drop i).map fun c=>(c.toNat:Int))else .ret ([],false))
 |0,i,_,_,h,_=>O0
 | k + 1,i,a,hi,hk,ha=>by
  rw [uA]
  by_cases c:i<s.length
  ·have hne:s[i]≠92:=fun e=>hb (e▸List.getElem_mem c)
   rw [if_pos O4,YU c,Option.bind_some,(D6 O0 s[i]).1,Option.bind_some,List.drop_eq_getElem_cons c,List.all_cons]
   cases hp:plB s[i]with
   | true=>
    rw [if_pos rfl,Option.bind_some,j2 (by rw [List.length_singleton]; omega),Option.bind_some]
    dsimp only [yM]
    rw [w1 O0,JT hs hn hb k (i+1) _ O0 O0 (by rw [List.length_append,List.length_singleton]; omega),Bool.true_and]
    congr 1
    split
    ·simp only [List.map_cons,List.append_assoc,List.singleton_append]
    ·rfl
   | false=>
    rw [if_neg O1,Option.bind_some,if_pos (by
     rw [bne_iff_ne]; intro e; exact hne (UInt8.toNat_inj.1 (by have:(92:UInt8).toNat=92:=rfl; omega))),Option.bind_some,if_pos rfl]
    rfl
  ·rw [if_neg O4,List.drop_eq_nil_of_le O0]
   simp
theorem DI (s:Bs):b2s (s.map fun c=>(c.toNat:Int))=s:=by
 unfold b2s
 rw [List.map_map]
 conv=>rhs; rw [←List.map_id s]
 apply List.map_congr_left
 intro x _
 simp
theorem GT {n:Nat} {s:Bs} (hs:s.length≤1000000) (hn:2000000≤n) (hb:(92:UInt8)∉s):qY n s=some (if s.all plB=true then(s,true)else([],false)):=by
 unfold qY
 have h:=JT (n:=n) hs hn hb n 0 [] O0 O0 O2
 rw [show((0:Nat):Int)=0 from rfl,List.drop_zero,List.nil_append]at h
 rw [h]
 by_cases c:s.all plB=true
 ·rw [if_pos c,if_pos c]; dsimp only [yM]; rw [DI]
 ·rw [if_neg c,if_neg c]; rfl
theorem cC {s:Bs} {i:Nat} (h:i<s.length):ssl s (i:Int) ((i+1:Nat):Int)=some [s[i]]:=by
 rw [qN O0 O0]
 congr 1
 rw [List.take_succ_eq_append_getElem h,List.drop_append_of_le_length (by rw [List.length_take]; omega),List.drop_eq_nil_of_le (by rw [List.length_take]; omega)]
 rfl
theorem Kj {n:Nat} {s:Bs} (hs:s.length≤1000000) (hn:1000≤n):∀(k i:Nat) (a:Bs),i≤s.length→s.length-i<k→a.length≤3*i →
  ∃r,wy n s k a (i:Int)=some (a++r)∧((s.drop i).all plB=true→r=s.drop i)∧(¬(s.drop i).all plB=true→s.length-i<r.length)
 |0,i,_,_,h,_=>O0
 | k + 1,i,a,hi,hk,ha=>by
  rw [wy]
  by_cases c:i<s.length
  ·obtain ⟨_,h2,h,h3,h4⟩:=D6 hn s[i]
   rw [if_pos O4,YU c,Option.bind_some,h2,Option.bind_some,w1 O0,cC c,Option.bind_some,Option.bind_some,List.drop_eq_getElem_cons c,List.all_cons]
   cases hp:plB s[i]with
   | true=>
    obtain⟨r,e1,e2,e3⟩:=Kj hs hn k (i+1) (a ++ [s[i]]) O0 O0 (by rw [List.length_append,List.length_singleton]; omega)
    rw [if_pos rfl,qV (by rw [List.length_singleton]; omega),Option.bind_some,Option.bind_some,e1]
    refine⟨s[i]::r,by rw [List.append_assoc]; rfl, ?_, ?_⟩
    ·intro h; rw [Bool.true_and]at h; rw [e2 h]
    ·intro h; rw [Bool.true_and]at h; have:=e3 h; rw [List.length_cons]; omega
   | false=>
    obtain⟨r,e1,e2,e3⟩:=Kj hs hn k (i+1) (a++92::h) O0 O0 (by rw [List.length_append,List.length_cons]; omega)
    rw [if_neg O1,h3,Option.bind_some,qV (by rw [List.length_singleton]; omega),Option.bind_some,qV (by rw [List.length_append,List.length_singleton]; omega),Option.bind_some,Option.bind_some,List.singleton_append,e1]
    refine⟨92::h++r,by rw [List.append_assoc], ?_, ?_⟩
    ·intro h; cases h
    ·intro _
     rw [List.length_append,List.length_cons,h4]
     by_cases q:(s.drop (i+1)).all plB=true
     ·rw [e2 q,List.length_drop]; omega
     ·have:=e3 q; omega
  ·rw [if_neg O4,List.drop_eq_nil_of_le O0]
   exact⟨[],by rw [List.append_nil],fun _=>rfl,fun h=>absurd rfl h⟩
theorem Pu {n:Nat} {s:Bs} (hs:s.length≤1000000) (hn:2000000≤n):∃r,ua n s=some r∧(s.all plB=true→r=s)∧(¬s.all plB=true→s.length<r.length):=by
 obtain⟨r,e1,e2,e3⟩:=Kj hs (n:=n) O0 n 0 [] O0 O0 O2
 rw [List.drop_zero]at e2 e3
 refine⟨r, ?_,e2,e3⟩
 unfold ua
 rw [show(0:Int)=((0:Nat):Int)from rfl,e1]; rfl
theorem W5 {n:Nat} {s:Bs} (hs:s.length≤1000000) (hb:(92:UInt8)∉s):∀(k i:Nat),i≤s.length→s.length-i<k →
  wi n s k (s.take i) (i:Int)=some (.nxt s)
 |0,i,_,h=>O0
 | k + 1,i,hi,hk=>by
  rw [wi]
  by_cases c:i<s.length
  ·have hne:s[i]≠92:=fun e=>hb (e▸List.getElem_mem c)
   rw [if_pos O4,YU c,Option.bind_some,if_pos (by
     rw [bne_iff_ne]; intro e; exact hne (UInt8.toNat_inj.1 (by have:(92:UInt8).toNat=92:=rfl; omega))),w1 O0,cC c,Option.bind_some,qV (by rw [List.length_singleton,List.length_take]; omega),Option.bind_some]
   dsimp only [yM]
   rw [w1 O0,←List.take_succ_eq_append_getElem c]
   exact W5 hs hb k (i+1) O0 O0
  ·rw [if_neg O4,List.take_of_length_le O0]
theorem QB {n:Nat} {s:Bs} (hs:s.length≤1000000) (hn:2000000≤n) (hb:(92:UInt8)∉s):wL n s=some (if s.all plB=true then(s,true)else([],false)):=by
 unfold wL
 have h:=W5 (n:=n) hs hb n 0 O0 O0
 rw [List.take_zero]at h
 rw [show(0:Int)=((0:Nat):Int)from rfl,h]
 obtain⟨r,e1,e2,e3⟩:=Pu hs hn
 dsimp only [yM]
 rw [e1,Option.bind_some]
 by_cases c:s.all plB=true
 ·rw [if_pos c,e2 c,if_neg O2]
 ·have:=e3 c
  rw [if_neg c,if_pos (by
   rw [Bool.not_eq_true',beq_eq_false_iff_ne]; intro e; rw [e]at this; omega)]
end Go.Abs
end
