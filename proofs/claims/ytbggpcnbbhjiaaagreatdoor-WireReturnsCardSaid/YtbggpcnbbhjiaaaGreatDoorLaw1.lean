/- The typed Lean form of WireReturns gives true for every list of at most 9223372036854775807 numbers. -/
import Derived.Test.YtbggpcnbbhjiaaaGreatDoorW3
set_option linter.unusedVariables false
set_option linter.unusedSimpArgs false
set_option linter.unnecessarySimpa false
section
set_option maxRecDepth 100000
namespace Go.Abs
open Go Go.Proofs
abbrev Bs:=List UInt8
theorem wt {x:Int} (h: -9223372036854775808≤x∧x≤9223372036854775807):IntKind.wrap .i64 x=x:=IntWalk.i64_in x h
theorem wr8 {x:Int} (h0:0≤x) (h1:x≤255):IntKind.wrap .u8 x=x:=by
 obtain⟨n,rfl⟩:=Int.eq_ofNat_of_zero_le h0
 have hn:n<256:=by omega
 have:∀n:Nat,n<256→IntKind.wrap .u8 (n:Int)=n:=by
  intro n hn
  have:=List.all_eq_true.1 (show((List.range 256).all fun n:Nat=>IntKind.wrap .u8 (n:Int)==(n:Int))=true by kernel_rfl) n (by simpa using hn)
  simpa using this
 exact this n hn
theorem V1 {x y:Nat} (hx:x<9223372036854775808) (hy:y<9223372036854775808):wq .i64 (x:Int) (y:Int)=((x &&& y:Nat):Int):=by
 show IntKind.wrap .i64 (((BitVec.ofInt 64 (x:Int) &&& BitVec.ofInt 64 (y:Int)).toNat:Nat):Int)=_
 rw [BitVec.ofInt_natCast,BitVec.ofInt_natCast]
 have h3:(BitVec.ofNat 64 x &&& BitVec.ofNat 64 y).toNat=x &&& y:=by
  rw [BitVec.toNat_and,BitVec.toNat_ofNat,BitVec.toNat_ofNat,Nat.mod_eq_of_lt (by omega),Nat.mod_eq_of_lt (by omega)]
 rw [h3]
 have:x &&& y≤x:=Nat.and_le_left
 exact wt (by omega)
theorem BB {x y:Nat} (hx:x<9223372036854775808) (hy:y<9223372036854775808):ior .i64 (x:Int) (y:Int)=((x|||y:Nat):Int):=by
 show IntKind.wrap .i64 (((BitVec.ofInt 64 (x:Int)|||BitVec.ofInt 64 (y:Int)).toNat:Nat):Int)=_
 rw [BitVec.ofInt_natCast,BitVec.ofInt_natCast]
 have h3:(BitVec.ofNat 64 x|||BitVec.ofNat 64 y).toNat=x|||y:=by
  rw [BitVec.toNat_or,BitVec.toNat_ofNat,BitVec.toNat_ofNat,Nat.mod_eq_of_lt (by omega),Nat.mod_eq_of_lt (by omega)]
 rw [h3]
 have:x|||y<2^63:=Nat.or_lt_two_pow (by simpa using hx) (by simpa using hy)
 exact wt (by omega)
theorem BR {v x i:Nat} (h:2^i*v+x<9223372036854775808) (hx:x<2^i):ior .i64 ((2^i*v:Nat):Int) (x:Int)=((2^i*v+x:Nat):Int):=by
 rw [BB (by omega) (by omega),←Nat.two_pow_add_eq_or_of_lt hx]
theorem b9 {s:Bs} {i:Nat} (h:i<s.length):uE s (i:Int)=some ((s[i]).toNat:Int):=by
 simp [uE,h]
theorem yf {α:Type} {l:List α} {i:Nat} (h:i<l.length):z6 l (i:Int)=some l[i]:=by
 simp [z6,h]
theorem bJ {s:Bs} {i j:Nat} (h:i≤j) (hj:j≤s.length):ssl s (i:Int) (j:Int)=some ((s.take j).drop i):=by
 unfold ssl; rw [if_pos (by omega)]; simp
theorem pT {s t:Bs} (h:s.length+t.length≤9223372036854775807):dt s t=some (s++t):=by
 unfold dt; rw [if_pos h]
theorem yZ {α:Type} {b:Nat} {l m:List α} (h:(l.length+m.length)*b≤140737488355328):u4 b l m=some (l++m):=by
 unfold u4; rw [if_pos h]
theorem w1 {i:Nat} (h:i<9223372036854775807):IntKind.wrap .i64 ((i:Int)+1)=((i+1:Nat):Int):=by rw [wt (by omega)]; omega
theorem JQ (c:UInt8):c.toNat<256:=c.toNat_lt
theorem kL {α β:Type} {c:Option α} {f:α→Option β} (h:∃a,c=some a) (k:∀a,c=some a→∃y,f a=some y):∃y,c.bind f=some y:=by
 obtain⟨a,ha⟩:=h
 obtain⟨y,hy⟩:=k a ha
 exact⟨y,by rw [ha]; exact hy⟩
theorem jI {α:Type} {c:Prop} [Decidable c] {a b:Option α} (h1:c→∃y,a=some y) (h2:¬c→∃y,b=some y):∃y,(if c then a else b)=some y:=by
 by_cases hc:c
 ·rw [if_pos hc]; exact h1 hc
 ·rw [if_neg hc]; exact h2 hc
theorem Kk {R X Z:Type} {o:Option (Ctl R X)} {g:R→Option Z} {f:X→Option Z} (h:∃c,o=some c) (k1:∀r,o=some (.ret r)→∃y,g r=some y) (k2:∀x,o=some (.nxt x)→∃y,f x=some y):∃y,xJ o g f=some y:=by
 obtain⟨c,hc⟩:=h
 rw [hc]
 cases c with
 |ret r=>exact k1 r hc
 |nxt x=>exact k2 x hc
theorem bm {s:Bs} {i:Int} (h0:0≤i) (h1:i<s.length):∃x,uE s i=some x:=by
 obtain⟨n,rfl⟩:=Int.eq_ofNat_of_zero_le h0
 exact⟨_,b9 (by omega)⟩
theorem ul {α:Type} {s:List α} {i:Int} (h0:0≤i) (h1:i<s.length):∃x,z6 s i=some x:=by
 obtain⟨n,rfl⟩:=Int.eq_ofNat_of_zero_le h0
 exact⟨_,yf (by omega)⟩
theorem Pp {s:Bs} {i j:Int} (h0:0≤i) (h1:i≤j) (h2:j≤s.length):∃x,ssl s i j=some x:=by
 unfold ssl; rw [if_pos ⟨h0,h1,h2⟩]; exact⟨_,rfl⟩
abbrev E0:zd:=⟨0,[],[]⟩
def num (l:Bs):Nat:=l.foldl (fun n c=>256*n+c.toNat) 0
def least:Nat→Nat
 |0=>0
 |1=>128
 |2=>256
 |_=>65536
def w4 (b:Bs):zd×Bs×Int:=
 match b with
 | []=>(E0,[],3)
 | t::r=>if t.toNat%32=31 then(E0,[],5)else match r with
  | []=>(E0,[],3)
  | c::s=>
   if c.toNat=128∨131<c.toNat then(E0,[],6)
   else if c.toNat<128 then(if s.length<c.toNat then(E0,[],3)else(⟨t.toNat,s.take c.toNat,t::c::s.take c.toNat⟩,s.drop c.toNat,0))
   else if s.length<c.toNat-128 then(E0,[],3)
   else if num (s.take (c.toNat-128))<least (c.toNat-128)∨131072<num (s.take (c.toNat-128))then(E0,[],6)
   else if s.length-(c.toNat-128)<num (s.take (c.toNat-128))then(E0,[],3)
   else(⟨t.toNat,(s.drop (c.toNat-128)).take (num (s.take (c.toNat-128))),t::c::s.take (c.toNat-128+num (s.take (c.toNat-128)))⟩,s.drop (c.toNat-128+num (s.take (c.toNat-128))),0)
theorem cg (t:UInt8):(wq .i64 (t.toNat:Int) 31==31)=decide (t.toNat%32=31):=by
 have:∀n:Nat,n<256→(wq .i64 (n:Int) 31==31)=decide (n%32=31):=by
  intro n hn
  have:=List.all_eq_true.1 (show((List.range 256).all fun n:Nat=>(wq .i64 (n:Int) 31==31)==decide (n%32=31))=true by kernel_rfl) n (by simpa using hn)
  simpa using this
 exact this _ (JQ t)
theorem rl1 {n:Nat} (x:Bs):∀(k i v:Nat),i≤x.length→x.length-i<k→x.length≤3→v<256^i→uQ n x k (v:Int) (i:Int)=some (((x.drop i).foldl (fun n c=>256*n+c.toNat) v:Nat):Int)
 |0,i,v,_,h,_,_=>by omega
 | k+1,i,v,hi,hk,h3,hv=>by
  rw [uQ]
  by_cases hc:i<x.length
  ·have hl:(s2b x).length=x.length:=by simp [s2b]
   rw [if_pos (by simp [hl]; exact hc),yf (by rw [hl]; exact hc)]
   have hg:(s2b x)[i]'(by rw [hl]; exact hc)=((x[i]).toNat:Int):=by simp [s2b]
   rw [hg]
   simp only [Option.bind_some]
   have hb:=JQ x[i]
   have hv2:v<65536:=Nat.lt_of_lt_of_le hv (Nat.le_trans (Nat.pow_le_pow_right (by omega) (show i≤2 by omega)) (by decide))
   have e1:IntKind.wrap .i64 ((v:Int)*256)=((2^8*v:Nat):Int):=by rw [wt (by omega)]; omega
   rw [e1,wt (x:=((x[i]).toNat:Int)) (by omega),BR (i:=8) (by omega) hb,w1 (by omega)]
   have hd:x.drop i=x[i]::x.drop (i+1):=by rw [List.drop_eq_getElem_cons hc]
   rw [hd,List.foldl_cons]
   refine rl1 x k (i+1) _ (by omega) (by omega) h3 ?_
   rw [Nat.pow_succ]
   omega
  ·have:i=x.length:=by omega
   subst this
   simp [s2b]
theorem VE {n:Nat} {b:Bs} (hb:b.length≤4611686018427387904) (hn:5≤n):qc n b=some (w4 b):=by
 unfold qc w4
 match b with
 | []=>simp
 | t :: r =>
  have h0:uE (t::r) 0=some (t.toNat:Int):=by simp [uE]
  have ht:=JQ t
  rw [h0]
  simp only [Option.bind_some]
  rw [wt (x:=(t.toNat:Int)) (by omega),cg]
  rw [if_neg (by simp)]
  by_cases h31:t.toNat%32=31
  ·simp [h31]
  ·simp only [h31,decide_false,Bool.false_eq_true,if_false]
   match r with
   | []=>simp
   | c :: s=>
    have h1:uE (t::c::s) 1=some (c.toNat:Int):=by simp [uE]
    have hc:=JQ c
    rw [if_neg (by simp; omega),h1]
    simp only [Option.bind_some]
    rw [wt (x:=(c.toNat:Int)) (by omega)]
    by_cases hA:c.toNat=128∨131<c.toNat
    ·have:(if((c.toNat:Int)==128)=true then some true else some (decide ((c.toNat:Int)>131)))=some true:=by
      by_cases h:c.toNat=128
      ·rw [if_pos (by simp; omega)]
      ·rw [if_neg (by simp; omega)]; simp; omega
     rw [this,if_pos hA]; rfl
    ·have :(if((c.toNat:Int)==128)=true then some true else some (decide ((c.toNat:Int)>131)))=some false:=by
      rw [if_neg (by simp; omega)]; simp; omega
     rw [this,if_neg hA]
     simp only [Option.bind_some,Bool.false_eq_true,if_false]
     have hlen:(t::c::s).length=s.length+2:=rfl
     have fin:∀(m k:Nat),m≤131072→k≤s.length→k≤3 →
       (if (decide (IntKind.wrap .i64 (((t::c::s).length:Int)-((k+2:Nat):Int))<(m:Int)))=true then some ((zd.mk 0 ([]:Bs) ([]:Bs)),([]:Bs),(3:Int))else
        ((ssl (t::c::s) ((k+2:Nat):Int) (IntKind.wrap .i64 (((k+2:Nat):Int)+(m:Int)))).bind fun x56=>
         (ssl (t::c::s) 0 (IntKind.wrap .i64 (((k+2:Nat):Int)+(m:Int)))).bind fun x57=>
         (ssl (t::c::s) (IntKind.wrap .i64 (((k+2:Nat):Int)+(m:Int))) ((t::c::s).length)).bind fun x58=>
         some ((zd.mk (t.toNat:Int) x56 x57),x58,0)))=
       some (if s.length-k<m then(E0,[],3)else(⟨t.toNat,(s.drop k).take m,t::c::s.take (k+m)⟩,s.drop (k+m),0)):=by
      intro m k hm hk hk3
      rw [wt (by rw [hlen]; omega),hlen]
      by_cases hz:s.length-k<m
      ·rw [if_pos (by simp; omega),if_pos hz]
      ·rw [if_neg (by simp; omega),if_neg hz]
       have e1:IntKind.wrap .i64 (((k+2:Nat):Int)+(m:Int))=((k+2+m:Nat):Int):=by rw [wt (by omega)]; omega
       rw [e1,show(0:Int)=((0:Nat):Int)from rfl,bJ (by omega) (by rw [hlen]; omega),bJ (by omega) (by rw [hlen]; omega),bJ (by rw [←hlen]; omega) (by rw [hlen]; omega)]
       simp only [Option.bind_some,Option.some.injEq,Prod.mk.injEq,zd.mk.injEq,true_and,and_true]
       have e2:k+2+m=(k+m)+2:=by omega
       rw [e2]
       refine⟨⟨?_, ?_⟩, ?_⟩
       ·simp [List.take_succ_cons,List.drop_take]
       ·simp [List.take_succ_cons]
       ·simp [List.take_of_length_le]
     by_cases hB:c.toNat<128
     ·rw [if_neg (by simp; omega),if_pos hB]
      simp only [xJ]
      have:=fin c.toNat 0 (by omega) (by omega) (by omega)
      simp only [Nat.zero_add,Nat.sub_zero,List.drop_zero]at this
      exact this
     ·rw [if_pos (by simp; omega),if_neg hB]
      have e3:IntKind.wrap .i64 ((c.toNat:Int)-128)=((c.toNat-128:Nat):Int):=by rw [wt (by omega)]; omega
      have e4:IntKind.wrap .i64 ((2:Int)+((c.toNat-128:Nat):Int))=((c.toNat-128+2:Nat):Int):=by rw [wt (by omega)]; omega
      rw [e3,e4,hlen]
      generalize hk:c.toNat-128=k at *
      have hk3:k≤3:=by omega
      by_cases hC:s.length<k
      ·rw [if_pos (by simp; omega),if_pos hC]
       simp [xJ]
      ·rw [if_neg (by simp; omega),if_neg hC]
       have hx:ssl (t::c::s) 2 ((k+2:Nat):Int)=some (s.take k):=by
        rw [show(2:Int)=((2:Nat):Int)from rfl,bJ (by omega) (by rw [hlen]; omega)]
        simp [List.take_succ_cons]
       rw [hx]
       simp only [Option.bind_some]
       have hr:=rl1 (n:=n) (s.take k) n 0 0 (by omega) (by simp; omega) (by simp; omega) (by simp)
       simp only [List.drop_zero]at hr
       rw [show((0:Nat):Int)=0 from rfl]at hr
       rw [hr]
       have hle:gJ n (k:Int)=some (least k:Int):=by
        have:k=1∨k=2∨k=3:=by omega
        rcases this with rfl|rfl|rfl<;>rfl
       rw [hle]
       simp only [Option.bind_some]
       show xJ ((if decide (((num (s.take k):Nat):Int)<(least k:Int))=true then some true else some (decide (((num (s.take k):Nat):Int)>131072))).bind _) _ _=_
       by_cases hD:(num (s.take k)<least k∨131072<num (s.take k))
       ·have:(if decide (((num (s.take k):Nat):Int)<(least k:Int))=true then some true else some (decide (((num (s.take k):Nat):Int)>131072)))=some true:=by
         by_cases h:(num (s.take k)<least k)
         ·rw [if_pos (by simp; omega)]
         ·rw [if_neg (by simp; omega)]; simp; omega
        rw [this,if_pos hD]; rfl
       ·have:(if decide (((num (s.take k):Nat):Int)<(least k:Int))=true then some true else some (decide (((num (s.take k):Nat):Int)>131072)))=some false:=by
         rw [if_neg (by simp; omega)]; simp; omega
        rw [this,if_neg hD]
        simp only [Option.bind_some,Bool.false_eq_true,if_false,xJ]
        exact fin (num (s.take k)) k (by omega) (by omega) hk3
theorem Xh {b:Bs} (h:(w4 b).2.2=0):b=(w4 b).1.qP++(w4 b).2.1∧2≤(w4 b).1.qP.length∧(w4 b).1.zq.length+2≤(w4 b).1.qP.length∧∃t:UInt8,(w4 b).1.zT=(t.toNat:Int):=by
 unfold w4 at h ⊢
 match b with
 | []=>simp at h
 | t :: r =>
  simp only at h ⊢
  by_cases h31:t.toNat%32=31
  ·simp [h31]at h
  ·simp only [h31,if_false]at h ⊢
   match r with
   | []=>simp at h
   | c :: s=>
    simp only at h ⊢
    by_cases hA:c.toNat=128∨131<c.toNat
    ·simp [hA]at h
    ·rw [if_neg hA]at h ⊢
     by_cases hB:c.toNat<128
     ·rw [if_pos hB]at h ⊢
      by_cases hC:s.length<c.toNat
      ·simp [hC]at h
      ·rw [if_neg hC]
       refine⟨by simp,by simp,by simp,t,rfl⟩
     ·rw [if_neg hB]at h ⊢
      by_cases hC:s.length<c.toNat-128
      ·simp [hC]at h
      ·rw [if_neg hC]at h ⊢
       by_cases hD:(num (s.take (c.toNat-128))<least (c.toNat-128)∨131072<num (s.take (c.toNat-128)))
       ·simp [hD]at h
       ·rw [if_neg hD]at h ⊢
        by_cases hE:(s.length-(c.toNat-128)<num (s.take (c.toNat-128)))
        ·simp [hE]at h
        ·rw [if_neg hE]
         refine⟨by simp,by simp, ?_,t,rfl⟩
         simp; omega
def jZ (b:Bs):zd×Int:=if(w4 b).2.2≠0 then(E0,(w4 b).2.2)else if(w4 b).2.1≠ []then(E0,4)else((w4 b).1,0)
theorem Xa {n:Nat} {b:Bs} (hb:b.length≤4611686018427387904) (hn:5≤n):jR n b=some (jZ b):=by
 unfold jR jZ
 rw [VE hb hn]
 simp only [Option.bind_some]
 by_cases h:(w4 b).2.2=0
 ·by_cases h2:(w4 b).2.1= []<;>simp [h,h2]
 ·simp [h]
def bp:Nat→Bs→List zd→List zd×Int
 |0,_,acc=>(acc,0)
 |k+1,b,acc=>if b= []then(acc,0)else if(w4 b).2.2≠0 then([],(w4 b).2.2)else bp k (w4 b).2.1 (acc ++ [(w4 b).1])
def tList (b:Bs):List zd×Int:=bp (b.length+1) b []
theorem W9:∀(k k':Nat) (b:Bs) (acc:List zd),b.length<k→b.length<k'→bp k b acc=bp k' b acc
 |0,_,b,_,h,_=>by omega
 |_,0,b,_,_,h=>by omega
 | k + 1,k'+1,b,acc,h,h'=>by
  simp only [bp]
  by_cases hb:b= []
  ·simp [hb]
  ·rw [if_neg hb,if_neg hb]
   by_cases hr:(w4 b).2.2=0
   ·obtain ⟨h1,h2,_⟩:=Xh hr
    have hl:(w4 b).2.1.length+2≤b.length:=by
     have:=congrArg List.length h1
     rw [List.length_append]at this; omega
    rw [if_neg (by simp [hr]),if_neg (by simp [hr])]
    exact W9 k k' _ _ (by omega) (by omega)
   ·rw [if_pos hr,if_pos hr]
theorem W0 {n:Nat} (hn:5≤n):∀(k:Nat) (b:Bs) (acc:List zd),b.length<k→b.length+acc.length≤1000000000000 →
  xJ (uT n k b acc) (fun r=>some r) (fun y=>some (y,0))=some (bp k b acc)
 |0,b,_,h,_=>by omega
 | k + 1,b,acc,h,hs=>by
  rw [uT,bp]
  by_cases hb:b= []
  ·simp [hb,xJ]
  ·rw [if_pos (by simp [hb]),if_neg hb,VE (by omega) hn]
   simp only [Option.bind_some]
   by_cases hr:(w4 b).2.2=0
   ·obtain ⟨h1,h2,_⟩:=Xh hr
    have hl:(w4 b).2.1.length+2≤b.length:=by
     have:=congrArg List.length h1
     rw [List.length_append]at this; omega
    rw [if_neg (by simp [hr]),if_neg (by simp [hr]),yZ (by simp; omega)]
    simp only [Option.bind_some]
    exact W0 hn k _ _ (by omega) (by simp; omega)
   ·rw [if_pos (by simpa using hr),if_pos hr]; rfl
theorem qS {n:Nat} {b:Bs} (hb:b.length≤1000000000000) (hn:b.length+5≤n):ui n b=some (tList b):=by
 unfold ui
 rw [W0 (by omega) n b [] (by omega) (by simpa using hb)]
 exact congrArg some (W9 _ _ _ _ (by omega) (by omega))
def gb (s:Bs) (i:Nat):Nat:=(s.getD i 0).toNat
theorem Gc (s:Bs) (i:Nat):gb s i<256:=JQ _
def uN (n b0 b1 b2 b3:Nat):Option Nat:=
 if b0<32∨b0=127 then none
 else if b0<128 then some 1
 else if b0/32=6 then(if 1<n∧b1/64=2∧128≤b0%32*64+b1%64 then some 2 else none)
 else if b0/16=14 then(if 2<n∧b1/64=2∧b2/64=2∧2048≤b0%16*4096+b1%64*64+b2%64∧(b0%16*4096+b1%64*64+b2%64<55296∨57344≤b0%16*4096+b1%64*64+b2%64)then some 3 else none)
 else if b0/8=30 then(if 3<n∧b1/64=2∧b2/64=2∧b3/64=2∧65536≤b0%8*262144+b1%64*4096+b2%64*64+b3%64∧b0%8*262144+b1%64*4096+b2%64*64+b3%64≤1114111 then some 4 else none)
 else none
def uAt (s:Bs) (i:Nat):Option Nat:=uN (s.length-i) (gb s i) (gb s (i+1)) (gb s (i+2)) (gb s (i+3))
theorem Dx {s:Bs} {i d:Nat} (hi:i<s.length) (h:uAt s i=some d):0<d∧i+d≤s.length:=by
 unfold uAt uN at h
 repeat' split at h
 all_goals first|(simp at h; done)|(simp at h; omega)
def XU (s:Bs):Nat→Nat→Bool
 |0,_=>true
 |k+1,i=>if i<s.length then(match uAt s i with|none=>false|some d=>XU s k (i+d))else true
theorem dro (b b':Bool):(if b=true then some true else some b')=some (b||b'):=by cases b<;>rfl
theorem dan (b b':Bool):(if b=true then some b' else some false)=some (b&&b'):=by cases b<;>rfl
theorem eD (a:Bs) (i:Nat):Zf a i=Lib.decodeN (a.length-i) (gb a i) (gb a (i+1)) (gb a (i+2)) (gb a (i+3)):=by
 have hg:∀j:Nat,((⟨a.toArray⟩:ByteArray).get! j).toNat=gb a j:=by
  intro j
  show(a.toArray[j]!).toNat=_
  rw [getElem!_def]
  unfold gb
  by_cases h:j<a.length
  ·simp [h]
  ·simp [h]; rfl
 unfold Zf
 rw [Lib.decode_at,hg,hg,hg,hg]
 rfl
theorem nb {n i:Nat} {a:Bs} (hi:i<a.length):((ssl a ((i:Nat):Int) (List.length a)).bind fun x74=>(uf n x74 ([239,191,189]:List UInt8)).bind fun r75=>some (!r75))=some (!(decide (3≤a.length-i∧gb a i=239∧gb a (i+1)=191∧gb a (i+2)=189))):=by
 have h1:ssl a (i:Int) (a.length:Int)=some (a.drop i):=by rw [bJ (by omega) (by omega)]; simp
 rw [h1]
 simp only [Option.bind_some,uf,yx]
 have hl:(a.drop i).length=a.length-i:=by simp
 have e:∀j,gb a (i+j)=((a.drop i).getD j 0).toNat:=by intro j; unfold gb; simp
 by_cases hc:3≤a.length-i
 ·have h3:3≤(a.drop i).length:=by omega
  rw [if_pos (by rw [decide_eq_true_eq,hl]; simp; omega)]
  have e0:=e 0; have e1:=e 1; have e2:=e 2
  rw [Nat.add_zero]at e0
  rw [e0,e1,e2]
  generalize a.drop i=l at *
  match l,h3 with
  | x::y::z::r,_=>
   have:ssl (x::y::z::r) 0 (([239,191,189]:List UInt8).length:Int)=some [x,y,z]:=by
    unfold ssl; rw [if_pos (by simp; omega)]; rfl
   rw [this]
   simp only [Option.bind_some,hc,true_and]
   congr 2
   have t:∀u:UInt8,∀m:Nat,m<256→((u.toNat=m)↔u=UInt8.ofNat m):=by
    intro u m hm
    constructor
    ·intro h; rw [←h]; simp
    ·intro h; rw [h]; simp; omega
   have q:([x,y,z]==([239,191,189]:List UInt8))=decide ([x,y,z]=([239,191,189]:List UInt8)):=by
    rw [Bool.eq_iff_iff,beq_iff_eq,decide_eq_true_eq]
   rw [q]
   apply decide_eq_decide.2
   simp only [List.getD_cons_zero,List.getD_cons_succ,List.cons.injEq,and_true]
   rw [t x 239 (by omega),t y 191 (by omega),t z 189 (by omega)]
   rfl
 ·rw [if_neg (by rw [decide_eq_true_eq,hl]; simp; omega)]
  simp [hc]
theorem KI {n k i:Nat} {a:Bs} (hi:i<a.length):
  wJ n a (k+1) i=match uAt a i with|none=>some (.ret false)|some d=>wJ n a k (i+d):=by
 have g0:=Gc a i
 have g1:=Gc a (i+1)
 have g2:=Gc a (i+2)
 have g3:=Gc a (i+3)
 rw [wJ,if_pos (by rw [Nat.blt_eq]; exact hi),nb hi,eD]
 simp only [dro,dan,Option.bind_some]
 unfold uAt
 generalize a.length-i=m at *
 generalize gb a i=b0 at *
 generalize gb a (i+1)=b1 at *
 generalize gb a (i+2)=b2 at *
 generalize gb a (i+3)=b3 at *
 by_cases c1:b0<128
 ·have:Lib.decodeN m b0 b1 b2 b3=(b0,1):=by unfold Lib.decodeN; rw [if_pos c1]
  rw [this]
  by_cases c2:b0<32∨b0=127
  ·rw [if_pos (by rw [Bool.or_eq_true,decide_eq_true_eq,beq_iff_eq]; simp only; omega)]
   unfold uN; rw [if_pos c2]
  ·rw [if_neg (by rw [Bool.or_eq_true,decide_eq_true_eq,beq_iff_eq]; simp only; omega),if_neg (by rw [Bool.and_eq_true,beq_iff_eq]; simp only; omega)]
   unfold uN; rw [if_neg c2,if_pos c1]
 have key:uN m b0 b1 b2 b3=if(Lib.decodeN m b0 b1 b2 b3).1=65533∧¬(3≤m∧b0=239∧b1=191∧b2=189)then none else some (Lib.decodeN m b0 b1 b2 b3).2:=by
  unfold uN Lib.decodeN
  rw [if_neg (show ¬(b0<32∨b0=127)by omega),if_neg c1,if_neg c1]
  by_cases c2:b0/32=6
  ·rw [if_pos c2]
   by_cases d1:1<m∧b1/64=2
   ·rw [if_pos (show(b0/32=6∧(1<m∧b1/64=2))from⟨c2,d1⟩)]
    by_cases d2:b0%32*64+b1%64≥128
    ·rw [if_pos (show(1<m∧b1/64=2∧128≤b0%32*64+b1%64)from⟨d1.1,d1.2,d2⟩),if_pos d2,if_neg (by simp only; omega)]
    ·rw [if_neg (show ¬(1<m∧b1/64=2∧128≤b0%32*64+b1%64)from fun h=>d2 h.2.2),if_neg d2,if_pos ⟨rfl,by omega⟩]
   ·rw [if_neg (show ¬(1<m∧b1/64=2∧128≤b0%32*64+b1%64)by omega),if_neg (show ¬(b0/32=6∧(1<m∧b1/64=2))by omega),if_neg (show ¬(b0/16=14∧(1<m∧b1/64=2)∧(2<m∧b2/64=2))by omega),if_neg (show ¬(b0/8=30∧(1<m∧b1/64=2)∧(2<m∧b2/64=2)∧(3<m∧b3/64=2))by omega),if_pos ⟨rfl,by omega⟩]
  rw [if_neg c2,if_neg (show ¬(b0/32=6∧(1<m∧b1/64=2))from fun h=>c2 h.1)]
  by_cases c3:b0/16=14
  ·rw [if_pos c3]
   by_cases d1:2<m∧b1/64=2∧b2/64=2
   ·rw [if_pos (show(b0/16=14∧(1<m∧b1/64=2)∧(2<m∧b2/64=2))from⟨c3,⟨by omega,d1.2.1⟩,d1.1,d1.2.2⟩)]
    generalize hv:b0%16*4096+b1%64*64+b2%64=v
    by_cases d2:v≥2048∧(v<55296∨57344≤v∧v≤1114111)
    ·rw [if_pos (show(2<m∧b1/64=2∧b2/64=2∧2048≤v∧(v<55296∨57344≤v))from⟨d1.1,d1.2.1,d1.2.2,by omega,by omega⟩),if_pos d2,if_neg (by simp only; omega)]
    ·rw [if_neg (show ¬(2<m∧b1/64=2∧b2/64=2∧2048≤v∧(v<55296∨57344≤v))from fun h=>d2 ⟨h.2.2.2.1,by omega⟩),if_neg d2,if_pos ⟨rfl,by omega⟩]
   ·rw [if_neg (show ¬(2<m∧b1/64=2∧b2/64=2∧2048≤b0%16*4096+b1%64*64+b2%64∧(b0%16*4096+b1%64*64+b2%64<55296∨57344≤b0%16*4096+b1%64*64+b2%64))from fun h=>d1 ⟨h.1,h.2.1,h.2.2.1⟩),if_neg (show ¬(b0/16=14∧(1<m∧b1/64=2)∧(2<m∧b2/64=2))from fun h=>d1 ⟨h.2.2.1,h.2.1.2,h.2.2.2⟩),if_neg (show ¬(b0/8=30∧(1<m∧b1/64=2)∧(2<m∧b2/64=2)∧(3<m∧b3/64=2))by omega),if_pos ⟨rfl,by omega⟩]
  rw [if_neg c3,if_neg (show ¬(b0/16=14∧(1<m∧b1/64=2)∧(2<m∧b2/64=2))from fun h=>c3 h.1)]
  by_cases c4:b0/8=30
  ·rw [if_pos c4]
   by_cases d1:3<m∧b1/64=2∧b2/64=2∧b3/64=2
   ·rw [if_pos (show(b0/8=30∧(1<m∧b1/64=2)∧(2<m∧b2/64=2)∧(3<m∧b3/64=2))from⟨c4,⟨by omega,d1.2.1⟩,⟨by omega,d1.2.2.1⟩,d1.1,d1.2.2.2⟩)]
    generalize hv:b0%8*262144+b1%64*4096+b2%64*64+b3%64=v
    by_cases d2:v≥65536∧(v<55296∨57344≤v∧v≤1114111)
    ·rw [if_pos (show(3<m∧b1/64=2∧b2/64=2∧b3/64=2∧65536≤v∧v≤1114111)from⟨d1.1,d1.2.1,d1.2.2.1,d1.2.2.2,by omega,by omega⟩),if_pos d2,if_neg (by simp only; omega)]
    ·rw [if_neg (show ¬(3<m∧b1/64=2∧b2/64=2∧b3/64=2∧65536≤v∧v≤1114111)from fun h=>d2 ⟨h.2.2.2.2.1,by omega⟩),if_neg d2,if_pos ⟨rfl,by omega⟩]
   ·rw [if_neg (show ¬(3<m∧b1/64=2∧b2/64=2∧b3/64=2∧65536≤b0%8*262144+b1%64*4096+b2%64*64+b3%64∧b0%8*262144+b1%64*4096+b2%64*64+b3%64≤1114111)from fun h=>d1 ⟨h.1,h.2.1,h.2.2.1,h.2.2.2.1⟩),if_neg (show ¬(b0/8=30∧(1<m∧b1/64=2)∧(2<m∧b2/64=2)∧(3<m∧b3/64=2))from fun h=>d1 ⟨h.2.2.2.1,h.2.1.2,h.2.2.1.2,h.2.2.2.2⟩),if_pos ⟨rfl,by omega⟩]
  rw [if_neg c4,if_neg (show ¬(b0/8=30∧(1<m∧b1/64=2)∧(2<m∧b2/64=2)∧(3<m∧b3/64=2))from fun h=>c4 h.1),if_pos ⟨rfl,by omega⟩]
 have big:127<(Lib.decodeN m b0 b1 b2 b3).1:=by
  unfold Lib.decodeN
  rw [if_neg c1]
  repeat' split
  all_goals simp only
  all_goals omega
 rw [key,if_neg (by rw [Bool.or_eq_true,decide_eq_true_eq,beq_iff_eq]; omega)]
 by_cases c:(Lib.decodeN m b0 b1 b2 b3).1=65533∧¬(3≤m∧b0=239∧b1=191∧b2=189)
 ·rw [if_pos c,if_pos (by rw [Bool.and_eq_true,beq_iff_eq,Bool.not_eq_true',decide_eq_false_iff_not]; exact⟨by omega,c.2⟩)]
 ·rw [if_neg c,if_neg (by rw [Bool.and_eq_true,beq_iff_eq,Bool.not_eq_true',decide_eq_false_iff_not]; intro h; exact c ⟨by omega,h.2⟩)]
theorem Qg {n:Nat} {a:Bs}:∀(k i:Nat),i≤a.length→a.length-i<k→xJ (wJ n a k i) (fun r=>some r) (fun _=>some true)=some (XU a k i)
 |0,i,_,h=>by omega
 | k + 1,i,hi,hk=>by
  rw [XU]
  by_cases hc:i<a.length
  ·rw [KI hc,if_pos hc]
   cases h:uAt a i with
   |none=>rfl
   | some d=>
    have:=Dx hc h
    exact Qg k (i+d) (by omega) (by omega)
  ·rw [wJ,if_neg (by rw [Nat.blt_eq]; exact hc),if_neg hc]; rfl
theorem D0 {n:Nat} {a:Bs} (hn:a.length+5≤n):dN n a=some (XU a n 0):=Qg n 0 (by omega) (by omega)
theorem VT (s:Bs):∀(k k' i:Nat),s.length-i<k→s.length-i<k'→XU s k i=XU s k' i
 |0,_,i,h,_=>by omega
 |_,0,i,_,h=>by omega
 | k + 1,k'+1,i,h,h'=>by
  rw [XU,XU]
  by_cases hc:i<s.length
  ·rw [if_pos hc,if_pos hc]
   cases hu:uAt s i with
   |none=>rfl
   | some d=>
    have:=Dx hc hu
    exact VT s k k' (i+d) (by omega) (by omega)
  ·rw [if_neg hc,if_neg hc]
def prC (b:Nat):Bool:=decide (97≤b∧b≤122)||decide (65≤b∧b≤90)||decide (48≤b∧b≤57)||([32,39,40,41,43,44,45,46,47,58,61,63]:List Nat).contains b
def iaC (b:Nat):Bool:=decide (32≤b∧b≤126)
def Z3 (kind:Int) (s:Bs):Bool:=
 if kind=12 then XU s (s.length+1) 0 else if kind=19 then s.all (fun c=>prC c.toNat)else if kind=22 then s.all (fun c=>iaC c.toNat)else false
theorem eI {n b:Nat} (hn:20≤n) (hb:b<256):j4 n (b:Int)=some (prC b):=by
 obtain⟨m,rfl⟩:∃m,n=m+20:=⟨n-20,by omega⟩
 have:=List.all_eq_true.1 (show((List.range 256).all fun b:Nat=>decide (j4 (m+20) (b:Int)=some (prC b)))=true by kernel_rfl) b (by simpa using hb)
 simpa using this
theorem eU {n b:Nat} (hb:b<256):jV n (b:Int)=some (iaC b):=by
 have:=List.all_eq_true.1 (show((List.range 256).all fun b:Nat=>decide (jV n (b:Int)=some (iaC b)))=true by kernel_rfl) b (by simpa using hb)
 simpa using this
theorem fw {n:Nat} {a:Bs} (hl:a.length≤100000000) (hn:20≤n):∀(k i:Nat),i≤a.length→a.length-i<k→xJ (uP n a k (i:Int)) (fun r=>some r) (fun _=>some true)=some ((a.drop i).all fun c=>prC c.toNat)
 |0,i,_,h=>by omega
 | k + 1,i,hi,hk=>by
  rw [uP]
  by_cases hc:i<a.length
  ·rw [if_pos (by rw [decide_eq_true_eq]; omega),b9 hc,List.drop_eq_getElem_cons hc,List.all_cons]
   simp only [Option.bind_some]
   rw [eI hn (JQ _)]
   simp only [Option.bind_some]
   by_cases hp:prC (a[i]).toNat=true
   ·rw [hp,if_neg (by simp),w1 (by omega),fw hl hn k (i+1) (by omega) (by omega)]; simp
   ·rw [Bool.not_eq_true]at hp
    rw [hp,if_pos (by simp)]; rfl
  ·rw [if_neg (by rw [decide_eq_true_eq]; omega)]
   have:i=a.length:=by omega
   subst this
   simp [xJ]
theorem mD {n:Nat} {a:Bs} (hl:a.length≤100000000):∀(k i:Nat),i≤a.length→a.length-i<k→xJ (vT n a k (i:Int)) (fun r=>some r) (fun _=>some true)=some ((a.drop i).all fun c=>iaC c.toNat)
 |0,i,_,h=>by omega
 | k + 1,i,hi,hk=>by
  rw [vT]
  by_cases hc:i<a.length
  ·rw [if_pos (by rw [decide_eq_true_eq]; omega),b9 hc,List.drop_eq_getElem_cons hc,List.all_cons]
   simp only [Option.bind_some]
   rw [eU (JQ _)]
   simp only [Option.bind_some]
   by_cases hp:iaC (a[i]).toNat=true
   ·rw [hp,if_neg (by simp),w1 (by omega),mD hl k (i+1) (by omega) (by omega)]; simp
   ·rw [Bool.not_eq_true]at hp
    rw [hp,if_pos (by simp)]; rfl
  ·rw [if_neg (by rw [decide_eq_true_eq]; omega)]
   have:i=a.length:=by omega
   subst this
   simp [xJ]
theorem K6 {n:Nat} {k:Int} {a:Bs} (hl:a.length≤100000000) (hn:a.length+20≤n):qT n k a=some (Z3 k a):=by
 unfold qT Z3
 by_cases h1:k=12
 ·rw [if_pos (by simpa using h1),if_pos h1,D0 (by omega)]
  simp only [Option.bind_some]
  rw [VT a n (a.length+1) 0 (by omega) (by omega)]
 rw [if_neg (by simpa using h1),if_neg h1]
 by_cases h2:k=19
 ·rw [if_pos (by simpa using h2),if_pos h2]
  unfold dX
  have:=fw (n:=n) hl (by omega) n 0 (by omega) (by omega)
  rw [show((0:Nat):Int)=0 from rfl,List.drop_zero]at this
  rw [this]; rfl
 rw [if_neg (by simpa using h2),if_neg h2]
 by_cases h3:k=22
 ·rw [if_pos (by simpa using h3),if_pos h3]
  unfold bL
  have:=mD (n:=n) hl n 0 (by omega) (by omega)
  rw [show((0:Nat):Int)=0 from rfl,List.drop_zero]at this
  rw [this]; rfl
 rw [if_neg (by simpa using h3),if_neg h3]
def leB (x y:Bs):Bool:=decide (x≤y)
theorem cA:∀(x y:Bs),Op.bytesLess x y=decide (x<y)
 | [],[]=>by simp [Op.bytesLess]
 |_::_,[]=>by simp [Op.bytesLess]
 | [],_::_=>by simp [Op.bytesLess]
 | a::x,b::y=>by
  rw [Op.bytesLess,cA x y]
  simp only [List.cons_lt_cons_iff]
  by_cases h1:a<b<;>by_cases h2:a=b<;>by_cases h3:x<y<;>simp [h1,h2,h3]
theorem GG (a b c:Bs) (h1:leB a b=true) (h2:leB b c=true):leB a c=true:=by
 unfold leB at *; simp only [decide_eq_true_eq]at *; exact List.le_trans h1 h2
theorem GX (a b:Bs):(leB a b||leB b a)=true:=by
 unfold leB; simp only [Bool.or_eq_true,decide_eq_true_eq]; exact List.le_total a b
theorem my (a b:Bs):Op.bytesLess a b= !leB b a:=by
 rw [cA]; unfold leB
 rw [←decide_not]
 exact decide_eq_decide.2 List.not_le.symm
def Yw (l:List Bs):List Bs:=l.mergeSort leB
theorem Um (l:List Bs):List.Perm (Yw l) l:=List.mergeSort_perm l leB
theorem UX (l:List Bs):(Yw l).length=l.length:=(Um l).length_eq
theorem K5 (l:List Bs):(Yw l).flatten.length=l.flatten.length:=by
 have:=(Um l).flatten
 exact this.length_eq
end Go.Abs
end
