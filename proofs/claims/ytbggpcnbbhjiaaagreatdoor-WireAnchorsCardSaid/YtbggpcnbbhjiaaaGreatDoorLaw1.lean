/- The typed Lean form of WireAnchors gives true for every list of at most 9223372036854775807 numbers and every such list of anchors. -/
import Derived.Test.YtbggpcnbbhjiaaaGreatDoorW4
set_option linter.unusedVariables false
set_option linter.unusedSimpArgs false
set_option linter.unnecessarySimpa false
section
set_option maxRecDepth 100000
namespace Go.Abs
open Go Go.Proofs
abbrev Bs:=List UInt8
theorem xT {x:Int} (h: -9223372036854775808≤x∧x≤9223372036854775807):IntKind.wrap .i64 x=x:=IntWalk.i64_in x h
theorem wr8 {x:Int} (h0:0≤x) (h1:x≤255):IntKind.wrap .u8 x=x:=by
 obtain⟨n,rfl⟩:=Int.eq_ofNat_of_zero_le h0
 have hn:n<256:=by omega
 have:∀n:Nat,n<256→IntKind.wrap .u8 (n:Int)=n:=by
  intro n hn
  have:=List.all_eq_true.1 (show((List.range 256).all fun n:Nat=>IntKind.wrap .u8 (n:Int)==(n:Int))=true by kernel_rfl) n (by simpa using hn)
  simpa using this
 exact this n hn
theorem VS {x y:Nat} (hx:x<9223372036854775808) (hy:y<9223372036854775808):xJ .i64 (x:Int) (y:Int)=((x &&& y:Nat):Int):=by
 show IntKind.wrap .i64 (((BitVec.ofInt 64 (x:Int) &&& BitVec.ofInt 64 (y:Int)).toNat:Nat):Int)=_
 rw [BitVec.ofInt_natCast,BitVec.ofInt_natCast]
 have h3:(BitVec.ofNat 64 x &&& BitVec.ofNat 64 y).toNat=x &&& y:=by
  rw [BitVec.toNat_and,BitVec.toNat_ofNat,BitVec.toNat_ofNat,Nat.mod_eq_of_lt (by omega),Nat.mod_eq_of_lt (by omega)]
 rw [h3]
 have:x &&& y≤x:=Nat.and_le_left
 exact xT (by omega)
theorem BK {x y:Nat} (hx:x<9223372036854775808) (hy:y<9223372036854775808):ior .i64 (x:Int) (y:Int)=((x|||y:Nat):Int):=by
 show IntKind.wrap .i64 (((BitVec.ofInt 64 (x:Int)|||BitVec.ofInt 64 (y:Int)).toNat:Nat):Int)=_
 rw [BitVec.ofInt_natCast,BitVec.ofInt_natCast]
 have h3:(BitVec.ofNat 64 x|||BitVec.ofNat 64 y).toNat=x|||y:=by
  rw [BitVec.toNat_or,BitVec.toNat_ofNat,BitVec.toNat_ofNat,Nat.mod_eq_of_lt (by omega),Nat.mod_eq_of_lt (by omega)]
 rw [h3]
 have:x|||y<2^63:=Nat.or_lt_two_pow (by simpa using hx) (by simpa using hy)
 exact xT (by omega)
theorem Bn {v x i:Nat} (h:2^i*v+x<9223372036854775808) (hx:x<2^i):ior .i64 ((2^i*v:Nat):Int) (x:Int)=((2^i*v+x:Nat):Int):=by
 rw [BK (by omega) (by omega),←Nat.two_pow_add_eq_or_of_lt hx]
theorem jj {s:Bs} {i:Nat} (h:i<s.length):xD s (i:Int)=some ((s[i]).toNat:Int):=by
 simp [xD,h]
theorem ye {α:Type} {l:List α} {i:Nat} (h:i<l.length):zX l (i:Int)=some l[i]:=by
 simp [zX,h]
theorem jc {s:Bs} {i j:Nat} (h:i≤j) (hj:j≤s.length):ssl s (i:Int) (j:Int)=some ((s.take j).drop i):=by
 unfold ssl; rw [if_pos (by omega)]; simp
theorem yC {s t:Bs} (h:s.length+t.length≤9223372036854775807):jt s t=some (s++t):=by
 unfold jt; rw [if_pos h]
theorem wq {α:Type} {b:Nat} {l m:List α} (h:(l.length+m.length)*b≤140737488355328):q7 b l m=some (l++m):=by
 unfold q7; rw [if_pos h]
theorem w1 {i:Nat} (h:i<9223372036854775807):IntKind.wrap .i64 ((i:Int)+1)=((i+1:Nat):Int):=by rw [xT (by omega)]; omega
theorem ZF (c:UInt8):c.toNat<256:=c.toNat_lt
theorem kO {α β:Type} {c:Option α} {f:α→Option β} (h:∃a,c=some a) (k:∀a,c=some a→∃y,f a=some y):∃y,c.bind f=some y:=by
 obtain⟨a,ha⟩:=h
 obtain⟨y,hy⟩:=k a ha
 exact⟨y,by rw [ha]; exact hy⟩
theorem xX {α:Type} {c:Prop} [Decidable c] {a b:Option α} (h1:c→∃y,a=some y) (h2:¬c→∃y,b=some y):∃y,(if c then a else b)=some y:=by
 by_cases hc:c
 ·rw [if_pos hc]; exact h1 hc
 ·rw [if_neg hc]; exact h2 hc
theorem U5 {s:Bs} {i:Int} (h0:0≤i) (h1:i<s.length):∃x,xD s i=some x:=by
 obtain⟨n,rfl⟩:=Int.eq_ofNat_of_zero_le h0
 exact⟨_,jj (by omega)⟩
theorem Pb {α:Type} {s:List α} {i:Int} (h0:0≤i) (h1:i<s.length):∃x,zX s i=some x:=by
 obtain⟨n,rfl⟩:=Int.eq_ofNat_of_zero_le h0
 exact⟨_,ye (by omega)⟩
theorem U4 {s:Bs} {i j:Int} (h0:0≤i) (h1:i≤j) (h2:j≤s.length):∃x,ssl s i j=some x:=by
 unfold ssl; rw [if_pos ⟨h0,h1,h2⟩]; exact⟨_,rfl⟩
abbrev E0:zc:=⟨0,[],[]⟩
def num (l:Bs):Nat:=l.foldl (fun n c=>256*n+c.toNat) 0
def least:Nat→Nat
 |0=>0
 |1=>128
 |2=>256
 |_=>65536
def xn (b:Bs):zc×Bs×Int:=
 match b with
 | []=>(E0,[],3)
 | t::r=>if t.toNat%32=31 then(E0,[],5)else match r with
  | []=>(E0,[],3)
  | c::s=>
   if c.toNat=128∨131<c.toNat then(E0,[],6)
   else if c.toNat<128 then(if s.length<c.toNat then(E0,[],3)else(⟨t.toNat,s.take c.toNat,t::c::s.take c.toNat⟩,s.drop c.toNat,0))
   else if s.length<c.toNat-128 then(E0,[],3)
   else if num (s.take (c.toNat-128))<least (c.toNat-128)∨131072<num (s.take (c.toNat-128))then(E0,[],6)
   else if s.length-(c.toNat-128)<num (s.take (c.toNat-128))then(E0,[],3)
   else(⟨t.toNat,(s.drop (c.toNat-128)).take (num (s.take (c.toNat-128))),t::c::s.take (c.toNat-128+num (s.take (c.toNat-128)))⟩,s.drop (c.toNat-128+num (s.take (c.toNat-128))),0)
theorem P5 (t:UInt8):(xJ .i64 (t.toNat:Int) 31==31)=decide (t.toNat%32=31):=by
 have:∀n:Nat,n<256→(xJ .i64 (n:Int) 31==31)=decide (n%32=31):=by
  intro n hn
  have:=List.all_eq_true.1 (show((List.range 256).all fun n:Nat=>(xJ .i64 (n:Int) 31==31)==decide (n%32=31))=true by kernel_rfl) n (by simpa using hn)
  simpa using this
 exact this _ (ZF t)
theorem rl1 {n:Nat} (x:Bs):∀(k i v:Nat),i≤x.length→x.length-i<k→x.length≤3→v<256^i→jm n x k (v:Int) (i:Int)=some (((x.drop i).foldl (fun n c=>256*n+c.toNat) v:Nat):Int)
 |0,i,v,_,h,_,_=>by omega
 | k+1,i,v,hi,hk,h3,hv=>by
  rw [jm]
  by_cases hc:i<x.length
  ·have hl:(s2b x).length=x.length:=by simp [s2b]
   rw [if_pos (by simp [hl]; exact hc),ye (by rw [hl]; exact hc)]
   have hg:(s2b x)[i]'(by rw [hl]; exact hc)=((x[i]).toNat:Int):=by simp [s2b]
   rw [hg]
   simp only [Option.bind_some]
   have hb:=ZF x[i]
   have hv2:v<65536:=Nat.lt_of_lt_of_le hv (Nat.le_trans (Nat.pow_le_pow_right (by omega) (show i≤2 by omega)) (by decide))
   have e1:IntKind.wrap .i64 ((v:Int)*256)=((2^8*v:Nat):Int):=by rw [xT (by omega)]; omega
   rw [e1,xT (x:=((x[i]).toNat:Int)) (by omega),Bn (i:=8) (by omega) hb,w1 (by omega)]
   have hd:x.drop i=x[i]::x.drop (i+1):=by rw [List.drop_eq_getElem_cons hc]
   rw [hd,List.foldl_cons]
   refine rl1 x k (i+1) _ (by omega) (by omega) h3 ?_
   rw [Nat.pow_succ]
   omega
  ·have:i=x.length:=by omega
   subst this
   simp [s2b]
theorem Vl {n:Nat} {b:Bs} (hb:b.length≤4611686018427387904) (hn:5≤n):qK n b=some (xn b):=by
 unfold qK xn
 match b with
 | []=>simp
 | t :: r =>
  have h0:xD (t::r) 0=some (t.toNat:Int):=by simp [xD]
  have ht:=ZF t
  rw [h0]
  simp only [Option.bind_some]
  rw [xT (x:=(t.toNat:Int)) (by omega),P5]
  rw [if_neg (by simp)]
  by_cases h31:t.toNat%32=31
  ·simp [h31]
  ·simp only [h31,decide_false,Bool.false_eq_true,if_false]
   match r with
   | []=>simp
   | c :: s=>
    have h1:xD (t::c::s) 1=some (c.toNat:Int):=by simp [xD]
    have hc:=ZF c
    rw [if_neg (by simp; omega),h1]
    simp only [Option.bind_some]
    rw [xT (x:=(c.toNat:Int)) (by omega)]
    by_cases hA:c.toNat=128∨131<c.toNat
    ·have:(if((c.toNat:Int)==128)=true then some true else some (decide ((c.toNat:Int)>131)))=some true:=by
      by_cases h:c.toNat=128
      ·rw [if_pos (by simp; omega)]
      ·rw [if_neg (by simp; omega)]; simp; omega
     rw [this,if_pos hA]; rfl
    ·have :(if((c.toNat:Int)==128)=true then some true else some (decide ((c.toNat:Int)>131)))=some false:=by
      rw [if_neg (by simp; omega)]; simp; omega
     rw [this,if_neg hA]
     simp only [Option.bind_some,Bool.false_eq_true,if_false]
     have hlen:(t::c::s).length=s.length+2:=rfl
     have fin:∀(m k:Nat),m≤131072→k≤s.length→k≤3 →
       (if (decide (IntKind.wrap .i64 (((t::c::s).length:Int)-((k+2:Nat):Int))<(m:Int)))=true then some ((zc.mk 0 ([]:Bs) ([]:Bs)),([]:Bs),(3:Int))else
        ((ssl (t::c::s) ((k+2:Nat):Int) (IntKind.wrap .i64 (((k+2:Nat):Int)+(m:Int)))).bind fun x56=>
         (ssl (t::c::s) 0 (IntKind.wrap .i64 (((k+2:Nat):Int)+(m:Int)))).bind fun x57=>
         (ssl (t::c::s) (IntKind.wrap .i64 (((k+2:Nat):Int)+(m:Int))) ((t::c::s).length)).bind fun x58=>
         some ((zc.mk (t.toNat:Int) x56 x57),x58,0)))=
       some (if s.length-k<m then(E0,[],3)else(⟨t.toNat,(s.drop k).take m,t::c::s.take (k+m)⟩,s.drop (k+m),0)):=by
      intro m k hm hk hk3
      rw [xT (by rw [hlen]; omega),hlen]
      by_cases hz:s.length-k<m
      ·rw [if_pos (by simp; omega),if_pos hz]
      ·rw [if_neg (by simp; omega),if_neg hz]
       have e1:IntKind.wrap .i64 (((k+2:Nat):Int)+(m:Int))=((k+2+m:Nat):Int):=by rw [xT (by omega)]; omega
       rw [e1,show(0:Int)=((0:Nat):Int)from rfl,jc (by omega) (by rw [hlen]; omega),jc (by omega) (by rw [hlen]; omega),jc (by rw [←hlen]; omega) (by rw [hlen]; omega)]
       simp only [Option.bind_some,Option.some.injEq,Prod.mk.injEq,zc.mk.injEq,true_and,and_true]
       have e2:k+2+m=(k+m)+2:=by omega
       rw [e2]
       refine⟨⟨?_,?_⟩,?_⟩
       ·simp [List.take_succ_cons,List.drop_take]
       ·simp [List.take_succ_cons]
       ·simp [List.take_of_length_le]
     by_cases hB:c.toNat<128
     ·rw [if_neg (by simp; omega),if_pos hB]
      simp only [ym]
      have:=fin c.toNat 0 (by omega) (by omega) (by omega)
      simp only [Nat.zero_add,Nat.sub_zero,List.drop_zero]at this
      exact this
     ·rw [if_pos (by simp; omega),if_neg hB]
      have e3:IntKind.wrap .i64 ((c.toNat:Int)-128)=((c.toNat-128:Nat):Int):=by rw [xT (by omega)]; omega
      have e4:IntKind.wrap .i64 ((2:Int)+((c.toNat-128:Nat):Int))=((c.toNat-128+2:Nat):Int):=by rw [xT (by omega)]; omega
      rw [e3,e4,hlen]
      generalize hk:c.toNat-128=k at *
      have hk3:k≤3:=by omega
      by_cases hC:s.length<k
      ·rw [if_pos (by simp; omega),if_pos hC]
       simp [ym]
      ·rw [if_neg (by simp; omega),if_neg hC]
       have hx:ssl (t::c::s) 2 ((k+2:Nat):Int)=some (s.take k):=by
        rw [show(2:Int)=((2:Nat):Int)from rfl,jc (by omega) (by rw [hlen]; omega)]
        simp [List.take_succ_cons]
       rw [hx]
       simp only [Option.bind_some]
       have hr:=rl1 (n:=n) (s.take k) n 0 0 (by omega) (by simp; omega) (by simp; omega) (by simp)
       simp only [List.drop_zero]at hr
       rw [show((0:Nat):Int)=0 from rfl]at hr
       rw [hr]
       have hle:gX n (k:Int)=some (least k:Int):=by
        have:k=1∨k=2∨k=3:=by omega
        rcases this with rfl|rfl|rfl<;>rfl
       rw [hle]
       simp only [Option.bind_some]
       show ym ((if decide (((num (s.take k):Nat):Int)<(least k:Int))=true then some true else some (decide (((num (s.take k):Nat):Int)>131072))).bind _) _ _=_
       by_cases hD:(num (s.take k)<least k∨131072<num (s.take k))
       ·have:(if decide (((num (s.take k):Nat):Int)<(least k:Int))=true then some true else some (decide (((num (s.take k):Nat):Int)>131072)))=some true:=by
         by_cases h:(num (s.take k)<least k)
         ·rw [if_pos (by simp; omega)]
         ·rw [if_neg (by simp; omega)]; simp; omega
        rw [this,if_pos hD]; rfl
       ·have:(if decide (((num (s.take k):Nat):Int)<(least k:Int))=true then some true else some (decide (((num (s.take k):Nat):Int)>131072)))=some false:=by
         rw [if_neg (by simp; omega)]; simp; omega
        rw [this,if_neg hD]
        simp only [Option.bind_some,Bool.false_eq_true,if_false,ym]
        exact fin (num (s.take k)) k (by omega) (by omega) hk3
theorem rl2 {n:Nat} {x2:Int} {t c:UInt8} {s:Bs} {k:Nat} (hx:IntKind.wrap .i64 (IntKind.wrap .i64 x2-128)=(k:Int)) (h3:k≤3) (hs:k≤s.length):∀(f i v:Nat),i≤k→k-i<f→v<256^i →
  xO n x2 (t::c::s) f (v:Int) (i:Int)=some (((((s.take k).drop i).foldl (fun n c=>256*n+c.toNat) v:Nat)):Int)
 |0,i,v,_,h,_=>by omega
 | f + 1,i,v,hi,hk,hv=>by
  rw [xO,hx]
  by_cases hc:i<k
  ·have hl:(s.take k).length=k:=by simp; omega
   have hb2:xD (t::c::s) (IntKind.wrap .i64 ((2:Int)+(i:Int)))=some ((s[i]'(by omega)).toNat:Int):=by
    rw [xT (by omega),show(2:Int)+(i:Int)=((i+2:Nat):Int)by omega,jj (by simp; omega)]
    simp
   rw [if_pos (by simp; omega),hb2]
   simp only [Option.bind_some]
   have hb:=ZF (s[i]'(by omega))
   have hv2:v<65536:=Nat.lt_of_lt_of_le hv (Nat.le_trans (Nat.pow_le_pow_right (by omega) (show i≤2 by omega)) (by decide))
   have e1:IntKind.wrap .i64 (IntKind.wrap .i64 ((256:Int)*(v:Int))+IntKind.wrap .i64 ((s[i]'(by omega)).toNat:Int))=((256*v+(s[i]'(by omega)).toNat:Nat):Int):=by
    rw [xT (x:=(256:Int)*(v:Int)) (by omega),xT (x:=((s[i]'(by omega)).toNat:Int)) (by omega),xT (by omega)]; omega
   rw [e1,w1 (by omega)]
   have hd:(s.take k).drop i=s[i]'(by omega)::(s.take k).drop (i+1):=by
    rw [List.drop_eq_getElem_cons (by omega)]; simp
   rw [hd,List.foldl_cons]
   refine rl2 hx h3 hs f (i+1) _ (by omega) (by omega) ?_
   rw [Nat.pow_succ]; omega
  ·have:i=k:=by omega
   subst this
   rw [if_neg (by simp)]
   simp
theorem VQ {n:Nat} {b:Bs} (hb:b.length≤4611686018427387904) (hn:5≤n):wv n b=some (xn b):=by
 unfold wv xn
 match b with
 | []=>simp
 | t :: r =>
  have h0:xD (t::r) 0=some (t.toNat:Int):=by simp [xD]
  have ht:=ZF t
  rw [h0]
  simp only [Option.bind_some]
  have h31':(Int.tmod (t.toNat:Int) 32==31)=decide (t.toNat%32=31):=by
   rw [show Int.tmod (t.toNat:Int) 32=((t.toNat%32:Nat):Int)from rfl]
   by_cases h:t.toNat%32=31
   ·simp [h]
   ·simp [h]; omega
  rw [h31',if_neg (by simp; omega)]
  by_cases h31:t.toNat%32=31
  ·simp [h31]
  ·simp only [h31,decide_false,Bool.false_eq_true,if_false]
   match r with
   | []=>simp
   | c :: s=>
    have h1:xD (t::c::s) 1=some (c.toNat:Int):=by simp [xD]
    have hc:=ZF c
    rw [if_neg (by simp; omega),h1]
    simp only [Option.bind_some]
    rw [xT (x:=(c.toNat:Int)) (by omega)]
    by_cases hA:c.toNat=128∨131<c.toNat
    ·have:(if((c.toNat:Int)==128)=true then some true else some (decide ((c.toNat:Int)>131)))=some true:=by
      by_cases h:c.toNat=128
      ·rw [if_pos (by simp; omega)]
      ·rw [if_neg (by simp; omega)]; simp; omega
     rw [this,if_pos hA]; rfl
    ·have :(if((c.toNat:Int)==128)=true then some true else some (decide ((c.toNat:Int)>131)))=some false:=by
      rw [if_neg (by simp; omega)]; simp; omega
     rw [this,if_neg hA]
     simp only [Option.bind_some,Bool.false_eq_true,if_false]
     have hlen:(t::c::s).length=s.length+2:=rfl
     have fin:∀(m k:Nat),m≤131072→k≤s.length→k≤3 →
       (if (decide (IntKind.wrap .i64 (((t::c::s).length:Int)-((k+2:Nat):Int))<(m:Int)))=true then some ((zc.mk 0 ([]:Bs) ([]:Bs)),([]:Bs),(3:Int))else
        ((xD (t::c::s) 0).bind fun x54=>(ssl (t::c::s) ((k+2:Nat):Int) (IntKind.wrap .i64 (((k+2:Nat):Int)+(m:Int)))).bind fun x56=>
         (ssl (t::c::s) 0 (IntKind.wrap .i64 (((k+2:Nat):Int)+(m:Int)))).bind fun x57=>
         (ssl (t::c::s) (IntKind.wrap .i64 (((k+2:Nat):Int)+(m:Int))) ((t::c::s).length)).bind fun x58=>
         some ((zc.mk (IntKind.wrap .i64 x54) x56 x57),x58,0)))=
       some (if s.length-k<m then(E0,[],3)else(⟨t.toNat,(s.drop k).take m,t::c::s.take (k+m)⟩,s.drop (k+m),0)):=by
      intro m k hm hk hk3
      rw [xT (by rw [hlen]; omega),hlen]
      by_cases hz:s.length-k<m
      ·rw [if_pos (by simp; omega),if_pos hz]
      ·rw [if_neg (by simp; omega),if_neg hz]
       have e1:IntKind.wrap .i64 (((k+2:Nat):Int)+(m:Int))=((k+2+m:Nat):Int):=by rw [xT (by omega)]; omega
       rw [e1,h0]
       simp only [Option.bind_some]
       rw [xT (x:=(t.toNat:Int)) (by omega),show(0:Int)=((0:Nat):Int)from rfl,jc (by omega) (by rw [hlen]; omega),jc (by omega) (by rw [hlen]; omega),jc (by rw [←hlen]; omega) (by rw [hlen]; omega)]
       simp only [Option.bind_some,Option.some.injEq,Prod.mk.injEq,zc.mk.injEq,true_and,and_true]
       have e2:k+2+m=(k+m)+2:=by omega
       rw [e2]
       refine⟨⟨?_,?_⟩,?_⟩
       ·simp [List.take_succ_cons,List.drop_take]
       ·simp [List.take_succ_cons]
       ·simp [List.take_of_length_le]
     by_cases hB:c.toNat<128
     ·rw [if_neg (by simp; omega),if_pos hB]
      simp only [ym]
      have:=fin c.toNat 0 (by omega) (by omega) (by omega)
      simp only [Nat.zero_add,Nat.sub_zero,List.drop_zero]at this
      exact this
     ·rw [if_pos (by simp; omega),if_neg hB]
      have e3:IntKind.wrap .i64 ((c.toNat:Int)-128)=((c.toNat-128:Nat):Int):=by rw [xT (by omega)]; omega
      have e4:IntKind.wrap .i64 ((2:Int)+((c.toNat-128:Nat):Int))=((c.toNat-128+2:Nat):Int):=by rw [xT (by omega)]; omega
      rw [e3,e4,hlen]
      generalize hk:c.toNat-128=k at *
      have hk3:k≤3:=by omega
      by_cases hC:s.length<k
      ·rw [if_pos (by simp; omega),if_pos hC]
       simp [ym]
      ·rw [if_neg (by simp; omega),if_neg hC]
       have hr:=rl2 (n:=n) (x2:=(c.toNat:Int)) (t:=t) (c:=c) (s:=s) (k:=k) (by rw [xT (x:=(c.toNat:Int)) (by omega),e3]) hk3 (by omega) n 0 0 (by omega) (by omega) (by simp)
       rw [show((0:Nat):Int)=0 from rfl]at hr
       rw [hr]
       simp only [Option.bind_some,List.drop_zero]
       have hle:zX ([0,128,256,65536]:List Int) ((k:Nat):Int)=some (least k:Int):=by
        have:k=1∨k=2∨k=3:=by omega
        rcases this with rfl|rfl|rfl<;>rfl
       rw [hle]
       simp only [Option.bind_some]
       show ym ((if decide (((num (s.take k):Nat):Int)<(least k:Int))=true then some true else some (decide (((num (s.take k):Nat):Int)>131072))).bind _) _ _=_
       by_cases hD:(num (s.take k)<least k∨131072<num (s.take k))
       ·have:(if decide (((num (s.take k):Nat):Int)<(least k:Int))=true then some true else some (decide (((num (s.take k):Nat):Int)>131072)))=some true:=by
         by_cases h:(num (s.take k)<least k)
         ·rw [if_pos (by simp; omega)]
         ·rw [if_neg (by simp; omega)]; simp; omega
        rw [this,if_pos hD]; rfl
       ·have:(if decide (((num (s.take k):Nat):Int)<(least k:Int))=true then some true else some (decide (((num (s.take k):Nat):Int)>131072)))=some false:=by
         rw [if_neg (by simp; omega)]; simp; omega
        rw [this,if_neg hD]
        simp only [Option.bind_some,Bool.false_eq_true,if_false,ym]
        exact fin (num (s.take k)) k (by omega) (by omega) hk3
theorem gk {b:Bs} (h:(xn b).2.2=0):b=(xn b).1.wa++(xn b).2.1∧2≤(xn b).1.wa.length∧(xn b).1.zj.length+2≤(xn b).1.wa.length∧∃t:UInt8,(xn b).1.zG=(t.toNat:Int):=by
 unfold xn at h ⊢
 match b with
 | []=>simp at h
 | t :: r =>
  simp only at h ⊢
  by_cases h31:t.toNat%32=31
  ·simp [h31]at h
  ·simp only [h31,if_false]at h ⊢
   match r with
   | []=>simp at h
   | c :: s=>
    simp only at h ⊢
    by_cases hA:c.toNat=128∨131<c.toNat
    ·simp [hA]at h
    ·rw [if_neg hA]at h ⊢
     by_cases hB:c.toNat<128
     ·rw [if_pos hB]at h ⊢
      by_cases hC:s.length<c.toNat
      ·simp [hC]at h
      ·rw [if_neg hC]
       refine⟨by simp,by simp,by simp,t,rfl⟩
     ·rw [if_neg hB]at h ⊢
      by_cases hC:s.length<c.toNat-128
      ·simp [hC]at h
      ·rw [if_neg hC]at h ⊢
       by_cases hD:(num (s.take (c.toNat-128))<least (c.toNat-128)∨131072<num (s.take (c.toNat-128)))
       ·simp [hD]at h
       ·rw [if_neg hD]at h ⊢
        by_cases hE:(s.length-(c.toNat-128)<num (s.take (c.toNat-128)))
        ·simp [hE]at h
        ·rw [if_neg hE]
         refine⟨by simp,by simp,?_,t,rfl⟩
         simp; omega
def vG (b:Bs):zc×Int:=if(xn b).2.2≠0 then(E0,(xn b).2.2)else if(xn b).2.1≠ []then(E0,4)else((xn b).1,0)
theorem Xm {n:Nat} {b:Bs} (hb:b.length≤4611686018427387904) (hn:5≤n):jH n b=some (vG b):=by
 unfold jH vG
 rw [Vl hb hn]
 simp only [Option.bind_some]
 by_cases h:(xn b).2.2=0
 ·by_cases h2:(xn b).2.1= []<;>simp [h,h2]
 ·simp [h]
theorem Yb {n:Nat} {b:Bs} (hb:b.length≤4611686018427387904) (hn:5≤n):xL n b=some (vG b):=by
 unfold xL vG
 rw [VQ hb hn]
 simp only [Option.bind_some]
 by_cases h:(xn b).2.2=0
 ·by_cases h2:(xn b).2.1= []
  ·simp [h,h2]
  ·have:0<(xn b).2.1.length:=List.length_pos_iff.2 h2
   simp [h,h2,this]
 ·simp [h]
def km:Nat→Bs→List zc→List zc×Int
 |0,_,acc=>(acc,0)
 |k+1,b,acc=>if b= []then(acc,0)else if(xn b).2.2≠0 then([],(xn b).2.2)else km k (xn b).2.1 (acc ++ [(xn b).1])
def tList (b:Bs):List zc×Int:=km (b.length+1) b []
theorem Z0:∀(k k':Nat) (b:Bs) (acc:List zc),b.length<k→b.length<k'→km k b acc=km k' b acc
 |0,_,b,_,h,_=>by omega
 |_,0,b,_,_,h=>by omega
 | k + 1,k'+1,b,acc,h,h'=>by
  simp only [km]
  by_cases hb:b= []
  ·simp [hb]
  ·rw [if_neg hb,if_neg hb]
   by_cases hr:(xn b).2.2=0
   ·obtain ⟨h1,h2,_⟩:=gk hr
    have hl:(xn b).2.1.length+2≤b.length:=by
     have:=congrArg List.length h1
     rw [List.length_append]at this; omega
    rw [if_neg (by simp [hr]),if_neg (by simp [hr])]
    exact Z0 k k' _ _ (by omega) (by omega)
   ·rw [if_pos hr,if_pos hr]
theorem WA {n:Nat} (hn:5≤n):∀(k:Nat) (b:Bs) (acc:List zc),b.length<k→b.length+acc.length≤1000000000000 →
  ym (jo n k b acc) (fun r=>some r) (fun y=>some (y,0))=some (km k b acc)
 |0,b,_,h,_=>by omega
 | k + 1,b,acc,h,hs=>by
  rw [jo,km]
  by_cases hb:b= []
  ·simp [hb,ym]
  ·rw [if_pos (by simp [hb]),if_neg hb,Vl (by omega) hn]
   simp only [Option.bind_some]
   by_cases hr:(xn b).2.2=0
   ·obtain ⟨h1,h2,_⟩:=gk hr
    have hl:(xn b).2.1.length+2≤b.length:=by
     have:=congrArg List.length h1
     rw [List.length_append]at this; omega
    rw [if_neg (by simp [hr]),if_neg (by simp [hr]),wq (by simp; omega)]
    simp only [Option.bind_some]
    exact WA hn k _ _ (by omega) (by simp; omega)
   ·rw [if_pos (by simpa using hr),if_pos hr]; rfl
theorem bC {n:Nat} {b:Bs} (hb:b.length≤1000000000000) (hn:b.length+5≤n):je n b=some (tList b):=by
 unfold je
 rw [WA (by omega) n b [] (by omega) (by simpa using hb)]
 exact congrArg some (Z0 _ _ _ _ (by omega) (by omega))
theorem WN {n:Nat} (hn:5≤n):∀(k:Nat) (b:Bs) (acc:List zc),b.length<k→b.length+acc.length≤1000000000000 →
  ym (xR n k b acc) (fun r=>some r) (fun y=>some (y,0))=some (km k b acc)
 |0,b,_,h,_=>by omega
 | k + 1,b,acc,h,hs=>by
  rw [xR,km]
  by_cases hb:b= []
  ·simp [hb,ym]
  ·have hp:0<b.length:=List.length_pos_iff.2 hb
   rw [if_pos (by simp; omega),if_neg hb,VQ (by omega) hn]
   simp only [Option.bind_some]
   by_cases hr:(xn b).2.2=0
   ·obtain ⟨h1,h2,_⟩:=gk hr
    have hl:(xn b).2.1.length+2≤b.length:=by
     have:=congrArg List.length h1
     rw [List.length_append]at this; omega
    rw [if_neg (by simp [hr]),if_neg (by simp [hr]),wq (by simp; omega)]
    simp only [Option.bind_some]
    exact WN hn k _ _ (by omega) (by simp; omega)
   ·rw [if_pos (by simpa using hr),if_pos hr]; rfl
theorem VJ {n:Nat} {b:Bs} (hb:b.length≤1000000000000) (hn:b.length+5≤n):wr n b=some (tList b):=by
 unfold wr
 rw [WN (by omega) n b [] (by omega) (by simpa using hb)]
 exact congrArg some (Z0 _ _ _ _ (by omega) (by omega))
theorem fP (t:UInt8):(xJ .i64 (t.toNat:Int) 32==0)=(Int.tmod (IntKind.wrap .i64 (Int.tdiv (t.toNat:Int) 32)) 2==0):=by
 have:∀n:Nat,n<256→(xJ .i64 (n:Int) 32==0)=(Int.tmod (IntKind.wrap .i64 (Int.tdiv (n:Int) 32)) 2==0):=by
  intro n hn
  have:=List.all_eq_true.1 (show((List.range 256).all fun n:Nat=>(xJ .i64 (n:Int) 32==0)==(Int.tmod (IntKind.wrap .i64 (Int.tdiv (n:Int) 32)) 2==0))=true by kernel_rfl) n (by simpa using hn)
  simpa using this
 exact this _ (ZF t)
theorem Uo {n:Nat} (hn:5≤n) {d:Nat} (hd:d≤15) {rc rc':zc→Int→Option Int}
  (hrc:d<15→∀e:zc,(∃t:UInt8,e.zG=(t.toNat:Int))→e.zj.length≤1000000000000→e.zj.length+5≤n→∃x,rc e ((d+2:Nat):Int)=some x∧rc' e ((d+1:Nat):Int)=some x):
  ∀(k:Nat) (b:Bs),b.length<k→b.length≤1000000000000→b.length+5≤n→∃c,ux n rc ((d+1:Nat):Int) k b=some c∧xB n rc' (d:Int) k b=some c
 |0,b,h,_,_=>by omega
 | k + 1,b,h,hs,hb2=>by
  rw [ux,xB]
  by_cases hb:b= []
  ·subst hb; exact⟨.nxt (),by simp,by simp⟩
  ·have hp:0<b.length:=List.length_pos_iff.2 hb
   rw [if_pos (by simp [hb]),if_pos (by simp; omega),Vl (by omega) hn,VQ (by omega) hn]
   simp only [Option.bind_some]
   by_cases hr:(xn b).2.2=0
   ·obtain ⟨h1,h2,h3,h4⟩:=gk hr
    have hl:(xn b).1.wa.length+(xn b).2.1.length=b.length:=by
     have:=congrArg List.length h1
     rw [List.length_append]at this; omega
    have e0:((xn b).2.2 !=0)=false:=by simp [hr]
    rw [e0,xT (x:=(d:Int)+1) (by omega)]
    simp only [Bool.false_eq_true,if_false]
    by_cases h15:d=15
    ·subst h15; exact⟨.ret 8,by simp,by simp⟩
    ·have e3:(decide ((d:Int)+1≥16))=false:=by simp; omega
     have e4:(decide (((d+1:Nat):Int)≥16))=false:=by simp; omega
     rw [e3,e4]
     simp only [Bool.false_eq_true,if_false]
     obtain⟨x,e1,e2⟩:=hrc (by omega) (xn b).1 h4 (by omega) (by omega)
     rw [w1 (by omega),show((d:Int)+1)=((d+1:Nat):Int)by omega,e1,e2]
     simp only [Option.bind_some]
     by_cases hx:x=0
     ·have e5:(x !=0)=false:=by simp [hx]
      rw [e5]
      simp only [Bool.false_eq_true,if_false]
      exact Uo hn hd hrc k _ (by omega) (by omega) (by omega)
     ·have e5:(x !=0)=true:=by simp [hx]
      rw [e5]; exact⟨_,rfl,rfl⟩
   ·have e0:((xn b).2.2 !=0)=true:=by simp [hr]
    rw [e0]; exact⟨_,rfl,rfl⟩
theorem UE {n:Nat} (hn:5≤n):∀(kk d:Nat),d≤15→16≤kk+d→∀e:zc,(∃t:UInt8,e.zG=(t.toNat:Int))→e.zj.length≤1000000000000→e.zj.length+5≤n →
  ∃x,uA n kk e ((d+1:Nat):Int)=some x∧xa n kk e (d:Int)=some x
 |0,d,h,h',_,_,_,_=>by omega
 | kk+1,d,h,h',e,⟨t,ht⟩,hc,hc2=>by
  rw [uA,xa,ht,fP]
  by_cases hx:(Int.tmod (IntKind.wrap .i64 (Int.tdiv (t.toNat:Int) 32)) 2==0)=true
  ·rw [if_pos hx,if_pos hx]; exact⟨0,rfl,rfl⟩
  ·rw [if_neg hx,if_neg hx]
   obtain ⟨c,e1,e2⟩:=Uo hn h (rc:=uA n kk) (rc':=xa n kk) (fun hd e he h1 h2=>by
    have:=UE hn kk (d+1) (by omega) (by omega) e he h1 h2
    exact this) n e.zj (by omega) hc hc2
   rw [e1,e2]
   cases c with
   |ret r=>exact⟨r,rfl,rfl⟩
   |nxt u=>exact⟨0,rfl,rfl⟩
theorem Ds {n:Nat} {b:Bs} (hb:b.length≤1000000000000) (hn:b.length+20≤n):∃x,jz n b=some x∧wR n b=some x∧(x=0→(vG b).2=0):=by
 unfold jz wR
 rw [Xm (by omega) (by omega),Yb (by omega) (by omega)]
 simp only [Option.bind_some]
 by_cases h:(vG b).2=0
 ·rw [if_neg (by simp [h]),if_neg (by simp [h])]
  have hr:(xn b).2.2=0:=by
   unfold vG at h
   by_cases h':(xn b).2.2=0
   ·exact h'
   ·rw [if_pos h']at h; exact h
  have h1:(vG b).1=(xn b).1∨(vG b).1=E0:=by
   unfold vG; rw [if_neg (by simp [hr])]; split
   ·exact .inr rfl
   ·exact .inl rfl
  obtain⟨k1,k2,k3,k4⟩:=gk hr
  have hl:(xn b).1.wa.length+(xn b).2.1.length=b.length:=by
   have:=congrArg List.length k1
   rw [List.length_append]at this; omega
  obtain ⟨x,e1,e2⟩:=UE (n:=n) (by omega) n 0 (by omega) (by omega) (vG b).1 (by
   rcases h1 with h1|h1<;>rw [h1]
   ·exact k4
   ·exact⟨0,rfl⟩) (by rcases h1 with h1|h1<;>rw [h1]; omega; simp) (by rcases h1 with h1|h1<;>rw [h1]; omega; simp; omega)
  rw [show(1:Int)=((0+1:Nat):Int)from rfl,e1,show(0:Int)=((0:Nat):Int)from rfl,e2]
  exact⟨x,rfl,rfl,fun _=>h⟩
 ·rw [if_pos (by simpa using h),if_pos (by simpa using h)]
  exact⟨_,rfl,rfl,fun h=>h⟩
def gb (s:Bs) (i:Nat):Nat:=(s.getD i 0).toNat
theorem bc (s:Bs) (i:Nat):gb s i<256:=ZF _
theorem W3 {s:Bs} {i:Nat} (h:i<s.length):xD s (i:Int)=some (gb s i:Int):=by
 rw [jj h]; simp [gb,h]
def uN (n b0 b1 b2 b3:Nat):Option Nat:=
 if b0<32∨b0=127 then none
 else if b0<128 then some 1
 else if b0/32=6 then(if 1<n∧b1/64=2∧128≤b0%32*64+b1%64 then some 2 else none)
 else if b0/16=14 then(if 2<n∧b1/64=2∧b2/64=2∧2048≤b0%16*4096+b1%64*64+b2%64∧(b0%16*4096+b1%64*64+b2%64<55296∨57344≤b0%16*4096+b1%64*64+b2%64)then some 3 else none)
 else if b0/8=30 then(if 3<n∧b1/64=2∧b2/64=2∧b3/64=2∧65536≤b0%8*262144+b1%64*4096+b2%64*64+b3%64∧b0%8*262144+b1%64*4096+b2%64*64+b3%64≤1114111 then some 4 else none)
 else none
def uAt (s:Bs) (i:Nat):Option Nat:=uN (s.length-i) (gb s i) (gb s (i+1)) (gb s (i+2)) (gb s (i+3))
theorem KP {s:Bs} {i d:Nat} (hi:i<s.length) (h:uAt s i=some d):0<d∧i+d≤s.length:=by
 unfold uAt uN at h
 repeat' split at h
 all_goals first|(simp at h; done)|(simp at h; omega)
def Zy (s:Bs):Nat→Nat→Bool
 |0,_=>true
 |k+1,i=>if i<s.length then(match uAt s i with|none=>false|some d=>Zy s k (i+d))else true
theorem K2 {b:Nat} (h:b<256):((IntKind.wrap .u8 (Int.tdiv (b:Int) 64)) !=2)= !decide (b/64=2):=by
 have:=List.all_eq_true.1 (show((List.range 256).all fun b:Nat=>((IntKind.wrap .u8 (Int.tdiv (b:Int) 64)) !=2)== !decide (b/64=2))=true by kernel_rfl) b (by simpa using h)
 simpa using this
theorem KY {b:Nat} (h:b<256):IntKind.wrap .i64 (Int.tmod (b:Int) 64)=((b%64:Nat):Int):=by
 have:=List.all_eq_true.1 (show((List.range 256).all fun b:Nat=>IntKind.wrap .i64 (Int.tmod (b:Int) 64)==((b%64:Nat):Int))=true by kernel_rfl) b (by simpa using h)
 simpa using this
theorem eF {b:Nat} (h:b<256):xJ .i64 (IntKind.wrap .i64 (b:Int)) (IntKind.wrap .i64 ((IntKind.wrap .i64 ((1:Int)*32))-1))=((b%32:Nat):Int):=by
 have:=List.all_eq_true.1 (show((List.range 256).all fun b:Nat=>xJ .i64 (IntKind.wrap .i64 (b:Int)) (IntKind.wrap .i64 ((IntKind.wrap .i64 ((1:Int)*32))-1))==((b%32:Nat):Int))=true by kernel_rfl) b (by simpa using h)
 simpa using this
theorem f6 {b:Nat} (h:b<256):xJ .i64 (IntKind.wrap .i64 (b:Int)) (IntKind.wrap .i64 ((IntKind.wrap .i64 ((1:Int)*16))-1))=((b%16:Nat):Int):=by
 have:=List.all_eq_true.1 (show((List.range 256).all fun b:Nat=>xJ .i64 (IntKind.wrap .i64 (b:Int)) (IntKind.wrap .i64 ((IntKind.wrap .i64 ((1:Int)*16))-1))==((b%16:Nat):Int))=true by kernel_rfl) b (by simpa using h)
 simpa using this
theorem mo {b:Nat} (h:b<256):xJ .i64 (IntKind.wrap .i64 (b:Int)) (IntKind.wrap .i64 ((IntKind.wrap .i64 ((1:Int)*8))-1))=((b%8:Nat):Int):=by
 have:=List.all_eq_true.1 (show((List.range 256).all fun b:Nat=>xJ .i64 (IntKind.wrap .i64 (b:Int)) (IntKind.wrap .i64 ((IntKind.wrap .i64 ((1:Int)*8))-1))==((b%8:Nat):Int))=true by kernel_rfl) b (by simpa using h)
 simpa using this
theorem u2s {n:Nat} {a:Bs} {i j v k:Nat} (hi:i+j<a.length) (hl:a.length≤100000000) (hj:j≤1) (hv:v<1000000000):
  yu n a i (k+1) v j=if gb a (i+j)/64=2 then yu n a i k ((v*64+gb a (i+j)%64:Nat):Int) ((j+1:Nat):Int)else some (.ret false):=by
 rw [yu,if_pos (by rw [decide_eq_true_eq]; omega),show IntKind.wrap .i64 ((i:Int)+(j:Int))=((i+j:Nat):Int)by rw [xT (by omega)]; omega,W3 hi]
 simp only [Option.bind_some]
 have hg:=bc a (i+j)
 rw [K2 (bc _ _),KY (bc _ _),w1 (by omega)]
 by_cases hc:gb a (i+j)/64=2
 ·simp only [hc,decide_true,Bool.not_true,Bool.false_eq_true,if_false,if_true]
  rw [xT (x:=64*(v:Int)) (by omega),xT (by omega)]
  congr 1; omega
 ·simp [hc]
theorem u3s {n:Nat} {a:Bs} {i j v k:Nat} (hi:i+j<a.length) (hl:a.length≤100000000) (hj:j≤2) (hv:v<1000000000):
  yp n a i (k+1) v j=if gb a (i+j)/64=2 then yp n a i k ((v*64+gb a (i+j)%64:Nat):Int) ((j+1:Nat):Int)else some (.ret false):=by
 rw [yp,if_pos (by rw [decide_eq_true_eq]; omega),show IntKind.wrap .i64 ((i:Int)+(j:Int))=((i+j:Nat):Int)by rw [xT (by omega)]; omega,W3 hi]
 simp only [Option.bind_some]
 have hg:=bc a (i+j)
 rw [K2 (bc _ _),KY (bc _ _),w1 (by omega)]
 by_cases hc:gb a (i+j)/64=2
 ·simp only [hc,decide_true,Bool.not_true,Bool.false_eq_true,if_false,if_true]
  rw [xT (x:=64*(v:Int)) (by omega),xT (by omega)]
  congr 1; omega
 ·simp [hc]
theorem u4s {n:Nat} {a:Bs} {i j v k:Nat} (hi:i+j<a.length) (hl:a.length≤100000000) (hj:j≤3) (hv:v<1000000000):
  yr n a i (k+1) v j=if gb a (i+j)/64=2 then yr n a i k ((v*64+gb a (i+j)%64:Nat):Int) ((j+1:Nat):Int)else some (.ret false):=by
 rw [yr,if_pos (by rw [decide_eq_true_eq]; omega),show IntKind.wrap .i64 ((i:Int)+(j:Int))=((i+j:Nat):Int)by rw [xT (by omega)]; omega,W3 hi]
 simp only [Option.bind_some]
 have hg:=bc a (i+j)
 rw [K2 (bc _ _),KY (bc _ _),w1 (by omega)]
 by_cases hc:gb a (i+j)/64=2
 ·simp only [hc,decide_true,Bool.not_true,Bool.false_eq_true,if_false,if_true]
  rw [xT (x:=64*(v:Int)) (by omega),xT (by omega)]
  congr 1; omega
 ·simp [hc]
theorem u2 {n:Nat} {a:Bs} {i v k:Nat} (hi:i+1<a.length) (hl:a.length≤100000000) (hv:v<64):
  yu n a i (k+5) v 1=if gb a (i+1)/64=2 then some (.nxt ((v*64+gb a (i+1)%64:Nat):Int))else some (.ret false):=by
 have:=u2s (n:=n) (a:=a) (i:=i) (j:=1) (v:=v) (k:=k+4) hi hl (by omega) (by omega)
 rw [show((1:Nat):Int)=1 from rfl]at this
 rw [show k+5=k+4+1 from rfl,this,yu]
 simp
theorem u3 {n:Nat} {a:Bs} {i v k:Nat} (hi:i+2<a.length) (hl:a.length≤100000000) (hv:v<64):
  yp n a i (k+5) v 1=if gb a (i+1)/64=2 then(if gb a (i+2)/64=2 then some (.nxt (((v*64+gb a (i+1)%64)*64+gb a (i+2)%64:Nat):Int))else some (.ret false))else some (.ret false):=by
 have g1:=bc a (i+1)
 have t1:=u3s (n:=n) (a:=a) (i:=i) (j:=1) (v:=v) (k:=k+4) (by omega) hl (by omega) (by omega)
 have t2:=u3s (n:=n) (a:=a) (i:=i) (j:=2) (v:=v*64+gb a (i+1)%64) (k:=k+3) (by omega) hl (by omega) (by omega)
 rw [show((1:Nat):Int)=1 from rfl]at t1
 rw [show k+5=k+4+1 from rfl,t1,show k+4=k+3+1 from rfl,t2,yp]
 simp
theorem u4 {n:Nat} {a:Bs} {i v k:Nat} (hi:i+3<a.length) (hl:a.length≤100000000) (hv:v<64):
  yr n a i (k+5) v 1=if gb a (i+1)/64=2 then(if gb a (i+2)/64=2 then(if gb a (i+3)/64=2 then some (.nxt ((((v*64+gb a (i+1)%64)*64+gb a (i+2)%64)*64+gb a (i+3)%64:Nat):Int))else some (.ret false))else some (.ret false))else some (.ret false):=by
 have g1:=bc a (i+1)
 have g2:=bc a (i+2)
 have t1:=u4s (n:=n) (a:=a) (i:=i) (j:=1) (v:=v) (k:=k+4) (by omega) hl (by omega) (by omega)
 have t2:=u4s (n:=n) (a:=a) (i:=i) (j:=2) (v:=v*64+gb a (i+1)%64) (k:=k+3) (by omega) hl (by omega) (by omega)
 have t3:=u4s (n:=n) (a:=a) (i:=i) (j:=3) (v:=(v*64+gb a (i+1)%64)*64+gb a (i+2)%64) (k:=k+2) (by omega) hl (by omega) (by omega)
 rw [show((1:Nat):Int)=1 from rfl]at t1
 rw [show k+5=k+4+1 from rfl,t1,show k+4=k+3+1 from rfl,t2,show k+3=k+2+1 from rfl,t3,yr]
 simp
theorem dro (b b':Bool):(if b=true then some true else some b')=some (b||b'):=by cases b<;>rfl
theorem dan (b b':Bool):(if b=true then some b' else some false)=some (b&&b'):=by cases b<;>rfl
theorem Gj {n k i:Nat} {a:Bs} (hi:i<a.length) (hl:a.length≤100000000) (hn:5≤n):
  yq n a (k+1) i=match uAt a i with|none=>some (.ret false)|some d=>yq n a k ((i+d:Nat):Int):=by
 obtain⟨m,rfl⟩:∃m,n=m+5:=⟨n-5,by omega⟩
 have g0:=bc a i
 have g1:=bc a (i+1)
 have g2:=bc a (i+2)
 have g3:=bc a (i+3)
 rw [yq,if_pos (by rw [decide_eq_true_eq]; omega),W3 hi]
 simp only [Option.bind_some,dro,dan]
 rw [eF g0,f6 g0,mo g0,xT (x:=(a.length:Int)-(i:Int)) (by omega)]
 unfold uAt uN
 by_cases c1:gb a i<32∨gb a i=127
 ·rw [if_pos (by rw [Bool.or_eq_true,decide_eq_true_eq,beq_iff_eq]; omega),if_pos c1]; rfl
 rw [if_neg (by rw [Bool.or_eq_true,decide_eq_true_eq,beq_iff_eq]; omega),if_neg c1]
 by_cases c2:gb a i<128
 ·rw [if_pos (by rw [decide_eq_true_eq]; omega),if_pos c2,w1 (by omega)]; rfl
 rw [if_neg (by rw [decide_eq_true_eq]; omega),if_neg c2]
 by_cases c3:gb a i/32=6
 ·rw [if_pos (by rw [Bool.and_eq_true,decide_eq_true_eq,decide_eq_true_eq]; omega),if_pos c3]
  by_cases cl:1<a.length-i
  ·rw [if_neg (by rw [decide_eq_true_eq]; omega),u2 (by omega) hl (by omega)]
   by_cases d1:gb a (i+1)/64=2
   ·rw [if_pos d1]
    simp only [ym]
    by_cases cv:128≤gb a i%32*64+gb a (i+1)%64
    ·rw [if_neg (by simp only [Bool.or_eq_true,Bool.and_eq_true,decide_eq_true_eq]; omega),if_pos ⟨cl,d1,cv⟩]
     simp only [ym]
     rw [xT (by omega)]; rfl
    ·rw [if_pos (by simp only [Bool.or_eq_true,Bool.and_eq_true,decide_eq_true_eq]; omega),if_neg (fun h=>cv h.2.2)]
   ·rw [if_neg d1,if_neg (fun h=>d1 h.2.1)]; rfl
  ·rw [if_pos (by rw [decide_eq_true_eq]; omega),if_neg (fun h=>cl h.1)]; rfl
 rw [if_neg (by rw [Bool.and_eq_true,decide_eq_true_eq,decide_eq_true_eq]; omega),if_neg c3]
 by_cases c4:gb a i/16=14
 ·rw [if_pos (by rw [Bool.and_eq_true,decide_eq_true_eq,decide_eq_true_eq]; omega),if_pos c4]
  by_cases cl:2<a.length-i
  ·rw [if_neg (by rw [decide_eq_true_eq]; omega),u3 (by omega) hl (by omega)]
   by_cases d1:gb a (i+1)/64=2
   ·by_cases d2:gb a (i+2)/64=2
    ·rw [if_pos d1,if_pos d2]
     simp only [ym]
     by_cases cv:2048≤gb a i%16*4096+gb a (i+1)%64*64+gb a (i+2)%64∧(gb a i%16*4096+gb a (i+1)%64*64+gb a (i+2)%64<55296∨57344≤gb a i%16*4096+gb a (i+1)%64*64+gb a (i+2)%64)
     ·rw [if_neg (by simp only [Bool.or_eq_true,Bool.and_eq_true,decide_eq_true_eq]; omega),if_pos ⟨cl,d1,d2,cv⟩]
      simp only [ym]
      rw [xT (by omega)]; rfl
     ·rw [if_pos (by simp only [Bool.or_eq_true,Bool.and_eq_true,decide_eq_true_eq]; omega),if_neg (fun h=>cv h.2.2.2)]
    ·rw [if_pos d1,if_neg d2,if_neg (fun h=>d2 h.2.2.1)]; rfl
   ·rw [if_neg d1,if_neg (fun h=>d1 h.2.1)]; rfl
  ·rw [if_pos (by rw [decide_eq_true_eq]; omega),if_neg (fun h=>cl h.1)]; rfl
 rw [if_neg (by rw [Bool.and_eq_true,decide_eq_true_eq,decide_eq_true_eq]; omega),if_neg c4]
 by_cases c5:gb a i/8=30
 ·rw [if_pos (by rw [Bool.and_eq_true,decide_eq_true_eq,decide_eq_true_eq]; omega),if_pos c5]
  by_cases cl:3<a.length-i
  ·rw [if_neg (by rw [decide_eq_true_eq]; omega),u4 (by omega) hl (by omega)]
   by_cases d1:gb a (i+1)/64=2
   ·by_cases d2:gb a (i+2)/64=2
    ·by_cases d3:gb a (i+3)/64=2
     ·rw [if_pos d1,if_pos d2,if_pos d3]
      simp only [ym]
      by_cases cv:65536≤gb a i%8*262144+gb a (i+1)%64*4096+gb a (i+2)%64*64+gb a (i+3)%64∧gb a i%8*262144+gb a (i+1)%64*4096+gb a (i+2)%64*64+gb a (i+3)%64≤1114111
      ·rw [if_neg (by simp only [Bool.or_eq_true,Bool.and_eq_true,decide_eq_true_eq]; omega),if_pos ⟨cl,d1,d2,d3,cv⟩]
       simp only [ym]
       rw [xT (by omega)]; rfl
      ·rw [if_pos (by simp only [Bool.or_eq_true,Bool.and_eq_true,decide_eq_true_eq]; omega),if_neg (fun h=>cv h.2.2.2.2)]
     ·rw [if_pos d1,if_pos d2,if_neg d3,if_neg (fun h=>d3 h.2.2.2.1)]; rfl
    ·rw [if_pos d1,if_neg d2,if_neg (fun h=>d2 h.2.2.1)]; rfl
   ·rw [if_neg d1,if_neg (fun h=>d1 h.2.1)]; rfl
  ·rw [if_pos (by rw [decide_eq_true_eq]; omega),if_neg (fun h=>cl h.1)]; rfl
 rw [if_neg (by rw [Bool.and_eq_true,decide_eq_true_eq,decide_eq_true_eq]; omega),if_neg c5]
 rfl
theorem BN {n:Nat} {a:Bs} (hl:a.length≤100000000) (hn:5≤n):∀(k i:Nat),i≤a.length→a.length-i<k→ym (yq n a k i) (fun r=>some r) (fun _=>some true)=some (Zy a k i)
 |0,i,_,h=>by omega
 | k + 1,i,hi,hk=>by
  rw [Zy]
  by_cases hc:i<a.length
  ·rw [Gj hc hl hn,if_pos hc]
   cases h:uAt a i with
   |none=>rfl
   | some d=>
    have:=KP hc h
    exact BN hl hn k (i+d) (by omega) (by omega)
  ·rw [yq,if_neg (by rw [decide_eq_true_eq]; omega),if_neg hc]; rfl
theorem DV {n:Nat} {a:Bs} (hl:a.length≤100000000) (hn:a.length+5≤n):jr n a=some (Zy a n 0):=BN hl (by omega) n 0 (by omega) (by omega)
theorem cH (a:Bs) (i:Nat):Yk a i=Lib.decodeN (a.length-i) (gb a i) (gb a (i+1)) (gb a (i+2)) (gb a (i+3)):=by
 have hg:∀j:Nat,((⟨a.toArray⟩:ByteArray).get! j).toNat=gb a j:=by
  intro j
  show(a.toArray[j]!).toNat=_
  rw [getElem!_def]
  unfold gb
  by_cases h:j<a.length
  ·simp [h]
  ·simp [h]; rfl
 unfold Yk
 rw [Lib.decode_at,hg,hg,hg,hg]
 rfl
theorem my {n i:Nat} {a:Bs} (hi:i<a.length):((ssl a ((i:Nat):Int) (List.length a)).bind fun x74=>(uQ n x74 ([239,191,189]:List UInt8)).bind fun r75=>some (!r75))=some (!(decide (3≤a.length-i∧gb a i=239∧gb a (i+1)=191∧gb a (i+2)=189))):=by
 have h1:ssl a (i:Int) (a.length:Int)=some (a.drop i):=by rw [jc (by omega) (by omega)]; simp
 rw [h1]
 simp only [Option.bind_some,uQ,wo]
 have hl:(a.drop i).length=a.length-i:=by simp
 have e:∀j,gb a (i+j)=((a.drop i).getD j 0).toNat:=by intro j; unfold gb; simp
 by_cases hc:3≤a.length-i
 ·have h3:3≤(a.drop i).length:=by omega
  rw [if_pos (by rw [decide_eq_true_eq,hl]; simp; omega)]
  have e0:=e 0; have e1:=e 1; have e2:=e 2
  rw [Nat.add_zero]at e0
  rw [e0,e1,e2]
  generalize a.drop i=l at *
  match l,h3 with
  | x::y::z::r,_=>
   have:ssl (x::y::z::r) 0 (([239,191,189]:List UInt8).length:Int)=some [x,y,z]:=by
    unfold ssl; rw [if_pos (by simp; omega)]; rfl
   rw [this]
   simp only [Option.bind_some,hc,true_and]
   congr 2
   have t:∀u:UInt8,∀m:Nat,m<256→((u.toNat=m)↔u=UInt8.ofNat m):=by
    intro u m hm
    constructor
    ·intro h; rw [←h]; simp
    ·intro h; rw [h]; simp; omega
   have q:([x,y,z]==([239,191,189]:List UInt8))=decide ([x,y,z]=([239,191,189]:List UInt8)):=by
    rw [Bool.eq_iff_iff,beq_iff_eq,decide_eq_true_eq]
   rw [q]
   apply decide_eq_decide.2
   simp only [List.getD_cons_zero,List.getD_cons_succ,List.cons.injEq,and_true]
   rw [t x 239 (by omega),t y 191 (by omega),t z 189 (by omega)]
   rfl
 ·rw [if_neg (by rw [decide_eq_true_eq,hl]; simp; omega)]
  simp [hc]
theorem KH {n k i:Nat} {a:Bs} (hi:i<a.length):
  vf n a (k+1) i=match uAt a i with|none=>some (.ret false)|some d=>vf n a k (i+d):=by
 have g0:=bc a i
 have g1:=bc a (i+1)
 have g2:=bc a (i+2)
 have g3:=bc a (i+3)
 rw [vf,if_pos (by rw [Nat.blt_eq]; exact hi),my hi,cH]
 simp only [dro,dan,Option.bind_some]
 unfold uAt
 generalize a.length-i=m at *
 generalize gb a i=b0 at *
 generalize gb a (i+1)=b1 at *
 generalize gb a (i+2)=b2 at *
 generalize gb a (i+3)=b3 at *
 by_cases c1:b0<128
 ·have:Lib.decodeN m b0 b1 b2 b3=(b0,1):=by unfold Lib.decodeN; rw [if_pos c1]
  rw [this]
  by_cases c2:b0<32∨b0=127
  ·rw [if_pos (by rw [Bool.or_eq_true,decide_eq_true_eq,beq_iff_eq]; simp only; omega)]
   unfold uN; rw [if_pos c2]
  ·rw [if_neg (by rw [Bool.or_eq_true,decide_eq_true_eq,beq_iff_eq]; simp only; omega),if_neg (by rw [Bool.and_eq_true,beq_iff_eq]; simp only; omega)]
   unfold uN; rw [if_neg c2,if_pos c1]
 have key:uN m b0 b1 b2 b3=if(Lib.decodeN m b0 b1 b2 b3).1=65533∧¬(3≤m∧b0=239∧b1=191∧b2=189)then none else some (Lib.decodeN m b0 b1 b2 b3).2:=by
  unfold uN Lib.decodeN
  rw [if_neg (show ¬(b0<32∨b0=127)by omega),if_neg c1,if_neg c1]
  by_cases c2:b0/32=6
  ·rw [if_pos c2]
   by_cases d1:1<m∧b1/64=2
   ·rw [if_pos (show(b0/32=6∧(1<m∧b1/64=2))from⟨c2,d1⟩)]
    by_cases d2:b0%32*64+b1%64≥128
    ·rw [if_pos (show(1<m∧b1/64=2∧128≤b0%32*64+b1%64)from⟨d1.1,d1.2,d2⟩),if_pos d2,if_neg (by simp only; omega)]
    ·rw [if_neg (show ¬(1<m∧b1/64=2∧128≤b0%32*64+b1%64)from fun h=>d2 h.2.2),if_neg d2,if_pos ⟨rfl,by omega⟩]
   ·rw [if_neg (show ¬(1<m∧b1/64=2∧128≤b0%32*64+b1%64)by omega),if_neg (show ¬(b0/32=6∧(1<m∧b1/64=2))by omega),if_neg (show ¬(b0/16=14∧(1<m∧b1/64=2)∧(2<m∧b2/64=2))by omega),if_neg (show ¬(b0/8=30∧(1<m∧b1/64=2)∧(2<m∧b2/64=2)∧(3<m∧b3/64=2))by omega),if_pos ⟨rfl,by omega⟩]
  rw [if_neg c2,if_neg (show ¬(b0/32=6∧(1<m∧b1/64=2))from fun h=>c2 h.1)]
  by_cases c3:b0/16=14
  ·rw [if_pos c3]
   by_cases d1:2<m∧b1/64=2∧b2/64=2
   ·rw [if_pos (show(b0/16=14∧(1<m∧b1/64=2)∧(2<m∧b2/64=2))from⟨c3,⟨by omega,d1.2.1⟩,d1.1,d1.2.2⟩)]
    generalize hv:b0%16*4096+b1%64*64+b2%64=v
    by_cases d2:v≥2048∧(v<55296∨57344≤v∧v≤1114111)
    ·rw [if_pos (show(2<m∧b1/64=2∧b2/64=2∧2048≤v∧(v<55296∨57344≤v))from⟨d1.1,d1.2.1,d1.2.2,by omega,by omega⟩),if_pos d2,if_neg (by simp only; omega)]
    ·rw [if_neg (show ¬(2<m∧b1/64=2∧b2/64=2∧2048≤v∧(v<55296∨57344≤v))from fun h=>d2 ⟨h.2.2.2.1,by omega⟩),if_neg d2,if_pos ⟨rfl,by omega⟩]
   ·rw [if_neg (show ¬(2<m∧b1/64=2∧b2/64=2∧2048≤b0%16*4096+b1%64*64+b2%64∧(b0%16*4096+b1%64*64+b2%64<55296∨57344≤b0%16*4096+b1%64*64+b2%64))from fun h=>d1 ⟨h.1,h.2.1,h.2.2.1⟩),if_neg (show ¬(b0/16=14∧(1<m∧b1/64=2)∧(2<m∧b2/64=2))from fun h=>d1 ⟨h.2.2.1,h.2.1.2,h.2.2.2⟩),if_neg (show ¬(b0/8=30∧(1<m∧b1/64=2)∧(2<m∧b2/64=2)∧(3<m∧b3/64=2))by omega),if_pos ⟨rfl,by omega⟩]
  rw [if_neg c3,if_neg (show ¬(b0/16=14∧(1<m∧b1/64=2)∧(2<m∧b2/64=2))from fun h=>c3 h.1)]
  by_cases c4:b0/8=30
  ·rw [if_pos c4]
   by_cases d1:3<m∧b1/64=2∧b2/64=2∧b3/64=2
   ·rw [if_pos (show(b0/8=30∧(1<m∧b1/64=2)∧(2<m∧b2/64=2)∧(3<m∧b3/64=2))from⟨c4,⟨by omega,d1.2.1⟩,⟨by omega,d1.2.2.1⟩,d1.1,d1.2.2.2⟩)]
    generalize hv:b0%8*262144+b1%64*4096+b2%64*64+b3%64=v
    by_cases d2:v≥65536∧(v<55296∨57344≤v∧v≤1114111)
    ·rw [if_pos (show(3<m∧b1/64=2∧b2/64=2∧b3/64=2∧65536≤v∧v≤1114111)from⟨d1.1,d1.2.1,d1.2.2.1,d1.2.2.2,by omega,by omega⟩),if_pos d2,if_neg (by simp only; omega)]
    ·rw [if_neg (show ¬(3<m∧b1/64=2∧b2/64=2∧b3/64=2∧65536≤v∧v≤1114111)from fun h=>d2 ⟨h.2.2.2.2.1,by omega⟩),if_neg d2,if_pos ⟨rfl,by omega⟩]
   ·rw [if_neg (show ¬(3<m∧b1/64=2∧b2/64=2∧b3/64=2∧65536≤b0%8*262144+b1%64*4096+b2%64*64+b3%64∧b0%8*262144+b1%64*4096+b2%64*64+b3%64≤1114111)from fun h=>d1 ⟨h.1,h.2.1,h.2.2.1,h.2.2.2.1⟩),if_neg (show ¬(b0/8=30∧(1<m∧b1/64=2)∧(2<m∧b2/64=2)∧(3<m∧b3/64=2))from fun h=>d1 ⟨h.2.2.2.1,h.2.1.2,h.2.2.1.2,h.2.2.2.2⟩),if_pos ⟨rfl,by omega⟩]
  rw [if_neg c4,if_neg (show ¬(b0/8=30∧(1<m∧b1/64=2)∧(2<m∧b2/64=2)∧(3<m∧b3/64=2))from fun h=>c4 h.1),if_pos ⟨rfl,by omega⟩]
 have big:127<(Lib.decodeN m b0 b1 b2 b3).1:=by
  unfold Lib.decodeN
  rw [if_neg c1]
  repeat' split
  all_goals simp only
  all_goals omega
 rw [key,if_neg (by rw [Bool.or_eq_true,decide_eq_true_eq,beq_iff_eq]; omega)]
 by_cases c:(Lib.decodeN m b0 b1 b2 b3).1=65533∧¬(3≤m∧b0=239∧b1=191∧b2=189)
 ·rw [if_pos c,if_pos (by rw [Bool.and_eq_true,beq_iff_eq,Bool.not_eq_true',decide_eq_false_iff_not]; exact⟨by omega,c.2⟩)]
 ·rw [if_neg c,if_neg (by rw [Bool.and_eq_true,beq_iff_eq,Bool.not_eq_true',decide_eq_false_iff_not]; intro h; exact c ⟨by omega,h.2⟩)]
theorem QE {n:Nat} {a:Bs}:∀(k i:Nat),i≤a.length→a.length-i<k→ym (vf n a k i) (fun r=>some r) (fun _=>some true)=some (Zy a k i)
 |0,i,_,h=>by omega
 | k + 1,i,hi,hk=>by
  rw [Zy]
  by_cases hc:i<a.length
  ·rw [KH hc,if_pos hc]
   cases h:uAt a i with
   |none=>rfl
   | some d=>
    have:=KP hc h
    exact QE k (i+d) (by omega) (by omega)
  ·rw [vf,if_neg (by rw [Nat.blt_eq]; exact hc),if_neg hc]; rfl
theorem GY {n:Nat} {a:Bs} (hn:a.length+5≤n):pf n a=some (Zy a n 0):=QE n 0 (by omega) (by omega)
theorem YC (s:Bs):∀(k k' i:Nat),s.length-i<k→s.length-i<k'→Zy s k i=Zy s k' i
 |0,_,i,h,_=>by omega
 |_,0,i,_,h=>by omega
 | k + 1,k'+1,i,h,h'=>by
  rw [Zy,Zy]
  by_cases hc:i<s.length
  ·rw [if_pos hc,if_pos hc]
   cases hu:uAt s i with
   |none=>rfl
   | some d=>
    have:=KP hc hu
    exact YC s k k' (i+d) (by omega) (by omega)
  ·rw [if_neg hc,if_neg hc]
def prC (b:Nat):Bool:=decide (97≤b∧b≤122)||decide (65≤b∧b≤90)||decide (48≤b∧b≤57)||([32,39,40,41,43,44,45,46,47,58,61,63]:List Nat).contains b
def iaC (b:Nat):Bool:=decide (32≤b∧b≤126)
def dw (kind:Int) (s:Bs):Bool:=
 if kind=12 then Zy s (s.length+1) 0 else if kind=19 then s.all (fun c=>prC c.toNat)else if kind=22 then s.all (fun c=>iaC c.toNat)else false
theorem cQ {n b:Nat} (hn:20≤n) (hb:b<256):qq n (b:Int)=some (prC b):=by
 obtain⟨m,rfl⟩:∃m,n=m+20:=⟨n-20,by omega⟩
 have:=List.all_eq_true.1 (show((List.range 256).all fun b:Nat=>decide (qq (m+20) (b:Int)=some (prC b)))=true by kernel_rfl) b (by simpa using hb)
 simpa using this
theorem cz {n b:Nat} (hb:b<256):qt n (b:Int)=some (iaC b):=by
 have:=List.all_eq_true.1 (show((List.range 256).all fun b:Nat=>decide (qt n (b:Int)=some (iaC b)))=true by kernel_rfl) b (by simpa using hb)
 simpa using this
theorem K8 {n b:Nat} (hn:20≤n) (hb:b<256):((wW n (b:Int)).bind fun r451=>
  if(!r451)=true then((wX n (b:Int) ([32,39,40,41,43,44,45,46,47,58,61,63]:List UInt8)).bind fun r453=>
  some (!r453))else(some false))=some (!prC b):=by
 obtain⟨m,rfl⟩:∃m,n=m+20:=⟨n-20,by omega⟩
 have:=List.all_eq_true.1 (show((List.range 256).all fun b:Nat=>decide (((wW (m+20) (b:Int)).bind fun r451=>
  if(!r451)=true then((wX (m+20) (b:Int) ([32,39,40,41,43,44,45,46,47,58,61,63]:List UInt8)).bind fun r453=>
  some (!r453))else(some false))=some (!prC b)))=true by kernel_rfl) b (by simpa using hb)
 simpa using this
theorem fp {n:Nat} {a:Bs} (hl:a.length≤100000000) (hn:20≤n):∀(k i:Nat),i≤a.length→a.length-i<k→ym (jh n a k (i:Int)) (fun r=>some r) (fun _=>some true)=some ((a.drop i).all fun c=>prC c.toNat)
 |0,i,_,h=>by omega
 | k + 1,i,hi,hk=>by
  rw [jh]
  by_cases hc:i<a.length
  ·rw [if_pos (by rw [decide_eq_true_eq]; omega),jj hc,List.drop_eq_getElem_cons hc,List.all_cons]
   simp only [Option.bind_some]
   rw [cQ hn (ZF _)]
   simp only [Option.bind_some]
   by_cases hp:prC (a[i]).toNat=true
   ·rw [hp,if_neg (by simp),w1 (by omega),fp hl hn k (i+1) (by omega) (by omega)]; simp
   ·rw [Bool.not_eq_true]at hp
    rw [hp,if_pos (by simp)]; rfl
  ·rw [if_neg (by rw [decide_eq_true_eq]; omega)]
   have:i=a.length:=by omega
   subst this
   simp [ym]
theorem fD {n:Nat} {a:Bs} (hl:a.length≤100000000):∀(k i:Nat),i≤a.length→a.length-i<k→ym (uq n a k (i:Int)) (fun r=>some r) (fun _=>some true)=some ((a.drop i).all fun c=>iaC c.toNat)
 |0,i,_,h=>by omega
 | k + 1,i,hi,hk=>by
  rw [uq]
  by_cases hc:i<a.length
  ·rw [if_pos (by rw [decide_eq_true_eq]; omega),jj hc,List.drop_eq_getElem_cons hc,List.all_cons]
   simp only [Option.bind_some]
   rw [cz (ZF _)]
   simp only [Option.bind_some]
   by_cases hp:iaC (a[i]).toNat=true
   ·rw [hp,if_neg (by simp),w1 (by omega),fD hl k (i+1) (by omega) (by omega)]; simp
   ·rw [Bool.not_eq_true]at hp
    rw [hp,if_pos (by simp)]; rfl
  ·rw [if_neg (by rw [decide_eq_true_eq]; omega)]
   have:i=a.length:=by omega
   subst this
   simp [ym]
theorem Bc {n:Nat} {k:Int} {a:Bs} (hl:a.length≤100000000) (hn:a.length+20≤n):kH n k a=some (dw k a):=by
 unfold kH dw
 by_cases h1:k=12
 ·rw [if_pos (by simpa using h1),if_pos h1,GY (by omega)]
  simp only [Option.bind_some]
  rw [YC a n (a.length+1) 0 (by omega) (by omega)]
 rw [if_neg (by simpa using h1),if_neg h1]
 by_cases h2:k=19
 ·rw [if_pos (by simpa using h2),if_pos h2]
  unfold pi
  have:=fp (n:=n) hl (by omega) n 0 (by omega) (by omega)
  rw [show((0:Nat):Int)=0 from rfl,List.drop_zero]at this
  rw [this]; rfl
 rw [if_neg (by simpa using h2),if_neg h2]
 by_cases h3:k=22
 ·rw [if_pos (by simpa using h3),if_pos h3]
  unfold ga
  have:=fD (n:=n) hl n 0 (by omega) (by omega)
  rw [show((0:Nat):Int)=0 from rfl,List.drop_zero]at this
  rw [this]; rfl
 rw [if_neg (by simpa using h3),if_neg h3]
theorem P4 {n:Nat} {a:Bs} (hl:a.length≤100000000) (hn:20≤n):∀(k i:Nat),i≤a.length→a.length-i<k→ym (yb n a 19 k (i:Int)) (fun r=>some r) (fun _=>some true)=some ((a.drop i).all fun c=>prC c.toNat)
 |0,i,_,h=>by omega
 | k + 1,i,hi,hk=>by
  rw [yb]
  by_cases hc:i<a.length
  ·rw [if_pos (by rw [decide_eq_true_eq]; omega),jj hc,List.drop_eq_getElem_cons hc,List.all_cons]
   rw [if_neg (by decide),if_pos (by decide)]
   simp only [Option.bind_some]
   rw [K8 hn (ZF _)]
   simp only [Option.bind_some]
   by_cases hp:prC (a[i]).toNat=true
   ·rw [hp,if_neg (by simp),w1 (by omega),P4 hl hn k (i+1) (by omega) (by omega)]; simp
   ·rw [Bool.not_eq_true]at hp
    rw [hp,if_pos (by simp)]; rfl
  ·rw [if_neg (by rw [decide_eq_true_eq]; omega)]
   have:i=a.length:=by omega
   subst this
   simp [ym]
theorem cn {n:Nat} {a:Bs} (hl:a.length≤100000000):∀(k i:Nat),i≤a.length→a.length-i<k→ym (yb n a 22 k (i:Int)) (fun r=>some r) (fun _=>some true)=some ((a.drop i).all fun c=>iaC c.toNat)
 |0,i,_,h=>by omega
 | k + 1,i,hi,hk=>by
  rw [yb]
  by_cases hc:i<a.length
  ·rw [if_pos (by rw [decide_eq_true_eq]; omega),jj hc,List.drop_eq_getElem_cons hc,List.all_cons]
   rw [if_pos (by decide)]
   simp only [Option.bind_some]
   rw [if_neg (show ¬((22:Int)==19)=true by decide)]
   by_cases hp:iaC (a[i]).toNat=true
   ·have hp':=hp
    unfold iaC at hp'; rw [decide_eq_true_eq]at hp'
    rw [if_neg (by rw [decide_eq_true_eq]; omega),if_neg (by rw [decide_eq_true_eq]; omega)]
    simp only [Option.bind_some]
    rw [hp,if_neg (by simp),w1 (by omega),cn hl k (i+1) (by omega) (by omega)]; simp
   ·rw [Bool.not_eq_true]at hp
    have hp':=hp
    unfold iaC at hp'; rw [decide_eq_false_iff_not]at hp'
    rw [hp]
    by_cases h1:(a[i]).toNat<32
    ·rw [if_pos (by rw [decide_eq_true_eq]; omega)]; rfl
    ·rw [if_neg (by rw [decide_eq_true_eq]; omega),if_pos (by rw [decide_eq_true_eq]; omega)]; rfl
  ·rw [if_neg (by rw [decide_eq_true_eq]; omega)]
   have:i=a.length:=by omega
   subst this
   simp [ym]
theorem Uf {n:Nat} {k:Int} {a:Bs} (hl:a.length≤100000000) (hn:a.length+20≤n):wL n k a=some (dw k a):=by
 unfold wL dw
 by_cases h1:k=12
 ·rw [if_pos (by simpa using h1),if_pos h1,DV hl (by omega)]
  simp only [Option.bind_some]
  rw [YC a n (a.length+1) 0 (by omega) (by omega)]
 rw [if_neg (by simpa using h1),if_neg h1]
 by_cases h2:k=19
 ·subst h2
  rw [if_pos (by decide),if_pos rfl]
  simp only [Option.bind_some]
  rw [if_pos (by decide)]
  have:=P4 (n:=n) hl (by omega) n 0 (by omega) (by omega)
  rw [show((0:Nat):Int)=0 from rfl,List.drop_zero]at this
  exact this
 rw [if_neg (by simpa using h2),if_neg h2]
 by_cases h3:k=22
 ·subst h3
  rw [if_pos rfl]
  simp only [Option.bind_some]
  rw [if_pos (by decide)]
  have:=cn (n:=n) hl n 0 (by omega) (by omega)
  rw [show((0:Nat):Int)=0 from rfl,List.drop_zero]at this
  exact this
 rw [if_neg h3]
 simp only [Option.bind_some]
 rw [if_neg (by simpa using h3)]
end Go.Abs
end
