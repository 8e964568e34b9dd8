/- The typed Lean form of WireBytes gives true for every string. No condition. -/
import Derived.Test.YtbggpcnbbhjiaaaGreatDoorW4
set_option linter.unusedVariables false
set_option linter.unusedSimpArgs false
set_option linter.unnecessarySimpa false
section
set_option maxRecDepth 100000
namespace Go.Abs
open Go Go.Proofs IntKind
theorem L0{α β:Type}{a:α}{f:α→Option β}:(some a).bind f=f a:=rfl
theorem L2{p:Prop}[Decidable p]:(decide p=true)=p:=decide_eq_true_eq
theorem L3{c:Prop}{h:Decidable c}(H:¬c){α:Type}{t e:α}:ite c t e=e:=if_neg H
theorem L4{c:Prop}{h:Decidable c}(H:c){α:Type}{t e:α}:ite c t e=t:=if_pos H
theorem L5{α:Type}{a b:List α}:(a++b).length=a.length+b.length:=List.length_append
theorem L6{α:Type}{a:α}:[a].length=1:=rfl
theorem L7{α:Type}{a:α}{l:List α}:(a::l).length=l.length+1:=rfl
theorem L8{α β:Type}{l:List α}{f:α→β}:(l.map f).length=l.length:=List.length_map f
theorem L9{α:Type}{i:Nat}{l:List α}(h:i<l.length):l.drop i=l[i]::l.drop (i+1):=List.drop_eq_getElem_cons h
theorem La{α:Type}{i:Nat}{l:List α}(h:l.length≤i):l.drop i=[]:=List.drop_eq_nil_of_le h
theorem Lb{α β:Type}{f:α→β}{a:α}{l:List α}:(a::l).map f=f a::l.map f:=rfl
theorem Lc(a b:Bool):((a&&b)=true)=(a=true∧b=true):=Bool.and_eq_true a b
theorem Ld{α:Type}{p:α→Bool}{l:List α}:l.all p=true↔∀x∈l,p x=true:=List.all_eq_true
theorem Le{α β:Type}{f:α→β}{b:β}{l:List α}:b∈l.map f↔∃a,a∈l∧f a=b:=List.mem_map
theorem Lf{α:Type}{l:List α}:l.drop 0=l:=rfl
theorem Lg{α:Type}(l:List α):[]++l=l:=rfl
theorem Lh{α:Type}(l:List α):l++[]=l:=List.append_nil l
theorem Li{α:Type}{l:List α}{n:Nat}(h:n<l.length):l[n]∈l:=List.getElem_mem h
theorem Lj{α:Type}:([]:List α).length=0:=rfl
theorem Lk{α:Type}{a b:α}:a∈[b]↔a=b:=List.mem_singleton
theorem Ll{α:Type}{a:α}{s t:List α}:a∈s++t↔a∈s∨a∈t:=List.mem_append
theorem Lm{α:Type}{a b:α}{l:List α}:a∈b::l↔a=b∨a∈l:=List.mem_cons
theorem Ln{α:Type}(a b c:List α):a++b++c=a++(b++c):=List.append_assoc a b c
abbrev Bs:=List UInt8
theorem yv {x:Int} (h: -9223372036854775808≤x∧x≤9223372036854775807):wrap .i64 x=x:=IntWalk.i64_in x h
theorem wr8 {x:Int} (h0:0≤x) (h1:x≤255):wrap .u8 x=x:=by
 obtain⟨n,rfl⟩:=Int.eq_ofNat_of_zero_le h0
 have hn:n<256:=O0
 have:∀n:Nat,n<256→wrap .u8 (n:Int)=n:=by
  intro n hn
  have:=Ld.1 (show((List.range 256).all fun n:Nat=>wrap .u8 (n:Int)==(n:Int))=true by kernel_rfl) n (O9 hn)
  simpa using this
 exact this n hn
theorem Bc {x y:Nat} (hx:x<9223372036854775808) (hy:y<9223372036854775808):kY .i64 (x:Int) (y:Int)=((x &&& y:Nat):Int):=by
 show wrap .i64 (((BitVec.ofInt 64 (x:Int) &&& BitVec.ofInt 64 (y:Int)).toNat:Nat):Int)=_
 rw [BitVec.ofInt_natCast,BitVec.ofInt_natCast]
 have h3:(BitVec.ofNat 64 x &&& BitVec.ofNat 64 y).toNat=x &&& y:=by
  rw [BitVec.toNat_and,BitVec.toNat_ofNat,BitVec.toNat_ofNat,Nat.mod_eq_of_lt O0,Nat.mod_eq_of_lt O0]
 rw [h3]
 have:x &&& y≤x:=Nat.and_le_left
 exact yv O0
theorem nb {x y:Nat} (hx:x<9223372036854775808) (hy:y<9223372036854775808):ior .i64 (x:Int) (y:Int)=((x|||y:Nat):Int):=by
 show wrap .i64 (((BitVec.ofInt 64 (x:Int)|||BitVec.ofInt 64 (y:Int)).toNat:Nat):Int)=_
 rw [BitVec.ofInt_natCast,BitVec.ofInt_natCast]
 have h3:(BitVec.ofNat 64 x|||BitVec.ofNat 64 y).toNat=x|||y:=by
  rw [BitVec.toNat_or,BitVec.toNat_ofNat,BitVec.toNat_ofNat,Nat.mod_eq_of_lt O0,Nat.mod_eq_of_lt O0]
 rw [h3]
 have:x|||y<2^63:=Nat.or_lt_two_pow (O9 hx) (O9 hy)
 exact yv O0
theorem m9 {v x i:Nat} (h:2^i*v+x<9223372036854775808) (hx:x<2^i):ior .i64 ((2^i*v:Nat):Int) (x:Int)=((2^i*v+x:Nat):Int):=by
 rw [nb O0 O0,←Nat.two_pow_add_eq_or_of_lt hx]
theorem vC {s:Bs} {i:Nat} (h:i<s.length):yw s (i:Int)=some ((s[i]).toNat:Int):=by
 simp [yw,h]
theorem zE {α:Type} {l:List α} {i:Nat} (h:i<l.length):zV l (i:Int)=some l[i]:=by
 simp [zV,h]
theorem bn {s:Bs} {i j:Nat} (h:i≤j) (hj:j≤s.length):ssl s (i:Int) (j:Int)=some ((s.take j).drop i):=by
 unfold ssl; rw [L4 O0]; simp
theorem yo {s t:Bs} (h:s.length+t.length≤9223372036854775807):jw s t=some (s++t):=by
 unfold jw; rw [L4 h]
theorem yU {α:Type} {b:Nat} {l m:List α} (h:(l.length+m.length)*b≤140737488355328):gL b l m=some (l++m):=by
 unfold gL; rw [L4 h]
theorem w1 {i:Nat} (h:i<9223372036854775807):wrap .i64 ((i:Int)+1)=((i+1:Nat):Int):=by rw [yv O0]; omega
theorem WV (c:UInt8):c.toNat<256:=c.toNat_lt
theorem yM {α β:Type} {c:Option α} {f:α→Option β} (h:∃a,c=some a) (k:∀a,c=some a→∃y,f a=some y):∃y,c.bind f=some y:=by
 obtain⟨a,ha⟩:=h
 obtain⟨y,hy⟩:=k a ha
 exact⟨y,by rw [ha]; exact hy⟩
theorem yn {α:Type} {c:Prop} [Decidable c] {a b:Option α} (h1:c→∃y,a=some y) (h2:¬c→∃y,b=some y):∃y,(if c then a else b)=some y:=by
 by_cases hc:c
 ·rw [L4 hc]; exact h1 hc
 ·rw [L3 hc]; exact h2 hc
theorem jK {s:Bs} {i:Int} (h0:0≤i) (h1:i<s.length):∃x,yw s i=some x:=by
 obtain⟨n,rfl⟩:=Int.eq_ofNat_of_zero_le h0
 exact⟨_,vC O0⟩
theorem rK {s:Bs} {i j:Int} (h0:0≤i) (h1:i≤j) (h2:j≤s.length):∃x,ssl s i j=some x:=by
 unfold ssl; rw [L4 ⟨h0,h1,h2⟩]; exact⟨_,rfl⟩
abbrev E0:za:=⟨0,[],[]⟩
def num (l:Bs):Nat:=l.foldl (fun n c=>256*n+c.toNat) 0
def least:Nat→Nat
 |0=>0
 |1=>128
 |2=>256
 |_=>65536
def wT (b:Bs):za×Bs×Int:=
 match b with
 | []=>(E0,[],3)
 | t::r=>if t.toNat%32=31 then(E0,[],5)else match r with
  | []=>(E0,[],3)
  | c::s=>
   if c.toNat=128∨131<c.toNat then(E0,[],6)
   else if c.toNat<128 then(if s.length<c.toNat then(E0,[],3)else(⟨t.toNat,s.take c.toNat,t::c::s.take c.toNat⟩,s.drop c.toNat,0))
   else if s.length<c.toNat-128 then(E0,[],3)
   else if num (s.take (c.toNat-128))<least (c.toNat-128)∨131072<num (s.take (c.toNat-128))then(E0,[],6)
   else if s.length-(c.toNat-128)<num (s.take (c.toNat-128))then(E0,[],3)
   else(⟨t.toNat,(s.drop (c.toNat-128)).take (num (s.take (c.toNat-128))),t::c::s.take (c.toNat-128+num (s.take (c.toNat-128)))⟩,s.drop (c.toNat-128+num (s.take (c.toNat-128))),0)
theorem zax (t:UInt8):(kY .i64 (t.toNat:Int) 31==31)=decide (t.toNat%32=31):=by
 have:∀n:Nat,n<256→(kY .i64 (n:Int) 31==31)=decide (n%32=31):=by
  intro n hn
  have:=Ld.1 (show((List.range 256).all fun n:Nat=>(kY .i64 (n:Int) 31==31)==decide (n%32=31))=true by kernel_rfl) n (O9 hn)
  simpa using this
 exact this _ (WV t)
theorem rl1 {n:Nat} (x:Bs):∀(k i v:Nat),i≤x.length→x.length-i<k→x.length≤3→v<256^i→gD n x k (v:Int) (i:Int)=some (((x.drop i).foldl (fun n c=>256*n+c.toNat) v:Nat):Int)
 |0,i,v,_,h,_,_=>O0
 | k+1,i,v,hi,hk,h3,hv=>by
  rw [gD]
  by_cases hc:i<x.length
  ·have hl:(s2b x).length=x.length:=by simp [s2b]
   rw [L4 (by simp [hl]; exact hc),zE (by rw [hl]; exact hc)]
   have hg:(s2b x)[i]'(by rw [hl]; exact hc)=((x[i]).toNat:Int):=by simp [s2b]
   rw [hg]
   simp only [L0]
   have hb:=WV x[i]
   have hv2:v<65536:=Nat.lt_of_lt_of_le hv (Nat.le_trans (Nat.pow_le_pow_right O0 (show i≤2 by omega)) O1)
   have e1:wrap .i64 ((v:Int)*256)=((2^8*v:Nat):Int):=by rw [yv O0]; omega
   rw [e1,yv (x:=((x[i]).toNat:Int)) O0,m9 (i:=8) O0 hb,w1 O0]
   have hd:x.drop i=x[i]::x.drop (i+1):=by rw [L9 hc]
   rw [hd,List.foldl_cons]
   refine rl1 x k (i+1) _ O0 O0 h3 ?_
   rw [Nat.pow_succ]
   omega
  ·have:i=x.length:=O0
   subst this
   simp [s2b]
theorem BF {n:Nat} {b:Bs} (hb:b.length≤4611686018427387904) (hn:5≤n):p6 n b=some (wT b):=by
 unfold p6 wT
 match b with
 | []=>simp
 | t :: r =>
  have h0:yw (t::r) 0=some (t.toNat:Int):=by simp [yw]
  have ht:=WV t
  rw [h0]
  simp only [L0]
  rw [yv (x:=(t.toNat:Int)) O0,zax]
  rw [L3 O2]
  by_cases h31:t.toNat%32=31
  ·simp [h31]
  ·simp only [h31,decide_false,Bool.false_eq_true,if_false]
   match r with
   | []=>simp
   | c :: s=>
    have h1:yw (t::c::s) 1=some (c.toNat:Int):=by simp [yw]
    have hc:=WV c
    rw [L3 O3,h1]
    simp only [L0]
    rw [yv (x:=(c.toNat:Int)) O0]
    by_cases hA:c.toNat=128∨131<c.toNat
    ·have:(if((c.toNat:Int)==128)=true then some true else some (decide ((c.toNat:Int)>131)))=some true:=by
      by_cases h:c.toNat=128
      ·rw [L4 O3]
      ·rw [L3 O3]; simp; omega
     rw [this,L4 hA]; rfl
    ·have :(if((c.toNat:Int)==128)=true then some true else some (decide ((c.toNat:Int)>131)))=some false:=by
      rw [L3 O3]; simp; omega
     rw [this,L3 hA]
     simp only [L0,Bool.false_eq_true,if_false]
     have hlen:(t::c::s).length=s.length+2:=rfl
     have fin:∀(m k:Nat),m≤131072→k≤s.length→k≤3 →
       (if (decide (wrap .i64 (((t::c::s).length:Int)-((k+2:Nat):Int))<(m:Int)))=true then some ((za.mk 0 ([]:Bs) ([]:Bs)),([]:Bs),(3:Int))else
        ((ssl (t::c::s) ((k+2:Nat):Int) (wrap .i64 (((k+2:Nat):Int)+(m:Int)))).bind fun x56=>
         (ssl (t::c::s) 0 (wrap .i64 (((k+2:Nat):Int)+(m:Int)))).bind fun x57=>
         (ssl (t::c::s) (wrap .i64 (((k+2:Nat):Int)+(m:Int))) ((t::c::s).length)).bind fun x58=>
         some ((za.mk (t.toNat:Int) x56 x57),x58,0)))=
       some (if s.length-k<m then(E0,[],3)else(⟨t.toNat,(s.drop k).take m,t::c::s.take (k+m)⟩,s.drop (k+m),0)):=by
      intro m k hm hk hk3
      rw [yv (by rw [hlen]; omega),hlen]
      by_cases hz:s.length-k<m
      ·rw [L4 O3,L4 hz]
      ·rw [L3 O3,L3 hz]
       have e1:wrap .i64 (((k+2:Nat):Int)+(m:Int))=((k+2+m:Nat):Int):=by rw [yv O0]; omega
       rw [e1,show(0:Int)=((0:Nat):Int)from rfl,bn O0 (by rw [hlen]; omega),bn O0 (by rw [hlen]; omega),bn (by rw [←hlen]; omega) (by rw [hlen]; omega)]
       simp only [L0,Option.some.injEq,Prod.mk.injEq,za.mk.injEq,true_and,and_true]
       have e2:k+2+m=(k+m)+2:=O0
       rw [e2]
       refine⟨⟨?_, ?_⟩, ?_⟩
       ·simp [List.take_succ_cons,List.drop_take]
       ·simp [List.take_succ_cons]
       ·simp [List.take_of_length_le]
     by_cases hB:c.toNat<128
     ·rw [L3 O3,L4 hB]
      simp only [z8]
      have:=fin c.toNat 0 O0 O0 O0
      simp only [Nat.zero_add,Nat.sub_zero,Lf]at this
      exact this
     ·rw [L4 O3,L3 hB]
      have e3:wrap .i64 ((c.toNat:Int)-128)=((c.toNat-128:Nat):Int):=by rw [yv O0]; omega
      have e4:wrap .i64 ((2:Int)+((c.toNat-128:Nat):Int))=((c.toNat-128+2:Nat):Int):=by rw [yv O0]; omega
      rw [e3,e4,hlen]
      generalize hk:c.toNat-128=k at *
      have hk3:k≤3:=O0
      by_cases hC:s.length<k
      ·rw [L4 O3,L4 hC]
       simp [z8]
      ·rw [L3 O3,L3 hC]
       have hx:ssl (t::c::s) 2 ((k+2:Nat):Int)=some (s.take k):=by
        rw [show(2:Int)=((2:Nat):Int)from rfl,bn O0 (by rw [hlen]; omega)]
        simp [List.take_succ_cons]
       rw [hx]
       simp only [L0]
       have hr:=rl1 (n:=n) (s.take k) n 0 0 O0 O3 O3 O2
       simp only [Lf]at hr
       rw [show((0:Nat):Int)=0 from rfl]at hr
       rw [hr]
       have hle:W8 n (k:Int)=some (least k:Int):=by
        have:k=1∨k=2∨k=3:=O0
        rcases this with rfl|rfl|rfl<;>rfl
       rw [hle]
       simp only [L0]
       show z8 ((if decide (((num (s.take k):Nat):Int)<(least k:Int))=true then some true else some (decide (((num (s.take k):Nat):Int)>131072))).bind _) _ _=_
       by_cases hD:(num (s.take k)<least k∨131072<num (s.take k))
       ·have:(if decide (((num (s.take k):Nat):Int)<(least k:Int))=true then some true else some (decide (((num (s.take k):Nat):Int)>131072)))=some true:=by
         by_cases h:(num (s.take k)<least k)
         ·rw [L4 O3]
         ·rw [L3 O3]; simp; omega
        rw [this,L4 hD]; rfl
       ·have:(if decide (((num (s.take k):Nat):Int)<(least k:Int))=true then some true else some (decide (((num (s.take k):Nat):Int)>131072)))=some false:=by
         rw [L3 O3]; simp; omega
        rw [this,L3 hD]
        simp only [L0,Bool.false_eq_true,if_false,z8]
        exact fin (num (s.take k)) k O0 O0 hk3
theorem rl2 {n:Nat} {x2:Int} {t c:UInt8} {s:Bs} {k:Nat} (hx:wrap .i64 (wrap .i64 x2-128)=(k:Int)) (h3:k≤3) (hs:k≤s.length):∀(f i v:Nat),i≤k→k-i<f→v<256^i →
  vZ n x2 (t::c::s) f (v:Int) (i:Int)=some (((((s.take k).drop i).foldl (fun n c=>256*n+c.toNat) v:Nat)):Int)
 |0,i,v,_,h,_=>O0
 | f + 1,i,v,hi,hk,hv=>by
  rw [vZ,hx]
  by_cases hc:i<k
  ·have hl:(s.take k).length=k:=O3
   have hb2:yw (t::c::s) (wrap .i64 ((2:Int)+(i:Int)))=some ((s[i]' O0).toNat:Int):=by
    rw [yv O0,show(2:Int)+(i:Int)=((i+2:Nat):Int)by omega,vC O3]
    simp
   rw [L4 O3,hb2]
   simp only [L0]
   have hb:=WV (s[i]' O0)
   have hv2:v<65536:=Nat.lt_of_lt_of_le hv (Nat.le_trans (Nat.pow_le_pow_right O0 (show i≤2 by omega)) O1)
   have e1:wrap .i64 (wrap .i64 ((256:Int)*(v:Int))+wrap .i64 ((s[i]' O0).toNat:Int))=((256*v+(s[i]' O0).toNat:Nat):Int):=by
    rw [yv (x:=(256:Int)*(v:Int)) O0,yv (x:=((s[i]' O0).toNat:Int)) O0,yv O0]; omega
   rw [e1,w1 O0]
   have hd:(s.take k).drop i=s[i]' O0::(s.take k).drop (i+1):=by
    rw [L9 O0]; simp
   rw [hd,List.foldl_cons]
   refine rl2 hx h3 hs f (i+1) _ O0 O0 ?_
   rw [Nat.pow_succ]; omega
  ·have:i=k:=O0
   subst this
   rw [L3 O2]
   simp
theorem Be {n:Nat} {b:Bs} (hb:b.length≤4611686018427387904) (hn:5≤n):u5 n b=some (wT b):=by
 unfold u5 wT
 match b with
 | []=>simp
 | t :: r =>
  have h0:yw (t::r) 0=some (t.toNat:Int):=by simp [yw]
  have ht:=WV t
  rw [h0]
  simp only [L0]
  have h31':(Int.tmod (t.toNat:Int) 32==31)=decide (t.toNat%32=31):=by
   rw [show Int.tmod (t.toNat:Int) 32=((t.toNat%32:Nat):Int)from rfl]
   by_cases h:t.toNat%32=31
   ·simp [h]
   ·simp [h]; omega
  rw [h31',L3 O3]
  by_cases h31:t.toNat%32=31
  ·simp [h31]
  ·simp only [h31,decide_false,Bool.false_eq_true,if_false]
   match r with
   | []=>simp
   | c :: s=>
    have h1:yw (t::c::s) 1=some (c.toNat:Int):=by simp [yw]
    have hc:=WV c
    rw [L3 O3,h1]
    simp only [L0]
    rw [yv (x:=(c.toNat:Int)) O0]
    by_cases hA:c.toNat=128∨131<c.toNat
    ·have:(if((c.toNat:Int)==128)=true then some true else some (decide ((c.toNat:Int)>131)))=some true:=by
      by_cases h:c.toNat=128
      ·rw [L4 O3]
      ·rw [L3 O3]; simp; omega
     rw [this,L4 hA]; rfl
    ·have :(if((c.toNat:Int)==128)=true then some true else some (decide ((c.toNat:Int)>131)))=some false:=by
      rw [L3 O3]; simp; omega
     rw [this,L3 hA]
     simp only [L0,Bool.false_eq_true,if_false]
     have hlen:(t::c::s).length=s.length+2:=rfl
     have fin:∀(m k:Nat),m≤131072→k≤s.length→k≤3 →
       (if (decide (wrap .i64 (((t::c::s).length:Int)-((k+2:Nat):Int))<(m:Int)))=true then some ((za.mk 0 ([]:Bs) ([]:Bs)),([]:Bs),(3:Int))else
        ((yw (t::c::s) 0).bind fun x54=>(ssl (t::c::s) ((k+2:Nat):Int) (wrap .i64 (((k+2:Nat):Int)+(m:Int)))).bind fun x56=>
         (ssl (t::c::s) 0 (wrap .i64 (((k+2:Nat):Int)+(m:Int)))).bind fun x57=>
         (ssl (t::c::s) (wrap .i64 (((k+2:Nat):Int)+(m:Int))) ((t::c::s).length)).bind fun x58=>
         some ((za.mk (wrap .i64 x54) x56 x57),x58,0)))=
       some (if s.length-k<m then(E0,[],3)else(⟨t.toNat,(s.drop k).take m,t::c::s.take (k+m)⟩,s.drop (k+m),0)):=by
      intro m k hm hk hk3
      rw [yv (by rw [hlen]; omega),hlen]
      by_cases hz:s.length-k<m
      ·rw [L4 O3,L4 hz]
      ·rw [L3 O3,L3 hz]
       have e1:wrap .i64 (((k+2:Nat):Int)+(m:Int))=((k+2+m:Nat):Int):=by rw [yv O0]; omega
       rw [e1,h0]
       simp only [L0]
       rw [yv (x:=(t.toNat:Int)) O0,show(0:Int)=((0:Nat):Int)from rfl,bn O0 (by rw [hlen]; omega),bn O0 (by rw [hlen]; omega),bn (by rw [←hlen]; omega) (by rw [hlen]; omega)]
       simp only [L0,Option.some.injEq,Prod.mk.injEq,za.mk.injEq,true_and,and_true]
       have e2:k+2+m=(k+m)+2:=O0
       rw [e2]
       refine⟨⟨?_, ?_⟩, ?_⟩
       ·simp [List.take_succ_cons,List.drop_take]
       ·simp [List.take_succ_cons]
       ·simp [List.take_of_length_le]
     by_cases hB:c.toNat<128
     ·rw [L3 O3,L4 hB]
      simp only [z8]
      have:=fin c.toNat 0 O0 O0 O0
      simp only [Nat.zero_add,Nat.sub_zero,Lf]at this
      exact this
     ·rw [L4 O3,L3 hB]
      have e3:wrap .i64 ((c.toNat:Int)-128)=((c.toNat-128:Nat):Int):=by rw [yv O0]; omega
      have e4:wrap .i64 ((2:Int)+((c.toNat-128:Nat):Int))=((c.toNat-128+2:Nat):Int):=by rw [yv O0]; omega
      rw [e3,e4,hlen]
      generalize hk:c.toNat-128=k at *
      have hk3:k≤3:=O0
      by_cases hC:s.length<k
      ·rw [L4 O3,L4 hC]
       simp [z8]
      ·rw [L3 O3,L3 hC]
       have hr:=rl2 (n:=n) (x2:=(c.toNat:Int)) (t:=t) (c:=c) (s:=s) (k:=k) (by rw [yv (x:=(c.toNat:Int)) O0,e3]) hk3 O0 n 0 0 O0 O0 O2
       rw [show((0:Nat):Int)=0 from rfl]at hr
       rw [hr]
       simp only [L0,Lf]
       have hle:zV ([0,128,256,65536]:List Int) ((k:Nat):Int)=some (least k:Int):=by
        have:k=1∨k=2∨k=3:=O0
        rcases this with rfl|rfl|rfl<;>rfl
       rw [hle]
       simp only [L0]
       show z8 ((if decide (((num (s.take k):Nat):Int)<(least k:Int))=true then some true else some (decide (((num (s.take k):Nat):Int)>131072))).bind _) _ _=_
       by_cases hD:(num (s.take k)<least k∨131072<num (s.take k))
       ·have:(if decide (((num (s.take k):Nat):Int)<(least k:Int))=true then some true else some (decide (((num (s.take k):Nat):Int)>131072)))=some true:=by
         by_cases h:(num (s.take k)<least k)
         ·rw [L4 O3]
         ·rw [L3 O3]; simp; omega
        rw [this,L4 hD]; rfl
       ·have:(if decide (((num (s.take k):Nat):Int)<(least k:Int))=true then some true else some (decide (((num (s.take k):Nat):Int)>131072)))=some false:=by
         rw [L3 O3]; simp; omega
        rw [this,L3 hD]
        simp only [L0,Bool.false_eq_true,if_false,z8]
        exact fin (num (s.take k)) k O0 O0 hk3
theorem Xe {b:Bs} (h:(wT b).2.2=0):b=(wT b).1.jL++(wT b).2.1∧2≤(wT b).1.jL.length∧(wT b).1.zc.length+2≤(wT b).1.jL.length∧∃t:UInt8,(wT b).1.zA=(t.toNat:Int):=by
 unfold wT at h ⊢
 match b with
 | []=>simp at h
 | t :: r =>
  simp only at h ⊢
  by_cases h31:t.toNat%32=31
  ·simp [h31]at h
  ·simp only [h31,if_false]at h ⊢
   match r with
   | []=>simp at h
   | c :: s=>
    simp only at h ⊢
    by_cases hA:c.toNat=128∨131<c.toNat
    ·simp [hA]at h
    ·rw [L3 hA]at h ⊢
     by_cases hB:c.toNat<128
     ·rw [L4 hB]at h ⊢
      by_cases hC:s.length<c.toNat
      ·simp [hC]at h
      ·rw [L3 hC]
       refine⟨O2,O2,O2,t,rfl⟩
     ·rw [L3 hB]at h ⊢
      by_cases hC:s.length<c.toNat-128
      ·simp [hC]at h
      ·rw [L3 hC]at h ⊢
       by_cases hD:(num (s.take (c.toNat-128))<least (c.toNat-128)∨131072<num (s.take (c.toNat-128)))
       ·simp [hD]at h
       ·rw [L3 hD]at h ⊢
        by_cases hE:(s.length-(c.toNat-128)<num (s.take (c.toNat-128)))
        ·simp [hE]at h
        ·rw [L3 hE]
         refine⟨O2,O2, ?_,t,rfl⟩
         simp; omega
def va (b:Bs):za×Int:=if(wT b).2.2≠0 then(E0,(wT b).2.2)else if(wT b).2.1≠ []then(E0,4)else((wT b).1,0)
theorem Ve {n:Nat} {b:Bs} (hb:b.length≤4611686018427387904) (hn:5≤n):gT n b=some (va b):=by
 unfold gT va
 rw [BF hb hn]
 simp only [L0]
 by_cases h:(wT b).2.2=0
 ·by_cases h2:(wT b).2.1= []<;>simp [h,h2]
 ·simp [h]
theorem W0 {n:Nat} {b:Bs} (hb:b.length≤4611686018427387904) (hn:5≤n):uE n b=some (va b):=by
 unfold uE va
 rw [Be hb hn]
 simp only [L0]
 by_cases h:(wT b).2.2=0
 ·by_cases h2:(wT b).2.1= []
  ·simp [h,h2]
  ·have:0<(wT b).2.1.length:=List.length_pos_iff.2 h2
   simp [h,h2,this]
 ·simp [h]
def pm:Nat→Bs→List za→List za×Int
 |0,_,acc=>(acc,0)
 |k+1,b,acc=>if b= []then(acc,0)else if(wT b).2.2≠0 then([],(wT b).2.2)else pm k (wT b).2.1 (acc ++ [(wT b).1])
def tList (b:Bs):List za×Int:=pm (b.length+1) b []
theorem V9:∀(k k':Nat) (b:Bs) (acc:List za),b.length<k→b.length<k'→pm k b acc=pm k' b acc
 |0,_,b,_,h,_=>O0
 |_,0,b,_,_,h=>O0
 | k + 1,k'+1,b,acc,h,h'=>by
  simp only [pm]
  by_cases hb:b= []
  ·simp [hb]
  ·rw [L3 hb,L3 hb]
   by_cases hr:(wT b).2.2=0
   ·obtain ⟨h1,h2,_⟩:=Xe hr
    have hl:(wT b).2.1.length+2≤b.length:=by
     have:=congrArg List.length h1
     rw [L5]at this; omega
    rw [L3 (by simp [hr]),L3 (by simp [hr])]
    exact V9 k k' _ _ O0 O0
   ·rw [L4 hr,L4 hr]
theorem Ke {n:Nat} (hn:5≤n):∀(k:Nat) (b:Bs) (acc:List za),b.length<k→b.length+acc.length≤1000000000000 →
  z8 (gw n k b acc) (fun r=>some r) (fun y=>some (y,0))=some (pm k b acc)
 |0,b,_,h,_=>O0
 | k + 1,b,acc,h,hs=>by
  rw [gw,pm]
  by_cases hb:b= []
  ·simp [hb,z8]
  ·rw [L4 (by simp [hb]),L3 hb,BF O0 hn]
   simp only [L0]
   by_cases hr:(wT b).2.2=0
   ·obtain ⟨h1,h2,_⟩:=Xe hr
    have hl:(wT b).2.1.length+2≤b.length:=by
     have:=congrArg List.length h1
     rw [L5]at this; omega
    rw [L3 (by simp [hr]),L3 (by simp [hr]),yU O3]
    simp only [L0]
    exact Ke hn k _ _ O0 O3
   ·rw [L4 (O9 hr),L4 hr]; rfl
theorem kW {n:Nat} {b:Bs} (hb:b.length≤1000000000000) (hn:b.length+5≤n):kq n b=some (tList b):=by
 unfold kq
 rw [Ke O0 n b [] O0 (O9 hb)]
 exact congrArg some (V9 _ _ _ _ O0 O0)
theorem Ka {n:Nat} (hn:5≤n):∀(k:Nat) (b:Bs) (acc:List za),b.length<k→b.length+acc.length≤1000000000000 →
  z8 (v7 n k b acc) (fun r=>some r) (fun y=>some (y,0))=some (pm k b acc)
 |0,b,_,h,_=>O0
 | k + 1,b,acc,h,hs=>by
  rw [v7,pm]
  by_cases hb:b= []
  ·simp [hb,z8]
  ·have hp:0<b.length:=List.length_pos_iff.2 hb
   rw [L4 O3,L3 hb,Be O0 hn]
   simp only [L0]
   by_cases hr:(wT b).2.2=0
   ·obtain ⟨h1,h2,_⟩:=Xe hr
    have hl:(wT b).2.1.length+2≤b.length:=by
     have:=congrArg List.length h1
     rw [L5]at this; omega
    rw [L3 (by simp [hr]),L3 (by simp [hr]),yU O3]
    simp only [L0]
    exact Ka hn k _ _ O0 O3
   ·rw [L4 (O9 hr),L4 hr]; rfl
theorem Yi {n:Nat} {b:Bs} (hb:b.length≤1000000000000) (hn:b.length+5≤n):xL n b=some (tList b):=by
 unfold xL
 rw [Ka O0 n b [] O0 (O9 hb)]
 exact congrArg some (V9 _ _ _ _ O0 O0)
theorem zdE (t:UInt8):(kY .i64 (t.toNat:Int) 32==0)=(Int.tmod (wrap .i64 (Int.tdiv (t.toNat:Int) 32)) 2==0):=by
 have:∀n:Nat,n<256→(kY .i64 (n:Int) 32==0)=(Int.tmod (wrap .i64 (Int.tdiv (n:Int) 32)) 2==0):=by
  intro n hn
  have:=Ld.1 (show((List.range 256).all fun n:Nat=>(kY .i64 (n:Int) 32==0)==(Int.tmod (wrap .i64 (Int.tdiv (n:Int) 32)) 2==0))=true by kernel_rfl) n (O9 hn)
  simpa using this
 exact this _ (WV t)
theorem GU {n:Nat} (hn:5≤n) {d:Nat} (hd:d≤15) {rc rc':za→Int→Option Int}
  (hrc:d<15→∀e:za,(∃t:UInt8,e.zA=(t.toNat:Int))→e.zc.length≤1000000000000→e.zc.length+5≤n→∃x,rc e ((d+2:Nat):Int)=some x∧rc' e ((d+1:Nat):Int)=some x):
  ∀(k:Nat) (b:Bs),b.length<k→b.length≤1000000000000→b.length+5≤n→∃c,kx n rc ((d+1:Nat):Int) k b=some c∧vP n rc' (d:Int) k b=some c
 |0,b,h,_,_=>O0
 | k + 1,b,h,hs,hb2=>by
  rw [kx,vP]
  by_cases hb:b= []
  ·subst hb; exact⟨.nxt (),O2,O2⟩
  ·have hp:0<b.length:=List.length_pos_iff.2 hb
   rw [L4 (by simp [hb]),L4 O3,BF O0 hn,Be O0 hn]
   simp only [L0]
   by_cases hr:(wT b).2.2=0
   ·obtain ⟨h1,h2,h3,h4⟩:=Xe hr
    have hl:(wT b).1.jL.length+(wT b).2.1.length=b.length:=by
     have:=congrArg List.length h1
     rw [L5]at this; omega
    have e0:((wT b).2.2 !=0)=false:=by simp [hr]
    rw [e0,yv (x:=(d:Int)+1) O0]
    simp only [Bool.false_eq_true,if_false]
    by_cases h15:d=15
    ·subst h15; exact⟨.ret 8,O2,O2⟩
    ·have e3:(decide ((d:Int)+1≥16))=false:=O3
     have e4:(decide (((d+1:Nat):Int)≥16))=false:=O3
     rw [e3,e4]
     simp only [Bool.false_eq_true,if_false]
     obtain⟨x,e1,e2⟩:=hrc O0 (wT b).1 h4 O0 O0
     rw [w1 O0,show((d:Int)+1)=((d+1:Nat):Int)by omega,e1,e2]
     simp only [L0]
     by_cases hx:x=0
     ·have e5:(x !=0)=false:=by simp [hx]
      rw [e5]
      simp only [Bool.false_eq_true,if_false]
      exact GU hn hd hrc k _ O0 O0 O0
     ·have e5:(x !=0)=true:=by simp [hx]
      rw [e5]; exact⟨_,rfl,rfl⟩
   ·have e0:((wT b).2.2 !=0)=true:=by simp [hr]
    rw [e0]; exact⟨_,rfl,rfl⟩
theorem Gb {n:Nat} (hn:5≤n):∀(kk d:Nat),d≤15→16≤kk+d→∀e:za,(∃t:UInt8,e.zA=(t.toNat:Int))→e.zc.length≤1000000000000→e.zc.length+5≤n →
  ∃x,qr n kk e ((d+1:Nat):Int)=some x∧x7 n kk e (d:Int)=some x
 |0,d,h,h',_,_,_,_=>O0
 | kk+1,d,h,h',e,⟨t,ht⟩,hc,hc2=>by
  rw [qr,x7,ht,zdE]
  by_cases hx:(Int.tmod (wrap .i64 (Int.tdiv (t.toNat:Int) 32)) 2==0)=true
  ·rw [L4 hx,L4 hx]; exact⟨0,rfl,rfl⟩
  ·rw [L3 hx,L3 hx]
   obtain ⟨c,e1,e2⟩:=GU hn h (rc:=qr n kk) (rc':=x7 n kk) (fun hd e he h1 h2=>by
    have:=Gb hn kk (d+1) O0 O0 e he h1 h2
    exact this) n e.zc O0 hc hc2
   rw [e1,e2]
   cases c with
   |ret r=>exact⟨r,rfl,rfl⟩
   |nxt u=>exact⟨0,rfl,rfl⟩
theorem BK {n:Nat} {b:Bs} (hb:b.length≤1000000000000) (hn:b.length+20≤n):∃x,bW n b=some x∧uL n b=some x∧(x=0→(va b).2=0):=by
 unfold bW uL
 rw [Ve O0 O0,W0 O0 O0]
 simp only [L0]
 by_cases h:(va b).2=0
 ·rw [L3 (by simp [h]),L3 (by simp [h])]
  have hr:(wT b).2.2=0:=by
   unfold va at h
   by_cases h':(wT b).2.2=0
   ·exact h'
   ·rw [L4 h']at h; exact h
  have h1:(va b).1=(wT b).1∨(va b).1=E0:=by
   unfold va; rw [L3 (by simp [hr])]; split
   ·exact .inr rfl
   ·exact .inl rfl
  obtain⟨k1,k2,k3,k4⟩:=Xe hr
  have hl:(wT b).1.jL.length+(wT b).2.1.length=b.length:=by
   have:=congrArg List.length k1
   rw [L5]at this; omega
  obtain ⟨x,e1,e2⟩:=Gb (n:=n) O0 n 0 O0 O0 (va b).1 (by
   rcases h1 with h1|h1<;>rw [h1]
   ·exact k4
   ·exact⟨0,rfl⟩) (by rcases h1 with h1|h1<;>rw [h1]; omega; simp) (by rcases h1 with h1|h1<;>rw [h1]; omega; simp; omega)
  rw [show(1:Int)=((0+1:Nat):Int)from rfl,e1,show(0:Int)=((0:Nat):Int)from rfl,e2]
  exact⟨x,rfl,rfl,fun _=>h⟩
 ·rw [L4 (O9 h),L4 (O9 h)]
  exact⟨_,rfl,rfl,fun h=>h⟩
def gb (s:Bs) (i:Nat):Nat:=(s.getD i 0).toNat
theorem pX (s:Bs) (i:Nat):gb s i<256:=WV _
theorem Kw {s:Bs} {i:Nat} (h:i<s.length):yw s (i:Int)=some (gb s i:Int):=by
 rw [vC h]; simp [gb,h]
def uN (n b0 b1 b2 b3:Nat):Option Nat:=
 if b0<32∨b0=127 then none
 else if b0<128 then some 1
 else if b0/32=6 then(if 1<n∧b1/64=2∧128≤b0%32*64+b1%64 then some 2 else none)
 else if b0/16=14 then(if 2<n∧b1/64=2∧b2/64=2∧2048≤b0%16*4096+b1%64*64+b2%64∧(b0%16*4096+b1%64*64+b2%64<55296∨57344≤b0%16*4096+b1%64*64+b2%64)then some 3 else none)
 else if b0/8=30 then(if 3<n∧b1/64=2∧b2/64=2∧b3/64=2∧65536≤b0%8*262144+b1%64*4096+b2%64*64+b3%64∧b0%8*262144+b1%64*4096+b2%64*64+b3%64≤1114111 then some 4 else none)
 else none
def uAt (s:Bs) (i:Nat):Option Nat:=uN (s.length-i) (gb s i) (gb s (i+1)) (gb s (i+2)) (gb s (i+3))
theorem e8 {s:Bs} {i d:Nat} (hi:i<s.length) (h:uAt s i=some d):0<d∧i+d≤s.length:=by
 unfold uAt uN at h
 repeat' split at h
 all_goals first|(simp at h; done)|(simp at h; omega)
def Vm (s:Bs):Nat→Nat→Bool
 |0,_=>true
 |k+1,i=>if i<s.length then(match uAt s i with|none=>false|some d=>Vm s k (i+d))else true
theorem eI {b:Nat} (h:b<256):((wrap .u8 (Int.tdiv (b:Int) 64)) !=2)= !decide (b/64=2):=by
 have:=Ld.1 (show((List.range 256).all fun b:Nat=>((wrap .u8 (Int.tdiv (b:Int) 64)) !=2)== !decide (b/64=2))=true by kernel_rfl) b (O9 h)
 simpa using this
theorem fW {b:Nat} (h:b<256):wrap .i64 (Int.tmod (b:Int) 64)=((b%64:Nat):Int):=by
 have:=Ld.1 (show((List.range 256).all fun b:Nat=>wrap .i64 (Int.tmod (b:Int) 64)==((b%64:Nat):Int))=true by kernel_rfl) b (O9 h)
 simpa using this
theorem zbO {b:Nat} (h:b<256):kY .i64 (wrap .i64 (b:Int)) (wrap .i64 ((wrap .i64 ((1:Int)*32))-1))=((b%32:Nat):Int):=by
 have:=Ld.1 (show((List.range 256).all fun b:Nat=>kY .i64 (wrap .i64 (b:Int)) (wrap .i64 ((wrap .i64 ((1:Int)*32))-1))==((b%32:Nat):Int))=true by kernel_rfl) b (O9 h)
 simpa using this
theorem zc4 {b:Nat} (h:b<256):kY .i64 (wrap .i64 (b:Int)) (wrap .i64 ((wrap .i64 ((1:Int)*16))-1))=((b%16:Nat):Int):=by
 have:=Ld.1 (show((List.range 256).all fun b:Nat=>kY .i64 (wrap .i64 (b:Int)) (wrap .i64 ((wrap .i64 ((1:Int)*16))-1))==((b%16:Nat):Int))=true by kernel_rfl) b (O9 h)
 simpa using this
theorem zd6 {b:Nat} (h:b<256):kY .i64 (wrap .i64 (b:Int)) (wrap .i64 ((wrap .i64 ((1:Int)*8))-1))=((b%8:Nat):Int):=by
 have:=Ld.1 (show((List.range 256).all fun b:Nat=>kY .i64 (wrap .i64 (b:Int)) (wrap .i64 ((wrap .i64 ((1:Int)*8))-1))==((b%8:Nat):Int))=true by kernel_rfl) b (O9 h)
 simpa using this
theorem u2s {n:Nat} {a:Bs} {i j v k:Nat} (hi:i+j<a.length) (hl:a.length≤100000000) (hj:j≤1) (hv:v<1000000000):
  xy n a i (k+1) v j=if gb a (i+j)/64=2 then xy n a i k ((v*64+gb a (i+j)%64:Nat):Int) ((j+1:Nat):Int)else some (.ret false):=by
 rw [xy,L4 O4,show wrap .i64 ((i:Int)+(j:Int))=((i+j:Nat):Int)by rw [yv O0]; omega,Kw hi]
 simp only [L0]
 have hg:=pX a (i+j)
 rw [eI (pX _ _),fW (pX _ _),w1 O0]
 by_cases hc:gb a (i+j)/64=2
 ·simp only [hc,decide_true,Bool.not_true,Bool.false_eq_true,if_false,if_true]
  rw [yv (x:=64*(v:Int)) O0,yv O0]
  congr 1; omega
 ·simp [hc]
theorem u3s {n:Nat} {a:Bs} {i j v k:Nat} (hi:i+j<a.length) (hl:a.length≤100000000) (hj:j≤2) (hv:v<1000000000):
  xz n a i (k+1) v j=if gb a (i+j)/64=2 then xz n a i k ((v*64+gb a (i+j)%64:Nat):Int) ((j+1:Nat):Int)else some (.ret false):=by
 rw [xz,L4 O4,show wrap .i64 ((i:Int)+(j:Int))=((i+j:Nat):Int)by rw [yv O0]; omega,Kw hi]
 simp only [L0]
 have hg:=pX a (i+j)
 rw [eI (pX _ _),fW (pX _ _),w1 O0]
 by_cases hc:gb a (i+j)/64=2
 ·simp only [hc,decide_true,Bool.not_true,Bool.false_eq_true,if_false,if_true]
  rw [yv (x:=64*(v:Int)) O0,yv O0]
  congr 1; omega
 ·simp [hc]
theorem u4s {n:Nat} {a:Bs} {i j v k:Nat} (hi:i+j<a.length) (hl:a.length≤100000000) (hj:j≤3) (hv:v<1000000000):
  xA n a i (k+1) v j=if gb a (i+j)/64=2 then xA n a i k ((v*64+gb a (i+j)%64:Nat):Int) ((j+1:Nat):Int)else some (.ret false):=by
 rw [xA,L4 O4,show wrap .i64 ((i:Int)+(j:Int))=((i+j:Nat):Int)by rw [yv O0]; omega,Kw hi]
 simp only [L0]
 have hg:=pX a (i+j)
 rw [eI (pX _ _),fW (pX _ _),w1 O0]
 by_cases hc:gb a (i+j)/64=2
 ·simp only [hc,decide_true,Bool.not_true,Bool.false_eq_true,if_false,if_true]
  rw [yv (x:=64*(v:Int)) O0,yv O0]
  congr 1; omega
 ·simp [hc]
theorem u2 {n:Nat} {a:Bs} {i v k:Nat} (hi:i+1<a.length) (hl:a.length≤100000000) (hv:v<64):
  xy n a i (k+5) v 1=if gb a (i+1)/64=2 then some (.nxt ((v*64+gb a (i+1)%64:Nat):Int))else some (.ret false):=by
 have:=u2s (n:=n) (a:=a) (i:=i) (j:=1) (v:=v) (k:=k+4) hi hl O0 O0
 rw [show((1:Nat):Int)=1 from rfl]at this
 rw [show k+5=k+4+1 from rfl,this,xy]
 simp
theorem u3 {n:Nat} {a:Bs} {i v k:Nat} (hi:i+2<a.length) (hl:a.length≤100000000) (hv:v<64):
  xz n a i (k+5) v 1=if gb a (i+1)/64=2 then(if gb a (i+2)/64=2 then some (.nxt (((v*64+gb a (i+1)%64)*64+gb a (i+2)%64:Nat):Int))else some (.ret false))else some (.ret false):=by
 have g1:=pX a (i+1)
 have t1:=u3s (n:=n) (a:=a) (i:=i) (j:=1) (v:=v) (k:=k+4) O0 hl O0 O0
 have t2:=u3s (n:=n) (a:=a) (i:=i) (j:=2) (v:=v*64+gb a (i+1)%64) (k:=k+3) O0 hl O0 O0
 rw [show((1:Nat):Int)=1 from rfl]at t1
 rw [show k+5=k+4+1 from rfl,t1,show k+4=k+3+1 from rfl,t2,xz]
 simp
theorem u4 {n:Nat} {a:Bs} {i v k:Nat} (hi:i+3<a.length) (hl:a.length≤100000000) (hv:v<64):
  xA n a i (k+5) v 1=if gb a (i+1)/64=2 then(if gb a (i+2)/64=2 then(if gb a (i+3)/64=2 then some (.nxt ((((v*64+gb a (i+1)%64)*64+gb a (i+2)%64)*64+gb a (i+3)%64:Nat):Int))else some (.ret false))else some (.ret false))else some (.ret false):=by
 have g1:=pX a (i+1)
 have g2:=pX a (i+2)
 have t1:=u4s (n:=n) (a:=a) (i:=i) (j:=1) (v:=v) (k:=k+4) O0 hl O0 O0
 have t2:=u4s (n:=n) (a:=a) (i:=i) (j:=2) (v:=v*64+gb a (i+1)%64) (k:=k+3) O0 hl O0 O0
 have t3:=u4s (n:=n) (a:=a) (i:=i) (j:=3) (v:=(v*64+gb a (i+1)%64)*64+gb a (i+2)%64) (k:=k+2) O0 hl O0 O0
 rw [show((1:Nat):Int)=1 from rfl]at t1
 rw [show k+5=k+4+1 from rfl,t1,show k+4=k+3+1 from rfl,t2,show k+3=k+2+1 from rfl,t3,xA]
 simp
theorem dro (b b':Bool):(if b=true then some true else some b')=some (b||b'):=by cases b<;>rfl
theorem dan (b b':Bool):(if b=true then some b' else some false)=some (b&&b'):=by cases b<;>rfl
theorem oA {n k i:Nat} {a:Bs} (hi:i<a.length) (hl:a.length≤100000000) (hn:5≤n):
  xx n a (k+1) i=match uAt a i with|none=>some (.ret false)|some d=>xx n a k ((i+d:Nat):Int):=by
 obtain⟨m,rfl⟩:∃m,n=m+5:=⟨n-5,O0⟩
 have g0:=pX a i
 have g1:=pX a (i+1)
 have g2:=pX a (i+2)
 have g3:=pX a (i+3)
 rw [xx,L4 O4,Kw hi]
 simp only [L0,dro,dan]
 rw [zbO g0,zc4 g0,zd6 g0,yv (x:=(a.length:Int)-(i:Int)) O0]
 unfold uAt uN
 by_cases c1:gb a i<32∨gb a i=127
 ·rw [L4 (by rw [Bool.or_eq_true,L2,beq_iff_eq]; omega),L4 c1]; rfl
 rw [L3 (by rw [Bool.or_eq_true,L2,beq_iff_eq]; omega),L3 c1]
 by_cases c2:gb a i<128
 ·rw [L4 O4,L4 c2,w1 O0]; rfl
 rw [L3 O4,L3 c2]
 by_cases c3:gb a i/32=6
 ·rw [L4 (by rw [Lc,L2,L2]; omega),L4 c3]
  by_cases cl:1<a.length-i
  ·rw [L3 O4,u2 O0 hl O0]
   by_cases d1:gb a (i+1)/64=2
   ·rw [L4 d1]
    simp only [z8]
    by_cases cv:128≤gb a i%32*64+gb a (i+1)%64
    ·rw [L3 (by simp only [Bool.or_eq_true,Lc,L2]; omega),L4 ⟨cl,d1,cv⟩]
     simp only [z8]
     rw [yv O0]; rfl
    ·rw [L4 (by simp only [Bool.or_eq_true,Lc,L2]; omega),L3 (fun h=>cv h.2.2)]
   ·rw [L3 d1,L3 (fun h=>d1 h.2.1)]; rfl
  ·rw [L4 O4,L3 (fun h=>cl h.1)]; rfl
 rw [L3 (by rw [Lc,L2,L2]; omega),L3 c3]
 by_cases c4:gb a i/16=14
 ·rw [L4 (by rw [Lc,L2,L2]; omega),L4 c4]
  by_cases cl:2<a.length-i
  ·rw [L3 O4,u3 O0 hl O0]
   by_cases d1:gb a (i+1)/64=2
   ·by_cases d2:gb a (i+2)/64=2
    ·rw [L4 d1,L4 d2]
     simp only [z8]
     by_cases cv:2048≤gb a i%16*4096+gb a (i+1)%64*64+gb a (i+2)%64∧(gb a i%16*4096+gb a (i+1)%64*64+gb a (i+2)%64<55296∨57344≤gb a i%16*4096+gb a (i+1)%64*64+gb a (i+2)%64)
     ·rw [L3 (by simp only [Bool.or_eq_true,Lc,L2]; omega),L4 ⟨cl,d1,d2,cv⟩]
      simp only [z8]
      rw [yv O0]; rfl
     ·rw [L4 (by simp only [Bool.or_eq_true,Lc,L2]; omega),L3 (fun h=>cv h.2.2.2)]
    ·rw [L4 d1,L3 d2,L3 (fun h=>d2 h.2.2.1)]; rfl
   ·rw [L3 d1,L3 (fun h=>d1 h.2.1)]; rfl
  ·rw [L4 O4,L3 (fun h=>cl h.1)]; rfl
 rw [L3 (by rw [Lc,L2,L2]; omega),L3 c4]
 by_cases c5:gb a i/8=30
 ·rw [L4 (by rw [Lc,L2,L2]; omega),L4 c5]
  by_cases cl:3<a.length-i
  ·rw [L3 O4,u4 O0 hl O0]
   by_cases d1:gb a (i+1)/64=2
   ·by_cases d2:gb a (i+2)/64=2
    ·by_cases d3:gb a (i+3)/64=2
     ·rw [L4 d1,L4 d2,L4 d3]
      simp only [z8]
      by_cases cv:65536≤gb a i%8*262144+gb a (i+1)%64*4096+gb a (i+2)%64*64+gb a (i+3)%64∧gb a i%8*262144+gb a (i+1)%64*4096+gb a (i+2)%64*64+gb a (i+3)%64≤1114111
      ·rw [L3 (by simp only [Bool.or_eq_true,Lc,L2]; omega),L4 ⟨cl,d1,d2,d3,cv⟩]
       simp only [z8]
       rw [yv O0]; rfl
      ·rw [L4 (by simp only [Bool.or_eq_true,Lc,L2]; omega),L3 (fun h=>cv h.2.2.2.2)]
     ·rw [L4 d1,L4 d2,L3 d3,L3 (fun h=>d3 h.2.2.2.1)]; rfl
    ·rw [L4 d1,L3 d2,L3 (fun h=>d2 h.2.2.1)]; rfl
   ·rw [L3 d1,L3 (fun h=>d1 h.2.1)]; rfl
  ·rw [L4 O4,L3 (fun h=>cl h.1)]; rfl
 rw [L3 (by rw [Lc,L2,L2]; omega),L3 c5]
 rfl
theorem mC {n:Nat} {a:Bs} (hl:a.length≤100000000) (hn:5≤n):∀(k i:Nat),i≤a.length→a.length-i<k→z8 (xx n a k i) (fun r=>some r) (fun _=>some true)=some (Vm a k i)
 |0,i,_,h=>O0
 | k + 1,i,hi,hk=>by
  rw [Vm]
  by_cases hc:i<a.length
  ·rw [oA hc hl hn,L4 hc]
   cases h:uAt a i with
   |none=>rfl
   | some d=>
    have:=e8 hc h
    exact mC hl hn k (i+d) O0 O0
  ·rw [xx,L3 O4,L3 hc]; rfl
theorem sA {n:Nat} {a:Bs} (hl:a.length≤100000000) (hn:a.length+5≤n):dq n a=some (Vm a n 0):=mC hl O0 n 0 O0 O0
theorem zaQ (a:Bs) (i:Nat):UY a i=Lib.decodeN (a.length-i) (gb a i) (gb a (i+1)) (gb a (i+2)) (gb a (i+3)):=by
 have hg:∀j:Nat,((⟨a.toArray⟩:ByteArray).get! j).toNat=gb a j:=by
  intro j
  show(a.toArray[j]!).toNat=_
  rw [getElem!_def]
  unfold gb
  by_cases h:j<a.length
  ·simp [h]
  ·simp [h]; rfl
 unfold UY
 rw [Lib.decode_at,hg,hg,hg,hg]
 rfl
theorem zed {n i:Nat} {a:Bs} (hi:i<a.length):((ssl a ((i:Nat):Int) (List.length a)).bind fun x74=>(bL n x74 ([239,191,189]:List UInt8)).bind fun r75=>some (!r75))=some (!(decide (3≤a.length-i∧gb a i=239∧gb a (i+1)=191∧gb a (i+2)=189))):=by
 have h1:ssl a (i:Int) (a.length:Int)=some (a.drop i):=by rw [bn O0 O0]; simp
 rw [h1]
 simp only [L0,bL,wD]
 have hl:(a.drop i).length=a.length-i:=O2
 have e:∀j,gb a (i+j)=((a.drop i).getD j 0).toNat:=by intro j; unfold gb; simp
 by_cases hc:3≤a.length-i
 ·have h3:3≤(a.drop i).length:=O0
  rw [L4 (by rw [L2,hl]; simp; omega)]
  have e0:=e 0; have e1:=e 1; have e2:=e 2
  rw [Nat.add_zero]at e0
  rw [e0,e1,e2]
  generalize a.drop i=l at *
  match l,h3 with
  | x::y::z::r,_=>
   have:ssl (x::y::z::r) 0 (([239,191,189]:List UInt8).length:Int)=some [x,y,z]:=by
    unfold ssl; rw [L4 O3]; rfl
   rw [this]
   simp only [L0,hc,true_and]
   congr 2
   have t:∀u:UInt8,∀m:Nat,m<256→((u.toNat=m)↔u=UInt8.ofNat m):=by
    intro u m hm
    constructor
    ·intro h; rw [←h]; simp
    ·intro h; rw [h]; simp; omega
   have q:([x,y,z]==([239,191,189]:List UInt8))=decide ([x,y,z]=([239,191,189]:List UInt8)):=by
    rw [Bool.eq_iff_iff,beq_iff_eq,L2]
   rw [q]
   apply decide_eq_decide.2
   simp only [List.getD_cons_zero,List.getD_cons_succ,List.cons.injEq,and_true]
   rw [t x 239 O0,t y 191 O0,t z 189 O0]
   rfl
 ·rw [L3 (by rw [L2,hl]; simp; omega)]
  simp [hc]
theorem eQ {n k i:Nat} {a:Bs} (hi:i<a.length):
  jG n a (k+1) i=match uAt a i with|none=>some (.ret false)|some d=>jG n a k (i+d):=by
 have g0:=pX a i
 have g1:=pX a (i+1)
 have g2:=pX a (i+2)
 have g3:=pX a (i+3)
 rw [jG,L4 (by rw [Nat.blt_eq]; exact hi),zed hi,zaQ]
 simp only [dro,dan,L0]
 unfold uAt
 generalize a.length-i=m at *
 generalize gb a i=b0 at *
 generalize gb a (i+1)=b1 at *
 generalize gb a (i+2)=b2 at *
 generalize gb a (i+3)=b3 at *
 by_cases c1:b0<128
 ·have:Lib.decodeN m b0 b1 b2 b3=(b0,1):=by unfold Lib.decodeN; rw [L4 c1]
  rw [this]
  by_cases c2:b0<32∨b0=127
  ·rw [L4 (by rw [Bool.or_eq_true,L2,beq_iff_eq]; simp only; omega)]
   unfold uN; rw [L4 c2]
  ·rw [L3 (by rw [Bool.or_eq_true,L2,beq_iff_eq]; simp only; omega),L3 (by rw [Lc,beq_iff_eq]; simp only; omega)]
   unfold uN; rw [L3 c2,L4 c1]
 have key:uN m b0 b1 b2 b3=if(Lib.decodeN m b0 b1 b2 b3).1=65533∧¬(3≤m∧b0=239∧b1=191∧b2=189)then none else some (Lib.decodeN m b0 b1 b2 b3).2:=by
  unfold uN Lib.decodeN
  rw [L3 (show ¬(b0<32∨b0=127)by omega),L3 c1,L3 c1]
  by_cases c2:b0/32=6
  ·rw [L4 c2]
   by_cases d1:1<m∧b1/64=2
   ·rw [L4 (show(b0/32=6∧(1<m∧b1/64=2))from⟨c2,d1⟩)]
    by_cases d2:b0%32*64+b1%64≥128
    ·rw [L4 (show(1<m∧b1/64=2∧128≤b0%32*64+b1%64)from⟨d1.1,d1.2,d2⟩),L4 d2,L3 (by simp only; omega)]
    ·rw [L3 (show ¬(1<m∧b1/64=2∧128≤b0%32*64+b1%64)from fun h=>d2 h.2.2),L3 d2,L4 ⟨rfl,O0⟩]
   ·rw [L3 (show ¬(1<m∧b1/64=2∧128≤b0%32*64+b1%64)by omega),L3 (show ¬(b0/32=6∧(1<m∧b1/64=2))by omega),L3 (show ¬(b0/16=14∧(1<m∧b1/64=2)∧(2<m∧b2/64=2))by omega),L3 (show ¬(b0/8=30∧(1<m∧b1/64=2)∧(2<m∧b2/64=2)∧(3<m∧b3/64=2))by omega),L4 ⟨rfl,O0⟩]
  rw [L3 c2,L3 (show ¬(b0/32=6∧(1<m∧b1/64=2))from fun h=>c2 h.1)]
  by_cases c3:b0/16=14
  ·rw [L4 c3]
   by_cases d1:2<m∧b1/64=2∧b2/64=2
   ·rw [L4 (show(b0/16=14∧(1<m∧b1/64=2)∧(2<m∧b2/64=2))from⟨c3,⟨O0,d1.2.1⟩,d1.1,d1.2.2⟩)]
    generalize hv:b0%16*4096+b1%64*64+b2%64=v
    by_cases d2:v≥2048∧(v<55296∨57344≤v∧v≤1114111)
    ·rw [L4 (show(2<m∧b1/64=2∧b2/64=2∧2048≤v∧(v<55296∨57344≤v))from⟨d1.1,d1.2.1,d1.2.2,O0,O0⟩),L4 d2,L3 (by simp only; omega)]
    ·rw [L3 (show ¬(2<m∧b1/64=2∧b2/64=2∧2048≤v∧(v<55296∨57344≤v))from fun h=>d2 ⟨h.2.2.2.1,O0⟩),L3 d2,L4 ⟨rfl,O0⟩]
   ·rw [L3 (show ¬(2<m∧b1/64=2∧b2/64=2∧2048≤b0%16*4096+b1%64*64+b2%64∧(b0%16*4096+b1%64*64+b2%64<55296∨57344≤b0%16*4096+b1%64*64+b2%64))from fun h=>d1 ⟨h.1,h.2.1,h.2.2.1⟩),L3 (show ¬(b0/16=14∧(1<m∧b1/64=2)∧(2<m∧b2/64=2))from fun h=>d1 ⟨h.2.2.1,h.2.1.2,h.2.2.2⟩),L3 (show ¬(b0/8=30∧(1<m∧b1/64=2)∧(2<m∧b2/64=2)∧(3<m∧b3/64=2))by omega),L4 ⟨rfl,O0⟩]
  rw [L3 c3,L3 (show ¬(b0/16=14∧(1<m∧b1/64=2)∧(2<m∧b2/64=2))from fun h=>c3 h.1)]
  by_cases c4:b0/8=30
  ·rw [L4 c4]
   by_cases d1:3<m∧b1/64=2∧b2/64=2∧b3/64=2
   ·rw [L4 (show(b0/8=30∧(1<m∧b1/64=2)∧(2<m∧b2/64=2)∧(3<m∧b3/64=2))from⟨c4,⟨O0,d1.2.1⟩,⟨O0,d1.2.2.1⟩,d1.1,d1.2.2.2⟩)]
    generalize hv:b0%8*262144+b1%64*4096+b2%64*64+b3%64=v
    by_cases d2:v≥65536∧(v<55296∨57344≤v∧v≤1114111)
    ·rw [L4 (show(3<m∧b1/64=2∧b2/64=2∧b3/64=2∧65536≤v∧v≤1114111)from⟨d1.1,d1.2.1,d1.2.2.1,d1.2.2.2,O0,O0⟩),L4 d2,L3 (by simp only; omega)]
    ·rw [L3 (show ¬(3<m∧b1/64=2∧b2/64=2∧b3/64=2∧65536≤v∧v≤1114111)from fun h=>d2 ⟨h.2.2.2.2.1,O0⟩),L3 d2,L4 ⟨rfl,O0⟩]
   ·rw [L3 (show ¬(3<m∧b1/64=2∧b2/64=2∧b3/64=2∧65536≤b0%8*262144+b1%64*4096+b2%64*64+b3%64∧b0%8*262144+b1%64*4096+b2%64*64+b3%64≤1114111)from fun h=>d1 ⟨h.1,h.2.1,h.2.2.1,h.2.2.2.1⟩),L3 (show ¬(b0/8=30∧(1<m∧b1/64=2)∧(2<m∧b2/64=2)∧(3<m∧b3/64=2))from fun h=>d1 ⟨h.2.2.2.1,h.2.1.2,h.2.2.1.2,h.2.2.2.2⟩),L4 ⟨rfl,O0⟩]
  rw [L3 c4,L3 (show ¬(b0/8=30∧(1<m∧b1/64=2)∧(2<m∧b2/64=2)∧(3<m∧b3/64=2))from fun h=>c4 h.1),L4 ⟨rfl,O0⟩]
 have big:127<(Lib.decodeN m b0 b1 b2 b3).1:=by
  unfold Lib.decodeN
  rw [L3 c1]
  repeat' split
  all_goals simp only
  all_goals omega
 rw [key,L3 (by rw [Bool.or_eq_true,L2,beq_iff_eq]; omega)]
 by_cases c:(Lib.decodeN m b0 b1 b2 b3).1=65533∧¬(3≤m∧b0=239∧b1=191∧b2=189)
 ·rw [L4 c,L4 (by rw [Lc,beq_iff_eq,Bool.not_eq_true',decide_eq_false_iff_not]; exact⟨O0,c.2⟩)]
 ·rw [L3 c,L3 (by rw [Lc,beq_iff_eq,Bool.not_eq_true',decide_eq_false_iff_not]; intro h; exact c ⟨O0,h.2⟩)]
theorem cu {n:Nat} {a:Bs}:∀(k i:Nat),i≤a.length→a.length-i<k→z8 (jG n a k i) (fun r=>some r) (fun _=>some true)=some (Vm a k i)
 |0,i,_,h=>O0
 | k + 1,i,hi,hk=>by
  rw [Vm]
  by_cases hc:i<a.length
  ·rw [eQ hc,L4 hc]
   cases h:uAt a i with
   |none=>rfl
   | some d=>
    have:=e8 hc h
    exact cu k (i+d) O0 O0
  ·rw [jG,L3 (by rw [Nat.blt_eq]; exact hc),L3 hc]; rfl
theorem sG {n:Nat} {a:Bs} (hn:a.length+5≤n):VL n a=some (Vm a n 0):=cu n 0 O0 O0
theorem UP (s:Bs):∀(k k' i:Nat),s.length-i<k→s.length-i<k'→Vm s k i=Vm s k' i
 |0,_,i,h,_=>O0
 |_,0,i,_,h=>O0
 | k + 1,k'+1,i,h,h'=>by
  rw [Vm,Vm]
  by_cases hc:i<s.length
  ·rw [L4 hc,L4 hc]
   cases hu:uAt s i with
   |none=>rfl
   | some d=>
    have:=e8 hc hu
    exact UP s k k' (i+d) O0 O0
  ·rw [L3 hc,L3 hc]
def prC (b:Nat):Bool:=decide (97≤b∧b≤122)||decide (65≤b∧b≤90)||decide (48≤b∧b≤57)||([32,39,40,41,43,44,45,46,47,58,61,63]:List Nat).contains b
def iaC (b:Nat):Bool:=decide (32≤b∧b≤126)
def Xd (kind:Int) (s:Bs):Bool:=
 if kind=12 then Vm s (s.length+1) 0 else if kind=19 then s.all (fun c=>prC c.toNat)else if kind=22 then s.all (fun c=>iaC c.toNat)else false
theorem zaU {n b:Nat} (hn:20≤n) (hb:b<256):pK n (b:Int)=some (prC b):=by
 obtain⟨m,rfl⟩:∃m,n=m+20:=⟨n-20,O0⟩
 have:=Ld.1 (show((List.range 256).all fun b:Nat=>decide (pK (m+20) (b:Int)=some (prC b)))=true by kernel_rfl) b (O9 hb)
 simpa using this
theorem za1 {n b:Nat} (hb:b<256):pF n (b:Int)=some (iaC b):=by
 have:=Ld.1 (show((List.range 256).all fun b:Nat=>decide (pF n (b:Int)=some (iaC b)))=true by kernel_rfl) b (O9 hb)
 simpa using this
theorem fv {n b:Nat} (hn:20≤n) (hb:b<256):((wd n (b:Int)).bind fun r451=>
  if(!r451)=true then((wb n (b:Int) ([32,39,40,41,43,44,45,46,47,58,61,63]:List UInt8)).bind fun r453=>
  some (!r453))else(some false))=some (!prC b):=by
 obtain⟨m,rfl⟩:∃m,n=m+20:=⟨n-20,O0⟩
 have:=Ld.1 (show((List.range 256).all fun b:Nat=>decide (((wd (m+20) (b:Int)).bind fun r451=>
  if(!r451)=true then((wb (m+20) (b:Int) ([32,39,40,41,43,44,45,46,47,58,61,63]:List UInt8)).bind fun r453=>
  some (!r453))else(some false))=some (!prC b)))=true by kernel_rfl) b (O9 hb)
 simpa using this
theorem zdM {n:Nat} {a:Bs} (hl:a.length≤100000000) (hn:20≤n):∀(k i:Nat),i≤a.length→a.length-i<k→z8 (gC n a k (i:Int)) (fun r=>some r) (fun _=>some true)=some ((a.drop i).all fun c=>prC c.toNat)
 |0,i,_,h=>O0
 | k + 1,i,hi,hk=>by
  rw [gC]
  by_cases hc:i<a.length
  ·rw [L4 O4,vC hc,L9 hc,List.all_cons]
   simp only [L0]
   rw [zaU hn (WV _)]
   simp only [L0]
   by_cases hp:prC (a[i]).toNat=true
   ·rw [hp,L3 O2,w1 O0,zdM hl hn k (i+1) O0 O0]; simp
   ·rw [Bool.not_eq_true]at hp
    rw [hp,L4 O2]; rfl
  ·rw [L3 O4]
   have:i=a.length:=O0
   subst this
   simp [z8]
theorem zcm {n:Nat} {a:Bs} (hl:a.length≤100000000):∀(k i:Nat),i≤a.length→a.length-i<k→z8 (kw n a k (i:Int)) (fun r=>some r) (fun _=>some true)=some ((a.drop i).all fun c=>iaC c.toNat)
 |0,i,_,h=>O0
 | k + 1,i,hi,hk=>by
  rw [kw]
  by_cases hc:i<a.length
  ·rw [L4 O4,vC hc,L9 hc,List.all_cons]
   simp only [L0]
   rw [za1 (WV _)]
   simp only [L0]
   by_cases hp:iaC (a[i]).toNat=true
   ·rw [hp,L3 O2,w1 O0,zcm hl k (i+1) O0 O0]; simp
   ·rw [Bool.not_eq_true]at hp
    rw [hp,L4 O2]; rfl
  ·rw [L3 O4]
   have:i=a.length:=O0
   subst this
   simp [z8]
theorem eU {n:Nat} {k:Int} {a:Bs} (hl:a.length≤100000000) (hn:a.length+20≤n):Z1 n k a=some (Xd k a):=by
 unfold Z1 Xd
 by_cases h1:k=12
 ·rw [L4 (O9 h1),L4 h1,sG O0]
  simp only [L0]
  rw [UP a n (a.length+1) 0 O0 O0]
 rw [L3 (O9 h1),L3 h1]
 by_cases h2:k=19
 ·rw [L4 (O9 h2),L4 h2]
  unfold VV
  have:=zdM (n:=n) hl O0 n 0 O0 O0
  rw [show((0:Nat):Int)=0 from rfl,Lf]at this
  rw [this]; rfl
 rw [L3 (O9 h2),L3 h2]
 by_cases h3:k=22
 ·rw [L4 (O9 h3),L4 h3]
  unfold Wg
  have:=zcm (n:=n) hl n 0 O0 O0
  rw [show((0:Nat):Int)=0 from rfl,Lf]at this
  rw [this]; rfl
 rw [L3 (O9 h3),L3 h3]
theorem zaq {n:Nat} {a:Bs} (hl:a.length≤100000000) (hn:20≤n):∀(k i:Nat),i≤a.length→a.length-i<k→z8 (y6 n a 19 k (i:Int)) (fun r=>some r) (fun _=>some true)=some ((a.drop i).all fun c=>prC c.toNat)
 |0,i,_,h=>O0
 | k + 1,i,hi,hk=>by
  rw [y6]
  by_cases hc:i<a.length
  ·rw [L4 O4,vC hc,L9 hc,List.all_cons]
   rw [L3 O1,L4 O1]
   simp only [L0]
   rw [fv hn (WV _)]
   simp only [L0]
   by_cases hp:prC (a[i]).toNat=true
   ·rw [hp,L3 O2,w1 O0,zaq hl hn k (i+1) O0 O0]; simp
   ·rw [Bool.not_eq_true]at hp
    rw [hp,L4 O2]; rfl
  ·rw [L3 O4]
   have:i=a.length:=O0
   subst this
   simp [z8]
theorem zar {n:Nat} {a:Bs} (hl:a.length≤100000000):∀(k i:Nat),i≤a.length→a.length-i<k→z8 (y6 n a 22 k (i:Int)) (fun r=>some r) (fun _=>some true)=some ((a.drop i).all fun c=>iaC c.toNat)
 |0,i,_,h=>O0
 | k + 1,i,hi,hk=>by
  rw [y6]
  by_cases hc:i<a.length
  ·rw [L4 O4,vC hc,L9 hc,List.all_cons]
   rw [L4 O1]
   simp only [L0]
   rw [L3 (show ¬((22:Int)==19)=true by decide)]
   by_cases hp:iaC (a[i]).toNat=true
   ·have hp':=hp
    unfold iaC at hp'; rw [L2]at hp'
    rw [L3 O4,L3 O4]
    simp only [L0]
    rw [hp,L3 O2,w1 O0,zar hl k (i+1) O0 O0]; simp
   ·rw [Bool.not_eq_true]at hp
    have hp':=hp
    unfold iaC at hp'; rw [decide_eq_false_iff_not]at hp'
    rw [hp]
    by_cases h1:(a[i]).toNat<32
    ·rw [L4 O4]; rfl
    ·rw [L3 O4,L4 O4]; rfl
  ·rw [L3 O4]
   have:i=a.length:=O0
   subst this
   simp [z8]
theorem B2 {n:Nat} {k:Int} {a:Bs} (hl:a.length≤100000000) (hn:a.length+20≤n):jD n k a=some (Xd k a):=by
 unfold jD Xd
 by_cases h1:k=12
 ·rw [L4 (O9 h1),L4 h1,sA hl O0]
  simp only [L0]
  rw [UP a n (a.length+1) 0 O0 O0]
 rw [L3 (O9 h1),L3 h1]
 by_cases h2:k=19
 ·subst h2
  rw [L4 O1,L4 rfl]
  simp only [L0]
  rw [L4 O1]
  have:=zaq (n:=n) hl O0 n 0 O0 O0
  rw [show((0:Nat):Int)=0 from rfl,Lf]at this
  exact this
 rw [L3 (O9 h2),L3 h2]
 by_cases h3:k=22
 ·subst h3
  rw [L4 rfl]
  simp only [L0]
  rw [L4 O1]
  have:=zar (n:=n) hl n 0 O0 O0
  rw [show((0:Nat):Int)=0 from rfl,Lf]at this
  exact this
 rw [L3 h3]
 simp only [L0]
 rw [L3 (O9 h3)]
def leB (x y:Bs):Bool:=decide (x≤y)
theorem lV:∀(x y:Bs),Op.bytesLess x y=decide (x<y)
 | [],[]=>by simp [Op.bytesLess]
 |_::_,[]=>by simp [Op.bytesLess]
 | [],_::_=>by simp [Op.bytesLess]
 | a::x,b::y=>by
  rw [Op.bytesLess,lV x y]
  simp only [List.cons_lt_cons_iff]
  by_cases h1:a<b<;>by_cases h2:a=b<;>by_cases h3:x<y<;>simp [h1,h2,h3]
theorem Ql (a b c:Bs) (h1:leB a b=true) (h2:leB b c=true):leB a c=true:=by
 unfold leB at *; simp only [L2]at *; exact List.le_trans h1 h2
theorem QQ (a b:Bs):(leB a b||leB b a)=true:=by
 unfold leB; simp only [Bool.or_eq_true,L2]; exact List.le_total a b
theorem rE {a b:Bs} (h1:leB a b=true) (h2:leB b a=true):a=b:=by
 unfold leB at *; simp only [L2]at *; exact List.le_antisymm h1 h2
theorem zco (a b:Bs):(Op.bytesLess a b||a==b)=leB a b:=by
 rw [lV]; unfold leB
 by_cases h:a=b
 ·subst h; simp [List.le_refl]
 ·have e:(a==b)=false:=by simpa using h
  rw [e,Bool.or_false]
  apply decide_eq_decide.2
  constructor
  ·intro h; exact List.le_of_lt h
  ·intro h1
   by_cases hl:a<b
   ·exact hl
   ·exact absurd (List.le_antisymm h1 (List.not_lt.1 hl)) h
theorem zcW (a b:Bs):Op.bytesLess a b= !leB b a:=by
 rw [lV]; unfold leB
 rw [←decide_not]
 exact decide_eq_decide.2 List.not_le.symm
def Yq (l:List Bs):List Bs:=l.mergeSort leB
theorem U9 (l:List Bs):List.Perm (Yq l) l:=List.mergeSort_perm l leB
theorem DO (l:List Bs):(Yq l).Pairwise fun a b=>leB a b=true:=List.pairwise_mergeSort Ql QQ l
theorem eg {l s:List Bs} (hp:List.Perm s l) (hs:s.Pairwise fun a b=>leB a b=true):s=Yq l:=
 List.Perm.eq_of_pairwise (le:=fun a b=>leB a b=true) (fun a b _ _ h1 h2=>rE h1 h2) hs (DO l) (hp.trans (U9 l).symm)
def V7 (s:List Bs) (x:Bs):List Bs:=s.takeWhile (leB · x)++x::s.dropWhile (leB · x)
theorem Qu (s:List Bs) (x:Bs):List.Perm (V7 s x) (x::s):=by
 unfold V7
 refine List.perm_middle.trans (List.Perm.cons x ?_)
 rw [List.takeWhile_append_dropWhile]
theorem Kg:∀ {s:List Bs} (x:Bs),s.Pairwise (fun a b=>leB a b=true)→(V7 s x).Pairwise fun a b=>leB a b=true
 | [],x,_=>by simp [V7]
 | a::s,x,h=>by
  unfold V7
  rw [List.takeWhile_cons,List.dropWhile_cons]
  by_cases hc:leB a x=true
  ·rw [L4 hc,L4 hc]
   rw [List.pairwise_cons]at h
   show(a::V7 s x).Pairwise _
   rw [List.pairwise_cons]
   refine⟨fun b hb=> ?_,Kg x h.2⟩
   rcases Lm.1 ((Qu s x).mem_iff.1 hb)with rfl|hb
   ·exact hc
   ·exact h.1 b hb
  ·rw [L3 hc,L3 hc]
   have hx:leB x a=true:=by have:=QQ a x; simpa [hc] using this
   show(x::a::s).Pairwise _
   rw [List.pairwise_cons]
   refine⟨fun b hb=> ?_,h⟩
   rcases Lm.1 hb with rfl|hb
   ·exact hx
   ·exact Ql _ _ _ hx ((List.pairwise_cons.1 h).1 b hb)
theorem PO:∀(l s:List Bs),s.Pairwise (fun a b=>leB a b=true)→(l.foldl V7 s).Pairwise (fun a b=>leB a b=true)∧List.Perm (l.foldl V7 s) (s++l)
 | [],s,h=>⟨h,O2⟩
 | x::l,s,h=>by
  obtain⟨h1,h2⟩:=PO l (V7 s x) (Kg x h)
  refine⟨h1,h2.trans ?_⟩
  exact((Qu s x).append_right l).trans (List.perm_middle.symm)
theorem no (l:List Bs):l.foldl V7 []=Yq l:=by
 obtain⟨h1,h2⟩:=PO l [] O2
 exact eg (O9 h2) h1
theorem si {n:Nat} (s:List Bs) (x:Bs) (hs:s.length≤1000000):∀(k i:Nat),i≤s.length→s.length-i<k→vO n s.length s x k (i:Int)=some ((i+((s.drop i).takeWhile (leB · x)).length:Nat):Int)
 |0,i,_,h=>O0
 | k + 1,i,hi,hk=>by
  rw [vO]
  by_cases hc:i<s.length
  ·rw [L4 O4]
   have h1:pq s.length (i:Int)=some i:=by unfold pq; rw [L4 ⟨O0,O0⟩]; simp
   rw [h1]
   simp only [L0,Nat.mul_one,List.getElem?_eq_getElem hc,zco]
   rw [L9 hc,List.takeWhile_cons]
   by_cases hl:leB s[i] x=true
   ·rw [L4 hl,L4 hl,w1 O0,si s x hs k (i+1) O0 O0]
    simp only [L7]
    congr 2; omega
   ·rw [L3 hl,L3 hl]
    simp
  ·rw [L3 O4]
   have:i=s.length:=O0
   subst this
   simp
theorem oY {n:Nat} (a:List Bs) (ha:a.length≤1000000) (hn:a.length+5≤n):∀(k i:Nat) (s:List Bs),i≤a.length→a.length-i<k→s.length=i→wF n a k s.length (i:Int) s=some ((((a.drop i).foldl V7 s).length:Nat),(a.drop i).foldl V7 s)
 |0,i,_,_,h,_=>O0
 | k + 1,i,s,hi,hk,hs=>by
  rw [wF]
  by_cases hc:i<a.length
  ·rw [L4 O4,zE hc]
   simp only [L0]
   have h2:=si (n:=n) s a[i] O0 n 0 O0 O0
   rw [show((0:Nat):Int)=0 from rfl,Lf,Nat.zero_add]at h2
   have ht:s.takeWhile (leB · a[i])=s.take (s.takeWhile (leB · a[i])).length:=by
    have e:=List.takeWhile_append_dropWhile (p:=(leB · a[i])) (l:=s)
    conv=>rhs; arg 2; rw [←e]
    rw [List.take_left]
   have hd:s.dropWhile (leB · a[i])=s.drop (s.takeWhile (leB · a[i])).length:=by
    have e:=List.takeWhile_append_dropWhile (p:=(leB · a[i])) (l:=s)
    conv=>rhs; arg 2; rw [←e]
    rw [List.drop_left]
   have hle:(s.takeWhile (leB · a[i])).length≤s.length:=(List.takeWhile_sublist _).length_le
   have hf:J5 s.length s=some s:=by unfold J5; rw [L4 O0]; simp
   have l1:lsl s 0 ((s.takeWhile (leB · a[i])).length:Int)=some (s.takeWhile (leB · a[i])):=by
    unfold lsl; rw [L4 ⟨O0,O0,O0⟩]
    simp only [Int.toNat_natCast,Int.toNat_zero,Lf]
    rw [←ht]
   have l2:lsl s ((s.takeWhile (leB · a[i])).length:Int) (s.length:Int)=some (s.dropWhile (leB · a[i])):=by
    unfold lsl; rw [L4 ⟨O0,O0,O0⟩]
    simp only [Int.toNat_natCast,List.take_length]
    rw [←hd]
   have hlen:(s.takeWhile (leB · a[i])).length+(s.dropWhile (leB · a[i])).length=s.length:=by
    rw [←L5,List.takeWhile_append_dropWhile]
   rw [h2]
   simp only [L0]
   rw [hf]
   simp only [L0]
   rw [l1,L0,l2,L0]
   have o0:Kf 16 (s.takeWhile (leB · a[i]))=some (s.takeWhile (leB · a[i])):=by unfold Kf; rw [L4 O0]
   rw [o0,L0]
   have o1:ZI 16 (s.takeWhile (leB · a[i])).length (s.takeWhile (leB · a[i])) [a[i]]=some (s.takeWhile (leB · a[i]) ++ [a[i]]):=by
    unfold ZI; rw [L4 ⟨rfl,O2,by simp only [L6]; omega⟩]
   rw [o1,L0]
   have key:((if List.isEmpty (s.dropWhile (leB · a[i]))=true then some ((s.takeWhile (leB · a[i])).length+List.length ([a[i]]:List Bs),s.takeWhile (leB · a[i]) ++ [a[i]])else((ZI 16 ((s.takeWhile (leB · a[i])).length+List.length ([a[i]]:List Bs)) (s.takeWhile (leB · a[i]) ++ [a[i]]) (s.dropWhile (leB · a[i]))).bind fun x709=>some (((s.takeWhile (leB · a[i])).length+List.length ([a[i]]:List Bs))+List.length (s.dropWhile (leB · a[i])),x709))):Option (Nat×List Bs))=some ((V7 s a[i]).length,V7 s a[i]):=by
    unfold V7
    by_cases he:List.isEmpty (s.dropWhile (leB · a[i]))=true
    ·rw [L4 he]
     have:s.dropWhile (leB · a[i])= []:=by simpa using he
     rw [this]; simp
    ·rw [L3 he]
     have hne:(s.dropWhile (leB · a[i])).length≠0:=by
      intro h0; apply he; rw [List.eq_nil_of_length_eq_zero h0]; rfl
     unfold ZI
     rw [L4 ⟨O2,hne,by simp only [L6]; omega⟩]
     simp only [L0,Ln,List.cons_append,Lg,L5,L7,Lj]
     congr 2; omega
   rw [key]
   simp only [L0]
   have hil:(V7 s a[i]).length=i+1:=by rw [(Qu s a[i]).length_eq]; simp [hs]
   rw [w1 O0,L9 hc,List.foldl_cons]
   exact oY a ha hn k (i+1) (V7 s a[i]) O0 O0 hil
  ·rw [L3 O4]
   have:i=a.length:=O0
   subst this
   simp
theorem sV {n:Nat} (s:List Bs) (hs:s.length≤1000000) (hm:s.flatten.length≤1000000000):∀(k i:Nat) (acc:Bs),i≤s.length→s.length-i<k→acc.length+(s.drop i).flatten.length≤1000000000→vM n (s.length,s) k acc (i:Int)=some (acc++(s.drop i).flatten)
 |0,i,_,_,h,_=>O0
 | k+1,i,acc,hi,hk,hb=>by
  rw [vM]
  by_cases hc:i<s.length
  ·rw [L4 (by rw [L2]; simp only; omega)]
   have h1:pq s.length (i:Int)=some i:=by unfold pq; rw [L4 ⟨O0,O0⟩]; simp
   simp only [h1,L0,Nat.mul_one,List.getElem?_eq_getElem hc]
   rw [L9 hc]at hb ⊢
   rw [List.flatten_cons,L5]at hb
   rw [yo O0]
   simp only [L0]
   rw [w1 O0,sV s hs hm k (i+1) _ O0 O0 (by rw [L5]; omega),List.flatten_cons,Ln]
  ·rw [L3 (by rw [L2]; simp only; omega)]
   have:i=s.length:=O0
   subst this
   simp
theorem Ut (l:List Bs):(Yq l).length=l.length:=(U9 l).length_eq
theorem Ja (l:List Bs):(Yq l).flatten.length=l.flatten.length:=by
 have:=(U9 l).flatten
 exact this.length_eq
theorem nE {n:Nat} {a:List Bs} (ha:a.length≤1000000) (hm:a.flatten.length≤1000000000) (hn:a.length+5≤n):kj n a=some (Yq a).flatten:=by
 unfold kj
 have h1:=oY (n:=n) a ha hn n 0 [] O0 O0 rfl
 rw [Lf,no]at h1
 have e0:wF n a n 0 0 []=some ((Yq a).length,Yq a):=h1
 rw [e0]
 simp only [L0]
 have h3:=sV (n:=n) (Yq a) (by rw [Ut]; omega) (by rw [Ja]; omega) n 0 [] O0 (by rw [Ut]; omega) (by simp only [Lf,Lj]; rw [Ja]; omega)
 rw [show((0:Nat):Int)=0 from rfl]at h3
 rw [h3]; simp
end Go.Abs
end
