/- The typed Lean form of WireDecodesQueries gives true for every list of at most 9223372036854775807 numbers. -/
import Derived.Test.YtbggpcnbbhjiaaaGreatDoorW4
set_option linter.unusedVariables false
set_option linter.unusedSimpArgs false
set_option linter.unnecessarySimpa false
section
set_option maxRecDepth 100000
namespace Go.Abs
open Go Go.Proofs IntKind
theorem L0{α β:Type}{a:α}{f:α→Option β}:(some a).bind f=f a:=rfl
theorem L3{p:Prop}[Decidable p]:(decide p=true)=p:=decide_eq_true_eq
theorem L4{c:Prop}{h:Decidable c}(H:¬c){α:Type}{t e:α}:ite c t e=e:=if_neg H
theorem L6{c:Prop}{h:Decidable c}(H:c){α:Type}{t e:α}:ite c t e=t:=if_pos H
theorem L8{α:Type}{a b:List α}:(a++b).length=a.length+b.length:=List.length_append
theorem L9{α:Type}{a:α}:[a].length=1:=rfl
theorem La{α:Type}{a:α}{l:List α}:(a::l).length=l.length+1:=rfl
theorem Lb{α β:Type}{l:List α}{f:α→β}:(l.map f).length=l.length:=List.length_map f
theorem Lc{α:Type}{i:Nat}{l:List α}(h:i<l.length):l.drop i=l[i]::l.drop (i+1):=List.drop_eq_getElem_cons h
theorem Ld{α:Type}{i:Nat}{l:List α}(h:l.length≤i):l.drop i=[]:=List.drop_eq_nil_of_le h
theorem Le{α β:Type}{f:α→β}{a:α}{l:List α}:(a::l).map f=f a::l.map f:=rfl
theorem Lf(a b:Bool):((a&&b)=true)=(a=true∧b=true):=Bool.and_eq_true a b
theorem Lg{α:Type}{p:α→Bool}{l:List α}:l.all p=true↔∀x∈l,p x=true:=List.all_eq_true
theorem Lh{α β:Type}{f:α→β}{b:β}{l:List α}:b∈l.map f↔∃a,a∈l∧f a=b:=List.mem_map
theorem Li{α:Type}{l:List α}:l.drop 0=l:=rfl
theorem Lj{α:Type}(l:List α):[]++l=l:=rfl
theorem Lk{α:Type}(l:List α):l++[]=l:=List.append_nil l
theorem Ll{α:Type}{l:List α}{n:Nat}(h:n<l.length):l[n]∈l:=List.getElem_mem h
theorem Lm{α:Type}:([]:List α).length=0:=rfl
theorem Ln{α:Type}{a b:α}:a∈[b]↔a=b:=List.mem_singleton
theorem Lo{α:Type}{a:α}{s t:List α}:a∈s++t↔a∈s∨a∈t:=List.mem_append
theorem Lp{α:Type}{a b:α}{l:List α}:a∈b::l↔a=b∨a∈l:=List.mem_cons
theorem Lq{α:Type}(a b c:List α):a++b++c=a++(b++c):=List.append_assoc a b c
abbrev Bs:=List UInt8
theorem z6 {x:Int} (h: -9223372036854775808≤x∧x≤9223372036854775807):wrap .i64 x=x:=IntWalk.i64_in x h
theorem wr8 {x:Int} (h0:0≤x) (h1:x≤255):wrap .u8 x=x:=by
 obtain⟨n,rfl⟩:=Int.eq_ofNat_of_zero_le h0
 have hn:n<256:=O0
 have:∀n:Nat,n<256→wrap .u8 (n:Int)=n:=by
  intro n hn
  have:=Lg.1 (show((List.range 256).all fun n:Nat=>wrap .u8 (n:Int)==(n:Int))=true by kernel_rfl) n (Oa hn)
  simpa using this
 exact this n hn
theorem Gq {x y:Nat} (hx:x<9223372036854775808) (hy:y<9223372036854775808):uU .i64 (x:Int) (y:Int)=((x &&& y:Nat):Int):=by
 show wrap .i64 (((BitVec.ofInt 64 (x:Int) &&& BitVec.ofInt 64 (y:Int)).toNat:Nat):Int)=_
 rw [BitVec.ofInt_natCast,BitVec.ofInt_natCast]
 have h3:(BitVec.ofNat 64 x &&& BitVec.ofNat 64 y).toNat=x &&& y:=by
  rw [BitVec.toNat_and,BitVec.toNat_ofNat,BitVec.toNat_ofNat,Nat.mod_eq_of_lt O0,Nat.mod_eq_of_lt O0]
 rw [h3]
 have:x &&& y≤x:=Nat.and_le_left
 exact z6 O0
theorem oE {x y:Nat} (hx:x<9223372036854775808) (hy:y<9223372036854775808):ior .i64 (x:Int) (y:Int)=((x|||y:Nat):Int):=by
 show wrap .i64 (((BitVec.ofInt 64 (x:Int)|||BitVec.ofInt 64 (y:Int)).toNat:Nat):Int)=_
 rw [BitVec.ofInt_natCast,BitVec.ofInt_natCast]
 have h3:(BitVec.ofNat 64 x|||BitVec.ofNat 64 y).toNat=x|||y:=by
  rw [BitVec.toNat_or,BitVec.toNat_ofNat,BitVec.toNat_ofNat,Nat.mod_eq_of_lt O0,Nat.mod_eq_of_lt O0]
 rw [h3]
 have:x|||y<2^63:=Nat.or_lt_two_pow (Oa hx) (Oa hy)
 exact z6 O0
theorem oC {v x i:Nat} (h:2^i*v+x<9223372036854775808) (hx:x<2^i):ior .i64 ((2^i*v:Nat):Int) (x:Int)=((2^i*v+x:Nat):Int):=by
 rw [oE O0 O0,←Nat.two_pow_add_eq_or_of_lt hx]
theorem vj {s:Bs} {i:Nat} (h:i<s.length):yr s (i:Int)=some ((s[i]).toNat:Int):=by
 simp [yr,h]
theorem zQ {α:Type} {l:List α} {i:Nat} (h:i<l.length):zM l (i:Int)=some l[i]:=by
 simp [zM,h]
theorem kX {s:Bs} {i j:Nat} (h:i≤j) (hj:j≤s.length):ssl s (i:Int) (j:Int)=some ((s.take j).drop i):=by
 unfold ssl; rw [L6 O0]; simp
theorem yd {s t:Bs} (h:s.length+t.length≤9223372036854775807):um s t=some (s++t):=by
 unfold um; rw [L6 h]
theorem yx {α:Type} {b:Nat} {l m:List α} (h:(l.length+m.length)*b≤140737488355328):jR b l m=some (l++m):=by
 unfold jR; rw [L6 h]
theorem w1 {i:Nat} (h:i<9223372036854775807):wrap .i64 ((i:Int)+1)=((i+1:Nat):Int):=by rw [z6 O0]; omega
theorem W6 (c:UInt8):c.toNat<256:=c.toNat_lt
theorem yF {α β:Type} {c:Option α} {f:α→Option β} (h:∃a,c=some a) (k:∀a,c=some a→∃y,f a=some y):∃y,c.bind f=some y:=by
 obtain⟨a,ha⟩:=h
 obtain⟨y,hy⟩:=k a ha
 exact⟨y,by rw [ha]; exact hy⟩
theorem yq {α:Type} {c:Prop} [Decidable c] {a b:Option α} (h1:c→∃y,a=some y) (h2:¬c→∃y,b=some y):∃y,(if c then a else b)=some y:=by
 by_cases hc:c
 ·rw [L6 hc]; exact h1 hc
 ·rw [L4 hc]; exact h2 hc
theorem u9 {s:Bs} {i:Int} (h0:0≤i) (h1:i<s.length):∃x,yr s i=some x:=by
 obtain⟨n,rfl⟩:=Int.eq_ofNat_of_zero_le h0
 exact⟨_,vj O0⟩
theorem gI {α:Type} {s:List α} {i:Int} (h0:0≤i) (h1:i<s.length):∃x,zM s i=some x:=by
 obtain⟨n,rfl⟩:=Int.eq_ofNat_of_zero_le h0
 exact⟨_,zQ O0⟩
theorem Pz {s:Bs} {i j:Int} (h0:0≤i) (h1:i≤j) (h2:j≤s.length):∃x,ssl s i j=some x:=by
 unfold ssl; rw [L6 ⟨h0,h1,h2⟩]; exact⟨_,rfl⟩
abbrev E0:zb:=⟨0,[],[]⟩
def num (l:Bs):Nat:=l.foldl (fun n c=>256*n+c.toNat) 0
def least:Nat→Nat
 |0=>0
 |1=>128
 |2=>256
 |_=>65536
def wm (b:Bs):zb×Bs×Int:=
 match b with
 | []=>(E0,[],3)
 | t::r=>if t.toNat%32=31 then(E0,[],5)else match r with
  | []=>(E0,[],3)
  | c::s=>
   if c.toNat=128∨131<c.toNat then(E0,[],6)
   else if c.toNat<128 then(if s.length<c.toNat then(E0,[],3)else(⟨t.toNat,s.take c.toNat,t::c::s.take c.toNat⟩,s.drop c.toNat,0))
   else if s.length<c.toNat-128 then(E0,[],3)
   else if num (s.take (c.toNat-128))<least (c.toNat-128)∨131072<num (s.take (c.toNat-128))then(E0,[],6)
   else if s.length-(c.toNat-128)<num (s.take (c.toNat-128))then(E0,[],3)
   else(⟨t.toNat,(s.drop (c.toNat-128)).take (num (s.take (c.toNat-128))),t::c::s.take (c.toNat-128+num (s.take (c.toNat-128)))⟩,s.drop (c.toNat-128+num (s.take (c.toNat-128))),0)
theorem zb2 (t:UInt8):(uU .i64 (t.toNat:Int) 31==31)=decide (t.toNat%32=31):=by
 have:∀n:Nat,n<256→(uU .i64 (n:Int) 31==31)=decide (n%32=31):=by
  intro n hn
  have:=Lg.1 (show((List.range 256).all fun n:Nat=>(uU .i64 (n:Int) 31==31)==decide (n%32=31))=true by kernel_rfl) n (Oa hn)
  simpa using this
 exact this _ (W6 t)
theorem rl1 {n:Nat} (x:Bs):∀(k i v:Nat),i≤x.length→x.length-i<k→x.length≤3→v<256^i→gZ n x k (v:Int) (i:Int)=some (((x.drop i).foldl (fun n c=>256*n+c.toNat) v:Nat):Int)
 |0,i,v,_,h,_,_=>O0
 | k+1,i,v,hi,hk,h3,hv=>by
  rw [gZ]
  by_cases hc:i<x.length
  ·have hl:(s2b x).length=x.length:=by simp [s2b]
   rw [L6 (by simp [hl]; exact hc),zQ (by rw [hl]; exact hc)]
   have hg:(s2b x)[i]'(by rw [hl]; exact hc)=((x[i]).toNat:Int):=by simp [s2b]
   rw [hg]
   simp only [L0]
   have hb:=W6 x[i]
   have hv2:v<65536:=Nat.lt_of_lt_of_le hv (Nat.le_trans (Nat.pow_le_pow_right O0 (show i≤2 by omega)) O1)
   have e1:wrap .i64 ((v:Int)*256)=((2^8*v:Nat):Int):=by rw [z6 O0]; omega
   rw [e1,z6 (x:=((x[i]).toNat:Int)) O0,oC (i:=8) O0 hb,w1 O0]
   have hd:x.drop i=x[i]::x.drop (i+1):=by rw [Lc hc]
   rw [hd,List.foldl_cons]
   refine rl1 x k (i+1) _ O0 O0 h3 ?_
   rw [Nat.pow_succ]
   omega
  ·have:i=x.length:=O0
   subst this
   simp [s2b]
theorem GR {n:Nat} {b:Bs} (hb:b.length≤4611686018427387904) (hn:5≤n):ZC n b=some (wm b):=by
 unfold ZC wm
 match b with
 | []=>simp
 | t :: r =>
  have h0:yr (t::r) 0=some (t.toNat:Int):=by simp [yr]
  have ht:=W6 t
  rw [h0]
  simp only [L0]
  rw [z6 (x:=(t.toNat:Int)) O0,zb2]
  rw [L4 O2]
  by_cases h31:t.toNat%32=31
  ·simp [h31]
  ·simp only [h31,decide_false,Bool.false_eq_true,if_false]
   match r with
   | []=>simp
   | c :: s=>
    have h1:yr (t::c::s) 1=some (c.toNat:Int):=by simp [yr]
    have hc:=W6 c
    rw [L4 O3,h1]
    simp only [L0]
    rw [z6 (x:=(c.toNat:Int)) O0]
    by_cases hA:c.toNat=128∨131<c.toNat
    ·have:(if((c.toNat:Int)==128)=true then some true else some (decide ((c.toNat:Int)>131)))=some true:=by
      by_cases h:c.toNat=128
      ·rw [L6 O3]
      ·rw [L4 O3]; simp; omega
     rw [this,L6 hA]; rfl
    ·have :(if((c.toNat:Int)==128)=true then some true else some (decide ((c.toNat:Int)>131)))=some false:=by
      rw [L4 O3]; simp; omega
     rw [this,L4 hA]
     simp only [L0,Bool.false_eq_true,if_false]
     have hlen:(t::c::s).length=s.length+2:=rfl
     have fin:∀(m k:Nat),m≤131072→k≤s.length→k≤3 →
       (if (decide (wrap .i64 (((t::c::s).length:Int)-((k+2:Nat):Int))<(m:Int)))=true then some ((zb.mk 0 ([]:Bs) ([]:Bs)),([]:Bs),(3:Int))else
        ((ssl (t::c::s) ((k+2:Nat):Int) (wrap .i64 (((k+2:Nat):Int)+(m:Int)))).bind fun x56=>
         (ssl (t::c::s) 0 (wrap .i64 (((k+2:Nat):Int)+(m:Int)))).bind fun x57=>
         (ssl (t::c::s) (wrap .i64 (((k+2:Nat):Int)+(m:Int))) ((t::c::s).length)).bind fun x58=>
         some ((zb.mk (t.toNat:Int) x56 x57),x58,0)))=
       some (if s.length-k<m then(E0,[],3)else(⟨t.toNat,(s.drop k).take m,t::c::s.take (k+m)⟩,s.drop (k+m),0)):=by
      intro m k hm hk hk3
      rw [z6 (by rw [hlen]; omega),hlen]
      by_cases hz:s.length-k<m
      ·rw [L6 O3,L6 hz]
      ·rw [L4 O3,L4 hz]
       have e1:wrap .i64 (((k+2:Nat):Int)+(m:Int))=((k+2+m:Nat):Int):=by rw [z6 O0]; omega
       rw [e1,show(0:Int)=((0:Nat):Int)from rfl,kX O0 (by rw [hlen]; omega),kX O0 (by rw [hlen]; omega),kX (by rw [←hlen]; omega) (by rw [hlen]; omega)]
       simp only [L0,Option.some.injEq,Prod.mk.injEq,zb.mk.injEq,true_and,and_true]
       have e2:k+2+m=(k+m)+2:=O0
       rw [e2]
       refine⟨⟨?_, ?_⟩, ?_⟩
       ·simp [List.take_succ_cons,List.drop_take]
       ·simp [List.take_succ_cons]
       ·simp [List.take_of_length_le]
     by_cases hB:c.toNat<128
     ·rw [L4 O3,L6 hB]
      simp only [yb]
      have:=fin c.toNat 0 O0 O0 O0
      simp only [Nat.zero_add,Nat.sub_zero,Li]at this
      exact this
     ·rw [L6 O3,L4 hB]
      have e3:wrap .i64 ((c.toNat:Int)-128)=((c.toNat-128:Nat):Int):=by rw [z6 O0]; omega
      have e4:wrap .i64 ((2:Int)+((c.toNat-128:Nat):Int))=((c.toNat-128+2:Nat):Int):=by rw [z6 O0]; omega
      rw [e3,e4,hlen]
      generalize hk:c.toNat-128=k at *
      have hk3:k≤3:=O0
      by_cases hC:s.length<k
      ·rw [L6 O3,L6 hC]
       simp [yb]
      ·rw [L4 O3,L4 hC]
       have hx:ssl (t::c::s) 2 ((k+2:Nat):Int)=some (s.take k):=by
        rw [show(2:Int)=((2:Nat):Int)from rfl,kX O0 (by rw [hlen]; omega)]
        simp [List.take_succ_cons]
       rw [hx]
       simp only [L0]
       have hr:=rl1 (n:=n) (s.take k) n 0 0 O0 O3 O3 O2
       simp only [Li]at hr
       rw [show((0:Nat):Int)=0 from rfl]at hr
       rw [hr]
       have hle:V5 n (k:Int)=some (least k:Int):=by
        have:k=1∨k=2∨k=3:=O0
        rcases this with rfl|rfl|rfl<;>rfl
       rw [hle]
       simp only [L0]
       show yb ((if decide (((num (s.take k):Nat):Int)<(least k:Int))=true then some true else some (decide (((num (s.take k):Nat):Int)>131072))).bind _) _ _=_
       by_cases hD:(num (s.take k)<least k∨131072<num (s.take k))
       ·have:(if decide (((num (s.take k):Nat):Int)<(least k:Int))=true then some true else some (decide (((num (s.take k):Nat):Int)>131072)))=some true:=by
         by_cases h:(num (s.take k)<least k)
         ·rw [L6 O3]
         ·rw [L4 O3]; simp; omega
        rw [this,L6 hD]; rfl
       ·have:(if decide (((num (s.take k):Nat):Int)<(least k:Int))=true then some true else some (decide (((num (s.take k):Nat):Int)>131072)))=some false:=by
         rw [L4 O3]; simp; omega
        rw [this,L4 hD]
        simp only [L0,Bool.false_eq_true,if_false,yb]
        exact fin (num (s.take k)) k O0 O0 hk3
theorem rl2 {n:Nat} {x2:Int} {t c:UInt8} {s:Bs} {k:Nat} (hx:wrap .i64 (wrap .i64 x2-128)=(k:Int)) (h3:k≤3) (hs:k≤s.length):∀(f i v:Nat),i≤k→k-i<f→v<256^i →
  ug n x2 (t::c::s) f (v:Int) (i:Int)=some (((((s.take k).drop i).foldl (fun n c=>256*n+c.toNat) v:Nat)):Int)
 |0,i,v,_,h,_=>O0
 | f + 1,i,v,hi,hk,hv=>by
  rw [ug,hx]
  by_cases hc:i<k
  ·have hl:(s.take k).length=k:=O3
   have hb2:yr (t::c::s) (wrap .i64 ((2:Int)+(i:Int)))=some ((s[i]' O0).toNat:Int):=by
    rw [z6 O0,show(2:Int)+(i:Int)=((i+2:Nat):Int)by omega,vj O3]
    simp
   rw [L6 O3,hb2]
   simp only [L0]
   have hb:=W6 (s[i]' O0)
   have hv2:v<65536:=Nat.lt_of_lt_of_le hv (Nat.le_trans (Nat.pow_le_pow_right O0 (show i≤2 by omega)) O1)
   have e1:wrap .i64 (wrap .i64 ((256:Int)*(v:Int))+wrap .i64 ((s[i]' O0).toNat:Int))=((256*v+(s[i]' O0).toNat:Nat):Int):=by
    rw [z6 (x:=(256:Int)*(v:Int)) O0,z6 (x:=((s[i]' O0).toNat:Int)) O0,z6 O0]; omega
   rw [e1,w1 O0]
   have hd:(s.take k).drop i=s[i]' O0::(s.take k).drop (i+1):=by
    rw [Lc O0]; simp
   rw [hd,List.foldl_cons]
   refine rl2 hx h3 hs f (i+1) _ O0 O0 ?_
   rw [Nat.pow_succ]; omega
  ·have:i=k:=O0
   subst this
   rw [L4 O2]
   simp
theorem Gr {n:Nat} {b:Bs} (hb:b.length≤4611686018427387904) (hn:5≤n):jn n b=some (wm b):=by
 unfold jn wm
 match b with
 | []=>simp
 | t :: r =>
  have h0:yr (t::r) 0=some (t.toNat:Int):=by simp [yr]
  have ht:=W6 t
  rw [h0]
  simp only [L0]
  have h31':(Int.tmod (t.toNat:Int) 32==31)=decide (t.toNat%32=31):=by
   rw [show Int.tmod (t.toNat:Int) 32=((t.toNat%32:Nat):Int)from rfl]
   by_cases h:t.toNat%32=31
   ·simp [h]
   ·simp [h]; omega
  rw [h31',L4 O3]
  by_cases h31:t.toNat%32=31
  ·simp [h31]
  ·simp only [h31,decide_false,Bool.false_eq_true,if_false]
   match r with
   | []=>simp
   | c :: s=>
    have h1:yr (t::c::s) 1=some (c.toNat:Int):=by simp [yr]
    have hc:=W6 c
    rw [L4 O3,h1]
    simp only [L0]
    rw [z6 (x:=(c.toNat:Int)) O0]
    by_cases hA:c.toNat=128∨131<c.toNat
    ·have:(if((c.toNat:Int)==128)=true then some true else some (decide ((c.toNat:Int)>131)))=some true:=by
      by_cases h:c.toNat=128
      ·rw [L6 O3]
      ·rw [L4 O3]; simp; omega
     rw [this,L6 hA]; rfl
    ·have :(if((c.toNat:Int)==128)=true then some true else some (decide ((c.toNat:Int)>131)))=some false:=by
      rw [L4 O3]; simp; omega
     rw [this,L4 hA]
     simp only [L0,Bool.false_eq_true,if_false]
     have hlen:(t::c::s).length=s.length+2:=rfl
     have fin:∀(m k:Nat),m≤131072→k≤s.length→k≤3 →
       (if (decide (wrap .i64 (((t::c::s).length:Int)-((k+2:Nat):Int))<(m:Int)))=true then some ((zb.mk 0 ([]:Bs) ([]:Bs)),([]:Bs),(3:Int))else
        ((yr (t::c::s) 0).bind fun x54=>(ssl (t::c::s) ((k+2:Nat):Int) (wrap .i64 (((k+2:Nat):Int)+(m:Int)))).bind fun x56=>
         (ssl (t::c::s) 0 (wrap .i64 (((k+2:Nat):Int)+(m:Int)))).bind fun x57=>
         (ssl (t::c::s) (wrap .i64 (((k+2:Nat):Int)+(m:Int))) ((t::c::s).length)).bind fun x58=>
         some ((zb.mk (wrap .i64 x54) x56 x57),x58,0)))=
       some (if s.length-k<m then(E0,[],3)else(⟨t.toNat,(s.drop k).take m,t::c::s.take (k+m)⟩,s.drop (k+m),0)):=by
      intro m k hm hk hk3
      rw [z6 (by rw [hlen]; omega),hlen]
      by_cases hz:s.length-k<m
      ·rw [L6 O3,L6 hz]
      ·rw [L4 O3,L4 hz]
       have e1:wrap .i64 (((k+2:Nat):Int)+(m:Int))=((k+2+m:Nat):Int):=by rw [z6 O0]; omega
       rw [e1,h0]
       simp only [L0]
       rw [z6 (x:=(t.toNat:Int)) O0,show(0:Int)=((0:Nat):Int)from rfl,kX O0 (by rw [hlen]; omega),kX O0 (by rw [hlen]; omega),kX (by rw [←hlen]; omega) (by rw [hlen]; omega)]
       simp only [L0,Option.some.injEq,Prod.mk.injEq,zb.mk.injEq,true_and,and_true]
       have e2:k+2+m=(k+m)+2:=O0
       rw [e2]
       refine⟨⟨?_, ?_⟩, ?_⟩
       ·simp [List.take_succ_cons,List.drop_take]
       ·simp [List.take_succ_cons]
       ·simp [List.take_of_length_le]
     by_cases hB:c.toNat<128
     ·rw [L4 O3,L6 hB]
      simp only [yb]
      have:=fin c.toNat 0 O0 O0 O0
      simp only [Nat.zero_add,Nat.sub_zero,Li]at this
      exact this
     ·rw [L6 O3,L4 hB]
      have e3:wrap .i64 ((c.toNat:Int)-128)=((c.toNat-128:Nat):Int):=by rw [z6 O0]; omega
      have e4:wrap .i64 ((2:Int)+((c.toNat-128:Nat):Int))=((c.toNat-128+2:Nat):Int):=by rw [z6 O0]; omega
      rw [e3,e4,hlen]
      generalize hk:c.toNat-128=k at *
      have hk3:k≤3:=O0
      by_cases hC:s.length<k
      ·rw [L6 O3,L6 hC]
       simp [yb]
      ·rw [L4 O3,L4 hC]
       have hr:=rl2 (n:=n) (x2:=(c.toNat:Int)) (t:=t) (c:=c) (s:=s) (k:=k) (by rw [z6 (x:=(c.toNat:Int)) O0,e3]) hk3 O0 n 0 0 O0 O0 O2
       rw [show((0:Nat):Int)=0 from rfl]at hr
       rw [hr]
       simp only [L0,Li]
       have hle:zM ([0,128,256,65536]:List Int) ((k:Nat):Int)=some (least k:Int):=by
        have:k=1∨k=2∨k=3:=O0
        rcases this with rfl|rfl|rfl<;>rfl
       rw [hle]
       simp only [L0]
       show yb ((if decide (((num (s.take k):Nat):Int)<(least k:Int))=true then some true else some (decide (((num (s.take k):Nat):Int)>131072))).bind _) _ _=_
       by_cases hD:(num (s.take k)<least k∨131072<num (s.take k))
       ·have:(if decide (((num (s.take k):Nat):Int)<(least k:Int))=true then some true else some (decide (((num (s.take k):Nat):Int)>131072)))=some true:=by
         by_cases h:(num (s.take k)<least k)
         ·rw [L6 O3]
         ·rw [L4 O3]; simp; omega
        rw [this,L6 hD]; rfl
       ·have:(if decide (((num (s.take k):Nat):Int)<(least k:Int))=true then some true else some (decide (((num (s.take k):Nat):Int)>131072)))=some false:=by
         rw [L4 O3]; simp; omega
        rw [this,L4 hD]
        simp only [L0,Bool.false_eq_true,if_false,yb]
        exact fin (num (s.take k)) k O0 O0 hk3
theorem YM {b:Bs} (h:(wm b).2.2=0):b=(wm b).1.uE++(wm b).2.1∧2≤(wm b).1.uE.length∧(wm b).1.zd.length+2≤(wm b).1.uE.length∧∃t:UInt8,(wm b).1.zF=(t.toNat:Int):=by
 unfold wm at h ⊢
 match b with
 | []=>simp at h
 | t :: r =>
  simp only at h ⊢
  by_cases h31:t.toNat%32=31
  ·simp [h31]at h
  ·simp only [h31,if_false]at h ⊢
   match r with
   | []=>simp at h
   | c :: s=>
    simp only at h ⊢
    by_cases hA:c.toNat=128∨131<c.toNat
    ·simp [hA]at h
    ·rw [L4 hA]at h ⊢
     by_cases hB:c.toNat<128
     ·rw [L6 hB]at h ⊢
      by_cases hC:s.length<c.toNat
      ·simp [hC]at h
      ·rw [L4 hC]
       refine⟨O2,O2,O2,t,rfl⟩
     ·rw [L4 hB]at h ⊢
      by_cases hC:s.length<c.toNat-128
      ·simp [hC]at h
      ·rw [L4 hC]at h ⊢
       by_cases hD:(num (s.take (c.toNat-128))<least (c.toNat-128)∨131072<num (s.take (c.toNat-128)))
       ·simp [hD]at h
       ·rw [L4 hD]at h ⊢
        by_cases hE:(s.length-(c.toNat-128)<num (s.take (c.toNat-128)))
        ·simp [hE]at h
        ·rw [L4 hE]
         refine⟨O2,O2, ?_,t,rfl⟩
         simp; omega
def vE (b:Bs):zb×Int:=if(wm b).2.2≠0 then(E0,(wm b).2.2)else if(wm b).2.1≠ []then(E0,4)else((wm b).1,0)
theorem Q9 {n:Nat} {b:Bs} (hb:b.length≤4611686018427387904) (hn:5≤n):pp n b=some (vE b):=by
 unfold pp vE
 rw [GR hb hn]
 simp only [L0]
 by_cases h:(wm b).2.2=0
 ·by_cases h2:(wm b).2.1= []<;>simp [h,h2]
 ·simp [h]
theorem Ji {n:Nat} {b:Bs} (hb:b.length≤4611686018427387904) (hn:5≤n):vH n b=some (vE b):=by
 unfold vH vE
 rw [Gr hb hn]
 simp only [L0]
 by_cases h:(wm b).2.2=0
 ·by_cases h2:(wm b).2.1= []
  ·simp [h,h2]
  ·have:0<(wm b).2.1.length:=List.length_pos_iff.2 h2
   simp [h,h2,this]
 ·simp [h]
def pQ:Nat→Bs→List zb→List zb×Int
 |0,_,acc=>(acc,0)
 |k+1,b,acc=>if b= []then(acc,0)else if(wm b).2.2≠0 then([],(wm b).2.2)else pQ k (wm b).2.1 (acc ++ [(wm b).1])
def tList (b:Bs):List zb×Int:=pQ (b.length+1) b []
theorem U5:∀(k k':Nat) (b:Bs) (acc:List zb),b.length<k→b.length<k'→pQ k b acc=pQ k' b acc
 |0,_,b,_,h,_=>O0
 |_,0,b,_,_,h=>O0
 | k + 1,k'+1,b,acc,h,h'=>by
  simp only [pQ]
  by_cases hb:b= []
  ·simp [hb]
  ·rw [L4 hb,L4 hb]
   by_cases hr:(wm b).2.2=0
   ·obtain ⟨h1,h2,_⟩:=YM hr
    have hl:(wm b).2.1.length+2≤b.length:=by
     have:=congrArg List.length h1
     rw [L8]at this; omega
    rw [L4 (by simp [hr]),L4 (by simp [hr])]
    exact U5 k k' _ _ O0 O0
   ·rw [L6 hr,L6 hr]
theorem Be {n:Nat} (hn:5≤n):∀(k:Nat) (b:Bs) (acc:List zb),b.length<k→b.length+acc.length≤1000000000000 →
  yb (gO n k b acc) (fun r=>some r) (fun y=>some (y,0))=some (pQ k b acc)
 |0,b,_,h,_=>O0
 | k + 1,b,acc,h,hs=>by
  rw [gO,pQ]
  by_cases hb:b= []
  ·simp [hb,yb]
  ·rw [L6 (by simp [hb]),L4 hb,GR O0 hn]
   simp only [L0]
   by_cases hr:(wm b).2.2=0
   ·obtain ⟨h1,h2,_⟩:=YM hr
    have hl:(wm b).2.1.length+2≤b.length:=by
     have:=congrArg List.length h1
     rw [L8]at this; omega
    rw [L4 (by simp [hr]),L4 (by simp [hr]),yx O3]
    simp only [L0]
    exact Be hn k _ _ O0 O3
   ·rw [L6 (Oa hr),L6 hr]; rfl
theorem gd {n:Nat} {b:Bs} (hb:b.length≤1000000000000) (hn:b.length+5≤n):bb n b=some (tList b):=by
 unfold bb
 rw [Be O0 n b [] O0 (Oa hb)]
 exact congrArg some (U5 _ _ _ _ O0 O0)
theorem K9 {n:Nat} (hn:5≤n):∀(k:Nat) (b:Bs) (acc:List zb),b.length<k→b.length+acc.length≤1000000000000 →
  yb (uh n k b acc) (fun r=>some r) (fun y=>some (y,0))=some (pQ k b acc)
 |0,b,_,h,_=>O0
 | k + 1,b,acc,h,hs=>by
  rw [uh,pQ]
  by_cases hb:b= []
  ·simp [hb,yb]
  ·have hp:0<b.length:=List.length_pos_iff.2 hb
   rw [L6 O3,L4 hb,Gr O0 hn]
   simp only [L0]
   by_cases hr:(wm b).2.2=0
   ·obtain ⟨h1,h2,_⟩:=YM hr
    have hl:(wm b).2.1.length+2≤b.length:=by
     have:=congrArg List.length h1
     rw [L8]at this; omega
    rw [L4 (by simp [hr]),L4 (by simp [hr]),yx O3]
    simp only [L0]
    exact K9 hn k _ _ O0 O3
   ·rw [L6 (Oa hr),L6 hr]; rfl
theorem YQ {n:Nat} {b:Bs} (hb:b.length≤1000000000000) (hn:b.length+5≤n):xj n b=some (tList b):=by
 unfold xj
 rw [K9 O0 n b [] O0 (Oa hb)]
 exact congrArg some (U5 _ _ _ _ O0 O0)
theorem zfe (t:UInt8):(uU .i64 (t.toNat:Int) 32==0)=(Int.tmod (wrap .i64 (Int.tdiv (t.toNat:Int) 32)) 2==0):=by
 have:∀n:Nat,n<256→(uU .i64 (n:Int) 32==0)=(Int.tmod (wrap .i64 (Int.tdiv (n:Int) 32)) 2==0):=by
  intro n hn
  have:=Lg.1 (show((List.range 256).all fun n:Nat=>(uU .i64 (n:Int) 32==0)==(Int.tmod (wrap .i64 (Int.tdiv (n:Int) 32)) 2==0))=true by kernel_rfl) n (Oa hn)
  simpa using this
 exact this _ (W6 t)
theorem D2 {n:Nat} (hn:5≤n) {d:Nat} (hd:d≤15) {rc rc':zb→Int→Option Int}
  (hrc:d<15→∀e:zb,(∃t:UInt8,e.zF=(t.toNat:Int))→e.zd.length≤1000000000000→e.zd.length+5≤n→∃x,rc e ((d+2:Nat):Int)=some x∧rc' e ((d+1:Nat):Int)=some x):
  ∀(k:Nat) (b:Bs),b.length<k→b.length≤1000000000000→b.length+5≤n→∃c,bg n rc ((d+1:Nat):Int) k b=some c∧vX n rc' (d:Int) k b=some c
 |0,b,h,_,_=>O0
 | k + 1,b,h,hs,hb2=>by
  rw [bg,vX]
  by_cases hb:b= []
  ·subst hb; exact⟨.nxt (),O2,O2⟩
  ·have hp:0<b.length:=List.length_pos_iff.2 hb
   rw [L6 (by simp [hb]),L6 O3,GR O0 hn,Gr O0 hn]
   simp only [L0]
   by_cases hr:(wm b).2.2=0
   ·obtain ⟨h1,h2,h3,h4⟩:=YM hr
    have hl:(wm b).1.uE.length+(wm b).2.1.length=b.length:=by
     have:=congrArg List.length h1
     rw [L8]at this; omega
    have e0:((wm b).2.2 !=0)=false:=by simp [hr]
    rw [e0,z6 (x:=(d:Int)+1) O0]
    simp only [Bool.false_eq_true,if_false]
    by_cases h15:d=15
    ·subst h15; exact⟨.ret 8,O2,O2⟩
    ·have e3:(decide ((d:Int)+1≥16))=false:=O3
     have e4:(decide (((d+1:Nat):Int)≥16))=false:=O3
     rw [e3,e4]
     simp only [Bool.false_eq_true,if_false]
     obtain⟨x,e1,e2⟩:=hrc O0 (wm b).1 h4 O0 O0
     rw [w1 O0,show((d:Int)+1)=((d+1:Nat):Int)by omega,e1,e2]
     simp only [L0]
     by_cases hx:x=0
     ·have e5:(x !=0)=false:=by simp [hx]
      rw [e5]
      simp only [Bool.false_eq_true,if_false]
      exact D2 hn hd hrc k _ O0 O0 O0
     ·have e5:(x !=0)=true:=by simp [hx]
      rw [e5]; exact⟨_,rfl,rfl⟩
   ·have e0:((wm b).2.2 !=0)=true:=by simp [hr]
    rw [e0]; exact⟨_,rfl,rfl⟩
theorem Dl {n:Nat} (hn:5≤n):∀(kk d:Nat),d≤15→16≤kk+d→∀e:zb,(∃t:UInt8,e.zF=(t.toNat:Int))→e.zd.length≤1000000000000→e.zd.length+5≤n →
  ∃x,qJ n kk e ((d+1:Nat):Int)=some x∧xR n kk e (d:Int)=some x
 |0,d,h,h',_,_,_,_=>O0
 | kk+1,d,h,h',e,⟨t,ht⟩,hc,hc2=>by
  rw [qJ,xR,ht,zfe]
  by_cases hx:(Int.tmod (wrap .i64 (Int.tdiv (t.toNat:Int) 32)) 2==0)=true
  ·rw [L6 hx,L6 hx]; exact⟨0,rfl,rfl⟩
  ·rw [L4 hx,L4 hx]
   obtain ⟨c,e1,e2⟩:=D2 hn h (rc:=qJ n kk) (rc':=xR n kk) (fun hd e he h1 h2=>by
    have:=Dl hn kk (d+1) O0 O0 e he h1 h2
    exact this) n e.zd O0 hc hc2
   rw [e1,e2]
   cases c with
   |ret r=>exact⟨r,rfl,rfl⟩
   |nxt u=>exact⟨0,rfl,rfl⟩
theorem zav {n:Nat} {b:Bs} (hb:b.length≤1000000000000) (hn:b.length+20≤n):∃x,Z9 n b=some x∧kM n b=some x∧(x=0→(vE b).2=0):=by
 unfold Z9 kM
 rw [Q9 O0 O0,Ji O0 O0]
 simp only [L0]
 by_cases h:(vE b).2=0
 ·rw [L4 (by simp [h]),L4 (by simp [h])]
  have hr:(wm b).2.2=0:=by
   unfold vE at h
   by_cases h':(wm b).2.2=0
   ·exact h'
   ·rw [L6 h']at h; exact h
  have h1:(vE b).1=(wm b).1∨(vE b).1=E0:=by
   unfold vE; rw [L4 (by simp [hr])]; split
   ·exact .inr rfl
   ·exact .inl rfl
  obtain⟨k1,k2,k3,k4⟩:=YM hr
  have hl:(wm b).1.uE.length+(wm b).2.1.length=b.length:=by
   have:=congrArg List.length k1
   rw [L8]at this; omega
  obtain ⟨x,e1,e2⟩:=Dl (n:=n) O0 n 0 O0 O0 (vE b).1 (by
   rcases h1 with h1|h1<;>rw [h1]
   ·exact k4
   ·exact⟨0,rfl⟩) (by rcases h1 with h1|h1<;>rw [h1]; omega; simp) (by rcases h1 with h1|h1<;>rw [h1]; omega; simp; omega)
  rw [show(1:Int)=((0+1:Nat):Int)from rfl,e1,show(0:Int)=((0:Nat):Int)from rfl,e2]
  exact⟨x,rfl,rfl,fun _=>h⟩
 ·rw [L6 (Oa h),L6 (Oa h)]
  exact⟨_,rfl,rfl,fun h=>h⟩
def gb (s:Bs) (i:Nat):Nat:=(s.getD i 0).toNat
theorem ZA (s:Bs) (i:Nat):gb s i<256:=W6 _
theorem BA {s:Bs} {i:Nat} (h:i<s.length):yr s (i:Int)=some (gb s i:Int):=by
 rw [vj h]; simp [gb,h]
def uN (n b0 b1 b2 b3:Nat):Option Nat:=
 if b0<32∨b0=127 then none
 else if b0<128 then some 1
 else if b0/32=6 then(if 1<n∧b1/64=2∧128≤b0%32*64+b1%64 then some 2 else none)
 else if b0/16=14 then(if 2<n∧b1/64=2∧b2/64=2∧2048≤b0%16*4096+b1%64*64+b2%64∧(b0%16*4096+b1%64*64+b2%64<55296∨57344≤b0%16*4096+b1%64*64+b2%64)then some 3 else none)
 else if b0/8=30 then(if 3<n∧b1/64=2∧b2/64=2∧b3/64=2∧65536≤b0%8*262144+b1%64*4096+b2%64*64+b3%64∧b0%8*262144+b1%64*4096+b2%64*64+b3%64≤1114111 then some 4 else none)
 else none
def uAt (s:Bs) (i:Nat):Option Nat:=uN (s.length-i) (gb s i) (gb s (i+1)) (gb s (i+2)) (gb s (i+3))
theorem lH {s:Bs} {i d:Nat} (hi:i<s.length) (h:uAt s i=some d):0<d∧i+d≤s.length:=by
 unfold uAt uN at h
 repeat' split at h
 all_goals first|(simp at h; done)|(simp at h; omega)
def Uj (s:Bs):Nat→Nat→Bool
 |0,_=>true
 |k+1,i=>if i<s.length then(match uAt s i with|none=>false|some d=>Uj s k (i+d))else true
theorem hZ {b:Nat} (h:b<256):((wrap .u8 (Int.tdiv (b:Int) 64)) !=2)= !decide (b/64=2):=by
 have:=Lg.1 (show((List.range 256).all fun b:Nat=>((wrap .u8 (Int.tdiv (b:Int) 64)) !=2)== !decide (b/64=2))=true by kernel_rfl) b (Oa h)
 simpa using this
theorem mD {b:Nat} (h:b<256):wrap .i64 (Int.tmod (b:Int) 64)=((b%64:Nat):Int):=by
 have:=Lg.1 (show((List.range 256).all fun b:Nat=>wrap .i64 (Int.tmod (b:Int) 64)==((b%64:Nat):Int))=true by kernel_rfl) b (Oa h)
 simpa using this
theorem zdr {b:Nat} (h:b<256):uU .i64 (wrap .i64 (b:Int)) (wrap .i64 ((wrap .i64 ((1:Int)*32))-1))=((b%32:Nat):Int):=by
 have:=Lg.1 (show((List.range 256).all fun b:Nat=>uU .i64 (wrap .i64 (b:Int)) (wrap .i64 ((wrap .i64 ((1:Int)*32))-1))==((b%32:Nat):Int))=true by kernel_rfl) b (Oa h)
 simpa using this
theorem zeD {b:Nat} (h:b<256):uU .i64 (wrap .i64 (b:Int)) (wrap .i64 ((wrap .i64 ((1:Int)*16))-1))=((b%16:Nat):Int):=by
 have:=Lg.1 (show((List.range 256).all fun b:Nat=>uU .i64 (wrap .i64 (b:Int)) (wrap .i64 ((wrap .i64 ((1:Int)*16))-1))==((b%16:Nat):Int))=true by kernel_rfl) b (Oa h)
 simpa using this
theorem zfF {b:Nat} (h:b<256):uU .i64 (wrap .i64 (b:Int)) (wrap .i64 ((wrap .i64 ((1:Int)*8))-1))=((b%8:Nat):Int):=by
 have:=Lg.1 (show((List.range 256).all fun b:Nat=>uU .i64 (wrap .i64 (b:Int)) (wrap .i64 ((wrap .i64 ((1:Int)*8))-1))==((b%8:Nat):Int))=true by kernel_rfl) b (Oa h)
 simpa using this
theorem u2s {n:Nat} {a:Bs} {i j v k:Nat} (hi:i+j<a.length) (hl:a.length≤100000000) (hj:j≤1) (hv:v<1000000000):
  xq n a i (k+1) v j=if gb a (i+j)/64=2 then xq n a i k ((v*64+gb a (i+j)%64:Nat):Int) ((j+1:Nat):Int)else some (.ret false):=by
 rw [xq,L6 O4,show wrap .i64 ((i:Int)+(j:Int))=((i+j:Nat):Int)by rw [z6 O0]; omega,BA hi]
 simp only [L0]
 have hg:=ZA a (i+j)
 rw [hZ (ZA _ _),mD (ZA _ _),w1 O0]
 by_cases hc:gb a (i+j)/64=2
 ·simp only [hc,decide_true,Bool.not_true,Bool.false_eq_true,if_false,if_true]
  rw [z6 (x:=64*(v:Int)) O0,z6 O0]
  congr 1; omega
 ·simp [hc]
theorem u3s {n:Nat} {a:Bs} {i j v k:Nat} (hi:i+j<a.length) (hl:a.length≤100000000) (hj:j≤2) (hv:v<1000000000):
  xr n a i (k+1) v j=if gb a (i+j)/64=2 then xr n a i k ((v*64+gb a (i+j)%64:Nat):Int) ((j+1:Nat):Int)else some (.ret false):=by
 rw [xr,L6 O4,show wrap .i64 ((i:Int)+(j:Int))=((i+j:Nat):Int)by rw [z6 O0]; omega,BA hi]
 simp only [L0]
 have hg:=ZA a (i+j)
 rw [hZ (ZA _ _),mD (ZA _ _),w1 O0]
 by_cases hc:gb a (i+j)/64=2
 ·simp only [hc,decide_true,Bool.not_true,Bool.false_eq_true,if_false,if_true]
  rw [z6 (x:=64*(v:Int)) O0,z6 O0]
  congr 1; omega
 ·simp [hc]
theorem u4s {n:Nat} {a:Bs} {i j v k:Nat} (hi:i+j<a.length) (hl:a.length≤100000000) (hj:j≤3) (hv:v<1000000000):
  xt n a i (k+1) v j=if gb a (i+j)/64=2 then xt n a i k ((v*64+gb a (i+j)%64:Nat):Int) ((j+1:Nat):Int)else some (.ret false):=by
 rw [xt,L6 O4,show wrap .i64 ((i:Int)+(j:Int))=((i+j:Nat):Int)by rw [z6 O0]; omega,BA hi]
 simp only [L0]
 have hg:=ZA a (i+j)
 rw [hZ (ZA _ _),mD (ZA _ _),w1 O0]
 by_cases hc:gb a (i+j)/64=2
 ·simp only [hc,decide_true,Bool.not_true,Bool.false_eq_true,if_false,if_true]
  rw [z6 (x:=64*(v:Int)) O0,z6 O0]
  congr 1; omega
 ·simp [hc]
theorem u2 {n:Nat} {a:Bs} {i v k:Nat} (hi:i+1<a.length) (hl:a.length≤100000000) (hv:v<64):
  xq n a i (k+5) v 1=if gb a (i+1)/64=2 then some (.nxt ((v*64+gb a (i+1)%64:Nat):Int))else some (.ret false):=by
 have:=u2s (n:=n) (a:=a) (i:=i) (j:=1) (v:=v) (k:=k+4) hi hl O0 O0
 rw [show((1:Nat):Int)=1 from rfl]at this
 rw [show k+5=k+4+1 from rfl,this,xq]
 simp
theorem u3 {n:Nat} {a:Bs} {i v k:Nat} (hi:i+2<a.length) (hl:a.length≤100000000) (hv:v<64):
  xr n a i (k+5) v 1=if gb a (i+1)/64=2 then(if gb a (i+2)/64=2 then some (.nxt (((v*64+gb a (i+1)%64)*64+gb a (i+2)%64:Nat):Int))else some (.ret false))else some (.ret false):=by
 have g1:=ZA a (i+1)
 have t1:=u3s (n:=n) (a:=a) (i:=i) (j:=1) (v:=v) (k:=k+4) O0 hl O0 O0
 have t2:=u3s (n:=n) (a:=a) (i:=i) (j:=2) (v:=v*64+gb a (i+1)%64) (k:=k+3) O0 hl O0 O0
 rw [show((1:Nat):Int)=1 from rfl]at t1
 rw [show k+5=k+4+1 from rfl,t1,show k+4=k+3+1 from rfl,t2,xr]
 simp
theorem u4 {n:Nat} {a:Bs} {i v k:Nat} (hi:i+3<a.length) (hl:a.length≤100000000) (hv:v<64):
  xt n a i (k+5) v 1=if gb a (i+1)/64=2 then(if gb a (i+2)/64=2 then(if gb a (i+3)/64=2 then some (.nxt ((((v*64+gb a (i+1)%64)*64+gb a (i+2)%64)*64+gb a (i+3)%64:Nat):Int))else some (.ret false))else some (.ret false))else some (.ret false):=by
 have g1:=ZA a (i+1)
 have g2:=ZA a (i+2)
 have t1:=u4s (n:=n) (a:=a) (i:=i) (j:=1) (v:=v) (k:=k+4) O0 hl O0 O0
 have t2:=u4s (n:=n) (a:=a) (i:=i) (j:=2) (v:=v*64+gb a (i+1)%64) (k:=k+3) O0 hl O0 O0
 have t3:=u4s (n:=n) (a:=a) (i:=i) (j:=3) (v:=(v*64+gb a (i+1)%64)*64+gb a (i+2)%64) (k:=k+2) O0 hl O0 O0
 rw [show((1:Nat):Int)=1 from rfl]at t1
 rw [show k+5=k+4+1 from rfl,t1,show k+4=k+3+1 from rfl,t2,show k+3=k+2+1 from rfl,t3,xt]
 simp
theorem dro (b b':Bool):(if b=true then some true else some b')=some (b||b'):=by cases b<;>rfl
theorem dan (b b':Bool):(if b=true then some b' else some false)=some (b&&b'):=by cases b<;>rfl
theorem rZ {n k i:Nat} {a:Bs} (hi:i<a.length) (hl:a.length≤100000000) (hn:5≤n):
  xp n a (k+1) i=match uAt a i with|none=>some (.ret false)|some d=>xp n a k ((i+d:Nat):Int):=by
 obtain⟨m,rfl⟩:∃m,n=m+5:=⟨n-5,O0⟩
 have g0:=ZA a i
 have g1:=ZA a (i+1)
 have g2:=ZA a (i+2)
 have g3:=ZA a (i+3)
 rw [xp,L6 O4,BA hi]
 simp only [L0,dro,dan]
 rw [zdr g0,zeD g0,zfF g0,z6 (x:=(a.length:Int)-(i:Int)) O0]
 unfold uAt uN
 by_cases c1:gb a i<32∨gb a i=127
 ·rw [L6 (by rw [Bool.or_eq_true,L3,beq_iff_eq]; omega),L6 c1]; rfl
 rw [L4 (by rw [Bool.or_eq_true,L3,beq_iff_eq]; omega),L4 c1]
 by_cases c2:gb a i<128
 ·rw [L6 O4,L6 c2,w1 O0]; rfl
 rw [L4 O4,L4 c2]
 by_cases c3:gb a i/32=6
 ·rw [L6 (by rw [Lf,L3,L3]; omega),L6 c3]
  by_cases cl:1<a.length-i
  ·rw [L4 O4,u2 O0 hl O0]
   by_cases d1:gb a (i+1)/64=2
   ·rw [L6 d1]
    simp only [yb]
    by_cases cv:128≤gb a i%32*64+gb a (i+1)%64
    ·rw [L4 (by simp only [Bool.or_eq_true,Lf,L3]; omega),L6 ⟨cl,d1,cv⟩]
     simp only [yb]
     rw [z6 O0]; rfl
    ·rw [L6 (by simp only [Bool.or_eq_true,Lf,L3]; omega),L4 (fun h=>cv h.2.2)]
   ·rw [L4 d1,L4 (fun h=>d1 h.2.1)]; rfl
  ·rw [L6 O4,L4 (fun h=>cl h.1)]; rfl
 rw [L4 (by rw [Lf,L3,L3]; omega),L4 c3]
 by_cases c4:gb a i/16=14
 ·rw [L6 (by rw [Lf,L3,L3]; omega),L6 c4]
  by_cases cl:2<a.length-i
  ·rw [L4 O4,u3 O0 hl O0]
   by_cases d1:gb a (i+1)/64=2
   ·by_cases d2:gb a (i+2)/64=2
    ·rw [L6 d1,L6 d2]
     simp only [yb]
     by_cases cv:2048≤gb a i%16*4096+gb a (i+1)%64*64+gb a (i+2)%64∧(gb a i%16*4096+gb a (i+1)%64*64+gb a (i+2)%64<55296∨57344≤gb a i%16*4096+gb a (i+1)%64*64+gb a (i+2)%64)
     ·rw [L4 (by simp only [Bool.or_eq_true,Lf,L3]; omega),L6 ⟨cl,d1,d2,cv⟩]
      simp only [yb]
      rw [z6 O0]; rfl
     ·rw [L6 (by simp only [Bool.or_eq_true,Lf,L3]; omega),L4 (fun h=>cv h.2.2.2)]
    ·rw [L6 d1,L4 d2,L4 (fun h=>d2 h.2.2.1)]; rfl
   ·rw [L4 d1,L4 (fun h=>d1 h.2.1)]; rfl
  ·rw [L6 O4,L4 (fun h=>cl h.1)]; rfl
 rw [L4 (by rw [Lf,L3,L3]; omega),L4 c4]
 by_cases c5:gb a i/8=30
 ·rw [L6 (by rw [Lf,L3,L3]; omega),L6 c5]
  by_cases cl:3<a.length-i
  ·rw [L4 O4,u4 O0 hl O0]
   by_cases d1:gb a (i+1)/64=2
   ·by_cases d2:gb a (i+2)/64=2
    ·by_cases d3:gb a (i+3)/64=2
     ·rw [L6 d1,L6 d2,L6 d3]
      simp only [yb]
      by_cases cv:65536≤gb a i%8*262144+gb a (i+1)%64*4096+gb a (i+2)%64*64+gb a (i+3)%64∧gb a i%8*262144+gb a (i+1)%64*4096+gb a (i+2)%64*64+gb a (i+3)%64≤1114111
      ·rw [L4 (by simp only [Bool.or_eq_true,Lf,L3]; omega),L6 ⟨cl,d1,d2,d3,cv⟩]
       simp only [yb]
       rw [z6 O0]; rfl
      ·rw [L6 (by simp only [Bool.or_eq_true,Lf,L3]; omega),L4 (fun h=>cv h.2.2.2.2)]
     ·rw [L6 d1,L6 d2,L4 d3,L4 (fun h=>d3 h.2.2.2.1)]; rfl
    ·rw [L6 d1,L4 d2,L4 (fun h=>d2 h.2.2.1)]; rfl
   ·rw [L4 d1,L4 (fun h=>d1 h.2.1)]; rfl
  ·rw [L6 O4,L4 (fun h=>cl h.1)]; rfl
 rw [L4 (by rw [Lf,L3,L3]; omega),L4 c5]
 rfl
theorem nW {n:Nat} {a:Bs} (hl:a.length≤100000000) (hn:5≤n):∀(k i:Nat),i≤a.length→a.length-i<k→yb (xp n a k i) (fun r=>some r) (fun _=>some true)=some (Uj a k i)
 |0,i,_,h=>O0
 | k + 1,i,hi,hk=>by
  rw [Uj]
  by_cases hc:i<a.length
  ·rw [rZ hc hl hn,L6 hc]
   cases h:uAt a i with
   |none=>rfl
   | some d=>
    have:=lH hc h
    exact nW hl hn k (i+d) O0 O0
  ·rw [xp,L4 O4,L4 hc]; rfl
theorem zaj {n:Nat} {a:Bs} (hl:a.length≤100000000) (hn:a.length+5≤n):dY n a=some (Uj a n 0):=nW hl O0 n 0 O0 O0
theorem zcn (a:Bs) (i:Nat):JU a i=Lib.decodeN (a.length-i) (gb a i) (gb a (i+1)) (gb a (i+2)) (gb a (i+3)):=by
 have hg:∀j:Nat,((⟨a.toArray⟩:ByteArray).get! j).toNat=gb a j:=by
  intro j
  show(a.toArray[j]!).toNat=_
  rw [getElem!_def]
  unfold gb
  by_cases h:j<a.length
  ·simp [h]
  ·simp [h]; rfl
 unfold JU
 rw [Lib.decode_at,hg,hg,hg,hg]
 rfl
theorem zfN {n i:Nat} {a:Bs} (hi:i<a.length):((ssl a ((i:Nat):Int) (List.length a)).bind fun x74=>(gf n x74 ([239,191,189]:List UInt8)).bind fun r75=>some (!r75))=some (!(decide (3≤a.length-i∧gb a i=239∧gb a (i+1)=191∧gb a (i+2)=189))):=by
 have h1:ssl a (i:Int) (a.length:Int)=some (a.drop i):=by rw [kX O0 O0]; simp
 rw [h1]
 simp only [L0,gf,wx]
 have hl:(a.drop i).length=a.length-i:=O2
 have e:∀j,gb a (i+j)=((a.drop i).getD j 0).toNat:=by intro j; unfold gb; simp
 by_cases hc:3≤a.length-i
 ·have h3:3≤(a.drop i).length:=O0
  rw [L6 (by rw [L3,hl]; simp; omega)]
  have e0:=e 0; have e1:=e 1; have e2:=e 2
  rw [Nat.add_zero]at e0
  rw [e0,e1,e2]
  generalize a.drop i=l at *
  match l,h3 with
  | x::y::z::r,_=>
   have:ssl (x::y::z::r) 0 (([239,191,189]:List UInt8).length:Int)=some [x,y,z]:=by
    unfold ssl; rw [L6 O3]; rfl
   rw [this]
   simp only [L0,hc,true_and]
   congr 2
   have t:∀u:UInt8,∀m:Nat,m<256→((u.toNat=m)↔u=UInt8.ofNat m):=by
    intro u m hm
    constructor
    ·intro h; rw [←h]; simp
    ·intro h; rw [h]; simp; omega
   have q:([x,y,z]==([239,191,189]:List UInt8))=decide ([x,y,z]=([239,191,189]:List UInt8)):=by
    rw [Bool.eq_iff_iff,beq_iff_eq,L3]
   rw [q]
   apply decide_eq_decide.2
   simp only [List.getD_cons_zero,List.getD_cons_succ,List.cons.injEq,and_true]
   rw [t x 239 O0,t y 191 O0,t z 189 O0]
   rfl
 ·rw [L4 (by rw [L3,hl]; simp; omega)]
  simp [hc]
theorem ll {n k i:Nat} {a:Bs} (hi:i<a.length):
  jW n a (k+1) i=match uAt a i with|none=>some (.ret false)|some d=>jW n a k (i+d):=by
 have g0:=ZA a i
 have g1:=ZA a (i+1)
 have g2:=ZA a (i+2)
 have g3:=ZA a (i+3)
 rw [jW,L6 (by rw [Nat.blt_eq]; exact hi),zfN hi,zcn]
 simp only [dro,dan,L0]
 unfold uAt
 generalize a.length-i=m at *
 generalize gb a i=b0 at *
 generalize gb a (i+1)=b1 at *
 generalize gb a (i+2)=b2 at *
 generalize gb a (i+3)=b3 at *
 by_cases c1:b0<128
 ·have:Lib.decodeN m b0 b1 b2 b3=(b0,1):=by unfold Lib.decodeN; rw [L6 c1]
  rw [this]
  by_cases c2:b0<32∨b0=127
  ·rw [L6 (by rw [Bool.or_eq_true,L3,beq_iff_eq]; simp only; omega)]
   unfold uN; rw [L6 c2]
  ·rw [L4 (by rw [Bool.or_eq_true,L3,beq_iff_eq]; simp only; omega),L4 (by rw [Lf,beq_iff_eq]; simp only; omega)]
   unfold uN; rw [L4 c2,L6 c1]
 have key:uN m b0 b1 b2 b3=if(Lib.decodeN m b0 b1 b2 b3).1=65533∧¬(3≤m∧b0=239∧b1=191∧b2=189)then none else some (Lib.decodeN m b0 b1 b2 b3).2:=by
  unfold uN Lib.decodeN
  rw [L4 (show ¬(b0<32∨b0=127)by omega),L4 c1,L4 c1]
  by_cases c2:b0/32=6
  ·rw [L6 c2]
   by_cases d1:1<m∧b1/64=2
   ·rw [L6 (show(b0/32=6∧(1<m∧b1/64=2))from⟨c2,d1⟩)]
    by_cases d2:b0%32*64+b1%64≥128
    ·rw [L6 (show(1<m∧b1/64=2∧128≤b0%32*64+b1%64)from⟨d1.1,d1.2,d2⟩),L6 d2,L4 (by simp only; omega)]
    ·rw [L4 (show ¬(1<m∧b1/64=2∧128≤b0%32*64+b1%64)from fun h=>d2 h.2.2),L4 d2,L6 ⟨rfl,O0⟩]
   ·rw [L4 (show ¬(1<m∧b1/64=2∧128≤b0%32*64+b1%64)by omega),L4 (show ¬(b0/32=6∧(1<m∧b1/64=2))by omega),L4 (show ¬(b0/16=14∧(1<m∧b1/64=2)∧(2<m∧b2/64=2))by omega),L4 (show ¬(b0/8=30∧(1<m∧b1/64=2)∧(2<m∧b2/64=2)∧(3<m∧b3/64=2))by omega),L6 ⟨rfl,O0⟩]
  rw [L4 c2,L4 (show ¬(b0/32=6∧(1<m∧b1/64=2))from fun h=>c2 h.1)]
  by_cases c3:b0/16=14
  ·rw [L6 c3]
   by_cases d1:2<m∧b1/64=2∧b2/64=2
   ·rw [L6 (show(b0/16=14∧(1<m∧b1/64=2)∧(2<m∧b2/64=2))from⟨c3,⟨O0,d1.2.1⟩,d1.1,d1.2.2⟩)]
    generalize hv:b0%16*4096+b1%64*64+b2%64=v
    by_cases d2:v≥2048∧(v<55296∨57344≤v∧v≤1114111)
    ·rw [L6 (show(2<m∧b1/64=2∧b2/64=2∧2048≤v∧(v<55296∨57344≤v))from⟨d1.1,d1.2.1,d1.2.2,O0,O0⟩),L6 d2,L4 (by simp only; omega)]
    ·rw [L4 (show ¬(2<m∧b1/64=2∧b2/64=2∧2048≤v∧(v<55296∨57344≤v))from fun h=>d2 ⟨h.2.2.2.1,O0⟩),L4 d2,L6 ⟨rfl,O0⟩]
   ·rw [L4 (show ¬(2<m∧b1/64=2∧b2/64=2∧2048≤b0%16*4096+b1%64*64+b2%64∧(b0%16*4096+b1%64*64+b2%64<55296∨57344≤b0%16*4096+b1%64*64+b2%64))from fun h=>d1 ⟨h.1,h.2.1,h.2.2.1⟩),L4 (show ¬(b0/16=14∧(1<m∧b1/64=2)∧(2<m∧b2/64=2))from fun h=>d1 ⟨h.2.2.1,h.2.1.2,h.2.2.2⟩),L4 (show ¬(b0/8=30∧(1<m∧b1/64=2)∧(2<m∧b2/64=2)∧(3<m∧b3/64=2))by omega),L6 ⟨rfl,O0⟩]
  rw [L4 c3,L4 (show ¬(b0/16=14∧(1<m∧b1/64=2)∧(2<m∧b2/64=2))from fun h=>c3 h.1)]
  by_cases c4:b0/8=30
  ·rw [L6 c4]
   by_cases d1:3<m∧b1/64=2∧b2/64=2∧b3/64=2
   ·rw [L6 (show(b0/8=30∧(1<m∧b1/64=2)∧(2<m∧b2/64=2)∧(3<m∧b3/64=2))from⟨c4,⟨O0,d1.2.1⟩,⟨O0,d1.2.2.1⟩,d1.1,d1.2.2.2⟩)]
    generalize hv:b0%8*262144+b1%64*4096+b2%64*64+b3%64=v
    by_cases d2:v≥65536∧(v<55296∨57344≤v∧v≤1114111)
    ·rw [L6 (show(3<m∧b1/64=2∧b2/64=2∧b3/64=2∧65536≤v∧v≤1114111)from⟨d1.1,d1.2.1,d1.2.2.1,d1.2.2.2,O0,O0⟩),L6 d2,L4 (by simp only; omega)]
    ·rw [L4 (show ¬(3<m∧b1/64=2∧b2/64=2∧b3/64=2∧65536≤v∧v≤1114111)from fun h=>d2 ⟨h.2.2.2.2.1,O0⟩),L4 d2,L6 ⟨rfl,O0⟩]
   ·rw [L4 (show ¬(3<m∧b1/64=2∧b2/64=2∧b3/64=2∧65536≤b0%8*262144+b1%64*4096+b2%64*64+b3%64∧b0%8*262144+b1%64*4096+b2%64*64+b3%64≤1114111)from fun h=>d1 ⟨h.1,h.2.1,h.2.2.1,h.2.2.2.1⟩),L4 (show ¬(b0/8=30∧(1<m∧b1/64=2)∧(2<m∧b2/64=2)∧(3<m∧b3/64=2))from fun h=>d1 ⟨h.2.2.2.1,h.2.1.2,h.2.2.1.2,h.2.2.2.2⟩),L6 ⟨rfl,O0⟩]
  rw [L4 c4,L4 (show ¬(b0/8=30∧(1<m∧b1/64=2)∧(2<m∧b2/64=2)∧(3<m∧b3/64=2))from fun h=>c4 h.1),L6 ⟨rfl,O0⟩]
 have big:127<(Lib.decodeN m b0 b1 b2 b3).1:=by
  unfold Lib.decodeN
  rw [L4 c1]
  repeat' split
  all_goals simp only
  all_goals omega
 rw [key,L4 (by rw [Bool.or_eq_true,L3,beq_iff_eq]; omega)]
 by_cases c:(Lib.decodeN m b0 b1 b2 b3).1=65533∧¬(3≤m∧b0=239∧b1=191∧b2=189)
 ·rw [L6 c,L6 (by rw [Lf,beq_iff_eq,Bool.not_eq_true',decide_eq_false_iff_not]; exact⟨O0,c.2⟩)]
 ·rw [L4 c,L4 (by rw [Lf,beq_iff_eq,Bool.not_eq_true',decide_eq_false_iff_not]; intro h; exact c ⟨O0,h.2⟩)]
theorem fq {n:Nat} {a:Bs}:∀(k i:Nat),i≤a.length→a.length-i<k→yb (jW n a k i) (fun r=>some r) (fun _=>some true)=some (Uj a k i)
 |0,i,_,h=>O0
 | k + 1,i,hi,hk=>by
  rw [Uj]
  by_cases hc:i<a.length
  ·rw [ll hc,L6 hc]
   cases h:uAt a i with
   |none=>rfl
   | some d=>
    have:=lH hc h
    exact fq k (i+d) O0 O0
  ·rw [jW,L4 (by rw [Nat.blt_eq]; exact hc),L4 hc]; rfl
theorem zap {n:Nat} {a:Bs} (hn:a.length+5≤n):UO n a=some (Uj a n 0):=fq n 0 O0 O0
theorem JL (s:Bs):∀(k k' i:Nat),s.length-i<k→s.length-i<k'→Uj s k i=Uj s k' i
 |0,_,i,h,_=>O0
 |_,0,i,_,h=>O0
 | k + 1,k'+1,i,h,h'=>by
  rw [Uj,Uj]
  by_cases hc:i<s.length
  ·rw [L6 hc,L6 hc]
   cases hu:uAt s i with
   |none=>rfl
   | some d=>
    have:=lH hc hu
    exact JL s k k' (i+d) O0 O0
  ·rw [L4 hc,L4 hc]
def prC (b:Nat):Bool:=decide (97≤b∧b≤122)||decide (65≤b∧b≤90)||decide (48≤b∧b≤57)||([32,39,40,41,43,44,45,46,47,58,61,63]:List Nat).contains b
def iaC (b:Nat):Bool:=decide (32≤b∧b≤126)
def XM (kind:Int) (s:Bs):Bool:=
 if kind=12 then Uj s (s.length+1) 0 else if kind=19 then s.all (fun c=>prC c.toNat)else if kind=22 then s.all (fun c=>iaC c.toNat)else false
theorem zcs {n b:Nat} (hn:20≤n) (hb:b<256):Zm n (b:Int)=some (prC b):=by
 obtain⟨m,rfl⟩:∃m,n=m+20:=⟨n-20,O0⟩
 have:=Lg.1 (show((List.range 256).all fun b:Nat=>decide (Zm (m+20) (b:Int)=some (prC b)))=true by kernel_rfl) b (Oa hb)
 simpa using this
theorem zcD {n b:Nat} (hb:b<256):Zh n (b:Int)=some (iaC b):=by
 have:=Lg.1 (show((List.range 256).all fun b:Nat=>decide (Zh n (b:Int)=some (iaC b)))=true by kernel_rfl) b (Oa hb)
 simpa using this
theorem lU {n b:Nat} (hn:20≤n) (hb:b<256):((xV n (b:Int)).bind fun r451=>
  if(!r451)=true then((xT n (b:Int) ([32,39,40,41,43,44,45,46,47,58,61,63]:List UInt8)).bind fun r453=>
  some (!r453))else(some false))=some (!prC b):=by
 obtain⟨m,rfl⟩:∃m,n=m+20:=⟨n-20,O0⟩
 have:=Lg.1 (show((List.range 256).all fun b:Nat=>decide (((xV (m+20) (b:Int)).bind fun r451=>
  if(!r451)=true then((xT (m+20) (b:Int) ([32,39,40,41,43,44,45,46,47,58,61,63]:List UInt8)).bind fun r453=>
  some (!r453))else(some false))=some (!prC b)))=true by kernel_rfl) b (Oa hb)
 simpa using this
theorem zfl {n:Nat} {a:Bs} (hl:a.length≤100000000) (hn:20≤n):∀(k i:Nat),i≤a.length→a.length-i<k→yb (gY n a k (i:Int)) (fun r=>some r) (fun _=>some true)=some ((a.drop i).all fun c=>prC c.toNat)
 |0,i,_,h=>O0
 | k + 1,i,hi,hk=>by
  rw [gY]
  by_cases hc:i<a.length
  ·rw [L6 O4,vj hc,Lc hc,List.all_cons]
   simp only [L0]
   rw [zcs hn (W6 _)]
   simp only [L0]
   by_cases hp:prC (a[i]).toNat=true
   ·rw [hp,L4 O2,w1 O0,zfl hl hn k (i+1) O0 O0]; simp
   ·rw [Bool.not_eq_true]at hp
    rw [hp,L6 O2]; rfl
  ·rw [L4 O4]
   have:i=a.length:=O0
   subst this
   simp [yb]
theorem zdX {n:Nat} {a:Bs} (hl:a.length≤100000000):∀(k i:Nat),i≤a.length→a.length-i<k→yb (bf n a k (i:Int)) (fun r=>some r) (fun _=>some true)=some ((a.drop i).all fun c=>iaC c.toNat)
 |0,i,_,h=>O0
 | k + 1,i,hi,hk=>by
  rw [bf]
  by_cases hc:i<a.length
  ·rw [L6 O4,vj hc,Lc hc,List.all_cons]
   simp only [L0]
   rw [zcD (W6 _)]
   simp only [L0]
   by_cases hp:iaC (a[i]).toNat=true
   ·rw [hp,L4 O2,w1 O0,zdX hl k (i+1) O0 O0]; simp
   ·rw [Bool.not_eq_true]at hp
    rw [hp,L6 O2]; rfl
  ·rw [L4 O4]
   have:i=a.length:=O0
   subst this
   simp [yb]
theorem lB {n:Nat} {k:Int} {a:Bs} (hl:a.length≤100000000) (hn:a.length+20≤n):Yy n k a=some (XM k a):=by
 unfold Yy XM
 by_cases h1:k=12
 ·rw [L6 (Oa h1),L6 h1,zap O0]
  simp only [L0]
  rw [JL a n (a.length+1) 0 O0 O0]
 rw [L4 (Oa h1),L4 h1]
 by_cases h2:k=19
 ·rw [L6 (Oa h2),L6 h2]
  unfold UR
  have:=zfl (n:=n) hl O0 n 0 O0 O0
  rw [show((0:Nat):Int)=0 from rfl,Li]at this
  rw [this]; rfl
 rw [L4 (Oa h2),L4 h2]
 by_cases h3:k=22
 ·rw [L6 (Oa h3),L6 h3]
  unfold W1
  have:=zdX (n:=n) hl n 0 O0 O0
  rw [show((0:Nat):Int)=0 from rfl,Li]at this
  rw [this]; rfl
 rw [L4 (Oa h3),L4 h3]
theorem zbW {n:Nat} {a:Bs} (hl:a.length≤100000000) (hn:20≤n):∀(k i:Nat),i≤a.length→a.length-i<k→yb (yX n a 19 k (i:Int)) (fun r=>some r) (fun _=>some true)=some ((a.drop i).all fun c=>prC c.toNat)
 |0,i,_,h=>O0
 | k + 1,i,hi,hk=>by
  rw [yX]
  by_cases hc:i<a.length
  ·rw [L6 O4,vj hc,Lc hc,List.all_cons]
   rw [L4 O1,L6 O1]
   simp only [L0]
   rw [lU hn (W6 _)]
   simp only [L0]
   by_cases hp:prC (a[i]).toNat=true
   ·rw [hp,L4 O2,w1 O0,zbW hl hn k (i+1) O0 O0]; simp
   ·rw [Bool.not_eq_true]at hp
    rw [hp,L6 O2]; rfl
  ·rw [L4 O4]
   have:i=a.length:=O0
   subst this
   simp [yb]
theorem zbX {n:Nat} {a:Bs} (hl:a.length≤100000000):∀(k i:Nat),i≤a.length→a.length-i<k→yb (yX n a 22 k (i:Int)) (fun r=>some r) (fun _=>some true)=some ((a.drop i).all fun c=>iaC c.toNat)
 |0,i,_,h=>O0
 | k + 1,i,hi,hk=>by
  rw [yX]
  by_cases hc:i<a.length
  ·rw [L6 O4,vj hc,Lc hc,List.all_cons]
   rw [L6 O1]
   simp only [L0]
   rw [L4 (show ¬((22:Int)==19)=true by decide)]
   by_cases hp:iaC (a[i]).toNat=true
   ·have hp':=hp
    unfold iaC at hp'; rw [L3]at hp'
    rw [L4 O4,L4 O4]
    simp only [L0]
    rw [hp,L4 O2,w1 O0,zbX hl k (i+1) O0 O0]; simp
   ·rw [Bool.not_eq_true]at hp
    have hp':=hp
    unfold iaC at hp'; rw [decide_eq_false_iff_not]at hp'
    rw [hp]
    by_cases h1:(a[i]).toNat<32
    ·rw [L6 O4]; rfl
    ·rw [L4 O4,L6 O4]; rfl
  ·rw [L4 O4]
   have:i=a.length:=O0
   subst this
   simp [yb]
theorem De {n:Nat} {k:Int} {a:Bs} (hl:a.length≤100000000) (hn:a.length+20≤n):jT n k a=some (XM k a):=by
 unfold jT XM
 by_cases h1:k=12
 ·rw [L6 (Oa h1),L6 h1,zaj hl O0]
  simp only [L0]
  rw [JL a n (a.length+1) 0 O0 O0]
 rw [L4 (Oa h1),L4 h1]
 by_cases h2:k=19
 ·subst h2
  rw [L6 O1,L6 rfl]
  simp only [L0]
  rw [L6 O1]
  have:=zbW (n:=n) hl O0 n 0 O0 O0
  rw [show((0:Nat):Int)=0 from rfl,Li]at this
  exact this
 rw [L4 (Oa h2),L4 h2]
 by_cases h3:k=22
 ·subst h3
  rw [L6 rfl]
  simp only [L0]
  rw [L6 O1]
  have:=zbX (n:=n) hl n 0 O0 O0
  rw [show((0:Nat):Int)=0 from rfl,Li]at this
  exact this
 rw [L4 h3]
 simp only [L0]
 rw [L4 (Oa h3)]
def leB (x y:Bs):Bool:=decide (x≤y)
theorem ny:∀(x y:Bs),Op.bytesLess x y=decide (x<y)
 | [],[]=>by simp [Op.bytesLess]
 |_::_,[]=>by simp [Op.bytesLess]
 | [],_::_=>by simp [Op.bytesLess]
 | a::x,b::y=>by
  rw [Op.bytesLess,ny x y]
  simp only [List.cons_lt_cons_iff]
  by_cases h1:a<b<;>by_cases h2:a=b<;>by_cases h3:x<y<;>simp [h1,h2,h3]
theorem Ki (a b c:Bs) (h1:leB a b=true) (h2:leB b c=true):leB a c=true:=by
 unfold leB at *; simp only [L3]at *; exact List.le_trans h1 h2
theorem KM (a b:Bs):(leB a b||leB b a)=true:=by
 unfold leB; simp only [Bool.or_eq_true,L3]; exact List.le_total a b
theorem te {a b:Bs} (h1:leB a b=true) (h2:leB b a=true):a=b:=by
 unfold leB at *; simp only [L3]at *; exact List.le_antisymm h1 h2
theorem zdZ (a b:Bs):(Op.bytesLess a b||a==b)=leB a b:=by
 rw [ny]; unfold leB
 by_cases h:a=b
 ·subst h; simp [List.le_refl]
 ·have e:(a==b)=false:=by simpa using h
  rw [e,Bool.or_false]
  apply decide_eq_decide.2
  constructor
  ·intro h; exact List.le_of_lt h
  ·intro h1
   by_cases hl:a<b
   ·exact hl
   ·exact absurd (List.le_antisymm h1 (List.not_lt.1 hl)) h
theorem zev (a b:Bs):Op.bytesLess a b= !leB b a:=by
 rw [ny]; unfold leB
 rw [←decide_not]
 exact decide_eq_decide.2 List.not_le.symm
def YW (l:List Bs):List Bs:=l.mergeSort leB
theorem J4 (l:List Bs):List.Perm (YW l) l:=List.mergeSort_perm l leB
theorem PV (l:List Bs):(YW l).Pairwise fun a b=>leB a b=true:=List.pairwise_mergeSort Ki KM l
theorem fS {l s:List Bs} (hp:List.Perm s l) (hs:s.Pairwise fun a b=>leB a b=true):s=YW l:=
 List.Perm.eq_of_pairwise (le:=fun a b=>leB a b=true) (fun a b _ _ h1 h2=>te h1 h2) hs (PV l) (hp.trans (J4 l).symm)
def U3 (s:List Bs) (x:Bs):List Bs:=s.takeWhile (leB · x)++x::s.dropWhile (leB · x)
theorem Ko (s:List Bs) (x:Bs):List.Perm (U3 s x) (x::s):=by
 unfold U3
 refine List.perm_middle.trans (List.Perm.cons x ?_)
 rw [List.takeWhile_append_dropWhile]
theorem Bg:∀ {s:List Bs} (x:Bs),s.Pairwise (fun a b=>leB a b=true)→(U3 s x).Pairwise fun a b=>leB a b=true
 | [],x,_=>by simp [U3]
 | a::s,x,h=>by
  unfold U3
  rw [List.takeWhile_cons,List.dropWhile_cons]
  by_cases hc:leB a x=true
  ·rw [L6 hc,L6 hc]
   rw [List.pairwise_cons]at h
   show(a::U3 s x).Pairwise _
   rw [List.pairwise_cons]
   refine⟨fun b hb=> ?_,Bg x h.2⟩
   rcases Lp.1 ((Ko s x).mem_iff.1 hb)with rfl|hb
   ·exact hc
   ·exact h.1 b hb
  ·rw [L4 hc,L4 hc]
   have hx:leB x a=true:=by have:=KM a x; simpa [hc] using this
   show(x::a::s).Pairwise _
   rw [List.pairwise_cons]
   refine⟨fun b hb=> ?_,h⟩
   rcases Lp.1 hb with rfl|hb
   ·exact hx
   ·exact Ki _ _ _ hx ((List.pairwise_cons.1 h).1 b hb)
theorem eK:∀(l s:List Bs),s.Pairwise (fun a b=>leB a b=true)→(l.foldl U3 s).Pairwise (fun a b=>leB a b=true)∧List.Perm (l.foldl U3 s) (s++l)
 | [],s,h=>⟨h,O2⟩
 | x::l,s,h=>by
  obtain⟨h1,h2⟩:=eK l (U3 s x) (Bg x h)
  refine⟨h1,h2.trans ?_⟩
  exact((Ko s x).append_right l).trans (List.perm_middle.symm)
theorem oN (l:List Bs):l.foldl U3 []=YW l:=by
 obtain⟨h1,h2⟩:=eK l [] O2
 exact fS (Oa h2) h1
theorem tW {n:Nat} (s:List Bs) (x:Bs) (hs:s.length≤1000000):∀(k i:Nat),i≤s.length→s.length-i<k→vW n s.length s x k (i:Int)=some ((i+((s.drop i).takeWhile (leB · x)).length:Nat):Int)
 |0,i,_,h=>O0
 | k + 1,i,hi,hk=>by
  rw [vW]
  by_cases hc:i<s.length
  ·rw [L6 O4]
   have h1:gu s.length (i:Int)=some i:=by unfold gu; rw [L6 ⟨O0,O0⟩]; simp
   rw [h1]
   simp only [L0,Nat.mul_one,List.getElem?_eq_getElem hc,zdZ]
   rw [Lc hc,List.takeWhile_cons]
   by_cases hl:leB s[i] x=true
   ·rw [L6 hl,L6 hl,w1 O0,tW s x hs k (i+1) O0 O0]
    simp only [La]
    congr 2; omega
   ·rw [L4 hl,L4 hl]
    simp
  ·rw [L4 O4]
   have:i=s.length:=O0
   subst this
   simp
theorem sF {n:Nat} (a:List Bs) (ha:a.length≤1000000) (hn:a.length+5≤n):∀(k i:Nat) (s:List Bs),i≤a.length→a.length-i<k→s.length=i→wz n a k s.length (i:Int) s=some ((((a.drop i).foldl U3 s).length:Nat),(a.drop i).foldl U3 s)
 |0,i,_,_,h,_=>O0
 | k + 1,i,s,hi,hk,hs=>by
  rw [wz]
  by_cases hc:i<a.length
  ·rw [L6 O4,zQ hc]
   simp only [L0]
   have h2:=tW (n:=n) s a[i] O0 n 0 O0 O0
   rw [show((0:Nat):Int)=0 from rfl,Li,Nat.zero_add]at h2
   have ht:s.takeWhile (leB · a[i])=s.take (s.takeWhile (leB · a[i])).length:=by
    have e:=List.takeWhile_append_dropWhile (p:=(leB · a[i])) (l:=s)
    conv=>rhs; arg 2; rw [←e]
    rw [List.take_left]
   have hd:s.dropWhile (leB · a[i])=s.drop (s.takeWhile (leB · a[i])).length:=by
    have e:=List.takeWhile_append_dropWhile (p:=(leB · a[i])) (l:=s)
    conv=>rhs; arg 2; rw [←e]
    rw [List.drop_left]
   have hle:(s.takeWhile (leB · a[i])).length≤s.length:=(List.takeWhile_sublist _).length_le
   have hf:QZ s.length s=some s:=by unfold QZ; rw [L6 O0]; simp
   have l1:lsl s 0 ((s.takeWhile (leB · a[i])).length:Int)=some (s.takeWhile (leB · a[i])):=by
    unfold lsl; rw [L6 ⟨O0,O0,O0⟩]
    simp only [Int.toNat_natCast,Int.toNat_zero,Li]
    rw [←ht]
   have l2:lsl s ((s.takeWhile (leB · a[i])).length:Int) (s.length:Int)=some (s.dropWhile (leB · a[i])):=by
    unfold lsl; rw [L6 ⟨O0,O0,O0⟩]
    simp only [Int.toNat_natCast,List.take_length]
    rw [←hd]
   have hlen:(s.takeWhile (leB · a[i])).length+(s.dropWhile (leB · a[i])).length=s.length:=by
    rw [←L8,List.takeWhile_append_dropWhile]
   rw [h2]
   simp only [L0]
   rw [hf]
   simp only [L0]
   rw [l1,L0,l2,L0]
   have o0:Bf 16 (s.takeWhile (leB · a[i]))=some (s.takeWhile (leB · a[i])):=by unfold Bf; rw [L6 O0]
   rw [o0,L0]
   have o1:Yd 16 (s.takeWhile (leB · a[i])).length (s.takeWhile (leB · a[i])) [a[i]]=some (s.takeWhile (leB · a[i]) ++ [a[i]]):=by
    unfold Yd; rw [L6 ⟨rfl,O2,by simp only [L9]; omega⟩]
   rw [o1,L0]
   have key:((if List.isEmpty (s.dropWhile (leB · a[i]))=true then some ((s.takeWhile (leB · a[i])).length+List.length ([a[i]]:List Bs),s.takeWhile (leB · a[i]) ++ [a[i]])else((Yd 16 ((s.takeWhile (leB · a[i])).length+List.length ([a[i]]:List Bs)) (s.takeWhile (leB · a[i]) ++ [a[i]]) (s.dropWhile (leB · a[i]))).bind fun x709=>some (((s.takeWhile (leB · a[i])).length+List.length ([a[i]]:List Bs))+List.length (s.dropWhile (leB · a[i])),x709))):Option (Nat×List Bs))=some ((U3 s a[i]).length,U3 s a[i]):=by
    unfold U3
    by_cases he:List.isEmpty (s.dropWhile (leB · a[i]))=true
    ·rw [L6 he]
     have:s.dropWhile (leB · a[i])= []:=by simpa using he
     rw [this]; simp
    ·rw [L4 he]
     have hne:(s.dropWhile (leB · a[i])).length≠0:=by
      intro h0; apply he; rw [List.eq_nil_of_length_eq_zero h0]; rfl
     unfold Yd
     rw [L6 ⟨O2,hne,by simp only [L9]; omega⟩]
     simp only [L0,Lq,List.cons_append,Lj,L8,La,Lm]
     congr 2; omega
   rw [key]
   simp only [L0]
   have hil:(U3 s a[i]).length=i+1:=by rw [(Ko s a[i]).length_eq]; simp [hs]
   rw [w1 O0,Lc hc,List.foldl_cons]
   exact sF a ha hn k (i+1) (U3 s a[i]) O0 O0 hil
  ·rw [L4 O4]
   have:i=a.length:=O0
   subst this
   simp
theorem zaC {n:Nat} (s:List Bs) (hs:s.length≤1000000) (hm:s.flatten.length≤1000000000):∀(k i:Nat) (acc:Bs),i≤s.length→s.length-i<k→acc.length+(s.drop i).flatten.length≤1000000000→vU n (s.length,s) k acc (i:Int)=some (acc++(s.drop i).flatten)
 |0,i,_,_,h,_=>O0
 | k+1,i,acc,hi,hk,hb=>by
  rw [vU]
  by_cases hc:i<s.length
  ·rw [L6 (by rw [L3]; simp only; omega)]
   have h1:gu s.length (i:Int)=some i:=by unfold gu; rw [L6 ⟨O0,O0⟩]; simp
   simp only [h1,L0,Nat.mul_one,List.getElem?_eq_getElem hc]
   rw [Lc hc]at hb ⊢
   rw [List.flatten_cons,L8]at hb
   rw [yd O0]
   simp only [L0]
   rw [w1 O0,zaC s hs hm k (i+1) _ O0 O0 (by rw [L8]; omega),List.flatten_cons,Lq]
  ·rw [L4 (by rw [L3]; simp only; omega)]
   have:i=s.length:=O0
   subst this
   simp
theorem Jp (l:List Bs):(YW l).length=l.length:=(J4 l).length_eq
theorem J5 (l:List Bs):(YW l).flatten.length=l.flatten.length:=by
 have:=(J4 l).flatten
 exact this.length_eq
theorem o5 {n:Nat} {a:List Bs} (ha:a.length≤1000000) (hm:a.flatten.length≤1000000000) (hn:a.length+5≤n):kT n a=some (YW a).flatten:=by
 unfold kT
 have h1:=sF (n:=n) a ha hn n 0 [] O0 O0 rfl
 rw [Li,oN]at h1
 have e0:wz n a n 0 0 []=some ((YW a).length,YW a):=h1
 rw [e0]
 simp only [L0]
 have h3:=zaC (n:=n) (YW a) (by rw [Jp]; omega) (by rw [J5]; omega) n 0 [] O0 (by rw [Jp]; omega) (by simp only [Li,Lm]; rw [J5]; omega)
 rw [show((0:Nat):Int)=0 from rfl]at h3
 rw [h3]; simp
end Go.Abs
end
