/- The typed Lean form of WireReturns gives true for every list of at most 9223372036854775807 numbers. -/
import Derived.Test.YtbggpcnbbhjiaaaGreatDoorLaw2
set_option linter.unusedVariables false
set_option linter.unusedSimpArgs false
set_option linter.unnecessarySimpa false
section
set_option maxRecDepth 100000
namespace Go.Abs
open Go Go.Proofs
def dg (v:Nat):Nat→List Nat
 |0=> []
 |g+1=>(v/128^g%128)::dg v g
def hi (v:Nat):Nat→List Nat
 |0=> []
 |g+1=>(v/128^(g+1)%128+128)::hi v g
def Grp (v g:Nat):Prop:=1≤g∧g≤5∧v/128^g=0∧∀j,1≤j→j<g→0<v/128^j
def grp (v:Nat):Nat:=if v<128 then 1 else if v<16384 then 2 else if v<2097152 then 3 else if v<268435456 then 4 else 5
theorem Jw {v:Nat} (h:v<34359738368):Grp v (grp v):=by
 have p1:(128:Nat)^1=128:=rfl
 have p2:(128:Nat)^2=16384:=rfl
 have p3:(128:Nat)^3=2097152:=rfl
 have p4:(128:Nat)^4=268435456:=rfl
 have p5:(128:Nat)^5=34359738368:=rfl
 have key:∀g,1≤g→g≤5→v<128^g→(g=1∨128^(g-1)≤v)→Grp v g:=by
  intro g h1 h5 hlt hge
  refine⟨h1,h5,Nat.div_eq_of_lt hlt,fun j j1 jg=> ?_⟩
  refine Nat.div_pos ?_ (Nat.pow_pos (by omega))
  rcases hge with rfl|hge
  ·omega
  ·exact Nat.le_trans (Nat.pow_le_pow_right (by omega) (by omega)) hge
 unfold grp
 split
 ·exact key 1 (by omega) (by omega) (by omega) (.inl rfl)
 ·split
  ·exact key 2 (by omega) (by omega) (by omega) (.inr (by simp; omega))
  ·split
   ·exact key 3 (by omega) (by omega) (by omega) (.inr (by simp; omega))
   ·split
    ·exact key 4 (by omega) (by omega) (by omega) (.inr (by simp; omega))
    ·exact key 5 (by omega) (by omega) (by omega) (.inr (by simp; omega))
def kp (v:Nat):List Nat:=hi v (grp v-1) ++ [v%128]
def Ua (v:Nat):Bs:=(kp v).map o8
theorem Wt (v g:Nat):(hi v g).length=g:=by induction g<;>simp [hi, *]
theorem Ui (v:Nat):(kp v).length≤5∧1≤(kp v).length:=by
 simp only [kp,List.length_append,Wt,List.length_singleton]
 unfold grp; repeat' split
 all_goals omega
theorem Pi (l:List Nat):b2s (wo l)=l.map o8:=by
 induction l with
 |nil=>rfl
 | cons a r ih=>
  simp only [b2s,wo,List.map_cons]at *
  rw [ih]; simp [o8]
theorem cd {v j:Nat} (hj:j≤8):YD .i64 (v:Int) (IntKind.wrap .u64 ((7:Int)*(IntKind.wrap .u64 (j:Int))))=some ((v/128^j:Nat):Int):=by
 have hw:IntKind.wrap .u64 (j:Int)=(j:Int):=by
  have:j=0∨j=1∨j=2∨j=3∨j=4∨j=5∨j=6∨j=7∨j=8:=by omega
  rcases this with rfl|rfl|rfl|rfl|rfl|rfl|rfl|rfl|rfl<;>rfl
 have hw2:IntKind.wrap .u64 ((7:Int)*(j:Int))=((7*j:Nat):Int):=by
  have:j=0∨j=1∨j=2∨j=3∨j=4∨j=5∨j=6∨j=7∨j=8:=by omega
  rcases this with rfl|rfl|rfl|rfl|rfl|rfl|rfl|rfl|rfl<;>rfl
 rw [hw,hw2]
 unfold YD
 rw [if_neg (by omega)]
 have hm:min ((7*j:Nat):Int).toNat IntKind.i64.bits=7*j:=by
  rw [Int.toNat_natCast]; show min (7*j) 64=7*j; omega
 rw [hm]
 have:((2:Int)^(7*j))=((128^j:Nat):Int):=by
  rw [show(128:Nat)=2^7 from rfl,←Nat.pow_mul]; simp
 rw [this,Dq _ _ (Nat.pow_pos (by omega))]
theorem DO {x:Nat} (hx:x<9223372036854775808):IntKind.wrap .u8 (wq .i64 (x:Int) 127)=((x%128:Nat):Int):=by
 rw [show(127:Int)=((127:Nat):Int)from rfl,V1 hx (by omega),show(127:Nat)=2^7-1 from rfl,Nat.and_two_pow_sub_one_eq_mod,wr8 (by omega) (by omega)]
theorem eN {x:Nat} (hx:x<9223372036854775808):IntKind.wrap .u8 (ior .i64 (wq .i64 (x:Int) 127) 128)=((x%128+128:Nat):Int):=by
 rw [show(127:Int)=((127:Nat):Int)from rfl,V1 hx (by omega),show(127:Nat)=2^7-1 from rfl,Nat.and_two_pow_sub_one_eq_mod,show(128:Int)=((128:Nat):Int)from rfl,BB (by omega) (by omega),Nat.or_comm]
 have:=Nat.two_pow_add_eq_or_of_lt (i:=7) (b:=x%2^7) (by omega) 1
 rw [show(2:Nat)^7*1=128 from rfl]at this
 rw [←this,wr8 (by omega) (by omega)]
 omega
theorem Kr {n v g:Nat} (hg:Grp v g):∀(k j:Nat),1≤j→j≤g→g-j<k→v8 n (v:Int) k (j:Int)=some (g:Int)
 |0,_,_,_,h=>by omega
 | k+1,j,h1,h2,h3=>by
  have h5:=hg.2.1
  rw [v8,cd (by omega)]
  simp only [Option.bind_some]
  by_cases hj:j<g
  ·have:=hg.2.2.2 j h1 hj
   rw [if_pos (by rw [decide_eq_true_eq]; omega),w1 (by omega)]
   exact Kr hg k (j+1) (by omega) (by omega) (by omega)
  ·have:j=g:=by omega
   subst this
   rw [hg.2.2.1,if_neg (by simp)]
theorem Kz {n v:Nat} (hv:v<9223372036854775808):∀(k i c:Nat) (b:List Int),i≤8→i<k→b.length=c→c+i≤1000000→vm n (v:Int) k c (i:Int) b=some (c+i,b++wo (hi v i))
 |0,_,_,_,_,h,_,_=>by omega
 |k+1,0,c,b,_,_,hb,hc=>by rw [vm,if_neg (by simp)]; simp [hi,wo]
 | k+1,i+1,c,b,h8,hk,hb,hc=>by
  rw [vm,if_pos (by simp),cd h8]
  simp only [Option.bind_some]
  rw [eN (Nat.lt_of_le_of_lt (Nat.div_le_self _ _) hv)]
  have ho:Wa 1 c b ([((v/128^(i+1)%128+128:Nat):Int)]:List Int)=some (b ++ [((v/128^(i+1)%128+128:Nat):Int)]):=by
   unfold Wa; rw [if_pos (by simp; omega)]
  rw [ho,wt (by omega),show((i+1:Nat):Int)-1=(i:Int)by omega]
  simp only [Option.bind_some,List.length_singleton]
  rw [Kz hv k i (c+1) _ (by omega) (by omega) (by simp [hb]) (by omega)]
  simp [hi,wo]; omega
theorem PB {n v:Nat} (hv:v<34359738368) (hn:20≤n):gN n (v:Int)=some ((kp v).length,wo (kp v)):=by
 have hg:=Jw hv
 have h5:=hg.2.1
 have h1:=hg.1
 unfold gN
 have e1:=Kr (n:=n) hg n 1 (by omega) hg.1 (by omega)
 rw [show((1:Nat):Int)=1 from rfl]at e1
 rw [e1]
 simp only [Option.bind_some]
 rw [wt (by omega),show((grp v:Nat):Int)-1=((grp v-1:Nat):Int)by omega,Kz (by omega) n (grp v-1) 0 [] (by omega) (by omega) rfl (by omega)]
 simp only [Option.bind_some,List.nil_append]
 rw [DO (by omega)]
 have ho:Wa 1 (0+(grp v-1)) (wo (hi v (grp v-1))) ([((v%128:Nat):Int)]:List Int)=some (wo (kp v)):=by
  unfold Wa; rw [if_pos (by simp [wL,Wt]; omega)]; simp [wo,kp]
 rw [ho]
 simp [kp,Wt]
theorem Bj {n:Nat} (a:Int):∀(k:Nat) (v:Int),ut n a k v=v8 n a k v
 |0,v=>rfl
 |k+1,v=>by rw [ut,v8]; simp only [Bj a k]
theorem Bg {n:Nat} (a:Int):∀(k c:Nat) (v:Int) (b:List Int),uq n a k c v b=vm n a k c v b
 |0,_,_,_=>rfl
 |k+1,c,v,b=>by rw [uq,vm]; simp only [Bg a k]
theorem G7 {n v c:Nat} {m:List Int} (hv:v<34359738368) (hn:20≤n) (hm:m.length=c) (hc:c≤100000):kJ n c (v:Int) m=some (c+(kp v).length,m++wo (kp v)):=by
 have hg:=Jw hv
 have h5:=hg.2.1
 have h1:=hg.1
 unfold kJ
 have e1:=Kr (n:=n) hg n 1 (by omega) hg.1 (by omega)
 rw [show((1:Nat):Int)=1 from rfl]at e1
 rw [Bj,e1]
 simp only [Option.bind_some,Bg]
 rw [wt (by omega),show((grp v:Nat):Int)-1=((grp v-1:Nat):Int)by omega,Kz (by omega) n (grp v-1) c m (by omega) (by omega) hm (by omega)]
 simp only [Option.bind_some]
 rw [DO (by omega)]
 have ho:Wa 1 (c+(grp v-1)) (m++wo (hi v (grp v-1))) ([((v%128:Nat):Int)]:List Int)=some (m++wo (kp v)):=by
  unfold Wa; rw [if_pos (by simp [wL,Wt]; omega)]; simp [wo,kp]
 rw [ho]
 simp [kp,Wt]; omega
def Yu (l:List Nat):List Nat:=match l with
 |a::b::r=>(40*a+b)::r
 |_=> []
def qf (l:List Nat):Bs:=((Yu l).map Ua).flatten
theorem YA {n:Nat} (hn:20≤n) (r:List Nat) (hr:∀x∈r,x<34359738368) (hl:r.length≤1000):∀(k:Nat) (pre suf:List Nat) (m:List Int),r=pre++suf→suf.length<k→m.length≤5+5*pre.length →
  va n (wo r) k m.length (pre.length:Int) m=some (m.length+((suf.map kp).flatten).length,m++wo ((suf.map kp).flatten))
 |0,_,_,_,_,h,_=>by omega
 | k+1,pre,[],m,hp,hk,hm=>by
  simp at hp; subst hp
  rw [va,if_neg (by simp [wL])]
  simp [wo]
 | k+1,pre,x::suf,m,hp,hk,hm=>by
  have hlen:r.length=pre.length+(suf.length+1):=by rw [hp]; simp
  have hx:z6 (wo r) (pre.length:Int)=some (x:Int):=by
   rw [yf (by rw [wL]; omega)]; congr 1; simp [wo,hp]
  have hxv:=hr x (by rw [hp]; simp)
  have h5:=Ui x
  rw [va,if_pos (by simp [wL]; omega),hx]
  simp only [Option.bind_some]
  rw [G7 hxv hn rfl (by omega)]
  simp only [Option.bind_some]
  rw [w1 (by omega)]
  have ih:=YA hn r hr hl k (pre ++ [x]) suf (m++wo (kp x)) (by rw [hp]; simp) (by simp at hk; omega) (by simp [wL]; omega)
  rw [List.length_append,wL]at ih
  rw [show pre.length+1=(pre ++ [x]).length by simp,ih]
  simp [wo,Nat.add_assoc]
theorem PJ (l:List Nat):b2s (wo (((Yu l).map kp).flatten))=qf l:=by
 rw [Pi]
 unfold qf
 generalize Yu l=q
 induction q with
 |nil=>rfl
 |cons a r ih=>simp only [List.map_cons,List.flatten_cons,List.map_append,ih]; rfl
def JL (l:List Nat):Prop:=2≤l.length∧l.length≤12∧ZP l=true∧∀x∈l,x≤2147483647
theorem qU {s:Bs} {l:List Nat} (h:xS s=some l):JL l:=by
 unfold xS at h
 split at h
 ·rename_i hc
  injection h with h; subst h
  refine⟨by simp; exact hc.1,by simp; exact hc.2.1,hc.2.2.2, ?_⟩
  intro x hx
  obtain⟨p,hp,rfl⟩:=List.mem_map.1 hx
  exact((Yf p).1 (List.all_eq_true.1 hc.2.2.1 p hp)).2.2.2.2
 ·cases h
theorem Pj {α β:Type} {x:β} {a:Option α} {b:β→Option α}:onE (some x) a b=b x:=rfl
theorem Kn {l:List Nat} (h:2≤l.length):∃a b r,l=a::b::r:=by
 match l,h with
 | [],h=>simp at h
 | [_],h=>simp at h
 |a::b::r,_=>exact⟨a,b,r,rfl⟩
theorem YU {n:Nat} {s:Bs} {l:List Nat} (hs:s.length≤100000000) (hn:s.length+40≤n) (h:xS s=some l):vZ n s=some (qf l,0):=by
 obtain⟨h2,h12,hr,hb⟩:=qU h
 obtain⟨a,b,r,rfl⟩:=Kn h2
 have ha:=hb a (by simp)
 have hbb:=hb b (by simp)
 have ha2:a≤2:=by
  simp only [ZP,Bool.or_eq_true,Bool.and_eq_true,decide_eq_true_eq]at hr; omega
 unfold vZ
 rw [J1 hs (by omega),h]
 rw [Option.map_some,Option.bind_some,Pj,Option.bind_some]
 have k0:z6 (wo (a::b::r)) 0=some (a:Int):=by simp [z6,wo]
 have k1:z6 (wo (a::b::r)) 1=some (b:Int):=by simp [z6,wo]
 have k2:lsl (wo (a::b::r)) 2 ((wo (a::b::r)).length:Nat)=some (wo r):=by
  unfold lsl; rw [if_pos (by simp [wL]; omega),Int.toNat_natCast,List.take_length]; rfl
 rw [show lne (wo (a::b::r))=some ()from rfl,k0,k1]
 simp only [Option.bind_some]
 have e1:IntKind.wrap .i64 (IntKind.wrap .i64 ((40:Int)*(a:Int))+(b:Int))=((40*a+b:Nat):Int):=by
  rw [wt (x:=(40:Int)*(a:Int)) (by omega),wt (by omega)]; omega
 rw [e1,PB (by omega) (by omega),k2]
 simp only [Option.bind_some]
 have h5:=Ui (40*a+b)
 simp only [List.length_cons]at h12
 have hl:=YA (n:=n) (by omega) r (fun x hx=>by have:=hb x (by simp [hx]); omega) (by omega) n [] r (wo (kp (40*a+b))) rfl (by omega) (by simp [wL]; omega)
 rw [wL]at hl
 rw [show(0:Int)=((([]:List Nat).length:Nat):Int)from rfl,hl]
 simp only [Option.bind_some]
 have e2:wo (kp (40*a+b))++wo ((r.map kp).flatten)=wo (((Yu (a::b::r)).map kp).flatten):=by simp [Yu,wo]
 rw [e2]
 have e3:Jk ((kp (40*a+b)).length+((r.map kp).flatten).length) (wo (((Yu (a::b::r)).map kp).flatten))=some (qf (a::b::r)):=by
  unfold Jk
  have hlen:(wo (((Yu (a::b::r)).map kp).flatten)).length=(kp (40*a+b)).length+((r.map kp).flatten).length:=by
   rw [←e2,List.length_append,wL,wL]
  rw [if_pos (by rw [hlen]; exact Nat.le_refl _),←hlen,List.take_length,PJ]
 rw [e3]; rfl
def lo (v:Nat):Nat→List Nat
 |0=> []
 |g+1=>(v/128^(g+1)%128)::lo v g
theorem GJ (q:Bs) (c:UInt8):dval (q ++ [c])=10*dval q+(c.toNat-48):=by simp [dval]
theorem Pc {c:UInt8} (h:Yp c=true):UInt8.ofNat (48+(c.toNat-48))=c:=by
 simp only [Yp,Bool.and_eq_true,decide_eq_true_eq]at h
 rw [show 48+(c.toNat-48)=c.toNat by omega]; exact UInt8.ofNat_toNat
theorem cu:∀(k:Nat) (p:Bs),p.length=k+1→p.all Yp=true→p.head? ≠some 48→Lib.decDigits (dval p)=p∧1≤dval p
 | 0,p,hl,hd,hh=>by
  match p,hl with
  | [c],_=>
   simp only [List.all_cons,List.all_nil,Bool.and_true]at hd
   have e:dval [c]=c.toNat-48:=by simp [dval]
   have h2:=hd
   simp only [Yp,Bool.and_eq_true,decide_eq_true_eq]at h2
   rw [e,Lib.decDigits_one (by omega),Pc hd]
   refine⟨rfl, ?_⟩
   have:c.toNat≠48:=fun h=>hh (by rw [List.head?_cons,←UInt8.ofNat_toNat (x:=c),h]; rfl)
   omega
 | k+1,p,hl,hd,hh=>by
  obtain⟨q,c,rfl⟩:∃q c,p=q ++ [c]:=⟨p.dropLast,p.getLast (by intro h; rw [h]at hl; simp at hl),(List.dropLast_concat_getLast _).symm⟩
  simp only [List.length_append,List.length_singleton]at hl
  rw [List.all_append]at hd
  simp only [List.all_cons,List.all_nil,Bool.and_true,Bool.and_eq_true]at hd
  have hq:q.head? ≠some 48:=by
   match q,hl with
   |x::q,_=>simpa using hh
  obtain⟨ih1,ih2⟩:=cu k q (by omega) hd.1 hq
  have h2:=hd.2
  simp only [Yp,Bool.and_eq_true,decide_eq_true_eq]at h2
  rw [GJ]
  refine⟨?_,by omega⟩
  rw [Lib.decDigits,dif_neg (by omega),show(10*dval q+(c.toNat-48))/10=dval q by omega,show(10*dval q+(c.toNat-48))%10=c.toNat-48 by omega,ih1,Pc hd.2]
theorem Gl {p:Bs} (h:kX p=true):Lib.decDigits (dval p)=p:=by
 obtain⟨h1,h2,h3,h4,h5⟩:=(Yf p).1 h
 by_cases hh:p.head? =some 48
 ·have:p.length≤1:=by
   apply Decidable.byContradiction; intro hc; exact h3 ⟨by omega,hh⟩
  match p,h1,this,hh with
  | [c],_,_,hh=>simp at hh; subst hh; rw [show dval [48]=0 from rfl]; exact Lib.decDigits_one (by omega)
 ·match p,h1,hh,h4 with
  |c::r,_,hh,h4=>exact(cu r.length (c::r) rfl h4 hh).1
def GI (l:List Nat):Bs:=Lib.join (l.map fun a=>Lib.decDigits a) [46]
theorem VK (c:UInt8):∀s:Bs,Lib.join (splitB c s) [c]=s
 | []=>Lib.join_one _ _
 | x ::r=>by
  have ih:=VK c r
  rw [splitB]
  split
  ·rename_i h
   subst h
   match hs:splitB x r,WH x r,ih with
   | p::ps,_,ih=>
    rw [Lib.join_cons]at ih ⊢
    rw [List.nil_append]
    show [x]++p++Lib.joinTail [x] ps=_
    rw [List.append_assoc,ih]; rfl
  ·match hs:splitB c r,WH c r,ih with
   | p::ps,_,ih=>
    rw [Lib.join_cons]at ih
    show Lib.join ((x::p)::ps) [c]=_
    rw [Lib.join_cons,List.cons_append,ih]
theorem Up {s:Bs} {l:List Nat} (h:xS s=some l):GI l=s:=by
 unfold xS at h
 split at h
 ·rename_i hc
  injection h with h; subst h
  unfold GI
  rw [List.map_map]
  have:(splitB 46 s).map ((fun a=>Lib.decDigits a)∘dval)=splitB 46 s:=by
   have hall:=List.all_eq_true.1 hc.2.2.1
   generalize splitB 46 s=ps at hall ⊢
   induction ps with
   |nil=>rfl
   | cons p r ih=>
    rw [List.map_cons,ih (fun x hx=>hall x (by simp [hx]))]
    rw [Function.comp,Gl (hall p (by simp))]
  rw [this,VK]
 ·cases h
theorem B1 {u:Nat} (h:u<18446744073709551616):(Lib.decDigits u).length≤20:=by
 rw [Lib.decDigits_length]; exact Lib.nDigits_le20 u h
theorem UM (sep:Bs) (b:Nat):∀l:List Bs,(∀x∈l,x.length≤b)→(Lib.joinTail sep l).length≤l.length*(sep.length+b)
 | [],_=>by simp [Lib.joinTail]
 | x::r,h=>by
  have h1:=h x (by simp)
  have ih:=UM sep b r (fun y hy=>h y (by simp [hy]))
  have e:Lib.joinTail sep (x::r)=sep++x++Lib.joinTail sep r:=by simp [Lib.joinTail]
  rw [e,List.length_append,List.length_append,List.length_cons,Nat.succ_mul]; omega
theorem J4 {sep:Bs} {b:Nat} {l:List Bs} (h:∀x∈l,x.length≤b):(Lib.join l sep).length≤l.length*(sep.length+b):=by
 match l,h with
 | [],_=>simp [Lib.join_nil]
 | x::r,h=>
  have h1:=h x (by simp)
  have ih:=UM sep b r (fun y hy=>h y (by simp [hy]))
  rw [Lib.join_cons,List.length_append,List.length_cons,Nat.succ_mul]; omega
theorem Pu {v:Nat} (c:UInt8) (hv:v≤4294967294):ior .i64 (IntKind.wrap .i64 ((v:Int)*128)) (wq .i64 (IntKind.wrap .i64 (c.toNat:Int)) 127)=((128*v+c.toNat%128:Nat):Int):=by
 have hc:=JQ c
 rw [wt (x:=(v:Int)*128) (by omega),wt (x:=(c.toNat:Int)) (by omega),show(127:Int)=((127:Nat):Int)from rfl,V1 (by omega) (by omega),show(127:Nat)=2^7-1 from rfl,Nat.and_two_pow_sub_one_eq_mod,
  show(v:Int)*128=((2^7*v:Nat):Int)by omega]
 exact BR (i:=7) (by omega) (by omega)
theorem K1 {n:Nat} (b:Bs) (acc:List Int) (i k v:Nat) (hv:v≤4294967294) (hi:i<b.length) (hb:b.length≤1000000000) (ha:acc.length≤1000000000):
  y0 n b acc (k+1) (i:Int) (v:Int)=if 4294967294<128*v+b[i].toNat%128 then some (.ret [])else if b[i].toNat<128 then some (.nxt (acc ++ [((128*v+b[i].toNat%128:Nat):Int)],((i+1:Nat):Int)))else y0 n b acc k ((i+1:Nat):Int) ((128*v+b[i].toNat%128:Nat):Int):=by
 have hc:=JQ b[i]
 rw [y0,if_pos (by simp; omega),b9 hi,Option.bind_some,Pu _ hv]
 have hw:IntKind.wrap .i64 (b[i].toNat:Int)=(b[i].toNat:Int):=wt (by omega)
 rw [w1 (by omega),hw]
 by_cases h1:4294967294<128*v+b[i].toNat%128
 ·rw [if_pos h1,if_pos (by rw [decide_eq_true_eq]; omega)]
 ·rw [if_neg h1,if_neg (by rw [decide_eq_true_eq]; omega)]
  by_cases h2:b[i].toNat<128
  ·rw [if_pos h2,if_pos (by rw [decide_eq_true_eq]; omega),yZ (by simp; omega)]; rfl
  ·rw [if_neg h2,if_neg (by rw [decide_eq_true_eq]; omega)]
theorem Ut {n:Nat} (b:Bs) (acc:List Int) (hb:b.length≤1000000000) (ha:acc.length≤1000000000):∀(k i v:Nat),v≤4294967294→i≤b.length→b.length-i<k →
  y0 n b acc k (i:Int) (v:Int)=some (.ret [])∨∃x j:Nat,y0 n b acc k (i:Int) (v:Int)=some (.nxt (acc ++ [(x:Int)],(j:Int)))∧x≤4294967294∧i<j∧j≤b.length
 |0,_,_,_,_,h=>by omega
 | k + 1,i,v,hv,hi,hk=>by
  by_cases hc:i<b.length
  ·rw [K1 b acc i k v hv hc hb ha]
   by_cases h1:4294967294<128*v+b[i].toNat%128
   ·rw [if_pos h1]; exact .inl rfl
   ·rw [if_neg h1]
    by_cases h2:b[i].toNat<128
    ·rw [if_pos h2]; exact .inr ⟨_,_,rfl,by omega,by omega,by omega⟩
    ·rw [if_neg h2]
     rcases Ut b acc hb ha k (i+1) (128*v+b[i].toNat%128) (by omega) (by omega) (by omega)with h|⟨x,j,h,a1,a2,a3⟩
     ·exact .inl h
     ·exact .inr ⟨x,j,h,a1,by omega,a3⟩
  ·rw [y0,if_neg (by simp; omega)]; exact .inl rfl
theorem VI {n:Nat} (b:Bs) (hb:b.length≤500000000) (hn:b.length+2≤n):∀(k i:Nat) (acc:List Nat),i≤b.length→b.length-i<k→acc.length≤i→(∀x∈acc,x≤4294967294) →
  y1 n b k (wo acc) (i:Int)=some (.ret [])∨∃l:List Nat,y1 n b k (wo acc) (i:Int)=some (.nxt (wo l))∧(∀x∈l,x≤4294967294)∧l.length≤b.length
 |0,_,_,_,h,_,_=>by omega
 | k + 1,i,acc,hi,hk,ha,hq=>by
  rw [y1]
  by_cases hc:i<b.length
  ·rw [if_pos (by simp; omega),b9 hc,Option.bind_some]
   by_cases h8:(((b[i].toNat:Int))==128)=true
   ·rw [if_pos h8]; exact .inl rfl
   ·rw [if_neg h8]
    have h0:=Ut (n:=n) b (wo acc) (by omega) (by rw [wL]; omega) n i 0 (by omega) hi (by omega)
    rw [show((0:Nat):Int)=0 from rfl]at h0
    rcases h0 with h|⟨x,j,h,a1,a2,a3⟩
    ·rw [h]; exact .inl rfl
    ·rw [h]
     have:=VI b hb hn k j (acc ++ [x]) a3 (by omega) (by simp; omega) (by
      intro y hy; rw [List.mem_append]at hy
      rcases hy with hy|hy
      ·exact hq y hy
      ·simp at hy; subst hy; exact a1)
     rw [show wo (acc ++ [x])=wo acc ++ [(x:Int)]by simp [wo]]at this
     exact this
  ·rw [if_neg (by simp; omega)]
   exact .inr ⟨acc,rfl,hq,by omega⟩
theorem Qv {n:Nat} (b:Bs) (hb:b.length≤500000000) (hn:b.length+2≤n):∃l:List Nat,uh n b=some (wo l)∧(∀x∈l,x≤4294967294)∧l.length≤b.length:=by
 unfold uh
 have h:=VI b hb hn n 0 [] (by omega) (by omega) (by simp) (by simp)
 rw [show((0:Nat):Int)=0 from rfl,show wo []= []from rfl]at h
 rcases h with h|⟨l,h,h1,h2⟩
 ·rw [h]; exact⟨[],rfl,by simp,by simp⟩
 ·rw [h]; exact⟨l,rfl,h1,h2⟩
theorem QF {n:Nat} (b:Bs) (acc:List Int) (hb:b.length≤1000000000) (ha:acc.length≤1000000000) {v:Nat} (hv:v≤4294967294):∀(g k i:Nat) (rest:Bs),g<k→b.drop i=(hi v g ++ [v%128]).map o8++rest →
  y0 n b acc k (i:Int) ((v/128^(g+1):Nat):Int)=some (.nxt (acc ++ [(v:Int)],((i+g+1:Nat):Int)))
 |g,0,_,_,h,_=>by omega
 | 0,k+1,i,rest,_,hd=>by
  have hi:i<b.length:=by
   apply Decidable.byContradiction; intro hc
   rw [List.drop_eq_nil_of_le (by omega)]at hd; simp [hi]at hd
  have hx:b[i]=o8 (v%128):=by
   rw [List.drop_eq_getElem_cons hi]at hd; simp only [Go.Abs.hi,List.nil_append,List.map_cons,List.map_nil,List.singleton_append]at hd
   exact(List.cons.inj hd).1
  have hq:v/128^(0+1)=v/128:=by rw [Nat.zero_add,Nat.pow_one]
  rw [hq,K1 b acc i k _ (by omega) hi hb ha,hx,py (by omega),if_neg (by omega),if_pos (by omega),show 128*(v/128)+v%128%128=v by omega]
 | g+1,k+1,i,rest,hk,hd=>by
  have hi:i<b.length:=by
   apply Decidable.byContradiction; intro hc
   rw [List.drop_eq_nil_of_le (by omega)]at hd; simp [Go.Abs.hi]at hd
  rw [List.drop_eq_getElem_cons hi]at hd
  simp only [Go.Abs.hi,List.cons_append,List.map_cons]at hd
  obtain⟨hx,hd⟩:=List.cons.inj hd
  have hpw:v/128^(g+1+1)=v/128^(g+1)/128:=by rw [Nat.div_div_eq_div_mul,Nat.pow_succ]
  have hle:v/128^(g+1)≤v:=Nat.div_le_self _ _
  have ih:=QF (n:=n) b acc hb ha hv g k (i+1) rest (by omega) hd
  generalize hqe:v/128^(g+1)=q at hpw hle hx ih
  rw [hpw,K1 b acc i k _ (by omega) hi hb ha,hx,py (by omega),if_neg (by omega),if_neg (by omega),show 128*(q/128)+(q%128+128)%128=q by omega,ih]
  rw [show i+1+g+1=i+(g+1)+1 by omega]
theorem G4 {v:Nat} (hv:v<34359738368):∃c r,Ua v=c::r∧c.toNat≠128:=by
 have hg:=Jw hv
 unfold Ua kp
 obtain⟨g,hgg⟩:∃g,grp v=g+1:=⟨grp v-1,by have:=hg.1; omega⟩
 rw [hgg,Nat.add_sub_cancel]
 match g,hgg with
 |0,_=>exact⟨_,_,rfl,by rw [py (by omega)]; omega⟩
 | g+1,hgg=>
  refine⟨_,_,rfl, ?_⟩
  have h1:=hg.2.2.2 (g+1) (by omega) (by omega)
  have h2:=hg.2.2.1
  rw [hgg,Nat.pow_succ 128 (g+1),←Nat.div_div_eq_div_mul]at h2
  generalize v/128^(g+1)=q at h1 h2 ⊢
  rw [py (by omega)]; omega
theorem W7 {n:Nat} (b:Bs) (hb:b.length≤500000000) (hn:20≤n):∀(suf:List Nat) (k i:Nat) (acc:List Int),suf.length<k→acc.length+suf.length≤1000000→(∀x∈suf,x≤4294967294)→i≤b.length→b.drop i=(suf.map Ua).flatten →
  y1 n b k acc (i:Int)=some (.nxt (acc++wo suf))
 |suf,0,_,_,h,_,_,_,_=>by omega
 | [],k+1,i,acc,_,_,_,hi,hd=>by
  have:i=b.length:=by
   have:=congrArg List.length hd; simp at this; omega
  rw [y1,if_neg (by simp; omega)]; simp [wo]
 | v::suf,k+1,i,acc,hk,ha,hq,hi,hd=>by
  have hv:=hq v (by simp)
  rw [List.map_cons,List.flatten_cons]at hd
  obtain⟨c,r,he,hc⟩:=G4 (v:=v) (by omega)
  have hil:i<b.length:=by
   apply Decidable.byContradiction; intro hcc
   rw [List.drop_eq_nil_of_le (by omega),he]at hd; simp at hd
  have hbi:b[i]=c:=by
   rw [List.drop_eq_getElem_cons hil,he]at hd; exact(List.cons.inj hd).1
  have hg:=Jw (v:=v) (by omega)
  have hg1:=hg.1
  have hg5:=hg.2.1
  have e2:=QF (n:=n) b acc (by omega) (by omega) hv (grp v-1) n i ((suf.map Ua).flatten) (by omega) hd
  rw [show grp v-1+1=grp v by omega,hg.2.2.1,show((0:Nat):Int)=0 from rfl,show i+(grp v-1)+1=i+grp v by omega]at e2
  have hlen:(Ua v).length=grp v:=by unfold Ua kp; simp [Wt]; omega
  have hd2:b.drop (i+grp v)=(suf.map Ua).flatten:=by
   rw [←List.drop_drop,hd,←hlen,List.drop_left]
  have hil2:i+grp v≤b.length:=by
   have:=congrArg List.length hd; rw [List.length_drop,List.length_append,hlen]at this; omega
  simp only [List.length_cons]at hk ha
  have ih:=W7 b hb hn suf k (i+grp v) (acc ++ [(v:Int)]) (by omega) (by simp; omega) (fun x hx=>hq x (by simp [hx])) hil2 hd2
  rw [y1,if_pos (by simp; omega),b9 hil,Option.bind_some,hbi,if_neg (by rw [beq_iff_eq]; omega),e2]
  show y1 n b k _ _=_
  rw [ih]; simp [wo]
theorem D3 (a:Nat):Lib.itoa (a:Int)=Lib.decDigits a:=Lib.itoa_nonneg a
theorem DS {n:Nat} (L:List Nat) (hl:L.length≤12) (hL:∀x∈L,x≤9000000000):∀(k i:Nat) (acc:List Bs),i≤L.length→L.length-i<k→acc.length≤i →
  vR n (wo L) k acc (i:Int)=some (if(L.drop i).all (fun x=>decide (x≤2147483647))=true then .nxt (acc++(L.drop i).map fun a=>Lib.decDigits a)else .ret ([],11))
 |0,_,_,_,h,_=>by omega
 | k + 1,i,acc,hi,hk,ha=>by
  rw [vR]
  by_cases hc:i<L.length
  ·have hx:z6 (wo L) (i:Int)=some (L[i]:Int):=by
    rw [yf (by rw [wL]; omega)]; congr 1; simp [wo]
   have hb:=hL L[i] (List.getElem_mem hc)
   rw [if_pos (by simp [wL]; omega),hx,Option.bind_some,List.drop_eq_getElem_cons hc,List.all_cons]
   by_cases h1:L[i]≤2147483647
   ·have hct:Xq n (L[i]:Int)=some (Lib.decDigits L[i]):=by
     unfold Xq; rw [if_pos (by omega),D3]
    rw [if_neg (by rw [decide_eq_true_eq]; omega),hct,Option.bind_some,yZ (by simp; omega),Option.bind_some,w1 (by omega),DS L hl hL k (i+1) _ (by omega) (by omega) (by simp; omega),decide_eq_true h1,Bool.true_and]
    simp only [List.map_cons,List.append_assoc,List.singleton_append]
   ·rw [if_pos (by rw [decide_eq_true_eq]; omega),decide_eq_false h1,Bool.false_and,if_neg (by simp)]
  ·rw [if_neg (by simp [wL]; omega),List.drop_eq_nil_of_le (by omega)]
   simp
def j5:List Nat→List Nat
 | []=> []
 |v::r=>(if 2<v/40 then 2 else v/40)::(v-40*(if 2<v/40 then 2 else v/40))::r
def YP (q:List Nat):Bool:=decide (q≠ [])&&decide (q.length≤11)&&(j5 q).all (fun x=>decide (x≤2147483647))
theorem Yx {n:Nat} {b:Bs} {q:List Nat} (hn:40≤n) (h:uh n b=some (wo q)) (hq:∀x∈q,x≤4294967294) (hql:q.length≤500000000):yr n b=some (if YP q=true then(GI (j5 q),0)else([],11)):=by
 unfold yr
 rw [h,Option.bind_some,wL]
 by_cases h0:q= []
 ·subst h0; rfl
 ·obtain ⟨v,r,rfl⟩:=List.exists_cons_of_ne_nil h0
  have hv:=hq v (by simp)
  rw [if_neg (by rw [beq_iff_eq,List.length_cons]; omega),Option.bind_some]
  by_cases h11:(v::r).length≤11
  ·rw [if_neg (by rw [decide_eq_true_eq]; omega)]
   have k0:z6 (wo (v::r)) 0=some (v:Int):=by simp [z6,wo]
   have k2:lsl (wo (v::r)) 1 ((v::r).length:Nat)=some (wo r):=by
    unfold lsl; rw [if_pos (by rw [wL,List.length_cons]; omega),Int.toNat_natCast,List.take_of_length_le (by rw [wL]; exact Nat.le_refl _)]; rfl
   rw [k0,k2]
   simp only [Option.bind_some]
   have e0:IntKind.wrap .i64 (Int.tdiv (v:Int) 40)=((v/40:Nat):Int):=by
    rw [show(40:Int)=((40:Nat):Int)from rfl,(Int.ofNat_tdiv v 40).symm,wt (by omega)]
   rw [e0]
   have e1:(if(2:Int)<((v/40:Nat):Int)then(2:Int)else((v/40:Nat):Int))=(((if 2<v/40 then 2 else v/40):Nat):Int):=by
    by_cases c:2<v/40
    ·rw [if_pos c,if_pos (by omega)]; rfl
    ·rw [if_neg c,if_neg (by omega)]
   rw [e1]
   have hle:40*(if 2<v/40 then 2 else v/40)≤v:=by split<;>omega
   generalize hz:(if 2<v/40 then 2 else v/40)=z at hle ⊢
   have e2:IntKind.wrap .i64 ((v:Int)-IntKind.wrap .i64 ((40:Int)*(z:Int)))=((v-40*z:Nat):Int):=by
    rw [wt (x:=(40:Int)*(z:Int)) (by omega),wt (by omega)]; omega
   rw [e2]
   have ey:(if List.isEmpty (wo r)=true then some ([(z:Int),((v-40*z:Nat):Int)]:List Int)else(kW 8 ([(z:Int),((v-40*z:Nat):Int)]:List Int) (wo r)).bind fun x5=>some x5)=some (wo (j5 (v::r))):=by
    rw [show j5 (v::r)=z::(v-40*z)::r by simp only [j5,hz]]
    match r with
    | []=>rfl
    | c::r=>
     rw [if_neg (by simp [wo])]
     unfold kW
     simp only [List.length_cons]at h11
     rw [if_pos (by simp [wL]; omega)]; rfl
   rw [ey,Option.bind_some]
   have hlen:(j5 (v::r)).length≤12:=by simp only [j5,List.length_cons]at h11 ⊢; omega
   have hL:∀x∈j5 (v::r),x≤4294967294:=by
    intro x hx
    simp only [j5,List.mem_cons,hz]at hx
    rcases hx with rfl|rfl|hx
    ·omega
    ·omega
    ·exact hq x (by simp [hx])
   have hd:=DS (n:=n) (j5 (v::r)) hlen (fun x hx=>by have:=hL x hx; omega) n 0 [] (by omega) (by omega) (by simp)
   rw [show((0:Nat):Int)=0 from rfl,List.drop_zero,List.nil_append]at hd
   rw [hd]
   have hok:YP (v::r)=(j5 (v::r)).all (fun x=>decide (x≤2147483647)):=by
    unfold YP; rw [decide_eq_true (by simp),decide_eq_true h11]; simp
   rw [hok]
   by_cases hall:(j5 (v::r)).all (fun x=>decide (x≤2147483647))=true
   ·rw [if_pos hall,if_pos hall]
    simp only [xJ]
    have hj:dY n ((j5 (v::r)).map fun a=>Lib.decDigits a) [46]=some (GI (j5 (v::r))):=by
     unfold dY
     have:=J4 (sep:= [46]) (b:=20) (l:=(j5 (v::r)).map fun a=>Lib.decDigits a) (by
      intro x hx; obtain⟨a,ha,rfl⟩:=List.mem_map.1 hx
      have:=hL a ha; exact B1 (by omega))
     rw [List.length_map,List.length_singleton]at this
     rw [if_pos (by rw [List.length_map]; omega)]; rfl
    rw [hj]; rfl
   ·rw [if_neg hall,if_neg hall]; rfl
  ·rw [if_pos (by rw [decide_eq_true_eq]; omega),if_neg]
   unfold YP; rw [decide_eq_false h11]; simp
theorem Vc {l:List Nat} (h:JL l):j5 (Yu l)=l:=by
 obtain⟨h2,h12,hr,hb⟩:=h
 obtain⟨a,b,r,rfl⟩:=Kn h2
 simp only [ZP,Bool.or_eq_true,Bool.and_eq_true,decide_eq_true_eq]at hr
 simp only [Yu,j5]
 rcases hr with⟨h1,h3⟩|h1
 ·rw [if_neg (by omega),show(40*a+b)/40=a by omega,show 40*a+b-40*a=b by omega]
 ·subst h1
  have:(if 2<(40*2+b)/40 then 2 else(40*2+b)/40)=2:=by split<;>omega
  rw [this,show 40*2+b-40*2=b by omega]
theorem BZ {l:List Nat} (h:JL l):(Yu l).length+1=l.length∧∀x∈Yu l,x≤2147483727:=by
 have h':=h
 obtain⟨h2,h12,hr,hb⟩:=h
 obtain⟨a,b,r,rfl⟩:=Kn h2
 have ha:=hb a (by simp)
 have hbb:=hb b (by simp)
 simp only [ZP,Bool.or_eq_true,Bool.and_eq_true,decide_eq_true_eq]at hr
 refine⟨by simp [Yu], ?_⟩
 intro x hx
 simp only [Yu,List.mem_cons]at hx
 rcases hx with rfl|hx
 ·omega
 ·have:=hb x (by simp [hx]); omega
theorem bV {l:List Nat} (h:JL l):(qf l).length≤55:=by
 have h1:=BZ h
 have h12:=h.2.1
 have key:∀q:List Nat,((q.map Ua).flatten).length≤5*q.length:=by
  intro q
  induction q with
  |nil=>simp
  | cons a r ih=>
   have:=(Ui a).1
   rw [List.map_cons,List.flatten_cons,List.length_append,List.length_cons]
   have e:(Ua a).length=(kp a).length:=by simp [Ua]
   omega
 have:=key (Yu l)
 unfold qf; omega
theorem gj {n:Nat} {s:Bs} {l:List Nat} (h:xS s=some l) (hn:100≤n):yr n (qf l)=some (s,0):=by
 have hok:=qU h
 have hno:=BZ hok
 have hlen:=bV hok
 have h12:=hok.2.1
 have h2:=hok.1
 have hnum:uh n (qf l)=some (wo (Yu l)):=by
  unfold uh
  have:=W7 (n:=n) (qf l) (by omega) (by omega) (Yu l) n 0 [] (by omega) (by simp; omega) (fun x hx=>by have:=hno.2 x hx; omega) (by omega) rfl
  rw [show((0:Nat):Int)=0 from rfl]at this
  rw [this]; rfl
 rw [Yx (by omega) hnum (fun x hx=>by have:=hno.2 x hx; omega) (by omega),Vc hok,Up h,if_pos]
 unfold YP
 rw [Vc hok,decide_eq_true (by intro hc; rw [hc]at hno; have:=hno.1; simp at this; omega),decide_eq_true (by omega)]
 simp only [Bool.true_and,List.all_eq_true,decide_eq_true_eq]
 exact hok.2.2.2
end Go.Abs
end
