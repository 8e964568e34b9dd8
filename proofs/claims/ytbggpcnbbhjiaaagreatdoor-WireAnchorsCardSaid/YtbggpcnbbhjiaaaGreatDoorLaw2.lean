/- The typed Lean form of WireAnchors gives true for every list of at most 9223372036854775807 numbers and every such list of anchors. -/
import Derived.Test.YtbggpcnbbhjiaaaGreatDoorLaw1
set_option linter.unusedVariables false
set_option linter.unusedSimpArgs false
set_option linter.unnecessarySimpa false
section
set_option maxRecDepth 100000
namespace Go.Abs
open Go Go.Proofs
def leB (x y:Bs):Bool:=decide (x≤y)
theorem GZ:∀(x y:Bs),Op.bytesLess x y=decide (x<y)
 | [],[]=>by simp [Op.bytesLess]
 |_::_,[]=>by simp [Op.bytesLess]
 | [],_::_=>by simp [Op.bytesLess]
 | a::x,b::y=>by
  rw [Op.bytesLess,GZ x y]
  simp only [List.cons_lt_cons_iff]
  by_cases h1:a<b<;>by_cases h2:a=b<;>by_cases h3:x<y<;>simp [h1,h2,h3]
theorem We (a b c:Bs) (h1:leB a b=true) (h2:leB b c=true):leB a c=true:=by
 unfold leB at *; simp only [decide_eq_true_eq]at *; exact List.le_trans h1 h2
theorem X4 (a b:Bs):(leB a b||leB b a)=true:=by
 unfold leB; simp only [Bool.or_eq_true,decide_eq_true_eq]; exact List.le_total a b
theorem DB {a b:Bs} (h1:leB a b=true) (h2:leB b a=true):a=b:=by
 unfold leB at *; simp only [decide_eq_true_eq]at *; exact List.le_antisymm h1 h2
theorem hY (a b:Bs):(Op.bytesLess a b||a==b)=leB a b:=by
 rw [GZ]; unfold leB
 by_cases h:a=b
 ·subst h; simp [List.le_refl]
 ·have e:(a==b)=false:=by simpa using h
  rw [e,Bool.or_false]
  apply decide_eq_decide.2
  constructor
  ·intro h; exact List.le_of_lt h
  ·intro h1
   by_cases hl:a<b
   ·exact hl
   ·exact absurd (List.le_antisymm h1 (List.not_lt.1 hl)) h
theorem lO (a b:Bs):Op.bytesLess a b= !leB b a:=by
 rw [GZ]; unfold leB
 rw [←decide_not]
 exact decide_eq_decide.2 List.not_le.symm
def gm (l:List Bs):List Bs:=l.mergeSort leB
theorem YA (l:List Bs):List.Perm (gm l) l:=List.mergeSort_perm l leB
theorem Jf (l:List Bs):(gm l).Pairwise fun a b=>leB a b=true:=List.pairwise_mergeSort We X4 l
theorem K5 {l s:List Bs} (hp:List.Perm s l) (hs:s.Pairwise fun a b=>leB a b=true):s=gm l:=
 List.Perm.eq_of_pairwise (le:=fun a b=>leB a b=true) (fun a b _ _ h1 h2=>DB h1 h2) hs (Jf l) (hp.trans (YA l).symm)
def ZN (s:List Bs) (x:Bs):List Bs:=s.takeWhile (leB · x)++x::s.dropWhile (leB · x)
theorem Wa (s:List Bs) (x:Bs):List.Perm (ZN s x) (x::s):=by
 unfold ZN
 refine List.perm_middle.trans (List.Perm.cons x ?_)
 rw [List.takeWhile_append_dropWhile]
theorem WH:∀ {s:List Bs} (x:Bs),s.Pairwise (fun a b=>leB a b=true)→(ZN s x).Pairwise fun a b=>leB a b=true
 | [],x,_=>by simp [ZN]
 | a::s,x,h=>by
  unfold ZN
  rw [List.takeWhile_cons,List.dropWhile_cons]
  by_cases hc:leB a x=true
  ·rw [if_pos hc,if_pos hc]
   rw [List.pairwise_cons]at h
   show(a::ZN s x).Pairwise _
   rw [List.pairwise_cons]
   refine⟨fun b hb=> ?_,WH x h.2⟩
   rcases List.mem_cons.1 ((Wa s x).mem_iff.1 hb)with rfl|hb
   ·exact hc
   ·exact h.1 b hb
  ·rw [if_neg hc,if_neg hc]
   have hx:leB x a=true:=by have:=X4 a x; simpa [hc] using this
   show(x::a::s).Pairwise _
   rw [List.pairwise_cons]
   refine⟨fun b hb=> ?_,h⟩
   rcases List.mem_cons.1 hb with rfl|hb
   ·exact hx
   ·exact We _ _ _ hx ((List.pairwise_cons.1 h).1 b hb)
theorem QY:∀(l s:List Bs),s.Pairwise (fun a b=>leB a b=true)→(l.foldl ZN s).Pairwise (fun a b=>leB a b=true)∧List.Perm (l.foldl ZN s) (s++l)
 | [],s,h=>⟨h,by simp⟩
 | x::l,s,h=>by
  obtain⟨h1,h2⟩:=QY l (ZN s x) (WH x h)
  refine⟨h1,h2.trans ?_⟩
  exact((Wa s x).append_right l).trans (List.perm_middle.symm)
theorem GN (l:List Bs):l.foldl ZN []=gm l:=by
 obtain⟨h1,h2⟩:=QY l [] (by simp)
 exact K5 (by simpa using h2) h1
theorem D1 {n:Nat} (s:List Bs) (x:Bs) (hs:s.length≤1000000):∀(k i:Nat),i≤s.length→s.length-i<k→xH n s.length s x k (i:Int)=some ((i+((s.drop i).takeWhile (leB · x)).length:Nat):Int)
 |0,i,_,h=>by omega
 | k + 1,i,hi,hk=>by
  rw [xH]
  by_cases hc:i<s.length
  ·rw [if_pos (by rw [decide_eq_true_eq]; omega)]
   have h1:qZ s.length (i:Int)=some i:=by unfold qZ; rw [if_pos ⟨by omega,by omega⟩]; simp
   rw [h1]
   simp only [Option.bind_some,Nat.mul_one,List.getElem?_eq_getElem hc,hY]
   rw [List.drop_eq_getElem_cons hc,List.takeWhile_cons]
   by_cases hl:leB s[i] x=true
   ·rw [if_pos hl,if_pos hl,w1 (by omega),D1 s x hs k (i+1) (by omega) (by omega)]
    simp only [List.length_cons]
    congr 2; omega
   ·rw [if_neg hl,if_neg hl]
    simp
  ·rw [if_neg (by rw [decide_eq_true_eq]; omega)]
   have:i=s.length:=by omega
   subst this
   simp
theorem Dm {n:Nat} (a:List Bs) (ha:a.length≤1000000) (hn:a.length+5≤n):∀(k i:Nat) (s:List Bs),i≤a.length→a.length-i<k→s.length=i→yW n a k s.length (i:Int) s=some ((((a.drop i).foldl ZN s).length:Nat),(a.drop i).foldl ZN s)
 |0,i,_,_,h,_=>by omega
 | k + 1,i,s,hi,hk,hs=>by
  rw [yW]
  by_cases hc:i<a.length
  ·rw [if_pos (by rw [decide_eq_true_eq]; omega),ye hc]
   simp only [Option.bind_some]
   have h2:=D1 (n:=n) s a[i] (by omega) n 0 (by omega) (by omega)
   rw [show((0:Nat):Int)=0 from rfl,List.drop_zero,Nat.zero_add]at h2
   have ht:s.takeWhile (leB · a[i])=s.take (s.takeWhile (leB · a[i])).length:=by
    have e:=List.takeWhile_append_dropWhile (p:=(leB · a[i])) (l:=s)
    conv=>rhs; arg 2; rw [←e]
    rw [List.take_left]
   have hd:s.dropWhile (leB · a[i])=s.drop (s.takeWhile (leB · a[i])).length:=by
    have e:=List.takeWhile_append_dropWhile (p:=(leB · a[i])) (l:=s)
    conv=>rhs; arg 2; rw [←e]
    rw [List.drop_left]
   have hle:(s.takeWhile (leB · a[i])).length≤s.length:=(List.takeWhile_sublist _).length_le
   have hf:Xq s.length s=some s:=by unfold Xq; rw [if_pos (by omega)]; simp
   have l1:lsl s 0 ((s.takeWhile (leB · a[i])).length:Int)=some (s.takeWhile (leB · a[i])):=by
    unfold lsl; rw [if_pos ⟨by omega,by omega,by omega⟩]
    simp only [Int.toNat_natCast,Int.toNat_zero,List.drop_zero]
    rw [←ht]
   have l2:lsl s ((s.takeWhile (leB · a[i])).length:Int) (s.length:Int)=some (s.dropWhile (leB · a[i])):=by
    unfold lsl; rw [if_pos ⟨by omega,by omega,by omega⟩]
    simp only [Int.toNat_natCast,List.take_length]
    rw [←hd]
   have hlen:(s.takeWhile (leB · a[i])).length+(s.dropWhile (leB · a[i])).length=s.length:=by
    rw [←List.length_append,List.takeWhile_append_dropWhile]
   rw [h2]
   simp only [Option.bind_some]
   rw [hf]
   simp only [Option.bind_some]
   rw [l1,Option.bind_some,l2,Option.bind_some]
   have o0:WE 16 (s.takeWhile (leB · a[i]))=some (s.takeWhile (leB · a[i])):=by unfold WE; rw [if_pos (by omega)]
   rw [o0,Option.bind_some]
   have o1:gv 16 (s.takeWhile (leB · a[i])).length (s.takeWhile (leB · a[i])) [a[i]]=some (s.takeWhile (leB · a[i]) ++ [a[i]]):=by
    unfold gv; rw [if_pos ⟨rfl,by simp,by simp only [List.length_singleton]; omega⟩]
   rw [o1,Option.bind_some]
   have key:((if List.isEmpty (s.dropWhile (leB · a[i]))=true then some ((s.takeWhile (leB · a[i])).length+List.length ([a[i]]:List Bs),s.takeWhile (leB · a[i]) ++ [a[i]])else((gv 16 ((s.takeWhile (leB · a[i])).length+List.length ([a[i]]:List Bs)) (s.takeWhile (leB · a[i]) ++ [a[i]]) (s.dropWhile (leB · a[i]))).bind fun x709=>some (((s.takeWhile (leB · a[i])).length+List.length ([a[i]]:List Bs))+List.length (s.dropWhile (leB · a[i])),x709))):Option (Nat×List Bs))=some ((ZN s a[i]).length,ZN s a[i]):=by
    unfold ZN
    by_cases he:List.isEmpty (s.dropWhile (leB · a[i]))=true
    ·rw [if_pos he]
     have:s.dropWhile (leB · a[i])= []:=by simpa using he
     rw [this]; simp
    ·rw [if_neg he]
     have hne:(s.dropWhile (leB · a[i])).length≠0:=by
      intro h0; apply he; rw [List.eq_nil_of_length_eq_zero h0]; rfl
     unfold gv
     rw [if_pos ⟨by simp,hne,by simp only [List.length_singleton]; omega⟩]
     simp only [Option.bind_some,List.append_assoc,List.cons_append,List.nil_append,List.length_append,List.length_cons,List.length_nil]
     congr 2; omega
   rw [key]
   simp only [Option.bind_some]
   have hil:(ZN s a[i]).length=i+1:=by rw [(Wa s a[i]).length_eq]; simp [hs]
   rw [w1 (by omega),List.drop_eq_getElem_cons hc,List.foldl_cons]
   exact Dm a ha hn k (i+1) (ZN s a[i]) (by omega) (by omega) hil
  ·rw [if_neg (by rw [decide_eq_true_eq]; omega)]
   have:i=a.length:=by omega
   subst this
   simp
theorem Du {n:Nat} (s:List Bs) (hs:s.length≤1000000) (hm:s.flatten.length≤1000000000):∀(k i:Nat) (acc:Bs),i≤s.length→s.length-i<k→acc.length+(s.drop i).flatten.length≤1000000000→xC n (s.length,s) k acc (i:Int)=some (acc++(s.drop i).flatten)
 |0,i,_,_,h,_=>by omega
 | k+1,i,acc,hi,hk,hb=>by
  rw [xC]
  by_cases hc:i<s.length
  ·rw [if_pos (by rw [decide_eq_true_eq]; simp only; omega)]
   have h1:qZ s.length (i:Int)=some i:=by unfold qZ; rw [if_pos ⟨by omega,by omega⟩]; simp
   simp only [h1,Option.bind_some,Nat.mul_one,List.getElem?_eq_getElem hc]
   rw [List.drop_eq_getElem_cons hc]at hb ⊢
   rw [List.flatten_cons,List.length_append]at hb
   rw [yC (by omega)]
   simp only [Option.bind_some]
   rw [w1 (by omega),Du s hs hm k (i+1) _ (by omega) (by omega) (by rw [List.length_append]; omega),List.flatten_cons,List.append_assoc]
  ·rw [if_neg (by rw [decide_eq_true_eq]; simp only; omega)]
   have:i=s.length:=by omega
   subst this
   simp
theorem Z6 (l:List Bs):(gm l).length=l.length:=(YA l).length_eq
theorem YB (l:List Bs):(gm l).flatten.length=l.flatten.length:=by
 have:=(YA l).flatten
 exact this.length_eq
theorem Gy {n:Nat} {a:List Bs} (ha:a.length≤1000000) (hm:a.flatten.length≤1000000000) (hn:a.length+5≤n):vV n a=some (gm a).flatten:=by
 unfold vV
 have h1:=Dm (n:=n) a ha hn n 0 [] (by omega) (by omega) rfl
 rw [List.drop_zero,GN]at h1
 have e0:yW n a n 0 0 []=some ((gm a).length,gm a):=h1
 rw [e0]
 simp only [Option.bind_some]
 have h3:=Du (n:=n) (gm a) (by rw [Z6]; omega) (by rw [YB]; omega) n 0 [] (by omega) (by rw [Z6]; omega) (by simp only [List.drop_zero,List.length_nil]; rw [YB]; omega)
 rw [show((0:Nat):Int)=0 from rfl]at h3
 rw [h3]; simp
def o8 (n:Nat):UInt8:=UInt8.ofNat n
def VY (t n:Nat):Bs:=
 if n<128 then [o8 t,o8 n]else if n<256 then [o8 t,129,o8 n]else if n<65536 then [o8 t,130,o8 (n/256),o8 n]else [o8 t,131,o8 (n/65536),o8 (n/256),o8 n]
def tWrap (t:Nat) (c:Bs):Bs×Int:=if c.length≤131072 then(VY t c.length++c,0)else([],6)
theorem jS (n:Nat):UInt8.ofNat (IntKind.wrap .u8 (n:Int)).toNat=o8 n:=by
 have h:IntKind.wrap .u8 (n:Int)=((n%256:Nat):Int):=by
  rw [IntKind.wrap]; simp [IntKind.signed,IntKind.bits]
 rw [h]; unfold o8
 apply UInt8.toNat_inj.1
 simp; omega
theorem Qu (a b:Nat) (h:0<b):Int.fdiv (a:Int) (b:Int)=((a/b:Nat):Int):=by
 rw [Int.fdiv_eq_ediv_of_nonneg _ (by omega)]; rfl
theorem UQ (t n:Nat):2≤(VY t n).length∧(VY t n).length≤5:=by
 unfold VY; split
 ·simp
 ·split
  ·simp
  ·split<;>simp
theorem yX (t:Nat) (c:Bs):(tWrap t c).1.length≤c.length+5:=by
 unfold tWrap; split
 ·have:=UQ t c.length; simp; omega
 ·simp
theorem BT {n:Nat} (cs:List Bs) (hm:∀c∈cs,c.length≤1000000000000):∀(k:Nat) (pre suf:List Bs),cs=pre++suf→suf.length<k→cs.length≤1000000000000→pre.flatten.length≤131072 →
  uE n cs k (pre.flatten.length:Int) (pre.length:Int)=some (if cs.flatten.length≤131072 then .nxt (cs.flatten.length:Int)else .ret ([],6))
 |0,_,_,_,h,_,_=>by omega
 | k+1,pre,[],hp,hk,hl,ht=>by
  simp at hp; subst hp
  rw [uE,if_neg (by simp [-List.length_flatten]),if_pos ht]
 | k+1,pre,c::suf,hp,hk,hl,ht=>by
  have hlen:cs.length=pre.length+(suf.length+1):=by rw [hp]; simp [-List.length_flatten]
  have hfl:cs.flatten.length=pre.flatten.length+(c.length+suf.flatten.length):=by rw [hp,List.flatten_append,List.length_append,List.flatten_cons,List.length_append]
  have hx:zX cs (pre.length:Int)=some c:=by
   rw [ye (by omega)]; congr 1; simp [hp]
  rw [uE,if_pos (by simp [-List.length_flatten]; omega),hx]
  simp only [Option.bind_some]
  rw [xT (x:=(131072:Int)-(pre.flatten.length:Int)) (by omega)]
  have hc:=hm c (by rw [hp]; simp)
  by_cases hb:pre.flatten.length+c.length≤131072
  ·have ih:=BT (n:=n) cs hm k (pre ++ [c]) suf (by rw [hp]; simp) (by simp at hk; omega) hl (by rw [List.flatten_append,List.length_append]; simp [-List.length_flatten]; omega)
   rw [if_neg (by simp [-List.length_flatten]; omega),xT (by omega),w1 (by omega)]
   rw [show((pre.flatten.length:Int)+(c.length:Int))=(((pre ++ [c]).flatten.length:Nat):Int)by rw [List.flatten_append,List.length_append]; simp [-List.length_flatten],show pre.length+1=(pre ++ [c]).length by simp]
   exact ih
  ·rw [if_pos (by simp [-List.length_flatten]; omega),if_neg (by omega)]
theorem XC (cs:List Bs):Lib.join cs []=cs.flatten:=by
 induction cs with
 |nil=>rfl
 |cons c r ih=>rw [Lib.join_cons]; simp [Lib.joinTail]
theorem PM {n:Nat} {cs:List Bs} (h1:cs.flatten.length≤140737488355328) (h2:cs.length≤140737488355328):pc n cs []=some cs.flatten:=by
 unfold pc; rw [XC,if_pos ⟨h1,h2⟩]
theorem Y5 {n:Nat} {t:Nat} {cs:List Bs} (h1:t≤255) (h2:t%32≠31) (hm:∀c∈cs,c.length≤1000000000000) (hn:cs.length<n) (hl:cs.length≤1000000000000):
  xZ n (t:Int) cs=some (tWrap t cs.flatten):=by
 unfold xZ tWrap
 have h31:(xJ .i64 (t:Int) 31==31)=false:=by
  have:=P5 (UInt8.ofNat t)
  rw [show(UInt8.ofNat t).toNat=t by simp [-List.length_flatten]; omega]at this
  rw [this]; simp [h2]
 rw [if_neg (by simp [-List.length_flatten]),if_neg (by simp [-List.length_flatten]; omega),h31]
 simp only [Option.bind_some,Bool.false_eq_true,if_false]
 have:=BT (n:=n) cs hm n [] cs rfl hn hl (by simp [-List.length_flatten])
 simp only [List.flatten_nil,List.length_nil]at this
 rw [show((0:Nat):Int)=0 from rfl]at this
 rw [this]
 by_cases hc:cs.flatten.length≤131072
 ·rw [if_pos hc,if_pos hc]
  simp only [ym]
  generalize hL:cs.flatten.length=L at *
  have e1:Int.fdiv (L:Int) 256=((L/256:Nat):Int):=Qu L 256 (by omega)
  have e2:Int.fdiv (L:Int) 65536=((L/65536:Nat):Int):=Qu L 65536 (by omega)
  rw [e1,e2,PM (by omega) (by omega)]
  unfold VY
  by_cases a1:L<128
  ·rw [if_pos (by simp [-List.length_flatten]; omega),if_pos a1]
   simp only [gD,Option.bind_some]
   simp [jt,b2s,jS,hL]
   have:2+L≤9223372036854775807:=by omega
   simp [this]
  ·by_cases a2:L<256
   ·rw [if_neg (by simp [-List.length_flatten]; omega),if_pos (by simp [-List.length_flatten]; omega),if_neg a1,if_pos a2]
    simp only [gD,Option.bind_some]
    simp [jt,b2s,jS,hL]
    have:3+L≤9223372036854775807:=by omega
    simp [this]
   ·by_cases a3:L<65536
    ·rw [if_neg (by simp [-List.length_flatten]; omega),if_neg (by simp [-List.length_flatten]; omega),if_pos (by simp [-List.length_flatten]; omega),if_neg a1,if_neg a2,if_pos a3]
     simp only [gD,Option.bind_some]
     simp only [jt,b2s,List.map_append,List.map_cons,List.map_nil,jS,List.length_append,List.length_cons,List.length_nil,hL]
     have:0+1+(0+1+1+1)+L≤9223372036854775807:=by omega
     simp [this]
     exact⟨jS t,jS (L/256),jS L⟩
    ·rw [if_neg (by simp [-List.length_flatten]; omega),if_neg (by simp [-List.length_flatten]; omega),if_neg (by simp [-List.length_flatten]; omega),if_neg a1,if_neg a2,if_neg a3]
     simp only [gD,Option.bind_some]
     simp only [jt,b2s,List.map_append,List.map_cons,List.map_nil,jS,List.length_append,List.length_cons,List.length_nil,hL]
     have:0+1+(0+1+1+1+1)+L≤9223372036854775807:=by omega
     simp [this]
     exact⟨jS t,jS (L/65536),jS (L/256),jS L⟩
 ·rw [if_neg hc,if_neg hc]; rfl
theorem JS {n:Nat} (cs:List Bs):∀(k:Nat) (pre suf:List Bs),cs=pre++suf→suf.length<k→cs.length≤1000000000000→cs.flatten.length≤1000000000000 →
  xh n cs k pre.flatten (pre.length:Int)=some cs.flatten
 |0,_,_,_,h,_,_=>by omega
 | k+1,pre,[],hp,hk,hl,ht=>by
  simp at hp; subst hp
  rw [xh,if_neg (by simp [-List.length_flatten])]
 | k+1,pre,c::suf,hp,hk,hl,ht=>by
  have hlen:cs.length=pre.length+(suf.length+1):=by rw [hp]; simp [-List.length_flatten]
  have hfl:cs.flatten.length=pre.flatten.length+(c.length+suf.flatten.length):=by rw [hp,List.flatten_append,List.length_append,List.flatten_cons,List.length_append]
  have hx:zX cs (pre.length:Int)=some c:=by
   rw [ye (by omega)]; congr 1; simp [hp]
  rw [xh,if_pos (by simp [-List.length_flatten]; omega),hx]
  simp only [Option.bind_some]
  rw [yC (by omega),w1 (by omega)]
  simp only [Option.bind_some]
  have ih:=JS (n:=n) cs k (pre ++ [c]) suf (by rw [hp]; simp) (by simp at hk; omega) hl ht
  simp only [List.flatten_append,List.flatten_cons,List.flatten_nil,List.append_nil,List.length_append,List.length_cons,List.length_nil,Nat.zero_add]at ih
  exact ih
theorem Q0 {n:Nat} {t:Nat} {cs:List Bs} (h1:t≤255) (h2:t%32≠31) (hm:cs.flatten.length≤1000000000000) (hn:cs.length<n) (hl:cs.length≤1000000000000):
  wt n (t:Int) cs=some (tWrap t cs.flatten):=by
 unfold wt tWrap
 have h31:(Int.tmod (t:Int) 32==31)=false:=by
  rw [show Int.tmod (t:Int) 32=((t%32:Nat):Int)from rfl]; simp; omega
 rw [if_neg (by simp [-List.length_flatten]),if_neg (by simp [-List.length_flatten]; omega),h31]
 simp only [Option.bind_some,Bool.false_eq_true,if_false]
 have:=JS (n:=n) cs n [] cs rfl hn hl hm
 simp only [List.flatten_nil,List.length_nil]at this
 rw [show((0:Nat):Int)=0 from rfl]at this
 rw [this]
 simp only [Option.bind_some]
 by_cases hc:cs.flatten.length≤131072
 ·rw [if_neg (by simp [-List.length_flatten]; omega),if_pos hc]
  generalize hL:cs.flatten.length=L at *
  have e1:Int.fdiv (L:Int) 256=((L/256:Nat):Int):=Qu L 256 (by omega)
  have e2:Int.fdiv (L:Int) 65536=((L/65536:Nat):Int):=Qu L 65536 (by omega)
  rw [e1,e2]
  unfold VY
  by_cases a3:L<65536
  ·rw [if_neg (by simp [-List.length_flatten]; omega)]
   by_cases a2:L<256
   ·rw [if_neg (by simp [-List.length_flatten]; omega)]
    by_cases a1:L<128
    ·rw [if_neg (by simp [-List.length_flatten]; omega),if_pos a1]
     simp only [Option.bind_some]
     rw [yC (by simp [b2s,-List.length_flatten]; omega)]
     simp [b2s,jS]
    ·rw [if_pos (by simp [-List.length_flatten]; omega),if_neg a1,if_pos a2]
     simp only [Option.bind_some]
     rw [yC (by simp [b2s,-List.length_flatten]; omega)]
     simp [b2s,jS]
   ·rw [if_pos (by simp [-List.length_flatten]; omega),if_neg (by omega),if_neg a2,if_pos a3]
    simp only [Option.bind_some]
    rw [yC (by simp [b2s,-List.length_flatten]; omega)]
    simp only [b2s,List.map_cons,List.map_nil,jS]; rfl
  ·rw [if_pos (by simp [-List.length_flatten]; omega),if_neg (by omega),if_neg (by omega),if_neg a3]
   simp only [Option.bind_some]
   rw [yC (by simp [b2s,-List.length_flatten]; omega)]
   simp only [b2s,List.map_cons,List.map_nil,jS]; rfl
 ·rw [if_pos (by simp [-List.length_flatten]; omega),if_neg hc]
theorem gM {n:Nat} (h:n<256):(o8 n).toNat=n:=by unfold o8; simp; omega
theorem VG {t:Nat} {c rest:Bs} (h1:t≤255) (h2:t%32≠31) (hc:c.length≤131072):xn ((tWrap t c).1++rest)=(⟨t,c,(tWrap t c).1⟩,rest,0):=by
 unfold tWrap
 rw [if_pos hc]
 simp only
 generalize hL:c.length=L at *
 have ht:(o8 t).toNat=t:=gM (by omega)
 unfold VY
 by_cases a1:L<128
 ·rw [if_pos a1]
  have hb:(o8 L).toNat=L:=gM (by omega)
  simp only [List.cons_append,List.nil_append,xn,ht,hb,h2,if_false]
  rw [if_neg (by omega),if_pos a1,if_neg (by simp; omega)]
  simp [←hL]
 ·rw [if_neg a1]
  by_cases a2:L<256
  ·rw [if_pos a2]
   have hb:(o8 L).toNat=L:=gM (by omega)
   have hn:num ((o8 L::(c++rest)).take 1)=L:=by simp [num,hb]
   simp only [List.cons_append,List.nil_append,xn,ht,h2,if_false]
   rw [if_neg (by decide),if_neg (by decide),show(129:UInt8).toNat-128=1 from rfl,if_neg (by simp),hn,if_neg (by simp [least]; omega),if_neg (by simp; omega)]
   simp [←hL,show 1+c.length=c.length+1 by omega]
  ·rw [if_neg a2]
   by_cases a3:L<65536
   ·rw [if_pos a3]
    have hb:(o8 (L/256)).toNat=L/256:=gM (by omega)
    have hb2:(o8 L).toNat=L%256:=by unfold o8; simp
    have hn:num ((o8 (L/256)::o8 L::(c++rest)).take 2)=L:=by simp [num,hb,hb2]; omega
    simp only [List.cons_append,List.nil_append,xn,ht,h2,if_false]
    rw [if_neg (by decide),if_neg (by decide),show(130:UInt8).toNat-128=2 from rfl,if_neg (by simp),hn,if_neg (by simp [least]; omega),if_neg (by simp; omega)]
    simp [←hL,show 2+c.length=c.length+1+1 by omega]
   ·rw [if_neg a3]
    have hb0:(o8 (L/65536)).toNat=L/65536:=gM (by omega)
    have hb:(o8 (L/256)).toNat=L/256%256:=by unfold o8; simp
    have hb2:(o8 L).toNat=L%256:=by unfold o8; simp
    have hn:num ((o8 (L/65536)::o8 (L/256)::o8 L::(c++rest)).take 3)=L:=by simp [num,hb0,hb,hb2]; omega
    simp only [List.cons_append,List.nil_append,xn,ht,h2,if_false]
    rw [if_neg (by decide),if_neg (by decide),show(131:UInt8).toNat-128=3 from rfl,if_neg (by simp),hn,if_neg (by simp [least]; omega),if_neg (by simp; omega)]
    simp [←hL,show 3+c.length=c.length+1+1+1 by omega]
def elm (p:Nat×Bs):zc:=⟨p.1,p.2,(tWrap p.1 p.2).1⟩
def POk (p:Nat×Bs):Prop:=p.1≤255∧p.1%32≠31∧p.2.length≤131072
def yh (l:List (Nat×Bs)):Bs:=(l.map fun p=>(tWrap p.1 p.2).1).flatten
theorem Ps (t:Nat) {c:Bs} (hc:c.length≤131072):2≤(tWrap t c).1.length:=by
 unfold tWrap; rw [if_pos hc]; have:=UQ t c.length; simp; omega
theorem XQ:∀(l:List (Nat×Bs)) (k:Nat) (acc:List zc),(∀p∈l,POk p)→(yh l).length<k→km k (yh l) acc=(acc++l.map elm,0)
 | [],0,acc,_,h=>by omega
 | [],k+1,acc,_,_=>by simp [yh,km]
 |p::r,0,acc,_,h=>by omega
 | p::r,k+1,acc,hp,h=>by
  obtain⟨h1,h2,h3⟩:=hp p (by simp)
  have hw:yh (p::r)=(tWrap p.1 p.2).1++yh r:=by simp [yh]
  have hne:=Ps p.1 h3
  rw [hw]at h ⊢
  rw [km,if_neg (by intro h'; have:=congrArg List.length h'; simp at this; simp [this.1]at hne),VG h1 h2 h3]
  rw [if_neg (by simp)]
  rw [XQ r k _ (fun q hq=>hp q (by simp [hq])) (by simp at h; omega)]
  simp [elm]
theorem ue {l:List (Nat×Bs)} (h:∀p∈l,POk p):tList (yh l)=(l.map elm,0):=by
 unfold tList; rw [XQ l _ [] h (by omega)]; rfl
theorem Yg {t:Nat} {c:Bs} (h1:t≤255) (h2:t%32≠31) (hc:c.length≤131072):vG (tWrap t c).1=(⟨t,c,(tWrap t c).1⟩,0):=by
 have:=VG (rest:= []) h1 h2 hc
 rw [List.append_nil]at this
 unfold vG
 rw [this]; simp
theorem Z5 {α:Type} {l:List α} {x:α}:lsl (x::l) 1 ((x::l).length:Nat)=some l:=by
 unfold lsl
 rw [if_pos (by simp; omega)]
 simp
def splitB (c:UInt8):Bs→List Bs
 | []=> [[]]
 | x::r=>if x=c then []::splitB c r else match splitB c r with
  |p::ps=>(x::p)::ps
  | []=> [[x]]
theorem XT (c:UInt8) (s:Bs):splitB c s≠ []:=by
 cases s with
 |nil=>simp [splitB]
 | cons x r=>
  simp only [splitB]; split
  ·simp
  ·split<;>simp
theorem Kw (c:UInt8) (s:Bs):(splitB c s).length=s.count c+1:=by
 induction s with
 |nil=>rfl
 | cons x r ih=>
  simp only [splitB]
  by_cases h:x=c
  ·subst h; rw [if_pos rfl]; simp [ih]
  ·rw [if_neg h,List.count_cons_of_ne h]
   split
   ·rename_i p ps hp; rw [hp]at ih; simpa using ih
   ·rename_i hp; exact absurd hp (XT c r)
theorem Zs {c:UInt8} {p:Bs} (hp:c∉p):splitB c p= [p]∧∀r,splitB c (p++c::r)=p::splitB c r:=by
 induction p with
 |nil=>exact⟨rfl,fun r=>by simp [splitB]⟩
 | cons x q ih=>
  simp only [List.mem_cons,not_or]at hp
  obtain⟨h1,h2⟩:=ih hp.2
  refine⟨?_,fun r=> ?_⟩
  ·simp only [splitB]; rw [if_neg (Ne.symm hp.1),h1]
  ·simp only [List.cons_append,splitB]; rw [if_neg (Ne.symm hp.1),h2 r]
theorem QG {c x:UInt8} {p r:Bs} (hp:c∉p) (hx:x≠c):∃q ps,splitB c (p++x::r)=(p++x::q)::ps:=by
 induction p with
 | nil=>
  simp only [List.nil_append,splitB]; rw [if_neg hx]
  split
  ·exact⟨_,_,rfl⟩
  ·exact⟨[],[],rfl⟩
 | cons y q ih=>
  simp only [List.mem_cons,not_or]at hp
  obtain⟨q',ps,h⟩:=ih hp.2
  simp only [List.cons_append,splitB]; rw [if_neg (Ne.symm hp.1),h]
  exact⟨q',ps,rfl⟩
theorem UM (c:UInt8):∀s:Bs,(Lib.index s [c]= -1∧c∉s)∨∃p r,s=p++c::r∧Lib.index s [c]=(p.length:Int)∧c∉p
 | []=> .inl ⟨rfl,by simp⟩
 | x ::l=>by
  unfold Lib.index
  by_cases h:x=c
  ·subst h; exact .inr ⟨[],l,rfl,by simp [List.isPrefixOf],by simp⟩
  ·have hpre:List.isPrefixOf [c] (x::l)=false:=by simp [List.isPrefixOf]; exact fun h'=>absurd h'.symm h
   rw [hpre]
   rcases UM c l with⟨h1,h2⟩|⟨p,r,h1,h2,h3⟩
   ·refine .inl ⟨by simp [h1],?_⟩
    simp only [List.mem_cons,not_or]; exact⟨Ne.symm h,h2⟩
   ·refine .inr ⟨x::p,r,by rw [h1]; rfl,?_,?_⟩
    ·rw [h2]
     have:((p.length:Int)== -1)=false:=by simp
     simp [this]
    ·simp only [List.mem_cons,not_or]; exact⟨Ne.symm h,h3⟩
theorem BJ {α:Type} {l:List α} {x y:α} {r:List α} {i:Nat} (h:i=l.length):YN (l++y::r) (i*1) x=some (l++x::r):=by
 subst h
 unfold YN
 rw [Nat.mul_one,if_pos (by simp)]
 simp
theorem WI {n:Nat} {c:UInt8} {s:Bs} (hs:s.length≤1000000000) (m:Nat) (hm:m=s.count c+1):∀(k i:Nat) (v:Bs) (done:List Bs),done.length=i→i+v.count c+1=m→v.length≤s.length→v.count c<k →
  ∃w done2,wg n s (m:Int) [c] 0 m k v (i:Int) (done++List.replicate (m-i) [])=some (w,((m-1:Nat):Int),done2++List.replicate 1 [])∧done2.length=m-1∧done++splitB c v=done2 ++ [w]
 |0,_,_,_,_,_,_,h=>by omega
 | k + 1,i,v,done,hd,hi,hv,hk=>by
  have hcs:s.count c≤s.length:=List.count_le_length
  rw [wg]
  have e1:IntKind.wrap .i64 ((s.length:Int)+1)=((s.length+1:Nat):Int):=by rw [xT (by omega)]; omega
  rw [e1]
  have e2:(if(((s.length+1:Nat):Int))<(m:Int)then((s.length+1:Nat):Int)else(m:Int))=(m:Int):=by
   rw [if_neg (by omega)]
  rw [e2,xT (x:=(m:Int)-1) (by omega)]
  by_cases hc:i<m-1
  ·rw [if_pos (by simp; omega)]
   have hidx:Z3 n v [c]=some (Lib.index v [c]):=by unfold Z3; rw [if_pos (by omega)]
   rw [hidx]
   simp only [Option.bind_some]
   rcases UM c v with⟨h1,h2⟩|⟨p,r,h1,h2,h3⟩
   ·have:v.count c=0:=List.count_eq_zero.2 h2
    omega
   ·have hvc:v.count c=r.count c+1:=by rw [h1,List.count_append,List.count_eq_zero.2 h3]; simp
    have hvl:v.length=p.length+1+r.length:=by rw [h1]; simp; omega
    rw [h2,if_neg (by simp),xT (x:=(p.length:Int)+0) (by omega),Int.add_zero]
    have s1:ssl v 0 (p.length:Int)=some p:=by
     rw [show(0:Int)=((0:Nat):Int)from rfl,jc (by omega) (by omega),h1]; simp
    have s2:ssl v (IntKind.wrap .i64 ((p.length:Int)+(([c]:Bs).length:Int))) (v.length:Int)=some r:=by
     rw [show(([c]:Bs).length:Int)=1 from rfl,w1 (by omega),jc (by omega) (by omega),List.take_length,h1,show p.length+1=(p ++ [c]).length by simp,show p++c::r=(p ++ [c])++r by simp,List.drop_left]
    have s3:qZ m (i:Int)=some i:=by unfold qZ; rw [if_pos (by omega)]; simp
    have hrep:List.replicate (m-i) ([]:Bs)= []::List.replicate (m-(i+1)) []:=by
     rw [show m-i=(m-(i+1))+1 by omega,List.replicate_succ]
    rw [s1,s3,s2,hrep]
    simp only [Option.bind_some]
    rw [BJ hd.symm,w1 (by omega)]
    simp only [Option.bind_some]
    have ih:=WI (n:=n) hs m hm k (i+1) r (done ++ [p]) (by simp [hd]) (by omega) (by omega) (by omega)
    obtain⟨w,d2,g1,g2,g3⟩:=ih
    refine⟨w,d2,?_,g2,?_⟩
    ·rw [←g1]; simp
    ·rw [←g3,h1,(Zs h3).2 r]; simp
  ·rw [if_neg (by simp; omega)]
   have hi':i=m-1:=by omega
   have h0:v.count c=0:=by omega
   have hn:c∉v:=List.count_eq_zero.1 h0
   refine⟨v,done,?_,by omega,by rw [(Zs hn).1]⟩
   rw [hi',show m-(m-1)=1 by omega]
theorem strings_Split {n:Nat} {c:UInt8} {s:Bs} (hs:s.length≤1000000000) (hn:s.length+2≤n):j5 n s [c]=some (splitB c s):=by
 unfold j5 jU
 have hcs:s.count c≤s.length:=List.count_le_length
 rw [if_neg (by decide),if_neg (by simp),if_pos (by decide)]
 have hct:Xv n s [c]=some ((s.count c:Nat):Int):=rfl
 rw [hct]
 simp only [Option.bind_some]
 have e0:IntKind.wrap .i64 (((s.count c:Nat):Int)+1)=((s.count c+1:Nat):Int):=by rw [xT (by omega)]; omega
 have e1:IntKind.wrap .i64 ((s.length:Int)+1)=((s.length+1:Nat):Int):=by rw [xT (by omega)]; omega
 rw [e0,e1]
 generalize hm:s.count c+1=m at *
 have e2:(if(((s.length+1:Nat):Int))<(m:Int)then((s.length+1:Nat):Int)else(m:Int))=(m:Int):=by
  rw [if_neg (by omega)]
 rw [e2]
 have hmk:UR 16 (m:Int) (m:Int)=some m:=by unfold UR; rw [if_pos (by omega)]; simp
 rw [hmk]
 simp only [Option.bind_some]
 obtain⟨w,d2,g1,g2,g3⟩:=WI (n:=n) (c:=c) hs m hm.symm n 0 s [] rfl (by omega) (Nat.le_refl _) (by omega)
 rw [show((0:Nat):Int)=0 from rfl,List.nil_append,Nat.sub_zero]at g1
 rw [List.nil_append]at g3
 rw [g1]
 simp only [Option.bind_some]
 have s3:qZ m (((m-1:Nat):Int))=some (m-1):=by unfold qZ; rw [if_pos (by omega)]; simp
 rw [s3]
 simp only [Option.bind_some]
 rw [show List.replicate 1 ([]:Bs)= [[]]from rfl,BJ g2.symm]
 simp only [Option.bind_some]
 have e3:IntKind.wrap .i64 (((m-1:Nat):Int)+1)=(m:Int):=by rw [xT (by omega)]; omega
 rw [e3]
 have e4:osl m (m:Int)=some m:=by unfold osl; rw [if_pos (by omega)]; simp
 rw [e4]
 simp only [Option.bind_some]
 have e5:Xq m (d2 ++ [w])=some (d2 ++ [w]):=by
  unfold Xq; rw [if_pos (by simp; omega),List.take_of_length_le (by simp; omega)]
 rw [e5,g3]; rfl
def de (c:UInt8):Bool:=decide (48≤c.toNat)&&decide (c.toNat≤57)
def dval (p:Bs):Nat:=p.foldl (fun n c=>10*n+(c.toNat-48)) 0
def j9 (p:Bs):Bool:=decide (p≠ [])&&decide (p.length≤10) && !(decide (1<p.length)&&decide (p.head? =some 48))&&p.all de&&decide (dval p≤2147483647)
def dK (l:List Nat):Bool:=match l with
 |a::b::_=>(decide (a≤1)&&decide (b≤39))||decide (a=2)
 |_=>false
def vY (s:Bs):Option (List Nat):=
 if 2≤(splitB 46 s).length∧(splitB 46 s).length≤12∧(splitB 46 s).all j9=true∧dK ((splitB 46 s).map dval)=true then some ((splitB 46 s).map dval)else none
def yd (l:List Nat):List Int:=l.map fun n:Nat=>(n:Int)
theorem bd (p:Bs):j9 p=true↔p≠ []∧p.length≤10∧¬(1<p.length∧p.head? =some 48)∧p.all de=true∧dval p≤2147483647:=by
 unfold j9
 simp only [Bool.and_eq_true,decide_eq_true_eq,Bool.not_eq_true',Bool.and_eq_false_imp,decide_eq_false_iff_not,and_assoc,not_and]
theorem pk {p:Bs} (h:¬(p≠ []∧p.length≤10∧¬(1<p.length∧p.head? =some 48)∧p.all de=true∧dval p≤2147483647)):j9 p=false:=by
 rw [Bool.eq_false_iff]; exact fun h'=>h ((bd p).1 h')
theorem V4 {c:UInt8} (hc:de c=true) {v:Nat} (hv:v<100000000000):IntKind.wrap .i64 (IntKind.wrap .i64 ((10:Int)*(v:Int))+IntKind.wrap .i64 (IntKind.wrap .u8 ((c.toNat:Int)-48)))=((10*v+(c.toNat-48):Nat):Int):=by
 simp only [de,Bool.and_eq_true,decide_eq_true_eq]at hc
 rw [wr8 (by omega) (by omega),xT (x:=(10:Int)*(v:Int)) (by omega),xT (x:=(c.toNat:Int)-48) (by omega),xT (by omega)]
 omega
theorem Vi {n:Nat} (p:Bs) (hl:p.length≤10):∀(k i v:Nat),i≤p.length→p.length-i<k→v<10^i→(p.take i).all de=true →
  jI n p k (v:Int) (i:Int)=some (if(p.drop i).all de=true then .nxt (((p.drop i).foldl (fun n c=>10*n+(c.toNat-48)) v:Nat):Int)else .ret (-1))
 |0,i,v,_,h,_,_=>by omega
 | k + 1,i,v,hi,hk,hv,hd=>by
  rw [jI]
  by_cases hc:i<p.length
  ·rw [if_pos (by simp; omega),jj hc]
   simp only [Option.bind_some]
   have hdr:p.drop i=p[i]::p.drop (i+1):=List.drop_eq_getElem_cons hc
   have hv10:v<10000000000:=Nat.lt_of_lt_of_le hv (Nat.le_trans (Nat.pow_le_pow_right (by omega) (show i≤10 by omega)) (by decide))
   rw [hdr,List.all_cons,List.foldl_cons]
   by_cases hdg:de p[i]=true
   ·have h2:=hdg
    simp only [de,Bool.and_eq_true,decide_eq_true_eq]at h2
    rw [if_neg (by simp; omega)]
    simp only [Option.bind_some]
    rw [if_neg (by simp; omega),V4 hdg (by omega),w1 (by omega),hdg,Bool.true_and]
    refine Vi p hl k (i+1) _ (by omega) (by omega) ?_ ?_
    ·rw [Nat.pow_succ]; omega
    ·rw [List.take_succ_eq_append_getElem hc,List.all_append,hd]; simp [hdg]
   ·have h2:p[i].toNat<48∨57<p[i].toNat:=by
     simp only [de,Bool.and_eq_true,decide_eq_true_eq]at hdg; omega
    have:(if(decide (((p[i]).toNat:Int)<48))=true then some true else some (decide (((p[i]).toNat:Int)>57)))=some true:=by
     by_cases h:p[i].toNat<48
     ·rw [if_pos (by simp; omega)]
     ·rw [if_neg (by simp; omega)]; simp; omega
    rw [this]
    simp only [Bool.not_eq_true]at hdg
    simp [hdg]
  ·have:i=p.length:=by omega
   subst this
   rw [if_neg (by simp)]
   simp
theorem Pz {n:Nat} {p:Bs} (hn:20≤n) (hp:p.length≤1000000000):dn n p=some (if j9 p=true then((dval p:Nat):Int)else -1):=by
 unfold dn
 match p,hp with
 | [],_=>simp [j9]
 | c :: r,hp=>
  rw [if_neg (by simp)]
  by_cases h10:(c::r).length≤10
  ·rw [if_neg (by simp; simp at h10; omega)]
   have h0:xD (c::r) 0=some (c.toNat:Int):=by simp [xD]
   rw [h0]
   simp only [Option.bind_some]
   by_cases hz:c=48∧1<(c::r).length
   ·have:j9 (c::r)=false:=pk fun h=>h.2.2.1 ⟨hz.2,by rw [hz.1]; rfl⟩
    rw [if_pos (by rw [hz.1]; rfl),this]
    have:=hz.2
    simp at this
    have h3:decide (((c::r).length:Int)>1)=true:=by simp; omega
    rw [h3]; rfl
   ·have hb:(if((c.toNat:Int)==48)=true then some (decide (((c::r).length:Int)>1))else some false)=some false:=by
     by_cases h:c=48
     ·rw [if_pos (by rw [h]; rfl)]
      have:¬1<(c::r).length:=fun h'=>hz ⟨h,h'⟩
      have h3:decide (((c::r).length:Int)>1)=false:=by rw [decide_eq_false_iff_not]; omega
      rw [h3]
     ·rw [if_neg]
      simp
      intro h'
      have:(48:UInt8).toNat=48:=rfl
      exact h (UInt8.toNat_inj.1 (by omega))
    rw [hb]
    simp only [Option.bind_some,Bool.false_eq_true,if_false]
    have:=Vi (n:=n) (c::r) h10 n 0 0 (by omega) (by omega) (by simp) (by simp)
    rw [show((0:Nat):Int)=0 from rfl,List.drop_zero]at this
    rw [this]
    by_cases ha:(c::r).all de=true
    ·rw [if_pos ha]
     simp only [ym]
     by_cases hm:dval (c::r)≤2147483647
     ·have hok:j9 (c::r)=true:=(bd _).2 ⟨by simp,h10,fun h=>hz ⟨by simpa using h.2,h.1⟩,ha,hm⟩
      rw [hok,if_pos rfl]
      rw [if_neg]
      ·rfl
      ·show ¬decide (((dval (c::r):Nat):Int)>2147483647)=true
       simp; omega
     ·have hok:j9 (c::r)=false:=pk fun h=>hm h.2.2.2.2
      rw [hok,if_pos]
      ·rfl
      ·show decide (((dval (c::r):Nat):Int)>2147483647)=true
       simp; omega
    ·have hok:j9 (c::r)=false:=pk fun h=>ha h.2.2.2.1
     rw [if_neg ha,hok]; rfl
  ·have hok:j9 (c::r)=false:=pk fun h=>h10 h.2.1
   rw [if_pos (by simp; simp at h10; omega),hok]; rfl
theorem yD (l:List Nat):(yd l).length=l.length:=by simp [yd]
theorem Ww {n:Nat} (hn:20≤n) (ps:List Bs) (hp:∀p∈ps,p.length≤1000000000) (hl:ps.length≤1000000000):∀(k:Nat) (pre suf:List Bs),ps=pre++suf→suf.length<k→pre.all j9=true →
  uK n ps k (yd (pre.map dval)) (pre.length:Int)=some (if suf.all j9=true then .nxt (yd (ps.map dval))else .ret none)
 |0,_,_,_,h,_=>by omega
 | k+1,pre,[],hps,hk,ha=>by
  simp at hps; subst hps
  rw [uK,if_neg (by simp)]; simp
 | k+1,pre,p::suf,hps,hk,ha=>by
  have hlen:ps.length=pre.length+(suf.length+1):=by rw [hps]; simp
  have hx:zX ps (pre.length:Int)=some p:=by
   rw [ye (by omega)]; congr 1; simp [hps]
  rw [uK,if_pos (by simp; omega),hx]
  simp only [Option.bind_some]
  rw [Pz hn (hp p (by rw [hps]; simp))]
  simp only [Option.bind_some]
  by_cases ho:j9 p=true
  ·rw [if_pos ho,if_neg (by simp),wq (by simp [yD]; omega)]
   simp only [Option.bind_some]
   have e:(p::suf).all j9=suf.all j9:=by simp [ho]
   rw [w1 (by omega),e]
   have ih:=Ww hn ps hp hl k (pre ++ [p]) suf (by rw [hps]; simp) (by simp at hk; omega) (by simp [ha,ho])
   rw [←ih]
   simp [yd]
  ·have e:(p::suf).all j9=false:=by simp [ho]
   rw [if_neg ho,e]
   simp
theorem Kz {c:UInt8} {s p:Bs} (h:p∈splitB c s):p.length≤s.length:=by
 induction s generalizing p with
 |nil=>simp [splitB]at h; subst h; simp
 | cons x r ih=>
  simp only [splitB]at h
  split at h
  ·rcases List.mem_cons.1 h with h|h
   ·subst h; simp
   ·have:=ih h; simp; omega
  ·split at h
   ·rename_i q ps hq
    rcases List.mem_cons.1 h with h|h
    ·subst h
     have:=ih (p:=q) (by rw [hq]; simp)
     simp; omega
    ·have:=ih (p:=p) (by rw [hq]; simp [h])
     simp; omega
   ·simp at h; subst h; simp
theorem JO {n:Nat} {s:Bs} (hs:s.length≤100000000) (hn:s.length+20≤n):be n s=some ((vY s).map yd):=by
 unfold be vY
 rw [strings_Split (by omega) (by omega)]
 simp only [Option.bind_some]
 have hlen:(splitB 46 s).length≤s.length+1:=by
  rw [Kw]; have:= @List.count_le_length _ _ (46:UInt8) s; omega
 by_cases h2:2≤(splitB 46 s).length∧(splitB 46 s).length≤12
 ·have :(if(decide (((splitB 46 s).length:Int)<2))=true then some true else some (decide (((splitB 46 s).length:Int)>12)))=some false:=by
   rw [if_neg (by simp; omega),decide_eq_false_iff_not.2 (by omega)]
  rw [this]
  simp only [Option.bind_some,Bool.false_eq_true,if_false]
  have hl:=Ww (n:=n) (by omega) (splitB 46 s) (fun p hp=>by have:=Kz hp; omega) (by omega) n [] (splitB 46 s) rfl (by omega) rfl
  rw [show(yd (List.map dval ([]:List Bs)))= []from rfl,show((([]:List Bs).length:Nat):Int)=0 from rfl]at hl
  rw [hl]
  by_cases ha:(splitB 46 s).all j9=true
  ·rw [if_pos ha]
   simp only [ym]
   match hd:(splitB 46 s).map dval with
   | []=>have:=congrArg List.length hd; rw [List.length_map,List.length_nil]at this; omega
   | [x]=>have:=congrArg List.length hd; rw [List.length_map,List.length_singleton]at this; omega
   | a ::b::l=>
    have h0:zX (yd (a::b::l)) 0=some (a:Int):=by simp [zX,yd]
    have h1:zX (yd (a::b::l)) 1=some (b:Int):=by simp [zX,yd]
    rw [h0,h1]
    simp only [Option.bind_some]
    have hr:gx n (a:Int) (b:Int)=some (dK (a::b::l)):=by
     unfold gx dK
     have e2:((a:Int)==2)=decide (a=2):=by
      by_cases h:a=2
      ·simp [h]
      ·simp [h]; omega
     rw [e2]
     by_cases c1:a≤1
     ·by_cases c2:b≤39
      ·rw [if_pos (by simp; omega),if_pos (by simp; omega)]; simp [c1,c2]
      ·rw [if_pos (by simp; omega),if_neg (by simp; omega)]; simp [c2]
     ·rw [if_neg (by simp; omega)]; simp [c1]
    rw [hr]
    simp only [Option.bind_some]
    cases hro:dK (a::b::l)with
    |true=>simp [h2,ha,lne,yd]
    |false=>simp
  ·rw [if_neg ha,if_neg (fun h=>ha h.2.2.1)]; rfl
 ·have:(if(decide (((splitB 46 s).length:Int)<2))=true then some true else some (decide (((splitB 46 s).length:Int)>12)))=some true:=by
   by_cases h:(splitB 46 s).length<2
   ·rw [if_pos (by simp; omega)]
   ·rw [if_neg (by simp; omega),decide_eq_true (by omega)]
  rw [this,if_neg (fun h=>h2 ⟨h.1,h.2.1⟩)]; rfl
theorem GH {n:Nat} {s:Bs} (hs:s.length≤100000000) (hn:s.length+20≤n):jC n s=some (vY s).isSome:=by
 unfold jC
 rw [JO hs hn]
 cases h:vY s with
 |none=>rfl
 | some l=>
  have:l≠ []:=by
   unfold vY at h
   split at h
   ·rename_i hc; injection h with h; subst h
    intro h'
    have:=congrArg List.length h'
    rw [List.length_map,List.length_nil]at this
    omega
   ·cases h
  cases l with
  |nil=>exact absurd rfl this
  |cons a r=>rfl
theorem JW {n:Nat} (p:Bs) (hl:p.length≤10) (hd:p.all de=true):∀(k i v:Nat),i≤p.length→p.length-i<k→v<10^i →
  xd n p k (v:Int) (i:Int)=some (((p.drop i).foldl (fun n c=>10*n+(c.toNat-48)) v:Nat):Int)
 |0,i,v,_,h,_=>by omega
 | k+1,i,v,hi,hk,hv=>by
  rw [xd]
  by_cases hc:i<p.length
  ·rw [if_pos (by simp; omega),jj hc]
   simp only [Option.bind_some]
   have hdr:p.drop i=p[i]::p.drop (i+1):=List.drop_eq_getElem_cons hc
   have hv10:v<10000000000:=Nat.lt_of_lt_of_le hv (Nat.le_trans (Nat.pow_le_pow_right (by omega) (show i≤10 by omega)) (by decide))
   have hdg:de p[i]=true:=List.all_eq_true.1 hd _ (List.getElem_mem hc)
   have h2:=hdg
   simp only [de,Bool.and_eq_true,decide_eq_true_eq]at h2
   rw [hdr,List.foldl_cons,V4 hdg (by omega),w1 (by omega)]
   refine JW p hl hd k (i+1) _ (by omega) (by omega) ?_
   rw [Nat.pow_succ]; omega
  ·have:i=p.length:=by omega
   subst this
   rw [if_neg (by simp)]
   simp
def U3 (out:List Nat):List Bs→Ctl (List Int×Bool) (List Int)
 | []=> .nxt (yd out)
 |p::ps=>if j9 p=true∧out.length≠12 then U3 (out ++ [dval p]) ps else .ret ([],false)
theorem Br (a b:Nat):((a:Int)==(b:Int))=decide (a=b):=by
 by_cases h:a=b
 ·subst h; simp
 ·simp [h]; omega
theorem P6 {c d:UInt8}:((c.toNat:Int)==(d.toNat:Int))=decide (c=d):=by
 rw [Br]
 by_cases h:c=d
 ·subst h; simp
 ·rw [decide_eq_false h,decide_eq_false]
  exact fun h'=>h (UInt8.toNat_inj.1 h')
theorem GX (p:Bs) (m:Nat):(if((List.length p:Int)==0)=true then(some true)else(if(decide ((List.length p:Int)>10))=true then(some true)else(if(decide ((List.length p:Int)>1))=true then((xD p 0).bind fun x578=>
  if(x578==48)=true then(some true)else(some ((m:Int)==12)))else(some ((m:Int)==12)))))=some (decide (p.length=0∨10<p.length∨(1<p.length∧p.head? =some 48)∨m=12)):=by
 rw [show(12:Int)=((12:Nat):Int)from rfl,Br]
 match p with
 | []=>simp
 | [c]=>simp
 | c ::d::r=>
  rw [if_neg (by simp; omega)]
  by_cases h10:10<(c::d::r).length
  ·rw [if_pos (by rw [decide_eq_true_eq]; omega),decide_eq_true (.inr (.inl h10))]
  ·have h0:xD (c::d::r) 0=some (c.toNat:Int):=by simp [xD]
   rw [if_neg (by rw [decide_eq_true_eq]; omega),if_pos (by simp; omega),h0]
   simp only [Option.bind_some]
   rw [show((c.toNat:Int)==48)=decide (c=48)from P6 (d:=48)]
   by_cases hc:c=48
   ·rw [if_pos (by simp [hc]),decide_eq_true (.inr (.inr (.inl ⟨by simp,by simp [hc]⟩)))]
   ·rw [if_neg (by simp [hc])]
    congr 1
    by_cases hm:m=12
    ·rw [decide_eq_true hm,decide_eq_true (.inr (.inr (.inr hm)))]
    ·rw [decide_eq_false hm,decide_eq_false]
     rintro(h|h|h|h)
     ·simp at h
     ·exact h10 h
     ·exact hc (by simpa using h.2)
     ·exact hm h
theorem WG {n:Nat} (hn:20≤n) (p:Bs) (out:List Nat) (rest:List Bs) (j:Int) (go:List Int→Int→Option (Ctl (List Int×Bool) (List Int))) (hd:p.all de=true) (ho:out.length≤100000000)
  (hnext:j9 p=true→go (yd (out ++ [dval p])) j=some (U3 (out ++ [dval p]) rest)):
  ym ((if((List.length p:Int)==0)=true then(some true)else(if(decide ((List.length p:Int)>10))=true then(some true)else(if(decide ((List.length p:Int)>1))=true then((xD p 0).bind fun x578=>
      if(x578==48)=true then(some true)else(some ((List.length (yd out):Int)==12)))else(some ((List.length (yd out):Int)==12))))).bind fun y580=>
     if y580=true then(some (.ret (([]:(List Int)),false)))else((xd n p n 0 0).bind fun y590=>
     if(decide (y590>2147483647))=true then(some (.ret (([]:(List Int)),false)))else((q7 8 (yd out) ([y590]:List Int)).bind fun x600=>
     some (.nxt (x600,j))))) (fun r=>some (.ret r)) (fun y567=>go y567.1 y567.2)=some (U3 out (p::rest)):=by
 rw [yD,GX,U3]
 simp only [Option.bind_some]
 by_cases hb:p.length=0∨10<p.length∨(1<p.length∧p.head? =some 48)∨out.length=12
 ·rw [decide_eq_true hb,if_pos rfl,if_neg]
  ·rfl
  ·intro h
   obtain⟨k1,k2,k3,k4,k5⟩:=(bd p).1 h.1
   rcases hb with h'|h'|h'|h'
   ·exact k1 (List.eq_nil_of_length_eq_zero h')
   ·omega
   ·exact k3 h'
   ·exact h.2 h'
 ·simp only [not_or]at hb
  obtain⟨b1,b2,b3,b4⟩:=hb
  rw [decide_eq_false (by simp only [not_or]; exact⟨b1,b2,b3,b4⟩),if_neg (by simp)]
  have hval:=JW (n:=n) p (by omega) hd n 0 0 (by omega) (by omega) (by simp)
  rw [show((0:Nat):Int)=0 from rfl,List.drop_zero]at hval
  rw [hval]
  simp only [Option.bind_some]
  by_cases hm:dval p≤2147483647
  ·have hok:j9 p=true:=(bd p).2 ⟨fun h=>b1 (by rw [h]; rfl),by omega,b3,hd,hm⟩
   rw [if_neg (by show ¬decide (((dval p:Nat):Int)>2147483647)=true; simp; omega),if_pos ⟨hok,b4⟩,wq (by simp [yD]; omega)]
   simp only [Option.bind_some,ym]
   have e:yd out ++ [((dval p:Nat):Int)]=yd (out ++ [dval p]):=by simp [yd]
   have h3:=hnext hok
   rw [←e]at h3
   exact h3
  ·rw [if_pos (by show decide (((dval p:Nat):Int)>2147483647)=true; simp; omega),if_neg (fun h=>hm ((bd p).1 h.1).2.2.2.2)]; rfl
theorem Vw {n:Nat} (hn:20≤n) (s:Bs) (hs:s.length≤100000000):∀(k at_ i:Nat) (out:List Nat),at_≤i→i≤s.length→s.length-i+1<k→((s.take i).drop at_).all de=true→out.length+(s.length-i)≤100000000 →
  yf n s k (yd out) (at_:Int) (i:Int)=some (U3 out (splitB 46 (s.drop at_)))
 |0,_,_,_,_,_,h,_,_=>by omega
 | k + 1,at_,i,out,ha,hi,hk,hd,ho=>by
  have hcur:s.drop at_=(s.take i).drop at_++s.drop i:=by
   conv=>lhs; rw [←List.take_append_drop i s]
   rw [List.drop_append_of_le_length (by simp; omega)]
  have hno:(46:UInt8)∉(s.take i).drop at_:=fun h=>by
   have:=List.all_eq_true.1 hd _ h
   exact absurd this (by decide)
  rw [yf,if_pos (by simp; omega)]
  by_cases hc:i<s.length
  ·have hdr:s.drop i=s[i]::s.drop (i+1):=List.drop_eq_getElem_cons hc
   rw [if_pos (by simp; omega),jj hc]
   simp only [Option.bind_some]
   by_cases h46:s[i]=46
   ·have e1:(((s[i]).toNat:Int) !=46)=false:=by rw [h46]; rfl
    rw [e1,if_neg (by simp),jc ha hi]
    have hsp:splitB 46 (s.drop at_)=(s.take i).drop at_::splitB 46 (s.drop (i+1)):=by
     rw [hcur,hdr,h46]; exact(Zs hno).2 _
    rw [hsp]
    have:=WG (n:=n) hn ((s.take i).drop at_) out (splitB 46 (s.drop (i+1))) ((i+1:Nat):Int) (fun o a=>yf n s k o a ((i+1:Nat):Int)) hd (by omega)
     (fun hok=>Vw hn s hs k (i+1) (i+1) (out ++ [dval ((s.take i).drop at_)]) (Nat.le_refl _) (by omega) (by omega) (by simp) (by simp; omega))
    rw [w1 (by omega)]
    exact this
   ·have e1:(((s[i]).toNat:Int) !=46)=true:=by
     have:(((s[i]).toNat:Int)==46)=decide (s[i]=46):=P6 (d:=46)
     simp only [bne,this]; simp [h46]
    rw [e1,if_pos rfl]
    by_cases hdg:de s[i]=true
    ·have h2:=hdg
     simp only [de,Bool.and_eq_true,decide_eq_true_eq]at h2
     rw [if_neg (by simp; omega)]
     simp only [Option.bind_some]
     rw [if_neg (by simp; omega),w1 (by omega)]
     simp only [ym]
     refine Vw hn s hs k at_ (i+1) out (by omega) (by omega) (by omega) ?_ (by omega)
     rw [List.take_succ_eq_append_getElem hc,List.drop_append_of_le_length (by simp; omega),List.all_append,hd]; simp [hdg]
    ·have h2:s[i].toNat<48∨57<s[i].toNat:=by
      simp only [de,Bool.and_eq_true,decide_eq_true_eq]at hdg; omega
     have e2:(if(decide (((s[i]).toNat:Int)<48))=true then some true else some (decide (((s[i]).toNat:Int)>57)))=some true:=by
      by_cases h:s[i].toNat<48
      ·rw [if_pos (by simp; omega)]
      ·rw [if_neg (by simp; omega)]; simp; omega
     rw [e2]
     obtain⟨q,ps,hq⟩:=QG (r:=s.drop (i+1)) hno h46
     rw [hcur,hdr,hq,U3,if_neg]
     ·rfl
     ·intro h
      have:=((bd _).1 h.1).2.2.2.1
      rw [List.all_append,List.all_cons]at this
      simp [hdg]at this
  ·have hie:i=s.length:=by omega
   rw [if_neg (by simp; omega)]
   simp only [Option.bind_some,Bool.false_eq_true,if_false]
   have hsp:splitB 46 (s.drop at_)=(s.take i).drop at_:: []:=by
    rw [hcur,hie,List.drop_length,List.append_nil]; exact(Zs (by rw [←hie]; exact hno)).1
   rw [hsp,jc ha hi,w1 (by omega)]
   refine WG (n:=n) hn ((s.take i).drop at_) out [] ((i+1:Nat):Int) (fun o a=>yf n s k o a ((i+1:Nat):Int)) hd (by omega) (fun hok=> ?_)
   match k,hk with
   | k+1,hk=>
    show yf n s (k+1) _ _ _=_
    rw [yf,if_neg (by simp; omega)]; rfl
theorem JL:∀(ps:List Bs) (out:List Nat),out.length≤12→U3 out ps=if ps.all j9=true∧out.length+ps.length≤12 then .nxt (yd (out++ps.map dval))else .ret ([],false)
 | [],out,h=>by rw [U3,if_pos ⟨rfl,by simpa using h⟩]; simp
 | p ::ps,out,h=>by
  rw [U3]
  by_cases hp:j9 p=true
  ·by_cases h12:out.length=12
   ·rw [if_neg (fun h'=>h'.2 h12),if_neg (fun h'=>by have:=h'.2; simp at this; omega)]
   ·rw [if_pos ⟨hp,h12⟩,JL ps _ (by simp; omega)]
    have e:((p::ps).all j9=true∧out.length+(p::ps).length≤12)↔(ps.all j9=true∧(out ++ [dval p]).length+ps.length≤12):=by
     rw [List.all_cons,hp,Bool.true_and]; simp; omega
    simp only [e]; simp
  ·rw [if_neg (fun h'=>hp h'.1),if_neg (fun h'=>hp (by have:=h'.1; rw [List.all_cons,Bool.and_eq_true]at this; exact this.1))]
theorem QW {n:Nat} {s:Bs} (hs:s.length≤100000000) (hn:s.length+20≤n):w9 n s=some (match vY s with|some l=>(yd l,true)|none=>([],false)):=by
 unfold w9 vY
 have h1:=Vw (n:=n) (by omega) s hs n 0 0 [] (by omega) (by omega) (by omega) (by simp) (by simp; omega)
 rw [show((0:Nat):Int)=0 from rfl,List.drop_zero,show yd []= []from rfl,JL _ _ (by simp)]at h1
 rw [h1]
 simp only [List.length_nil,Nat.zero_add,List.nil_append]
 by_cases ha:(splitB 46 s).all j9=true∧(splitB 46 s).length≤12
 ·rw [if_pos ha]
  simp only [ym,yD,List.length_map]
  by_cases h2:2≤(splitB 46 s).length
  ·rw [if_neg (by simp; omega)]
   match hd:(splitB 46 s).map dval with
   | []=>have:=congrArg List.length hd; rw [List.length_map,List.length_nil]at this; omega
   | [x]=>have:=congrArg List.length hd; rw [List.length_map,List.length_singleton]at this; omega
   | a ::b::l=>
    have k0:zX (yd (a::b::l)) 0=some (a:Int):=by simp [zX,yd]
    have k1:zX (yd (a::b::l)) 1=some (b:Int):=by simp [zX,yd]
    rw [k0,k1]
    simp only [Option.bind_some]
    have hr:(if(decide ((a:Int)>2))=true then some true else if(decide ((a:Int)<2))=true then some (decide ((b:Int)>39))else some false)=some (!dK (a::b::l)):=by
     show _=some (!(decide (a≤1)&&decide (b≤39)||decide (a=2)))
     by_cases c1:2<a
     ·rw [if_pos (by simp; omega),decide_eq_false (show ¬a≤1 by omega),decide_eq_false (show ¬a=2 by omega)]; rfl
     ·rw [if_neg (by simp; omega)]
      by_cases c2:a<2
      ·rw [if_pos (by simp; omega),decide_eq_true (show a≤1 by omega),decide_eq_false (show ¬a=2 by omega)]
       by_cases c3:b≤39
       ·rw [decide_eq_true c3,decide_eq_false (by omega)]; rfl
       ·rw [decide_eq_false c3,decide_eq_true (by omega)]; rfl
      ·rw [if_neg (by simp; omega),decide_eq_true (show a=2 by omega)]; simp
    rw [hr]
    simp only [Option.bind_some]
    cases hro:dK (a::b::l)with
    |true=>rw [if_neg (by simp),if_pos ⟨h2,ha.2,ha.1,rfl⟩]
    |false=>rw [if_pos (by simp),if_neg (fun h=>by have:=h.2.2.2; simp at this)]
  ·rw [if_pos (by simp; omega),if_neg (fun h=>h2 h.1)]; rfl
 ·rw [if_neg ha,if_neg (fun h=>ha ⟨h.2.2.1,h.2.1⟩)]; rfl
theorem Zn {n:Nat} {s:Bs} (hs:s.length≤100000000) (hn:s.length+20≤n):wf n s=some (vY s).isSome:=by
 unfold wf
 rw [QW hs hn]
 cases vY s<;>rfl
end Go.Abs
end
