/- The typed Lean form of WireAnchors gives true for every list of at most 9223372036854775807 numbers and every such list of anchors. -/
import Derived.Test.YtbggpcnbbhjiaaaGreatDoorLaw2
set_option linter.unusedVariables false
set_option linter.unusedSimpArgs false
set_option linter.unnecessarySimpa false
section
set_option maxRecDepth 100000
namespace Go.Abs
open Go Go.Proofs
def dg (v:Nat):Nat→List Nat
 |0=> []
 |g+1=>(v/128^g%128)::dg v g
def hi (v:Nat):Nat→List Nat
 |0=> []
 |g+1=>(v/128^(g+1)%128+128)::hi v g
def Grp (v g:Nat):Prop:=1≤g∧g≤5∧v/128^g=0∧∀j,1≤j→j<g→0<v/128^j
def grp (v:Nat):Nat:=if v<128 then 1 else if v<16384 then 2 else if v<2097152 then 3 else if v<268435456 then 4 else 5
theorem ZO {v:Nat} (h:v<34359738368):Grp v (grp v):=by
 have p1:(128:Nat)^1=128:=rfl
 have p2:(128:Nat)^2=16384:=rfl
 have p3:(128:Nat)^3=2097152:=rfl
 have p4:(128:Nat)^4=268435456:=rfl
 have p5:(128:Nat)^5=34359738368:=rfl
 have key:∀g,1≤g→g≤5→v<128^g→(g=1∨128^(g-1)≤v)→Grp v g:=by
  intro g h1 h5 hlt hge
  refine⟨h1,h5,Nat.div_eq_of_lt hlt,fun j j1 jg=> ?_⟩
  refine Nat.div_pos ?_ (Nat.pow_pos (by omega))
  rcases hge with rfl|hge
  ·omega
  ·exact Nat.le_trans (Nat.pow_le_pow_right (by omega) (by omega)) hge
 unfold grp
 split
 ·exact key 1 (by omega) (by omega) (by omega) (.inl rfl)
 ·split
  ·exact key 2 (by omega) (by omega) (by omega) (.inr (by simp; omega))
  ·split
   ·exact key 3 (by omega) (by omega) (by omega) (.inr (by simp; omega))
   ·split
    ·exact key 4 (by omega) (by omega) (by omega) (.inr (by simp; omega))
    ·exact key 5 (by omega) (by omega) (by omega) (.inr (by simp; omega))
def u5 (v:Nat):List Nat:=hi v (grp v-1) ++ [v%128]
def pB (v:Nat):Bs:=(u5 v).map o8
theorem pr (v g:Nat):(hi v g).length=g:=by induction g<;>simp [hi, *]
theorem Kp (v g:Nat):(dg v g).length=g:=by induction g<;>simp [dg, *]
theorem XM (v:Nat):(u5 v).length≤5∧1≤(u5 v).length:=by
 simp only [u5,List.length_append,pr,List.length_singleton]
 unfold grp; repeat' split
 all_goals omega
theorem Dr (l:List Nat):b2s (yd l)=l.map o8:=by
 induction l with
 |nil=>rfl
 | cons a r ih=>
  simp only [b2s,yd,List.map_cons]at *
  rw [ih]; simp [o8]
theorem PZ {v j:Nat} (hj:j≤8):Uc .i64 (v:Int) (IntKind.wrap .u64 ((7:Int)*(IntKind.wrap .u64 (j:Int))))=some ((v/128^j:Nat):Int):=by
 have hw:IntKind.wrap .u64 (j:Int)=(j:Int):=by
  have:j=0∨j=1∨j=2∨j=3∨j=4∨j=5∨j=6∨j=7∨j=8:=by omega
  rcases this with rfl|rfl|rfl|rfl|rfl|rfl|rfl|rfl|rfl<;>rfl
 have hw2:IntKind.wrap .u64 ((7:Int)*(j:Int))=((7*j:Nat):Int):=by
  have:j=0∨j=1∨j=2∨j=3∨j=4∨j=5∨j=6∨j=7∨j=8:=by omega
  rcases this with rfl|rfl|rfl|rfl|rfl|rfl|rfl|rfl|rfl<;>rfl
 rw [hw,hw2]
 unfold Uc
 rw [if_neg (by omega)]
 have hm:min ((7*j:Nat):Int).toNat IntKind.i64.bits=7*j:=by
  rw [Int.toNat_natCast]; show min (7*j) 64=7*j; omega
 rw [hm]
 have:((2:Int)^(7*j))=((128^j:Nat):Int):=by
  rw [show(128:Nat)=2^7 from rfl,←Nat.pow_mul]; simp
 rw [this,Qu _ _ (Nat.pow_pos (by omega))]
theorem DR {x:Nat} (hx:x<9223372036854775808):IntKind.wrap .u8 (xJ .i64 (x:Int) 127)=((x%128:Nat):Int):=by
 rw [show(127:Int)=((127:Nat):Int)from rfl,VS hx (by omega),show(127:Nat)=2^7-1 from rfl,Nat.and_two_pow_sub_one_eq_mod,wr8 (by omega) (by omega)]
theorem cq {x:Nat} (hx:x<9223372036854775808):IntKind.wrap .u8 (ior .i64 (xJ .i64 (x:Int) 127) 128)=((x%128+128:Nat):Int):=by
 rw [show(127:Int)=((127:Nat):Int)from rfl,VS hx (by omega),show(127:Nat)=2^7-1 from rfl,Nat.and_two_pow_sub_one_eq_mod,show(128:Int)=((128:Nat):Int)from rfl,BK (by omega) (by omega),Nat.or_comm]
 have:=Nat.two_pow_add_eq_or_of_lt (i:=7) (b:=x%2^7) (by omega) 1
 rw [show(2:Nat)^7*1=128 from rfl]at this
 rw [←this,wr8 (by omega) (by omega)]
 omega
theorem Kl {n v g:Nat} (hg:Grp v g):∀(k j:Nat),1≤j→j≤g→g-j<k→uB n (v:Int) k (j:Int)=some (g:Int)
 |0,_,_,_,h=>by omega
 | k+1,j,h1,h2,h3=>by
  have h5:=hg.2.1
  rw [uB,PZ (by omega)]
  simp only [Option.bind_some]
  by_cases hj:j<g
  ·have:=hg.2.2.2 j h1 hj
   rw [if_pos (by rw [decide_eq_true_eq]; omega),w1 (by omega)]
   exact Kl hg k (j+1) (by omega) (by omega) (by omega)
  ·have:j=g:=by omega
   subst this
   rw [hg.2.2.1,if_neg (by simp)]
theorem Ba {n v:Nat} (hv:v<9223372036854775808):∀(k i c:Nat) (b:List Int),i≤8→i<k→b.length=c→c+i≤1000000→vQ n (v:Int) k c (i:Int) b=some (c+i,b++yd (hi v i))
 |0,_,_,_,_,h,_,_=>by omega
 |k+1,0,c,b,_,_,hb,hc=>by rw [vQ,if_neg (by simp)]; simp [hi,yd]
 | k+1,i+1,c,b,h8,hk,hb,hc=>by
  rw [vQ,if_pos (by simp),PZ h8]
  simp only [Option.bind_some]
  rw [cq (Nat.lt_of_le_of_lt (Nat.div_le_self _ _) hv)]
  have ho:gv 1 c b ([((v/128^(i+1)%128+128:Nat):Int)]:List Int)=some (b ++ [((v/128^(i+1)%128+128:Nat):Int)]):=by
   unfold gv; rw [if_pos (by simp; omega)]
  rw [ho,xT (by omega),show((i+1:Nat):Int)-1=(i:Int)by omega]
  simp only [Option.bind_some,List.length_singleton]
  rw [Ba hv k i (c+1) _ (by omega) (by omega) (by simp [hb]) (by omega)]
  simp [hi,yd]; omega
theorem PD {n v:Nat} (hv:v<34359738368) (hn:20≤n):dH n (v:Int)=some ((u5 v).length,yd (u5 v)):=by
 have hg:=ZO hv
 have h5:=hg.2.1
 have h1:=hg.1
 unfold dH
 have e1:=Kl (n:=n) hg n 1 (by omega) hg.1 (by omega)
 rw [show((1:Nat):Int)=1 from rfl]at e1
 rw [e1]
 simp only [Option.bind_some]
 rw [xT (by omega),show((grp v:Nat):Int)-1=((grp v-1:Nat):Int)by omega,Ba (by omega) n (grp v-1) 0 [] (by omega) (by omega) rfl (by omega)]
 simp only [Option.bind_some,List.nil_append]
 rw [DR (by omega)]
 have ho:gv 1 (0+(grp v-1)) (yd (hi v (grp v-1))) ([((v%128:Nat):Int)]:List Int)=some (yd (u5 v)):=by
  unfold gv; rw [if_pos (by simp [yD,pr]; omega)]; simp [yd,u5]
 rw [ho]
 simp [u5,pr]
theorem BV {n:Nat} (a:Int):∀(k:Nat) (v:Int),uX n a k v=uB n a k v
 |0,v=>rfl
 |k+1,v=>by rw [uX,uB]; simp only [BV a k]
theorem BI {n:Nat} (a:Int):∀(k c:Nat) (v:Int) (b:List Int),uY n a k c v b=vQ n a k c v b
 |0,_,_,_=>rfl
 |k+1,c,v,b=>by rw [uY,vQ]; simp only [BI a k]
theorem Gv {n v c:Nat} {m:List Int} (hv:v<34359738368) (hn:20≤n) (hm:m.length=c) (hc:c≤100000):bz n c (v:Int) m=some (c+(u5 v).length,m++yd (u5 v)):=by
 have hg:=ZO hv
 have h5:=hg.2.1
 have h1:=hg.1
 unfold bz
 have e1:=Kl (n:=n) hg n 1 (by omega) hg.1 (by omega)
 rw [show((1:Nat):Int)=1 from rfl]at e1
 rw [BV,e1]
 simp only [Option.bind_some,BI]
 rw [xT (by omega),show((grp v:Nat):Int)-1=((grp v-1:Nat):Int)by omega,Ba (by omega) n (grp v-1) c m (by omega) (by omega) hm (by omega)]
 simp only [Option.bind_some]
 rw [DR (by omega)]
 have ho:gv 1 (c+(grp v-1)) (m++yd (hi v (grp v-1))) ([((v%128:Nat):Int)]:List Int)=some (m++yd (u5 v)):=by
  unfold gv; rw [if_pos (by simp [yD,pr]; omega)]; simp [yd,u5]
 rw [ho]
 simp [u5,pr]; omega
def bW (l:List Nat):List Nat:=match l with
 |a::b::r=>(40*a+b)::r
 |_=> []
def jG (l:List Nat):Bs:=((bW l).map pB).flatten
theorem Yr {n:Nat} (hn:20≤n) (r:List Nat) (hr:∀x∈r,x<34359738368) (hl:r.length≤1000):∀(k:Nat) (pre suf:List Nat) (m:List Int),r=pre++suf→suf.length<k→m.length≤5+5*pre.length →
  vJ n (yd r) k m.length (pre.length:Int) m=some (m.length+((suf.map u5).flatten).length,m++yd ((suf.map u5).flatten))
 |0,_,_,_,_,h,_=>by omega
 | k+1,pre,[],m,hp,hk,hm=>by
  simp at hp; subst hp
  rw [vJ,if_neg (by simp [yD])]
  simp [yd]
 | k+1,pre,x::suf,m,hp,hk,hm=>by
  have hlen:r.length=pre.length+(suf.length+1):=by rw [hp]; simp
  have hx:zX (yd r) (pre.length:Int)=some (x:Int):=by
   rw [ye (by rw [yD]; omega)]; congr 1; simp [yd,hp]
  have hxv:=hr x (by rw [hp]; simp)
  have h5:=XM x
  rw [vJ,if_pos (by simp [yD]; omega),hx]
  simp only [Option.bind_some]
  rw [Gv hxv hn rfl (by omega)]
  simp only [Option.bind_some]
  rw [w1 (by omega)]
  have ih:=Yr hn r hr hl k (pre ++ [x]) suf (m++yd (u5 x)) (by rw [hp]; simp) (by simp at hk; omega) (by simp [yD]; omega)
  rw [List.length_append,yD]at ih
  rw [show pre.length+1=(pre ++ [x]).length by simp,ih]
  simp [yd,Nat.add_assoc]
theorem Bj (l:List Nat):b2s (yd (((bW l).map u5).flatten))=jG l:=by
 rw [Dr]
 unfold jG
 generalize bW l=q
 induction q with
 |nil=>rfl
 |cons a r ih=>simp only [List.map_cons,List.flatten_cons,List.map_append,ih]; rfl
def JC (l:List Nat):Prop:=2≤l.length∧l.length≤12∧dK l=true∧∀x∈l,x≤2147483647
theorem dy {s:Bs} {l:List Nat} (h:vY s=some l):JC l:=by
 unfold vY at h
 split at h
 ·rename_i hc
  injection h with h; subst h
  refine⟨by simp; exact hc.1,by simp; exact hc.2.1,hc.2.2.2, ?_⟩
  intro x hx
  obtain⟨p,hp,rfl⟩:=List.mem_map.1 hx
  exact((bd p).1 (List.all_eq_true.1 hc.2.2.1 p hp)).2.2.2.2
 ·cases h
theorem DX {α β:Type} {x:β} {a:Option α} {b:β→Option α}:onE (some x) a b=b x:=rfl
theorem VB {l:List Nat} (h:2≤l.length):∃a b r,l=a::b::r:=by
 match l,h with
 | [],h=>simp at h
 | [_],h=>simp at h
 |a::b::r,_=>exact⟨a,b,r,rfl⟩
theorem KM {n:Nat} {s:Bs} {l:List Nat} (hs:s.length≤100000000) (hn:s.length+40≤n) (h:vY s=some l):jM n s=some (jG l,0):=by
 obtain⟨h2,h12,hr,hb⟩:=dy h
 obtain⟨a,b,r,rfl⟩:=VB h2
 have ha:=hb a (by simp)
 have hbb:=hb b (by simp)
 have ha2:a≤2:=by
  simp only [dK,Bool.or_eq_true,Bool.and_eq_true,decide_eq_true_eq]at hr; omega
 unfold jM
 rw [JO hs (by omega),h]
 rw [Option.map_some,Option.bind_some,DX,Option.bind_some]
 have k0:zX (yd (a::b::r)) 0=some (a:Int):=by simp [zX,yd]
 have k1:zX (yd (a::b::r)) 1=some (b:Int):=by simp [zX,yd]
 have k2:lsl (yd (a::b::r)) 2 ((yd (a::b::r)).length:Nat)=some (yd r):=by
  unfold lsl; rw [if_pos (by simp [yD]; omega),Int.toNat_natCast,List.take_length]; rfl
 rw [show lne (yd (a::b::r))=some ()from rfl,k0,k1]
 simp only [Option.bind_some]
 have e1:IntKind.wrap .i64 (IntKind.wrap .i64 ((40:Int)*(a:Int))+(b:Int))=((40*a+b:Nat):Int):=by
  rw [xT (x:=(40:Int)*(a:Int)) (by omega),xT (by omega)]; omega
 rw [e1,PD (by omega) (by omega),k2]
 simp only [Option.bind_some]
 have h5:=XM (40*a+b)
 simp only [List.length_cons]at h12
 have hl:=Yr (n:=n) (by omega) r (fun x hx=>by have:=hb x (by simp [hx]); omega) (by omega) n [] r (yd (u5 (40*a+b))) rfl (by omega) (by simp [yD]; omega)
 rw [yD]at hl
 rw [show(0:Int)=((([]:List Nat).length:Nat):Int)from rfl,hl]
 simp only [Option.bind_some]
 have e2:yd (u5 (40*a+b))++yd ((r.map u5).flatten)=yd (((bW (a::b::r)).map u5).flatten):=by simp [bW,yd]
 rw [e2]
 have e3:V8 ((u5 (40*a+b)).length+((r.map u5).flatten).length) (yd (((bW (a::b::r)).map u5).flatten))=some (jG (a::b::r)):=by
  unfold V8
  have hlen:(yd (((bW (a::b::r)).map u5).flatten)).length=(u5 (40*a+b)).length+((r.map u5).flatten).length:=by
   rw [←e2,List.length_append,yD,yD]
  rw [if_pos (by rw [hlen]; exact Nat.le_refl _),←hlen,List.take_length,Bj]
 rw [e3]; rfl
theorem ma (v:Nat):Int.tdiv (v:Int) 128=((v/128:Nat):Int):=by
 rw [show(128:Int)=((128:Nat):Int)from rfl]; exact(Int.ofNat_tdiv v 128).symm
theorem fV (v:Nat):Int.tmod (v:Int) 128=((v%128:Nat):Int):=by
 rw [show(128:Int)=((128:Nat):Int)from rfl]; exact(Int.ofNat_tmod v 128).symm
theorem Qk (l:List Int):Xq l.length l=some l:=by unfold Xq; rw [if_pos (Nat.le_refl _),List.take_length]
theorem Dv {n v g:Nat} (hv:v<34359738368) (hg:Grp v g):∀(k i:Nat),i<g→g-i≤k →
  z6 n k ((v/128^i:Nat):Int) i (yd (dg v i))=some (g,yd (dg v g))
 |0,i,h,hk=>by omega
 | k + 1,i,h,hk=>by
  have h5:=hg.2.1
  have hvi:v/128^i<34359738368:=Nat.lt_of_le_of_lt (Nat.div_le_self _ _) hv
  have hd:v/128^i/128=v/128^(i+1):=by rw [Nat.div_div_eq_div_mul,Nat.pow_succ]
  have hw:IntKind.wrap .i64 (Int.tdiv ((v/128^i:Nat):Int) 128)=((v/128^(i+1):Nat):Int):=by
   have hvj:v/128^(i+1)<34359738368:=Nat.lt_of_le_of_lt (Nat.div_le_self _ _) hv
   rw [ma,hd,xT (by generalize v/128^(i+1)=q at hvj ⊢; omega)]
  have hw8:IntKind.wrap .u8 (Int.tmod ((v/128^i:Nat):Int) 128)=((v/128^i%128:Nat):Int):=by
   rw [fV,wr8 (by omega) (by omega)]
  have hnx:(if(((v/128^(i+1):Nat):Int)==0)=true then some (i+1,yd (dg v (i+1)))else z6 n k ((v/128^(i+1):Nat):Int) (i+1) (yd (dg v (i+1))))=some (g,yd (dg v g)):=by
   by_cases hj:i+1<g
   ·have:=hg.2.2.2 (i+1) (by omega) hj
    rw [if_neg (by rw [beq_iff_eq]; generalize v/128^(i+1)=q at this ⊢; omega)]
    rw [Dv hv hg k (i+1) hj (by omega)]
   ·have:i+1=g:=by omega
    subst this
    rw [hg.2.2.1,if_pos (by simp)]
  rw [z6]
  have e0:Xq i (yd (dg v i))=some (yd (dg v i)):=by
   have:=Qk (yd (dg v i)); rwa [yD,Kp]at this
  rw [e0]
  simp only [Option.bind_some,hw,hw8]
  match i,h,hk,hnx with
  | 0,h,hk,hnx=>
   rw [if_pos (show List.isEmpty (yd (dg v 0))=true from rfl)]
   exact hnx
  | i+1,h,hk,hnx=>
   rw [if_neg (by simp [dg,yd])]
   have ho:gv 1 1 ([((v/128^(i+1)%128:Nat):Int)]:List Int) (yd (dg v (i+1)))=some (yd (dg v (i+1+1))):=by
    unfold gv; rw [if_pos (by simp [yD,Kp]; omega)]; rfl
   rw [ho]
   simp only [Option.bind_some,yD,Kp]
   rw [show 1+(i+1)=i+1+1 by omega]
   exact hnx
def lo (v:Nat):Nat→List Nat
 |0=> []
 |g+1=>(v/128^(g+1)%128)::lo v g
theorem P9 (v:Nat):∀g,dg v (g+1)=lo v g ++ [v%128]
 |0=>by simp [dg,lo]
 |g+1=>by rw [dg,P9 v g]; rfl
theorem PY (v:Nat):∀g,hi v g=(lo v g).map (· + 128)
 |0=>rfl
 |g+1=>by rw [hi,PY v g]; rfl
theorem P3 (v:Nat):∀g,∀x∈lo v g,x<128
 |0,x,h=>by simp [lo]at h
 | g+1,x,h=>by
  simp only [lo,List.mem_cons]at h
  rcases h with rfl|h
  ·omega
  ·exact P3 v g x h
theorem Dq (v g:Nat):(lo v g).length=g:=by induction g<;>simp [lo, *]
theorem Dy {n g:Nat} (q:List Int) (x:Nat) (hg5:g≤1000):∀(k:Nat) (a b:List Nat),(∀y∈b,y<128)→a.length+b.length+1=g→b.length<k →
  yc n (g,q) k (a.length:Int) (yd (a++b ++ [x]))=some (yd (a++b.map (· + 128) ++ [x]))
 |0,a,b,_,_,h=>by omega
 | k+1,a,[],_,hg,_=>by
  simp at hg
  rw [yc,w1 (by omega),if_neg (by simp; omega)]
  simp
 | k+1,a,y::b,hy,hg,hk=>by
  simp only [List.length_cons]at hg hk
  have hy0:=hy y (by simp)
  have ho:qZ g (a.length:Int)=some a.length:=by unfold qZ; rw [if_pos (by omega),Int.toNat_natCast]
  have hge:(yd (a++y::b ++ [x]))[a.length*1]? =some (y:Int):=by
   simp [yd]
  rw [yc,w1 (by omega),if_pos (by simp; omega)]
  simp only [ho,Option.bind_some,hge]
  rw [wr8 (by omega) (by omega)]
  have hs:YN (yd (a++y::b ++ [x])) (a.length*1) ((y:Int)+128)=some (yd ((a ++ [y+128])++b ++ [x])):=by
   unfold YN
   rw [if_pos (by simp [yD])]
   simp [yd,List.set_append]
  rw [hs]
  simp only [Option.bind_some]
  have ih:=Dy (n:=n) q x hg5 k (a ++ [y+128]) b (fun z hz=>hy z (by simp [hz])) (by simp; omega) (by omega)
  rw [show((a ++ [y+128]).length:Int)=((a.length+1:Nat):Int)by simp]at ih
  rw [ih]
  simp
theorem PB {n v:Nat} (hv:v<34359738368) (hn:20≤n):(z6 n n (v:Int) 0 ([]:List Int)).bind (fun y1414=>
  (yc n y1414 n 0 y1414.2).bind fun y1452=>Xq y1414.1 y1452)=some (yd (u5 v)):=by
 have hg:=ZO hv
 have h5:=hg.2.1
 have h1:=hg.1
 have e:=Dv (n:=n) hv hg n 0 (by omega) (by omega)
 rw [Nat.pow_zero,Nat.div_one,show yd (dg v 0)= []from rfl]at e
 rw [e]
 simp only [Option.bind_some]
 obtain⟨g',hg'⟩:∃g',grp v=g'+1:=⟨grp v-1,by omega⟩
 have e3:=Dy (n:=n) (g:=grp v) (yd (dg v (grp v))) (v%128) (by omega) n [] (lo v g') (P3 v g') (by simp [Dq,hg']) (by simp [Dq]; omega)
 rw [List.nil_append,←P9,←hg',List.nil_append,←PY,show(([]:List Nat).length:Int)=0 from rfl]at e3
 rw [e3]
 simp only [Option.bind_some]
 have hen:hi v g' ++ [v%128]=u5 v:=by unfold u5; rw [hg']; rfl
 rw [hen]
 have hl:(u5 v).length=grp v:=by unfold u5; simp [pr]; omega
 have:=Qk (yd (u5 v))
 rwa [yD,hl]at this
theorem QO {n:Nat} (hn:20≤n) (r:List Nat) (hr:∀x∈r,x<34359738368) (hl:r.length≤1000):∀(k:Nat) (pre suf:List Nat) (m:List Int),r=pre++suf→suf.length<k→m.length≤5+5*pre.length →
  yn n (yd r) k m.length (pre.length:Int) m=some (m.length+((suf.map u5).flatten).length,m++yd ((suf.map u5).flatten))
 |0,_,_,_,_,h,_=>by omega
 | k+1,pre,[],m,hp,hk,hm=>by
  simp at hp; subst hp
  rw [yn,if_neg (by simp [yD])]
  simp [yd]
 | k+1,pre,x::suf,m,hp,hk,hm=>by
  have hlen:r.length=pre.length+(suf.length+1):=by rw [hp]; simp
  have hx:zX (yd r) (pre.length:Int)=some (x:Int):=by
   rw [ye (by rw [yD]; omega)]; congr 1; simp [yd,hp]
  have hxv:=hr x (by rw [hp]; simp)
  have h5:=XM x
  have h1:=PB (n:=n) hxv hn
  obtain⟨y1,e1,h1⟩:=Qq h1
  obtain⟨y2,e2,h1⟩:=Qq h1
  rw [yn,if_pos (by simp [yD]; omega),hx,Option.bind_some,e1,Option.bind_some,e2,Option.bind_some,h1,Option.bind_some]
  have hne:List.isEmpty (yd (u5 x))=false:=by
   match he:u5 x,h5 with
   | [],h5=>simp at h5
   |_::_,_=>rfl
  rw [hne,if_neg (by simp)]
  have ho:gv 1 m.length m (yd (u5 x))=some (m++yd (u5 x)):=by
   unfold gv; rw [if_pos (by rw [yD]; exact⟨rfl,by omega,by omega⟩)]
  rw [ho]
  simp only [Option.bind_some]
  rw [w1 (by omega)]
  have ih:=QO hn r hr hl k (pre ++ [x]) suf (m++yd (u5 x)) (by rw [hp]; simp) (by simp at hk; omega) (by simp [yD]; omega)
  rw [List.length_append]at ih
  rw [show pre.length+1=(pre ++ [x]).length by simp,ih]
  simp [yd,Nat.add_assoc]
theorem Um {n:Nat} {s:Bs} {l:List Nat} (hs:s.length≤100000000) (hn:s.length+40≤n) (h:vY s=some l):wN n s=some (jG l,0):=by
 obtain⟨h2,h12,hr,hb⟩:=dy h
 obtain⟨a,b,r,rfl⟩:=VB h2
 have ha:=hb a (by simp)
 have hbb:=hb b (by simp)
 have ha2:a≤2:=by
  simp only [dK,Bool.or_eq_true,Bool.and_eq_true,decide_eq_true_eq]at hr; omega
 simp only [List.length_cons]at h12
 unfold wN
 rw [QW hs (by omega),h,Option.bind_some]
 simp only []
 rw [if_neg (by simp)]
 have k0:zX (yd (a::b::r)) 0=some (a:Int):=by simp [zX,yd]
 have k1:zX (yd (a::b::r)) 1=some (b:Int):=by simp [zX,yd]
 have k2:lsl (yd (a::b::r)) 2 ((yd (a::b::r)).length:Nat)=some (yd r):=by
  unfold lsl; rw [if_pos (by simp [yD]; omega),Int.toNat_natCast,List.take_length]; rfl
 rw [k0,k1,k2]
 simp only [Option.bind_some]
 have e1:IntKind.wrap .i64 (IntKind.wrap .i64 ((40:Int)*(a:Int))+(b:Int))=((40*a+b:Nat):Int):=by
  rw [xT (x:=(40:Int)*(a:Int)) (by omega),xT (by omega)]; omega
 rw [e1]
 have ey:(if List.isEmpty (yd r)=true then some ([((40*a+b:Nat):Int)]:List Int)else(gD 8 ([((40*a+b:Nat):Int)]:List Int) (yd r)).bind fun x5=>some x5)=some (yd (bW (a::b::r))):=by
  match r with
  | []=>rfl
  | c::r=>
   rw [if_neg (by simp [yd])]
   unfold gD
   simp only [List.length_cons]at h12
   rw [if_pos (by simp [yD]; omega)]; rfl
 rw [ey,Option.bind_some]
 have hl:=QO (n:=n) (by omega) (bW (a::b::r)) (fun x hx=>by
  simp only [bW,List.mem_cons]at hx
  rcases hx with rfl|hx
  ·omega
  ·have:=hb x (by simp [hx]); omega) (by simp [bW]; omega) n [] (bW (a::b::r)) [] rfl (by simp [bW]; omega) (by simp)
 rw [show((([]:List Nat).length:Nat):Int)=0 from rfl,List.length_nil,List.nil_append,Nat.zero_add]at hl
 rw [hl,Option.bind_some]
 have e3:V8 (((bW (a::b::r)).map u5).flatten).length (yd (((bW (a::b::r)).map u5).flatten))=some (jG (a::b::r)):=by
  unfold V8
  have hlen:=yD (((bW (a::b::r)).map u5).flatten)
  rw [if_pos (by rw [hlen]; exact Nat.le_refl _),←hlen,List.take_length,Bj]
 simp only []
 rw [e3]; rfl
theorem Gn (q:Bs) (c:UInt8):dval (q ++ [c])=10*dval q+(c.toNat-48):=by simp [dval]
theorem Dz {c:UInt8} (h:de c=true):UInt8.ofNat (48+(c.toNat-48))=c:=by
 simp only [de,Bool.and_eq_true,decide_eq_true_eq]at h
 rw [show 48+(c.toNat-48)=c.toNat by omega]; exact UInt8.ofNat_toNat
theorem P7:∀(k:Nat) (p:Bs),p.length=k+1→p.all de=true→p.head? ≠some 48→Lib.decDigits (dval p)=p∧1≤dval p
 | 0,p,hl,hd,hh=>by
  match p,hl with
  | [c],_=>
   simp only [List.all_cons,List.all_nil,Bool.and_true]at hd
   have e:dval [c]=c.toNat-48:=by simp [dval]
   have h2:=hd
   simp only [de,Bool.and_eq_true,decide_eq_true_eq]at h2
   rw [e,Lib.decDigits_one (by omega),Dz hd]
   refine⟨rfl, ?_⟩
   have:c.toNat≠48:=fun h=>hh (by rw [List.head?_cons,←UInt8.ofNat_toNat (x:=c),h]; rfl)
   omega
 | k+1,p,hl,hd,hh=>by
  obtain⟨q,c,rfl⟩:∃q c,p=q ++ [c]:=⟨p.dropLast,p.getLast (by intro h; rw [h]at hl; simp at hl),(List.dropLast_concat_getLast _).symm⟩
  simp only [List.length_append,List.length_singleton]at hl
  rw [List.all_append]at hd
  simp only [List.all_cons,List.all_nil,Bool.and_true,Bool.and_eq_true]at hd
  have hq:q.head? ≠some 48:=by
   match q,hl with
   |x::q,_=>simpa using hh
  obtain⟨ih1,ih2⟩:=P7 k q (by omega) hd.1 hq
  have h2:=hd.2
  simp only [de,Bool.and_eq_true,decide_eq_true_eq]at h2
  rw [Gn]
  refine⟨?_,by omega⟩
  rw [Lib.decDigits,dif_neg (by omega),show(10*dval q+(c.toNat-48))/10=dval q by omega,show(10*dval q+(c.toNat-48))%10=c.toNat-48 by omega,ih1,Dz hd.2]
theorem GF {p:Bs} (h:j9 p=true):Lib.decDigits (dval p)=p:=by
 obtain⟨h1,h2,h3,h4,h5⟩:=(bd p).1 h
 by_cases hh:p.head? =some 48
 ·have:p.length≤1:=by
   apply Decidable.byContradiction; intro hc; exact h3 ⟨by omega,hh⟩
  match p,h1,this,hh with
  | [c],_,_,hh=>simp at hh; subst hh; rw [show dval [48]=0 from rfl]; exact Lib.decDigits_one (by omega)
 ·match p,h1,hh,h4 with
  |c::r,_,hh,h4=>exact(P7 r.length (c::r) rfl h4 hh).1
def Ki (l:List Nat):Bs:=Lib.join (l.map fun a=>Lib.decDigits a) [46]
theorem Vv (c:UInt8):∀s:Bs,Lib.join (splitB c s) [c]=s
 | []=>Lib.join_one _ _
 | x ::r=>by
  have ih:=Vv c r
  rw [splitB]
  split
  ·rename_i h
   subst h
   match hs:splitB x r,XT x r,ih with
   | p::ps,_,ih=>
    rw [Lib.join_cons]at ih ⊢
    rw [List.nil_append]
    show [x]++p++Lib.joinTail [x] ps=_
    rw [List.append_assoc,ih]; rfl
  ·match hs:splitB c r,XT c r,ih with
   | p::ps,_,ih=>
    rw [Lib.join_cons]at ih
    show Lib.join ((x::p)::ps) [c]=_
    rw [Lib.join_cons,List.cons_append,ih]
theorem Y2 {s:Bs} {l:List Nat} (h:vY s=some l):Ki l=s:=by
 unfold vY at h
 split at h
 ·rename_i hc
  injection h with h; subst h
  unfold Ki
  rw [List.map_map]
  have:(splitB 46 s).map ((fun a=>Lib.decDigits a)∘dval)=splitB 46 s:=by
   have hall:=List.all_eq_true.1 hc.2.2.1
   generalize splitB 46 s=ps at hall ⊢
   induction ps with
   |nil=>rfl
   | cons p r ih=>
    rw [List.map_cons,ih (fun x hx=>hall x (by simp [hx]))]
    rw [Function.comp,GF (hall p (by simp))]
  rw [this,Vv]
 ·cases h
theorem kM {u:Nat} (h:u<18446744073709551616):(Lib.decDigits u).length≤20:=by
 rw [Lib.decDigits_length]; exact Lib.nDigits_le20 u h
theorem Uy (sep:Bs) (b:Nat):∀l:List Bs,(∀x∈l,x.length≤b)→(Lib.joinTail sep l).length≤l.length*(sep.length+b)
 | [],_=>by simp [Lib.joinTail]
 | x::r,h=>by
  have h1:=h x (by simp)
  have ih:=Uy sep b r (fun y hy=>h y (by simp [hy]))
  have e:Lib.joinTail sep (x::r)=sep++x++Lib.joinTail sep r:=by simp [Lib.joinTail]
  rw [e,List.length_append,List.length_append,List.length_cons,Nat.succ_mul]; omega
theorem Qn {sep:Bs} {b:Nat} {l:List Bs} (h:∀x∈l,x.length≤b):(Lib.join l sep).length≤l.length*(sep.length+b):=by
 match l,h with
 | [],_=>simp [Lib.join_nil]
 | x::r,h=>
  have h1:=h x (by simp)
  have ih:=Uy sep b r (fun y hy=>h y (by simp [hy]))
  rw [Lib.join_cons,List.length_append,List.length_cons,Nat.succ_mul]; omega
theorem PF {v:Nat} (c:UInt8) (hv:v≤4294967294):ior .i64 (IntKind.wrap .i64 ((v:Int)*128)) (xJ .i64 (IntKind.wrap .i64 (c.toNat:Int)) 127)=((128*v+c.toNat%128:Nat):Int):=by
 have hc:=ZF c
 rw [xT (x:=(v:Int)*128) (by omega),xT (x:=(c.toNat:Int)) (by omega),show(127:Int)=((127:Nat):Int)from rfl,VS (by omega) (by omega),show(127:Nat)=2^7-1 from rfl,Nat.and_two_pow_sub_one_eq_mod,
  show(v:Int)*128=((2^7*v:Nat):Int)by omega]
 exact Bn (i:=7) (by omega) (by omega)
theorem KL {n:Nat} (b:Bs) (acc:List Int) (i k v:Nat) (hv:v≤4294967294) (hi:i<b.length) (hb:b.length≤1000000000) (ha:acc.length≤1000000000):
  xi n b acc (k+1) (i:Int) (v:Int)=if 4294967294<128*v+b[i].toNat%128 then some (.ret [])else if b[i].toNat<128 then some (.nxt (acc ++ [((128*v+b[i].toNat%128:Nat):Int)],((i+1:Nat):Int)))else xi n b acc k ((i+1:Nat):Int) ((128*v+b[i].toNat%128:Nat):Int):=by
 have hc:=ZF b[i]
 rw [xi,if_pos (by simp; omega),jj hi,Option.bind_some,PF _ hv]
 have hw:IntKind.wrap .i64 (b[i].toNat:Int)=(b[i].toNat:Int):=xT (by omega)
 rw [w1 (by omega),hw]
 by_cases h1:4294967294<128*v+b[i].toNat%128
 ·rw [if_pos h1,if_pos (by rw [decide_eq_true_eq]; omega)]
 ·rw [if_neg h1,if_neg (by rw [decide_eq_true_eq]; omega)]
  by_cases h2:b[i].toNat<128
  ·rw [if_pos h2,if_pos (by rw [decide_eq_true_eq]; omega),wq (by simp; omega)]; rfl
  ·rw [if_neg h2,if_neg (by rw [decide_eq_true_eq]; omega)]
theorem V3 {n:Nat} (b:Bs) (acc:List Int) (hb:b.length≤1000000000) (ha:acc.length≤1000000000):∀(k i v:Nat),v≤4294967294→i≤b.length→b.length-i<k →
  xi n b acc k (i:Int) (v:Int)=some (.ret [])∨∃x j:Nat,xi n b acc k (i:Int) (v:Int)=some (.nxt (acc ++ [(x:Int)],(j:Int)))∧x≤4294967294∧i<j∧j≤b.length
 |0,_,_,_,_,h=>by omega
 | k + 1,i,v,hv,hi,hk=>by
  by_cases hc:i<b.length
  ·rw [KL b acc i k v hv hc hb ha]
   by_cases h1:4294967294<128*v+b[i].toNat%128
   ·rw [if_pos h1]; exact .inl rfl
   ·rw [if_neg h1]
    by_cases h2:b[i].toNat<128
    ·rw [if_pos h2]; exact .inr ⟨_,_,rfl,by omega,by omega,by omega⟩
    ·rw [if_neg h2]
     rcases V3 b acc hb ha k (i+1) (128*v+b[i].toNat%128) (by omega) (by omega) (by omega)with h|⟨x,j,h,a1,a2,a3⟩
     ·exact .inl h
     ·exact .inr ⟨x,j,h,a1,by omega,a3⟩
  ·rw [xi,if_neg (by simp; omega)]; exact .inl rfl
theorem Vs {n:Nat} (b:Bs) (hb:b.length≤500000000) (hn:b.length+2≤n):∀(k i:Nat) (acc:List Nat),i≤b.length→b.length-i<k→acc.length≤i→(∀x∈acc,x≤4294967294) →
  xj n b k (yd acc) (i:Int)=some (.ret [])∨∃l:List Nat,xj n b k (yd acc) (i:Int)=some (.nxt (yd l))∧(∀x∈l,x≤4294967294)∧l.length≤b.length
 |0,_,_,_,h,_,_=>by omega
 | k + 1,i,acc,hi,hk,ha,hq=>by
  rw [xj]
  by_cases hc:i<b.length
  ·rw [if_pos (by simp; omega),jj hc,Option.bind_some]
   by_cases h8:(((b[i].toNat:Int))==128)=true
   ·rw [if_pos h8]; exact .inl rfl
   ·rw [if_neg h8]
    have h0:=V3 (n:=n) b (yd acc) (by omega) (by rw [yD]; omega) n i 0 (by omega) hi (by omega)
    rw [show((0:Nat):Int)=0 from rfl]at h0
    rcases h0 with h|⟨x,j,h,a1,a2,a3⟩
    ·rw [h]; exact .inl rfl
    ·rw [h]
     have:=Vs b hb hn k j (acc ++ [x]) a3 (by omega) (by simp; omega) (by
      intro y hy; rw [List.mem_append]at hy
      rcases hy with hy|hy
      ·exact hq y hy
      ·simp at hy; subst hy; exact a1)
     rw [show yd (acc ++ [x])=yd acc ++ [(x:Int)]by simp [yd]]at this
     exact this
  ·rw [if_neg (by simp; omega)]
   exact .inr ⟨acc,rfl,hq,by omega⟩
theorem Q1 {n:Nat} (b:Bs) (hb:b.length≤500000000) (hn:b.length+2≤n):∃l:List Nat,uG n b=some (yd l)∧(∀x∈l,x≤4294967294)∧l.length≤b.length:=by
 unfold uG
 have h:=Vs b hb hn n 0 [] (by omega) (by omega) (by simp) (by simp)
 rw [show((0:Nat):Int)=0 from rfl,show yd []= []from rfl]at h
 rcases h with h|⟨l,h,h1,h2⟩
 ·rw [h]; exact⟨[],rfl,by simp,by simp⟩
 ·rw [h]; exact⟨l,rfl,h1,h2⟩
theorem JX {n:Nat} (b:Bs) (acc:List Int) (hb:b.length≤1000000000) (ha:acc.length≤1000000000) {v:Nat} (hv:v≤4294967294):∀(g k i:Nat) (rest:Bs),g<k→b.drop i=(hi v g ++ [v%128]).map o8++rest →
  xi n b acc k (i:Int) ((v/128^(g+1):Nat):Int)=some (.nxt (acc ++ [(v:Int)],((i+g+1:Nat):Int)))
 |g,0,_,_,h,_=>by omega
 | 0,k+1,i,rest,_,hd=>by
  have hi:i<b.length:=by
   apply Decidable.byContradiction; intro hc
   rw [List.drop_eq_nil_of_le (by omega)]at hd; simp [hi]at hd
  have hx:b[i]=o8 (v%128):=by
   rw [List.drop_eq_getElem_cons hi]at hd; simp only [Go.Abs.hi,List.nil_append,List.map_cons,List.map_nil,List.singleton_append]at hd
   exact(List.cons.inj hd).1
  have hq:v/128^(0+1)=v/128:=by rw [Nat.zero_add,Nat.pow_one]
  rw [hq,KL b acc i k _ (by omega) hi hb ha,hx,gM (by omega),if_neg (by omega),if_pos (by omega),show 128*(v/128)+v%128%128=v by omega]
 | g+1,k+1,i,rest,hk,hd=>by
  have hi:i<b.length:=by
   apply Decidable.byContradiction; intro hc
   rw [List.drop_eq_nil_of_le (by omega)]at hd; simp [Go.Abs.hi]at hd
  rw [List.drop_eq_getElem_cons hi]at hd
  simp only [Go.Abs.hi,List.cons_append,List.map_cons]at hd
  obtain⟨hx,hd⟩:=List.cons.inj hd
  have hpw:v/128^(g+1+1)=v/128^(g+1)/128:=by rw [Nat.div_div_eq_div_mul,Nat.pow_succ]
  have hle:v/128^(g+1)≤v:=Nat.div_le_self _ _
  have ih:=JX (n:=n) b acc hb ha hv g k (i+1) rest (by omega) hd
  generalize hqe:v/128^(g+1)=q at hpw hle hx ih
  rw [hpw,KL b acc i k _ (by omega) hi hb ha,hx,gM (by omega),if_neg (by omega),if_neg (by omega),show 128*(q/128)+(q%128+128)%128=q by omega,ih]
  rw [show i+1+g+1=i+(g+1)+1 by omega]
theorem Uw {v:Nat} (hv:v<34359738368):∃c r,pB v=c::r∧c.toNat≠128:=by
 have hg:=ZO hv
 unfold pB u5
 obtain⟨g,hgg⟩:∃g,grp v=g+1:=⟨grp v-1,by have:=hg.1; omega⟩
 rw [hgg,Nat.add_sub_cancel]
 match g,hgg with
 |0,_=>exact⟨_,_,rfl,by rw [gM (by omega)]; omega⟩
 | g+1,hgg=>
  refine⟨_,_,rfl, ?_⟩
  have h1:=hg.2.2.2 (g+1) (by omega) (by omega)
  have h2:=hg.2.2.1
  rw [hgg,Nat.pow_succ 128 (g+1),←Nat.div_div_eq_div_mul]at h2
  generalize v/128^(g+1)=q at h1 h2 ⊢
  rw [gM (by omega)]; omega
theorem WF {n:Nat} (b:Bs) (hb:b.length≤500000000) (hn:20≤n):∀(suf:List Nat) (k i:Nat) (acc:List Int),suf.length<k→acc.length+suf.length≤1000000→(∀x∈suf,x≤4294967294)→i≤b.length→b.drop i=(suf.map pB).flatten →
  xj n b k acc (i:Int)=some (.nxt (acc++yd suf))
 |suf,0,_,_,h,_,_,_,_=>by omega
 | [],k+1,i,acc,_,_,_,hi,hd=>by
  have:i=b.length:=by
   have:=congrArg List.length hd; simp at this; omega
  rw [xj,if_neg (by simp; omega)]; simp [yd]
 | v::suf,k+1,i,acc,hk,ha,hq,hi,hd=>by
  have hv:=hq v (by simp)
  rw [List.map_cons,List.flatten_cons]at hd
  obtain⟨c,r,he,hc⟩:=Uw (v:=v) (by omega)
  have hil:i<b.length:=by
   apply Decidable.byContradiction; intro hcc
   rw [List.drop_eq_nil_of_le (by omega),he]at hd; simp at hd
  have hbi:b[i]=c:=by
   rw [List.drop_eq_getElem_cons hil,he]at hd; exact(List.cons.inj hd).1
  have hg:=ZO (v:=v) (by omega)
  have hg1:=hg.1
  have hg5:=hg.2.1
  have e2:=JX (n:=n) b acc (by omega) (by omega) hv (grp v-1) n i ((suf.map pB).flatten) (by omega) hd
  rw [show grp v-1+1=grp v by omega,hg.2.2.1,show((0:Nat):Int)=0 from rfl,show i+(grp v-1)+1=i+grp v by omega]at e2
  have hlen:(pB v).length=grp v:=by unfold pB u5; simp [pr]; omega
  have hd2:b.drop (i+grp v)=(suf.map pB).flatten:=by
   rw [←List.drop_drop,hd,←hlen,List.drop_left]
  have hil2:i+grp v≤b.length:=by
   have:=congrArg List.length hd; rw [List.length_drop,List.length_append,hlen]at this; omega
  simp only [List.length_cons]at hk ha
  have ih:=WF b hb hn suf k (i+grp v) (acc ++ [(v:Int)]) (by omega) (by simp; omega) (fun x hx=>hq x (by simp [hx])) hil2 hd2
  rw [xj,if_pos (by simp; omega),jj hil,Option.bind_some,hbi,if_neg (by rw [beq_iff_eq]; omega),e2]
  show xj n b k _ _=_
  rw [ih]; simp [yd]
theorem D6 (a:Nat):Lib.itoa (a:Int)=Lib.decDigits a:=Lib.itoa_nonneg a
theorem DN {n:Nat} (L:List Nat) (hl:L.length≤12) (hL:∀x∈L,x≤9000000000):∀(k i:Nat) (acc:List Bs),i≤L.length→L.length-i<k→acc.length≤i →
  ur n (yd L) k acc (i:Int)=some (if(L.drop i).all (fun x=>decide (x≤2147483647))=true then .nxt (acc++(L.drop i).map fun a=>Lib.decDigits a)else .ret ([],11))
 |0,_,_,_,h,_=>by omega
 | k + 1,i,acc,hi,hk,ha=>by
  rw [ur]
  by_cases hc:i<L.length
  ·have hx:zX (yd L) (i:Int)=some (L[i]:Int):=by
    rw [ye (by rw [yD]; omega)]; congr 1; simp [yd]
   have hb:=hL L[i] (List.getElem_mem hc)
   rw [if_pos (by simp [yD]; omega),hx,Option.bind_some,List.drop_eq_getElem_cons hc,List.all_cons]
   by_cases h1:L[i]≤2147483647
   ·have hct:Xs n (L[i]:Int)=some (Lib.decDigits L[i]):=by
     unfold Xs; rw [if_pos (by omega),D6]
    rw [if_neg (by rw [decide_eq_true_eq]; omega),hct,Option.bind_some,wq (by simp; omega),Option.bind_some,w1 (by omega),DN L hl hL k (i+1) _ (by omega) (by omega) (by simp; omega),decide_eq_true h1,Bool.true_and]
    simp only [List.map_cons,List.append_assoc,List.singleton_append]
   ·rw [if_pos (by rw [decide_eq_true_eq]; omega),decide_eq_false h1,Bool.false_and,if_neg (by simp)]
  ·rw [if_neg (by simp [yD]; omega),List.drop_eq_nil_of_le (by omega)]
   simp
def qj:List Nat→List Nat
 | []=> []
 |v::r=>(if 2<v/40 then 2 else v/40)::(v-40*(if 2<v/40 then 2 else v/40))::r
def YP (q:List Nat):Bool:=decide (q≠ [])&&decide (q.length≤11)&&(qj q).all (fun x=>decide (x≤2147483647))
theorem Yu {n:Nat} {b:Bs} {q:List Nat} (hn:40≤n) (h:uG n b=some (yd q)) (hq:∀x∈q,x≤4294967294) (hql:q.length≤500000000):yo n b=some (if YP q=true then(Ki (qj q),0)else([],11)):=by
 unfold yo
 rw [h,Option.bind_some,yD]
 by_cases h0:q= []
 ·subst h0; rfl
 ·obtain ⟨v,r,rfl⟩:=List.exists_cons_of_ne_nil h0
  have hv:=hq v (by simp)
  rw [if_neg (by rw [beq_iff_eq,List.length_cons]; omega),Option.bind_some]
  by_cases h11:(v::r).length≤11
  ·rw [if_neg (by rw [decide_eq_true_eq]; omega)]
   have k0:zX (yd (v::r)) 0=some (v:Int):=by simp [zX,yd]
   have k2:lsl (yd (v::r)) 1 ((v::r).length:Nat)=some (yd r):=by
    unfold lsl; rw [if_pos (by rw [yD,List.length_cons]; omega),Int.toNat_natCast,List.take_of_length_le (by rw [yD]; exact Nat.le_refl _)]; rfl
   rw [k0,k2]
   simp only [Option.bind_some]
   have e0:IntKind.wrap .i64 (Int.tdiv (v:Int) 40)=((v/40:Nat):Int):=by
    rw [show(40:Int)=((40:Nat):Int)from rfl,(Int.ofNat_tdiv v 40).symm,xT (by omega)]
   rw [e0]
   have e1:(if(2:Int)<((v/40:Nat):Int)then(2:Int)else((v/40:Nat):Int))=(((if 2<v/40 then 2 else v/40):Nat):Int):=by
    by_cases c:2<v/40
    ·rw [if_pos c,if_pos (by omega)]; rfl
    ·rw [if_neg c,if_neg (by omega)]
   rw [e1]
   have hle:40*(if 2<v/40 then 2 else v/40)≤v:=by split<;>omega
   generalize hz:(if 2<v/40 then 2 else v/40)=z at hle ⊢
   have e2:IntKind.wrap .i64 ((v:Int)-IntKind.wrap .i64 ((40:Int)*(z:Int)))=((v-40*z:Nat):Int):=by
    rw [xT (x:=(40:Int)*(z:Int)) (by omega),xT (by omega)]; omega
   rw [e2]
   have ey:(if List.isEmpty (yd r)=true then some ([(z:Int),((v-40*z:Nat):Int)]:List Int)else(gD 8 ([(z:Int),((v-40*z:Nat):Int)]:List Int) (yd r)).bind fun x5=>some x5)=some (yd (qj (v::r))):=by
    rw [show qj (v::r)=z::(v-40*z)::r by simp only [qj,hz]]
    match r with
    | []=>rfl
    | c::r=>
     rw [if_neg (by simp [yd])]
     unfold gD
     simp only [List.length_cons]at h11
     rw [if_pos (by simp [yD]; omega)]; rfl
   rw [ey,Option.bind_some]
   have hlen:(qj (v::r)).length≤12:=by simp only [qj,List.length_cons]at h11 ⊢; omega
   have hL:∀x∈qj (v::r),x≤4294967294:=by
    intro x hx
    simp only [qj,List.mem_cons,hz]at hx
    rcases hx with rfl|rfl|hx
    ·omega
    ·omega
    ·exact hq x (by simp [hx])
   have hd:=DN (n:=n) (qj (v::r)) hlen (fun x hx=>by have:=hL x hx; omega) n 0 [] (by omega) (by omega) (by simp)
   rw [show((0:Nat):Int)=0 from rfl,List.drop_zero,List.nil_append]at hd
   rw [hd]
   have hok:YP (v::r)=(qj (v::r)).all (fun x=>decide (x≤2147483647)):=by
    unfold YP; rw [decide_eq_true (by simp),decide_eq_true h11]; simp
   rw [hok]
   by_cases hall:(qj (v::r)).all (fun x=>decide (x≤2147483647))=true
   ·rw [if_pos hall,if_pos hall]
    simp only [ym]
    have hj:pc n ((qj (v::r)).map fun a=>Lib.decDigits a) [46]=some (Ki (qj (v::r))):=by
     unfold pc
     have:=Qn (sep:= [46]) (b:=20) (l:=(qj (v::r)).map fun a=>Lib.decDigits a) (by
      intro x hx; obtain⟨a,ha,rfl⟩:=List.mem_map.1 hx
      have:=hL a ha; exact kM (by omega))
     rw [List.length_map,List.length_singleton]at this
     rw [if_pos (by rw [List.length_map]; omega)]; rfl
    rw [hj]; rfl
   ·rw [if_neg hall,if_neg hall]; rfl
  ·rw [if_pos (by rw [decide_eq_true_eq]; omega),if_neg]
   unfold YP; rw [decide_eq_false h11]; simp
theorem ZH {l:List Nat} (h:JC l):qj (bW l)=l:=by
 obtain⟨h2,h12,hr,hb⟩:=h
 obtain⟨a,b,r,rfl⟩:=VB h2
 simp only [dK,Bool.or_eq_true,Bool.and_eq_true,decide_eq_true_eq]at hr
 simp only [bW,qj]
 rcases hr with⟨h1,h3⟩|h1
 ·rw [if_neg (by omega),show(40*a+b)/40=a by omega,show 40*a+b-40*a=b by omega]
 ·subst h1
  have:(if 2<(40*2+b)/40 then 2 else(40*2+b)/40)=2:=by split<;>omega
  rw [this,show 40*2+b-40*2=b by omega]
theorem Jh {l:List Nat} (h:JC l):(bW l).length+1=l.length∧∀x∈bW l,x≤2147483727:=by
 have h':=h
 obtain⟨h2,h12,hr,hb⟩:=h
 obtain⟨a,b,r,rfl⟩:=VB h2
 have ha:=hb a (by simp)
 have hbb:=hb b (by simp)
 simp only [dK,Bool.or_eq_true,Bool.and_eq_true,decide_eq_true_eq]at hr
 refine⟨by simp [bW], ?_⟩
 intro x hx
 simp only [bW,List.mem_cons]at hx
 rcases hx with rfl|hx
 ·omega
 ·have:=hb x (by simp [hx]); omega
theorem XE {l:List Nat} (h:JC l):(jG l).length≤55:=by
 have h1:=Jh h
 have h12:=h.2.1
 have key:∀q:List Nat,((q.map pB).flatten).length≤5*q.length:=by
  intro q
  induction q with
  |nil=>simp
  | cons a r ih=>
   have:=(XM a).1
   rw [List.map_cons,List.flatten_cons,List.length_append,List.length_cons]
   have e:(pB a).length=(u5 a).length:=by simp [pB]
   omega
 have:=key (bW l)
 unfold jG; omega
theorem WW {n:Nat} {s:Bs} {l:List Nat} (h:vY s=some l) (hn:100≤n):yo n (jG l)=some (s,0):=by
 have hok:=dy h
 have hno:=Jh hok
 have hlen:=XE hok
 have h12:=hok.2.1
 have h2:=hok.1
 have hnum:uG n (jG l)=some (yd (bW l)):=by
  unfold uG
  have:=WF (n:=n) (jG l) (by omega) (by omega) (bW l) n 0 [] (by omega) (by simp; omega) (fun x hx=>by have:=hno.2 x hx; omega) (by omega) rfl
  rw [show((0:Nat):Int)=0 from rfl]at this
  rw [this]; rfl
 rw [Yu (by omega) hnum (fun x hx=>by have:=hno.2 x hx; omega) (by omega),ZH hok,Y2 h,if_pos]
 unfold YP
 rw [ZH hok,decide_eq_true (by intro hc; rw [hc]at hno; have:=hno.1; simp at this; omega),decide_eq_true (by omega)]
 simp only [Bool.true_and,List.all_eq_true,decide_eq_true_eq]
 exact hok.2.2.2
theorem BO {n:Nat}:∀(k v:Nat),v<9000000000000000000→v<10^k→1≤k→yw n k (v:Int)=some (Lib.decDigits v)
 |0,_,_,_,h=>by omega
 | k + 1,v,hv,hk,_=>by
  rw [yw]
  by_cases h:v<10
  ·rw [if_pos (by rw [decide_eq_true_eq]; omega),Lib.decDigits_one h]
   rw [xT (by omega),show(48:Int)+(v:Int)=((48+v:Nat):Int)by omega,wr8 (by omega) (by omega)]
   show some [UInt8.ofNat ((48+v:Nat):Int).toNat]=_
   rw [Int.toNat_natCast]
  ·rw [if_neg (by rw [decide_eq_true_eq]; omega),Lib.decDigits,dif_neg h]
   have e1:Int.tdiv (v:Int) 10=((v/10:Nat):Int):=by rw [show(10:Int)=((10:Nat):Int)from rfl]; exact(Int.ofNat_tdiv v 10).symm
   have e2:Int.tmod (v:Int) 10=((v%10:Nat):Int):=by rw [show(10:Int)=((10:Nat):Int)from rfl]; exact(Int.ofNat_tmod v 10).symm
   have hk1:1≤k:=by
    match k,hk with
    |0,hk=>simp at hk; omega
    |k+1,_=>omega
   rw [e1,e2,xT (x:=((v/10:Nat):Int)) (by omega),BO k (v/10) (by omega) (by rw [Nat.pow_succ]at hk; omega) hk1,Option.bind_some]
   rw [xT (by omega),show(48:Int)+((v%10:Nat):Int)=((48+v%10:Nat):Int)by omega,wr8 (by omega) (by omega)]
   have hl:=kM (u:=v/10) (by omega)
   rw [show b2s ([((48+v%10:Nat):Int)]:List Int)= [UInt8.ofNat (48+v%10)]by show [UInt8.ofNat ((48+v%10:Nat):Int).toNat]=_; rw [Int.toNat_natCast]]
   rw [yC (by rw [List.length_singleton]; omega)]; rfl
theorem Wp {n v:Nat} (hn:20≤n) (hv:v<9000000000000000000):yw n n (v:Int)=some (Lib.decDigits v):=
 BO n v hv (Nat.lt_of_lt_of_le (show v<10^20 by omega) (Nat.pow_le_pow_right (by omega) hn)) (by omega)
def rz (v:Nat):Nat:=if 2<v/40 then 2 else v/40
theorem Jo {n:Nat} (hn:20≤n) (b:Bs) (hb:b.length≤100000000) (k:Nat) (out:Bs) (v:Nat) (more:Bool) (cnt i:Nat) (hi:i<b.length) (hv:v≤2147483727) (ho:out.length≤100000000000) (hc:cnt≤12):
  zA n b (k+1) out (v:Int) more (cnt:Int) (i:Int)=
   if more=false∧b[i].toNat=128 then some (.ret ([],11))else
   if 2147483727<128*v+b[i].toNat%128 then some (.ret ([],11))else
   if 128≤b[i].toNat then zA n b k out ((128*v+b[i].toNat%128:Nat):Int) true (cnt:Int) ((i+1:Nat):Int)else
   if cnt=0 then zA n b k (Lib.decDigits (rz (128*v+b[i].toNat%128)) ++ [46]++Lib.decDigits (128*v+b[i].toNat%128-40*rz (128*v+b[i].toNat%128))) 0 false 2 ((i+1:Nat):Int)else
   if 12<cnt+1 then some (.ret ([],11))else zA n b k (out++([46]++Lib.decDigits (128*v+b[i].toNat%128))) 0 false ((cnt+1:Nat):Int) ((i+1:Nat):Int):=by
 have hb8:=ZF b[i]
 rw [zA,if_pos (by rw [decide_eq_true_eq]; omega),jj hi]
 simp only [Option.bind_some]
 have ey:(if(!more)=true then some ((b[i].toNat:Int)==128)else some false)=some (decide (more=false∧b[i].toNat=128)):=by
  cases more with
  |true=>rw [if_neg (by simp)]; simp
  | false=>
   rw [if_pos (by simp)]
   congr 1
   by_cases h:b[i].toNat=128
   ·rw [decide_eq_true ⟨rfl,h⟩,beq_iff_eq]; omega
   ·rw [decide_eq_false (fun h'=>h h'.2)]; rw [beq_eq_false_iff_ne]; omega
 rw [ey]
 simp only [Option.bind_some]
 by_cases h1:more=false∧b[i].toNat=128
 ·rw [decide_eq_true h1,if_pos rfl,if_pos h1]; rfl
 ·rw [decide_eq_false h1,if_neg (by simp),if_neg h1]
  have em:Int.tmod (b[i].toNat:Int) 128=((b[i].toNat%128:Nat):Int):=by rw [show(128:Int)=((128:Nat):Int)from rfl]; exact(Int.ofNat_tmod _ 128).symm
  have ev:IntKind.wrap .i64 (IntKind.wrap .i64 ((128:Int)*(v:Int))+IntKind.wrap .i64 (Int.tmod (b[i].toNat:Int) 128))=((128*v+b[i].toNat%128:Nat):Int):=by
   rw [em,xT (x:=(128:Int)*(v:Int)) (by omega),xT (x:=((b[i].toNat%128:Nat):Int)) (by omega),xT (by omega)]; omega
  rw [ev]
  generalize hV:128*v+b[i].toNat%128=V
  by_cases h2:2147483727<V
  ·rw [if_pos (by rw [decide_eq_true_eq]; omega),if_pos h2]; rfl
  ·rw [if_neg (by rw [decide_eq_true_eq]; omega),if_neg h2,w1 (i:=i) (by omega)]
   by_cases h3:128≤b[i].toNat
   ·have hd:decide ((b[i].toNat:Int)≥128)=true:=by rw [decide_eq_true_eq]; omega
    rw [hd,if_pos rfl,if_pos h3]; rfl
   ·have hd:decide ((b[i].toNat:Int)≥128)=false:=by rw [decide_eq_false_iff_not]; omega
    rw [hd,if_neg (by simp),if_neg h3]
    have e0:IntKind.wrap .i64 (Int.tdiv (V:Int) 40)=((V/40:Nat):Int):=by
     rw [show(40:Int)=((40:Nat):Int)from rfl,(Int.ofNat_tdiv V 40).symm,xT (by omega)]
    have e1:(if(2:Int)<((V/40:Nat):Int)then(2:Int)else((V/40:Nat):Int))=((rz V:Nat):Int):=by
     unfold rz
     by_cases c:2<V/40
     ·rw [if_pos c,if_pos (by omega)]; rfl
     ·rw [if_neg c,if_neg (by omega)]
    have hle:40*rz V≤V:=by unfold rz; split<;>omega
    rw [e0,e1]
    have e2:IntKind.wrap .i64 ((V:Int)-IntKind.wrap .i64 ((40:Int)*((rz V:Nat):Int)))=((V-40*rz V:Nat):Int):=by
     rw [xT (x:=(40:Int)*((rz V:Nat):Int)) (by omega),xT (by omega)]; omega
    rw [e2]
    have l1:=kM (u:=rz V) (by omega)
    have l2:=kM (u:=V-40*rz V) (by omega)
    have l3:=kM (u:=V) (by omega)
    by_cases h4:cnt=0
    ·subst h4
     rw [if_pos (by rfl),if_pos rfl,Wp hn (by omega),Wp hn (by omega)]
     simp only [Option.bind_some]
     rw [yC (by rw [List.length_singleton]; omega)]
     simp only [Option.bind_some]
     rw [yC (by rw [List.length_append,List.length_singleton]; omega)]
     rfl
    ·rw [if_neg (by rw [beq_iff_eq]; omega),if_neg h4,Wp hn (by omega)]
     simp only [Option.bind_some]
     rw [yC (by rw [List.length_singleton]; omega)]
     simp only [Option.bind_some]
     rw [yC (by rw [List.length_append,List.length_singleton]; omega)]
     simp only [Option.bind_some]
     rw [w1 (i:=cnt) (by omega)]
     by_cases h5:12<cnt+1
     ·rw [if_pos (by rw [decide_eq_true_eq]; omega),if_pos h5]; rfl
     ·rw [if_neg (by rw [decide_eq_true_eq]; omega),if_neg h5]; rfl
theorem fS (v:Nat):40*rz v≤v:=by unfold rz; split<;>omega
def Be (n:Nat) (b:Bs) (k:Nat) (out:Bs) (v cnt j:Nat):Option (Ctl (Bs×Int) (Bs×Bool)):=
 if cnt=0 then zA n b k (Lib.decDigits (rz v) ++ [46]++Lib.decDigits (v-40*rz v)) 0 false 2 (j:Int)else
 if 12<cnt+1 then some (.ret ([],11))else zA n b k (out++([46]++Lib.decDigits v)) 0 false ((cnt+1:Nat):Int) (j:Int)
theorem BZ {n:Nat} (hn:20≤n) (b:Bs) (hb:b.length≤100000000) {v:Nat} (hv:v≤2147483727) (out:Bs) (ho:out.length≤100000000000) (cnt:Nat) (hc:cnt≤12):∀(g k i:Nat) (more:Bool) (rest:Bs),b.drop i=(hi v g ++ [v%128]).map o8++rest→(more=true∨∃c r,b.drop i=c::r∧c.toNat≠128) →
  zA n b (k+g+1) out ((v/128^(g+1):Nat):Int) more (cnt:Int) (i:Int)=Be n b k out v cnt (i+g+1)
 | 0,k,i,more,rest,hd,hm=>by
  have hi:i<b.length:=by
   apply Decidable.byContradiction; intro hc
   rw [List.drop_eq_nil_of_le (by omega)]at hd; simp [Go.Abs.hi]at hd
  have hm':¬(more=false∧b[i].toNat=128):=by
   rintro⟨h1,h2⟩
   rcases hm with h|⟨c,r,h,h3⟩
   ·rw [h]at h1; cases h1
   ·rw [List.drop_eq_getElem_cons hi]at h; rw [(List.cons.inj h).1]at h2; exact h3 h2
  have hx:b[i]=o8 (v%128):=by
   rw [List.drop_eq_getElem_cons hi]at hd; simp only [Go.Abs.hi,List.nil_append,List.map_cons,List.map_nil,List.singleton_append]at hd
   exact(List.cons.inj hd).1
  have hq:v/128^(0+1)=v/128:=by rw [Nat.zero_add,Nat.pow_one]
  rw [hq,Nat.add_zero,Jo hn b hb k out _ more cnt i hi (by omega) ho hc,if_neg hm',hx,gM (by omega),if_neg (by omega),if_neg (by omega),show 128*(v/128)+v%128%128=v by omega]
  rfl
 | g+1,k,i,more,rest,hd,hm=>by
  have hi:i<b.length:=by
   apply Decidable.byContradiction; intro hc
   rw [List.drop_eq_nil_of_le (by omega)]at hd; simp [Go.Abs.hi]at hd
  have hm':¬(more=false∧b[i].toNat=128):=by
   rintro⟨h1,h2⟩
   rcases hm with h|⟨c,r,h,h3⟩
   ·rw [h]at h1; cases h1
   ·rw [List.drop_eq_getElem_cons hi]at h; rw [(List.cons.inj h).1]at h2; exact h3 h2
  rw [List.drop_eq_getElem_cons hi]at hd
  simp only [Go.Abs.hi,List.cons_append,List.map_cons]at hd
  obtain⟨hx,hd⟩:=List.cons.inj hd
  have hpw:v/128^(g+1+1)=v/128^(g+1)/128:=by rw [Nat.div_div_eq_div_mul,Nat.pow_succ]
  have hle:v/128^(g+1)≤v:=Nat.div_le_self _ _
  have ih:=BZ (n:=n) hn b hb hv out ho cnt hc g k (i+1) true rest hd (.inl rfl)
  generalize hqe:v/128^(g+1)=q at hpw hle hx ih
  rw [hpw,show k+(g+1)+1=(k+g+1)+1 by omega,Jo hn b hb _ out _ more cnt i hi (by omega) ho hc,if_neg hm',hx,gM (by omega),if_neg (by omega),if_pos (by omega),show 128*(q/128)+(q%128+128)%128=q by omega,ih]
  rw [show i+1+g+1=i+(g+1)+1 by omega]
theorem DD {n:Nat} (hn:20≤n) (b:Bs) (hb:b.length≤100000000) {v:Nat} (hv:v≤2147483727) (out:Bs) (ho:out.length≤100000000000) (cnt:Nat) (hc:cnt≤12) (k i:Nat) (rest:Bs) (hd:b.drop i=pB v++rest):
  zA n b (k+grp v) out 0 false (cnt:Int) (i:Int)=Be n b k out v cnt (i+grp v)∧b.drop (i+grp v)=rest∧1≤grp v∧grp v≤5:=by
 have hg:=ZO (v:=v) (by omega)
 have hg1:=hg.1
 obtain⟨c,r,he,hcc⟩:=Uw (v:=v) (by omega)
 have e:=BZ (n:=n) hn b hb hv out ho cnt hc (grp v-1) k i false rest hd (.inr ⟨c,r++rest,by rw [hd,he]; rfl,hcc⟩)
 rw [show grp v-1+1=grp v by omega,hg.2.2.1,show((0:Nat):Int)=0 from rfl,show k+(grp v-1)+1=k+grp v by omega,show i+(grp v-1)+1=i+grp v by omega]at e
 have hlen:(pB v).length=grp v:=by unfold pB u5; simp [pr]; omega
 refine⟨e, ?_,hg1,hg.2.1⟩
 rw [←List.drop_drop,hd,←hlen,List.drop_left]
theorem Bk {n:Nat} (hn:20≤n) (b:Bs) (hb:b.length≤100000000):∀(suf:List Nat) (K i cnt:Nat) (out:Bs),5*suf.length<K→(∀x∈suf,x≤2147483647)→out.length+21*suf.length≤100000000000→2≤cnt→cnt+suf.length≤12→i≤b.length→b.drop i=(suf.map pB).flatten →
  zA n b K out 0 false (cnt:Int) (i:Int)=some (.nxt (out++Lib.joinTail [46] (suf.map fun a=>Lib.decDigits a),false))
 | [],K,i,cnt,out,hK,_,_,_,_,hi,hd=>by
  have:i=b.length:=by
   have:=congrArg List.length hd; simp at this; omega
  match K,hK with
  | K+1,_=>
   rw [zA,if_neg (by rw [decide_eq_true_eq]; omega)]; simp [Lib.joinTail]
 | v::suf,K,i,cnt,out,hK,hq,ho,h2,h12,hi,hd=>by
  have hv:=hq v (by simp)
  simp only [List.length_cons]at hK ho h12
  rw [List.map_cons,List.flatten_cons]at hd
  have hg5:=(ZO (v:=v) (by omega)).2.1
  have hd0:=hd
  obtain⟨e,hd,g1,g5⟩:=DD (n:=n) hn b hb (v:=v) (by omega) out (by omega) cnt (by omega) (K-grp v) i _ hd
  rw [show K-grp v+grp v=K by omega]at e
  have l3:=kM (u:=v) (by omega)
  have hlen:(pB v).length=grp v:=by unfold pB u5; simp [pr]; omega
  have hil2:i+grp v≤b.length:=by
   have:=congrArg List.length hd0; rw [List.length_drop,List.length_append,hlen]at this; omega
  rw [e]
  unfold Be
  rw [if_neg (by omega),if_neg (by omega),Bk hn b hb suf (K-grp v) (i+grp v) (cnt+1) _ (by omega) (fun x hx=>hq x (by simp [hx])) (by rw [List.length_append,List.length_append,List.length_singleton]; omega) (by omega) (by omega) hil2 hd]
  simp [Lib.joinTail]
theorem YS {n:Nat} {s:Bs} {l:List Nat} (h:vY s=some l) (hs:s.length≤100000000) (hn:s.length+400≤n):zD n (jG l)=some (s,0):=by
 have hok:=dy h
 have hno:=Jh hok
 have hlen:=XE hok
 have hdots:=Y2 h
 have harc:=ZH hok
 obtain⟨h2,h12,hr,hb⟩:=hok
 obtain⟨a,c,r,rfl⟩:=VB h2
 simp only [List.length_cons]at h12
 unfold zD
 have hv0:=hno.2 (40*a+c) (by simp [bW])
 have hd0:(jG (a::c::r)).drop 0=pB (40*a+c)++(r.map pB).flatten:=rfl
 have hg5:=(ZO (v:=40*a+c) (by omega)).2.1
 obtain⟨e,hd,g1,g5⟩:=DD (n:=n) (by omega) (jG (a::c::r)) (by omega) hv0 [] (by simp) 0 (by omega) (n-grp (40*a+c)) 0 _ hd0
 rw [show n-grp (40*a+c)+grp (40*a+c)=n by omega,show((0:Nat):Int)=0 from rfl]at e
 rw [e]
 unfold Be
 rw [if_pos rfl]
 have hz:rz (40*a+c)=a∧40*a+c-40*rz (40*a+c)=c:=by
  simp only [bW,qj]at harc
  injection harc with e1 e2
  injection e2 with e2 e3
  exact⟨e1,e2⟩
 rw [hz.2,hz.1]
 have ha:=hb a (by simp)
 have hc:=hb c (by simp)
 have l1:=kM (u:=a) (by omega)
 have l2:=kM (u:=c) (by omega)
 have hlen0:(pB (40*a+c)).length=grp (40*a+c):=by unfold pB u5; simp [pr]; omega
 have hil2:0+grp (40*a+c)≤(jG (a::c::r)).length:=by
  have:=congrArg List.length hd0; rw [List.length_drop,List.length_append,hlen0]at this; omega
 have hl:=Bk (n:=n) (by omega) (jG (a::c::r)) (by omega) r (n-grp (40*a+c)) (0+grp (40*a+c)) 2 (Lib.decDigits a ++ [46]++Lib.decDigits c) (by omega) (fun x hx=>hb x (by simp [hx])) (by rw [List.length_append,List.length_append,List.length_singleton]; omega) (by omega) (by omega) hil2 hd
 rw [show((2:Nat):Int)=2 from rfl]at hl
 rw [hl]
 have hds:Lib.decDigits a ++ [46]++Lib.decDigits c++Lib.joinTail [46] (r.map fun a=>Lib.decDigits a)=s:=by
  rw [←hdots]; unfold Ki
  rw [List.map_cons,List.map_cons,Lib.join_cons]
  simp [Lib.joinTail]
 rw [hds]
 simp only [ym]
 have hne:(jG (a::c::r)).length≠0:=by
  intro hh; omega
 rw [if_neg (by rw [beq_iff_eq]; omega),if_neg (by simp),Zn hs (by omega),h]
 rfl
end Go.Abs
end
