/- The typed Lean form of WireEncodesQueries gives true for every list of at most 9223372036854775807 numbers and every raw query of at most as many issuers. -/
import Derived.Test.YtbggpcnbbhjiaaaGreatDoorLaw1
set_option linter.unusedVariables false
set_option linter.unusedSimpArgs false
set_option linter.unnecessarySimpa false
section
set_option maxRecDepth 100000
namespace Go.Abs
open Go Go.Proofs
def dg (v:Nat):Nat→List Nat
 |0=> []
 |g+1=>(v/128^g%128)::dg v g
def hi (v:Nat):Nat→List Nat
 |0=> []
 |g+1=>(v/128^(g+1)%128+128)::hi v g
def Grp (v g:Nat):Prop:=1≤g∧g≤5∧v/128^g=0∧∀j,1≤j→j<g→0<v/128^j
def grp (v:Nat):Nat:=if v<128 then 1 else if v<16384 then 2 else if v<2097152 then 3 else if v<268435456 then 4 else 5
theorem Bm {v:Nat} (h:v<34359738368):Grp v (grp v):=by
 have p1:(128:Nat)^1=128:=rfl
 have p2:(128:Nat)^2=16384:=rfl
 have p3:(128:Nat)^3=2097152:=rfl
 have p4:(128:Nat)^4=268435456:=rfl
 have p5:(128:Nat)^5=34359738368:=rfl
 have key:∀g,1≤g→g≤5→v<128^g→(g=1∨128^(g-1)≤v)→Grp v g:=by
  intro g h1 h5 hlt hge
  refine⟨h1,h5,Nat.div_eq_of_lt hlt,fun j j1 jg=> ?_⟩
  refine Nat.div_pos ?_ (Nat.pow_pos (by omega))
  rcases hge with rfl|hge
  ·omega
  ·exact Nat.le_trans (Nat.pow_le_pow_right (by omega) (by omega)) hge
 unfold grp
 split
 ·exact key 1 (by omega) (by omega) (by omega) (.inl rfl)
 ·split
  ·exact key 2 (by omega) (by omega) (by omega) (.inr (by simp; omega))
  ·split
   ·exact key 3 (by omega) (by omega) (by omega) (.inr (by simp; omega))
   ·split
    ·exact key 4 (by omega) (by omega) (by omega) (.inr (by simp; omega))
    ·exact key 5 (by omega) (by omega) (by omega) (.inr (by simp; omega))
def jW (v:Nat):List Nat:=hi v (grp v-1) ++ [v%128]
def eO (v:Nat):Bs:=(jW v).map o8
theorem Ve (v g:Nat):(hi v g).length=g:=by induction g<;>simp [hi, *]
theorem Br (v g:Nat):(dg v g).length=g:=by induction g<;>simp [dg, *]
theorem WE (v:Nat):(jW v).length≤5∧1≤(jW v).length:=by
 simp only [jW,L6,Ve,L8]
 unfold grp; repeat' split
 all_goals omega
theorem cq (l:List Nat):b2s (yQ l)=l.map o8:=by
 induction l with
 |nil=>rfl
 | cons a r ih=>
  simp only [b2s,yQ,Ld]at *
  rw [ih]; simp [o8]
theorem fF {v j:Nat} (hj:j≤8):YI .i64 (v:Int) (IntKind.wrap .u64 ((7:Int)*(IntKind.wrap .u64 (j:Int))))=some ((v/128^j:Nat):Int):=by
 have hw:IntKind.wrap .u64 (j:Int)=(j:Int):=by
  have:j=0∨j=1∨j=2∨j=3∨j=4∨j=5∨j=6∨j=7∨j=8:=by omega
  rcases this with rfl|rfl|rfl|rfl|rfl|rfl|rfl|rfl|rfl<;>rfl
 have hw2:IntKind.wrap .u64 ((7:Int)*(j:Int))=((7*j:Nat):Int):=by
  have:j=0∨j=1∨j=2∨j=3∨j=4∨j=5∨j=6∨j=7∨j=8:=by omega
  rcases this with rfl|rfl|rfl|rfl|rfl|rfl|rfl|rfl|rfl<;>rfl
 rw [hw,hw2]
 unfold YI
 rw [L3 (by omega)]
 have hm:min ((7*j:Nat):Int).toNat IntKind.i64.bits=7*j:=by
  rw [Int.toNat_natCast]; show min (7*j) 64=7*j; omega
 rw [hm]
 have:((2:Int)^(7*j))=((128^j:Nat):Int):=by
  rw [show(128:Nat)=2^7 from rfl,←Nat.pow_mul]; simp
 rw [this,Kt _ _ (Nat.pow_pos (by omega))]
theorem Pu {x:Nat} (hx:x<9223372036854775808):IntKind.wrap .u8 (w7 .i64 (x:Int) 127)=((x%128:Nat):Int):=by
 rw [show(127:Int)=((127:Nat):Int)from rfl,QM hx (by omega),show(127:Nat)=2^7-1 from rfl,Nat.and_two_pow_sub_one_eq_mod,wr8 (by omega) (by omega)]
theorem f0 {x:Nat} (hx:x<9223372036854775808):IntKind.wrap .u8 (ior .i64 (w7 .i64 (x:Int) 127) 128)=((x%128+128:Nat):Int):=by
 rw [show(127:Int)=((127:Nat):Int)from rfl,QM hx (by omega),show(127:Nat)=2^7-1 from rfl,Nat.and_two_pow_sub_one_eq_mod,show(128:Int)=((128:Nat):Int)from rfl,eA (by omega) (by omega),Nat.or_comm]
 have:=Nat.two_pow_add_eq_or_of_lt (i:=7) (b:=x%2^7) (by omega) 1
 rw [show(2:Nat)^7*1=128 from rfl]at this
 rw [←this,wr8 (by omega) (by omega)]
 omega
theorem K9 {n v g:Nat} (hg:Grp v g):∀(k j:Nat),1≤j→j≤g→g-j<k→uW n (v:Int) k (j:Int)=some (g:Int)
 |0,_,_,_,h=>by omega
 | k+1,j,h1,h2,h3=>by
  have h5:=hg.2.1
  rw [uW,fF (by omega)]
  simp only [L0]
  by_cases hj:j<g
  ·have:=hg.2.2.2 j h1 hj
   rw [L4 (by rw [L1]; omega),w1 (by omega)]
   exact K9 hg k (j+1) (by omega) (by omega) (by omega)
  ·have:j=g:=by omega
   subst this
   rw [hg.2.2.1,L3 (by simp)]
theorem Bv {n v:Nat} (hv:v<9223372036854775808):∀(k i c:Nat) (b:List Int),i≤8→i<k→b.length=c→c+i≤1000000→ua n (v:Int) k c (i:Int) b=some (c+i,b++yQ (hi v i))
 |0,_,_,_,_,h,_,_=>by omega
 |k+1,0,c,b,_,_,hb,hc=>by rw [ua,L3 (by simp)]; simp [hi,yQ]
 | k+1,i+1,c,b,h8,hk,hb,hc=>by
  rw [ua,L4 (by simp),fF h8]
  simp only [L0]
  rw [f0 (Nat.lt_of_le_of_lt (Nat.div_le_self _ _) hv)]
  have ho:gI 1 c b ([((v/128^(i+1)%128+128:Nat):Int)]:List Int)=some (b ++ [((v/128^(i+1)%128+128:Nat):Int)]):=by
   unfold gI; rw [L4 (by simp; omega)]
  rw [ho,xf (by omega),show((i+1:Nat):Int)-1=(i:Int)by omega]
  simp only [L0,L8]
  rw [Bv hv k i (c+1) _ (by omega) (by omega) (by simp [hb]) (by omega)]
  simp [hi,yQ]; omega
theorem eF {n v:Nat} (hv:v<34359738368) (hn:20≤n):pq n (v:Int)=some ((jW v).length,yQ (jW v)):=by
 have hg:=Bm hv
 have h5:=hg.2.1
 have h1:=hg.1
 unfold pq
 have e1:=K9 (n:=n) hg n 1 (by omega) hg.1 (by omega)
 rw [show((1:Nat):Int)=1 from rfl]at e1
 rw [e1]
 simp only [L0]
 rw [xf (by omega),show((grp v:Nat):Int)-1=((grp v-1:Nat):Int)by omega,Bv (by omega) n (grp v-1) 0 [] (by omega) (by omega) rfl (by omega)]
 simp only [L0,Li]
 rw [Pu (by omega)]
 have ho:gI 1 (0+(grp v-1)) (yQ (hi v (grp v-1))) ([((v%128:Nat):Int)]:List Int)=some (yQ (jW v)):=by
  unfold gI; rw [L4 (by simp [wg,Ve]; omega)]; simp [yQ,jW]
 rw [ho]
 simp [jW,Ve]
theorem GL {n:Nat} (a:Int):∀(k:Nat) (v:Int),jq n a k v=uW n a k v
 |0,v=>rfl
 |k+1,v=>by rw [jq,uW]; simp only [GL a k]
theorem GE {n:Nat} (a:Int):∀(k c:Nat) (v:Int) (b:List Int),jr n a k c v b=ua n a k c v b
 |0,_,_,_=>rfl
 |k+1,c,v,b=>by rw [jr,ua]; simp only [GE a k]
theorem De {n v c:Nat} {m:List Int} (hv:v<34359738368) (hn:20≤n) (hm:m.length=c) (hc:c≤100000):gf n c (v:Int) m=some (c+(jW v).length,m++yQ (jW v)):=by
 have hg:=Bm hv
 have h5:=hg.2.1
 have h1:=hg.1
 unfold gf
 have e1:=K9 (n:=n) hg n 1 (by omega) hg.1 (by omega)
 rw [show((1:Nat):Int)=1 from rfl]at e1
 rw [GL,e1]
 simp only [L0,GE]
 rw [xf (by omega),show((grp v:Nat):Int)-1=((grp v-1:Nat):Int)by omega,Bv (by omega) n (grp v-1) c m (by omega) (by omega) hm (by omega)]
 simp only [L0]
 rw [Pu (by omega)]
 have ho:gI 1 (c+(grp v-1)) (m++yQ (hi v (grp v-1))) ([((v%128:Nat):Int)]:List Int)=some (m++yQ (jW v)):=by
  unfold gI; rw [L4 (by simp [wg,Ve]; omega)]; simp [yQ,jW]
 rw [ho]
 simp [jW,Ve]; omega
def Zs (l:List Nat):List Nat:=match l with
 |a::b::r=>(40*a+b)::r
 |_=> []
def pz (l:List Nat):Bs:=((Zs l).map eO).flatten
theorem Xo {n:Nat} (hn:20≤n) (r:List Nat) (hr:∀x∈r,x<34359738368) (hl:r.length≤1000):∀(k:Nat) (pre suf:List Nat) (m:List Int),r=pre++suf→suf.length<k→m.length≤5+5*pre.length →
  vW n (yQ r) k m.length (pre.length:Int) m=some (m.length+((suf.map jW).flatten).length,m++yQ ((suf.map jW).flatten))
 |0,_,_,_,_,h,_=>by omega
 | k+1,pre,[],m,hp,hk,hm=>by
  simp at hp; subst hp
  rw [vW,L3 (by simp [wg])]
  simp [yQ]
 | k+1,pre,x::suf,m,hp,hk,hm=>by
  have hlen:r.length=pre.length+(suf.length+1):=by rw [hp]; simp
  have hx:z1 (yQ r) (pre.length:Int)=some (x:Int):=by
   rw [z2 (by rw [wg]; omega)]; congr 1; simp [yQ,hp]
  have hxv:=hr x (by rw [hp]; simp)
  have h5:=WE x
  rw [vW,L4 (by simp [wg]; omega),hx]
  simp only [L0]
  rw [De hxv hn rfl (by omega)]
  simp only [L0]
  rw [w1 (by omega)]
  have ih:=Xo hn r hr hl k (pre ++ [x]) suf (m++yQ (jW x)) (by rw [hp]; simp) (by simp at hk; omega) (by simp [wg]; omega)
  rw [L6,wg]at ih
  rw [show pre.length+1=(pre ++ [x]).length by simp,ih]
  simp [yQ,Nat.add_assoc]
theorem GI (l:List Nat):b2s (yQ (((Zs l).map jW).flatten))=pz l:=by
 rw [cq]
 unfold pz
 generalize Zs l=q
 induction q with
 |nil=>rfl
 |cons a r ih=>simp only [Ld,List.flatten_cons,List.map_append,ih]; rfl
def Bh (l:List Nat):Prop:=2≤l.length∧l.length≤12∧Zv l=true∧∀x∈l,x≤2147483647
theorem kf {s:Bs} {l:List Nat} (h:vA s=some l):Bh l:=by
 unfold vA at h
 split at h
 ·rename_i hc
  injection h with h; subst h
  refine⟨by simp; exact hc.1,by simp; exact hc.2.1,hc.2.2.2, ?_⟩
  intro x hx
  obtain⟨p,hp,rfl⟩:=Lg.1 hx
  exact((bZ p).1 (Lf.1 hc.2.2.1 p hp)).2.2.2.2
 ·cases h
theorem PW {α β:Type} {x:β} {a:Option α} {b:β→Option α}:onE (some x) a b=b x:=rfl
theorem BN {l:List Nat} (h:2≤l.length):∃a b r,l=a::b::r:=by
 match l,h with
 | [],h=>simp at h
 | [_],h=>simp at h
 |a::b::r,_=>exact⟨a,b,r,rfl⟩
theorem XS {n:Nat} {s:Bs} {l:List Nat} (hs:s.length≤100000000) (hn:s.length+40≤n) (h:vA s=some l):uX n s=some (pz l,0):=by
 obtain⟨h2,h12,hr,hb⟩:=kf h
 obtain⟨a,b,r,rfl⟩:=BN h2
 have ha:=hb a (by simp)
 have hbb:=hb b (by simp)
 have ha2:a≤2:=by
  simp only [Zv,Bool.or_eq_true,Le,L1]at hr; omega
 unfold uX
 rw [Qz hs (by omega),h]
 rw [Option.map_some,L0,PW,L0]
 have k0:z1 (yQ (a::b::r)) 0=some (a:Int):=by simp [z1,yQ]
 have k1:z1 (yQ (a::b::r)) 1=some (b:Int):=by simp [z1,yQ]
 have k2:lsl (yQ (a::b::r)) 2 ((yQ (a::b::r)).length:Nat)=some (yQ r):=by
  unfold lsl; rw [L4 (by simp [wg]; omega),Int.toNat_natCast,List.take_length]; rfl
 rw [show lne (yQ (a::b::r))=some ()from rfl,k0,k1]
 simp only [L0]
 have e1:IntKind.wrap .i64 (IntKind.wrap .i64 ((40:Int)*(a:Int))+(b:Int))=((40*a+b:Nat):Int):=by
  rw [xf (x:=(40:Int)*(a:Int)) (by omega),xf (by omega)]; omega
 rw [e1,eF (by omega) (by omega),k2]
 simp only [L0]
 have h5:=WE (40*a+b)
 simp only [L9]at h12
 have hl:=Xo (n:=n) (by omega) r (fun x hx=>by have:=hb x (by simp [hx]); omega) (by omega) n [] r (yQ (jW (40*a+b))) rfl (by omega) (by simp [wg]; omega)
 rw [wg]at hl
 rw [show(0:Int)=((([]:List Nat).length:Nat):Int)from rfl,hl]
 simp only [L0]
 have e2:yQ (jW (40*a+b))++yQ ((r.map jW).flatten)=yQ (((Zs (a::b::r)).map jW).flatten):=by simp [Zs,yQ]
 rw [e2]
 have e3:Wz ((jW (40*a+b)).length+((r.map jW).flatten).length) (yQ (((Zs (a::b::r)).map jW).flatten))=some (pz (a::b::r)):=by
  unfold Wz
  have hlen:(yQ (((Zs (a::b::r)).map jW).flatten)).length=(jW (40*a+b)).length+((r.map jW).flatten).length:=by
   rw [←e2,L6,wg,wg]
  rw [L4 (by rw [hlen]; exact Nat.le_refl _),←hlen,List.take_length,GI]
 rw [e3]; rfl
theorem nT (v:Nat):Int.tdiv (v:Int) 128=((v/128:Nat):Int):=by
 rw [show(128:Int)=((128:Nat):Int)from rfl]; exact(Int.ofNat_tdiv v 128).symm
theorem lR (v:Nat):Int.tmod (v:Int) 128=((v%128:Nat):Int):=by
 rw [show(128:Int)=((128:Nat):Int)from rfl]; exact(Int.ofNat_tmod v 128).symm
theorem Q3 (l:List Int):Wn l.length l=some l:=by unfold Wn; rw [L4 (Nat.le_refl _),List.take_length]
theorem PB {n v g:Nat} (hv:v<34359738368) (hg:Grp v g):∀(k i:Nat),i<g→g-i≤k →
  zZ n k ((v/128^i:Nat):Int) i (yQ (dg v i))=some (g,yQ (dg v g))
 |0,i,h,hk=>by omega
 | k + 1,i,h,hk=>by
  have h5:=hg.2.1
  have hvi:v/128^i<34359738368:=Nat.lt_of_le_of_lt (Nat.div_le_self _ _) hv
  have hd:v/128^i/128=v/128^(i+1):=by rw [Nat.div_div_eq_div_mul,Nat.pow_succ]
  have hw:IntKind.wrap .i64 (Int.tdiv ((v/128^i:Nat):Int) 128)=((v/128^(i+1):Nat):Int):=by
   have hvj:v/128^(i+1)<34359738368:=Nat.lt_of_le_of_lt (Nat.div_le_self _ _) hv
   rw [nT,hd,xf (by generalize v/128^(i+1)=q at hvj ⊢; omega)]
  have hw8:IntKind.wrap .u8 (Int.tmod ((v/128^i:Nat):Int) 128)=((v/128^i%128:Nat):Int):=by
   rw [lR,wr8 (by omega) (by omega)]
  have hnx:(if(((v/128^(i+1):Nat):Int)==0)=true then some (i+1,yQ (dg v (i+1)))else zZ n k ((v/128^(i+1):Nat):Int) (i+1) (yQ (dg v (i+1))))=some (g,yQ (dg v g)):=by
   by_cases hj:i+1<g
   ·have:=hg.2.2.2 (i+1) (by omega) hj
    rw [L3 (by rw [beq_iff_eq]; generalize v/128^(i+1)=q at this ⊢; omega)]
    rw [PB hv hg k (i+1) hj (by omega)]
   ·have:i+1=g:=by omega
    subst this
    rw [hg.2.2.1,L4 (by simp)]
  rw [zZ]
  have e0:Wn i (yQ (dg v i))=some (yQ (dg v i)):=by
   have:=Q3 (yQ (dg v i)); rwa [wg,Br]at this
  rw [e0]
  simp only [L0,hw,hw8]
  match i,h,hk,hnx with
  | 0,h,hk,hnx=>
   rw [L4 (show List.isEmpty (yQ (dg v 0))=true from rfl)]
   exact hnx
  | i+1,h,hk,hnx=>
   rw [L3 (by simp [dg,yQ])]
   have ho:gI 1 1 ([((v/128^(i+1)%128:Nat):Int)]:List Int) (yQ (dg v (i+1)))=some (yQ (dg v (i+1+1))):=by
    unfold gI; rw [L4 (by simp [wg,Br]; omega)]; rfl
   rw [ho]
   simp only [L0,wg,Br]
   rw [show 1+(i+1)=i+1+1 by omega]
   exact hnx
def lo (v:Nat):Nat→List Nat
 |0=> []
 |g+1=>(v/128^(g+1)%128)::lo v g
theorem fu (v:Nat):∀g,dg v (g+1)=lo v g ++ [v%128]
 |0=>by simp [dg,lo]
 |g+1=>by rw [dg,fu v g]; rfl
theorem fE (v:Nat):∀g,hi v g=(lo v g).map (· + 128)
 |0=>rfl
 |g+1=>by rw [hi,fE v g]; rfl
theorem fH (v:Nat):∀g,∀x∈lo v g,x<128
 |0,x,h=>by simp [lo]at h
 | g+1,x,h=>by
  simp only [lo,Lo]at h
  rcases h with rfl|h
  ·omega
  ·exact fH v g x h
theorem DV (v g:Nat):(lo v g).length=g:=by induction g<;>simp [lo, *]
theorem Ph {n g:Nat} (q:List Int) (x:Nat) (hg5:g≤1000):∀(k:Nat) (a b:List Nat),(∀y∈b,y<128)→a.length+b.length+1=g→b.length<k →
  yc n (g,q) k (a.length:Int) (yQ (a++b ++ [x]))=some (yQ (a++b.map (· + 128) ++ [x]))
 |0,a,b,_,_,h=>by omega
 | k+1,a,[],_,hg,_=>by
  simp at hg
  rw [yc,w1 (by omega),L3 (by simp; omega)]
  simp
 | k+1,a,y::b,hy,hg,hk=>by
  simp only [L9]at hg hk
  have hy0:=hy y (by simp)
  have ho:qh g (a.length:Int)=some a.length:=by unfold qh; rw [L4 (by omega),Int.toNat_natCast]
  have hge:(yQ (a++y::b ++ [x]))[a.length*1]? =some (y:Int):=by
   simp [yQ]
  rw [yc,w1 (by omega),L4 (by simp; omega)]
  simp only [ho,L0,hge]
  rw [wr8 (by omega) (by omega)]
  have hs:pT (yQ (a++y::b ++ [x])) (a.length*1) ((y:Int)+128)=some (yQ ((a ++ [y+128])++b ++ [x])):=by
   unfold pT
   rw [L4 (by simp [wg])]
   simp [yQ,List.set_append]
  rw [hs]
  simp only [L0]
  have ih:=Ph (n:=n) q x hg5 k (a ++ [y+128]) b (fun z hz=>hy z (by simp [hz])) (by simp; omega) (by omega)
  rw [show((a ++ [y+128]).length:Int)=((a.length+1:Nat):Int)by simp]at ih
  rw [ih]
  simp
theorem cR {n v:Nat} (hv:v<34359738368) (hn:20≤n):(zZ n n (v:Int) 0 ([]:List Int)).bind (fun y1414=>
  (yc n y1414 n 0 y1414.2).bind fun y1452=>Wn y1414.1 y1452)=some (yQ (jW v)):=by
 have hg:=Bm hv
 have h5:=hg.2.1
 have h1:=hg.1
 have e:=PB (n:=n) hv hg n 0 (by omega) (by omega)
 rw [Nat.pow_zero,Nat.div_one,show yQ (dg v 0)= []from rfl]at e
 rw [e]
 simp only [L0]
 obtain⟨g',hg'⟩:∃g',grp v=g'+1:=⟨grp v-1,by omega⟩
 have e3:=Ph (n:=n) (g:=grp v) (yQ (dg v (grp v))) (v%128) (by omega) n [] (lo v g') (fH v g') (by simp [DV,hg']) (by simp [DV]; omega)
 rw [Li,←fu,←hg',Li,←fE,show(([]:List Nat).length:Int)=0 from rfl]at e3
 rw [e3]
 simp only [L0]
 have hen:hi v g' ++ [v%128]=jW v:=by unfold jW; rw [hg']; rfl
 rw [hen]
 have hl:(jW v).length=grp v:=by unfold jW; simp [Ve]; omega
 have:=Q3 (yQ (jW v))
 rwa [wg,hl]at this
theorem Qw {n:Nat} (hn:20≤n) (r:List Nat) (hr:∀x∈r,x<34359738368) (hl:r.length≤1000):∀(k:Nat) (pre suf:List Nat) (m:List Int),r=pre++suf→suf.length<k→m.length≤5+5*pre.length →
  yu n (yQ r) k m.length (pre.length:Int) m=some (m.length+((suf.map jW).flatten).length,m++yQ ((suf.map jW).flatten))
 |0,_,_,_,_,h,_=>by omega
 | k+1,pre,[],m,hp,hk,hm=>by
  simp at hp; subst hp
  rw [yu,L3 (by simp [wg])]
  simp [yQ]
 | k+1,pre,x::suf,m,hp,hk,hm=>by
  have hlen:r.length=pre.length+(suf.length+1):=by rw [hp]; simp
  have hx:z1 (yQ r) (pre.length:Int)=some (x:Int):=by
   rw [z2 (by rw [wg]; omega)]; congr 1; simp [yQ,hp]
  have hxv:=hr x (by rw [hp]; simp)
  have h5:=WE x
  have h1:=cR (n:=n) hxv hn
  obtain⟨y1,e1,h1⟩:=Q4 h1
  obtain⟨y2,e2,h1⟩:=Q4 h1
  rw [yu,L4 (by simp [wg]; omega),hx,L0,e1,L0,e2,L0,h1,L0]
  have hne:List.isEmpty (yQ (jW x))=false:=by
   match he:jW x,h5 with
   | [],h5=>simp at h5
   |_::_,_=>rfl
  rw [hne,L3 (by simp)]
  have ho:gI 1 m.length m (yQ (jW x))=some (m++yQ (jW x)):=by
   unfold gI; rw [L4 (by rw [wg]; exact⟨rfl,by omega,by omega⟩)]
  rw [ho]
  simp only [L0]
  rw [w1 (by omega)]
  have ih:=Qw hn r hr hl k (pre ++ [x]) suf (m++yQ (jW x)) (by rw [hp]; simp) (by simp at hk; omega) (by simp [wg]; omega)
  rw [L6]at ih
  rw [show pre.length+1=(pre ++ [x]).length by simp,ih]
  simp [yQ,Nat.add_assoc]
theorem Xn {n:Nat} {s:Bs} {l:List Nat} (hs:s.length≤100000000) (hn:s.length+40≤n) (h:vA s=some l):xw n s=some (pz l,0):=by
 obtain⟨h2,h12,hr,hb⟩:=kf h
 obtain⟨a,b,r,rfl⟩:=BN h2
 have ha:=hb a (by simp)
 have hbb:=hb b (by simp)
 have ha2:a≤2:=by
  simp only [Zv,Bool.or_eq_true,Le,L1]at hr; omega
 simp only [L9]at h12
 unfold xw
 rw [KM hs (by omega),h,L0]
 simp only []
 rw [L3 (by simp)]
 have k0:z1 (yQ (a::b::r)) 0=some (a:Int):=by simp [z1,yQ]
 have k1:z1 (yQ (a::b::r)) 1=some (b:Int):=by simp [z1,yQ]
 have k2:lsl (yQ (a::b::r)) 2 ((yQ (a::b::r)).length:Nat)=some (yQ r):=by
  unfold lsl; rw [L4 (by simp [wg]; omega),Int.toNat_natCast,List.take_length]; rfl
 rw [k0,k1,k2]
 simp only [L0]
 have e1:IntKind.wrap .i64 (IntKind.wrap .i64 ((40:Int)*(a:Int))+(b:Int))=((40*a+b:Nat):Int):=by
  rw [xf (x:=(40:Int)*(a:Int)) (by omega),xf (by omega)]; omega
 rw [e1]
 have ey:(if List.isEmpty (yQ r)=true then some ([((40*a+b:Nat):Int)]:List Int)else(kD 8 ([((40*a+b:Nat):Int)]:List Int) (yQ r)).bind fun x5=>some x5)=some (yQ (Zs (a::b::r))):=by
  match r with
  | []=>rfl
  | c::r=>
   rw [L3 (by simp [yQ])]
   unfold kD
   simp only [L9]at h12
   rw [L4 (by simp [wg]; omega)]; rfl
 rw [ey,L0]
 have hl:=Qw (n:=n) (by omega) (Zs (a::b::r)) (fun x hx=>by
  simp only [Zs,Lo]at hx
  rcases hx with rfl|hx
  ·omega
  ·have:=hb x (by simp [hx]); omega) (by simp [Zs]; omega) n [] (Zs (a::b::r)) [] rfl (by simp [Zs]; omega) (by simp)
 rw [show((([]:List Nat).length:Nat):Int)=0 from rfl,Ll,Li,Nat.zero_add]at hl
 rw [hl,L0]
 have e3:Wz (((Zs (a::b::r)).map jW).flatten).length (yQ (((Zs (a::b::r)).map jW).flatten))=some (pz (a::b::r)):=by
  unfold Wz
  have hlen:=wg (((Zs (a::b::r)).map jW).flatten)
  rw [L4 (by rw [hlen]; exact Nat.le_refl _),←hlen,List.take_length,GI]
 simp only []
 rw [e3]; rfl
theorem Dk (q:Bs) (c:UInt8):dval (q ++ [c])=10*dval q+(c.toNat-48):=by simp [dval]
theorem D5 {c:UInt8} (h:dW c=true):UInt8.ofNat (48+(c.toNat-48))=c:=by
 simp only [dW,Le,L1]at h
 rw [show 48+(c.toNat-48)=c.toNat by omega]; exact UInt8.ofNat_toNat
theorem fg:∀(k:Nat) (p:Bs),p.length=k+1→p.all dW=true→p.head? ≠some 48→Lib.decDigits (dval p)=p∧1≤dval p
 | 0,p,hl,hd,hh=>by
  match p,hl with
  | [c],_=>
   simp only [List.all_cons,List.all_nil,Bool.and_true]at hd
   have e:dval [c]=c.toNat-48:=by simp [dval]
   have h2:=hd
   simp only [dW,Le,L1]at h2
   rw [e,Lib.decDigits_one (by omega),D5 hd]
   refine⟨rfl, ?_⟩
   have:c.toNat≠48:=fun h=>hh (by rw [List.head?_cons,←UInt8.ofNat_toNat (x:=c),h]; rfl)
   omega
 | k+1,p,hl,hd,hh=>by
  obtain⟨q,c,rfl⟩:∃q c,p=q ++ [c]:=⟨p.dropLast,p.getLast (by intro h; rw [h]at hl; simp at hl),(List.dropLast_concat_getLast _).symm⟩
  simp only [L6,L8]at hl
  rw [List.all_append]at hd
  simp only [List.all_cons,List.all_nil,Bool.and_true,Le]at hd
  have hq:q.head? ≠some 48:=by
   match q,hl with
   |x::q,_=>simpa using hh
  obtain⟨ih1,ih2⟩:=fg k q (by omega) hd.1 hq
  have h2:=hd.2
  simp only [dW,Le,L1]at h2
  rw [Dk]
  refine⟨?_,by omega⟩
  rw [Lib.decDigits,dif_neg (by omega),show(10*dval q+(c.toNat-48))/10=dval q by omega,show(10*dval q+(c.toNat-48))%10=c.toNat-48 by omega,ih1,D5 hd.2]
theorem Dw {p:Bs} (h:qG p=true):Lib.decDigits (dval p)=p:=by
 obtain⟨h1,h2,h3,h4,h5⟩:=(bZ p).1 h
 by_cases hh:p.head? =some 48
 ·have:p.length≤1:=by
   apply Decidable.byContradiction; intro hc; exact h3 ⟨by omega,hh⟩
  match p,h1,this,hh with
  | [c],_,_,hh=>simp at hh; subst hh; rw [show dval [48]=0 from rfl]; exact Lib.decDigits_one (by omega)
 ·match p,h1,hh,h4 with
  |c::r,_,hh,h4=>exact(fg r.length (c::r) rfl h4 hh).1
def eI (l:List Nat):Bs:=Lib.join (l.map fun a=>Lib.decDigits a) [46]
theorem Uk (c:UInt8):∀s:Bs,Lib.join (splitB c s) [c]=s
 | []=>Lib.join_one _ _
 | x ::r=>by
  have ih:=Uk c r
  rw [splitB]
  split
  ·rename_i h
   subst h
   match hs:splitB x r,Y7 x r,ih with
   | p::ps,_,ih=>
    rw [Lib.join_cons]at ih ⊢
    rw [Li]
    show [x]++p++Lib.joinTail [x] ps=_
    rw [Lp,ih]; rfl
  ·match hs:splitB c r,Y7 c r,ih with
   | p::ps,_,ih=>
    rw [Lib.join_cons]at ih
    show Lib.join ((x::p)::ps) [c]=_
    rw [Lib.join_cons,List.cons_append,ih]
theorem K3 {s:Bs} {l:List Nat} (h:vA s=some l):eI l=s:=by
 unfold vA at h
 split at h
 ·rename_i hc
  injection h with h; subst h
  unfold eI
  rw [List.map_map]
  have:(splitB 46 s).map ((fun a=>Lib.decDigits a)∘dval)=splitB 46 s:=by
   have hall:=Lf.1 hc.2.2.1
   generalize splitB 46 s=ps at hall ⊢
   induction ps with
   |nil=>rfl
   | cons p r ih=>
    rw [Ld,ih (fun x hx=>hall x (by simp [hx]))]
    rw [Function.comp,Dw (hall p (by simp))]
  rw [this,Uk]
 ·cases h
theorem cO {u:Nat} (h:u<18446744073709551616):(Lib.decDigits u).length≤20:=by
 rw [Lib.decDigits_length]; exact Lib.nDigits_le20 u h
theorem Jn (sep:Bs) (b:Nat):∀l:List Bs,(∀x∈l,x.length≤b)→(Lib.joinTail sep l).length≤l.length*(sep.length+b)
 | [],_=>by simp [Lib.joinTail]
 | x::r,h=>by
  have h1:=h x (by simp)
  have ih:=Jn sep b r (fun y hy=>h y (by simp [hy]))
  have e:Lib.joinTail sep (x::r)=sep++x++Lib.joinTail sep r:=by simp [Lib.joinTail]
  rw [e,L6,L6,L9,Nat.succ_mul]; omega
theorem Pb {sep:Bs} {b:Nat} {l:List Bs} (h:∀x∈l,x.length≤b):(Lib.join l sep).length≤l.length*(sep.length+b):=by
 match l,h with
 | [],_=>simp [Lib.join_nil]
 | x::r,h=>
  have h1:=h x (by simp)
  have ih:=Jn sep b r (fun y hy=>h y (by simp [hy]))
  rw [Lib.join_cons,L6,L9,Nat.succ_mul]; omega
theorem fe {l:List Nat} (h:Bh l):(Zs l).length+1=l.length∧∀x∈Zs l,x≤2147483727:=by
 have h':=h
 obtain⟨h2,h12,hr,hb⟩:=h
 obtain⟨a,b,r,rfl⟩:=BN h2
 have ha:=hb a (by simp)
 have hbb:=hb b (by simp)
 simp only [Zv,Bool.or_eq_true,Le,L1]at hr
 refine⟨by simp [Zs], ?_⟩
 intro x hx
 simp only [Zs,Lo]at hx
 rcases hx with rfl|hx
 ·omega
 ·have:=hb x (by simp [hx]); omega
theorem gn {l:List Nat} (h:Bh l):(pz l).length≤55:=by
 have h1:=fe h
 have h12:=h.2.1
 have key:∀q:List Nat,((q.map eO).flatten).length≤5*q.length:=by
  intro q
  induction q with
  |nil=>simp
  | cons a r ih=>
   have:=(WE a).1
   rw [Ld,List.flatten_cons,L6,L9]
   have e:(eO a).length=(jW a).length:=by simp [eO]
   omega
 have:=key (Zs l)
 unfold pz; omega
def polE (s:Bs):Nat×Bs:=(6,pz ((vA s).getD []))
theorem Za {t:Nat} {c:Bs} (h:c.length≤131072):tWrap t c=((tWrap t c).1,0):=by unfold tWrap; rw [L4 h]
theorem WH {n t:Nat} {c:Bs} (h1:t≤255) (h2:t%32≠31) (hc:c.length≤1000000000000) (hn:20≤n):wf n (t:Int) [c]=some (tWrap t c):=by
 have:=YQ (n:=n) (t:=t) (cs:= [c]) h1 h2 (by simpa using hc) (by simp; omega) (by simp)
 rw [this]; simp
theorem mO {n t:Nat} {c:Bs} (h1:t≤255) (h2:t%32≠31) (hc:c.length≤1000000000000) (hn:20≤n):yp n (t:Int) [c]=some (tWrap t c):=by
 have:=pC (n:=n) (t:=t) (cs:= [c]) h1 h2 (by simpa using hc) (by simp; omega) (by simp)
 rw [this]; simp
theorem Uu {n:Nat} {b a:Bs} {e:Int} (h:b.length+a.length≤1000000000000):zU n a e ⟨b,0⟩=some ⟨b++a,e⟩:=by
 unfold zU
 rw [L4 (by rfl),xh (by show b.length+a.length≤_; omega)]; rfl
theorem Gy {n t:Nat} {b c:Bs} (h1:t≤255) (h2:t%32≠31) (hc:b.length+c.length≤100000000000) (hn:20≤n):zQ n (t:Int) c ⟨b,0⟩=some ⟨b++(tWrap t c).1,(tWrap t c).2⟩:=by
 unfold zQ
 have:=ym t c
 rw [WH h1 h2 (by omega) hn,L0,Uu (by omega)]; rfl
theorem qm (l:List (Nat×Bs)) (p:Nat×Bs):wraps (p::l)=(tWrap p.1 p.2).1++wraps l:=by simp [wraps, -List.length_flatten]
theorem Y8 {m:Nat}:∀l:List (Nat×Bs),(∀p∈l,p.2.length≤m)→(wraps l).length≤(m+5)*l.length
 | [],_=>by simp [wraps]
 | p::l,h=>by
  have h1:=h p (by simp)
  have h2:=ym p.1 p.2
  have ih:=Y8 l (fun q hq=>h q (by simp [hq]))
  rw [qm,L6,L9,Nat.mul_succ]; omega
theorem lO {n:Nat} {b:Bs} {e:Int} (he:e≠0) (hb:b.length≤100000000000) (hn:20≤n):xr n ⟨b,e⟩=some ([],2,⟨b,e⟩):=by
 unfold xr
 have:=WH (n:=n) (t:=48) (c:=b) (by omega) (by omega) (by omega) hn
 rw [show((48:Nat):Int)=48 from rfl]at this
 rw [this]
 simp only [L0]
 rw [L4 (by simpa using he)]; rfl
theorem Qt {n:Nat} {b:Bs} (hb:b.length≤100000000000) (hn:20≤n):xr n ⟨b,0⟩=some (if 131072<b.length then([],2,⟨b,0⟩)else((tWrap 48 b).1,0,⟨b,0⟩)):=by
 unfold xr
 have:=WH (n:=n) (t:=48) (c:=b) (by omega) (by omega) (by omega) hn
 rw [show((48:Nat):Int)=48 from rfl]at this
 rw [this]
 simp only [L0]
 rw [L3 (by simp)]
 by_cases h:131072<b.length
 ·rw [L4 h]; unfold tWrap; rw [L3 (by omega)]; rfl
 ·rw [L3 h,Za (by omega)]; rfl
theorem Yt {n t:Nat} {c:Bs} (h1:t≤255) (h2:t%32≠31) (hc:c.length≤1000000000000) (hn:20≤n):zE n (t:Int) [c]=some (tWrap t c).1:=by
 unfold zE
 rw [mO h1 h2 hc hn]; rfl
theorem ou {n:Nat} {s:Bs} (hs:s.length≤100000000) (hn:s.length+40≤n) (h:(vA s).isSome=true):wJ n s=some (tWrap (polE s).1 (polE s).2).1:=by
 obtain⟨l,hl⟩:=Option.isSome_iff_exists.1 h
 unfold wJ
 have hlen:=gn (kf hl)
 have:=Yt (n:=n) (t:=6) (c:=pz l) (by omega) (by omega) (by omega) (by omega)
 rw [show((6:Nat):Int)=6 from rfl]at this
 rw [Xn hs hn hl,L0,this]
 simp [polE,hl]
theorem ifb (a b:Bool):(if a=true then some true else some b)=some (a||b):=by cases a<;>rfl
theorem P2 {l:List Nat} (h:l.length≤12) (hl:∀x∈l,x≤4294967294):(eI l).length≤252:=by
 unfold eI
 have:=Pb (sep:= [46]) (b:=20) (l:=l.map fun a=>Lib.decDigits a) (by
  intro x hx; obtain⟨a,ha,rfl⟩:=Lg.1 hx
  have:=hl a ha; exact cO (by omega))
 rw [La,L8]at this; omega
theorem DM {s:Bs} (h:(vA s).isSome=true):s.length≤252:=by
 obtain⟨l,hl⟩:=Option.isSome_iff_exists.1 h
 have h2:=kf hl
 rw [←K3 hl]
 exact P2 h2.2.1 (fun x hx=>by have:=h2.2.2.2 x hx; omega)
def vE (d:zh):Prop:=0≤d.zW∧d.zW≤(d.f_L.length:Int)∧d.f_L.length≤9223372036854775807
theorem G9 {α:Type} {l:List α} {i:Int} (h0:0≤i) (h1:i<(l.length:Int)):∃x,z1 l i=some x∧x∈l:=by
 have h:i.toNat<l.length:=by omega
 exact⟨l[i.toNat],by simp [z1,h0,h],by simp⟩
theorem PE {n:Nat} {k:Int} {d:zh} (hk:0<k) (hk2:k≤4611686018427387904) (hd:vE d):
  ∃r d',zp n k d=some (r,d')∧0≤r∧r<k∧vE d':=by
 obtain⟨h0,h1,h2⟩:=hd
 unfold zp
 by_cases hc:d.zW≥(d.f_L.length:Int)
 ·exact⟨0,d,by simp [hc],by omega,by omega,h0,h1,h2⟩
 ·have ha:IntKind.wrap .i64 (d.zW+1)=d.zW+1:=xf (by omega)
  have hb:IntKind.wrap .i64 (IntKind.wrap .i64 (d.zW+1)-1)=d.zW:=by rw [ha,xf (by omega)]; omega
  obtain⟨x,hx,_⟩:=G9 h0 (Int.not_le.1 hc)
  have hm1: -k<x.tmod k:=by
   have:=Int.lt_tmod_of_pos x hk; omega
  have hm2:x.tmod k<k:=Int.tmod_lt_of_pos x hk
  have hw:IntKind.wrap .i64 (x.tmod k+k)=x.tmod k+k:=xf (by omega)
  refine⟨(x.tmod k+k).tmod k,⟨d.f_L,d.zW+1⟩, ?_, ?_, ?_, ?_⟩
  ·rw [hb,hx,ha]
   have hk':k≠0:=by omega
   simp [hc,P4,hk',hw]
  ·exact Int.tmod_nonneg k (by omega)
  ·exact Int.tmod_lt_of_pos _ hk
  ·exact⟨by simp; omega,by simp; omega,h2⟩
theorem vi {n:Nat} {k:Int} {d:zh} (hk:0<k) (hk2:k≤4611686018427387904) (hd:vE d):∃r d',zp n k d=some (r,d')∧0≤r∧r<k∧vE d':=PE hk hk2 hd
def sm (x:Int):Bool:=decide (0≤x)&&decide (x<64)
def lL (t:Nat) (x:Int):Nat×Bs:=(t,[o8 x.toNat])
theorem DW {x:Int} (h:sm x=true):∃v:Nat,x=(v:Int)∧v<64:=by
 simp only [sm,Le,L1]at h
 exact⟨x.toNat,by omega,by omega⟩
theorem sj {n t:Nat} {b:Bs} {x:Int} (hx:sm x=true) (h1:t≤255) (h2:t%32≠31) (hb:b.length≤10000000000) (hn:20≤n):vg n (t:Int) x ⟨b,0⟩=some ⟨b++(tWrap t [o8 x.toNat]).1,0⟩:=by
 obtain⟨v,rfl,hv⟩:=DW hx
 unfold vg
 rw [BK hn hv,L0,Gy h1 h2 (by simp; omega) hn,Int.toNat_natCast,Za (c:= [o8 v]) (by simp)]; rfl
theorem Pm {n t:Nat} {b:Bs} {x:Int} (hx:sm x=true) (h1:t≤255) (h2:t%32≠31) (hb:b.length≤10000000000) (hn:20≤n):wt n x ⟨b,0⟩=some ⟨b++(tWrap 2 [o8 x.toNat]).1,0⟩:=by
 unfold wt
 have:=sj (n:=n) (t:=2) hx (by omega) (by omega) hb hn
 rw [show((2:Nat):Int)=2 from rfl]at this
 rw [this]; rfl
theorem rU {n:Nat} {b s:Bs} (hs:s.length≤100000000) (hn:s.length+40≤n) (h:(vA s).isSome=true) (hb:b.length≤10000000000):jO n s ⟨b,0⟩=some ⟨b++(tWrap (polE s).1 (polE s).2).1,0⟩:=by
 obtain⟨l,hl⟩:=Option.isSome_iff_exists.1 h
 unfold jO
 have hlen:=gn (kf hl)
 have h2:=Gy (n:=n) (t:=6) (b:=b) (c:=pz l) (by omega) (by omega) (by omega) (by omega)
 rw [show((6:Nat):Int)=6 from rfl]at h2
 rw [XS hs hn hl,L0]
 simp only []
 rw [Uu (by simp; omega),Lj,L0,h2,Za (c:=pz l) (by omega)]
 simp [polE,hl]
theorem KQ {n B:Nat} (hB:B≤100000000) (hn:B+40≤n) (a:List Bs) (ha:a.length≤10000000) (hs:a.all (fun s=>(vA s).isSome)=true) (hl:∀s∈a,s.length≤B):∀(k i:Nat) (b:Bs),i≤a.length→a.length-i<k→b.length+60*(a.length-i)≤1000000000 →
  xX n a k (i:Int) b 0=some (b++wraps ((a.drop i).map polE),0)
 |0,_,_,_,h,_=>by omega
 | k+1,i,b,hi,hk,hb=>by
  rw [xX]
  by_cases hc:i<a.length
  ·have hx:=Lf.1 hs a[i] (Lk hc)
   have hxl:=hl a[i] (Lk hc)
   have hl0:=ym 6 (polE a[i]).2
   obtain⟨l,he⟩:=Option.isSome_iff_exists.1 hx
   have hl1:(polE a[i]).2.length≤55:=by unfold polE; rw [he]; exact gn (kf he)
   rw [L4 (by rw [L1]; omega),z2 hc,L0,rU (by omega) (by omega) hx (by omega),L0,w1 (by omega)]
   show xX n a k _ _ 0=_
   rw [KQ hB hn a ha hs hl k (i+1) _ (by omega) (by omega) (by rw [L6]; show b.length+(tWrap 6 (polE a[i]).2).1.length+_≤_; omega),Lb hc,Ld,qm,Lp]
  ·rw [L3 (by rw [L1]; omega),Lc (by omega)]; simp [wraps]
theorem UV {a:List Bs} (hs:a.all (fun s=>(vA s).isSome)=true):(wraps (a.map polE)).length≤60*a.length:=by
 have:=Y8 (m:=55) (a.map polE) (by
  intro p hp; obtain⟨x,hx,rfl⟩:=Lg.1 hp
  obtain⟨l,he⟩:=Option.isSome_iff_exists.1 (Lf.1 hs x hx)
  unfold polE; rw [he]; exact gn (kf he))
 rw [La]at this; omega
end Go.Abs
end
