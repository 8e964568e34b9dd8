/- The typed Lean form of WireDecodesQueries gives true for every list of at most 9223372036854775807 numbers. -/
import Derived.Test.YtbggpcnbbhjiaaaGreatDoorLaw2
set_option linter.unusedVariables false
set_option linter.unusedSimpArgs false
set_option linter.unnecessarySimpa false
section
set_option maxRecDepth 100000
namespace Go.Abs
open Go Go.Proofs IntKind
theorem zbd {v:Nat} (c:UInt8) (hv:v≤4294967294):ior .i64 (wrap .i64 ((v:Int)*128)) (uU .i64 (wrap .i64 (c.toNat:Int)) 127)=((128*v+c.toNat%128:Nat):Int):=by
 have hc:=W6 c
 rw [z6 (x:=(v:Int)*128) O0,z6 (x:=(c.toNat:Int)) O0,show(127:Int)=((127:Nat):Int)from rfl,Gq O0 O0,show(127:Nat)=2^7-1 from rfl,Nat.and_two_pow_sub_one_eq_mod,
  show(v:Int)*128=((2^7*v:Nat):Int)by omega]
 exact oC (i:=7) O0 O0
theorem mc {n:Nat} (b:Bs) (acc:List Int) (i k v:Nat) (hv:v≤4294967294) (hi:i<b.length) (hb:b.length≤1000000000) (ha:acc.length≤1000000000):
  wR n b acc (k+1) (i:Int) (v:Int)=if 4294967294<128*v+b[i].toNat%128 then some (.ret [])else if b[i].toNat<128 then some (.nxt (acc ++ [((128*v+b[i].toNat%128:Nat):Int)],((i+1:Nat):Int)))else wR n b acc k ((i+1:Nat):Int) ((128*v+b[i].toNat%128:Nat):Int):=by
 have hc:=W6 b[i]
 rw [wR,L6 O3,vj hi,L0,zbd _ hv]
 have hw:wrap .i64 (b[i].toNat:Int)=(b[i].toNat:Int):=z6 O0
 rw [w1 O0,hw]
 by_cases h1:4294967294<128*v+b[i].toNat%128
 ·rw [L6 h1,L6 O4]
 ·rw [L4 h1,L4 O4]
  by_cases h2:b[i].toNat<128
  ·rw [L6 h2,L6 O4,yx O3]; rfl
  ·rw [L4 h2,L4 O4]
theorem GA {n:Nat} (b:Bs) (acc:List Int) (hb:b.length≤1000000000) (ha:acc.length≤1000000000):∀(k i v:Nat),v≤4294967294→i≤b.length→b.length-i<k →
  wR n b acc k (i:Int) (v:Int)=some (.ret [])∨∃x j:Nat,wR n b acc k (i:Int) (v:Int)=some (.nxt (acc ++ [(x:Int)],(j:Int)))∧x≤4294967294∧i<j∧j≤b.length
 |0,_,_,_,_,h=>O0
 | k + 1,i,v,hv,hi,hk=>by
  by_cases hc:i<b.length
  ·rw [mc b acc i k v hv hc hb ha]
   by_cases h1:4294967294<128*v+b[i].toNat%128
   ·rw [L6 h1]; exact .inl rfl
   ·rw [L4 h1]
    by_cases h2:b[i].toNat<128
    ·rw [L6 h2]; exact .inr ⟨_,_,rfl,O0,O0,O0⟩
    ·rw [L4 h2]
     rcases GA b acc hb ha k (i+1) (128*v+b[i].toNat%128) O0 O0 O0 with h|⟨x,j,h,a1,a2,a3⟩
     ·exact .inl h
     ·exact .inr ⟨x,j,h,a1,O0,a3⟩
  ·rw [wR,L4 O3]; exact .inl rfl
theorem GO {n:Nat} (b:Bs) (hb:b.length≤500000000) (hn:b.length+2≤n):∀(k i:Nat) (acc:List Nat),i≤b.length→b.length-i<k→acc.length≤i→(∀x∈acc,x≤4294967294) →
  wO n b k (yC acc) (i:Int)=some (.ret [])∨∃l:List Nat,wO n b k (yC acc) (i:Int)=some (.nxt (yC l))∧(∀x∈l,x≤4294967294)∧l.length≤b.length
 |0,_,_,_,h,_,_=>O0
 | k + 1,i,acc,hi,hk,ha,hq=>by
  rw [wO]
  by_cases hc:i<b.length
  ·rw [L6 O3,vj hc,L0]
   by_cases h8:(((b[i].toNat:Int))==128)=true
   ·rw [L6 h8]; exact .inl rfl
   ·rw [L4 h8]
    have h0:=GA (n:=n) b (yC acc) O0 (by rw [xh]; omega) n i 0 O0 hi O0
    rw [show((0:Nat):Int)=0 from rfl]at h0
    rcases h0 with h|⟨x,j,h,a1,a2,a3⟩
    ·rw [h]; exact .inl rfl
    ·rw [h]
     have:=GO b hb hn k j (acc ++ [x]) a3 O0 O3 (by
      intro y hy; rw [Lo]at hy
      rcases hy with hy|hy
      ·exact hq y hy
      ·simp at hy; subst hy; exact a1)
     rw [show yC (acc ++ [x])=yC acc ++ [(x:Int)]by simp [yC]]at this
     exact this
  ·rw [L4 O3]
   exact .inr ⟨acc,rfl,hq,O0⟩
theorem fm {n:Nat} (b:Bs) (hb:b.length≤500000000) (hn:b.length+2≤n):∃l:List Nat,bz n b=some (yC l)∧(∀x∈l,x≤4294967294)∧l.length≤b.length:=by
 unfold bz
 have h:=GO b hb hn n 0 [] O0 O0 O2 O2
 rw [show((0:Nat):Int)=0 from rfl,show yC []= []from rfl]at h
 rcases h with h|⟨l,h,h1,h2⟩
 ·rw [h]; exact⟨[],rfl,O2,O2⟩
 ·rw [h]; exact⟨l,rfl,h1,h2⟩
theorem eT {n:Nat} (b:Bs) (acc:List Int) (hb:b.length≤1000000000) (ha:acc.length≤1000000000) {v:Nat} (hv:v≤4294967294):∀(g k i:Nat) (rest:Bs),g<k→b.drop i=(hi v g ++ [v%128]).map o8++rest →
  wR n b acc k (i:Int) ((v/128^(g+1):Nat):Int)=some (.nxt (acc ++ [(v:Int)],((i+g+1:Nat):Int)))
 |g,0,_,_,h,_=>O0
 | 0,k+1,i,rest,_,hd=>by
  have hi:i<b.length:=by
   apply Decidable.byContradiction; intro hc
   rw [Ld O0]at hd; simp [hi]at hd
  have hx:b[i]=o8 (v%128):=by
   rw [Lc hi]at hd; simp only [Go.Abs.hi,Lj,Le,List.map_nil,List.singleton_append]at hd
   exact(List.cons.inj hd).1
  have hq:v/128^(0+1)=v/128:=by rw [Nat.zero_add,Nat.pow_one]
  rw [hq,mc b acc i k _ O0 hi hb ha,hx,Xc O0,L4 O0,L6 O0,show 128*(v/128)+v%128%128=v by omega]
 | g+1,k+1,i,rest,hk,hd=>by
  have hi:i<b.length:=by
   apply Decidable.byContradiction; intro hc
   rw [Ld O0]at hd; simp [Go.Abs.hi]at hd
  rw [Lc hi]at hd
  simp only [Go.Abs.hi,List.cons_append,Le]at hd
  obtain⟨hx,hd⟩:=List.cons.inj hd
  have hpw:v/128^(g+1+1)=v/128^(g+1)/128:=by rw [Nat.div_div_eq_div_mul,Nat.pow_succ]
  have hle:v/128^(g+1)≤v:=Nat.div_le_self _ _
  have ih:=eT (n:=n) b acc hb ha hv g k (i+1) rest O0 hd
  generalize hqe:v/128^(g+1)=q at hpw hle hx ih
  rw [hpw,mc b acc i k _ O0 hi hb ha,hx,Xc O0,L4 O0,L4 O0,show 128*(q/128)+(q%128+128)%128=q by omega,ih]
  rw [show i+1+g+1=i+(g+1)+1 by omega]
theorem D1 {v:Nat} (hv:v<34359738368):∃c r,WZ v=c::r∧c.toNat≠128:=by
 have hg:=UX hv
 unfold WZ kp
 obtain⟨g,hgg⟩:∃g,grp v=g+1:=⟨grp v-1,by have:=hg.1; omega⟩
 rw [hgg,Nat.add_sub_cancel]
 match g,hgg with
 |0,_=>exact⟨_,_,rfl,by rw [Xc O0]; omega⟩
 | g+1,hgg=>
  refine⟨_,_,rfl, ?_⟩
  have h1:=hg.2.2.2 (g+1) O0 O0
  have h2:=hg.2.2.1
  rw [hgg,Nat.pow_succ 128 (g+1),←Nat.div_div_eq_div_mul]at h2
  generalize v/128^(g+1)=q at h1 h2 ⊢
  rw [Xc O0]; omega
theorem KU {n:Nat} (b:Bs) (hb:b.length≤500000000) (hn:20≤n):∀(suf:List Nat) (k i:Nat) (acc:List Int),suf.length<k→acc.length+suf.length≤1000000→(∀x∈suf,x≤4294967294)→i≤b.length→b.drop i=(suf.map WZ).flatten →
  wO n b k acc (i:Int)=some (.nxt (acc++yC suf))
 |suf,0,_,_,h,_,_,_,_=>O0
 | [],k+1,i,acc,_,_,_,hi,hd=>by
  have:i=b.length:=by
   have:=congrArg List.length hd; simp at this; omega
  rw [wO,L4 O3]; simp [yC]
 | v::suf,k+1,i,acc,hk,ha,hq,hi,hd=>by
  have hv:=hq v O2
  rw [Le,List.flatten_cons]at hd
  obtain⟨c,r,he,hc⟩:=D1 (v:=v) O0
  have hil:i<b.length:=by
   apply Decidable.byContradiction; intro hcc
   rw [Ld O0,he]at hd; simp at hd
  have hbi:b[i]=c:=by
   rw [Lc hil,he]at hd; exact(List.cons.inj hd).1
  have hg:=UX (v:=v) O0
  have hg1:=hg.1
  have hg5:=hg.2.1
  have e2:=eT (n:=n) b acc O0 O0 hv (grp v-1) n i ((suf.map WZ).flatten) O0 hd
  rw [show grp v-1+1=grp v by omega,hg.2.2.1,show((0:Nat):Int)=0 from rfl,show i+(grp v-1)+1=i+grp v by omega]at e2
  have hlen:(WZ v).length=grp v:=by unfold WZ kp; simp [Ve]; omega
  have hd2:b.drop (i+grp v)=(suf.map WZ).flatten:=by
   rw [←List.drop_drop,hd,←hlen,List.drop_left]
  have hil2:i+grp v≤b.length:=by
   have:=congrArg List.length hd; rw [List.length_drop,L8,hlen]at this; omega
  simp only [La]at hk ha
  have ih:=KU b hb hn suf k (i+grp v) (acc ++ [(v:Int)]) O0 O3 (fun x hx=>hq x (by simp [hx])) hil2 hd2
  rw [wO,L6 O3,vj hil,L0,hbi,L4 O9,e2]
  show wO n b k _ _=_
  rw [ih]; simp [yC]
theorem th (a:Nat):Lib.itoa (a:Int)=Lib.decDigits a:=Lib.itoa_nonneg a
theorem sx {n:Nat} (L:List Nat) (hl:L.length≤12) (hL:∀x∈L,x≤9000000000):∀(k i:Nat) (acc:List Bs),i≤L.length→L.length-i<k→acc.length≤i →
  bi n (yC L) k acc (i:Int)=some (if(L.drop i).all (fun x=>decide (x≤2147483647))=true then .nxt (acc++(L.drop i).map fun a=>Lib.decDigits a)else .ret ([],11))
 |0,_,_,_,h,_=>O0
 | k + 1,i,acc,hi,hk,ha=>by
  rw [bi]
  by_cases hc:i<L.length
  ·have hx:zM (yC L) (i:Int)=some (L[i]:Int):=by
    rw [zQ (by rw [xh]; omega)]; congr 1; simp [yC]
   have hb:=hL L[i] (Ll hc)
   rw [L6 (by simp [xh]; omega),hx,L0,Lc hc,List.all_cons]
   by_cases h1:L[i]≤2147483647
   ·have hct:QM n (L[i]:Int)=some (Lib.decDigits L[i]):=by
     unfold QM; rw [L6 O0,th]
    rw [L4 O4,hct,L0,yx O3,L0,w1 O0,sx L hl hL k (i+1) _ O0 O0 O3,decide_eq_true h1,Bool.true_and]
    simp only [Le,Lq,List.singleton_append]
   ·rw [L6 O4,decide_eq_false h1,Bool.false_and,L4 O2]
  ·rw [L4 (by simp [xh]; omega),Ld O0]
   simp
def du:List Nat→List Nat
 | []=> []
 |v::r=>(if 2<v/40 then 2 else v/40)::(v-40*(if 2<v/40 then 2 else v/40))::r
def J3 (q:List Nat):Bool:=decide (q≠ [])&&decide (q.length≤11)&&(du q).all (fun x=>decide (x≤2147483647))
theorem JA {n:Nat} {b:Bs} {q:List Nat} (hn:40≤n) (h:bz n b=some (yC q)) (hq:∀x∈q,x≤4294967294) (hql:q.length≤500000000):yw n b=some (if J3 q=true then(mK (du q),0)else([],11)):=by
 unfold yw
 rw [h,L0,xh]
 by_cases h0:q= []
 ·subst h0; rfl
 ·obtain ⟨v,r,rfl⟩:=List.exists_cons_of_ne_nil h0
  have hv:=hq v O2
  rw [L4 (by rw [beq_iff_eq,La]; omega),L0]
  by_cases h11:(v::r).length≤11
  ·rw [L4 O4]
   have k0:zM (yC (v::r)) 0=some (v:Int):=by simp [zM,yC]
   have k2:lsl (yC (v::r)) 1 ((v::r).length:Nat)=some (yC r):=by
    unfold lsl; rw [L6 (by rw [xh,La]; omega),Int.toNat_natCast,List.take_of_length_le (by rw [xh]; exact Nat.le_refl _)]; rfl
   rw [k0,k2]
   simp only [L0]
   have e0:wrap .i64 (Int.tdiv (v:Int) 40)=((v/40:Nat):Int):=by
    rw [show(40:Int)=((40:Nat):Int)from rfl,(Int.ofNat_tdiv v 40).symm,z6 O0]
   rw [e0]
   have e1:(if(2:Int)<((v/40:Nat):Int)then(2:Int)else((v/40:Nat):Int))=(((if 2<v/40 then 2 else v/40):Nat):Int):=by
    by_cases c:2<v/40
    ·rw [L6 c,L6 O0]; rfl
    ·rw [L4 c,L4 O0]
   rw [e1]
   have hle:40*(if 2<v/40 then 2 else v/40)≤v:=by split<;>omega
   generalize hz:(if 2<v/40 then 2 else v/40)=z at hle ⊢
   have e2:wrap .i64 ((v:Int)-wrap .i64 ((40:Int)*(z:Int)))=((v-40*z:Nat):Int):=by
    rw [z6 (x:=(40:Int)*(z:Int)) O0,z6 O0]; omega
   rw [e2]
   have ey:(if List.isEmpty (yC r)=true then some ([(z:Int),((v-40*z:Nat):Int)]:List Int)else(gP 8 ([(z:Int),((v-40*z:Nat):Int)]:List Int) (yC r)).bind fun x5=>some x5)=some (yC (du (v::r))):=by
    rw [show du (v::r)=z::(v-40*z)::r by simp only [du,hz]]
    match r with
    | []=>rfl
    | c::r=>
     rw [L4 (by simp [yC])]
     unfold gP
     simp only [La]at h11
     rw [L6 (by simp [xh]; omega)]; rfl
   rw [ey,L0]
   have hlen:(du (v::r)).length≤12:=by simp only [du,La]at h11 ⊢; omega
   have hL:∀x∈du (v::r),x≤4294967294:=by
    intro x hx
    simp only [du,Lp,hz]at hx
    rcases hx with rfl|rfl|hx
    ·omega
    ·omega
    ·exact hq x (by simp [hx])
   have hd:=sx (n:=n) (du (v::r)) hlen (fun x hx=>by have:=hL x hx; omega) n 0 [] O0 O0 O2
   rw [show((0:Nat):Int)=0 from rfl,Li,Lj]at hd
   rw [hd]
   have hok:J3 (v::r)=(du (v::r)).all (fun x=>decide (x≤2147483647)):=by
    unfold J3; rw [decide_eq_true O2,decide_eq_true h11]; simp
   rw [hok]
   by_cases hall:(du (v::r)).all (fun x=>decide (x≤2147483647))=true
   ·rw [L6 hall,L6 hall]
    simp only [yb]
    have hj:WY n ((du (v::r)).map fun a=>Lib.decDigits a) [46]=some (mK (du (v::r))):=by
     unfold WY
     have:=eh (sep:= [46]) (b:=20) (l:=(du (v::r)).map fun a=>Lib.decDigits a) (by
      intro x hx; obtain⟨a,ha,rfl⟩:=Lh.1 hx
      have:=hL a ha; exact Zl O0)
     rw [Lb,L9]at this
     rw [L6 (by rw [Lb]; omega)]; rfl
    rw [hj]; rfl
   ·rw [L4 hall,L4 hall]; rfl
  ·rw [L6 O4,L4]
   unfold J3; rw [decide_eq_false h11]; simp
theorem UY {l:List Nat} (h:Pq l):du (Yq l)=l:=by
 obtain⟨h2,h12,hr,hb⟩:=h
 obtain⟨a,b,r,rfl⟩:=Gv h2
 simp only [XX,Bool.or_eq_true,Lf,L3]at hr
 simp only [Yq,du]
 rcases hr with⟨h1,h3⟩|h1
 ·rw [L4 O0,show(40*a+b)/40=a by omega,show 40*a+b-40*a=b by omega]
 ·subst h1
  have:(if 2<(40*2+b)/40 then 2 else(40*2+b)/40)=2:=by split<;>omega
  rw [this,show 40*2+b-40*2=b by omega]
theorem Pv {l:List Nat} (h:Pq l):(Yq l).length+1=l.length∧∀x∈Yq l,x≤2147483727:=by
 have h':=h
 obtain⟨h2,h12,hr,hb⟩:=h
 obtain⟨a,b,r,rfl⟩:=Gv h2
 have ha:=hb a O2
 have hbb:=hb b O2
 simp only [XX,Bool.or_eq_true,Lf,L3]at hr
 refine⟨by simp [Yq], ?_⟩
 intro x hx
 simp only [Yq,Lp]at hx
 rcases hx with rfl|hx
 ·omega
 ·have:=hb x (by simp [hx]); omega
theorem dJ {l:List Nat} (h:Pq l):(qA l).length≤55:=by
 have h1:=Pv h
 have h12:=h.2.1
 have key:∀q:List Nat,((q.map WZ).flatten).length≤5*q.length:=by
  intro q
  induction q with
  |nil=>simp
  | cons a r ih=>
   have:=(Qr a).1
   rw [Le,List.flatten_cons,L8,La]
   have e:(WZ a).length=(kp a).length:=by simp [WZ]
   omega
 have:=key (Yq l)
 unfold qA; omega
theorem Y8 {n:Nat} {s:Bs} {l:List Nat} (h:xG s=some l) (hn:100≤n):yw n (qA l)=some (s,0):=by
 have hok:=bB h
 have hno:=Pv hok
 have hlen:=dJ hok
 have h12:=hok.2.1
 have h2:=hok.1
 have hnum:bz n (qA l)=some (yC (Yq l)):=by
  unfold bz
  have:=KU (n:=n) (qA l) O0 O0 (Yq l) n 0 [] O0 O3 (fun x hx=>by have:=hno.2 x hx; omega) O0 rfl
  rw [show((0:Nat):Int)=0 from rfl]at this
  rw [this]; rfl
 rw [JA O0 hnum (fun x hx=>by have:=hno.2 x hx; omega) O0,UY hok,JJ h,L6]
 unfold J3
 rw [UY hok,decide_eq_true (by intro hc; rw [hc]at hno; have:=hno.1; simp at this; omega),decide_eq_true O0]
 simp only [Bool.true_and,Lg,L3]
 exact hok.2.2.2
theorem oD {n:Nat}:∀(k v:Nat),v<9000000000000000000→v<10^k→1≤k→z7 n k (v:Int)=some (Lib.decDigits v)
 |0,_,_,_,h=>O0
 | k + 1,v,hv,hk,_=>by
  rw [z7]
  by_cases h:v<10
  ·rw [L6 O4,Lib.decDigits_one h]
   rw [z6 O0,show(48:Int)+(v:Int)=((48+v:Nat):Int)by omega,wr8 O0 O0]
   show some [UInt8.ofNat ((48+v:Nat):Int).toNat]=_
   rw [Int.toNat_natCast]
  ·rw [L4 O4,Lib.decDigits,dif_neg h]
   have e1:Int.tdiv (v:Int) 10=((v/10:Nat):Int):=by rw [show(10:Int)=((10:Nat):Int)from rfl]; exact(Int.ofNat_tdiv v 10).symm
   have e2:Int.tmod (v:Int) 10=((v%10:Nat):Int):=by rw [show(10:Int)=((10:Nat):Int)from rfl]; exact(Int.ofNat_tmod v 10).symm
   have hk1:1≤k:=by
    match k,hk with
    |0,hk=>simp at hk; omega
    |k+1,_=>omega
   rw [e1,e2,z6 (x:=((v/10:Nat):Int)) O0,oD k (v/10) O0 (by rw [Nat.pow_succ]at hk; omega) hk1,L0]
   rw [z6 O0,show(48:Int)+((v%10:Nat):Int)=((48+v%10:Nat):Int)by omega,wr8 O0 O0]
   have hl:=Zl (u:=v/10) O0
   rw [show b2s ([((48+v%10:Nat):Int)]:List Int)= [UInt8.ofNat (48+v%10)]by show [UInt8.ofNat ((48+v%10:Nat):Int).toNat]=_; rw [Int.toNat_natCast]]
   rw [yd (by rw [L9]; omega)]; rfl
theorem KG {n v:Nat} (hn:20≤n) (hv:v<9000000000000000000):z7 n n (v:Int)=some (Lib.decDigits v):=
 oD n v hv (Nat.lt_of_lt_of_le (show v<10^20 by omega) (Nat.pow_le_pow_right O0 hn)) O0
def rz (v:Nat):Nat:=if 2<v/40 then 2 else v/40
theorem D5 {n:Nat} (hn:20≤n) (b:Bs) (hb:b.length≤100000000) (k:Nat) (out:Bs) (v:Nat) (more:Bool) (cnt i:Nat) (hi:i<b.length) (hv:v≤2147483727) (ho:out.length≤100000000000) (hc:cnt≤12):
  zL n b (k+1) out (v:Int) more (cnt:Int) (i:Int)=
   if more=false∧b[i].toNat=128 then some (.ret ([],11))else
   if 2147483727<128*v+b[i].toNat%128 then some (.ret ([],11))else
   if 128≤b[i].toNat then zL n b k out ((128*v+b[i].toNat%128:Nat):Int) true (cnt:Int) ((i+1:Nat):Int)else
   if cnt=0 then zL n b k (Lib.decDigits (rz (128*v+b[i].toNat%128)) ++ [46]++Lib.decDigits (128*v+b[i].toNat%128-40*rz (128*v+b[i].toNat%128))) 0 false 2 ((i+1:Nat):Int)else
   if 12<cnt+1 then some (.ret ([],11))else zL n b k (out++([46]++Lib.decDigits (128*v+b[i].toNat%128))) 0 false ((cnt+1:Nat):Int) ((i+1:Nat):Int):=by
 have hb8:=W6 b[i]
 rw [zL,L6 O4,vj hi]
 simp only [L0]
 have ey:(if(!more)=true then some ((b[i].toNat:Int)==128)else some false)=some (decide (more=false∧b[i].toNat=128)):=by
  cases more with
  |true=>rw [L4 O2]; simp
  | false=>
   rw [L6 O2]
   congr 1
   by_cases h:b[i].toNat=128
   ·rw [decide_eq_true ⟨rfl,h⟩,beq_iff_eq]; omega
   ·rw [decide_eq_false (fun h'=>h h'.2)]; rw [beq_eq_false_iff_ne]; omega
 rw [ey]
 simp only [L0]
 by_cases h1:more=false∧b[i].toNat=128
 ·rw [decide_eq_true h1,L6 rfl,L6 h1]; rfl
 ·rw [decide_eq_false h1,L4 O2,L4 h1]
  have em:Int.tmod (b[i].toNat:Int) 128=((b[i].toNat%128:Nat):Int):=by rw [show(128:Int)=((128:Nat):Int)from rfl]; exact(Int.ofNat_tmod _ 128).symm
  have ev:wrap .i64 (wrap .i64 ((128:Int)*(v:Int))+wrap .i64 (Int.tmod (b[i].toNat:Int) 128))=((128*v+b[i].toNat%128:Nat):Int):=by
   rw [em,z6 (x:=(128:Int)*(v:Int)) O0,z6 (x:=((b[i].toNat%128:Nat):Int)) O0,z6 O0]; omega
  rw [ev]
  generalize hV:128*v+b[i].toNat%128=V
  by_cases h2:2147483727<V
  ·rw [L6 O4,L6 h2]; rfl
  ·rw [L4 O4,L4 h2,w1 (i:=i) O0]
   by_cases h3:128≤b[i].toNat
   ·have hd:decide ((b[i].toNat:Int)≥128)=true:=O4
    rw [hd,L6 rfl,L6 h3]; rfl
   ·have hd:decide ((b[i].toNat:Int)≥128)=false:=by rw [decide_eq_false_iff_not]; omega
    rw [hd,L4 O2,L4 h3]
    have e0:wrap .i64 (Int.tdiv (V:Int) 40)=((V/40:Nat):Int):=by
     rw [show(40:Int)=((40:Nat):Int)from rfl,(Int.ofNat_tdiv V 40).symm,z6 O0]
    have e1:(if(2:Int)<((V/40:Nat):Int)then(2:Int)else((V/40:Nat):Int))=((rz V:Nat):Int):=by
     unfold rz
     by_cases c:2<V/40
     ·rw [L6 c,L6 O0]; rfl
     ·rw [L4 c,L4 O0]
    have hle:40*rz V≤V:=by unfold rz; split<;>omega
    rw [e0,e1]
    have e2:wrap .i64 ((V:Int)-wrap .i64 ((40:Int)*((rz V:Nat):Int)))=((V-40*rz V:Nat):Int):=by
     rw [z6 (x:=(40:Int)*((rz V:Nat):Int)) O0,z6 O0]; omega
    rw [e2]
    have l1:=Zl (u:=rz V) O0
    have l2:=Zl (u:=V-40*rz V) O0
    have l3:=Zl (u:=V) O0
    by_cases h4:cnt=0
    ·subst h4
     rw [L6 (by rfl),L6 rfl,KG hn O0,KG hn O0]
     simp only [L0]
     rw [yd (by rw [L9]; omega)]
     simp only [L0]
     rw [yd (by rw [L8,L9]; omega)]
     rfl
    ·rw [L4 O9,L4 h4,KG hn O0]
     simp only [L0]
     rw [yd (by rw [L9]; omega)]
     simp only [L0]
     rw [yd (by rw [L8,L9]; omega)]
     simp only [L0]
     rw [w1 (i:=cnt) O0]
     by_cases h5:12<cnt+1
     ·rw [L6 O4,L6 h5]; rfl
     ·rw [L4 O4,L4 h5]; rfl
theorem zey (v:Nat):40*rz v≤v:=by unfold rz; split<;>omega
def nz (n:Nat) (b:Bs) (k:Nat) (out:Bs) (v cnt j:Nat):Option (Ctl (Bs×Int) (Bs×Bool)):=
 if cnt=0 then zL n b k (Lib.decDigits (rz v) ++ [46]++Lib.decDigits (v-40*rz v)) 0 false 2 (j:Int)else
 if 12<cnt+1 then some (.ret ([],11))else zL n b k (out++([46]++Lib.decDigits v)) 0 false ((cnt+1:Nat):Int) (j:Int)
theorem nG {n:Nat} (hn:20≤n) (b:Bs) (hb:b.length≤100000000) {v:Nat} (hv:v≤2147483727) (out:Bs) (ho:out.length≤100000000000) (cnt:Nat) (hc:cnt≤12):∀(g k i:Nat) (more:Bool) (rest:Bs),b.drop i=(hi v g ++ [v%128]).map o8++rest→(more=true∨∃c r,b.drop i=c::r∧c.toNat≠128) →
  zL n b (k+g+1) out ((v/128^(g+1):Nat):Int) more (cnt:Int) (i:Int)=nz n b k out v cnt (i+g+1)
 | 0,k,i,more,rest,hd,hm=>by
  have hi:i<b.length:=by
   apply Decidable.byContradiction; intro hc
   rw [Ld O0]at hd; simp [Go.Abs.hi]at hd
  have hm':¬(more=false∧b[i].toNat=128):=by
   rintro⟨h1,h2⟩
   rcases hm with h|⟨c,r,h,h3⟩
   ·rw [h]at h1; cases h1
   ·rw [Lc hi]at h; rw [(List.cons.inj h).1]at h2; exact h3 h2
  have hx:b[i]=o8 (v%128):=by
   rw [Lc hi]at hd; simp only [Go.Abs.hi,Lj,Le,List.map_nil,List.singleton_append]at hd
   exact(List.cons.inj hd).1
  have hq:v/128^(0+1)=v/128:=by rw [Nat.zero_add,Nat.pow_one]
  rw [hq,Nat.add_zero,D5 hn b hb k out _ more cnt i hi O0 ho hc,L4 hm',hx,Xc O0,L4 O0,L4 O0,show 128*(v/128)+v%128%128=v by omega]
  rfl
 | g+1,k,i,more,rest,hd,hm=>by
  have hi:i<b.length:=by
   apply Decidable.byContradiction; intro hc
   rw [Ld O0]at hd; simp [Go.Abs.hi]at hd
  have hm':¬(more=false∧b[i].toNat=128):=by
   rintro⟨h1,h2⟩
   rcases hm with h|⟨c,r,h,h3⟩
   ·rw [h]at h1; cases h1
   ·rw [Lc hi]at h; rw [(List.cons.inj h).1]at h2; exact h3 h2
  rw [Lc hi]at hd
  simp only [Go.Abs.hi,List.cons_append,Le]at hd
  obtain⟨hx,hd⟩:=List.cons.inj hd
  have hpw:v/128^(g+1+1)=v/128^(g+1)/128:=by rw [Nat.div_div_eq_div_mul,Nat.pow_succ]
  have hle:v/128^(g+1)≤v:=Nat.div_le_self _ _
  have ih:=nG (n:=n) hn b hb hv out ho cnt hc g k (i+1) true rest hd (.inl rfl)
  generalize hqe:v/128^(g+1)=q at hpw hle hx ih
  rw [hpw,show k+(g+1)+1=(k+g+1)+1 by omega,D5 hn b hb _ out _ more cnt i hi O0 ho hc,L4 hm',hx,Xc O0,L4 O0,L6 O0,show 128*(q/128)+(q%128+128)%128=q by omega,ih]
  rw [show i+1+g+1=i+(g+1)+1 by omega]
theorem zac {n:Nat} (hn:20≤n) (b:Bs) (hb:b.length≤100000000) {v:Nat} (hv:v≤2147483727) (out:Bs) (ho:out.length≤100000000000) (cnt:Nat) (hc:cnt≤12) (k i:Nat) (rest:Bs) (hd:b.drop i=WZ v++rest):
  zL n b (k+grp v) out 0 false (cnt:Int) (i:Int)=nz n b k out v cnt (i+grp v)∧b.drop (i+grp v)=rest∧1≤grp v∧grp v≤5:=by
 have hg:=UX (v:=v) O0
 have hg1:=hg.1
 obtain⟨c,r,he,hcc⟩:=D1 (v:=v) O0
 have e:=nG (n:=n) hn b hb hv out ho cnt hc (grp v-1) k i false rest hd (.inr ⟨c,r++rest,by rw [hd,he]; rfl,hcc⟩)
 rw [show grp v-1+1=grp v by omega,hg.2.2.1,show((0:Nat):Int)=0 from rfl,show k+(grp v-1)+1=k+grp v by omega,show i+(grp v-1)+1=i+grp v by omega]at e
 have hlen:(WZ v).length=grp v:=by unfold WZ kp; simp [Ve]; omega
 refine⟨e, ?_,hg1,hg.2.1⟩
 rw [←List.drop_drop,hd,←hlen,List.drop_left]
theorem nD {n:Nat} (hn:20≤n) (b:Bs) (hb:b.length≤100000000):∀(suf:List Nat) (K i cnt:Nat) (out:Bs),5*suf.length<K→(∀x∈suf,x≤2147483647)→out.length+21*suf.length≤100000000000→2≤cnt→cnt+suf.length≤12→i≤b.length→b.drop i=(suf.map WZ).flatten →
  zL n b K out 0 false (cnt:Int) (i:Int)=some (.nxt (out++Lib.joinTail [46] (suf.map fun a=>Lib.decDigits a),false))
 | [],K,i,cnt,out,hK,_,_,_,_,hi,hd=>by
  have:i=b.length:=by
   have:=congrArg List.length hd; simp at this; omega
  match K,hK with
  | K+1,_=>
   rw [zL,L4 O4]; simp [Lib.joinTail]
 | v::suf,K,i,cnt,out,hK,hq,ho,h2,h12,hi,hd=>by
  have hv:=hq v O2
  simp only [La]at hK ho h12
  rw [Le,List.flatten_cons]at hd
  have hg5:=(UX (v:=v) O0).2.1
  have hd0:=hd
  obtain⟨e,hd,g1,g5⟩:=zac (n:=n) hn b hb (v:=v) O0 out O0 cnt O0 (K-grp v) i _ hd
  rw [show K-grp v+grp v=K by omega]at e
  have l3:=Zl (u:=v) O0
  have hlen:(WZ v).length=grp v:=by unfold WZ kp; simp [Ve]; omega
  have hil2:i+grp v≤b.length:=by
   have:=congrArg List.length hd0; rw [List.length_drop,L8,hlen]at this; omega
  rw [e]
  unfold nz
  rw [L4 O0,L4 O0,nD hn b hb suf (K-grp v) (i+grp v) (cnt+1) _ O0 (fun x hx=>hq x (by simp [hx])) (by rw [L8,L8,L9]; omega) O0 O0 hil2 hd]
  simp [Lib.joinTail]
theorem Zv {n:Nat} {s:Bs} {l:List Nat} (h:xG s=some l) (hs:s.length≤100000000) (hn:s.length+400≤n):zE n (qA l)=some (s,0):=by
 have hok:=bB h
 have hno:=Pv hok
 have hlen:=dJ hok
 have hdots:=JJ h
 have harc:=UY hok
 obtain⟨h2,h12,hr,hb⟩:=hok
 obtain⟨a,c,r,rfl⟩:=Gv h2
 simp only [La]at h12
 unfold zE
 have hv0:=hno.2 (40*a+c) (by simp [Yq])
 have hd0:(qA (a::c::r)).drop 0=WZ (40*a+c)++(r.map WZ).flatten:=rfl
 have hg5:=(UX (v:=40*a+c) O0).2.1
 obtain⟨e,hd,g1,g5⟩:=zac (n:=n) O0 (qA (a::c::r)) O0 hv0 [] O2 0 O0 (n-grp (40*a+c)) 0 _ hd0
 rw [show n-grp (40*a+c)+grp (40*a+c)=n by omega,show((0:Nat):Int)=0 from rfl]at e
 rw [e]
 unfold nz
 rw [L6 rfl]
 have hz:rz (40*a+c)=a∧40*a+c-40*rz (40*a+c)=c:=by
  simp only [Yq,du]at harc
  injection harc with e1 e2
  injection e2 with e2 e3
  exact⟨e1,e2⟩
 rw [hz.2,hz.1]
 have ha:=hb a O2
 have hc:=hb c O2
 have l1:=Zl (u:=a) O0
 have l2:=Zl (u:=c) O0
 have hlen0:(WZ (40*a+c)).length=grp (40*a+c):=by unfold WZ kp; simp [Ve]; omega
 have hil2:0+grp (40*a+c)≤(qA (a::c::r)).length:=by
  have:=congrArg List.length hd0; rw [List.length_drop,L8,hlen0]at this; omega
 have hl:=nD (n:=n) O0 (qA (a::c::r)) O0 r (n-grp (40*a+c)) (0+grp (40*a+c)) 2 (Lib.decDigits a ++ [46]++Lib.decDigits c) O0 (fun x hx=>hb x (by simp [hx])) (by rw [L8,L8,L9]; omega) O0 O0 hil2 hd
 rw [show((2:Nat):Int)=2 from rfl]at hl
 rw [hl]
 have hds:Lib.decDigits a ++ [46]++Lib.decDigits c++Lib.joinTail [46] (r.map fun a=>Lib.decDigits a)=s:=by
  rw [←hdots]; unfold mK
  rw [Le,Le,Lib.join_cons]
  simp [Lib.joinTail]
 rw [hds]
 simp only [yb]
 have hne:(qA (a::c::r)).length≠0:=by
  intro hh; omega
 rw [L4 O9,L4 O2,Z0 hs O0,h]
 rfl
def polE (s:Bs):Nat×Bs:=(6,qA ((xG s).getD []))
theorem WK {t:Nat} {c:Bs} (h:c.length≤131072):tWrap t c=((tWrap t c).1,0):=by unfold tWrap; rw [L6 h]
theorem Qn {n t:Nat} {c:Bs} (h1:t≤255) (h2:t%32≠31) (hc:c.length≤1000000000000) (hn:20≤n):vb n (t:Int) [c]=some (tWrap t c):=by
 have:=Vm (n:=n) (t:=t) (cs:= [c]) h1 h2 (Oa hc) O3 O2
 rw [this]; simp
theorem zdR {n t:Nat} {c:Bs} (h1:t≤255) (h2:t%32≠31) (hc:c.length≤1000000000000) (hn:20≤n):xi n (t:Int) [c]=some (tWrap t c):=by
 have:=XL (n:=n) (t:=t) (cs:= [c]) h1 h2 (Oa hc) O3 O2
 rw [this]; simp
theorem B0 {n:Nat} {b a:Bs} {e:Int} (h:b.length+a.length≤1000000000000):ym n a e ⟨b,0⟩=some ⟨b++a,e⟩:=by
 unfold ym
 rw [L6 (by rfl),yd (by show b.length+a.length≤_; omega)]; rfl
theorem PZ {n t:Nat} {b c:Bs} (h1:t≤255) (h2:t%32≠31) (hc:b.length+c.length≤100000000000) (hn:20≤n):zZ n (t:Int) c ⟨b,0⟩=some ⟨b++(tWrap t c).1,(tWrap t c).2⟩:=by
 unfold zZ
 have:=yc t c
 rw [Qn h1 h2 O0 hn,L0,B0 O0]; rfl
theorem gz (l:List (Nat×Bs)) (p:Nat×Bs):wraps (p::l)=(tWrap p.1 p.2).1++wraps l:=by simp [wraps, -List.length_flatten]
theorem Jg {m:Nat}:∀l:List (Nat×Bs),(∀p∈l,p.2.length≤m)→(wraps l).length≤(m+5)*l.length
 | [],_=>by simp [wraps]
 | p::l,h=>by
  have h1:=h p O2
  have h2:=yc p.1 p.2
  have ih:=Jg l (fun q hq=>h q (by simp [hq]))
  rw [gz,L8,La,Nat.mul_succ]; omega
theorem zdc {n:Nat} {b:Bs} {e:Int} (he:e≠0) (hb:b.length≤100000000000) (hn:20≤n):xw n ⟨b,e⟩=some ([],2,⟨b,e⟩):=by
 unfold xw
 have:=Qn (n:=n) (t:=48) (c:=b) O0 O0 O0 hn
 rw [show((48:Nat):Int)=48 from rfl]at this
 rw [this]
 simp only [L0]
 rw [L6 (Oa he)]; rfl
theorem eA {n:Nat} {b:Bs} (hb:b.length≤100000000000) (hn:20≤n):xw n ⟨b,0⟩=some (if 131072<b.length then([],2,⟨b,0⟩)else((tWrap 48 b).1,0,⟨b,0⟩)):=by
 unfold xw
 have:=Qn (n:=n) (t:=48) (c:=b) O0 O0 O0 hn
 rw [show((48:Nat):Int)=48 from rfl]at this
 rw [this]
 simp only [L0]
 rw [L4 O2]
 by_cases h:131072<b.length
 ·rw [L6 h]; unfold tWrap; rw [L4 O0]; rfl
 ·rw [L4 h,WK O0]; rfl
theorem Vz {n t:Nat} {c:Bs} (h1:t≤255) (h2:t%32≠31) (hc:c.length≤1000000000000) (hn:20≤n):zD n (t:Int) [c]=some (tWrap t c).1:=by
 unfold zD
 rw [zdR h1 h2 hc hn]; rfl
theorem zeS {n:Nat} {s:Bs} (hs:s.length≤100000000) (hn:s.length+40≤n) (h:(xG s).isSome=true):uM n s=some (tWrap (polE s).1 (polE s).2).1:=by
 obtain⟨l,hl⟩:=Option.isSome_iff_exists.1 h
 unfold uM
 have hlen:=dJ (bB hl)
 have:=Vz (n:=n) (t:=6) (c:=qA l) O0 O0 O0 O0
 rw [show((6:Nat):Int)=6 from rfl]at this
 rw [Jz hs hn hl,L0,this]
 simp [polE,hl]
theorem DZ {b:Bs} (h:(wm b).2.2=0):∃t:UInt8,(wm b).1.zF=(t.toNat:Int)∧t.toNat%32≠31:=by
 match b with
 | []=>simp [wm]at h
 | t ::r=>
  by_cases h31:t.toNat%32=31
  ·unfold wm at h; simp [h31]at h
  ·refine ⟨t, ?_,h31⟩
   unfold wm at h ⊢
   simp only [h31,if_false]at h ⊢
   match r with
   | []=>simp at h
   | c::s=>
    simp only at h ⊢
    repeat' split
    all_goals first|rfl|(rename_i hh; simp_all)
def EOk (e:zb):Prop:=e.zd.length+2≤e.uE.length∧∃t:UInt8,e.zF=(t.toNat:Int)∧t.toNat%32≠31
def Ux (l:List zb):Nat:=(l.map fun e=>e.uE.length).sum
theorem Qx:∀(k:Nat) (b:Bs) (acc:List zb),∃M,((pQ k b acc).1=acc++M∨(pQ k b acc).1= [])∧Ux M≤b.length∧∀e∈M,EOk e
 |0,b,acc=>⟨[], .inl (by simp [pQ]),by simp [Ux],O2⟩
 | k + 1,b,acc=>by
  rw [pQ]
  by_cases h0:b= []
  ·rw [L6 h0]; exact⟨[], .inl O2,by simp [Ux],O2⟩
  ·rw [L4 h0]
   by_cases h1:(wm b).2.2≠0
   ·rw [L6 h1]; exact⟨[], .inr rfl,by simp [Ux],O2⟩
   ·rw [L4 h1]
    have h1:(wm b).2.2=0:=by simpa using h1
    obtain⟨k1,k2,k3,_⟩:=YM h1
    obtain⟨M,e1,e2,e3⟩:=Qx k (wm b).2.1 (acc ++ [(wm b).1])
    have hl:=congrArg List.length k1
    rw [L8]at hl
    refine⟨(wm b).1::M, ?_, ?_, ?_⟩
    ·rcases e1 with e1|e1
     ·exact .inl (by rw [e1]; simp)
     ·exact .inr e1
    ·unfold Ux at e2 ⊢; rw [Le,List.sum_cons]; omega
    ·intro e he
     rcases Lp.1 he with rfl|he
     ·exact⟨k3,DZ h1⟩
     ·exact e3 e he
theorem Kd {l:List zb}:∀e∈l,e.uE.length≤Ux l:=by
 intro e he
 induction l with
 |nil=>simp at he
 | cons a r ih=>
  unfold Ux at ih ⊢; rw [Le,List.sum_cons]
  rcases Lp.1 he with rfl|he
  ·omega
  ·have:=ih he; omega
theorem P5 {l:List zb} (h:∀e∈l,EOk e):2*l.length≤Ux l:=by
 induction l with
 |nil=>simp [Ux]
 | cons a r ih=>
  have:=ih (fun e he=>h e (by simp [he]))
  have h1:=(h a O2).1
  unfold Ux at this ⊢; rw [Le,List.sum_cons,La]; omega
theorem UC (b:Bs):Ux (tList b).1≤b.length∧∀e∈(tList b).1,EOk e:=by
 unfold tList
 obtain⟨M,e1,e2,e3⟩:=Qx (b.length+1) b []
 rcases e1 with e1|e1
 ·rw [e1,Lj]; exact⟨e2,e3⟩
 ·rw [e1]; exact⟨by simp [Ux],O2⟩
def Bd (M:Nat) (l:List zb):Prop:=l.length≤M∧∀e∈l,e.zd.length≤M
theorem uR (b:Bs) {M:Nat} (h:b.length≤M):Bd M (tList b).1:=by
 obtain⟨h1,h2⟩:=UC b
 have:=P5 h2
 exact⟨O0,fun e he=>by have:=Kd e he; have:=(h2 e he).1; omega⟩
theorem Bd.tail {M:Nat} {e:zb} {l:List zb} (h:Bd M (e::l)):e.zd.length≤M∧Bd M l:=
 ⟨h.2 e O2,by have:=h.1; simp at this; omega,fun x hx=>h.2 x (by simp [hx])⟩
theorem ifb (a b:Bool):(if a=true then some true else some b)=some (a||b):=by cases a<;>rfl
theorem Dj {n:Nat} {f:Bool}:yA n ⟨[],f⟩=some (⟨0,[],[]⟩,⟨[],true⟩):=rfl
theorem Ul {n:Nat} {f:Bool} {e:zb} {l:List zb}:yA n ⟨e::l,f⟩=some (e,⟨l,f⟩):=by
 unfold yA
 rw [L4 (by rw [beq_iff_eq]; simp only [La]; omega)]
 have k0:zM (e::l) 0=some e:=by simp [zM]
 simp only []
 rw [k0,L0,UI]; rfl
theorem KQ {n M:Nat} {f:Bool} {l:List zb} (h:Bd M l):∃e r f',yA n ⟨l,f⟩=some (e,⟨r,f'⟩)∧e.zd.length≤M∧Bd M r∧r.length≤l.length∧(0<l.length→r.length<l.length):=by
 match l,h with
 | [],h=>exact⟨_,_,_,Dj,O2,h,O2,O2⟩
 |e::l,h=>exact⟨_,_,_,Ul,h.tail.1,h.tail.2,O2,O2⟩
theorem zcj {n:Nat} {e:zb} (hn:e.zd.length+5≤n) (hl:e.zd.length≤1000000000000):qr n e=some ⟨(tList e.zd).1,((tList e.zd).2 !=0)||(e.zF !=48)⟩:=by
 unfold qr uY
 rw [gd hl hn]
 simp only [L0]
 cases(tList e.zd).2 !=0<;>rfl
theorem cf {l:List Nat} (h:l.length≤12) (hl:∀x∈l,x≤4294967294):(mK l).length≤252:=by
 unfold mK
 have:=eh (sep:= [46]) (b:=20) (l:=l.map fun a=>Lib.decDigits a) (by
  intro x hx; obtain⟨a,ha,rfl⟩:=Lh.1 hx
  have:=hl a ha; exact Zl O0)
 rw [Lb,L9]at this; omega
theorem Qp {n:Nat} {b:Bs} (hb:b.length≤500000000) (hn:b.length+40≤n):∃s e,yw n b=some (s,e)∧s.length≤252:=by
 obtain⟨q,h,h1,h2⟩:=fm (n:=n) b hb O0
 rw [JA O0 h h1 O0]
 by_cases hq:J3 q=true
 ·rw [L6 hq]
  refine⟨_,_,rfl, ?_⟩
  simp only [J3,Lf,L3,Lg]at hq
  refine cf ?_ (fun x hx=>by have:=hq.2 x hx; omega)
  match q,hq.1 with
  |v::r,hq=>have:=hq.2; simp only [du,La]at this ⊢; omega
 ·rw [L4 hq]; exact⟨_,_,rfl,O2⟩
theorem Jq {s:Bs} (h:(xG s).isSome=true):s.length≤252:=by
 obtain⟨l,hl⟩:=Option.isSome_iff_exists.1 h
 have h2:=bB hl
 rw [←JJ hl]
 exact cf h2.2.1 (fun x hx=>by have:=h2.2.2.2 x hx; omega)
theorem PN {s:Bs} (h:(xG s).isSome=true):POk (polE s):=by
 obtain⟨l,hl⟩:=Option.isSome_iff_exists.1 h
 refine⟨by show(6:Nat)≤255; omega,by show(6:Nat)%32≠31; omega, ?_⟩
 unfold polE; rw [hl]
 have:=dJ (bB hl); simp only [Option.getD_some]; omega
theorem Q7 (b:Bs):(vE b).1.zd.length≤b.length:=by
 unfold vE
 split
 ·simp
 ·rename_i h
  split
  ·simp
  ·have h:(wm b).2.2=0:=by simpa using h
   obtain⟨k1,k2,k3,_⟩:=YM h
   have hl:=congrArg List.length k1
   rw [L8]at hl
   show(wm b).1.zd.length≤b.length
   omega
theorem nt {n:Nat} {t:Int} {l:List zb} {i:Nat} {bad:Bool} (h:bad=true∨l.length≤i∨∃e,l[i]? =some e∧e.zF≠t):zU n t ⟨l,i,bad⟩=some (⟨0,[],[]⟩,false,⟨l,i,bad⟩):=by
 unfold zU
 have e:(if bad=true then some true else if decide ((i:Int)≥(l.length:Int))=true then some true else(zM l (i:Int)).bind fun x1=>some (x1.zF !=t))=some true:=by
  cases bad with
  |true=>rfl
  | false=>
   rw [L4 O2]
   by_cases hc:l.length≤i
   ·rw [L6 O4]
   ·rw [L4 O4,zQ O0,L0]
    rcases h with h|h|⟨e,h1,h2⟩
    ·cases h
    ·omega
    ·rw [List.getElem?_eq_getElem O0]at h1; injection h1 with h1; rw [h1]; simpa using h2
 simp only []
 rw [e,L0,L6 rfl]
theorem zcY {n:Nat} {t:Int} {l:List zb} {i:Nat} {e:zb} (hl:l.length≤1000000000) (h:l[i]? =some e) (ht:e.zF=t):zU n t ⟨l,i,false⟩=some (e,true,⟨l,((i+1:Nat):Int),false⟩):=by
 unfold zU
 obtain⟨hi,h⟩:=List.getElem?_eq_some_iff.1 h
 have hx:zM l (i:Int)=some e:=by rw [zQ hi,h]
 have hq:(if false=true then some true else if decide ((i:Int)≥(l.length:Int))=true then some true else(zM l (i:Int)).bind fun x1=>some (x1.zF !=t))=some false:=by
  rw [L4 O2,L4 O4,hx,L0,ht]; simp
 simp only []
 rw [hq,L0,L4 O2,w1 O0,z6 O0,show((i+1:Nat):Int)-1=(i:Int)by omega,hx]; rfl
theorem oX {n M:Nat} {t:Int} {l:List zb} {i:Nat} {bad:Bool} (hM:M≤1000000) (hb:Bd M l) (hi:i≤l.length):∃e j bad',yv n t ⟨l,(i:Int),bad⟩=some (e,⟨l,((j:Nat):Int),bad'⟩)∧j≤l.length∧e.zd.length≤M:=by
 have hl:=hb.1
 unfold yv
 by_cases h:bad=true∨l.length≤i∨∃e,l[i]? =some e∧e.zF≠t
 ·rw [nt h,L0]
  simp only [ifb,L0]
  exact⟨_,i,_,rfl,hi,O2⟩
 ·have h1:bad=false:=by cases bad; rfl; exact absurd (.inl rfl) h
  subst h1
  have hi2:i<l.length:=by
   apply Decidable.byContradiction; intro hc; exact h (.inr (.inl O0))
  have hx:l[i]? =some l[i]:=List.getElem?_eq_getElem hi2
  have ht:l[i].zF=t:=by
   apply Decidable.byContradiction; intro hc; exact h (.inr (.inr ⟨_,hx,hc⟩))
  rw [zcY O0 hx ht,L0]
  simp only [ifb,L0]
  exact⟨_,i+1,_,rfl,O0,hb.2 _ (Ll hi2)⟩
theorem tM {n:Nat} {t:Int} {l:List zb} {i:Nat} {e:zb} (hl:l.length≤1000000000) (h:l[i]? =some e) (ht:e.zF=t):yv n t ⟨l,(i:Int),false⟩=some (e,⟨l,((i+1:Nat):Int),false⟩):=by
 unfold yv
 rw [zcY hl h ht]; rfl
theorem nH {n:Nat} {e:zb} {t:Int} (hn:e.zd.length+5≤n) (hl:e.zd.length≤1000000000000):qh n e t=some ⟨(tList e.zd).1,0,(e.zF !=t)||((tList e.zd).2 !=0)⟩:=by
 unfold qh
 rw [YQ hl hn,L0]
 simp only [ifb,L0]
theorem BG {n:Nat} (hn:20≤n) (b:Bs) (hb:b.length≤100000000):∀(k i v cnt:Nat) (out:Bs) (more:Bool),i≤b.length→b.length-i<k→v≤2147483727→cnt≤12→out.length≤42*i →
  ∃c,zL n b k out (v:Int) more (cnt:Int) (i:Int)=some c∧(∀o m,c= .nxt (o,m)→o.length≤42*b.length)∧∀r,c= .ret r→r.1= []
 |0,_,_,_,_,_,_,h,_,_,_=>O0
 | k + 1,i,v,cnt,out,more,hi,hk,hv,hc,ho=>by
  by_cases hlt:i<b.length
  ·have hb8:=W6 b[i]
   rw [D5 hn b hb k out v more cnt i hlt hv O0 hc]
   by_cases h1:more=false∧b[i].toNat=128
   ·rw [L6 h1]; exact⟨_,rfl,(fun o m h=>by cases h),fun r h=>by cases h; rfl⟩
   ·rw [L4 h1]
    generalize 128*v+b[i].toNat%128=V
    by_cases h2:2147483727<V
    ·rw [L6 h2]; exact⟨_,rfl,(fun o m h=>by cases h),fun r h=>by cases h; rfl⟩
    ·rw [L4 h2]
     by_cases h3:128≤b[i].toNat
     ·rw [L6 h3]; exact BG hn b hb k (i+1) V cnt out true O0 O0 O0 hc O0
     ·rw [L4 h3]
      have:=zey V
      have l1:=Zl (u:=rz V) O0
      have l2:=Zl (u:=V-40*rz V) O0
      have l3:=Zl (u:=V) O0
      by_cases h4:cnt=0
      ·rw [L6 h4]
       exact BG hn b hb k (i+1) 0 2 _ false O0 O0 O0 O0 (by rw [L8,L8,L9]; omega)
      ·rw [L4 h4]
       by_cases h5:12<cnt+1
       ·rw [L6 h5]; exact⟨_,rfl,(fun o m h=>by cases h),fun r h=>by cases h; rfl⟩
       ·rw [L4 h5]
        exact BG hn b hb k (i+1) 0 (cnt+1) _ false O0 O0 O0 O0 (by rw [L8,L8,L9]; omega)
  ·rw [zL,L4 O4]
   exact⟨_,rfl,(fun o m h=>by cases h; omega),fun r h=>by cases h⟩
def wu (d:zf):Prop:=0≤d.xk∧d.xk≤(d.f_L.length:Int)∧d.f_L.length≤9223372036854775807
theorem ri {α:Type} {l:List α} {i:Int} (h0:0≤i) (h1:i<(l.length:Int)):∃x,zM l i=some x∧x∈l:=by
 have h:i.toNat<l.length:=O0
 exact⟨l[i.toNat],by simp [zM,h0,h],O2⟩
theorem sL {n:Nat} {k:Int} {d:zf} (hk:0<k) (hk2:k≤4611686018427387904) (hd:wu d):
  ∃r d',zj n k d=some (r,d')∧0≤r∧r<k∧wu d':=by
 obtain⟨h0,h1,h2⟩:=hd
 unfold zj
 by_cases hc:d.xk≥(d.f_L.length:Int)
 ·exact⟨0,d,by simp [hc],O0,O0,h0,h1,h2⟩
 ·have ha:wrap .i64 (d.xk+1)=d.xk+1:=z6 O0
  have hb:wrap .i64 (wrap .i64 (d.xk+1)-1)=d.xk:=by rw [ha,z6 O0]; omega
  obtain⟨x,hx,_⟩:=ri h0 (Int.not_le.1 hc)
  have hm1: -k<x.tmod k:=by
   have:=Int.lt_tmod_of_pos x hk; omega
  have hm2:x.tmod k<k:=Int.tmod_lt_of_pos x hk
  have hw:wrap .i64 (x.tmod k+k)=x.tmod k+k:=z6 O0
  refine⟨(x.tmod k+k).tmod k,⟨d.f_L,d.xk+1⟩, ?_, ?_, ?_, ?_⟩
  ·rw [hb,hx,ha]
   have hk':k≠0:=O0
   simp [hc,PC,hk',hw]
  ·exact Int.tmod_nonneg k O0
  ·exact Int.tmod_lt_of_pos _ hk
  ·exact⟨O3,O3,h2⟩
theorem wP {n:Nat} {k:Int} {d:zf} (hk:0<k) (hk2:k≤4611686018427387904) (hd:wu d):∃r d',zj n k d=some (r,d')∧0≤r∧r<k∧wu d':=sL hk hk2 hd
theorem BJ {s:Bs} {i j:Int} (h0:0≤i) (h1:i≤j) (h2:j≤s.length):∃x,ssl s i j=some x∧(x.length:Int)=j-i:=by
 have:=kX (s:=s) (i:=i.toNat) (j:=j.toNat) O0 O0
 rw [show((i.toNat:Nat):Int)=i by omega,show((j.toNat:Nat):Int)=j by omega]at this
 refine⟨_,this, ?_⟩
 rw [List.length_drop,List.length_take]; omega
theorem DD {n:Nat} {a:Bs} {d:zf} (ha:a.length≤1000000000) (hd:wu d):∃s d',jZ n a d=some (s,d')∧s.length≤a.length+1∧wu d':=by
 unfold jZ
 by_cases h0:(a==([]:Bs))=true
 ·rw [L6 h0]; exact⟨a,d,rfl,O0,hd⟩
 ·rw [L4 h0]
  have hne:0<a.length:=List.length_pos_iff.2 (Oa h0)
  obtain⟨r1,d1,h1,a1,b1,k1⟩:=wP (n:=n) (k:=(a.length:Int)) O0 O0 hd
  obtain⟨r2,d2,h2,a2,b2,k2⟩:=wP (n:=n) (k:=256) O1 O1 k1
  obtain⟨r3,d3,h3,a3,b3,k3⟩:=wP (n:=n) (k:=5) O1 O1 k2
  obtain⟨p,hp,pl⟩:=BJ (s:=a) (i:=0) (j:=r1) O0 a1 O0
  obtain⟨q,hq,ql⟩:=BJ (s:=a) (i:=r1+1) (j:=a.length) O0 O0 O0
  obtain⟨u,hu,ul⟩:=BJ (s:=a) (i:=r1) (j:=a.length) O0 O0 O0
  have hw:wrap .i64 (r1+1)=r1+1:=z6 O0
  have hb:(b2s ([wrap .u8 r2]:List Int)).length=1:=rfl
  rw [h1,L0]; simp only []; rw [h2,L0]; simp only []; rw [h3,L0]; simp only []
  rw [hw,hp,hq,hu]
  by_cases c0:(r3==0)=true
  ·rw [L6 c0,L0,yd O0,L0,L0,yd (by rw [L8]; omega)]
   exact⟨_,_,rfl,by rw [L8,L8]; omega,k3⟩
  ·rw [L4 c0]
   by_cases c1:(r3==1)=true
   ·rw [L6 c1,L0,yd O0,L0,L0,yd (by rw [L8]; omega)]
    exact⟨_,_,rfl,by rw [L8,L8]; omega,k3⟩
   ·rw [L4 c1]
    by_cases c2:(r3==2)=true
    ·rw [L6 c2,L0,L0,yd O0]
     exact⟨_,_,rfl,by rw [L8]; omega,k3⟩
    ·rw [L4 c2]
     by_cases c3:(r3==3)=true
     ·rw [L6 c3]; exact⟨_,_,rfl,O0,k3⟩
     ·rw [L4 c3]; exact⟨_,_,rfl,O0,k3⟩
theorem BD {n:Nat} {t:Int} {c:Bs} (h:∃v:Nat,t=(v:Int)∧v≤255∧v%32≠31) (hc:c.length≤1000000000000) (hn:20≤n):∃s,zD n t [c]=some s∧s.length≤c.length+5:=by
 obtain⟨v,rfl,h1,h2⟩:=h
 exact⟨_,Vz h1 h2 hc hn,yc v c⟩
theorem zcZ:∀t:Fin 256,∃v:Nat,uU .i64 (t.val:Int) 224=(v:Int)∧v≤255∧v%32≠31:=by
 intro t
 have h:(List.range 256).all (fun t=>decide (0≤uU .i64 (t:Int) 224)&&decide (uU .i64 (t:Int) 224≤255)&&decide ((uU .i64 (t:Int) 224).toNat%32≠31))=true:=by decide +kernel
 have:=Lg.1 h t.val O2
 simp only [Lf,L3]at this
 exact⟨(uU .i64 (t.val:Int) 224).toNat,O0,O0,this.2⟩
theorem zct:∀t:Fin 256,∃v:Nat,B2 .i64 (t.val:Int) 31=(v:Int)∧v≤255∧v%32≠31:=by
 intro t
 have h:(List.range 256).all (fun t=>decide (0≤B2 .i64 (t:Int) 31)&&decide (B2 .i64 (t:Int) 31≤255)&&decide ((B2 .i64 (t:Int) 31).toNat%32≠31))=true:=by decide +kernel
 have:=Lg.1 h t.val O2
 simp only [Lf,L3]at this
 exact⟨(B2 .i64 (t.val:Int) 31).toNat,O0,O0,this.2⟩
theorem KT {n:Nat} {a:Bs} {d:zf} (ha:a.length≤1000000000) (hn:20≤n) (hd:wu d):∃s d',xZ n a d=some (s,d')∧s.length≤a.length+5∧wu d':=by
 unfold xZ
 by_cases h2:a.length<2
 ·rw [L6 O4]; exact⟨a,d,rfl,O0,hd⟩
 ·rw [L4 O4]
  obtain⟨q,hq,ql⟩:=BJ (s:=a) (i:=2) (j:=a.length) O0 O0 O0
  obtain⟨r2,d2,h2',a2,b2,k2⟩:=wP (n:=n) (k:=6) O1 O1 hd
  have hb0:yr a 0=some ((a[0]' O0).toNat:Int):=vj (i:=0) O0
  have hlt:=W6 (a[0]' O0)
  have hw:wrap .i64 ((a[0]' O0).toNat:Int)=((a[0]' O0).toNat:Int):=z6 O0
  rw [hq,L0,h2',L0]; simp only []
  by_cases c0:(r2==0)=true
  ·obtain⟨r3,d3,h3,a3,b3,k3⟩:=wP (n:=n) (k:=31) O1 O1 k2
   obtain⟨s,hs,sl⟩:=BD (n:=n) (t:=r3) (c:=q) ⟨r3.toNat,O0,O0,O0⟩ O0 hn
   rw [L6 c0,h3,L0]; simp only []; rw [hs]
   exact⟨_,_,rfl,O0,k3⟩
  ·rw [L4 c0]
   by_cases c1:(r2==1)=true
   ·obtain⟨s,hs,sl⟩:=BD (n:=n) (t:=B2 .i64 ((a[0]' O0).toNat:Int) 31) (c:=q) (zct ⟨_,hlt⟩) O0 hn
    rw [L6 c1,hb0,L0,hw,hs]
    exact⟨_,_,rfl,O0,k2⟩
   ·rw [L4 c1]
    by_cases c2:(r2==2)=true
    ·obtain⟨s,hs,sl⟩:=BD (n:=n) (t:=uU .i64 ((a[0]' O0).toNat:Int) 224) (c:= []) (zcZ ⟨_,hlt⟩) O2 hn
     rw [L6 c2,hb0,L0,hw,hs]
     exact⟨_,_,rfl,by simp at sl; omega,k2⟩
    ·rw [L4 c2]
     by_cases c3:(r2==3)=true
     ·obtain⟨r3,d3,h3,a3,b3,k3⟩:=wP (n:=n) (k:=256) O1 O1 k2
      rw [L6 c3,h3,L0]; simp only []; rw [yd (by simp [b2s])]
      exact⟨_,_,rfl,by show 3≤a.length+5; omega,k3⟩
     ·rw [L4 c3]
      by_cases c4:(r2==4)=true
      ·rw [L6 c4]; exact⟨_,_,rfl,O2,k2⟩
      ·rw [L4 c4]
       obtain⟨s,d',hs,sl,k⟩:=DD (n:=n) (a:=a) ha k2
       rw [hs]; exact⟨_,_,rfl,by show s.length≤_; omega,k⟩
theorem rR {l:List zb} {i:Nat} (hi:i<l.length):Ux (l.drop i)=l[i].uE.length+Ux (l.drop (i+1)):=by
 rw [Lc hi]; unfold Ux; rw [Le,List.sum_cons]
theorem lS {n:Nat} (hn:1000000≤n) {rc:Bs→zf→Option (Bs×zf)} {S:Nat} (el:List zb×Int) (r9 r10:Int×zf) (hS:S≤300000000) (he:Ux el.1≤S)
  (hrc:∀(i:Nat) (h:i<el.1.length) d,wu d→∃s d',rc el.1[i].uE d=some (s,d')∧s.length≤3*el.1[i].uE.length+8∧wu d') (hl:el.1.length≤100000000):
  ∀(k i:Nat) (b:Bs) (L:List Int) (At:Int),i≤el.1.length→el.1.length-i<k→b.length+3*Ux (el.1.drop i)+8*(el.1.length-i)≤2000000000→wu ⟨L,At⟩ →
  ∃s L' At',vQ n rc el r9 r10 k b (i:Int) L At=some (s,L',At')∧s.length≤b.length+Ux (el.1.drop i)+(if(i:Int)≤r9.1 then 2*S+8 else 0)∧wu ⟨L',At'⟩
 |0,_,_,_,_,_,h,_,_=>O0
 | k + 1,i,b,L,At,hi,hk,hb,hd=>by
  rw [vQ]
  by_cases hc:i<el.1.length
  ·have hr:=rR hc
   have hmem:=Kd el.1[i] (Ll hc)
   rw [L6 O4,zQ hc,L0]
   by_cases c0:((i:Int) !=r9.1)=true
   ·rw [L6 c0,yd O0,L0,L0,w1 O0]
    obtain⟨s,L',At',h1,h2,h3⟩:=lS hn el r9 r10 hS he hrc hl k (i+1) (b++el.1[i].uE) L At O0 O0 (by rw [L8]; omega) hd
    refine⟨s,L',At',h1, ?_,h3⟩
    rw [L8]at h2
    have hne:(i:Int)≠r9.1:=by simpa using c0
    by_cases c:(i:Int)≤r9.1
    ·rw [L6 c]; rw [L6 O0]at h2; omega
    ·rw [L4 c]; rw [L4 O0]at h2; omega
   ·have hie:(i:Int)=r9.1:=by simpa using c0
    rw [L4 c0]
    have key:∃s L' At',(if(r10.1==0)=true then((um el.1[i].uE el.1[i].uE).bind fun x342=>
      (um b x342).bind fun x343=>some (x343,L,At))else(if(r10.1==1)=true then(some (b,L,At))else(if(r10.1==2)=true then((xZ n el.1[i].uE (zf.mk L At)).bind fun r344=>
      (um b r344.1).bind fun x345=>some (x345,r344.2.f_L,r344.2.xk))else((rc el.1[i].uE (zf.mk L At)).bind fun r346=>
      (um b r346.1).bind fun x347=>some (x347,r346.2.f_L,r346.2.xk)))))=some (s,L',At')∧s.length≤b.length+3*el.1[i].uE.length+8∧wu ⟨L',At'⟩:=by
     by_cases c1:(r10.1==0)=true
     ·rw [L6 c1,yd O0,L0,yd (by rw [L8]; omega)]
      exact⟨_,_,_,rfl,by rw [L8,L8]; omega,hd⟩
     ·rw [L4 c1]
      by_cases c2:(r10.1==1)=true
      ·rw [L6 c2]; exact⟨_,_,_,rfl,O0,hd⟩
      ·rw [L4 c2]
       by_cases c3:(r10.1==2)=true
       ·obtain⟨s,d',h1,h2,h3⟩:=KT (n:=n) (a:=el.1[i].uE) O0 O0 hd
        rw [L6 c3,h1,L0,yd (by show b.length+s.length≤_; omega)]
        exact⟨_,_,_,rfl,by show(b++s).length≤_; rw [L8]; omega,h3⟩
       ·obtain⟨s,d',h1,h2,h3⟩:=hrc i hc _ hd
        rw [L4 c3,h1,L0,yd (by show b.length+s.length≤_; omega)]
        exact⟨_,_,_,rfl,by show(b++s).length≤_; rw [L8]; omega,h3⟩
    obtain⟨s,L',At',e1,e2,e3⟩:=key
    rw [e1,L0,w1 O0]
    simp only []
    obtain⟨s2,L2,At2,h1,h2,h3⟩:=lS hn el r9 r10 hS he hrc hl k (i+1) s L' At' O0 O0 O0 e3
    refine⟨s2,L2,At2,h1, ?_,h3⟩
    rw [L4 O0]at h2
    rw [L6 O0]; omega
  ·rw [L4 O4]
   exact⟨_,_,_,rfl,O0,hd⟩
theorem Dy {n:Nat} (hn:200000000≤n):∀(kk:Nat) (a:Bs) (d:zf),a.length<kk→a.length≤100000000→wu d→∃s d',xW n kk a d=some (s,d')∧s.length≤3*a.length+8∧wu d'
 |0,_,_,h,_,_=>O0
 | kk + 1,a,d,hk,ha,hd=>by
  have hrep:∀d,wu d→∃s d',(xZ n a d).bind (fun r4=>some (r4.1,r4.2))=some (s,d')∧s.length≤3*a.length+8∧wu d':=by
   intro d hd
   obtain⟨s,d',h1,h2,h3⟩:=KT (n:=n) (a:=a) O0 O0 hd
   rw [h1]; exact⟨s,d',rfl,O0,h3⟩
  rw [xW,Ji O0 O0,L0,ifb,L0]
  by_cases c0:(((vE a).2 !=0)||((Int.tmod (wrap .i64 (Int.tdiv (vE a).1.zF 32)) 2)==0))=true
  ·rw [L6 c0]; exact hrep d hd
  ·rw [L4 c0]
   have h0:(vE a).2=0:=by
    rw [Bool.not_eq_true,Bool.or_eq_false_iff]at c0; simpa using c0.1
   have hr:(wm a).2.2=0:=by
    unfold vE at h0
    by_cases h':(wm a).2.2=0
    ·exact h'
    ·rw [L6 h']at h0; exact absurd h0 h'
   have h1:(vE a).1=(wm a).1:=by
    unfold vE at h0 ⊢
    rw [L4 (by simp [hr])]at h0 ⊢
    by_cases h':(wm a).2.1= []
    ·rw [L4 (by simp [h'])]
    ·rw [L6 h']at h0; cases h0
   obtain⟨k1,k2,k3,_⟩:=YM hr
   obtain⟨t,ht1,ht2⟩:=DZ hr
   have hlen:=congrArg List.length k1
   rw [L8]at hlen
   rw [←h1]at k2 k3 ht1 hlen
   have hS:(vE a).1.zd.length+2≤a.length:=O0
   rw [YQ O0 O0,L0,ifb,L0]
   by_cases c1:(((tList (vE a).1.zd).2 !=0)||(((tList (vE a).1.zd).1.length:Int)==0))=true
   ·rw [L6 c1]; exact hrep d hd
   ·rw [L4 c1]
    have hne:0<(tList (vE a).1.zd).1.length:=by
     rw [Bool.not_eq_true,Bool.or_eq_false_iff]at c1
     have:=c1.2
     rw [beq_eq_false_iff_ne]at this; omega
    obtain⟨f1,f2⟩:=UC (vE a).1.zd
    have f3:=P5 f2
    obtain⟨r9,d9,h9,a9,b9,k9⟩:=wP (n:=n) (k:=((tList (vE a).1.zd).1.length:Int)) O0 O0 hd
    obtain⟨r10,d10,h10,a10,b10,k10⟩:=wP (n:=n) (k:=8) O1 O1 k9
    rw [h9,L0]; simp only []
    rw [h10,L0]; simp only []
    obtain ⟨s,L',At',e1,e2,e3⟩:=lS (n:=n) O0 (rc:=xW n kk) (S:=(vE a).1.zd.length) (tList (vE a).1.zd) (r9,d9) (r10,d10) O0 f1
     (fun i hi d hd=>by
      have:=Kd _ (Ll hi)
      exact Dy hn kk _ d O0 O0 hd) O0 n 0 [] d10.f_L d10.xk O0 O0 (by simp only [Lm,Li]; omega) k10
    rw [show((0:Nat):Int)=0 from rfl]at e1
    rw [e1,L0]
    simp only []
    rw [Li,Lm,L6 (by show((0:Nat):Int)≤r9; omega)]at e2
    obtain⟨w,hw,wl⟩:=BD (n:=n) (t:=(vE a).1.zF) (c:=s) ⟨t.toNat,ht1,by have:=W6 t; omega,ht2⟩ O0 O0
    rw [hw]
    exact⟨_,_,rfl,O0,e3⟩
abbrev Att:=za
def J8 (pre:List Att) (a:Att):Int:=
 if(xG a.xx).isSome=false then 11 else if a.vg= []∨XM a.zG a.vg=false then 13 else if 64<a.vg.length then 2 else if(pre.any fun b=>b.xx==a.xx)=true then 10 else 0
def py:List Att→List Att→Int
 |_,[]=>0
 |pre,a::r=>if J8 pre a≠0 then J8 pre a else py (pre ++ [a]) r
def VU (r:List Att):Int:=if r= []then 14 else if 4<r.length then 2 else py [] r
def ZV:List (List Att)→Int
 | []=>0
 |r::l=>if VU r≠0 then VU r else ZV l
def jj (l:List (List Att)):Int:=if 8<l.length then 2 else ZV l
def BdA (B:Nat) (a:Att):Prop:=a.xx.length≤B∧a.vg.length≤B
def BdR (B:Nat) (r:List Att):Prop:=r.length≤B∧∀a∈r,BdA B a
def BdN (B:Nat) (l:List (List Att)):Prop:=l.length≤B∧∀r∈l,BdR B r
theorem DW {α:Type} {l:List α} {i:Nat} (h:i<l.length):l.take (i+1)=l.take i ++ [l[i]]:=by
 rw [List.take_add_one,List.getElem?_eq_getElem h]; rfl
theorem oj {n:Nat} (p:List Att) (a:Att) (hp:p.length≤1000000):∀(k j:Nat),j≤p.length→p.length-j<k→vP n p a k (j:Int)=some (if((p.drop j).any fun b=>b.xx==a.xx)=true then .ret 10 else .nxt ())
 |0,j,_,h=>O0
 | k + 1,j,hj,hk=>by
  rw [vP]
  by_cases hc:j<p.length
  ·rw [L6 O4,zQ hc,Lc hc,List.any_cons]
   simp only [L0]
   by_cases he:(p[j].xx==a.xx)=true
   ·rw [L6 he,he]; rfl
   ·rw [L4 he,w1 O0,oj p a hp k (j+1) O0 O0]
    rw [Bool.not_eq_true]at he
    rw [he,Bool.false_or]
  ·rw [L4 O4]
   have:j=p.length:=O0
   subst this
   simp
theorem og {n B:Nat} (r:List Att) (hb:BdR B r) (hB:B≤1000000) (hn:B+100≤n):∀(k i:Nat),i≤r.length→r.length-i<k→yb (wA n r k (i:Int)) (fun x=>some x) (fun _=>some 0)=some (py (r.take i) (r.drop i))
 |0,i,_,h=>O0
 | k+1,i,hi,hk=>by
  have hl:=hb.1
  rw [wA]
  by_cases hc:i<r.length
  ·have ha:=hb.2 r[i] O2
   rw [L6 O4,zQ hc,Lc hc,py]
   simp only [L0]
   rw [Vl (by have:=ha.1; omega) (by have:=ha.1; omega),lB (by have:=ha.2; omega) (by have:=ha.2; omega)]
   simp only [L0]
   unfold J8
   by_cases h1:(xG (r[i]).xx).isSome=false
   ·rw [L6 h1,L6 (by rw [h1]; rfl)]; rfl
   rw [L4 h1,L4 (Oa h1)]
   rw [ifb]
   simp only [L0]
   by_cases h2:(r[i]).vg= []∨XM (r[i]).zG (r[i]).vg=false
   ·rw [L6 h2,L6 (Oa h2)]; rfl
   rw [L4 h2,L4 (Oa h2)]
   by_cases h3:64<(r[i]).vg.length
   ·rw [L6 h3,L6 O4]; rfl
   rw [L4 h3,L4 O4]
   have hs:lsl r 0 (i:Int)=some (r.take i):=by unfold lsl; rw [L6 ⟨O0,O0,O0⟩]; simp
   rw [hs]
   simp only [L0]
   have h4:=oj (n:=n) (r.take i) r[i] (by rw [List.length_take]; omega) n 0 O0 (by rw [List.length_take]; omega)
   rw [show((0:Nat):Int)=0 from rfl,Li]at h4
   rw [h4]
   by_cases h5:((r.take i).any fun b=>b.xx==(r[i]).xx)=true
   ·rw [L6 h5,L6 h5]; rfl
   rw [L4 h5,L4 h5]
   rw [L4 (show ¬((0:Int)≠0)by simp)]
   show yb (wA n r k (wrap .i64 ((i:Int)+1))) (fun x=>some x) (fun _=>some 0)=_
   rw [w1 O0,og r hb hB hn k (i+1) O0 O0,DW hc]
  ·rw [L4 O4]
   have:i=r.length:=O0
   subst this
   simp [yb,py]
theorem zgs {n B:Nat} {r:List Att} (hb:BdR B r) (hB:B≤1000000) (hn:B+100≤n):kz n r=some (VU r):=by
 unfold kz VU
 have hl:=hb.1
 by_cases h1:r= []
 ·subst h1; rfl
 rw [L4 (Oa h1),L4 h1]
 by_cases h2:4<r.length
 ·rw [L6 O4,L6 h2]
 rw [L4 O4,L4 h2]
 have:=og (n:=n) r hb hB hn n 0 O0 O0
 rw [show((0:Nat):Int)=0 from rfl,Li,List.take_zero]at this
 exact this
theorem ee {n B:Nat} (l:List (List Att)) (hb:BdN B l) (hB:B≤1000000) (hn:B+100≤n):∀(k i:Nat),i≤l.length→l.length-i<k→yb (qY n ⟨l⟩ k (i:Int)) (fun x=>some x) (fun _=>some 0)=some (ZV (l.drop i))
 |0,i,_,h=>O0
 | k + 1,i,hi,hk=>by
  have hl:=hb.1
  rw [qY]
  by_cases hc:i<l.length
  ·rw [L6 (by rw [L3]; show(i:Int)<(l.length:Int); omega)]
   simp only [zQ hc,L0]
   rw [Lc hc,ZV,zgs (hb.2 l[i] O2) hB hn]
   simp only [L0]
   by_cases h1:VU l[i]≠0
   ·rw [L6 h1,L6 (Oa h1)]; rfl
   ·rw [L4 h1,L4 (Oa h1),w1 O0]
    exact ee l hb hB hn k (i+1) O0 O0
  ·rw [L4 (by rw [L3]; show ¬(i:Int)<(l.length:Int); omega)]
   have:i=l.length:=O0
   subst this
   simp [yb,ZV]
theorem K8 {n B:Nat} {l:List (List Att)} (hb:BdN B l) (hB:B≤1000000) (hn:B+100≤n):jU n ⟨l⟩=some (jj l):=by
 unfold jU jj
 have hl:=hb.1
 by_cases h2:8<l.length
 ·rw [L6 (by rw [L3]; show((l.length:Int)>8); omega),L6 h2]
 rw [L4 (by rw [L3]; show ¬((l.length:Int)>8); omega),L4 h2]
 have:=ee (n:=n) l hb hB hn n 0 O0 O0
 rw [show((0:Nat):Int)=0 from rfl,Li]at this
 exact this
theorem oi {n:Nat} (r:List Att) (a:Att) (hr:r.length≤1000000) (i:Nat) (hi:i≤r.length):∀(k j:Nat),j≤i→i-j<k→xe n (i:Int) r a k (j:Int)=some (if(((r.take i).drop j).any fun b=>b.xx==a.xx)=true then .ret 10 else .nxt ())
 |0,j,_,h=>O0
 | k + 1,j,hj,hk=>by
  rw [xe]
  by_cases hc:j<i
  ·have hc':j<(r.take i).length:=by rw [List.length_take]; omega
   have hg:(r.take i)[j]=r[j]:=O2
   rw [L6 O4,zQ O0,Lc hc',List.any_cons,hg]
   simp only [L0]
   by_cases he:(r[j].xx==a.xx)=true
   ·rw [L6 he,he]; rfl
   ·rw [L4 he,w1 O0,oi r a hr i hi k (j+1) O0 O0]
    rw [Bool.not_eq_true]at he
    rw [he,Bool.false_or]
  ·rw [L4 O4]
   have:j=i:=O0
   subst this
   rw [Ld (by rw [List.length_take]; omega)]
   rfl
theorem nV {n B:Nat} (r:List Att) (hb:BdR B r) (hB:B≤1000000) (hn:B+100≤n):∀(k i:Nat),i≤r.length→r.length-i<k→yb (yH n r k (i:Int)) (fun x=>some x) (fun _=>some 0)=some (py (r.take i) (r.drop i))
 |0,i,_,h=>O0
 | k+1,i,hi,hk=>by
  have hl:=hb.1
  rw [yH]
  by_cases hc:i<r.length
  ·have ha:=hb.2 r[i] O2
   rw [L6 O4,zQ hc,Lc hc,py]
   simp only [L0]
   rw [Z0 (by have:=ha.1; omega) (by have:=ha.1; omega),De (by have:=ha.2; omega) (by have:=ha.2; omega)]
   simp only [L0]
   unfold J8
   by_cases h1:(xG (r[i]).xx).isSome=false
   ·rw [L6 h1,L6 (by rw [h1]; rfl)]; rfl
   rw [L4 h1,L4 (Oa h1)]
   rw [ifb]
   simp only [L0]
   by_cases h2:(r[i]).vg= []∨XM (r[i]).zG (r[i]).vg=false
   ·rw [L6 h2,L6 (Oa h2)]; rfl
   rw [L4 h2,L4 (Oa h2)]
   by_cases h3:64<(r[i]).vg.length
   ·rw [L6 h3,L6 O4]; rfl
   rw [L4 h3,L4 O4]
   have h4:=oi (n:=n) r r[i] O0 i O0 n 0 O0 O0
   rw [show((0:Nat):Int)=0 from rfl,Li]at h4
   rw [h4]
   by_cases h5:((r.take i).any fun b=>b.xx==(r[i]).xx)=true
   ·rw [L6 h5,L6 h5]; rfl
   rw [L4 h5,L4 h5]
   rw [L4 (show ¬((0:Int)≠0)by simp)]
   show yb (yH n r k (wrap .i64 ((i:Int)+1))) (fun x=>some x) (fun _=>some 0)=_
   rw [w1 O0,nV r hb hB hn k (i+1) O0 O0,DW hc]
  ·rw [L4 O4]
   have:i=r.length:=O0
   subst this
   simp [yb,py]
theorem zfO {n B:Nat} {r:List Att} (hb:BdR B r) (hB:B≤1000000) (hn:B+100≤n):ux n r=some (py [] r):=by
 unfold ux
 have hl:=hb.1
 have:=nV (n:=n) r hb hB hn n 0 O0 O0
 rw [show((0:Nat):Int)=0 from rfl,Li,List.take_zero]at this
 exact this
theorem eS {n B:Nat} (l:List (List Att)) (hb:BdN B l) (hB:B≤1000000) (hn:B+100≤n):∀(k i:Nat),i≤l.length→l.length-i<k→yb (wt n ⟨l⟩ k (i:Int)) (fun x=>some x) (fun _=>some 0)=some (ZV (l.drop i))
 |0,i,_,h=>O0
 | k + 1,i,hi,hk=>by
  have hl:=hb.1
  rw [wt]
  by_cases hc:i<l.length
  ·rw [L6 (by rw [L3]; show(i:Int)<(l.length:Int); omega)]
   simp only [zQ hc,L0]
   rw [Lc hc,ZV,zfO (hb.2 l[i] O2) hB hn]
   simp only [L0]
   unfold VU
   by_cases h0:l[i]= []
   ·rw [L6 (by rw [h0]; rfl),L6 h0,L6 O1]; rfl
   rw [L4 (Oa h0),L4 h0]
   by_cases h4:4<(l[i]).length
   ·rw [L6 O4,L6 h4,L6 O1]; rfl
   rw [L4 O4,L4 h4]
   by_cases h1:py [] l[i]≠0
   ·rw [L6 h1,L6 (Oa h1)]; rfl
   ·rw [L4 h1,L4 (Oa h1),w1 O0]
    exact eS l hb hB hn k (i+1) O0 O0
  ·rw [L4 (by rw [L3]; show ¬(i:Int)<(l.length:Int); omega)]
   have:i=l.length:=O0
   subst this
   simp [yb,ZV]
theorem nX {n B:Nat} {l:List (List Att)} (hb:BdN B l) (hB:B≤1000000) (hn:B+100≤n):y8 n ⟨l⟩=some (jj l):=by
 unfold y8 jj
 have hl:=hb.1
 by_cases h2:8<l.length
 ·rw [L6 (by rw [L3]; show((l.length:Int)>8); omega),L6 h2]
 rw [L4 (by rw [L3]; show ¬((l.length:Int)>8); omega),L4 h2]
 have:=eS (n:=n) l hb hB hn n 0 O0 O0
 rw [show((0:Nat):Int)=0 from rfl,Li]at this
 exact this
end Go.Abs
end
