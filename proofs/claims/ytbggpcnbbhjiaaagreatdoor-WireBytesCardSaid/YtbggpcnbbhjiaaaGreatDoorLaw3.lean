/- The typed Lean form of WireBytes gives true for every string. No condition. -/
import Derived.Test.YtbggpcnbbhjiaaaGreatDoorLaw2
set_option linter.unusedVariables false
set_option linter.unusedSimpArgs false
set_option linter.unnecessarySimpa false
section
set_option maxRecDepth 100000
namespace Go.Abs
open Go Go.Proofs IntKind
theorem tG {v:Nat} (c:UInt8) (hv:v≤4294967294):ior .i64 (wrap .i64 ((v:Int)*128)) (kY .i64 (wrap .i64 (c.toNat:Int)) 127)=((128*v+c.toNat%128:Nat):Int):=by
 have hc:=WV c
 rw [yv (x:=(v:Int)*128) O0,yv (x:=(c.toNat:Int)) O0,show(127:Int)=((127:Nat):Int)from rfl,Bc O0 O0,show(127:Nat)=2^7-1 from rfl,Nat.and_two_pow_sub_one_eq_mod,
  show(v:Int)*128=((2^7*v:Nat):Int)by omega]
 exact m9 (i:=7) O0 O0
theorem fF {n:Nat} (b:Bs) (acc:List Int) (i k v:Nat) (hv:v≤4294967294) (hi:i<b.length) (hb:b.length≤1000000000) (ha:acc.length≤1000000000):
  wP n b acc (k+1) (i:Int) (v:Int)=if 4294967294<128*v+b[i].toNat%128 then some (.ret [])else if b[i].toNat<128 then some (.nxt (acc ++ [((128*v+b[i].toNat%128:Nat):Int)],((i+1:Nat):Int)))else wP n b acc k ((i+1:Nat):Int) ((128*v+b[i].toNat%128:Nat):Int):=by
 have hc:=WV b[i]
 rw [wP,L4 O3,vC hi,L0,tG _ hv]
 have hw:wrap .i64 (b[i].toNat:Int)=(b[i].toNat:Int):=yv O0
 rw [w1 O0,hw]
 by_cases h1:4294967294<128*v+b[i].toNat%128
 ·rw [L4 h1,L4 O4]
 ·rw [L3 h1,L3 O4]
  by_cases h2:b[i].toNat<128
  ·rw [L4 h2,L4 O4,yU O3]; rfl
  ·rw [L3 h2,L3 O4]
theorem Bo {n:Nat} (b:Bs) (acc:List Int) (hb:b.length≤1000000000) (ha:acc.length≤1000000000):∀(k i v:Nat),v≤4294967294→i≤b.length→b.length-i<k →
  wP n b acc k (i:Int) (v:Int)=some (.ret [])∨∃x j:Nat,wP n b acc k (i:Int) (v:Int)=some (.nxt (acc ++ [(x:Int)],(j:Int)))∧x≤4294967294∧i<j∧j≤b.length
 |0,_,_,_,_,h=>O0
 | k + 1,i,v,hv,hi,hk=>by
  by_cases hc:i<b.length
  ·rw [fF b acc i k v hv hc hb ha]
   by_cases h1:4294967294<128*v+b[i].toNat%128
   ·rw [L4 h1]; exact .inl rfl
   ·rw [L3 h1]
    by_cases h2:b[i].toNat<128
    ·rw [L4 h2]; exact .inr ⟨_,_,rfl,O0,O0,O0⟩
    ·rw [L3 h2]
     rcases Bo b acc hb ha k (i+1) (128*v+b[i].toNat%128) O0 O0 O0 with h|⟨x,j,h,a1,a2,a3⟩
     ·exact .inl h
     ·exact .inr ⟨x,j,h,a1,O0,a3⟩
  ·rw [wP,L3 O3]; exact .inl rfl
theorem BC {n:Nat} (b:Bs) (hb:b.length≤500000000) (hn:b.length+2≤n):∀(k i:Nat) (acc:List Nat),i≤b.length→b.length-i<k→acc.length≤i→(∀x∈acc,x≤4294967294) →
  wN n b k (yA acc) (i:Int)=some (.ret [])∨∃l:List Nat,wN n b k (yA acc) (i:Int)=some (.nxt (yA l))∧(∀x∈l,x≤4294967294)∧l.length≤b.length
 |0,_,_,_,h,_,_=>O0
 | k + 1,i,acc,hi,hk,ha,hq=>by
  rw [wN]
  by_cases hc:i<b.length
  ·rw [L4 O3,vC hc,L0]
   by_cases h8:(((b[i].toNat:Int))==128)=true
   ·rw [L4 h8]; exact .inl rfl
   ·rw [L3 h8]
    have h0:=Bo (n:=n) b (yA acc) O0 (by rw [xp]; omega) n i 0 O0 hi O0
    rw [show((0:Nat):Int)=0 from rfl]at h0
    rcases h0 with h|⟨x,j,h,a1,a2,a3⟩
    ·rw [h]; exact .inl rfl
    ·rw [h]
     have:=BC b hb hn k j (acc ++ [x]) a3 O0 O3 (by
      intro y hy; rw [Ll]at hy
      rcases hy with hy|hy
      ·exact hq y hy
      ·simp at hy; subst hy; exact a1)
     rw [show yA (acc ++ [x])=yA acc ++ [(x:Int)]by simp [yA]]at this
     exact this
  ·rw [L3 O3]
   exact .inr ⟨acc,rfl,hq,O0⟩
theorem cq {n:Nat} (b:Bs) (hb:b.length≤500000000) (hn:b.length+2≤n):∃l:List Nat,bc n b=some (yA l)∧(∀x∈l,x≤4294967294)∧l.length≤b.length:=by
 unfold bc
 have h:=BC b hb hn n 0 [] O0 O0 O2 O2
 rw [show((0:Nat):Int)=0 from rfl,show yA []= []from rfl]at h
 rcases h with h|⟨l,h,h1,h2⟩
 ·rw [h]; exact⟨[],rfl,O2,O2⟩
 ·rw [h]; exact⟨l,rfl,h1,h2⟩
theorem PW {n:Nat} (b:Bs) (acc:List Int) (hb:b.length≤1000000000) (ha:acc.length≤1000000000) {v:Nat} (hv:v≤4294967294):∀(g k i:Nat) (rest:Bs),g<k→b.drop i=(hi v g ++ [v%128]).map o8++rest →
  wP n b acc k (i:Int) ((v/128^(g+1):Nat):Int)=some (.nxt (acc ++ [(v:Int)],((i+g+1:Nat):Int)))
 |g,0,_,_,h,_=>O0
 | 0,k+1,i,rest,_,hd=>by
  have hi:i<b.length:=by
   apply Decidable.byContradiction; intro hc
   rw [La O0]at hd; simp [hi]at hd
  have hx:b[i]=o8 (v%128):=by
   rw [L9 hi]at hd; simp only [Go.Abs.hi,Lg,Lb,List.map_nil,List.singleton_append]at hd
   exact(List.cons.inj hd).1
  have hq:v/128^(0+1)=v/128:=by rw [Nat.zero_add,Nat.pow_one]
  rw [hq,fF b acc i k _ O0 hi hb ha,hx,YF O0,L3 O0,L4 O0,show 128*(v/128)+v%128%128=v by omega]
 | g+1,k+1,i,rest,hk,hd=>by
  have hi:i<b.length:=by
   apply Decidable.byContradiction; intro hc
   rw [La O0]at hd; simp [Go.Abs.hi]at hd
  rw [L9 hi]at hd
  simp only [Go.Abs.hi,List.cons_append,Lb]at hd
  obtain⟨hx,hd⟩:=List.cons.inj hd
  have hpw:v/128^(g+1+1)=v/128^(g+1)/128:=by rw [Nat.div_div_eq_div_mul,Nat.pow_succ]
  have hle:v/128^(g+1)≤v:=Nat.div_le_self _ _
  have ih:=PW (n:=n) b acc hb ha hv g k (i+1) rest O0 hd
  generalize hqe:v/128^(g+1)=q at hpw hle hx ih
  rw [hpw,fF b acc i k _ O0 hi hb ha,hx,YF O0,L3 O0,L3 O0,show 128*(q/128)+(q%128+128)%128=q by omega,ih]
  rw [show i+1+g+1=i+(g+1)+1 by omega]
theorem GT {v:Nat} (hv:v<34359738368):∃c r,Wd v=c::r∧c.toNat≠128:=by
 have hg:=V2 hv
 unfold Wd qT
 obtain⟨g,hgg⟩:∃g,grp v=g+1:=⟨grp v-1,by have:=hg.1; omega⟩
 rw [hgg,Nat.add_sub_cancel]
 match g,hgg with
 |0,_=>exact⟨_,_,rfl,by rw [YF O0]; omega⟩
 | g+1,hgg=>
  refine⟨_,_,rfl, ?_⟩
  have h1:=hg.2.2.2 (g+1) O0 O0
  have h2:=hg.2.2.1
  rw [hgg,Nat.pow_succ 128 (g+1),←Nat.div_div_eq_div_mul]at h2
  generalize v/128^(g+1)=q at h1 h2 ⊢
  rw [YF O0]; omega
theorem QX {n:Nat} (b:Bs) (hb:b.length≤500000000) (hn:20≤n):∀(suf:List Nat) (k i:Nat) (acc:List Int),suf.length<k→acc.length+suf.length≤1000000→(∀x∈suf,x≤4294967294)→i≤b.length→b.drop i=(suf.map Wd).flatten →
  wN n b k acc (i:Int)=some (.nxt (acc++yA suf))
 |suf,0,_,_,h,_,_,_,_=>O0
 | [],k+1,i,acc,_,_,_,hi,hd=>by
  have:i=b.length:=by
   have:=congrArg List.length hd; simp at this; omega
  rw [wN,L3 O3]; simp [yA]
 | v::suf,k+1,i,acc,hk,ha,hq,hi,hd=>by
  have hv:=hq v O2
  rw [Lb,List.flatten_cons]at hd
  obtain⟨c,r,he,hc⟩:=GT (v:=v) O0
  have hil:i<b.length:=by
   apply Decidable.byContradiction; intro hcc
   rw [La O0,he]at hd; simp at hd
  have hbi:b[i]=c:=by
   rw [L9 hil,he]at hd; exact(List.cons.inj hd).1
  have hg:=V2 (v:=v) O0
  have hg1:=hg.1
  have hg5:=hg.2.1
  have e2:=PW (n:=n) b acc O0 O0 hv (grp v-1) n i ((suf.map Wd).flatten) O0 hd
  rw [show grp v-1+1=grp v by omega,hg.2.2.1,show((0:Nat):Int)=0 from rfl,show i+(grp v-1)+1=i+grp v by omega]at e2
  have hlen:(Wd v).length=grp v:=by unfold Wd qT; simp [Wq]; omega
  have hd2:b.drop (i+grp v)=(suf.map Wd).flatten:=by
   rw [←List.drop_drop,hd,←hlen,List.drop_left]
  have hil2:i+grp v≤b.length:=by
   have:=congrArg List.length hd; rw [List.length_drop,L5,hlen]at this; omega
  simp only [L7]at hk ha
  have ih:=QX b hb hn suf k (i+grp v) (acc ++ [(v:Int)]) O0 O3 (fun x hx=>hq x (by simp [hx])) hil2 hd2
  rw [wN,L4 O3,vC hil,L0,hbi,L3 O8,e2]
  show wN n b k _ _=_
  rw [ih]; simp [yA]
theorem rH (a:Nat):Lib.itoa (a:Int)=Lib.decDigits a:=Lib.itoa_nonneg a
theorem oQ {n:Nat} (L:List Nat) (hl:L.length≤12) (hL:∀x∈L,x≤9000000000):∀(k i:Nat) (acc:List Bs),i≤L.length→L.length-i<k→acc.length≤i →
  kD n (yA L) k acc (i:Int)=some (if(L.drop i).all (fun x=>decide (x≤2147483647))=true then .nxt (acc++(L.drop i).map fun a=>Lib.decDigits a)else .ret ([],11))
 |0,_,_,_,h,_=>O0
 | k + 1,i,acc,hi,hk,ha=>by
  rw [kD]
  by_cases hc:i<L.length
  ·have hx:zV (yA L) (i:Int)=some (L[i]:Int):=by
    rw [zE (by rw [xp]; omega)]; congr 1; simp [yA]
   have hb:=hL L[i] (Li hc)
   rw [L4 (by simp [xp]; omega),hx,L0,L9 hc,List.all_cons]
   by_cases h1:L[i]≤2147483647
   ·have hct:JP n (L[i]:Int)=some (Lib.decDigits L[i]):=by
     unfold JP; rw [L4 O0,rH]
    rw [L3 O4,hct,L0,yU O3,L0,w1 O0,oQ L hl hL k (i+1) _ O0 O0 O3,decide_eq_true h1,Bool.true_and]
    simp only [Lb,Ln,List.singleton_append]
   ·rw [L4 O4,decide_eq_false h1,Bool.false_and,L3 O2]
  ·rw [L3 (by simp [xp]; omega),La O0]
   simp
def gR:List Nat→List Nat
 | []=> []
 |v::r=>(if 2<v/40 then 2 else v/40)::(v-40*(if 2<v/40 then 2 else v/40))::r
def U8 (q:List Nat):Bool:=decide (q≠ [])&&decide (q.length≤11)&&(gR q).all (fun x=>decide (x≤2147483647))
theorem UE {n:Nat} {b:Bs} {q:List Nat} (hn:40≤n) (h:bc n b=some (yA q)) (hq:∀x∈q,x≤4294967294) (hql:q.length≤500000000):yq n b=some (if U8 q=true then(hQ (gR q),0)else([],11)):=by
 unfold yq
 rw [h,L0,xp]
 by_cases h0:q= []
 ·subst h0; rfl
 ·obtain ⟨v,r,rfl⟩:=List.exists_cons_of_ne_nil h0
  have hv:=hq v O2
  rw [L3 (by rw [beq_iff_eq,L7]; omega),L0]
  by_cases h11:(v::r).length≤11
  ·rw [L3 O4]
   have k0:zV (yA (v::r)) 0=some (v:Int):=by simp [zV,yA]
   have k2:lsl (yA (v::r)) 1 ((v::r).length:Nat)=some (yA r):=by
    unfold lsl; rw [L4 (by rw [xp,L7]; omega),Int.toNat_natCast,List.take_of_length_le (by rw [xp]; exact Nat.le_refl _)]; rfl
   rw [k0,k2]
   simp only [L0]
   have e0:wrap .i64 (Int.tdiv (v:Int) 40)=((v/40:Nat):Int):=by
    rw [show(40:Int)=((40:Nat):Int)from rfl,(Int.ofNat_tdiv v 40).symm,yv O0]
   rw [e0]
   have e1:(if(2:Int)<((v/40:Nat):Int)then(2:Int)else((v/40:Nat):Int))=(((if 2<v/40 then 2 else v/40):Nat):Int):=by
    by_cases c:2<v/40
    ·rw [L4 c,L4 O0]; rfl
    ·rw [L3 c,L3 O0]
   rw [e1]
   have hle:40*(if 2<v/40 then 2 else v/40)≤v:=by split<;>omega
   generalize hz:(if 2<v/40 then 2 else v/40)=z at hle ⊢
   have e2:wrap .i64 ((v:Int)-wrap .i64 ((40:Int)*(z:Int)))=((v-40*z:Nat):Int):=by
    rw [yv (x:=(40:Int)*(z:Int)) O0,yv O0]; omega
   rw [e2]
   have ey:(if List.isEmpty (yA r)=true then some ([(z:Int),((v-40*z:Nat):Int)]:List Int)else(pb 8 ([(z:Int),((v-40*z:Nat):Int)]:List Int) (yA r)).bind fun x5=>some x5)=some (yA (gR (v::r))):=by
    rw [show gR (v::r)=z::(v-40*z)::r by simp only [gR,hz]]
    match r with
    | []=>rfl
    | c::r=>
     rw [L3 (by simp [yA])]
     unfold pb
     simp only [L7]at h11
     rw [L4 (by simp [xp]; omega)]; rfl
   rw [ey,L0]
   have hlen:(gR (v::r)).length≤12:=by simp only [gR,L7]at h11 ⊢; omega
   have hL:∀x∈gR (v::r),x≤4294967294:=by
    intro x hx
    simp only [gR,Lm,hz]at hx
    rcases hx with rfl|rfl|hx
    ·omega
    ·omega
    ·exact hq x (by simp [hx])
   have hd:=oQ (n:=n) (gR (v::r)) hlen (fun x hx=>by have:=hL x hx; omega) n 0 [] O0 O0 O2
   rw [show((0:Nat):Int)=0 from rfl,Lf,Lg]at hd
   rw [hd]
   have hok:U8 (v::r)=(gR (v::r)).all (fun x=>decide (x≤2147483647)):=by
    unfold U8; rw [decide_eq_true O2,decide_eq_true h11]; simp
   rw [hok]
   by_cases hall:(gR (v::r)).all (fun x=>decide (x≤2147483647))=true
   ·rw [L4 hall,L4 hall]
    simp only [z8]
    have hj:Wc n ((gR (v::r)).map fun a=>Lib.decDigits a) [46]=some (hQ (gR (v::r))):=by
     unfold Wc
     have:=PE (sep:= [46]) (b:=20) (l:=(gR (v::r)).map fun a=>Lib.decDigits a) (by
      intro x hx; obtain⟨a,ha,rfl⟩:=Le.1 hx
      have:=hL a ha; exact pJ O0)
     rw [L8,L6]at this
     rw [L4 (by rw [L8]; omega)]; rfl
    rw [hj]; rfl
   ·rw [L3 hall,L3 hall]; rfl
  ·rw [L4 O4,L3]
   unfold U8; rw [decide_eq_false h11]; simp
theorem V3 {l:List Nat} (h:Dk l):gR (ZT l)=l:=by
 obtain⟨h2,h12,hr,hb⟩:=h
 obtain⟨a,b,r,rfl⟩:=Bj h2
 simp only [Xo,Bool.or_eq_true,Lc,L2]at hr
 simp only [ZT,gR]
 rcases hr with⟨h1,h3⟩|h1
 ·rw [L3 O0,show(40*a+b)/40=a by omega,show 40*a+b-40*a=b by omega]
 ·subst h1
  have:(if 2<(40*2+b)/40 then 2 else(40*2+b)/40)=2:=by split<;>omega
  rw [this,show 40*2+b-40*2=b by omega]
theorem Dr {l:List Nat} (h:Dk l):(ZT l).length+1=l.length∧∀x∈ZT l,x≤2147483727:=by
 have h':=h
 obtain⟨h2,h12,hr,hb⟩:=h
 obtain⟨a,b,r,rfl⟩:=Bj h2
 have ha:=hb a O2
 have hbb:=hb b O2
 simp only [Xo,Bool.or_eq_true,Lc,L2]at hr
 refine⟨by simp [ZT], ?_⟩
 intro x hx
 simp only [ZT,Lm]at hx
 rcases hx with rfl|hx
 ·omega
 ·have:=hb x (by simp [hx]); omega
theorem gZ {l:List Nat} (h:Dk l):(qg l).length≤55:=by
 have h1:=Dr h
 have h12:=h.2.1
 have key:∀q:List Nat,((q.map Wd).flatten).length≤5*q.length:=by
  intro q
  induction q with
  |nil=>simp
  | cons a r ih=>
   have:=(Jw a).1
   rw [Lb,List.flatten_cons,L5,L7]
   have e:(Wd a).length=(qT a).length:=by simp [Wd]
   omega
 have:=key (ZT l)
 unfold qg; omega
theorem YA {n:Nat} {s:Bs} {l:List Nat} (h:y4 s=some l) (hn:100≤n):yq n (qg l)=some (s,0):=by
 have hok:=bf h
 have hno:=Dr hok
 have hlen:=gZ hok
 have h12:=hok.2.1
 have h2:=hok.1
 have hnum:bc n (qg l)=some (yA (ZT l)):=by
  unfold bc
  have:=QX (n:=n) (qg l) O0 O0 (ZT l) n 0 [] O0 O3 (fun x hx=>by have:=hno.2 x hx; omega) O0 rfl
  rw [show((0:Nat):Int)=0 from rfl]at this
  rw [this]; rfl
 rw [UE O0 hnum (fun x hx=>by have:=hno.2 x hx; omega) O0,V3 hok,UM h,L4]
 unfold U8
 rw [V3 hok,decide_eq_true (by intro hc; rw [hc]at hno; have:=hno.1; simp at this; omega),decide_eq_true O0]
 simp only [Bool.true_and,Ld,L2]
 exact hok.2.2.2
theorem na {n:Nat}:∀(k v:Nat),v<9000000000000000000→v<10^k→1≤k→yf n k (v:Int)=some (Lib.decDigits v)
 |0,_,_,_,h=>O0
 | k + 1,v,hv,hk,_=>by
  rw [yf]
  by_cases h:v<10
  ·rw [L4 O4,Lib.decDigits_one h]
   rw [yv O0,show(48:Int)+(v:Int)=((48+v:Nat):Int)by omega,wr8 O0 O0]
   show some [UInt8.ofNat ((48+v:Nat):Int).toNat]=_
   rw [Int.toNat_natCast]
  ·rw [L3 O4,Lib.decDigits,dif_neg h]
   have e1:Int.tdiv (v:Int) 10=((v/10:Nat):Int):=by rw [show(10:Int)=((10:Nat):Int)from rfl]; exact(Int.ofNat_tdiv v 10).symm
   have e2:Int.tmod (v:Int) 10=((v%10:Nat):Int):=by rw [show(10:Int)=((10:Nat):Int)from rfl]; exact(Int.ofNat_tmod v 10).symm
   have hk1:1≤k:=by
    match k,hk with
    |0,hk=>simp at hk; omega
    |k+1,_=>omega
   rw [e1,e2,yv (x:=((v/10:Nat):Int)) O0,na k (v/10) O0 (by rw [Nat.pow_succ]at hk; omega) hk1,L0]
   rw [yv O0,show(48:Int)+((v%10:Nat):Int)=((48+v%10:Nat):Int)by omega,wr8 O0 O0]
   have hl:=pJ (u:=v/10) O0
   rw [show b2s ([((48+v%10:Nat):Int)]:List Int)= [UInt8.ofNat (48+v%10)]by show [UInt8.ofNat ((48+v%10:Nat):Int).toNat]=_; rw [Int.toNat_natCast]]
   rw [yo (by rw [L6]; omega)]; rfl
theorem QK {n v:Nat} (hn:20≤n) (hv:v<9000000000000000000):yf n n (v:Int)=some (Lib.decDigits v):=
 na n v hv (Nat.lt_of_lt_of_le (show v<10^20 by omega) (Nat.pow_le_pow_right O0 hn)) O0
def rz (v:Nat):Nat:=if 2<v/40 then 2 else v/40
theorem GX {n:Nat} (hn:20≤n) (b:Bs) (hb:b.length≤100000000) (k:Nat) (out:Bs) (v:Nat) (more:Bool) (cnt i:Nat) (hi:i<b.length) (hv:v≤2147483727) (ho:out.length≤100000000000) (hc:cnt≤12):
  zJ n b (k+1) out (v:Int) more (cnt:Int) (i:Int)=
   if more=false∧b[i].toNat=128 then some (.ret ([],11))else
   if 2147483727<128*v+b[i].toNat%128 then some (.ret ([],11))else
   if 128≤b[i].toNat then zJ n b k out ((128*v+b[i].toNat%128:Nat):Int) true (cnt:Int) ((i+1:Nat):Int)else
   if cnt=0 then zJ n b k (Lib.decDigits (rz (128*v+b[i].toNat%128)) ++ [46]++Lib.decDigits (128*v+b[i].toNat%128-40*rz (128*v+b[i].toNat%128))) 0 false 2 ((i+1:Nat):Int)else
   if 12<cnt+1 then some (.ret ([],11))else zJ n b k (out++([46]++Lib.decDigits (128*v+b[i].toNat%128))) 0 false ((cnt+1:Nat):Int) ((i+1:Nat):Int):=by
 have hb8:=WV b[i]
 rw [zJ,L4 O4,vC hi]
 simp only [L0]
 have ey:(if(!more)=true then some ((b[i].toNat:Int)==128)else some false)=some (decide (more=false∧b[i].toNat=128)):=by
  cases more with
  |true=>rw [L3 O2]; simp
  | false=>
   rw [L4 O2]
   congr 1
   by_cases h:b[i].toNat=128
   ·rw [decide_eq_true ⟨rfl,h⟩,beq_iff_eq]; omega
   ·rw [decide_eq_false (fun h'=>h h'.2)]; rw [beq_eq_false_iff_ne]; omega
 rw [ey]
 simp only [L0]
 by_cases h1:more=false∧b[i].toNat=128
 ·rw [decide_eq_true h1,L4 rfl,L4 h1]; rfl
 ·rw [decide_eq_false h1,L3 O2,L3 h1]
  have em:Int.tmod (b[i].toNat:Int) 128=((b[i].toNat%128:Nat):Int):=by rw [show(128:Int)=((128:Nat):Int)from rfl]; exact(Int.ofNat_tmod _ 128).symm
  have ev:wrap .i64 (wrap .i64 ((128:Int)*(v:Int))+wrap .i64 (Int.tmod (b[i].toNat:Int) 128))=((128*v+b[i].toNat%128:Nat):Int):=by
   rw [em,yv (x:=(128:Int)*(v:Int)) O0,yv (x:=((b[i].toNat%128:Nat):Int)) O0,yv O0]; omega
  rw [ev]
  generalize hV:128*v+b[i].toNat%128=V
  by_cases h2:2147483727<V
  ·rw [L4 O4,L4 h2]; rfl
  ·rw [L3 O4,L3 h2,w1 (i:=i) O0]
   by_cases h3:128≤b[i].toNat
   ·have hd:decide ((b[i].toNat:Int)≥128)=true:=O4
    rw [hd,L4 rfl,L4 h3]; rfl
   ·have hd:decide ((b[i].toNat:Int)≥128)=false:=by rw [decide_eq_false_iff_not]; omega
    rw [hd,L3 O2,L3 h3]
    have e0:wrap .i64 (Int.tdiv (V:Int) 40)=((V/40:Nat):Int):=by
     rw [show(40:Int)=((40:Nat):Int)from rfl,(Int.ofNat_tdiv V 40).symm,yv O0]
    have e1:(if(2:Int)<((V/40:Nat):Int)then(2:Int)else((V/40:Nat):Int))=((rz V:Nat):Int):=by
     unfold rz
     by_cases c:2<V/40
     ·rw [L4 c,L4 O0]; rfl
     ·rw [L3 c,L3 O0]
    have hle:40*rz V≤V:=by unfold rz; split<;>omega
    rw [e0,e1]
    have e2:wrap .i64 ((V:Int)-wrap .i64 ((40:Int)*((rz V:Nat):Int)))=((V-40*rz V:Nat):Int):=by
     rw [yv (x:=(40:Int)*((rz V:Nat):Int)) O0,yv O0]; omega
    rw [e2]
    have l1:=pJ (u:=rz V) O0
    have l2:=pJ (u:=V-40*rz V) O0
    have l3:=pJ (u:=V) O0
    by_cases h4:cnt=0
    ·subst h4
     rw [L4 (by rfl),L4 rfl,QK hn O0,QK hn O0]
     simp only [L0]
     rw [yo (by rw [L6]; omega)]
     simp only [L0]
     rw [yo (by rw [L5,L6]; omega)]
     rfl
    ·rw [L3 O8,L3 h4,QK hn O0]
     simp only [L0]
     rw [yo (by rw [L6]; omega)]
     simp only [L0]
     rw [yo (by rw [L5,L6]; omega)]
     simp only [L0]
     rw [w1 (i:=cnt) O0]
     by_cases h5:12<cnt+1
     ·rw [L4 O4,L4 h5]; rfl
     ·rw [L3 O4,L3 h5]; rfl
theorem zcZ (v:Nat):40*rz v≤v:=by unfold rz; split<;>omega
def lW (n:Nat) (b:Bs) (k:Nat) (out:Bs) (v cnt j:Nat):Option (Ctl (Bs×Int) (Bs×Bool)):=
 if cnt=0 then zJ n b k (Lib.decDigits (rz v) ++ [46]++Lib.decDigits (v-40*rz v)) 0 false 2 (j:Int)else
 if 12<cnt+1 then some (.ret ([],11))else zJ n b k (out++([46]++Lib.decDigits v)) 0 false ((cnt+1:Nat):Int) (j:Int)
theorem md {n:Nat} (hn:20≤n) (b:Bs) (hb:b.length≤100000000) {v:Nat} (hv:v≤2147483727) (out:Bs) (ho:out.length≤100000000000) (cnt:Nat) (hc:cnt≤12):∀(g k i:Nat) (more:Bool) (rest:Bs),b.drop i=(hi v g ++ [v%128]).map o8++rest→(more=true∨∃c r,b.drop i=c::r∧c.toNat≠128) →
  zJ n b (k+g+1) out ((v/128^(g+1):Nat):Int) more (cnt:Int) (i:Int)=lW n b k out v cnt (i+g+1)
 | 0,k,i,more,rest,hd,hm=>by
  have hi:i<b.length:=by
   apply Decidable.byContradiction; intro hc
   rw [La O0]at hd; simp [Go.Abs.hi]at hd
  have hm':¬(more=false∧b[i].toNat=128):=by
   rintro⟨h1,h2⟩
   rcases hm with h|⟨c,r,h,h3⟩
   ·rw [h]at h1; cases h1
   ·rw [L9 hi]at h; rw [(List.cons.inj h).1]at h2; exact h3 h2
  have hx:b[i]=o8 (v%128):=by
   rw [L9 hi]at hd; simp only [Go.Abs.hi,Lg,Lb,List.map_nil,List.singleton_append]at hd
   exact(List.cons.inj hd).1
  have hq:v/128^(0+1)=v/128:=by rw [Nat.zero_add,Nat.pow_one]
  rw [hq,Nat.add_zero,GX hn b hb k out _ more cnt i hi O0 ho hc,L3 hm',hx,YF O0,L3 O0,L3 O0,show 128*(v/128)+v%128%128=v by omega]
  rfl
 | g+1,k,i,more,rest,hd,hm=>by
  have hi:i<b.length:=by
   apply Decidable.byContradiction; intro hc
   rw [La O0]at hd; simp [Go.Abs.hi]at hd
  have hm':¬(more=false∧b[i].toNat=128):=by
   rintro⟨h1,h2⟩
   rcases hm with h|⟨c,r,h,h3⟩
   ·rw [h]at h1; cases h1
   ·rw [L9 hi]at h; rw [(List.cons.inj h).1]at h2; exact h3 h2
  rw [L9 hi]at hd
  simp only [Go.Abs.hi,List.cons_append,Lb]at hd
  obtain⟨hx,hd⟩:=List.cons.inj hd
  have hpw:v/128^(g+1+1)=v/128^(g+1)/128:=by rw [Nat.div_div_eq_div_mul,Nat.pow_succ]
  have hle:v/128^(g+1)≤v:=Nat.div_le_self _ _
  have ih:=md (n:=n) hn b hb hv out ho cnt hc g k (i+1) true rest hd (.inl rfl)
  generalize hqe:v/128^(g+1)=q at hpw hle hx ih
  rw [hpw,show k+(g+1)+1=(k+g+1)+1 by omega,GX hn b hb _ out _ more cnt i hi O0 ho hc,L3 hm',hx,YF O0,L3 O0,L4 O0,show 128*(q/128)+(q%128+128)%128=q by omega,ih]
  rw [show i+1+g+1=i+(g+1)+1 by omega]
theorem sq {n:Nat} (hn:20≤n) (b:Bs) (hb:b.length≤100000000) {v:Nat} (hv:v≤2147483727) (out:Bs) (ho:out.length≤100000000000) (cnt:Nat) (hc:cnt≤12) (k i:Nat) (rest:Bs) (hd:b.drop i=Wd v++rest):
  zJ n b (k+grp v) out 0 false (cnt:Int) (i:Int)=lW n b k out v cnt (i+grp v)∧b.drop (i+grp v)=rest∧1≤grp v∧grp v≤5:=by
 have hg:=V2 (v:=v) O0
 have hg1:=hg.1
 obtain⟨c,r,he,hcc⟩:=GT (v:=v) O0
 have e:=md (n:=n) hn b hb hv out ho cnt hc (grp v-1) k i false rest hd (.inr ⟨c,r++rest,by rw [hd,he]; rfl,hcc⟩)
 rw [show grp v-1+1=grp v by omega,hg.2.2.1,show((0:Nat):Int)=0 from rfl,show k+(grp v-1)+1=k+grp v by omega,show i+(grp v-1)+1=i+grp v by omega]at e
 have hlen:(Wd v).length=grp v:=by unfold Wd qT; simp [Wq]; omega
 refine⟨e, ?_,hg1,hg.2.1⟩
 rw [←List.drop_drop,hd,←hlen,List.drop_left]
theorem lZ {n:Nat} (hn:20≤n) (b:Bs) (hb:b.length≤100000000):∀(suf:List Nat) (K i cnt:Nat) (out:Bs),5*suf.length<K→(∀x∈suf,x≤2147483647)→out.length+21*suf.length≤100000000000→2≤cnt→cnt+suf.length≤12→i≤b.length→b.drop i=(suf.map Wd).flatten →
  zJ n b K out 0 false (cnt:Int) (i:Int)=some (.nxt (out++Lib.joinTail [46] (suf.map fun a=>Lib.decDigits a),false))
 | [],K,i,cnt,out,hK,_,_,_,_,hi,hd=>by
  have:i=b.length:=by
   have:=congrArg List.length hd; simp at this; omega
  match K,hK with
  | K+1,_=>
   rw [zJ,L3 O4]; simp [Lib.joinTail]
 | v::suf,K,i,cnt,out,hK,hq,ho,h2,h12,hi,hd=>by
  have hv:=hq v O2
  simp only [L7]at hK ho h12
  rw [Lb,List.flatten_cons]at hd
  have hg5:=(V2 (v:=v) O0).2.1
  have hd0:=hd
  obtain⟨e,hd,g1,g5⟩:=sq (n:=n) hn b hb (v:=v) O0 out O0 cnt O0 (K-grp v) i _ hd
  rw [show K-grp v+grp v=K by omega]at e
  have l3:=pJ (u:=v) O0
  have hlen:(Wd v).length=grp v:=by unfold Wd qT; simp [Wq]; omega
  have hil2:i+grp v≤b.length:=by
   have:=congrArg List.length hd0; rw [List.length_drop,L5,hlen]at this; omega
  rw [e]
  unfold lW
  rw [L3 O0,L3 O0,lZ hn b hb suf (K-grp v) (i+grp v) (cnt+1) _ O0 (fun x hx=>hq x (by simp [hx])) (by rw [L5,L5,L6]; omega) O0 O0 hil2 hd]
  simp [Lib.joinTail]
theorem pS {n:Nat} {s:Bs} {l:List Nat} (h:y4 s=some l) (hs:s.length≤100000000) (hn:s.length+400≤n):zx n (qg l)=some (s,0):=by
 have hok:=bf h
 have hno:=Dr hok
 have hlen:=gZ hok
 have hdots:=UM h
 have harc:=V3 hok
 obtain⟨h2,h12,hr,hb⟩:=hok
 obtain⟨a,c,r,rfl⟩:=Bj h2
 simp only [L7]at h12
 unfold zx
 have hv0:=hno.2 (40*a+c) (by simp [ZT])
 have hd0:(qg (a::c::r)).drop 0=Wd (40*a+c)++(r.map Wd).flatten:=rfl
 have hg5:=(V2 (v:=40*a+c) O0).2.1
 obtain⟨e,hd,g1,g5⟩:=sq (n:=n) O0 (qg (a::c::r)) O0 hv0 [] O2 0 O0 (n-grp (40*a+c)) 0 _ hd0
 rw [show n-grp (40*a+c)+grp (40*a+c)=n by omega,show((0:Nat):Int)=0 from rfl]at e
 rw [e]
 unfold lW
 rw [L4 rfl]
 have hz:rz (40*a+c)=a∧40*a+c-40*rz (40*a+c)=c:=by
  simp only [ZT,gR]at harc
  injection harc with e1 e2
  injection e2 with e2 e3
  exact⟨e1,e2⟩
 rw [hz.2,hz.1]
 have ha:=hb a O2
 have hc:=hb c O2
 have l1:=pJ (u:=a) O0
 have l2:=pJ (u:=c) O0
 have hlen0:(Wd (40*a+c)).length=grp (40*a+c):=by unfold Wd qT; simp [Wq]; omega
 have hil2:0+grp (40*a+c)≤(qg (a::c::r)).length:=by
  have:=congrArg List.length hd0; rw [List.length_drop,L5,hlen0]at this; omega
 have hl:=lZ (n:=n) O0 (qg (a::c::r)) O0 r (n-grp (40*a+c)) (0+grp (40*a+c)) 2 (Lib.decDigits a ++ [46]++Lib.decDigits c) O0 (fun x hx=>hb x (by simp [hx])) (by rw [L5,L5,L6]; omega) O0 O0 hil2 hd
 rw [show((2:Nat):Int)=2 from rfl]at hl
 rw [hl]
 have hds:Lib.decDigits a ++ [46]++Lib.decDigits c++Lib.joinTail [46] (r.map fun a=>Lib.decDigits a)=s:=by
  rw [←hdots]; unfold hQ
  rw [Lb,Lb,Lib.join_cons]
  simp [Lib.joinTail]
 rw [hds]
 simp only [z8]
 have hne:(qg (a::c::r)).length≠0:=by
  intro hh; omega
 rw [L3 O8,L3 O2,gU hs O0,h]
 rfl
def polE (s:Bs):Nat×Bs:=(6,qg ((y4 s).getD []))
theorem bB {t:Nat} {c:Bs} (h:c.length≤131072):tWrap t c=((tWrap t c).1,0):=by unfold tWrap; rw [L4 h]
theorem Js {n t:Nat} {c:Bs} (h1:t≤255) (h2:t%32≠31) (hc:c.length≤1000000000000) (hn:20≤n):ve n (t:Int) [c]=some (tWrap t c):=by
 have:=Ww (n:=n) (t:=t) (cs:= [c]) h1 h2 (O9 hc) O3 O2
 rw [this]; simp
theorem lK {n t:Nat} {c:Bs} (h1:t≤255) (h2:t%32≠31) (hc:c.length≤1000000000000) (hn:20≤n):yZ n (t:Int) [c]=some (tWrap t c):=by
 have:=Xc (n:=n) (t:=t) (cs:= [c]) h1 h2 (O9 hc) O3 O2
 rw [this]; simp
theorem Qq {n:Nat} {b a:Bs} {e:Int} (h:b.length+a.length≤1000000000000):yh n a e ⟨b,0⟩=some ⟨b++a,e⟩:=by
 unfold yh
 rw [L4 (by rfl),yo (by show b.length+a.length≤_; omega)]; rfl
theorem KH {n t:Nat} {b c:Bs} (h1:t≤255) (h2:t%32≠31) (hc:b.length+c.length≤100000000000) (hn:20≤n):z6 n (t:Int) c ⟨b,0⟩=some ⟨b++(tWrap t c).1,(tWrap t c).2⟩:=by
 unfold z6
 have:=zU t c
 rw [Js h1 h2 O0 hn,L0,Qq O0]; rfl
theorem ji (l:List (Nat×Bs)) (p:Nat×Bs):wraps (p::l)=(tWrap p.1 p.2).1++wraps l:=by simp [wraps, -List.length_flatten]
theorem WB {m:Nat}:∀l:List (Nat×Bs),(∀p∈l,p.2.length≤m)→(wraps l).length≤(m+5)*l.length
 | [],_=>by simp [wraps]
 | p::l,h=>by
  have h1:=h p O2
  have h2:=zU p.1 p.2
  have ih:=WB l (fun q hq=>h q (by simp [hq]))
  rw [ji,L5,L7,Nat.mul_succ]; omega
theorem nY {n:Nat} {b:Bs} {e:Int} (he:e≠0) (hb:b.length≤100000000000) (hn:20≤n):xE n ⟨b,e⟩=some ([],2,⟨b,e⟩):=by
 unfold xE
 have:=Js (n:=n) (t:=48) (c:=b) O0 O0 O0 hn
 rw [show((48:Nat):Int)=48 from rfl]at this
 rw [this]
 simp only [L0]
 rw [L4 (O9 he)]; rfl
theorem JV {n:Nat} {b:Bs} (hb:b.length≤100000000000) (hn:20≤n):xE n ⟨b,0⟩=some (if 131072<b.length then([],2,⟨b,0⟩)else((tWrap 48 b).1,0,⟨b,0⟩)):=by
 unfold xE
 have:=Js (n:=n) (t:=48) (c:=b) O0 O0 O0 hn
 rw [show((48:Nat):Int)=48 from rfl]at this
 rw [this]
 simp only [L0]
 rw [L3 O2]
 by_cases h:131072<b.length
 ·rw [L4 h]; unfold tWrap; rw [L3 O0]; rfl
 ·rw [L3 h,bB O0]; rfl
theorem J3 {t:Nat} {c:Bs} (h:131072<c.length):tWrap t c=([],6):=by unfold tWrap; rw [L3 O0]
theorem Xh {n t:Nat} {c:Bs} (h1:t≤255) (h2:t%32≠31) (hc:c.length≤1000000000000) (hn:20≤n):zD n (t:Int) [c]=some (tWrap t c).1:=by
 unfold zD
 rw [lK h1 h2 hc hn]; rfl
theorem zdj {n:Nat} {s:Bs} (hs:s.length≤100000000) (hn:s.length+40≤n) (h:(y4 s).isSome=true):uC n s=some (tWrap (polE s).1 (polE s).2).1:=by
 obtain⟨l,hl⟩:=Option.isSome_iff_exists.1 h
 unfold uC
 have hlen:=gZ (bf hl)
 have:=Xh (n:=n) (t:=6) (c:=qg l) O0 O0 O0 O0
 rw [show((6:Nat):Int)=6 from rfl]at this
 rw [UD hs hn hl,L0,this]
 simp [polE,hl]
theorem oC {b:Bs} (h:(wT b).2.2=0):∃t:UInt8,(wT b).1.zA=(t.toNat:Int)∧t.toNat%32≠31:=by
 match b with
 | []=>simp [wT]at h
 | t ::r=>
  by_cases h31:t.toNat%32=31
  ·unfold wT at h; simp [h31]at h
  ·refine ⟨t, ?_,h31⟩
   unfold wT at h ⊢
   simp only [h31,if_false]at h ⊢
   match r with
   | []=>simp at h
   | c::s=>
    simp only at h ⊢
    repeat' split
    all_goals first|rfl|(rename_i hh; simp_all)
def EOk (e:za):Prop:=e.zc.length+2≤e.jL.length∧∃t:UInt8,e.zA=(t.toNat:Int)∧t.toNat%32≠31
def WG (l:List za):Nat:=(l.map fun e=>e.jL.length).sum
theorem JC:∀(k:Nat) (b:Bs) (acc:List za),∃M,((pm k b acc).1=acc++M∨(pm k b acc).1= [])∧WG M≤b.length∧∀e∈M,EOk e
 |0,b,acc=>⟨[], .inl (by simp [pm]),by simp [WG],O2⟩
 | k + 1,b,acc=>by
  rw [pm]
  by_cases h0:b= []
  ·rw [L4 h0]; exact⟨[], .inl O2,by simp [WG],O2⟩
  ·rw [L3 h0]
   by_cases h1:(wT b).2.2≠0
   ·rw [L4 h1]; exact⟨[], .inr rfl,by simp [WG],O2⟩
   ·rw [L3 h1]
    have h1:(wT b).2.2=0:=by simpa using h1
    obtain⟨k1,k2,k3,_⟩:=Xe h1
    obtain⟨M,e1,e2,e3⟩:=JC k (wT b).2.1 (acc ++ [(wT b).1])
    have hl:=congrArg List.length k1
    rw [L5]at hl
    refine⟨(wT b).1::M, ?_, ?_, ?_⟩
    ·rcases e1 with e1|e1
     ·exact .inl (by rw [e1]; simp)
     ·exact .inr e1
    ·unfold WG at e2 ⊢; rw [Lb,List.sum_cons]; omega
    ·intro e he
     rcases Lm.1 he with rfl|he
     ·exact⟨k3,oC h1⟩
     ·exact e3 e he
theorem cO {l:List za}:∀e∈l,e.jL.length≤WG l:=by
 intro e he
 induction l with
 |nil=>simp at he
 | cons a r ih=>
  unfold WG at ih ⊢; rw [Lb,List.sum_cons]
  rcases Lm.1 he with rfl|he
  ·omega
  ·have:=ih he; omega
theorem oW {l:List za} (h:∀e∈l,EOk e):2*l.length≤WG l:=by
 induction l with
 |nil=>simp [WG]
 | cons a r ih=>
  have:=ih (fun e he=>h e (by simp [he]))
  have h1:=(h a O2).1
  unfold WG at this ⊢; rw [Lb,List.sum_cons,L7]; omega
theorem Vz (b:Bs):WG (tList b).1≤b.length∧∀e∈(tList b).1,EOk e:=by
 unfold tList
 obtain⟨M,e1,e2,e3⟩:=JC (b.length+1) b []
 rcases e1 with e1|e1
 ·rw [e1,Lg]; exact⟨e2,e3⟩
 ·rw [e1]; exact⟨by simp [WG],O2⟩
def Bd (M:Nat) (l:List za):Prop:=l.length≤M∧∀e∈l,e.zc.length≤M
theorem wg (b:Bs) {M:Nat} (h:b.length≤M):Bd M (tList b).1:=by
 obtain⟨h1,h2⟩:=Vz b
 have:=oW h2
 exact⟨O0,fun e he=>by have:=cO e he; have:=(h2 e he).1; omega⟩
theorem Bd.tail {M:Nat} {e:za} {l:List za} (h:Bd M (e::l)):e.zc.length≤M∧Bd M l:=
 ⟨h.2 e O2,by have:=h.1; simp at this; omega,fun x hx=>h.2 x (by simp [hx])⟩
theorem ifb (a b:Bool):(if a=true then some true else some b)=some (a||b):=by cases a<;>rfl
theorem B8 {n:Nat} {f:Bool}:yz n ⟨[],f⟩=some (⟨0,[],[]⟩,⟨[],true⟩):=rfl
theorem XR {n:Nat} {f:Bool} {e:za} {l:List za}:yz n ⟨e::l,f⟩=some (e,⟨l,f⟩):=by
 unfold yz
 rw [L3 (by rw [beq_iff_eq]; simp only [L7]; omega)]
 have k0:zV (e::l) 0=some e:=by simp [zV]
 simp only []
 rw [k0,L0,Wu]; rfl
theorem WR {n M:Nat} {f:Bool} {l:List za} (h:Bd M l):∃e r f',yz n ⟨l,f⟩=some (e,⟨r,f'⟩)∧e.zc.length≤M∧Bd M r∧r.length≤l.length∧(0<l.length→r.length<l.length):=by
 match l,h with
 | [],h=>exact⟨_,_,_,B8,O2,h,O2,O2⟩
 |e::l,h=>exact⟨_,_,_,XR,h.tail.1,h.tail.2,O2,O2⟩
theorem eF {n:Nat} {e:za} (hn:e.zc.length+5≤n) (hl:e.zc.length≤1000000000000):jl n e=some ⟨(tList e.zc).1,((tList e.zc).2 !=0)||(e.zA !=48)⟩:=by
 unfold jl v6
 rw [kW hl hn]
 simp only [L0]
 cases(tList e.zc).2 !=0<;>rfl
theorem D3 {l:List Nat} (h:l.length≤12) (hl:∀x∈l,x≤4294967294):(hQ l).length≤252:=by
 unfold hQ
 have:=PE (sep:= [46]) (b:=20) (l:=l.map fun a=>Lib.decDigits a) (by
  intro x hx; obtain⟨a,ha,rfl⟩:=Le.1 hx
  have:=hl a ha; exact pJ O0)
 rw [L8,L6]at this; omega
theorem Ju {n:Nat} {b:Bs} (hb:b.length≤500000000) (hn:b.length+40≤n):∃s e,yq n b=some (s,e)∧s.length≤252:=by
 obtain⟨q,h,h1,h2⟩:=cq (n:=n) b hb O0
 rw [UE O0 h h1 O0]
 by_cases hq:U8 q=true
 ·rw [L4 hq]
  refine⟨_,_,rfl, ?_⟩
  simp only [U8,Lc,L2,Ld]at hq
  refine D3 ?_ (fun x hx=>by have:=hq.2 x hx; omega)
  match q,hq.1 with
  |v::r,hq=>have:=hq.2; simp only [gR,L7]at this ⊢; omega
 ·rw [L3 hq]; exact⟨_,_,rfl,O2⟩
theorem Uu {s:Bs} (h:(y4 s).isSome=true):s.length≤252:=by
 obtain⟨l,hl⟩:=Option.isSome_iff_exists.1 h
 have h2:=bf hl
 rw [←UM hl]
 exact D3 h2.2.1 (fun x hx=>by have:=h2.2.2.2 x hx; omega)
theorem KB {s:Bs} (h:(y4 s).isSome=true):POk (polE s):=by
 obtain⟨l,hl⟩:=Option.isSome_iff_exists.1 h
 refine⟨by show(6:Nat)≤255; omega,by show(6:Nat)%32≠31; omega, ?_⟩
 unfold polE; rw [hl]
 have:=gZ (bf hl); simp only [Option.getD_some]; omega
theorem YW (b:Bs):(va b).1.zc.length≤b.length:=by
 unfold va
 split
 ·simp
 ·rename_i h
  split
  ·simp
  ·have h:(wT b).2.2=0:=by simpa using h
   obtain⟨k1,k2,k3,_⟩:=Xe h
   have hl:=congrArg List.length k1
   rw [L5]at hl
   show(wT b).1.zc.length≤b.length
   omega
theorem lQ {n:Nat} {t:Int} {l:List za} {i:Nat} {bad:Bool} (h:bad=true∨l.length≤i∨∃e,l[i]? =some e∧e.zA≠t):zO n t ⟨l,i,bad⟩=some (⟨0,[],[]⟩,false,⟨l,i,bad⟩):=by
 unfold zO
 have e:(if bad=true then some true else if decide ((i:Int)≥(l.length:Int))=true then some true else(zV l (i:Int)).bind fun x1=>some (x1.zA !=t))=some true:=by
  cases bad with
  |true=>rfl
  | false=>
   rw [L3 O2]
   by_cases hc:l.length≤i
   ·rw [L4 O4]
   ·rw [L3 O4,zE O0,L0]
    rcases h with h|h|⟨e,h1,h2⟩
    ·cases h
    ·omega
    ·rw [List.getElem?_eq_getElem O0]at h1; injection h1 with h1; rw [h1]; simpa using h2
 simp only []
 rw [e,L0,L4 rfl]
theorem zbo {n:Nat} {t:Int} {l:List za} {i:Nat} {e:za} (hl:l.length≤1000000000) (h:l[i]? =some e) (ht:e.zA=t):zO n t ⟨l,i,false⟩=some (e,true,⟨l,((i+1:Nat):Int),false⟩):=by
 unfold zO
 obtain⟨hi,h⟩:=List.getElem?_eq_some_iff.1 h
 have hx:zV l (i:Int)=some e:=by rw [zE hi,h]
 have hq:(if false=true then some true else if decide ((i:Int)≥(l.length:Int))=true then some true else(zV l (i:Int)).bind fun x1=>some (x1.zA !=t))=some false:=by
  rw [L3 O2,L3 O4,hx,L0,ht]; simp
 simp only []
 rw [hq,L0,L3 O2,w1 O0,yv O0,show((i+1:Nat):Int)-1=(i:Int)by omega,hx]; rfl
theorem Qt {n M:Nat} {t:Int} {l:List za} {i:Nat} {bad:Bool} (hM:M≤1000000) (hb:Bd M l) (hi:i≤l.length):∃e j bad',ya n t ⟨l,(i:Int),bad⟩=some (e,⟨l,((j:Nat):Int),bad'⟩)∧j≤l.length∧e.zc.length≤M:=by
 have hl:=hb.1
 unfold ya
 by_cases h:bad=true∨l.length≤i∨∃e,l[i]? =some e∧e.zA≠t
 ·rw [lQ h,L0]
  simp only [ifb,L0]
  exact⟨_,i,_,rfl,hi,O2⟩
 ·have h1:bad=false:=by cases bad; rfl; exact absurd (.inl rfl) h
  subst h1
  have hi2:i<l.length:=by
   apply Decidable.byContradiction; intro hc; exact h (.inr (.inl O0))
  have hx:l[i]? =some l[i]:=List.getElem?_eq_getElem hi2
  have ht:l[i].zA=t:=by
   apply Decidable.byContradiction; intro hc; exact h (.inr (.inr ⟨_,hx,hc⟩))
  rw [zbo O0 hx ht,L0]
  simp only [ifb,L0]
  exact⟨_,i+1,_,rfl,O0,hb.2 _ (Li hi2)⟩
theorem P0 {n:Nat} {t:Int} {l:List za} {i:Nat} {e:za} (hl:l.length≤1000000000) (h:l[i]? =some e) (ht:e.zA=t):ya n t ⟨l,(i:Int),false⟩=some (e,⟨l,((i+1:Nat):Int),false⟩):=by
 unfold ya
 rw [zbo hl h ht]; rfl
theorem K9 {n:Nat} {e:za} {t:Int} (hn:e.zc.length+5≤n) (hl:e.zc.length≤1000000000000):vf n e t=some ⟨(tList e.zc).1,0,(e.zA !=t)||((tList e.zc).2 !=0)⟩:=by
 unfold vf
 rw [Yi hl hn,L0]
 simp only [ifb,L0]
theorem JZ {n:Nat} (hn:20≤n) (b:Bs) (hb:b.length≤100000000):∀(k i v cnt:Nat) (out:Bs) (more:Bool),i≤b.length→b.length-i<k→v≤2147483727→cnt≤12→out.length≤42*i →
  ∃c,zJ n b k out (v:Int) more (cnt:Int) (i:Int)=some c∧(∀o m,c= .nxt (o,m)→o.length≤42*b.length)∧∀r,c= .ret r→r.1= []
 |0,_,_,_,_,_,_,h,_,_,_=>O0
 | k + 1,i,v,cnt,out,more,hi,hk,hv,hc,ho=>by
  by_cases hlt:i<b.length
  ·have hb8:=WV b[i]
   rw [GX hn b hb k out v more cnt i hlt hv O0 hc]
   by_cases h1:more=false∧b[i].toNat=128
   ·rw [L4 h1]; exact⟨_,rfl,(fun o m h=>by cases h),fun r h=>by cases h; rfl⟩
   ·rw [L3 h1]
    generalize 128*v+b[i].toNat%128=V
    by_cases h2:2147483727<V
    ·rw [L4 h2]; exact⟨_,rfl,(fun o m h=>by cases h),fun r h=>by cases h; rfl⟩
    ·rw [L3 h2]
     by_cases h3:128≤b[i].toNat
     ·rw [L4 h3]; exact JZ hn b hb k (i+1) V cnt out true O0 O0 O0 hc O0
     ·rw [L3 h3]
      have:=zcZ V
      have l1:=pJ (u:=rz V) O0
      have l2:=pJ (u:=V-40*rz V) O0
      have l3:=pJ (u:=V) O0
      by_cases h4:cnt=0
      ·rw [L4 h4]
       exact JZ hn b hb k (i+1) 0 2 _ false O0 O0 O0 O0 (by rw [L5,L5,L6]; omega)
      ·rw [L3 h4]
       by_cases h5:12<cnt+1
       ·rw [L4 h5]; exact⟨_,rfl,(fun o m h=>by cases h),fun r h=>by cases h; rfl⟩
       ·rw [L3 h5]
        exact JZ hn b hb k (i+1) 0 (cnt+1) _ false O0 O0 O0 O0 (by rw [L5,L5,L6]; omega)
  ·rw [zJ,L3 O4]
   exact⟨_,rfl,(fun o m h=>by cases h; omega),fun r h=>by cases h⟩
theorem nU {n:Nat} {b:Bs} (hb:b.length≤2000000) (hn:42*b.length+40≤n):∃s e,zx n b=some (s,e)∧s.length≤42*b.length:=by
 unfold zx
 obtain⟨c,hc,ho,hr⟩:=JZ (n:=n) O0 b O0 n 0 0 0 [] false O0 O0 O0 O0 O2
 rw [show((0:Nat):Int)=0 from rfl]at hc
 rw [hc]
 cases c with
 |ret r=>exact⟨r.1,r.2,rfl,by rw [hr r rfl]; simp⟩
 | nxt x=>
  obtain⟨o,m⟩:=x
  have hl:=ho o m rfl
  simp only [z8]
  rw [gU O0 O0]
  simp only [L0,ifb]
  by_cases h:(((b.length:Int)==0)||(m|| !(y4 o).isSome))=true
  ·rw [L4 h]; exact⟨_,_,rfl,O2⟩
  ·rw [L3 h]; exact⟨_,_,rfl,hl⟩
theorem ol {l:List za} {i:Nat} (hi:i<l.length):WG (l.drop i)=l[i].jL.length+WG (l.drop (i+1)):=by
 rw [L9 hi]; unfold WG; rw [Lb,List.sum_cons]
abbrev Att:=zb
def Jf (pre:List Att) (a:Att):Int:=
 if(y4 a.wi).isSome=false then 11 else if a.vA= []∨Xd a.zG a.vA=false then 13 else if 64<a.vA.length then 2 else if(pre.any fun b=>b.wi==a.wi)=true then 10 else 0
def dQ:List Att→List Att→Int
 |_,[]=>0
 |pre,a::r=>if Jf pre a≠0 then Jf pre a else dQ (pre ++ [a]) r
def WY (r:List Att):Int:=if r= []then 14 else if 4<r.length then 2 else dQ [] r
def Zp:List (List Att)→Int
 | []=>0
 |r::l=>if WY r≠0 then WY r else Zp l
def vy (l:List (List Att)):Int:=if 8<l.length then 2 else Zp l
def BdA (B:Nat) (a:Att):Prop:=a.wi.length≤B∧a.vA.length≤B
def BdR (B:Nat) (r:List Att):Prop:=r.length≤B∧∀a∈r,BdA B a
def BdN (B:Nat) (l:List (List Att)):Prop:=l.length≤B∧∀r∈l,BdR B r
theorem GQ {α:Type} {l:List α} {i:Nat} (h:i<l.length):l.take (i+1)=l.take i ++ [l[i]]:=by
 rw [List.take_add_one,List.getElem?_eq_getElem h]; rfl
theorem mN {n:Nat} (p:List Att) (a:Att) (hp:p.length≤1000000):∀(k j:Nat),j≤p.length→p.length-j<k→vJ n p a k (j:Int)=some (if((p.drop j).any fun b=>b.wi==a.wi)=true then .ret 10 else .nxt ())
 |0,j,_,h=>O0
 | k + 1,j,hj,hk=>by
  rw [vJ]
  by_cases hc:j<p.length
  ·rw [L4 O4,zE hc,L9 hc,List.any_cons]
   simp only [L0]
   by_cases he:(p[j].wi==a.wi)=true
   ·rw [L4 he,he]; rfl
   ·rw [L3 he,w1 O0,mN p a hp k (j+1) O0 O0]
    rw [Bool.not_eq_true]at he
    rw [he,Bool.false_or]
  ·rw [L3 O4]
   have:j=p.length:=O0
   subst this
   simp
theorem mK {n B:Nat} (r:List Att) (hb:BdR B r) (hB:B≤1000000) (hn:B+100≤n):∀(k i:Nat),i≤r.length→r.length-i<k→z8 (wG n r k (i:Int)) (fun x=>some x) (fun _=>some 0)=some (dQ (r.take i) (r.drop i))
 |0,i,_,h=>O0
 | k+1,i,hi,hk=>by
  have hl:=hb.1
  rw [wG]
  by_cases hc:i<r.length
  ·have ha:=hb.2 r[i] O2
   rw [L4 O4,zE hc,L9 hc,dQ]
   simp only [L0]
   rw [Y5 (by have:=ha.1; omega) (by have:=ha.1; omega),eU (by have:=ha.2; omega) (by have:=ha.2; omega)]
   simp only [L0]
   unfold Jf
   by_cases h1:(y4 (r[i]).wi).isSome=false
   ·rw [L4 h1,L4 (by rw [h1]; rfl)]; rfl
   rw [L3 h1,L3 (O9 h1)]
   rw [ifb]
   simp only [L0]
   by_cases h2:(r[i]).vA= []∨Xd (r[i]).zG (r[i]).vA=false
   ·rw [L4 h2,L4 (O9 h2)]; rfl
   rw [L3 h2,L3 (O9 h2)]
   by_cases h3:64<(r[i]).vA.length
   ·rw [L4 h3,L4 O4]; rfl
   rw [L3 h3,L3 O4]
   have hs:lsl r 0 (i:Int)=some (r.take i):=by unfold lsl; rw [L4 ⟨O0,O0,O0⟩]; simp
   rw [hs]
   simp only [L0]
   have h4:=mN (n:=n) (r.take i) r[i] (by rw [List.length_take]; omega) n 0 O0 (by rw [List.length_take]; omega)
   rw [show((0:Nat):Int)=0 from rfl,Lf]at h4
   rw [h4]
   by_cases h5:((r.take i).any fun b=>b.wi==(r[i]).wi)=true
   ·rw [L4 h5,L4 h5]; rfl
   rw [L3 h5,L3 h5]
   rw [L3 (show ¬((0:Int)≠0)by simp)]
   show z8 (wG n r k (wrap .i64 ((i:Int)+1))) (fun x=>some x) (fun _=>some 0)=_
   rw [w1 O0,mK r hb hB hn k (i+1) O0 O0,GQ hc]
  ·rw [L3 O4]
   have:i=r.length:=O0
   subst this
   simp [z8,dQ]
theorem zeT {n B:Nat} {r:List Att} (hb:BdR B r) (hB:B≤1000000) (hn:B+100≤n):q0 n r=some (WY r):=by
 unfold q0 WY
 have hl:=hb.1
 by_cases h1:r= []
 ·subst h1; rfl
 rw [L3 (O9 h1),L3 h1]
 by_cases h2:4<r.length
 ·rw [L4 O4,L4 h2]
 rw [L3 O4,L3 h2]
 have:=mK (n:=n) r hb hB hn n 0 O0 O0
 rw [show((0:Nat):Int)=0 from rfl,Lf,List.take_zero]at this
 exact this
theorem PD {n B:Nat} (l:List (List Att)) (hb:BdN B l) (hB:B≤1000000) (hn:B+100≤n):∀(k i:Nat),i≤l.length→l.length-i<k→z8 (qF n ⟨l⟩ k (i:Int)) (fun x=>some x) (fun _=>some 0)=some (Zp (l.drop i))
 |0,i,_,h=>O0
 | k + 1,i,hi,hk=>by
  have hl:=hb.1
  rw [qF]
  by_cases hc:i<l.length
  ·rw [L4 (by rw [L2]; show(i:Int)<(l.length:Int); omega)]
   simp only [zE hc,L0]
   rw [L9 hc,Zp,zeT (hb.2 l[i] O2) hB hn]
   simp only [L0]
   by_cases h1:WY l[i]≠0
   ·rw [L4 h1,L4 (O9 h1)]; rfl
   ·rw [L3 h1,L3 (O9 h1),w1 O0]
    exact PD l hb hB hn k (i+1) O0 O0
  ·rw [L3 (by rw [L2]; show ¬(i:Int)<(l.length:Int); omega)]
   have:i=l.length:=O0
   subst this
   simp [z8,Zp]
theorem J4 {n B:Nat} {l:List (List Att)} (hb:BdN B l) (hB:B≤1000000) (hn:B+100≤n):jE n ⟨l⟩=some (vy l):=by
 unfold jE vy
 have hl:=hb.1
 by_cases h2:8<l.length
 ·rw [L4 (by rw [L2]; show((l.length:Int)>8); omega),L4 h2]
 rw [L3 (by rw [L2]; show ¬((l.length:Int)>8); omega),L3 h2]
 have:=PD (n:=n) l hb hB hn n 0 O0 O0
 rw [show((0:Nat):Int)=0 from rfl,Lf]at this
 exact this
theorem mM {n:Nat} (r:List Att) (a:Att) (hr:r.length≤1000000) (i:Nat) (hi:i≤r.length):∀(k j:Nat),j≤i→i-j<k→xm n (i:Int) r a k (j:Int)=some (if(((r.take i).drop j).any fun b=>b.wi==a.wi)=true then .ret 10 else .nxt ())
 |0,j,_,h=>O0
 | k + 1,j,hj,hk=>by
  rw [xm]
  by_cases hc:j<i
  ·have hc':j<(r.take i).length:=by rw [List.length_take]; omega
   have hg:(r.take i)[j]=r[j]:=O2
   rw [L4 O4,zE O0,L9 hc',List.any_cons,hg]
   simp only [L0]
   by_cases he:(r[j].wi==a.wi)=true
   ·rw [L4 he,he]; rfl
   ·rw [L3 he,w1 O0,mM r a hr i hi k (j+1) O0 O0]
    rw [Bool.not_eq_true]at he
    rw [he,Bool.false_or]
  ·rw [L3 O4]
   have:j=i:=O0
   subst this
   rw [La (by rw [List.length_take]; omega)]
   rfl
theorem mB {n B:Nat} (r:List Att) (hb:BdR B r) (hB:B≤1000000) (hn:B+100≤n):∀(k i:Nat),i≤r.length→r.length-i<k→z8 (yF n r k (i:Int)) (fun x=>some x) (fun _=>some 0)=some (dQ (r.take i) (r.drop i))
 |0,i,_,h=>O0
 | k+1,i,hi,hk=>by
  have hl:=hb.1
  rw [yF]
  by_cases hc:i<r.length
  ·have ha:=hb.2 r[i] O2
   rw [L4 O4,zE hc,L9 hc,dQ]
   simp only [L0]
   rw [gU (by have:=ha.1; omega) (by have:=ha.1; omega),B2 (by have:=ha.2; omega) (by have:=ha.2; omega)]
   simp only [L0]
   unfold Jf
   by_cases h1:(y4 (r[i]).wi).isSome=false
   ·rw [L4 h1,L4 (by rw [h1]; rfl)]; rfl
   rw [L3 h1,L3 (O9 h1)]
   rw [ifb]
   simp only [L0]
   by_cases h2:(r[i]).vA= []∨Xd (r[i]).zG (r[i]).vA=false
   ·rw [L4 h2,L4 (O9 h2)]; rfl
   rw [L3 h2,L3 (O9 h2)]
   by_cases h3:64<(r[i]).vA.length
   ·rw [L4 h3,L4 O4]; rfl
   rw [L3 h3,L3 O4]
   have h4:=mM (n:=n) r r[i] O0 i O0 n 0 O0 O0
   rw [show((0:Nat):Int)=0 from rfl,Lf]at h4
   rw [h4]
   by_cases h5:((r.take i).any fun b=>b.wi==(r[i]).wi)=true
   ·rw [L4 h5,L4 h5]; rfl
   rw [L3 h5,L3 h5]
   rw [L3 (show ¬((0:Int)≠0)by simp)]
   show z8 (yF n r k (wrap .i64 ((i:Int)+1))) (fun x=>some x) (fun _=>some 0)=_
   rw [w1 O0,mB r hb hB hn k (i+1) O0 O0,GQ hc]
  ·rw [L3 O4]
   have:i=r.length:=O0
   subst this
   simp [z8,dQ]
theorem zee {n B:Nat} {r:List Att} (hb:BdR B r) (hB:B≤1000000) (hn:B+100≤n):um n r=some (dQ [] r):=by
 unfold um
 have hl:=hb.1
 have:=mB (n:=n) r hb hB hn n 0 O0 O0
 rw [show((0:Nat):Int)=0 from rfl,Lf,List.take_zero]at this
 exact this
theorem PV {n B:Nat} (l:List (List Att)) (hb:BdN B l) (hB:B≤1000000) (hn:B+100≤n):∀(k i:Nat),i≤l.length→l.length-i<k→z8 (wB n ⟨l⟩ k (i:Int)) (fun x=>some x) (fun _=>some 0)=some (Zp (l.drop i))
 |0,i,_,h=>O0
 | k + 1,i,hi,hk=>by
  have hl:=hb.1
  rw [wB]
  by_cases hc:i<l.length
  ·rw [L4 (by rw [L2]; show(i:Int)<(l.length:Int); omega)]
   simp only [zE hc,L0]
   rw [L9 hc,Zp,zee (hb.2 l[i] O2) hB hn]
   simp only [L0]
   unfold WY
   by_cases h0:l[i]= []
   ·rw [L4 (by rw [h0]; rfl),L4 h0,L4 O1]; rfl
   rw [L3 (O9 h0),L3 h0]
   by_cases h4:4<(l[i]).length
   ·rw [L4 O4,L4 h4,L4 O1]; rfl
   rw [L3 O4,L3 h4]
   by_cases h1:dQ [] l[i]≠0
   ·rw [L4 h1,L4 (O9 h1)]; rfl
   ·rw [L3 h1,L3 (O9 h1),w1 O0]
    exact PV l hb hB hn k (i+1) O0 O0
  ·rw [L3 (by rw [L2]; show ¬(i:Int)<(l.length:Int); omega)]
   have:i=l.length:=O0
   subst this
   simp [z8,Zp]
theorem PR {n B:Nat} {l:List (List Att)} (hb:BdN B l) (hB:B≤1000000) (hn:B+100≤n):xf n ⟨l⟩=some (vy l):=by
 unfold xf vy
 have hl:=hb.1
 by_cases h2:8<l.length
 ·rw [L4 (by rw [L2]; show((l.length:Int)>8); omega),L4 h2]
 rw [L3 (by rw [L2]; show ¬((l.length:Int)>8); omega),L3 h2]
 have:=PV (n:=n) l hb hB hn n 0 O0 O0
 rw [show((0:Nat):Int)=0 from rfl,Lf]at this
 exact this
end Go.Abs
end
