/- The typed Lean form of WireAnchors gives true for every list of at most 9223372036854775807 numbers and every such list of anchors. -/
import Derived.Test.YtbggpcnbbhjiaaaGreatDoorLaw3
set_option linter.unusedVariables false
set_option linter.unusedSimpArgs false
set_option linter.unnecessarySimpa false
section
set_option maxRecDepth 100000
namespace Go.Abs
open Go Go.Proofs
def W0 (s:Bs):Nat×Bs:=(6,jG ((vY s).getD []))
theorem Wv {t:Nat} {c:Bs} (h:c.length≤131072):tWrap t c=((tWrap t c).1,0):=by unfold tWrap; rw [if_pos h]
theorem V0 {n t:Nat} {c:Bs} (h1:t≤255) (h2:t%32≠31) (hc:c.length≤1000000000000) (hn:20≤n):xZ n (t:Int) [c]=some (tWrap t c):=by
 have:=Y5 (n:=n) (t:=t) (cs:= [c]) h1 h2 (by simpa using hc) (by simp; omega) (by simp)
 rw [this]; simp
theorem P0 {n t:Nat} {c:Bs} (h1:t≤255) (h2:t%32≠31) (hc:c.length≤1000000000000) (hn:20≤n):wt n (t:Int) [c]=some (tWrap t c):=by
 have:=Q0 (n:=n) (t:=t) (cs:= [c]) h1 h2 (by simpa using hc) (by simp; omega) (by simp)
 rw [this]; simp
theorem PP {n:Nat} {b a:Bs} {e:Int} (h:b.length+a.length≤1000000000000):yI n a e ⟨b,0⟩=some ⟨b++a,e⟩:=by
 unfold yI
 rw [if_pos (by rfl),yC (by show b.length+a.length≤_; omega)]; rfl
theorem fW {n t:Nat} {b c:Bs} (h1:t≤255) (h2:t%32≠31) (hc:b.length+c.length≤100000000000) (hn:20≤n):yM n (t:Int) c ⟨b,0⟩=some ⟨b++(tWrap t c).1,(tWrap t c).2⟩:=by
 unfold yM
 have:=yX t c
 rw [V0 h1 h2 (by omega) hn,Option.bind_some,PP (by omega)]; rfl
theorem Zc (l:List (Nat×Bs)) (p:Nat×Bs):yh (p::l)=(tWrap p.1 p.2).1++yh l:=by simp [yh, -List.length_flatten]
theorem UA {m:Nat}:∀l:List (Nat×Bs),(∀p∈l,p.2.length≤m)→(yh l).length≤(m+5)*l.length
 | [],_=>by simp [yh]
 | p::l,h=>by
  have h1:=h p (by simp)
  have h2:=yX p.1 p.2
  have ih:=UA l (fun q hq=>h q (by simp [hq]))
  rw [Zc,List.length_append,List.length_cons,Nat.mul_succ]; omega
theorem eD {n:Nat} {b:Bs} {e:Int} (he:e≠0) (hb:b.length≤100000000000) (hn:20≤n):xe n ⟨b,e⟩=some ([],2,⟨b,e⟩):=by
 unfold xe
 have:=V0 (n:=n) (t:=48) (c:=b) (by omega) (by omega) (by omega) hn
 rw [show((48:Nat):Int)=48 from rfl]at this
 rw [this]
 simp only [Option.bind_some]
 rw [if_pos (by simpa using he)]; rfl
theorem DJ {n:Nat} {b:Bs} (hb:b.length≤100000000000) (hn:20≤n):xe n ⟨b,0⟩=some (if 131072<b.length then([],2,⟨b,0⟩)else((tWrap 48 b).1,0,⟨b,0⟩)):=by
 unfold xe
 have:=V0 (n:=n) (t:=48) (c:=b) (by omega) (by omega) (by omega) hn
 rw [show((48:Nat):Int)=48 from rfl]at this
 rw [this]
 simp only [Option.bind_some]
 rw [if_neg (by simp)]
 by_cases h:131072<b.length
 ·rw [if_pos h]; unfold tWrap; rw [if_neg (by omega)]; rfl
 ·rw [if_neg h,Wv (by omega)]; rfl
theorem Dk {t:Nat} {c:Bs} (h:131072<c.length):tWrap t c=([],6):=by unfold tWrap; rw [if_neg (by omega)]
theorem UH {n t:Nat} {c:Bs} (h1:t≤255) (h2:t%32≠31) (hc:c.length≤1000000000000) (hn:20≤n):zI n (t:Int) [c]=some (tWrap t c).1:=by
 unfold zI
 rw [P0 h1 h2 hc hn]; rfl
theorem mH {n:Nat} {s:Bs} (hs:s.length≤100000000) (hn:s.length+40≤n) (h:(vY s).isSome=true):wP n s=some (tWrap (W0 s).1 (W0 s).2).1:=by
 obtain⟨l,hl⟩:=Option.isSome_iff_exists.1 h
 unfold wP
 have hlen:=XE (dy hl)
 have:=UH (n:=n) (t:=6) (c:=jG l) (by omega) (by omega) (by omega) (by omega)
 rw [show((6:Nat):Int)=6 from rfl]at this
 rw [Um hs hn hl,Option.bind_some,this]
 simp [W0,hl]
theorem Uu {b:Bs} (h:(xn b).2.2=0):∃t:UInt8,(xn b).1.zG=(t.toNat:Int)∧t.toNat%32≠31:=by
 match b with
 | []=>simp [xn]at h
 | t ::r=>
  by_cases h31:t.toNat%32=31
  ·unfold xn at h; simp [h31]at h
  ·refine ⟨t, ?_,h31⟩
   unfold xn at h ⊢
   simp only [h31,if_false]at h ⊢
   match r with
   | []=>simp at h
   | c::s=>
    simp only at h ⊢
    repeat' split
    all_goals first|rfl|(rename_i hh; simp_all)
def EOk (e:zc):Prop:=e.zj.length+2≤e.wa.length∧∃t:UInt8,e.zG=(t.toNat:Int)∧t.toNat%32≠31
def du (l:List zc):Nat:=(l.map fun e=>e.wa.length).sum
theorem XD:∀(k:Nat) (b:Bs) (acc:List zc),∃M,((km k b acc).1=acc++M∨(km k b acc).1= [])∧du M≤b.length∧∀e∈M,EOk e
 |0,b,acc=>⟨[], .inl (by simp [km]),by simp [du],by simp⟩
 | k + 1,b,acc=>by
  rw [km]
  by_cases h0:b= []
  ·rw [if_pos h0]; exact⟨[], .inl (by simp),by simp [du],by simp⟩
  ·rw [if_neg h0]
   by_cases h1:(xn b).2.2≠0
   ·rw [if_pos h1]; exact⟨[], .inr rfl,by simp [du],by simp⟩
   ·rw [if_neg h1]
    have h1:(xn b).2.2=0:=by simpa using h1
    obtain⟨k1,k2,k3,_⟩:=gk h1
    obtain⟨M,e1,e2,e3⟩:=XD k (xn b).2.1 (acc ++ [(xn b).1])
    have hl:=congrArg List.length k1
    rw [List.length_append]at hl
    refine⟨(xn b).1::M, ?_, ?_, ?_⟩
    ·rcases e1 with e1|e1
     ·exact .inl (by rw [e1]; simp)
     ·exact .inr e1
    ·unfold du at e2 ⊢; rw [List.map_cons,List.sum_cons]; omega
    ·intro e he
     rcases List.mem_cons.1 he with rfl|he
     ·exact⟨k3,Uu h1⟩
     ·exact e3 e he
theorem XF {l:List zc}:∀e∈l,e.wa.length≤du l:=by
 intro e he
 induction l with
 |nil=>simp at he
 | cons a r ih=>
  unfold du at ih ⊢; rw [List.map_cons,List.sum_cons]
  rcases List.mem_cons.1 he with rfl|he
  ·omega
  ·have:=ih he; omega
theorem Qf {l:List zc} (h:∀e∈l,EOk e):2*l.length≤du l:=by
 induction l with
 |nil=>simp [du]
 | cons a r ih=>
  have:=ih (fun e he=>h e (by simp [he]))
  have h1:=(h a (by simp)).1
  unfold du at this ⊢; rw [List.map_cons,List.sum_cons,List.length_cons]; omega
theorem pb (b:Bs):du (tList b).1≤b.length∧∀e∈(tList b).1,EOk e:=by
 unfold tList
 obtain⟨M,e1,e2,e3⟩:=XD (b.length+1) b []
 rcases e1 with e1|e1
 ·rw [e1,List.nil_append]; exact⟨e2,e3⟩
 ·rw [e1]; exact⟨by simp [du],by simp⟩
def Bd (M:Nat) (l:List zc):Prop:=l.length≤M∧∀e∈l,e.zj.length≤M
theorem u6 (b:Bs) {M:Nat} (h:b.length≤M):Bd M (tList b).1:=by
 obtain⟨h1,h2⟩:=pb b
 have:=Qf h2
 exact⟨by omega,fun e he=>by have:=XF e he; have:=(h2 e he).1; omega⟩
theorem ifb (a b:Bool):(if a=true then some true else some b)=some (a||b):=by cases a<;>rfl
theorem Gg {n:Nat} {f:Bool}:ya n ⟨[],f⟩=some (⟨0,[],[]⟩,⟨[],true⟩):=rfl
theorem JY {n:Nat} {f:Bool} {e:zc} {l:List zc}:ya n ⟨e::l,f⟩=some (e,⟨l,f⟩):=by
 unfold ya
 rw [if_neg (by rw [beq_iff_eq]; simp only [List.length_cons]; omega)]
 have k0:zX (e::l) 0=some e:=by simp [zX]
 simp only []
 rw [k0,Option.bind_some,Z5]; rfl
theorem cX {n:Nat} {e:zc} (hn:e.zj.length+5≤n) (hl:e.zj.length≤1000000000000):wU n e=some ⟨(tList e.zj).1,((tList e.zj).2 !=0)||(e.zG !=48)⟩:=by
 unfold wU uw
 rw [bC hl hn]
 simp only [Option.bind_some]
 cases(tList e.zj).2 !=0<;>rfl
theorem QP {l:List Nat} (h:l.length≤12) (hl:∀x∈l,x≤4294967294):(Ki l).length≤252:=by
 unfold Ki
 have:=Qn (sep:= [46]) (b:=20) (l:=l.map fun a=>Lib.decDigits a) (by
  intro x hx; obtain⟨a,ha,rfl⟩:=List.mem_map.1 hx
  have:=hl a ha; exact kM (by omega))
 rw [List.length_map,List.length_singleton]at this; omega
theorem J7 {n:Nat} {b:Bs} (hb:b.length≤500000000) (hn:b.length+40≤n):∃s e,yo n b=some (s,e)∧s.length≤252:=by
 obtain⟨q,h,h1,h2⟩:=Q1 (n:=n) b hb (by omega)
 rw [Yu (by omega) h h1 (by omega)]
 by_cases hq:YP q=true
 ·rw [if_pos hq]
  refine⟨_,_,rfl, ?_⟩
  simp only [YP,Bool.and_eq_true,decide_eq_true_eq,List.all_eq_true]at hq
  refine QP ?_ (fun x hx=>by have:=hq.2 x hx; omega)
  match q,hq.1 with
  |v::r,hq=>have:=hq.2; simp only [qj,List.length_cons]at this ⊢; omega
 ·rw [if_neg hq]; exact⟨_,_,rfl,by simp⟩
theorem Wr {s:Bs} (h:(vY s).isSome=true):s.length≤252:=by
 obtain⟨l,hl⟩:=Option.isSome_iff_exists.1 h
 have h2:=dy hl
 rw [←Y2 hl]
 exact QP h2.2.1 (fun x hx=>by have:=h2.2.2.2 x hx; omega)
theorem Z9 (b:Bs):(vG b).1.zj.length≤b.length:=by
 unfold vG
 split
 ·simp
 ·rename_i h
  split
  ·simp
  ·have h:(xn b).2.2=0:=by simpa using h
   obtain⟨k1,k2,k3,_⟩:=gk h
   have hl:=congrArg List.length k1
   rw [List.length_append]at hl
   show(xn b).1.zj.length≤b.length
   omega
theorem PO {n:Nat} {t:Int} {l:List zc} {i:Nat} {bad:Bool} (h:bad=true∨l.length≤i∨∃e,l[i]? =some e∧e.zG≠t):xb n t ⟨l,i,bad⟩=some (⟨0,[],[]⟩,false,⟨l,i,bad⟩):=by
 unfold xb
 have e:(if bad=true then some true else if decide ((i:Int)≥(l.length:Int))=true then some true else(zX l (i:Int)).bind fun x1=>some (x1.zG !=t))=some true:=by
  cases bad with
  |true=>rfl
  | false=>
   rw [if_neg (by simp)]
   by_cases hc:l.length≤i
   ·rw [if_pos (by rw [decide_eq_true_eq]; omega)]
   ·rw [if_neg (by rw [decide_eq_true_eq]; omega),ye (by omega),Option.bind_some]
    rcases h with h|h|⟨e,h1,h2⟩
    ·cases h
    ·omega
    ·rw [List.getElem?_eq_getElem (by omega)]at h1; injection h1 with h1; rw [h1]; simpa using h2
 simp only []
 rw [e,Option.bind_some,if_pos rfl]
theorem eK {n:Nat} {t:Int} {l:List zc} {i:Nat} {e:zc} (hl:l.length≤1000000000) (h:l[i]? =some e) (ht:e.zG=t):xb n t ⟨l,i,false⟩=some (e,true,⟨l,((i+1:Nat):Int),false⟩):=by
 unfold xb
 obtain⟨hi,h⟩:=List.getElem?_eq_some_iff.1 h
 have hx:zX l (i:Int)=some e:=by rw [ye hi,h]
 have hq:(if false=true then some true else if decide ((i:Int)≥(l.length:Int))=true then some true else(zX l (i:Int)).bind fun x1=>some (x1.zG !=t))=some false:=by
  rw [if_neg (by simp),if_neg (by rw [decide_eq_true_eq]; omega),hx,Option.bind_some,ht]; simp
 simp only []
 rw [hq,Option.bind_some,if_neg (by simp),w1 (by omega),xT (by omega),show((i+1:Nat):Int)-1=(i:Int)by omega,hx]; rfl
theorem P1 {n:Nat} {t:Int} {l:List zc} {i:Nat} {e:zc} (hl:l.length≤1000000000) (h:l[i]? =some e) (ht:e.zG=t):yx n t ⟨l,(i:Int),false⟩=some (e,⟨l,((i+1:Nat):Int),false⟩):=by
 unfold yx
 rw [eK hl h ht]; rfl
theorem DH {n:Nat} {e:zc} {t:Int} (hn:e.zj.length+5≤n) (hl:e.zj.length≤1000000000000):va n e t=some ⟨(tList e.zj).1,0,(e.zG !=t)||((tList e.zj).2 !=0)⟩:=by
 unfold va
 rw [VJ hl hn,Option.bind_some]
 simp only [ifb,Option.bind_some]
theorem W5 {n:Nat} (hn:20≤n) (b:Bs) (hb:b.length≤100000000):∀(k i v cnt:Nat) (out:Bs) (more:Bool),i≤b.length→b.length-i<k→v≤2147483727→cnt≤12→out.length≤42*i →
  ∃c,zA n b k out (v:Int) more (cnt:Int) (i:Int)=some c∧(∀o m,c= .nxt (o,m)→o.length≤42*b.length)∧∀r,c= .ret r→r.1= []
 |0,_,_,_,_,_,_,h,_,_,_=>by omega
 | k + 1,i,v,cnt,out,more,hi,hk,hv,hc,ho=>by
  by_cases hlt:i<b.length
  ·have hb8:=ZF b[i]
   rw [Jo hn b hb k out v more cnt i hlt hv (by omega) hc]
   by_cases h1:more=false∧b[i].toNat=128
   ·rw [if_pos h1]; exact⟨_,rfl,(fun o m h=>by cases h),fun r h=>by cases h; rfl⟩
   ·rw [if_neg h1]
    generalize 128*v+b[i].toNat%128=V
    by_cases h2:2147483727<V
    ·rw [if_pos h2]; exact⟨_,rfl,(fun o m h=>by cases h),fun r h=>by cases h; rfl⟩
    ·rw [if_neg h2]
     by_cases h3:128≤b[i].toNat
     ·rw [if_pos h3]; exact W5 hn b hb k (i+1) V cnt out true (by omega) (by omega) (by omega) hc (by omega)
     ·rw [if_neg h3]
      have:=fS V
      have l1:=kM (u:=rz V) (by omega)
      have l2:=kM (u:=V-40*rz V) (by omega)
      have l3:=kM (u:=V) (by omega)
      by_cases h4:cnt=0
      ·rw [if_pos h4]
       exact W5 hn b hb k (i+1) 0 2 _ false (by omega) (by omega) (by omega) (by omega) (by rw [List.length_append,List.length_append,List.length_singleton]; omega)
      ·rw [if_neg h4]
       by_cases h5:12<cnt+1
       ·rw [if_pos h5]; exact⟨_,rfl,(fun o m h=>by cases h),fun r h=>by cases h; rfl⟩
       ·rw [if_neg h5]
        exact W5 hn b hb k (i+1) 0 (cnt+1) _ false (by omega) (by omega) (by omega) (by omega) (by rw [List.length_append,List.length_append,List.length_singleton]; omega)
  ·rw [zA,if_neg (by rw [decide_eq_true_eq]; omega)]
   exact⟨_,rfl,(fun o m h=>by cases h; omega),fun r h=>by cases h⟩
def vq (d:zi):Prop:=0≤d.yN∧d.yN≤(d.f_L.length:Int)∧d.f_L.length≤9223372036854775807
theorem Gk {α:Type} {l:List α} {i:Int} (h0:0≤i) (h1:i<(l.length:Int)):∃x,zX l i=some x∧x∈l:=by
 have h:i.toNat<l.length:=by omega
 exact⟨l[i.toNat],by simp [zX,h0,h],by simp⟩
theorem Dt {n:Nat} {k:Int} {d:zi} (hk:0<k) (hk2:k≤4611686018427387904) (hd:vq d):
  ∃r d',zr n k d=some (r,d')∧0≤r∧r<k∧vq d':=by
 obtain⟨h0,h1,h2⟩:=hd
 unfold zr
 by_cases hc:d.yN≥(d.f_L.length:Int)
 ·exact⟨0,d,by simp [hc],by omega,by omega,h0,h1,h2⟩
 ·have ha:IntKind.wrap .i64 (d.yN+1)=d.yN+1:=xT (by omega)
  have hb:IntKind.wrap .i64 (IntKind.wrap .i64 (d.yN+1)-1)=d.yN:=by rw [ha,xT (by omega)]; omega
  obtain⟨x,hx,_⟩:=Gk h0 (Int.not_le.1 hc)
  have hm1: -k<x.tmod k:=by
   have:=Int.lt_tmod_of_pos x hk; omega
  have hm2:x.tmod k<k:=Int.tmod_lt_of_pos x hk
  have hw:IntKind.wrap .i64 (x.tmod k+k)=x.tmod k+k:=xT (by omega)
  refine⟨(x.tmod k+k).tmod k,⟨d.f_L,d.yN+1⟩, ?_, ?_, ?_, ?_⟩
  ·rw [hb,hx,ha]
   have hk':k≠0:=by omega
   simp [hc,JR,hk',hw]
  ·exact Int.tmod_nonneg k (by omega)
  ·exact Int.tmod_lt_of_pos _ hk
  ·exact⟨by simp; omega,by simp; omega,h2⟩
theorem jx {n:Nat} {k:Int} {d:zi} (hk:0<k) (hk2:k≤4611686018427387904) (hd:vq d):∃r d',zr n k d=some (r,d')∧0≤r∧r<k∧vq d':=Dt hk hk2 hd
theorem W8 {s:Bs} {i j:Int} (h0:0≤i) (h1:i≤j) (h2:j≤s.length):∃x,ssl s i j=some x∧(x.length:Int)=j-i:=by
 have:=jc (s:=s) (i:=i.toNat) (j:=j.toNat) (by omega) (by omega)
 rw [show((i.toNat:Nat):Int)=i by omega,show((j.toNat:Nat):Int)=j by omega]at this
 refine⟨_,this, ?_⟩
 rw [List.length_drop,List.length_take]; omega
theorem US {n:Nat} {a:Bs} {d:zi} (ha:a.length≤1000000000) (hd:vq d):∃s d',wS n a d=some (s,d')∧s.length≤a.length+1∧vq d':=by
 unfold wS
 by_cases h0:(a==([]:Bs))=true
 ·rw [if_pos h0]; exact⟨a,d,rfl,by omega,hd⟩
 ·rw [if_neg h0]
  have hne:0<a.length:=List.length_pos_iff.2 (by simpa using h0)
  obtain⟨r1,d1,h1,a1,b1,k1⟩:=jx (n:=n) (k:=(a.length:Int)) (by omega) (by omega) hd
  obtain⟨r2,d2,h2,a2,b2,k2⟩:=jx (n:=n) (k:=256) (by decide) (by decide) k1
  obtain⟨r3,d3,h3,a3,b3,k3⟩:=jx (n:=n) (k:=5) (by decide) (by decide) k2
  obtain⟨p,hp,pl⟩:=W8 (s:=a) (i:=0) (j:=r1) (by omega) a1 (by omega)
  obtain⟨q,hq,ql⟩:=W8 (s:=a) (i:=r1+1) (j:=a.length) (by omega) (by omega) (by omega)
  obtain⟨u,hu,ul⟩:=W8 (s:=a) (i:=r1) (j:=a.length) (by omega) (by omega) (by omega)
  have hw:IntKind.wrap .i64 (r1+1)=r1+1:=xT (by omega)
  have hb:(b2s ([IntKind.wrap .u8 r2]:List Int)).length=1:=rfl
  rw [h1,Option.bind_some]; simp only []; rw [h2,Option.bind_some]; simp only []; rw [h3,Option.bind_some]; simp only []
  rw [hw,hp,hq,hu]
  by_cases c0:(r3==0)=true
  ·rw [if_pos c0,Option.bind_some,yC (by omega),Option.bind_some,Option.bind_some,yC (by rw [List.length_append]; omega)]
   exact⟨_,_,rfl,by rw [List.length_append,List.length_append]; omega,k3⟩
  ·rw [if_neg c0]
   by_cases c1:(r3==1)=true
   ·rw [if_pos c1,Option.bind_some,yC (by omega),Option.bind_some,Option.bind_some,yC (by rw [List.length_append]; omega)]
    exact⟨_,_,rfl,by rw [List.length_append,List.length_append]; omega,k3⟩
   ·rw [if_neg c1]
    by_cases c2:(r3==2)=true
    ·rw [if_pos c2,Option.bind_some,Option.bind_some,yC (by omega)]
     exact⟨_,_,rfl,by rw [List.length_append]; omega,k3⟩
    ·rw [if_neg c2]
     by_cases c3:(r3==3)=true
     ·rw [if_pos c3]; exact⟨_,_,rfl,by omega,k3⟩
     ·rw [if_neg c3]; exact⟨_,_,rfl,by omega,k3⟩
theorem W9 {n:Nat} {t:Int} {c:Bs} (h:∃v:Nat,t=(v:Int)∧v≤255∧v%32≠31) (hc:c.length≤1000000000000) (hn:20≤n):∃s,zI n t [c]=some s∧s.length≤c.length+5:=by
 obtain⟨v,rfl,h1,h2⟩:=h
 exact⟨_,UH h1 h2 hc hn,yX v c⟩
theorem cJ:∀t:Fin 256,∃v:Nat,xJ .i64 (t.val:Int) 224=(v:Int)∧v≤255∧v%32≠31:=by
 intro t
 have h:(List.range 256).all (fun t=>decide (0≤xJ .i64 (t:Int) 224)&&decide (xJ .i64 (t:Int) 224≤255)&&decide ((xJ .i64 (t:Int) 224).toNat%32≠31))=true:=by decide +kernel
 have:=List.all_eq_true.1 h t.val (by simp)
 simp only [Bool.and_eq_true,decide_eq_true_eq]at this
 exact⟨(xJ .i64 (t.val:Int) 224).toNat,by omega,by omega,this.2⟩
theorem eg:∀t:Fin 256,∃v:Nat,Vu .i64 (t.val:Int) 31=(v:Int)∧v≤255∧v%32≠31:=by
 intro t
 have h:(List.range 256).all (fun t=>decide (0≤Vu .i64 (t:Int) 31)&&decide (Vu .i64 (t:Int) 31≤255)&&decide ((Vu .i64 (t:Int) 31).toNat%32≠31))=true:=by decide +kernel
 have:=List.all_eq_true.1 h t.val (by simp)
 simp only [Bool.and_eq_true,decide_eq_true_eq]at this
 exact⟨(Vu .i64 (t.val:Int) 31).toNat,by omega,by omega,this.2⟩
theorem Wy {n:Nat} {a:Bs} {d:zi} (ha:a.length≤1000000000) (hn:20≤n) (hd:vq d):∃s d',yL n a d=some (s,d')∧s.length≤a.length+5∧vq d':=by
 unfold yL
 by_cases h2:a.length<2
 ·rw [if_pos (by rw [decide_eq_true_eq]; omega)]; exact⟨a,d,rfl,by omega,hd⟩
 ·rw [if_neg (by rw [decide_eq_true_eq]; omega)]
  obtain⟨q,hq,ql⟩:=W8 (s:=a) (i:=2) (j:=a.length) (by omega) (by omega) (by omega)
  obtain⟨r2,d2,h2',a2,b2,k2⟩:=jx (n:=n) (k:=6) (by decide) (by decide) hd
  have hb0:xD a 0=some ((a[0]'(by omega)).toNat:Int):=jj (i:=0) (by omega)
  have hlt:=ZF (a[0]'(by omega))
  have hw:IntKind.wrap .i64 ((a[0]'(by omega)).toNat:Int)=((a[0]'(by omega)).toNat:Int):=xT (by omega)
  rw [hq,Option.bind_some,h2',Option.bind_some]; simp only []
  by_cases c0:(r2==0)=true
  ·obtain⟨r3,d3,h3,a3,b3,k3⟩:=jx (n:=n) (k:=31) (by decide) (by decide) k2
   obtain⟨s,hs,sl⟩:=W9 (n:=n) (t:=r3) (c:=q) ⟨r3.toNat,by omega,by omega,by omega⟩ (by omega) hn
   rw [if_pos c0,h3,Option.bind_some]; simp only []; rw [hs]
   exact⟨_,_,rfl,by omega,k3⟩
  ·rw [if_neg c0]
   by_cases c1:(r2==1)=true
   ·obtain⟨s,hs,sl⟩:=W9 (n:=n) (t:=Vu .i64 ((a[0]'(by omega)).toNat:Int) 31) (c:=q) (eg ⟨_,hlt⟩) (by omega) hn
    rw [if_pos c1,hb0,Option.bind_some,hw,hs]
    exact⟨_,_,rfl,by omega,k2⟩
   ·rw [if_neg c1]
    by_cases c2:(r2==2)=true
    ·obtain⟨s,hs,sl⟩:=W9 (n:=n) (t:=xJ .i64 ((a[0]'(by omega)).toNat:Int) 224) (c:= []) (cJ ⟨_,hlt⟩) (by simp) hn
     rw [if_pos c2,hb0,Option.bind_some,hw,hs]
     exact⟨_,_,rfl,by simp at sl; omega,k2⟩
    ·rw [if_neg c2]
     by_cases c3:(r2==3)=true
     ·obtain⟨r3,d3,h3,a3,b3,k3⟩:=jx (n:=n) (k:=256) (by decide) (by decide) k2
      rw [if_pos c3,h3,Option.bind_some]; simp only []; rw [yC (by simp [b2s])]
      exact⟨_,_,rfl,by show 3≤a.length+5; omega,k3⟩
     ·rw [if_neg c3]
      by_cases c4:(r2==4)=true
      ·rw [if_pos c4]; exact⟨_,_,rfl,by simp,k2⟩
      ·rw [if_neg c4]
       obtain⟨s,d',hs,sl,k⟩:=US (n:=n) (a:=a) ha k2
       rw [hs]; exact⟨_,_,rfl,by show s.length≤_; omega,k⟩
theorem UJ {l:List zc} {i:Nat} (hi:i<l.length):du (l.drop i)=l[i].wa.length+du (l.drop (i+1)):=by
 rw [List.drop_eq_getElem_cons hi]; unfold du; rw [List.map_cons,List.sum_cons]
theorem K0 {n:Nat} (hn:1000000≤n) {rc:Bs→zi→Option (Bs×zi)} {S:Nat} (el:List zc×Int) (r9 r10:Int×zi) (hS:S≤300000000) (he:du el.1≤S)
  (hrc:∀(i:Nat) (h:i<el.1.length) d,vq d→∃s d',rc el.1[i].wa d=some (s,d')∧s.length≤3*el.1[i].wa.length+8∧vq d') (hl:el.1.length≤100000000):
  ∀(k i:Nat) (b:Bs) (L:List Int) (At:Int),i≤el.1.length→el.1.length-i<k→b.length+3*du (el.1.drop i)+8*(el.1.length-i)≤2000000000→vq ⟨L,At⟩ →
  ∃s L' At',xE n rc el r9 r10 k b (i:Int) L At=some (s,L',At')∧s.length≤b.length+du (el.1.drop i)+(if(i:Int)≤r9.1 then 2*S+8 else 0)∧vq ⟨L',At'⟩
 |0,_,_,_,_,_,h,_,_=>by omega
 | k + 1,i,b,L,At,hi,hk,hb,hd=>by
  rw [xE]
  by_cases hc:i<el.1.length
  ·have hr:=UJ hc
   have hmem:=XF el.1[i] (List.getElem_mem hc)
   rw [if_pos (by rw [decide_eq_true_eq]; omega),ye hc,Option.bind_some]
   by_cases c0:((i:Int) !=r9.1)=true
   ·rw [if_pos c0,yC (by omega),Option.bind_some,Option.bind_some,w1 (by omega)]
    obtain⟨s,L',At',h1,h2,h3⟩:=K0 hn el r9 r10 hS he hrc hl k (i+1) (b++el.1[i].wa) L At (by omega) (by omega) (by rw [List.length_append]; omega) hd
    refine⟨s,L',At',h1, ?_,h3⟩
    rw [List.length_append]at h2
    have hne:(i:Int)≠r9.1:=by simpa using c0
    by_cases c:(i:Int)≤r9.1
    ·rw [if_pos c]; rw [if_pos (by omega)]at h2; omega
    ·rw [if_neg c]; rw [if_neg (by omega)]at h2; omega
   ·have hie:(i:Int)=r9.1:=by simpa using c0
    rw [if_neg c0]
    have key:∃s L' At',(if(r10.1==0)=true then((jt el.1[i].wa el.1[i].wa).bind fun x342=>
      (jt b x342).bind fun x343=>some (x343,L,At))else(if(r10.1==1)=true then(some (b,L,At))else(if(r10.1==2)=true then((yL n el.1[i].wa (zi.mk L At)).bind fun r344=>
      (jt b r344.1).bind fun x345=>some (x345,r344.2.f_L,r344.2.yN))else((rc el.1[i].wa (zi.mk L At)).bind fun r346=>
      (jt b r346.1).bind fun x347=>some (x347,r346.2.f_L,r346.2.yN)))))=some (s,L',At')∧s.length≤b.length+3*el.1[i].wa.length+8∧vq ⟨L',At'⟩:=by
     by_cases c1:(r10.1==0)=true
     ·rw [if_pos c1,yC (by omega),Option.bind_some,yC (by rw [List.length_append]; omega)]
      exact⟨_,_,_,rfl,by rw [List.length_append,List.length_append]; omega,hd⟩
     ·rw [if_neg c1]
      by_cases c2:(r10.1==1)=true
      ·rw [if_pos c2]; exact⟨_,_,_,rfl,by omega,hd⟩
      ·rw [if_neg c2]
       by_cases c3:(r10.1==2)=true
       ·obtain⟨s,d',h1,h2,h3⟩:=Wy (n:=n) (a:=el.1[i].wa) (by omega) (by omega) hd
        rw [if_pos c3,h1,Option.bind_some,yC (by show b.length+s.length≤_; omega)]
        exact⟨_,_,_,rfl,by show(b++s).length≤_; rw [List.length_append]; omega,h3⟩
       ·obtain⟨s,d',h1,h2,h3⟩:=hrc i hc _ hd
        rw [if_neg c3,h1,Option.bind_some,yC (by show b.length+s.length≤_; omega)]
        exact⟨_,_,_,rfl,by show(b++s).length≤_; rw [List.length_append]; omega,h3⟩
    obtain⟨s,L',At',e1,e2,e3⟩:=key
    rw [e1,Option.bind_some,w1 (by omega)]
    simp only []
    obtain⟨s2,L2,At2,h1,h2,h3⟩:=K0 hn el r9 r10 hS he hrc hl k (i+1) s L' At' (by omega) (by omega) (by omega) e3
    refine⟨s2,L2,At2,h1, ?_,h3⟩
    rw [if_neg (by omega)]at h2
    rw [if_pos (by omega)]; omega
  ·rw [if_neg (by rw [decide_eq_true_eq]; omega)]
   exact⟨_,_,_,rfl,by omega,hd⟩
theorem Up {n:Nat} (hn:200000000≤n):∀(kk:Nat) (a:Bs) (d:zi),a.length<kk→a.length≤100000000→vq d→∃s d',yY n kk a d=some (s,d')∧s.length≤3*a.length+8∧vq d'
 |0,_,_,h,_,_=>by omega
 | kk + 1,a,d,hk,ha,hd=>by
  have hrep:∀d,vq d→∃s d',(yL n a d).bind (fun r4=>some (r4.1,r4.2))=some (s,d')∧s.length≤3*a.length+8∧vq d':=by
   intro d hd
   obtain⟨s,d',h1,h2,h3⟩:=Wy (n:=n) (a:=a) (by omega) (by omega) hd
   rw [h1]; exact⟨s,d',rfl,by omega,h3⟩
  rw [yY,Yb (by omega) (by omega),Option.bind_some,ifb,Option.bind_some]
  by_cases c0:(((vG a).2 !=0)||((Int.tmod (IntKind.wrap .i64 (Int.tdiv (vG a).1.zG 32)) 2)==0))=true
  ·rw [if_pos c0]; exact hrep d hd
  ·rw [if_neg c0]
   have h0:(vG a).2=0:=by
    rw [Bool.not_eq_true,Bool.or_eq_false_iff]at c0; simpa using c0.1
   have hr:(xn a).2.2=0:=by
    unfold vG at h0
    by_cases h':(xn a).2.2=0
    ·exact h'
    ·rw [if_pos h']at h0; exact absurd h0 h'
   have h1:(vG a).1=(xn a).1:=by
    unfold vG at h0 ⊢
    rw [if_neg (by simp [hr])]at h0 ⊢
    by_cases h':(xn a).2.1= []
    ·rw [if_neg (by simp [h'])]
    ·rw [if_pos h']at h0; cases h0
   obtain⟨k1,k2,k3,_⟩:=gk hr
   obtain⟨t,ht1,ht2⟩:=Uu hr
   have hlen:=congrArg List.length k1
   rw [List.length_append]at hlen
   rw [←h1]at k2 k3 ht1 hlen
   have hS:(vG a).1.zj.length+2≤a.length:=by omega
   rw [VJ (by omega) (by omega),Option.bind_some,ifb,Option.bind_some]
   by_cases c1:(((tList (vG a).1.zj).2 !=0)||(((tList (vG a).1.zj).1.length:Int)==0))=true
   ·rw [if_pos c1]; exact hrep d hd
   ·rw [if_neg c1]
    have hne:0<(tList (vG a).1.zj).1.length:=by
     rw [Bool.not_eq_true,Bool.or_eq_false_iff]at c1
     have:=c1.2
     rw [beq_eq_false_iff_ne]at this; omega
    obtain⟨f1,f2⟩:=pb (vG a).1.zj
    have f3:=Qf f2
    obtain⟨r9,d9,h9,a9,b9,k9⟩:=jx (n:=n) (k:=((tList (vG a).1.zj).1.length:Int)) (by omega) (by omega) hd
    obtain⟨r10,d10,h10,a10,b10,k10⟩:=jx (n:=n) (k:=8) (by decide) (by decide) k9
    rw [h9,Option.bind_some]; simp only []
    rw [h10,Option.bind_some]; simp only []
    obtain ⟨s,L',At',e1,e2,e3⟩:=K0 (n:=n) (by omega) (rc:=yY n kk) (S:=(vG a).1.zj.length) (tList (vG a).1.zj) (r9,d9) (r10,d10) (by omega) f1
     (fun i hi d hd=>by
      have:=XF _ (List.getElem_mem hi)
      exact Up hn kk _ d (by omega) (by omega) hd) (by omega) n 0 [] d10.f_L d10.yN (by omega) (by omega) (by simp only [List.length_nil,List.drop_zero]; omega) k10
    rw [show((0:Nat):Int)=0 from rfl]at e1
    rw [e1,Option.bind_some]
    simp only []
    rw [List.drop_zero,List.length_nil,if_pos (by show((0:Nat):Int)≤r9; omega)]at e2
    obtain⟨w,hw,wl⟩:=W9 (n:=n) (t:=(vG a).1.zG) (c:=s) ⟨t.toNat,ht1,by have:=ZF t; omega,ht2⟩ (by omega) (by omega)
    rw [hw]
    exact⟨_,_,rfl,by omega,e3⟩
abbrev Att:=zb
def YX (pre:List Att) (a:Att):Int:=
 if(vY a.yA).isSome=false then 11 else if a.xo= []∨dw a.vT a.xo=false then 13 else if 64<a.xo.length then 2 else if(pre.any fun b=>b.yA==a.yA)=true then 10 else 0
def q6:List Att→List Att→Int
 |_,[]=>0
 |pre,a::r=>if YX pre a≠0 then YX pre a else q6 (pre ++ [a]) r
def Zp (r:List Att):Int:=if r= []then 14 else if 4<r.length then 2 else q6 [] r
def bo:List (List Att)→Int
 | []=>0
 |r::l=>if Zp r≠0 then Zp r else bo l
def uj (l:List (List Att)):Int:=if 8<l.length then 2 else bo l
def BdA (B:Nat) (a:Att):Prop:=a.yA.length≤B∧a.xo.length≤B
def BdR (B:Nat) (r:List Att):Prop:=r.length≤B∧∀a∈r,BdA B a
def BdN (B:Nat) (l:List (List Att)):Prop:=l.length≤B∧∀r∈l,BdR B r
theorem UU {α:Type} {l:List α} {i:Nat} (h:i<l.length):l.take (i+1)=l.take i ++ [l[i]]:=by
 rw [List.take_add_one,List.getElem?_eq_getElem h]; rfl
theorem Gc {n:Nat} (p:List Att) (a:Att) (hp:p.length≤1000000):∀(k j:Nat),j≤p.length→p.length-j<k→xF n p a k (j:Int)=some (if((p.drop j).any fun b=>b.yA==a.yA)=true then .ret 10 else .nxt ())
 |0,j,_,h=>by omega
 | k + 1,j,hj,hk=>by
  rw [xF]
  by_cases hc:j<p.length
  ·rw [if_pos (by rw [decide_eq_true_eq]; omega),ye hc,List.drop_eq_getElem_cons hc,List.any_cons]
   simp only [Option.bind_some]
   by_cases he:(p[j].yA==a.yA)=true
   ·rw [if_pos he,he]; rfl
   ·rw [if_neg he,w1 (by omega),Gc p a hp k (j+1) (by omega) (by omega)]
    rw [Bool.not_eq_true]at he
    rw [he,Bool.false_or]
  ·rw [if_neg (by rw [decide_eq_true_eq]; omega)]
   have:j=p.length:=by omega
   subst this
   simp
theorem BP {n B:Nat} (r:List Att) (hb:BdR B r) (hB:B≤1000000) (hn:B+100≤n):∀(k i:Nat),i≤r.length→r.length-i<k→ym (yV n r k (i:Int)) (fun x=>some x) (fun _=>some 0)=some (q6 (r.take i) (r.drop i))
 |0,i,_,h=>by omega
 | k+1,i,hi,hk=>by
  have hl:=hb.1
  rw [yV]
  by_cases hc:i<r.length
  ·have ha:=hb.2 r[i] (by simp)
   rw [if_pos (by rw [decide_eq_true_eq]; omega),ye hc,List.drop_eq_getElem_cons hc,q6]
   simp only [Option.bind_some]
   rw [GH (by have:=ha.1; omega) (by have:=ha.1; omega),Bc (by have:=ha.2; omega) (by have:=ha.2; omega)]
   simp only [Option.bind_some]
   unfold YX
   by_cases h1:(vY (r[i]).yA).isSome=false
   ·rw [if_pos h1,if_pos (by rw [h1]; rfl)]; rfl
   rw [if_neg h1,if_neg (by simpa using h1)]
   rw [ifb]
   simp only [Option.bind_some]
   by_cases h2:(r[i]).xo= []∨dw (r[i]).vT (r[i]).xo=false
   ·rw [if_pos h2,if_pos (by simpa using h2)]; rfl
   rw [if_neg h2,if_neg (by simpa using h2)]
   by_cases h3:64<(r[i]).xo.length
   ·rw [if_pos h3,if_pos (by rw [decide_eq_true_eq]; omega)]; rfl
   rw [if_neg h3,if_neg (by rw [decide_eq_true_eq]; omega)]
   have hs:lsl r 0 (i:Int)=some (r.take i):=by unfold lsl; rw [if_pos ⟨by omega,by omega,by omega⟩]; simp
   rw [hs]
   simp only [Option.bind_some]
   have h4:=Gc (n:=n) (r.take i) r[i] (by rw [List.length_take]; omega) n 0 (by omega) (by rw [List.length_take]; omega)
   rw [show((0:Nat):Int)=0 from rfl,List.drop_zero]at h4
   rw [h4]
   by_cases h5:((r.take i).any fun b=>b.yA==(r[i]).yA)=true
   ·rw [if_pos h5,if_pos h5]; rfl
   rw [if_neg h5,if_neg h5]
   rw [if_neg (show ¬((0:Int)≠0)by simp)]
   show ym (yV n r k (IntKind.wrap .i64 ((i:Int)+1))) (fun x=>some x) (fun _=>some 0)=_
   rw [w1 (by omega),BP r hb hB hn k (i+1) (by omega) (by omega),UU hc]
  ·rw [if_neg (by rw [decide_eq_true_eq]; omega)]
   have:i=r.length:=by omega
   subst this
   simp [ym,q6]
theorem mO {n B:Nat} {r:List Att} (hb:BdR B r) (hB:B≤1000000) (hn:B+100≤n):vW n r=some (Zp r):=by
 unfold vW Zp
 have hl:=hb.1
 by_cases h1:r= []
 ·subst h1; rfl
 rw [if_neg (by simpa using h1),if_neg h1]
 by_cases h2:4<r.length
 ·rw [if_pos (by rw [decide_eq_true_eq]; omega),if_pos h2]
 rw [if_neg (by rw [decide_eq_true_eq]; omega),if_neg h2]
 have:=BP (n:=n) r hb hB hn n 0 (by omega) (by omega)
 rw [show((0:Nat):Int)=0 from rfl,List.drop_zero,List.take_zero]at this
 exact this
theorem JP {n B:Nat} (l:List (List Att)) (hb:BdN B l) (hB:B≤1000000) (hn:B+100≤n):∀(k i:Nat),i≤l.length→l.length-i<k→ym (vU n ⟨l⟩ k (i:Int)) (fun x=>some x) (fun _=>some 0)=some (bo (l.drop i))
 |0,i,_,h=>by omega
 | k + 1,i,hi,hk=>by
  have hl:=hb.1
  rw [vU]
  by_cases hc:i<l.length
  ·rw [if_pos (by rw [decide_eq_true_eq]; show(i:Int)<(l.length:Int); omega)]
   simp only [ye hc,Option.bind_some]
   rw [List.drop_eq_getElem_cons hc,bo,mO (hb.2 l[i] (by simp)) hB hn]
   simp only [Option.bind_some]
   by_cases h1:Zp l[i]≠0
   ·rw [if_pos h1,if_pos (by simpa using h1)]; rfl
   ·rw [if_neg h1,if_neg (by simpa using h1),w1 (by omega)]
    exact JP l hb hB hn k (i+1) (by omega) (by omega)
  ·rw [if_neg (by rw [decide_eq_true_eq]; show ¬(i:Int)<(l.length:Int); omega)]
   have:i=l.length:=by omega
   subst this
   simp [ym,bo]
theorem Db {n B:Nat} {l:List (List Att)} (hb:BdN B l) (hB:B≤1000000) (hn:B+100≤n):uD n ⟨l⟩=some (uj l):=by
 unfold uD uj
 have hl:=hb.1
 by_cases h2:8<l.length
 ·rw [if_pos (by rw [decide_eq_true_eq]; show((l.length:Int)>8); omega),if_pos h2]
 rw [if_neg (by rw [decide_eq_true_eq]; show ¬((l.length:Int)>8); omega),if_neg h2]
 have:=JP (n:=n) l hb hB hn n 0 (by omega) (by omega)
 rw [show((0:Nat):Int)=0 from rfl,List.drop_zero]at this
 exact this
theorem B0 {n:Nat} (r:List Att) (a:Att) (hr:r.length≤1000000) (i:Nat) (hi:i≤r.length):∀(k j:Nat),j≤i→i-j<k→yg n (i:Int) r a k (j:Int)=some (if(((r.take i).drop j).any fun b=>b.yA==a.yA)=true then .ret 10 else .nxt ())
 |0,j,_,h=>by omega
 | k + 1,j,hj,hk=>by
  rw [yg]
  by_cases hc:j<i
  ·have hc':j<(r.take i).length:=by rw [List.length_take]; omega
   have hg:(r.take i)[j]=r[j]:=by simp
   rw [if_pos (by rw [decide_eq_true_eq]; omega),ye (by omega),List.drop_eq_getElem_cons hc',List.any_cons,hg]
   simp only [Option.bind_some]
   by_cases he:(r[j].yA==a.yA)=true
   ·rw [if_pos he,he]; rfl
   ·rw [if_neg he,w1 (by omega),B0 r a hr i hi k (j+1) (by omega) (by omega)]
    rw [Bool.not_eq_true]at he
    rw [he,Bool.false_or]
  ·rw [if_neg (by rw [decide_eq_true_eq]; omega)]
   have:j=i:=by omega
   subst this
   rw [List.drop_eq_nil_of_le (by rw [List.length_take]; omega)]
   rfl
theorem Bg {n B:Nat} (r:List Att) (hb:BdR B r) (hB:B≤1000000) (hn:B+100≤n):∀(k i:Nat),i≤r.length→r.length-i<k→ym (z1 n r k (i:Int)) (fun x=>some x) (fun _=>some 0)=some (q6 (r.take i) (r.drop i))
 |0,i,_,h=>by omega
 | k+1,i,hi,hk=>by
  have hl:=hb.1
  rw [z1]
  by_cases hc:i<r.length
  ·have ha:=hb.2 r[i] (by simp)
   rw [if_pos (by rw [decide_eq_true_eq]; omega),ye hc,List.drop_eq_getElem_cons hc,q6]
   simp only [Option.bind_some]
   rw [Zn (by have:=ha.1; omega) (by have:=ha.1; omega),Uf (by have:=ha.2; omega) (by have:=ha.2; omega)]
   simp only [Option.bind_some]
   unfold YX
   by_cases h1:(vY (r[i]).yA).isSome=false
   ·rw [if_pos h1,if_pos (by rw [h1]; rfl)]; rfl
   rw [if_neg h1,if_neg (by simpa using h1)]
   rw [ifb]
   simp only [Option.bind_some]
   by_cases h2:(r[i]).xo= []∨dw (r[i]).vT (r[i]).xo=false
   ·rw [if_pos h2,if_pos (by simpa using h2)]; rfl
   rw [if_neg h2,if_neg (by simpa using h2)]
   by_cases h3:64<(r[i]).xo.length
   ·rw [if_pos h3,if_pos (by rw [decide_eq_true_eq]; omega)]; rfl
   rw [if_neg h3,if_neg (by rw [decide_eq_true_eq]; omega)]
   have h4:=B0 (n:=n) r r[i] (by omega) i (by omega) n 0 (by omega) (by omega)
   rw [show((0:Nat):Int)=0 from rfl,List.drop_zero]at h4
   rw [h4]
   by_cases h5:((r.take i).any fun b=>b.yA==(r[i]).yA)=true
   ·rw [if_pos h5,if_pos h5]; rfl
   rw [if_neg h5,if_neg h5]
   rw [if_neg (show ¬((0:Int)≠0)by simp)]
   show ym (z1 n r k (IntKind.wrap .i64 ((i:Int)+1))) (fun x=>some x) (fun _=>some 0)=_
   rw [w1 (by omega),Bg r hb hB hn k (i+1) (by omega) (by omega),UU hc]
  ·rw [if_neg (by rw [decide_eq_true_eq]; omega)]
   have:i=r.length:=by omega
   subst this
   simp [ym,q6]
theorem mA {n B:Nat} {r:List Att} (hb:BdR B r) (hB:B≤1000000) (hn:B+100≤n):xK n r=some (q6 [] r):=by
 unfold xK
 have hl:=hb.1
 have:=Bg (n:=n) r hb hB hn n 0 (by omega) (by omega)
 rw [show((0:Nat):Int)=0 from rfl,List.drop_zero,List.take_zero]at this
 exact this
theorem QJ {n B:Nat} (l:List (List Att)) (hb:BdN B l) (hB:B≤1000000) (hn:B+100≤n):∀(k i:Nat),i≤l.length→l.length-i<k→ym (yO n ⟨l⟩ k (i:Int)) (fun x=>some x) (fun _=>some 0)=some (bo (l.drop i))
 |0,i,_,h=>by omega
 | k + 1,i,hi,hk=>by
  have hl:=hb.1
  rw [yO]
  by_cases hc:i<l.length
  ·rw [if_pos (by rw [decide_eq_true_eq]; show(i:Int)<(l.length:Int); omega)]
   simp only [ye hc,Option.bind_some]
   rw [List.drop_eq_getElem_cons hc,bo,mA (hb.2 l[i] (by simp)) hB hn]
   simp only [Option.bind_some]
   unfold Zp
   by_cases h0:l[i]= []
   ·rw [if_pos (by rw [h0]; rfl),if_pos h0,if_pos (by decide)]; rfl
   rw [if_neg (by simpa using h0),if_neg h0]
   by_cases h4:4<(l[i]).length
   ·rw [if_pos (by rw [decide_eq_true_eq]; omega),if_pos h4,if_pos (by decide)]; rfl
   rw [if_neg (by rw [decide_eq_true_eq]; omega),if_neg h4]
   by_cases h1:q6 [] l[i]≠0
   ·rw [if_pos h1,if_pos (by simpa using h1)]; rfl
   ·rw [if_neg h1,if_neg (by simpa using h1),w1 (by omega)]
    exact QJ l hb hB hn k (i+1) (by omega) (by omega)
  ·rw [if_neg (by rw [decide_eq_true_eq]; show ¬(i:Int)<(l.length:Int); omega)]
   have:i=l.length:=by omega
   subst this
   simp [ym,bo]
theorem D5 {n B:Nat} {l:List (List Att)} (hb:BdN B l) (hB:B≤1000000) (hn:B+100≤n):xk n ⟨l⟩=some (uj l):=by
 unfold xk uj
 have hl:=hb.1
 by_cases h2:8<l.length
 ·rw [if_pos (by rw [decide_eq_true_eq]; show((l.length:Int)>8); omega),if_pos h2]
 rw [if_neg (by rw [decide_eq_true_eq]; show ¬((l.length:Int)>8); omega),if_neg h2]
 have:=QJ (n:=n) l hb hB hn n 0 (by omega) (by omega)
 rw [show((0:Nat):Int)=0 from rfl,List.drop_zero]at this
 exact this
def okA (a:Att):Prop:=(vY a.yA).isSome=true∧a.xo≠ []∧dw a.vT a.xo=true∧a.xo.length≤64
def okR (r:List Att):Prop:=r≠ []∧r.length≤4∧(∀a∈r,okA a)∧r.Pairwise fun a b=>a.yA≠b.yA
def okN (l:List (List Att)):Prop:=l.length≤8∧∀r∈l,okR r
theorem BR {pre:List Att} {a:Att}:YX pre a=0↔okA a∧∀b∈pre,b.yA≠a.yA:=by
 unfold YX okA
 constructor
 ·intro h
  split at h
  ·simp at h
  rename_i h1
  split at h
  ·simp at h
  rename_i h2
  split at h
  ·simp at h
  rename_i h3
  split at h
  ·simp at h
  rename_i h4
  refine⟨⟨by cases hq:(vY a.yA).isSome with|true=>rfl|false=>exact absurd hq h1,fun e=>h2 (.inl e), ?_,by omega⟩,fun b hb e=>h4 (by rw [List.any_eq_true]; exact⟨b,hb,by simpa using e⟩)⟩
  cases hq:dw a.vT a.xo with
  |true=>rfl
  |false=>exact absurd (Or.inr hq) h2
 ·rintro⟨⟨h1,h2,h3,h4⟩,h5⟩
  rw [if_neg (by rw [h1]; simp),if_neg (by rintro(h|h); exact h2 h; rw [h3]at h; simp at h),if_neg (by omega),if_neg]
  intro h
  obtain⟨b,hb,e⟩:=List.any_eq_true.1 h
  exact h5 b hb (by simpa using e)
theorem QV:∀ {r pre:List Att},q6 pre r=0↔(∀a∈r,okA a)∧(r.Pairwise fun a b=>a.yA≠b.yA)∧∀b∈pre,∀a∈r,b.yA≠a.yA
 | [],pre=>by simp [q6]
 | a ::r,pre=>by
  rw [q6]
  by_cases h:YX pre a=0
  ·rw [if_neg (by simpa using h),QV,List.pairwise_cons]
   rw [BR]at h
   constructor
   ·rintro⟨h1,h2,h3⟩
    refine⟨fun x hx=> ?_,⟨fun x hx=>h3 a (by simp) x hx,h2⟩,fun b hb x hx=> ?_⟩
    ·rcases List.mem_cons.1 hx with rfl|hx
     ·exact h.1
     ·exact h1 x hx
    ·rcases List.mem_cons.1 hx with rfl|hx
     ·exact h.2 b hb
     ·exact h3 b (by simp [hb]) x hx
   ·rintro⟨h1,⟨h2,h3⟩,h4⟩
    refine⟨fun x hx=>h1 x (by simp [hx]),h3,fun b hb x hx=> ?_⟩
    rcases List.mem_append.1 hb with hb|hb
    ·exact h4 b hb x (by simp [hx])
    ·rw [List.mem_singleton]at hb; subst hb; exact h2 x hx
  ·rw [if_pos h]
   constructor
   ·intro e; exact absurd e h
   ·rintro⟨h1,_,h4⟩
    exact absurd (BR.2 ⟨h1 a (by simp),fun b hb=>h4 b hb a (by simp)⟩) h
theorem Bp {r:List Att}:Zp r=0↔okR r:=by
 unfold Zp okR
 by_cases h1:r= []
 ·rw [if_pos h1]; simp [h1]
 rw [if_neg h1]
 by_cases h2:4<r.length
 ·rw [if_pos h2]; constructor
  ·intro h; simp at h
  ·rintro⟨_,h,_⟩; omega
 rw [if_neg h2,QV]
 constructor
 ·rintro⟨a,b,_⟩; exact⟨h1,by omega,a,b⟩
 ·rintro⟨_,_,a,b⟩; exact⟨a,b,by simp⟩
theorem Qr:∀ {l:List (List Att)},bo l=0↔∀r∈l,okR r
 | []=>by simp [bo]
 | r::l=>by
  rw [bo]
  by_cases h:Zp r=0
  ·rw [if_neg (by simpa using h),Qr]
   rw [Bp]at h
   simp [h]
  ·rw [if_pos h]
   constructor
   ·intro e; exact absurd e h
   ·intro e; exact absurd (Bp.2 (e r (by simp))) h
theorem dL {l:List (List Att)}:uj l=0↔okN l:=by
 unfold uj okN
 by_cases h:8<l.length
 ·rw [if_pos h]; constructor
  ·intro h; simp at h
  ·rintro⟨h,_⟩; omega
 ·rw [if_neg h,Qr]
  exact⟨fun e=>⟨by omega,e⟩,fun e=>e.2⟩
def Xg (a:Att):List (Nat×Bs):= [W0 a.yA,(a.vT.toNat,a.xo)]
def XI (a:Att):Nat×Bs:=(48,yh (Xg a))
def gY (a:Att):Bs:=(tWrap 48 (yh (Xg a))).1
def qI (r:List Att):List Att:=r.mergeSort fun a b=>leB (gY a) (gY b)
def q9 (r:List Att):Nat×Bs:=(49,yh ((qI r).map XI))
def vw (l:List (List Att)):Nat×Bs:=(48,yh (l.map q9))
theorem Qx (r:List Att):List.Perm (qI r) r:=List.mergeSort_perm r _
theorem Vr (r:List Att):yh (r.map XI)=(r.map gY).flatten:=by
 unfold yh; rw [List.map_map]; rfl
theorem KN (r:List Att):(qI r).map gY=gm (r.map gY):=List.map_mergeSort (fun _ _ _ _=>rfl)
theorem WL (r:List Att):(gm (r.map gY)).flatten=yh ((qI r).map XI):=by
 rw [Vr,KN]
theorem Xx {k:Int} {s:Bs} (h:dw k s=true):k=12∨k=19∨k=22:=by
 unfold dw at h
 by_cases h1:k=12
 ·exact .inl h1
 by_cases h2:k=19
 ·exact .inr (.inl h2)
 by_cases h3:k=22
 ·exact .inr (.inr h3)
 rw [if_neg h1,if_neg h2,if_neg h3]at h; simp at h
theorem Xt {a:Att} (h:okA a):(∀p∈Xg a,POk p)∧(yh (Xg a)).length≤129∧∃l,vY a.yA=some l∧(jG l).length≤55:=by
 obtain⟨h1,h2,h3,h4⟩:=h
 obtain⟨l,hl⟩:=Option.isSome_iff_exists.1 h1
 have e1:=XE (dy hl)
 have hp:W0 a.yA=(6,jG l):=by unfold W0; rw [hl]; rfl
 have w1:=yX 6 (jG l)
 have w2:=yX a.vT.toNat a.xo
 refine⟨?_, ?_,l,hl,e1⟩
 ·intro p hpm
  simp only [Xg,List.mem_cons,List.not_mem_nil,or_false]at hpm
  rcases hpm with rfl|rfl
  ·rw [hp]; exact⟨by simp,by simp,by simp only; omega⟩
  ·rcases Xx h3 with e|e|e<;>rw [e]<;>exact⟨by dsimp only; decide,by dsimp only; decide,by dsimp only; omega⟩
 ·simp only [Xg,yh,List.map_cons,List.map_nil,List.flatten_cons,List.flatten_nil,List.append_nil,List.length_append,hp]
  omega
theorem J8 {a:Att} (h:okA a):(gY a).length≤134:=by
 have:=(Xt h).2.1
 have:=yX 48 (yh (Xg a))
 unfold gY; omega
theorem XP {α:Type} (f:α→Bs) (M:Nat):∀(l:List α),(∀x∈l,(f x).length≤M)→((l.map f).flatten).length≤M*l.length
 | [],_=>by simp
 | a::l,h=>by
  have:=XP f M l (fun x hx=>h x (by simp [hx]))
  have:=h a (by simp)
  simp only [List.map_cons,List.flatten_cons,List.length_append,List.length_cons,Nat.mul_add,Nat.mul_one]; omega
theorem V7 {r:List Att} (h:okR r):okR (qI r):=by
 obtain⟨h1,h2,h3,h4⟩:=h
 have hp:=Qx r
 refine⟨fun e=>h1 ?_,by rw [hp.length_eq]; exact h2,fun a ha=>h3 a (hp.mem_iff.1 ha),(hp.pairwise_iff (fun h=>Ne.symm h)).2 h4⟩
 rw [e]at hp; exact List.nil_perm.1 hp
theorem ZT {r:List Att} (h:okR r):(q9 r).2.length≤536:=by
 have h':=V7 h
 unfold q9
 simp only
 rw [Vr]
 have:=XP gY 134 (qI r) (fun a ha=>J8 (h'.2.2.1 a ha))
 have:=h'.2.1
 omega
theorem bP {l:List (List Att)} (h:okN l):(vw l).2.length≤4328:=by
 have:=XP (fun r=>(tWrap (q9 r).1 (q9 r).2).1) 541 l (fun r hr=>by have:=ZT (h.2 r hr); have:=yX (q9 r).1 (q9 r).2; omega)
 unfold vw yh
 simp only
 rw [List.map_map]
 have:=h.1
 have e:(List.map ((fun p=>(tWrap p.1 p.2).1)∘q9) l)=l.map (fun r=>(tWrap (q9 r).1 (q9 r).2).1):=rfl
 rw [e]; omega
theorem gj {t:Nat} {c:Bs} (h:c.length≤131072):tWrap t c=((tWrap t c).1,0):=by unfold tWrap; rw [if_pos h]
theorem Pk {n B:Nat} {a:Att} (h:okA a) (hb:BdA B a) (hB:B≤1000000) (hn:B+100≤n):vg n a=some (gY a,0):=by
 obtain⟨hp,hw,l,hl,he⟩:=Xt h
 unfold vg
 have hb1:=hb.1
 have hb2:=hb.2
 rw [KM (by omega) (by omega) hl]
 simp only [Option.bind_some]
 rw [if_neg (by decide),show(6:Int)=((6:Nat):Int)from rfl,V0 (by omega) (by omega) (by omega) (by omega),gj (t:=6) (by omega)]
 simp only [Option.bind_some]
 rw [if_neg (by decide)]
 have hk:a.vT=((a.vT.toNat:Nat):Int):=by rcases Xx h.2.2.1 with e|e|e<;>rw [e]<;>rfl
 rw [hk,V0 (by rcases Xx h.2.2.1 with e|e|e<;>rw [e]<;>decide) (by rcases Xx h.2.2.1 with e|e|e<;>rw [e]<;>decide) (by omega) (by omega),gj (t:=a.vT.toNat) (by have:=h.2.2.2; omega)]
 simp only [Option.bind_some]
 rw [if_neg (by decide),show(48:Int)=((48:Nat):Int)from rfl]
 have hpe:W0 a.yA=(6,jG l):=by unfold W0; rw [hl]; rfl
 have hf:([(tWrap 6 (jG l)).1,(tWrap a.vT.toNat a.xo).1]:List Bs).flatten=yh (Xg a):=by
  simp only [Xg,yh,List.map_cons,List.map_nil,hpe]
 have t1:=yX 6 (jG l)
 have t2:=yX a.vT.toNat a.xo
 rw [Y5 (by omega) (by omega) (by intro c hc; simp only [List.mem_cons,List.not_mem_nil,or_false]at hc; rcases hc with rfl|rfl<;>omega) (by simp only [List.length_cons,List.length_nil]; omega) (by simp),hf,gj (t:=48) (by omega)]
 rfl
theorem Bq {n B:Nat} (r:List Att) (h:∀a∈r,okA a) (hb:BdR B r) (hB:B≤1000000) (hn:B+100≤n):∀(k i:Nat) (acc:List Bs),i≤r.length→r.length-i<k→acc.length=i→vp n r k acc (i:Int)=some (.nxt (acc++(r.drop i).map gY))
 |0,i,_,_,h,_=>by omega
 | k+1,i,acc,hi,hk,ha=>by
  have hl:=hb.1
  rw [vp]
  by_cases hc:i<r.length
  ·rw [if_pos (by rw [decide_eq_true_eq]; omega),ye hc]
   simp only [Option.bind_some]
   rw [Pk (h r[i] (by simp)) (hb.2 r[i] (by simp)) hB hn]
   simp only [Option.bind_some]
   rw [if_neg (by decide),wq (by simp only [List.length_singleton]; omega)]
   simp only [Option.bind_some]
   rw [w1 (by omega),Bq r h hb hB hn k (i+1) _ (by omega) (by omega) (by simp [ha]),List.drop_eq_getElem_cons hc,List.map_cons,List.append_assoc,List.singleton_append]
  ·rw [if_neg (by rw [decide_eq_true_eq]; omega)]
   have:i=r.length:=by omega
   subst this
   simp
theorem D7 {n:Nat} {l:List Bs} (h1:l.length≤1000000) (h2:l.flatten.length≤1000000000):bj n l=some (gm l).flatten:=by
 unfold bj
 have o0:WE 16 l=some l:=by unfold WE; rw [if_pos (by omega)]
 rw [o0]
 simp only [Option.bind_some]
 have hs:Xa n l.length l=some (gm l):=by
  unfold Xa; rw [if_pos ⟨rfl,by omega⟩,←ZK]; rfl
 rw [hs]
 simp only [Option.bind_some]
 have hj:ZP n l.length [] (gm l)=some ((gm l).flatten,gm l):=by
  unfold ZP
  rw [XC,if_pos ⟨Z6 l,by rw [YB]; omega,by rw [Z6]; omega⟩]
 rw [hj]; rfl
theorem UB {r:List Att} (h:okR r):(r.map gY).flatten.length≤536:=by
 have:=XP gY 134 r (fun a ha=>J8 (h.2.2.1 a ha))
 have:=h.2.1
 omega
theorem B8 {n B:Nat} (l:List (List Att)) (h:okN l) (hb:BdN B l) (hB:B≤1000000) (hn:B+100≤n):∀(k i:Nat) (acc:List Bs),i≤l.length→l.length-i<k→acc.length=i→vt n ⟨l⟩ k acc (i:Int)=some (.nxt (acc++(l.drop i).map fun r=>(tWrap (q9 r).1 (q9 r).2).1))
 |0,i,_,_,h,_=>by omega
 | k+1,i,acc,hi,hk,ha=>by
  have hl:=hb.1
  rw [vt]
  by_cases hc:i<l.length
  ·have hr:=h.2 l[i] (by simp)
   have hbr:=hb.2 l[i] (by simp)
   rw [if_pos (by rw [decide_eq_true_eq]; show(i:Int)<(l.length:Int); omega)]
   simp only [ye hc,Option.bind_some]
   have e2:=Bq (n:=n) l[i] hr.2.2.1 hbr hB hn n 0 [] (by omega) (by have:=hbr.1; omega) rfl
   rw [show((0:Nat):Int)=0 from rfl,List.drop_zero,List.nil_append]at e2
   rw [e2]
   simp only [ym]
   rw [D7 (by rw [List.length_map]; have:=hr.2.1; omega) (by have:=UB hr; omega),WL]
   simp only [Option.bind_some]
   have hlen:=ZT hr
   rw [show(49:Int)=((49:Nat):Int)from rfl,V0 (by omega) (by omega) (by simp only [q9]at hlen; omega) (by omega),gj (t:=49) (by simp only [q9]at hlen; omega)]
   simp only [Option.bind_some]
   rw [if_neg (by decide),wq (by simp only [List.length_singleton]; omega)]
   simp only [Option.bind_some]
   rw [w1 (by omega),B8 l h hb hB hn k (i+1) _ (by omega) (by omega) (by simp [ha]),List.drop_eq_getElem_cons hc,List.map_cons,List.append_assoc,List.singleton_append]
   rfl
  ·rw [if_neg (by rw [decide_eq_true_eq]; show ¬(i:Int)<(l.length:Int); omega)]
   have:i=l.length:=by omega
   subst this
   simp
def Wt (l:List (List Att)):Bs×Int:=if uj l≠0 then([],uj l)else((tWrap 48 (vw l).2).1,0)
theorem GK {n B:Nat} {l:List (List Att)} (hb:BdN B l) (hB:B≤1000000) (hn:B+100≤n):qr n ⟨l⟩=some (Wt l):=by
 unfold qr Wt
 have hl:=hb.1
 rw [Db hb hB hn]
 simp only [Option.bind_some]
 by_cases h:uj l≠0
 ·rw [if_pos h,if_pos (by simpa using h)]
 rw [if_neg h,if_neg (by simpa using h)]
 have ho:okN l:=dL.1 (by simpa using h)
 have e1:=B8 (n:=n) l ho hb hB hn n 0 [] (by omega) (by omega) rfl
 rw [show((0:Nat):Int)=0 from rfl,List.drop_zero,List.nil_append]at e1
 rw [e1]
 simp only [ym]
 have hlen:=bP ho
 have hf:(l.map fun r=>(tWrap (q9 r).1 (q9 r).2).1).flatten=(vw l).2:=by
  unfold vw yh; simp only; rw [List.map_map]; rfl
 rw [show(48:Int)=((48:Nat):Int)from rfl,Y5 (by omega) (by omega) ?_ (by rw [List.length_map]; have:=ho.1; omega) (by rw [List.length_map]; omega),hf,gj (t:=48) (by omega)]
 ·rfl
 ·intro c hc
  obtain⟨r,hr,rfl⟩:=List.mem_map.1 hc
  have:=ZT (ho.2 r hr)
  have:=yX (q9 r).1 (q9 r).2
  omega
theorem KX {n t:Nat} {cs:List Bs} (h1:t≤255) (h2:t%32≠31) (hc:cs.flatten.length≤1000000000000) (hn:cs.length<n) (hl:cs.length≤1000):zI n (t:Int) cs=some (tWrap t cs.flatten).1:=by
 unfold zI
 rw [Q0 h1 h2 hc hn (by omega)]; rfl
theorem PA {n B:Nat} {a:Att} (h:okA a) (hb:BdA B a) (hB:B≤1000000) (hn:B+100≤n):((wP n a.yA).bind fun r66=>
  (zI n a.vT ([a.xo]:List (List UInt8))).bind fun r67=>
  zI n 48 ([r66,r67]:List (List UInt8)))=some (gY a):=by
 obtain⟨hp,hw,l,hl,he⟩:=Xt h
 have hb1:=hb.1
 have hb2:=hb.2
 have hpe:W0 a.yA=(6,jG l):=by unfold W0; rw [hl]; rfl
 rw [mH (by omega) (by omega) (by rw [hl]; rfl),hpe]
 simp only [Option.bind_some]
 have hk:a.vT=((a.vT.toNat:Nat):Int):=by rcases Xx h.2.2.1 with e|e|e<;>rw [e]<;>rfl
 rw [hk,UH (by rcases Xx h.2.2.1 with e|e|e<;>rw [e]<;>decide) (by rcases Xx h.2.2.1 with e|e|e<;>rw [e]<;>decide) (by omega) (by omega)]
 simp only [Option.bind_some]
 have hf:([(tWrap 6 (jG l)).1,(tWrap a.vT.toNat a.xo).1]:List Bs).flatten=yh (Xg a):=by
  simp only [Xg,yh,List.map_cons,List.map_nil,hpe]
 rw [show(48:Int)=((48:Nat):Int)from rfl,KX (by omega) (by omega) (by rw [hf]; omega) (by simp only [List.length_cons,List.length_nil]; omega) (by simp),hf]
 rfl
theorem Y6 {n B:Nat} (r:List Att) (h:∀a∈r,okA a) (hb:BdR B r) (hB:B≤1000000) (hn:B+100≤n):∀(k i:Nat) (acc:List Bs),i≤r.length→r.length-i<k→acc.length=i→yJ n r k acc (i:Int)=some (acc++(r.drop i).map gY)
 |0,i,_,_,h,_=>by omega
 | k+1,i,acc,hi,hk,ha=>by
  have hl:=hb.1
  rw [yJ]
  by_cases hc:i<r.length
  ·rw [if_pos (by rw [decide_eq_true_eq]; omega),ye hc]
   simp only [Option.bind_some]
   have e:=PA (h r[i] (by simp)) (hb.2 r[i] (by simp)) hB hn
   rw [Option.bind_eq_some_iff]at e
   obtain⟨x,e1,e⟩:=e
   rw [Option.bind_eq_some_iff]at e
   obtain⟨y,e2,e3⟩:=e
   rw [e1,Option.bind_some,e2,Option.bind_some,e3,Option.bind_some]
   rw [wq (by simp only [List.length_singleton]; omega)]
   simp only [Option.bind_some]
   rw [w1 (by omega),Y6 r h hb hB hn k (i+1) _ (by omega) (by omega) (by simp [ha]),List.drop_eq_getElem_cons hc,List.map_cons,List.append_assoc,List.singleton_append]
  ·rw [if_neg (by rw [decide_eq_true_eq]; omega)]
   have:i=r.length:=by omega
   subst this
   simp
theorem Gr {n B:Nat} {r:List Att} (h:∀a∈r,okA a) (hb:BdR B r) (hB:B≤1000000) (hn:B+100≤n):wD n r=some (r.map gY):=by
 unfold wD
 have:=Y6 (n:=n) r h hb hB hn n 0 [] (by omega) (by have:=hb.1; omega) rfl
 rw [show((0:Nat):Int)=0 from rfl,List.drop_zero,List.nil_append]at this
 rw [this]; rfl
theorem JG {n B:Nat} (l:List (List Att)) (h:okN l) (hb:BdN B l) (hB:B≤1000000) (hn:B+100≤n):∀(k i:Nat) (acc:Bs),i≤l.length→l.length-i<k→acc.length≤541*i→yK n ⟨l⟩ k acc (i:Int)=some (acc++yh ((l.drop i).map q9))
 |0,i,_,_,h,_=>by omega
 | k+1,i,acc,hi,hk,ha=>by
  have hl:=hb.1
  rw [yK]
  by_cases hc:i<l.length
  ·have hr:=h.2 l[i] (by simp)
   have hbr:=hb.2 l[i] (by simp)
   rw [if_pos (by rw [decide_eq_true_eq]; show(i:Int)<(l.length:Int); omega)]
   simp only [ye hc,Option.bind_some]
   rw [Gr hr.2.2.1 hbr hB hn]
   simp only [Option.bind_some]
   have:=hr.2.1
   rw [Gy (by rw [List.length_map]; omega) (by have:=UB hr; omega) (by rw [List.length_map]; omega),WL]
   simp only [Option.bind_some]
   have hlen:=ZT hr
   have hw:=yX (q9 l[i]).1 (q9 l[i]).2
   have h8:=h.1
   rw [show(49:Int)=((49:Nat):Int)from rfl,UH (by omega) (by omega) (by simp only [q9]at hlen; omega) (by omega)]
   simp only [Option.bind_some]
   have e:(tWrap 49 (yh ((qI l[i]).map XI))).1=(tWrap (q9 l[i]).1 (q9 l[i]).2).1:=rfl
   rw [e,yC (by omega)]
   simp only [Option.bind_some]
   rw [w1 (by omega),JG l h hb hB hn k (i+1) _ (by omega) (by omega) (by rw [List.length_append]; omega),List.drop_eq_getElem_cons hc,List.map_cons,Zc,List.append_assoc]
  ·rw [if_neg (by rw [decide_eq_true_eq]; show ¬(i:Int)<(l.length:Int); omega)]
   have:i=l.length:=by omega
   subst this
   simp [yh]
theorem JN {n B:Nat} {l:List (List Att)} (hb:BdN B l) (hB:B≤1000000) (hn:B+100≤n):wz n ⟨l⟩=some (Wt l):=by
 unfold wz Wt
 have hl:=hb.1
 rw [D5 hb hB hn]
 simp only [Option.bind_some]
 by_cases h:uj l≠0
 ·rw [if_pos h,if_pos (by simpa using h)]
 rw [if_neg h,if_neg (by simpa using h)]
 have ho:okN l:=dL.1 (by simpa using h)
 have e1:=JG (n:=n) l ho hb hB hn n 0 [] (by omega) (by omega) (by simp)
 rw [show((0:Nat):Int)=0 from rfl,List.drop_zero,List.nil_append]at e1
 rw [e1]
 simp only [Option.bind_some]
 have hlen:=bP ho
 rw [show(48:Int)=((48:Nat):Int)from rfl,UH (by omega) (by omega) (by simp only [vw]at hlen; omega) (by omega)]
 rfl
def okK (k:zo):Bool:= !(decide (k.zq<0)||(decide (k.zq>8)||((k.xM.length:Int) !=16||(k.zR.length:Int) !=16)))
theorem Yf {k:zo}:okK k=true↔0≤k.zq∧k.zq≤8∧k.xM.length=16∧k.zR.length=16:=by
 unfold okK
 simp only [Bool.not_eq_true',Bool.or_eq_false_iff,decide_eq_false_iff_not,bne_eq_false_iff_eq]
 omega
theorem cP {n:Nat} {k:zo}:uV n k=some (if okK k=true then 0 else 18):=by
 unfold uV okK
 simp only [dro,Option.bind_some]
 cases(decide (k.zq<0)||(decide (k.zq>8)||((k.xM.length:Int) !=16||(k.zR.length:Int) !=16)))<;>rfl
theorem ct {n:Nat} {k:zo}:we n k=some (if okK k=true then 0 else 18):=by
 unfold we okK
 simp only [dro,Option.bind_some]
 cases(decide (k.zq<0)||(decide (k.zq>8)||((k.xM.length:Int) !=16||(k.zR.length:Int) !=16)))<;>rfl
def db:Bs:= [43,6,1,4,1,131,204,8,1,1]
def qP:Nat×Bs:=(48,yh [(6,db)])
def pU (k:zo):List (Nat×Bs):= [qP,(3,0::o8 k.zq.toNat::(k.xM++k.zR))]
def jB (k:zo):Nat×Bs:=(48,yh (pU k))
theorem ms {n:Nat} (hn:100≤n):jD n=some (tWrap qP.1 qP.2).1:=by
 obtain⟨m,rfl⟩:∃m,n=m+100:=⟨n-100,by omega⟩
 kernel_rfl
theorem mC {n:Nat} (hn:100≤n):v8 n=some (tWrap qP.1 qP.2).1:=by
 obtain⟨m,rfl⟩:∃m,n=m+100:=⟨n-100,by omega⟩
 kernel_rfl
end Go.Abs
end
