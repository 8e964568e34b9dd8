/- The typed Lean form of WireReturns gives true for every list of at most 9223372036854775807 numbers. -/
import Derived.Test.YtbggpcnbbhjiaaaGreatDoorLaw3
set_option linter.unusedVariables false
set_option linter.unusedSimpArgs false
set_option linter.unnecessarySimpa false
section
set_option maxRecDepth 100000
namespace Go.Abs
open Go Go.Proofs
def polE (s:Bs):Nat×Bs:=(6,qf ((xS s).getD []))
theorem gd {t:Nat} {c:Bs} (h:c.length≤131072):tWrap t c=((tWrap t c).1,0):=by unfold tWrap; rw [if_pos h]
theorem Xo {n t:Nat} {c:Bs} (h1:t≤255) (h2:t%32≠31) (hc:c.length≤1000000000000) (hn:20≤n):xy n (t:Int) [c]=some (tWrap t c):=by
 have:=Xr (n:=n) (t:=t) (cs:= [c]) h1 h2 (by simpa using hc) (by simp; omega) (by simp)
 rw [this]; simp
theorem WL {n:Nat} {b a:Bs} {e:Int} (h:b.length+a.length≤1000000000000):z1 n a e ⟨b,0⟩=some ⟨b++a,e⟩:=by
 unfold z1
 rw [if_pos (by rfl),pT (by show b.length+a.length≤_; omega)]; rfl
theorem U6 {n t:Nat} {b c:Bs} (h1:t≤255) (h2:t%32≠31) (hc:b.length+c.length≤100000000000) (hn:20≤n):zP n (t:Int) c ⟨b,0⟩=some ⟨b++(tWrap t c).1,(tWrap t c).2⟩:=by
 unfold zP
 have:=yd t c
 rw [Xo h1 h2 (by omega) hn,Option.bind_some,WL (by omega)]; rfl
theorem jQ (l:List (Nat×Bs)) (p:Nat×Bs):wraps (p::l)=(tWrap p.1 p.2).1++wraps l:=by simp [wraps, -List.length_flatten]
theorem pX {m:Nat}:∀l:List (Nat×Bs),(∀p∈l,p.2.length≤m)→(wraps l).length≤(m+5)*l.length
 | [],_=>by simp [wraps]
 | p::l,h=>by
  have h1:=h p (by simp)
  have h2:=yd p.1 p.2
  have ih:=pX l (fun q hq=>h q (by simp [hq]))
  rw [jQ,List.length_append,List.length_cons,Nat.mul_succ]; omega
theorem GY {n:Nat} {b:Bs} {e:Int} (he:e≠0) (hb:b.length≤100000000000) (hn:20≤n):yV n ⟨b,e⟩=some ([],2,⟨b,e⟩):=by
 unfold yV
 have:=Xo (n:=n) (t:=48) (c:=b) (by omega) (by omega) (by omega) hn
 rw [show((48:Nat):Int)=48 from rfl]at this
 rw [this]
 simp only [Option.bind_some]
 rw [if_pos (by simpa using he)]; rfl
theorem V0 {n:Nat} {b:Bs} (hb:b.length≤100000000000) (hn:20≤n):yV n ⟨b,0⟩=some (if 131072<b.length then([],2,⟨b,0⟩)else((tWrap 48 b).1,0,⟨b,0⟩)):=by
 unfold yV
 have:=Xo (n:=n) (t:=48) (c:=b) (by omega) (by omega) (by omega) hn
 rw [show((48:Nat):Int)=48 from rfl]at this
 rw [this]
 simp only [Option.bind_some]
 rw [if_neg (by simp)]
 by_cases h:131072<b.length
 ·rw [if_pos h]; unfold tWrap; rw [if_neg (by omega)]; rfl
 ·rw [if_neg h,gd (by omega)]; rfl
theorem Pn {t:Nat} {c:Bs} (h:131072<c.length):tWrap t c=([],6):=by unfold tWrap; rw [if_neg (by omega)]
theorem Gr {b:Bs} (h:(w4 b).2.2=0):∃t:UInt8,(w4 b).1.zT=(t.toNat:Int)∧t.toNat%32≠31:=by
 match b with
 | []=>simp [w4]at h
 | t ::r=>
  by_cases h31:t.toNat%32=31
  ·unfold w4 at h; simp [h31]at h
  ·refine ⟨t, ?_,h31⟩
   unfold w4 at h ⊢
   simp only [h31,if_false]at h ⊢
   match r with
   | []=>simp at h
   | c::s=>
    simp only at h ⊢
    repeat' split
    all_goals first|rfl|(rename_i hh; simp_all)
def EOk (e:zd):Prop:=e.zq.length+2≤e.qP.length∧∃t:UInt8,e.zT=(t.toNat:Int)∧t.toNat%32≠31
def Vf (l:List zd):Nat:=(l.map fun e=>e.qP.length).sum
theorem XJ:∀(k:Nat) (b:Bs) (acc:List zd),∃M,((bp k b acc).1=acc++M∨(bp k b acc).1= [])∧Vf M≤b.length∧∀e∈M,EOk e
 |0,b,acc=>⟨[], .inl (by simp [bp]),by simp [Vf],by simp⟩
 | k + 1,b,acc=>by
  rw [bp]
  by_cases h0:b= []
  ·rw [if_pos h0]; exact⟨[], .inl (by simp),by simp [Vf],by simp⟩
  ·rw [if_neg h0]
   by_cases h1:(w4 b).2.2≠0
   ·rw [if_pos h1]; exact⟨[], .inr rfl,by simp [Vf],by simp⟩
   ·rw [if_neg h1]
    have h1:(w4 b).2.2=0:=by simpa using h1
    obtain⟨k1,k2,k3,_⟩:=Xh h1
    obtain⟨M,e1,e2,e3⟩:=XJ k (w4 b).2.1 (acc ++ [(w4 b).1])
    have hl:=congrArg List.length k1
    rw [List.length_append]at hl
    refine⟨(w4 b).1::M, ?_, ?_, ?_⟩
    ·rcases e1 with e1|e1
     ·exact .inl (by rw [e1]; simp)
     ·exact .inr e1
    ·unfold Vf at e2 ⊢; rw [List.map_cons,List.sum_cons]; omega
    ·intro e he
     rcases List.mem_cons.1 he with rfl|he
     ·exact⟨k3,Gr h1⟩
     ·exact e3 e he
theorem DW {l:List zd}:∀e∈l,e.qP.length≤Vf l:=by
 intro e he
 induction l with
 |nil=>simp at he
 | cons a r ih=>
  unfold Vf at ih ⊢; rw [List.map_cons,List.sum_cons]
  rcases List.mem_cons.1 he with rfl|he
  ·omega
  ·have:=ih he; omega
theorem Pm {l:List zd} (h:∀e∈l,EOk e):2*l.length≤Vf l:=by
 induction l with
 |nil=>simp [Vf]
 | cons a r ih=>
  have:=ih (fun e he=>h e (by simp [he]))
  have h1:=(h a (by simp)).1
  unfold Vf at this ⊢; rw [List.map_cons,List.sum_cons,List.length_cons]; omega
theorem Qs (b:Bs):Vf (tList b).1≤b.length∧∀e∈(tList b).1,EOk e:=by
 unfold tList
 obtain⟨M,e1,e2,e3⟩:=XJ (b.length+1) b []
 rcases e1 with e1|e1
 ·rw [e1,List.nil_append]; exact⟨e2,e3⟩
 ·rw [e1]; exact⟨by simp [Vf],by simp⟩
def Bd (M:Nat) (l:List zd):Prop:=l.length≤M∧∀e∈l,e.zq.length≤M
theorem kY (b:Bs) {M:Nat} (h:b.length≤M):Bd M (tList b).1:=by
 obtain⟨h1,h2⟩:=Qs b
 have:=Pm h2
 exact⟨by omega,fun e he=>by have:=DW e he; have:=(h2 e he).1; omega⟩
theorem Bd.tail {M:Nat} {e:zd} {l:List zd} (h:Bd M (e::l)):e.zq.length≤M∧Bd M l:=
 ⟨h.2 e (by simp),by have:=h.1; simp at this; omega,fun x hx=>h.2 x (by simp [hx])⟩
theorem ifb (a b:Bool):(if a=true then some true else some b)=some (a||b):=by cases a<;>rfl
theorem GZ {n:Nat} {f:Bool}:yb n ⟨[],f⟩=some (⟨0,[],[]⟩,⟨[],true⟩):=rfl
theorem ZO {n:Nat} {f:Bool} {e:zd} {l:List zd}:yb n ⟨e::l,f⟩=some (e,⟨l,f⟩):=by
 unfold yb
 rw [if_neg (by rw [beq_iff_eq]; simp only [List.length_cons]; omega)]
 have k0:z6 (e::l) 0=some e:=by simp [z6]
 simp only []
 rw [k0,Option.bind_some,Ue]; rfl
theorem WI {n M:Nat} {f:Bool} {l:List zd} (h:Bd M l):∃e r f',yb n ⟨l,f⟩=some (e,⟨r,f'⟩)∧e.zq.length≤M∧Bd M r∧r.length≤l.length∧(0<l.length→r.length<l.length):=by
 match l,h with
 | [],h=>exact⟨_,_,_,GZ,by simp,h,by simp,by simp⟩
 |e::l,h=>exact⟨_,_,_,ZO,h.tail.1,h.tail.2,by simp,by simp⟩
theorem Dc {n:Nat} {e:zd} (hn:e.zq.length+5≤n) (hl:e.zq.length≤1000000000000):wZ n e=some ⟨(tList e.zq).1,((tList e.zq).2 !=0)||(e.zT !=48)⟩:=by
 unfold wZ wy
 rw [qS hl hn]
 simp only [Option.bind_some]
 cases(tList e.zq).2 !=0<;>rfl
theorem Qa {l:List Nat} (h:l.length≤12) (hl:∀x∈l,x≤4294967294):(GI l).length≤252:=by
 unfold GI
 have:=J4 (sep:= [46]) (b:=20) (l:=l.map fun a=>Lib.decDigits a) (by
  intro x hx; obtain⟨a,ha,rfl⟩:=List.mem_map.1 hx
  have:=hl a ha; exact B1 (by omega))
 rw [List.length_map,List.length_singleton]at this; omega
theorem VZ {n:Nat} {b:Bs} (hb:b.length≤500000000) (hn:b.length+40≤n):∃s e,yr n b=some (s,e)∧s.length≤252:=by
 obtain⟨q,h,h1,h2⟩:=Qv (n:=n) b hb (by omega)
 rw [Yx (by omega) h h1 (by omega)]
 by_cases hq:YP q=true
 ·rw [if_pos hq]
  refine⟨_,_,rfl, ?_⟩
  simp only [YP,Bool.and_eq_true,decide_eq_true_eq,List.all_eq_true]at hq
  refine Qa ?_ (fun x hx=>by have:=hq.2 x hx; omega)
  match q,hq.1 with
  |v::r,hq=>have:=hq.2; simp only [j5,List.length_cons]at this ⊢; omega
 ·rw [if_neg hq]; exact⟨_,_,rfl,by simp⟩
theorem G6 {s:Bs} (h:(xS s).isSome=true):s.length≤252:=by
 obtain⟨l,hl⟩:=Option.isSome_iff_exists.1 h
 have h2:=qU hl
 rw [←Up hl]
 exact Qa h2.2.1 (fun x hx=>by have:=h2.2.2.2 x hx; omega)
theorem Jv {s:Bs} (h:(xS s).isSome=true):POk (polE s):=by
 obtain⟨l,hl⟩:=Option.isSome_iff_exists.1 h
 refine⟨by show(6:Nat)≤255; omega,by show(6:Nat)%32≠31; omega, ?_⟩
 unfold polE; rw [hl]
 have:=bV (qU hl); simp only [Option.getD_some]; omega
theorem B7 (b:Bs):(jZ b).1.zq.length≤b.length:=by
 unfold jZ
 split
 ·simp
 ·rename_i h
  split
  ·simp
  ·have h:(w4 b).2.2=0:=by simpa using h
   obtain⟨k1,k2,k3,_⟩:=Xh h
   have hl:=congrArg List.length k1
   rw [List.length_append]at hl
   show(w4 b).1.zq.length≤b.length
   omega
def xZ (d:zh):Prop:=0≤d.zO∧d.zO≤(d.f_L.length:Int)∧d.f_L.length≤9223372036854775807
theorem Gx {α:Type} {l:List α} {i:Int} (h0:0≤i) (h1:i<(l.length:Int)):∃x,z6 l i=some x∧x∈l:=by
 have h:i.toNat<l.length:=by omega
 exact⟨l[i.toNat],by simp [z6,h0,h],by simp⟩
theorem DF {n:Nat} {k:Int} {d:zh} (hk:0<k) (hk2:k≤4611686018427387904) (hd:xZ d):
  ∃r d',zj n k d=some (r,d')∧0≤r∧r<k∧xZ d':=by
 obtain⟨h0,h1,h2⟩:=hd
 unfold zj
 by_cases hc:d.zO≥(d.f_L.length:Int)
 ·exact⟨0,d,by simp [hc],by omega,by omega,h0,h1,h2⟩
 ·have ha:IntKind.wrap .i64 (d.zO+1)=d.zO+1:=wt (by omega)
  have hb:IntKind.wrap .i64 (IntKind.wrap .i64 (d.zO+1)-1)=d.zO:=by rw [ha,wt (by omega)]; omega
  obtain⟨x,hx,_⟩:=Gx h0 (Int.not_le.1 hc)
  have hm1: -k<x.tmod k:=by
   have:=Int.lt_tmod_of_pos x hk; omega
  have hm2:x.tmod k<k:=Int.tmod_lt_of_pos x hk
  have hw:IntKind.wrap .i64 (x.tmod k+k)=x.tmod k+k:=wt (by omega)
  refine⟨(x.tmod k+k).tmod k,⟨d.f_L,d.zO+1⟩, ?_, ?_, ?_, ?_⟩
  ·rw [hb,hx,ha]
   have hk':k≠0:=by omega
   simp [hc,Da,hk',hw]
  ·exact Int.tmod_nonneg k (by omega)
  ·exact Int.tmod_lt_of_pos _ hk
  ·exact⟨by simp; omega,by simp; omega,h2⟩
theorem xb {n:Nat} {k:Int} {d:zh} (hk:0<k) (hk2:k≤4611686018427387904) (hd:xZ d):∃r d',zj n k d=some (r,d')∧0≤r∧r<k∧xZ d':=DF hk hk2 hd
abbrev Att:=zb
def WU (pre:List Att) (a:Att):Int:=
 if(xS a.xQ).isSome=false then 11 else if a.wQ= []∨Z3 a.zV a.wQ=false then 13 else if 64<a.wQ.length then 2 else if(pre.any fun b=>b.xQ==a.xQ)=true then 10 else 0
def dM:List Att→List Att→Int
 |_,[]=>0
 |pre,a::r=>if WU pre a≠0 then WU pre a else dM (pre ++ [a]) r
def Z0 (r:List Att):Int:=if r= []then 14 else if 4<r.length then 2 else dM [] r
def pd:List (List Att)→Int
 | []=>0
 |r::l=>if Z0 r≠0 then Z0 r else pd l
def kM (l:List (List Att)):Int:=if 8<l.length then 2 else pd l
def BdA (B:Nat) (a:Att):Prop:=a.xQ.length≤B∧a.wQ.length≤B
def BdR (B:Nat) (r:List Att):Prop:=r.length≤B∧∀a∈r,BdA B a
def BdN (B:Nat) (l:List (List Att)):Prop:=l.length≤B∧∀r∈l,BdR B r
theorem GM {α:Type} {l:List α} {i:Nat} (h:i<l.length):l.take (i+1)=l.take i ++ [l[i]]:=by
 rw [List.take_add_one,List.getElem?_eq_getElem h]; rfl
theorem Bo {n:Nat} (p:List Att) (a:Att) (hp:p.length≤1000000):∀(k j:Nat),j≤p.length→p.length-j<k→xp n p a k (j:Int)=some (if((p.drop j).any fun b=>b.xQ==a.xQ)=true then .ret 10 else .nxt ())
 |0,j,_,h=>by omega
 | k + 1,j,hj,hk=>by
  rw [xp]
  by_cases hc:j<p.length
  ·rw [if_pos (by rw [decide_eq_true_eq]; omega),yf hc,List.drop_eq_getElem_cons hc,List.any_cons]
   simp only [Option.bind_some]
   by_cases he:(p[j].xQ==a.xQ)=true
   ·rw [if_pos he,he]; rfl
   ·rw [if_neg he,w1 (by omega),Bo p a hp k (j+1) (by omega) (by omega)]
    rw [Bool.not_eq_true]at he
    rw [he,Bool.false_or]
  ·rw [if_neg (by rw [decide_eq_true_eq]; omega)]
   have:j=p.length:=by omega
   subst this
   simp
theorem BE {n B:Nat} (r:List Att) (hb:BdR B r) (hB:B≤1000000) (hn:B+100≤n):∀(k i:Nat),i≤r.length→r.length-i<k→xJ (yK n r k (i:Int)) (fun x=>some x) (fun _=>some 0)=some (dM (r.take i) (r.drop i))
 |0,i,_,h=>by omega
 | k+1,i,hi,hk=>by
  have hl:=hb.1
  rw [yK]
  by_cases hc:i<r.length
  ·have ha:=hb.2 r[i] (by simp)
   rw [if_pos (by rw [decide_eq_true_eq]; omega),yf hc,List.drop_eq_getElem_cons hc,dM]
   simp only [Option.bind_some]
   rw [gM (by have:=ha.1; omega) (by have:=ha.1; omega),K6 (by have:=ha.2; omega) (by have:=ha.2; omega)]
   simp only [Option.bind_some]
   unfold WU
   by_cases h1:(xS (r[i]).xQ).isSome=false
   ·rw [if_pos h1,if_pos (by rw [h1]; rfl)]; rfl
   rw [if_neg h1,if_neg (by simpa using h1)]
   rw [ifb]
   simp only [Option.bind_some]
   by_cases h2:(r[i]).wQ= []∨Z3 (r[i]).zV (r[i]).wQ=false
   ·rw [if_pos h2,if_pos (by simpa using h2)]; rfl
   rw [if_neg h2,if_neg (by simpa using h2)]
   by_cases h3:64<(r[i]).wQ.length
   ·rw [if_pos h3,if_pos (by rw [decide_eq_true_eq]; omega)]; rfl
   rw [if_neg h3,if_neg (by rw [decide_eq_true_eq]; omega)]
   have hs:lsl r 0 (i:Int)=some (r.take i):=by unfold lsl; rw [if_pos ⟨by omega,by omega,by omega⟩]; simp
   rw [hs]
   simp only [Option.bind_some]
   have h4:=Bo (n:=n) (r.take i) r[i] (by rw [List.length_take]; omega) n 0 (by omega) (by rw [List.length_take]; omega)
   rw [show((0:Nat):Int)=0 from rfl,List.drop_zero]at h4
   rw [h4]
   by_cases h5:((r.take i).any fun b=>b.xQ==(r[i]).xQ)=true
   ·rw [if_pos h5,if_pos h5]; rfl
   rw [if_neg h5,if_neg h5]
   rw [if_neg (show ¬((0:Int)≠0)by simp)]
   show xJ (yK n r k (IntKind.wrap .i64 ((i:Int)+1))) (fun x=>some x) (fun _=>some 0)=_
   rw [w1 (by omega),BE r hb hB hn k (i+1) (by omega) (by omega),GM hc]
  ·rw [if_neg (by rw [decide_eq_true_eq]; omega)]
   have:i=r.length:=by omega
   subst this
   simp [xJ,dM]
theorem nr {n B:Nat} {r:List Att} (hb:BdR B r) (hB:B≤1000000) (hn:B+100≤n):vt n r=some (Z0 r):=by
 unfold vt Z0
 have hl:=hb.1
 by_cases h1:r= []
 ·subst h1; rfl
 rw [if_neg (by simpa using h1),if_neg h1]
 by_cases h2:4<r.length
 ·rw [if_pos (by rw [decide_eq_true_eq]; omega),if_pos h2]
 rw [if_neg (by rw [decide_eq_true_eq]; omega),if_neg h2]
 have:=BE (n:=n) r hb hB hn n 0 (by omega) (by omega)
 rw [show((0:Nat):Int)=0 from rfl,List.drop_zero,List.take_zero]at this
 exact this
theorem Qf {n B:Nat} (l:List (List Att)) (hb:BdN B l) (hB:B≤1000000) (hn:B+100≤n):∀(k i:Nat),i≤l.length→l.length-i<k→xJ (vx n ⟨l⟩ k (i:Int)) (fun x=>some x) (fun _=>some 0)=some (pd (l.drop i))
 |0,i,_,h=>by omega
 | k + 1,i,hi,hk=>by
  have hl:=hb.1
  rw [vx]
  by_cases hc:i<l.length
  ·rw [if_pos (by rw [decide_eq_true_eq]; show(i:Int)<(l.length:Int); omega)]
   simp only [yf hc,Option.bind_some]
   rw [List.drop_eq_getElem_cons hc,pd,nr (hb.2 l[i] (by simp)) hB hn]
   simp only [Option.bind_some]
   by_cases h1:Z0 l[i]≠0
   ·rw [if_pos h1,if_pos (by simpa using h1)]; rfl
   ·rw [if_neg h1,if_neg (by simpa using h1),w1 (by omega)]
    exact Qf l hb hB hn k (i+1) (by omega) (by omega)
  ·rw [if_neg (by rw [decide_eq_true_eq]; show ¬(i:Int)<(l.length:Int); omega)]
   have:i=l.length:=by omega
   subst this
   simp [xJ,pd]
theorem W3 {n B:Nat} {l:List (List Att)} (hb:BdN B l) (hB:B≤1000000) (hn:B+100≤n):wN n ⟨l⟩=some (kM l):=by
 unfold wN kM
 have hl:=hb.1
 by_cases h2:8<l.length
 ·rw [if_pos (by rw [decide_eq_true_eq]; show((l.length:Int)>8); omega),if_pos h2]
 rw [if_neg (by rw [decide_eq_true_eq]; show ¬((l.length:Int)>8); omega),if_neg h2]
 have:=Qf (n:=n) l hb hB hn n 0 (by omega) (by omega)
 rw [show((0:Nat):Int)=0 from rfl,List.drop_zero]at this
 exact this
def okA (a:Att):Prop:=(xS a.xQ).isSome=true∧a.wQ≠ []∧Z3 a.zV a.wQ=true∧a.wQ.length≤64
def okR (r:List Att):Prop:=r≠ []∧r.length≤4∧(∀a∈r,okA a)∧r.Pairwise fun a b=>a.xQ≠b.xQ
def okN (l:List (List Att)):Prop:=l.length≤8∧∀r∈l,okR r
theorem Gg {pre:List Att} {a:Att}:WU pre a=0↔okA a∧∀b∈pre,b.xQ≠a.xQ:=by
 unfold WU okA
 constructor
 ·intro h
  split at h
  ·simp at h
  rename_i h1
  split at h
  ·simp at h
  rename_i h2
  split at h
  ·simp at h
  rename_i h3
  split at h
  ·simp at h
  rename_i h4
  refine⟨⟨by cases hq:(xS a.xQ).isSome with|true=>rfl|false=>exact absurd hq h1,fun e=>h2 (.inl e), ?_,by omega⟩,fun b hb e=>h4 (by rw [List.any_eq_true]; exact⟨b,hb,by simpa using e⟩)⟩
  cases hq:Z3 a.zV a.wQ with
  |true=>rfl
  |false=>exact absurd (Or.inr hq) h2
 ·rintro⟨⟨h1,h2,h3,h4⟩,h5⟩
  rw [if_neg (by rw [h1]; simp),if_neg (by rintro(h|h); exact h2 h; rw [h3]at h; simp at h),if_neg (by omega),if_neg]
  intro h
  obtain⟨b,hb,e⟩:=List.any_eq_true.1 h
  exact h5 b hb (by simpa using e)
theorem J6:∀ {r pre:List Att},dM pre r=0↔(∀a∈r,okA a)∧(r.Pairwise fun a b=>a.xQ≠b.xQ)∧∀b∈pre,∀a∈r,b.xQ≠a.xQ
 | [],pre=>by simp [dM]
 | a ::r,pre=>by
  rw [dM]
  by_cases h:WU pre a=0
  ·rw [if_neg (by simpa using h),J6,List.pairwise_cons]
   rw [Gg]at h
   constructor
   ·rintro⟨h1,h2,h3⟩
    refine⟨fun x hx=> ?_,⟨fun x hx=>h3 a (by simp) x hx,h2⟩,fun b hb x hx=> ?_⟩
    ·rcases List.mem_cons.1 hx with rfl|hx
     ·exact h.1
     ·exact h1 x hx
    ·rcases List.mem_cons.1 hx with rfl|hx
     ·exact h.2 b hb
     ·exact h3 b (by simp [hb]) x hx
   ·rintro⟨h1,⟨h2,h3⟩,h4⟩
    refine⟨fun x hx=>h1 x (by simp [hx]),h3,fun b hb x hx=> ?_⟩
    rcases List.mem_append.1 hb with hb|hb
    ·exact h4 b hb x (by simp [hx])
    ·rw [List.mem_singleton]at hb; subst hb; exact h2 x hx
  ·rw [if_pos h]
   constructor
   ·intro e; exact absurd e h
   ·rintro⟨h1,_,h4⟩
    exact absurd (Gg.2 ⟨h1 a (by simp),fun b hb=>h4 b hb a (by simp)⟩) h
theorem Bq {r:List Att}:Z0 r=0↔okR r:=by
 unfold Z0 okR
 by_cases h1:r= []
 ·rw [if_pos h1]; simp [h1]
 rw [if_neg h1]
 by_cases h2:4<r.length
 ·rw [if_pos h2]; constructor
  ·intro h; simp at h
  ·rintro⟨_,h,_⟩; omega
 rw [if_neg h2,J6]
 constructor
 ·rintro⟨a,b,_⟩; exact⟨h1,by omega,a,b⟩
 ·rintro⟨_,_,a,b⟩; exact⟨a,b,by simp⟩
theorem QP:∀ {l:List (List Att)},pd l=0↔∀r∈l,okR r
 | []=>by simp [pd]
 | r::l=>by
  rw [pd]
  by_cases h:Z0 r=0
  ·rw [if_neg (by simpa using h),QP]
   rw [Bq]at h
   simp [h]
  ·rw [if_pos h]
   constructor
   ·intro e; exact absurd e h
   ·intro e; exact absurd (Bq.2 (e r (by simp))) h
theorem gg {l:List (List Att)}:kM l=0↔okN l:=by
 unfold kM okN
 by_cases h:8<l.length
 ·rw [if_pos h]; constructor
  ·intro h; simp at h
  ·rintro⟨h,_⟩; omega
 ·rw [if_neg h,QP]
  exact⟨fun e=>⟨by omega,e⟩,fun e=>e.2⟩
def Xc (a:Att):List (Nat×Bs):= [polE a.xQ,(a.zV.toNat,a.wQ)]
def Wc (a:Att):Nat×Bs:=(48,wraps (Xc a))
def pB (a:Att):Bs:=(tWrap 48 (wraps (Xc a))).1
def jH (r:List Att):List Att:=r.mergeSort fun a b=>leB (pB a) (pB b)
def kZ (r:List Att):Nat×Bs:=(49,wraps ((jH r).map Wc))
def wc (l:List (List Att)):Nat×Bs:=(48,wraps (l.map kZ))
theorem dZ (r:List Att):List.Perm (jH r) r:=List.mergeSort_perm r _
theorem Uu (r:List Att):wraps (r.map Wc)=(r.map pB).flatten:=by
 unfold wraps; rw [List.map_map]; rfl
theorem KB (r:List Att):(jH r).map pB=Yw (r.map pB):=List.map_mergeSort (fun _ _ _ _=>rfl)
theorem Qz (r:List Att):(Yw (r.map pB)).flatten=wraps ((jH r).map Wc):=by
 rw [Uu,KB]
theorem VG {k:Int} {s:Bs} (h:Z3 k s=true):k=12∨k=19∨k=22:=by
 unfold Z3 at h
 by_cases h1:k=12
 ·exact .inl h1
 by_cases h2:k=19
 ·exact .inr (.inl h2)
 by_cases h3:k=22
 ·exact .inr (.inr h3)
 rw [if_neg h1,if_neg h2,if_neg h3]at h; simp at h
theorem Xs {a:Att} (h:okA a):(∀p∈Xc a,POk p)∧(wraps (Xc a)).length≤129∧∃l,xS a.xQ=some l∧(qf l).length≤55:=by
 obtain⟨h1,h2,h3,h4⟩:=h
 obtain⟨l,hl⟩:=Option.isSome_iff_exists.1 h1
 have e1:=bV (qU hl)
 have hp:polE a.xQ=(6,qf l):=by unfold polE; rw [hl]; rfl
 have w1:=yd 6 (qf l)
 have w2:=yd a.zV.toNat a.wQ
 refine⟨?_, ?_,l,hl,e1⟩
 ·intro p hpm
  simp only [Xc,List.mem_cons,List.not_mem_nil,or_false]at hpm
  rcases hpm with rfl|rfl
  ·rw [hp]; exact⟨by simp,by simp,by simp only; omega⟩
  ·rcases VG h3 with e|e|e<;>rw [e]<;>exact⟨by dsimp only; decide,by dsimp only; decide,by dsimp only; omega⟩
 ·simp only [Xc,wraps,List.map_cons,List.map_nil,List.flatten_cons,List.flatten_nil,List.append_nil,List.length_append,hp]
  omega
theorem Kb {a:Att} (h:okA a):(pB a).length≤134:=by
 have:=(Xs h).2.1
 have:=yd 48 (wraps (Xc a))
 unfold pB; omega
theorem XR {α:Type} (f:α→Bs) (M:Nat):∀(l:List α),(∀x∈l,(f x).length≤M)→((l.map f).flatten).length≤M*l.length
 | [],_=>by simp
 | a::l,h=>by
  have:=XR f M l (fun x hx=>h x (by simp [hx]))
  have:=h a (by simp)
  simp only [List.map_cons,List.flatten_cons,List.length_append,List.length_cons,Nat.mul_add,Nat.mul_one]; omega
theorem Xz {r:List Att} (h:okR r):okR (jH r):=by
 obtain⟨h1,h2,h3,h4⟩:=h
 have hp:=dZ r
 refine⟨fun e=>h1 ?_,by rw [hp.length_eq]; exact h2,fun a ha=>h3 a (hp.mem_iff.1 ha),(hp.pairwise_iff (fun h=>Ne.symm h)).2 h4⟩
 rw [e]at hp; exact List.nil_perm.1 hp
theorem XX {r:List Att} (h:okR r):(kZ r).2.length≤536:=by
 have h':=Xz h
 unfold kZ
 simp only
 rw [Uu]
 have:=XR pB 134 (jH r) (fun a ha=>Kb (h'.2.2.1 a ha))
 have:=h'.2.1
 omega
theorem bI {l:List (List Att)} (h:okN l):(wc l).2.length≤4328:=by
 have:=XR (fun r=>(tWrap (kZ r).1 (kZ r).2).1) 541 l (fun r hr=>by have:=XX (h.2 r hr); have:=yd (kZ r).1 (kZ r).2; omega)
 unfold wc wraps
 simp only
 rw [List.map_map]
 have:=h.1
 have e:(List.map ((fun p=>(tWrap p.1 p.2).1)∘kZ) l)=l.map (fun r=>(tWrap (kZ r).1 (kZ r).2).1):=rfl
 rw [e]; omega
theorem qw {t:Nat} {c:Bs} (h:c.length≤131072):tWrap t c=((tWrap t c).1,0):=by unfold tWrap; rw [if_pos h]
theorem Ps {n B:Nat} {a:Att} (h:okA a) (hb:BdA B a) (hB:B≤1000000) (hn:B+100≤n):wI n a=some (pB a,0):=by
 obtain⟨hp,hw,l,hl,he⟩:=Xs h
 unfold wI
 have hb1:=hb.1
 have hb2:=hb.2
 rw [YU (by omega) (by omega) hl]
 simp only [Option.bind_some]
 rw [if_neg (by decide),show(6:Int)=((6:Nat):Int)from rfl,Xo (by omega) (by omega) (by omega) (by omega),qw (t:=6) (by omega)]
 simp only [Option.bind_some]
 rw [if_neg (by decide)]
 have hk:a.zV=((a.zV.toNat:Nat):Int):=by rcases VG h.2.2.1 with e|e|e<;>rw [e]<;>rfl
 rw [hk,Xo (by rcases VG h.2.2.1 with e|e|e<;>rw [e]<;>decide) (by rcases VG h.2.2.1 with e|e|e<;>rw [e]<;>decide) (by omega) (by omega),qw (t:=a.zV.toNat) (by have:=h.2.2.2; omega)]
 simp only [Option.bind_some]
 rw [if_neg (by decide),show(48:Int)=((48:Nat):Int)from rfl]
 have hpe:polE a.xQ=(6,qf l):=by unfold polE; rw [hl]; rfl
 have hf:([(tWrap 6 (qf l)).1,(tWrap a.zV.toNat a.wQ).1]:List Bs).flatten=wraps (Xc a):=by
  simp only [Xc,wraps,List.map_cons,List.map_nil,hpe]
 have t1:=yd 6 (qf l)
 have t2:=yd a.zV.toNat a.wQ
 rw [Xr (by omega) (by omega) (by intro c hc; simp only [List.mem_cons,List.not_mem_nil,or_false]at hc; rcases hc with rfl|rfl<;>omega) (by simp only [List.length_cons,List.length_nil]; omega) (by simp),hf,qw (t:=48) (by omega)]
 rfl
theorem BS {n B:Nat} (r:List Att) (h:∀a∈r,okA a) (hb:BdR B r) (hB:B≤1000000) (hn:B+100≤n):∀(k i:Nat) (acc:List Bs),i≤r.length→r.length-i<k→acc.length=i→wU n r k acc (i:Int)=some (.nxt (acc++(r.drop i).map pB))
 |0,i,_,_,h,_=>by omega
 | k+1,i,acc,hi,hk,ha=>by
  have hl:=hb.1
  rw [wU]
  by_cases hc:i<r.length
  ·rw [if_pos (by rw [decide_eq_true_eq]; omega),yf hc]
   simp only [Option.bind_some]
   rw [Ps (h r[i] (by simp)) (hb.2 r[i] (by simp)) hB hn]
   simp only [Option.bind_some]
   rw [if_neg (by decide),yZ (by simp only [List.length_singleton]; omega)]
   simp only [Option.bind_some]
   rw [w1 (by omega),BS r h hb hB hn k (i+1) _ (by omega) (by omega) (by simp [ha]),List.drop_eq_getElem_cons hc,List.map_cons,List.append_assoc,List.singleton_append]
  ·rw [if_neg (by rw [decide_eq_true_eq]; omega)]
   have:i=r.length:=by omega
   subst this
   simp
theorem PH {n:Nat} {l:List Bs} (h1:l.length≤1000000) (h2:l.flatten.length≤1000000000):bt n l=some (Yw l).flatten:=by
 unfold bt
 have o0:Qd 16 l=some l:=by unfold Qd; rw [if_pos (by omega)]
 rw [o0]
 simp only [Option.bind_some]
 have hs:Xx n l.length l=some (Yw l):=by
  unfold Xx; rw [if_pos ⟨rfl,by omega⟩,←Z6]; rfl
 rw [hs]
 simp only [Option.bind_some]
 have hj:ZQ n l.length [] (Yw l)=some ((Yw l).flatten,Yw l):=by
  unfold ZQ
  rw [Xd,if_pos ⟨UX l,by rw [K5]; omega,by rw [UX]; omega⟩]
 rw [hj]; rfl
theorem GB {r:List Att} (h:okR r):(r.map pB).flatten.length≤536:=by
 have:=XR pB 134 r (fun a ha=>Kb (h.2.2.1 a ha))
 have:=h.2.1
 omega
theorem Bw {n B:Nat} (l:List (List Att)) (h:okN l) (hb:BdN B l) (hB:B≤1000000) (hn:B+100≤n):∀(k i:Nat) (acc:List Bs),i≤l.length→l.length-i<k→acc.length=i→wS n ⟨l⟩ k acc (i:Int)=some (.nxt (acc++(l.drop i).map fun r=>(tWrap (kZ r).1 (kZ r).2).1))
 |0,i,_,_,h,_=>by omega
 | k+1,i,acc,hi,hk,ha=>by
  have hl:=hb.1
  rw [wS]
  by_cases hc:i<l.length
  ·have hr:=h.2 l[i] (by simp)
   have hbr:=hb.2 l[i] (by simp)
   rw [if_pos (by rw [decide_eq_true_eq]; show(i:Int)<(l.length:Int); omega)]
   simp only [yf hc,Option.bind_some]
   have e2:=BS (n:=n) l[i] hr.2.2.1 hbr hB hn n 0 [] (by omega) (by have:=hbr.1; omega) rfl
   rw [show((0:Nat):Int)=0 from rfl,List.drop_zero,List.nil_append]at e2
   rw [e2]
   simp only [xJ]
   rw [PH (by rw [List.length_map]; have:=hr.2.1; omega) (by have:=GB hr; omega),Qz]
   simp only [Option.bind_some]
   have hlen:=XX hr
   rw [show(49:Int)=((49:Nat):Int)from rfl,Xo (by omega) (by omega) (by simp only [kZ]at hlen; omega) (by omega),qw (t:=49) (by simp only [kZ]at hlen; omega)]
   simp only [Option.bind_some]
   rw [if_neg (by decide),yZ (by simp only [List.length_singleton]; omega)]
   simp only [Option.bind_some]
   rw [w1 (by omega),Bw l h hb hB hn k (i+1) _ (by omega) (by omega) (by simp [ha]),List.drop_eq_getElem_cons hc,List.map_cons,List.append_assoc,List.singleton_append]
   rfl
  ·rw [if_neg (by rw [decide_eq_true_eq]; show ¬(i:Int)<(l.length:Int); omega)]
   have:i=l.length:=by omega
   subst this
   simp
def Jg (l:List (List Att)):Bs×Int:=if kM l≠0 then([],kM l)else((tWrap 48 (wc l).2).1,0)
theorem Jb {n B:Nat} {l:List (List Att)} (hb:BdN B l) (hB:B≤1000000) (hn:B+100≤n):u5 n ⟨l⟩=some (Jg l):=by
 unfold u5 Jg
 have hl:=hb.1
 rw [W3 hb hB hn]
 simp only [Option.bind_some]
 by_cases h:kM l≠0
 ·rw [if_pos h,if_pos (by simpa using h)]
 rw [if_neg h,if_neg (by simpa using h)]
 have ho:okN l:=gg.1 (by simpa using h)
 have e1:=Bw (n:=n) l ho hb hB hn n 0 [] (by omega) (by omega) rfl
 rw [show((0:Nat):Int)=0 from rfl,List.drop_zero,List.nil_append]at e1
 rw [e1]
 simp only [xJ]
 have hlen:=bI ho
 have hf:(l.map fun r=>(tWrap (kZ r).1 (kZ r).2).1).flatten=(wc l).2:=by
  unfold wc wraps; simp only; rw [List.map_map]; rfl
 rw [show(48:Int)=((48:Nat):Int)from rfl,Xr (by omega) (by omega) ?_ (by rw [List.length_map]; have:=ho.1; omega) (by rw [List.length_map]; omega),hf,qw (t:=48) (by omega)]
 ·rfl
 ·intro c hc
  obtain⟨r,hr,rfl⟩:=List.mem_map.1 hc
  have:=XX (ho.2 r hr)
  have:=yd (kZ r).1 (kZ r).2
  omega
def okK (k:zv):Bool:= !(decide (k.zA<0)||(decide (k.zA>8)||((k.xL.length:Int) !=16||(k.zY.length:Int) !=16)))
theorem Vw {k:zv}:okK k=true↔0≤k.zA∧k.zA≤8∧k.xL.length=16∧k.zY.length=16:=by
 unfold okK
 simp only [Bool.not_eq_true',Bool.or_eq_false_iff,decide_eq_false_iff_not,bne_eq_false_iff_eq]
 omega
theorem Do {n:Nat} {k:zv}:uo n k=some (if okK k=true then 0 else 18):=by
 unfold uo okK
 simp only [dro,Option.bind_some]
 cases(decide (k.zA<0)||(decide (k.zA>8)||((k.xL.length:Int) !=16||(k.zY.length:Int) !=16)))<;>rfl
def XG:Bs:= [43,6,1,4,1,131,204,8,1,1]
def Z8:Nat×Bs:=(48,wraps [(6,XG)])
def Ys (k:zv):List (Nat×Bs):= [Z8,(3,0::o8 k.zA.toNat::(k.xL++k.zY))]
def gx (k:zv):Nat×Bs:=(48,wraps (Ys k))
theorem ng {n:Nat} (hn:100≤n):jf n=some (tWrap Z8.1 Z8.2).1:=by
 obtain⟨m,rfl⟩:∃m,n=m+100:=⟨n-100,by omega⟩
 kernel_rfl
end Go.Abs
end
