/- The typed Lean form of WireReturns gives true for every list of at most 9223372036854775807 numbers. -/
import Derived.Test.YtbggpcnbbhjiaaaGreatDoorLaw6
set_option linter.unusedVariables false
set_option linter.unusedSimpArgs false
set_option linter.unnecessarySimpa false
section
set_option maxRecDepth 100000
namespace Go.Abs
open Go Go.Proofs
def sm (x:Int):Bool:=decide (0≤x)&&decide (x<64)
def numE (t:Nat) (x:Int):Nat×Bs:=(t,[o8 x.toNat])
def XN (f:zp):Bool:=sm f.xF&&f.zW.all sm&&(decide (0≤f.zr.xa)&&decide (f.zr.xa≤15))&&(decide (0≤f.zr.zZ)&&decide (f.zr.zZ≤8))
def kx (f:zp):List (Nat×Bs):= [numE 2 f.xF,(48,wraps (f.zW.map (numE 2))),numE 10 f.zr.xa,numE 2 f.zr.zZ,(48,wraps (f.zr.zl.map polE))]
def p6 (f:zp):Bs×Int:=
 if XN f=false then([],1)else if 8<f.zW.length then([],2)else if f.zr.zl.all (fun s=>(xS s).isSome)=false then([],11)else
 if 131072<(wraps (f.zr.zl.map polE)).length then([],2)else if 131072<(wraps (kx f)).length then([],2)else((tWrap 48 (wraps (kx f))).1,0)
theorem Dz {x:Int} (h:sm x=true):∃v:Nat,x=(v:Int)∧v<64:=by
 simp only [sm,Bool.and_eq_true,decide_eq_true_eq]at h
 exact⟨x.toNat,by omega,by omega⟩
theorem fK {n t:Nat} {b:Bs} {x:Int} (hx:sm x=true) (h1:t≤255) (h2:t%32≠31) (hb:b.length≤10000000000) (hn:20≤n):wx n (t:Int) x ⟨b,0⟩=some ⟨b++(tWrap t [o8 x.toNat]).1,0⟩:=by
 obtain⟨v,rfl,hv⟩:=Dz hx
 unfold wx
 rw [K8 hn hv,Option.bind_some,U6 h1 h2 (by simp; omega) hn,Int.toNat_natCast,gd (c:= [o8 v]) (by simp)]; rfl
theorem Wb {n t:Nat} {b:Bs} {x:Int} (hx:sm x=true) (h1:t≤255) (h2:t%32≠31) (hb:b.length≤10000000000) (hn:20≤n):xI n x ⟨b,0⟩=some ⟨b++(tWrap 2 [o8 x.toNat]).1,0⟩:=by
 unfold xI
 have:=fK (n:=n) (t:=2) hx (by omega) (by omega) hb hn
 rw [show((2:Nat):Int)=2 from rfl]at this
 rw [this]; rfl
theorem Qi {n:Nat} (hn:20≤n) (a:List Int) (ha:a.length≤100000000) (hs:a.all sm=true):∀(k i:Nat) (b:Bs),i≤a.length→a.length-i<k→b.length+6*(a.length-i)≤1000000000 →
  wj n a k (i:Int) b 0=some (b++wraps ((a.drop i).map (numE 2)),0)
 |0,_,_,_,h,_=>by omega
 | k+1,i,b,hi,hk,hb=>by
  rw [wj]
  by_cases hc:i<a.length
  ·have hx:=List.all_eq_true.1 hs a[i] (List.getElem_mem hc)
   have hl:=yd 2 [o8 a[i].toNat]
   simp only [List.length_singleton]at hl
   rw [if_pos (by rw [decide_eq_true_eq]; omega),yf hc,Option.bind_some,Wb (t:=2) hx (by omega) (by omega) (by omega) hn,Option.bind_some,w1 (by omega)]
   show wj n a k _ _ 0=_
   rw [Qi hn a ha hs k (i+1) _ (by omega) (by omega) (by rw [List.length_append]; omega),List.drop_eq_getElem_cons hc,List.map_cons,jQ,List.append_assoc]; rfl
  ·rw [if_neg (by rw [decide_eq_true_eq]; omega),List.drop_eq_nil_of_le (by omega)]; simp [wraps]
theorem Yc (a:List Int):(wraps (a.map (numE 2))).length≤6*a.length:=by
 have:=pX (m:=1) (a.map (numE 2)) (by intro p hp; obtain⟨x,_,rfl⟩:=List.mem_map.1 hp; exact Nat.le_refl _)
 rw [List.length_map]at this; omega
theorem fO {n:Nat} {a:List Int} {b:Bs} (hn:a.length+20≤n) (ha:a.length≤100000000) (hs:a.all sm=true) (hb:b.length≤1000000000):jB n 48 a ⟨b,0⟩=some ⟨b++(tWrap 48 (wraps (a.map (numE 2)))).1,(tWrap 48 (wraps (a.map (numE 2)))).2⟩:=by
 unfold jB
 have h1:=Qi (n:=n) (by omega) a ha hs n 0 [] (by omega) (by omega) (by simp; omega)
 rw [show((0:Nat):Int)=0 from rfl,List.drop_zero,List.nil_append]at h1
 rw [show kf n ⟨[],0⟩=some ⟨[],0⟩from rfl,Option.bind_some]
 simp only []
 rw [h1,Option.bind_some]
 have hl:=Yc a
 have h2:=U6 (n:=n) (t:=48) (b:=b ++ []) (c:=wraps (a.map (numE 2))) (by omega) (by omega) (by simp; omega) (by omega)
 rw [show((48:Nat):Int)=48 from rfl,List.append_nil]at h2
 simp only []
 rw [WL (by simp; omega),List.append_nil,Option.bind_some,h2]; rfl
theorem nn {n:Nat} {b s:Bs} (hs:s.length≤100000000) (hn:s.length+40≤n) (h:(xS s).isSome=true) (hb:b.length≤10000000000):uX n s ⟨b,0⟩=some ⟨b++(tWrap (polE s).1 (polE s).2).1,0⟩:=by
 obtain⟨l,hl⟩:=Option.isSome_iff_exists.1 h
 unfold uX
 have hlen:=bV (qU hl)
 have h2:=U6 (n:=n) (t:=6) (b:=b) (c:=qf l) (by omega) (by omega) (by omega) (by omega)
 rw [show((6:Nat):Int)=6 from rfl]at h2
 rw [YU hs hn hl,Option.bind_some]
 simp only []
 rw [WL (by simp; omega),List.append_nil,Option.bind_some,h2,gd (c:=qf l) (by omega)]
 simp [polE,hl]
theorem Ud {n B:Nat} (hB:B≤100000000) (hn:B+40≤n) (a:List Bs) (ha:a.length≤10000000) (hs:a.all (fun s=>(xS s).isSome)=true) (hl:∀s∈a,s.length≤B):∀(k i:Nat) (b:Bs),i≤a.length→a.length-i<k→b.length+60*(a.length-i)≤1000000000 →
  xu n a k (i:Int) b 0=some (b++wraps ((a.drop i).map polE),0)
 |0,_,_,_,h,_=>by omega
 | k+1,i,b,hi,hk,hb=>by
  rw [xu]
  by_cases hc:i<a.length
  ·have hx:=List.all_eq_true.1 hs a[i] (List.getElem_mem hc)
   have hxl:=hl a[i] (List.getElem_mem hc)
   have hl0:=yd 6 (polE a[i]).2
   obtain⟨l,he⟩:=Option.isSome_iff_exists.1 hx
   have hl1:(polE a[i]).2.length≤55:=by unfold polE; rw [he]; exact bV (qU he)
   rw [if_pos (by rw [decide_eq_true_eq]; omega),yf hc,Option.bind_some,nn (by omega) (by omega) hx (by omega),Option.bind_some,w1 (by omega)]
   show xu n a k _ _ 0=_
   rw [Ud hB hn a ha hs hl k (i+1) _ (by omega) (by omega) (by rw [List.length_append]; show b.length+(tWrap 6 (polE a[i]).2).1.length+_≤_; omega),List.drop_eq_getElem_cons hc,List.map_cons,jQ,List.append_assoc]
  ·rw [if_neg (by rw [decide_eq_true_eq]; omega),List.drop_eq_nil_of_le (by omega)]; simp [wraps]
theorem pF {a:List Bs} (hs:a.all (fun s=>(xS s).isSome)=true):(wraps (a.map polE)).length≤60*a.length:=by
 have:=pX (m:=55) (a.map polE) (by
  intro p hp; obtain⟨x,hx,rfl⟩:=List.mem_map.1 hp
  obtain⟨l,he⟩:=Option.isSome_iff_exists.1 (List.all_eq_true.1 hs x hx)
  unfold polE; rw [he]; exact bV (qU he))
 rw [List.length_map]at this; omega
theorem mK {n B:Nat} {a:List Bs} {b:Bs} (hB:B≤100000000) (hn:a.length+B+40≤n) (ha:a.length≤10000000) (hs:a.all (fun s=>(xS s).isSome)=true) (hl:∀s∈a,s.length≤B) (hb:b.length≤1000000000):xK n 48 a ⟨b,0⟩=some ⟨b++(tWrap 48 (wraps (a.map polE))).1,(tWrap 48 (wraps (a.map polE))).2⟩:=by
 unfold xK
 have h1:=Ud (n:=n) hB (by omega) a ha hs hl n 0 [] (by omega) (by omega) (by simp; omega)
 rw [show((0:Nat):Int)=0 from rfl,List.drop_zero,List.nil_append]at h1
 rw [show kQ n ⟨[],0⟩=some ⟨[],0⟩from rfl,Option.bind_some]
 simp only []
 rw [h1,Option.bind_some]
 have hl:=pF hs
 have h2:=U6 (n:=n) (t:=48) (b:=b ++ []) (c:=wraps (a.map polE)) (by omega) (by omega) (by simp; omega) (by omega)
 rw [show((48:Nat):Int)=48 from rfl,List.append_nil]at h2
 simp only []
 rw [WL (by simp; omega),List.append_nil,Option.bind_some,h2]; rfl
structure Fit (n B:Nat) (f:zp):Prop where
 b:B≤100000000
 path:f.zW.length≤10000000
 pols:f.zr.zl.length≤10000000
 pol:∀s∈f.zr.zl,s.length≤B
 n:f.zW.length+f.zr.zl.length+B+400≤n
theorem sm1 {n:Nat} (x:Int):wG n x=some (sm x):=by
 unfold wG sm
 by_cases h:0≤x
 ·rw [if_pos (by simpa using h),decide_eq_true h]; simp
 ·rw [if_neg (by simpa using h),decide_eq_false h]; simp
theorem BF {n:Nat} (f:zp) (hl:f.zW.length≤10000000):∀(k i:Nat) (ok:Bool),i≤f.zW.length→f.zW.length-i<k→xX n f k ok (i:Int)=some (ok&&(f.zW.drop i).all sm)
 |0,_,_,_,h=>by omega
 | k+1,i,ok,hi,hk=>by
  rw [xX]
  by_cases hc:i<f.zW.length
  ·rw [if_pos (by rw [decide_eq_true_eq]; omega),yf hc,Option.bind_some,sm1]
   have:(if ok=true then(some (sm f.zW[i])).bind fun r54=>some r54 else some false)=some (ok&&sm f.zW[i]):=by cases ok<;>rfl
   rw [this,Option.bind_some,w1 (by omega),BF f hl k (i+1) _ (by omega) (by omega),List.drop_eq_getElem_cons hc,List.all_cons,Bool.and_assoc]
  ·rw [if_neg (by rw [decide_eq_true_eq]; omega),List.drop_eq_nil_of_le (by omega)]; simp
theorem BD {n B:Nat} (f:zp) (hf:Fit n B f):∀(k i:Nat),i≤f.zr.zl.length→f.zr.zl.length-i<k→xV n f k (i:Int)=some (if(f.zr.zl.drop i).all (fun s=>(xS s).isSome)=true then .nxt ()else .ret ([],11))
 |0,_,_,h=>by omega
 | k+1,i,hi,hk=>by
  have hb:=hf.b
  have hp:=hf.pols
  have hn:=hf.n
  rw [xV]
  by_cases hc:i<f.zr.zl.length
  ·have hl:=hf.pol _ (List.getElem_mem hc)
   rw [if_pos (by rw [decide_eq_true_eq]; omega),yf hc,Option.bind_some,gM (by omega) (by omega),Option.bind_some,List.drop_eq_getElem_cons hc,List.all_cons]
   cases h:(xS f.zr.zl[i]).isSome with
   |false=>rw [if_pos (by rfl),if_neg (by simp)]
   |true=>rw [if_neg (by simp),w1 (by omega),BD f hf k (i+1) (by omega) (by omega),Bool.true_and]
  ·rw [if_neg (by rw [decide_eq_true_eq]; omega),List.drop_eq_nil_of_le (by omega)]; simp
theorem PU {x:Int} (h:0≤x∧x≤15):sm x=true:=by simp only [sm,Bool.and_eq_true,decide_eq_true_eq]; omega
theorem Q9 (f:zp):wraps (kx f)=(tWrap 2 [o8 f.xF.toNat]).1++(tWrap 48 (wraps (f.zW.map (numE 2)))).1++(tWrap 10 [o8 f.zr.xa.toNat]).1++(tWrap 2 [o8 f.zr.zZ.toNat]).1++(tWrap 48 (wraps (f.zr.zl.map polE))).1:=by
 unfold kx
 simp only [jQ,numE,List.append_assoc]
 simp [wraps]
theorem eG {n B:Nat} {f:zp} (hf:Fit n B f):yw n f=some (p6 f):=by
 have hb:=hf.b
 have hp:=hf.pols
 have hpa:=hf.path
 have hn:=hf.n
 unfold yw
 rw [sm1,Option.bind_some]
 have h1:=BF (n:=n) f hpa n 0 (sm f.xF) (by omega) (by omega)
 rw [show((0:Nat):Int)=0 from rfl,List.drop_zero]at h1
 rw [h1,Option.bind_some]
 have hg:(if(!(sm f.xF&&f.zW.all sm))=true then some true else if(decide (f.zr.xa<0))=true then some true else if(decide (f.zr.xa>15))=true then some true else if(decide (f.zr.zZ<0))=true then some true else some (decide (f.zr.zZ>8)))=some (!XN f):=by
  unfold XN
  cases sm f.xF&&f.zW.all sm with
  |false=>rfl
  | true=>
   rw [if_neg (by simp),Bool.true_and]
   by_cases c1:f.zr.xa<0
   ·rw [if_pos (by simpa using c1),decide_eq_false (show ¬0≤f.zr.xa by omega)]; rfl
   ·rw [if_neg (by simpa using c1),decide_eq_true (show 0≤f.zr.xa by omega)]
    by_cases c2:f.zr.xa≤15
    ·rw [if_neg (by rw [decide_eq_true_eq]; omega),decide_eq_true c2]
     by_cases c3:f.zr.zZ<0
     ·rw [if_pos (by simpa using c3),decide_eq_false (show ¬0≤f.zr.zZ by omega)]; rfl
     ·rw [if_neg (by simpa using c3),decide_eq_true (show 0≤f.zr.zZ by omega)]
      by_cases c4:f.zr.zZ≤8
      ·rw [decide_eq_true c4,decide_eq_false (by omega)]; rfl
      ·rw [decide_eq_false c4,decide_eq_true (by omega)]; rfl
    ·rw [if_pos (by rw [decide_eq_true_eq]; omega),decide_eq_false c2]; rfl
 rw [hg,Option.bind_some]
 unfold p6
 cases hgd:XN f with
 |false=>rfl
 | true=>
  rw [if_neg (show ¬((!true)=true)by simp),if_neg (show ¬(true=false)by simp)]
  by_cases h8:8<f.zW.length
  ·rw [if_pos (by rw [decide_eq_true_eq]; omega),if_pos h8]
  ·rw [if_neg (by rw [decide_eq_true_eq]; omega),if_neg h8]
   have h2:=BD f hf n 0 (by omega) (by omega)
   rw [show((0:Nat):Int)=0 from rfl,List.drop_zero]at h2
   rw [h2]
   cases hall:f.zr.zl.all (fun s=>(xS s).isSome)with
   |false=>rfl
   | true=>
    rw [if_pos rfl,if_neg (show ¬(true=false)by simp)]
    simp only [xJ]
    unfold XN at hgd
    simp only [Bool.and_eq_true,decide_eq_true_eq]at hgd
    obtain⟨⟨⟨ga,gp⟩,gc⟩,gq⟩:=hgd
    rw [Wb (t:=2) ga (by omega) (by omega) (by simp) (by omega),Option.bind_some,List.nil_append]
    have l1:=yd 2 [o8 f.xF.toNat]
    have l2:=yd 10 [o8 f.zr.xa.toNat]
    have l3:=yd 2 [o8 f.zr.zZ.toNat]
    simp only [List.length_singleton]at l1 l2 l3
    have l4:=Yc f.zW
    have l5:=pF hall
    have l6:=yd 48 (wraps (f.zW.map (numE 2)))
    have l7:=yd 48 (wraps (f.zr.zl.map polE))
    rw [fO (by omega) (by omega) gp (by omega),gd (c:=wraps (f.zW.map (numE 2))) (by omega),Option.bind_some]
    have i1:=fK (n:=n) (t:=10) (b:=(tWrap 2 [o8 f.xF.toNat]).1++(tWrap 48 (wraps (f.zW.map (numE 2)))).1) (PU gc) (by omega) (by omega) (by rw [List.length_append]; omega) (by omega)
    rw [show((10:Nat):Int)=10 from rfl]at i1
    rw [i1,Option.bind_some,Wb (t:=2) (PU (by omega)) (by omega) (by omega) (by rw [List.length_append,List.length_append]; omega) (by omega),Option.bind_some,
     mK (B:=B) (by omega) (by omega) (by omega) hall hf.pol (by rw [List.length_append,List.length_append,List.length_append]; omega),Option.bind_some]
    by_cases hbig:131072<(wraps (f.zr.zl.map polE)).length
    ·rw [if_pos hbig,Pn hbig,List.append_nil,GY (by decide) (by rw [List.length_append,List.length_append,List.length_append]; omega) (by omega)]; rfl
    ·rw [if_neg hbig,gd (c:=wraps (f.zr.zl.map polE)) (by omega),←Q9,V0 (by rw [Q9,List.length_append,List.length_append,List.length_append,List.length_append]; omega) (by omega),Option.bind_some]
     by_cases hb2:131072<(wraps (kx f)).length
     ·rw [if_pos hb2,if_pos hb2]
     ·rw [if_neg hb2,if_neg hb2]
theorem dR {n M:Nat} {t:Int} {f:Bool} {l:List zd} (hn:20≤n) (h:Bd M l):∃x r f',yi n t ⟨l,f⟩=some (x,⟨r,f'⟩)∧Bd M r∧(0<l.length→r.length<l.length):=by
 obtain⟨e,r,f',h1,h2,h3,_,h4⟩:=WI (n:=n) (f:=f) h
 unfold yi
 rw [h1,Option.bind_some]
 obtain⟨x,hx⟩:=Kp (n:=n) e.zq hn
 simp only []
 rw [hx,Option.bind_some]
 unfold zM
 simp only [ifb,Option.bind_some]
 exact⟨_,_,_,rfl,h3,h4⟩
theorem Xl {n t:Nat} {x:Int} {l:List zd} (hn:20≤n) (hx:sm x=true):yi n (t:Int) ⟨elm (numE t x)::l,false⟩=some (x,⟨l,false⟩):=by
 obtain⟨v,rfl,hv⟩:=Dz hx
 unfold yi
 rw [ZO,Option.bind_some]
 have hc:(elm (numE t (v:Int))).zq= [o8 v]:=by simp [elm,numE]
 have ht:(elm (numE t (v:Int))).zT=(t:Int):=rfl
 simp only []
 rw [hc,KU hn hv,Option.bind_some]
 show(zM n 0 ⟨l,false⟩).bind _=_
 rw [show zM n 0 ⟨l,false⟩=some ⟨l,false⟩from rfl,Option.bind_some,ht]
 simp
theorem UO {n M:Nat} (hn:20≤n) (hM:M≤1000000):∀(k:Nat) (acc:List Int) (l:List zd) (f:Bool),Bd M l→l.length<k→acc.length+l.length≤M→∃a f',yC n k acc l f=some (a,[],f')∧a.length≤M
 |0,_,_,_,_,h,_=>by omega
 |k+1,acc,[],f,_,_,ha=>⟨acc,f,rfl,by simpa using ha⟩
 | k+1,acc,e::l,f,hb,hk,ha=>by
  obtain⟨x,r,f',h1,h2,h3⟩:=dR (n:=n) (t:=2) (f:=f) hn hb
  have h3:=h3 (by simp)
  simp only [List.length_cons]at h3 hk ha
  rw [yC,if_pos (by rw [decide_eq_true_eq,List.length_cons]; omega),h1,Option.bind_some,yZ (by rw [List.length_singleton]; omega),Option.bind_some]
  exact UO hn hM k _ r f' h2 (by omega) (by rw [List.length_append,List.length_singleton]; omega)
theorem cw {n:Nat} (hn:20≤n):∀(k:Nat) (p:List Int) (acc:List Int),p.all sm=true→p.length<k→acc.length+p.length≤1000000→yC n k acc ((p.map (numE 2)).map elm) false=some (acc++p,[],false)
 |0,_,_,_,h,_=>by omega
 |k+1,[],acc,_,_,_=>by rw [List.append_nil]; rfl
 | k+1,x::p,acc,hs,hk,ha=>by
  rw [List.all_cons,Bool.and_eq_true]at hs
  simp only [List.length_cons]at hk ha
  have h1:=Xl (n:=n) (t:=2) (x:=x) (l:=(p.map (numE 2)).map elm) hn hs.1
  rw [show((2:Nat):Int)=2 from rfl]at h1
  rw [List.map_cons,List.map_cons,yC,if_pos (by rw [decide_eq_true_eq,List.length_cons]; omega),h1,Option.bind_some,yZ (by rw [List.length_singleton]; omega),Option.bind_some]
  simp only []
  rw [cw hn k p _ hs.2 (by omega) (by rw [List.length_append,List.length_singleton]; omega),List.append_assoc]; rfl
theorem UP {n M:Nat} (hn:M+100≤n) (hM:M≤1000000) (l:List zd):∀(k:Nat) (ps:List Bs) (f:Bool) (el:List zd) (ef:Bool),Bd M el→el.length<k→ps.length+el.length≤M→(∀s∈ps,s.length≤252) →
  ∃ps' f' ef',yR n k ps l f el ef=some (ps',l,f',[],ef')∧ps'.length≤M∧∀s∈ps',s.length≤252
 |0,_,_,_,_,_,h,_,_=>by omega
 |k+1,ps,f,[],ef,_,_,h1,h2=>⟨ps,f,ef,rfl,by simpa using h1,h2⟩
 | k+1,ps,f,e::el,ef,hb,hk,h1,h2=>by
  simp only [List.length_cons]at hk h1
  have hc:=hb.tail.1
  obtain⟨s,x,hs,hsl⟩:=VZ (n:=n) (b:=e.zq) (by omega) (by omega)
  rw [yR,if_pos (by rw [decide_eq_true_eq,List.length_cons]; omega),ZO,Option.bind_some]
  simp only []
  rw [hs,Option.bind_some]
  unfold zM
  simp only [ifb,Option.bind_some]
  rw [yZ (by rw [List.length_singleton]; omega),Option.bind_some]
  exact UP hn hM l k _ _ el ef hb.tail.2 (by omega) (by rw [List.length_append,List.length_singleton]; omega) (by
   intro y hy; rcases List.mem_append.1 hy with hy|hy
   ·exact h2 y hy
   ·simp at hy; subst hy; exact hsl)
theorem V7 {n:Nat} (hn:1000≤n) (l:List zd):∀(k:Nat) (pols:List Bs) (ps:List Bs),pols.all (fun s=>(xS s).isSome)=true→pols.length<k→ps.length+pols.length≤1000000 →
  yR n k ps l false ((pols.map polE).map elm) false=some (ps++pols,l,false,[],false)
 |0,_,_,_,h,_=>by omega
 |k+1,[],ps,_,_,_=>by rw [List.append_nil]; rfl
 | k+1,s::pols,ps,hs,hk,h1=>by
  simp only [List.length_cons]at hk h1
  rw [List.all_cons,Bool.and_eq_true]at hs
  obtain⟨a,ha⟩:=Option.isSome_iff_exists.1 hs.1
  have hcont:(elm (polE s)).zq=qf a:=by simp [elm,polE,ha]
  rw [List.map_cons,List.map_cons,yR,if_pos (by rw [decide_eq_true_eq,List.length_cons]; omega),ZO,Option.bind_some]
  simp only []
  rw [hcont,gj ha (by omega),Option.bind_some]
  unfold zM
  simp only [ifb,Option.bind_some]
  rw [yZ (by rw [List.length_singleton]; omega),Option.bind_some]
  have ht:((false||((0:Int) !=0))||((elm (polE s)).zT !=6))=false:=rfl
  rw [ht,V7 hn l k pols _ hs.2 (by omega) (by rw [List.length_append,List.length_singleton]; omega),List.append_assoc]; rfl
theorem VW {n M:Nat} {c:Bs} {l:List zd} {f:Bool} (hn:M+100≤n) (hM:M≤1000000) (hc:c.length≤M):∃ps f',xN n c ⟨l,f⟩=some (ps,⟨l,f'⟩)∧ps.length≤M∧∀s∈ps,s.length≤252:=by
 unfold xN wy
 rw [qS (by omega) (by omega)]
 simp only [Option.bind_some]
 have hb:=kY c hc
 obtain⟨ps,f',ef',h1,h2,h3⟩:=UP (n:=n) hn hM l n [] f (tList c).1 ((tList c).2 !=0) hb (by have:=hb.1; omega) (by simpa using hb.1) (by simp)
 rw [h1]
 simp only [Option.bind_some,ifb]
 exact⟨ps,_,rfl,h2,h3⟩
theorem ZB {n:Nat} {l:List zd} {pols:List Bs} (hn:2000000≤n) (hs:pols.all (fun s=>(xS s).isSome)=true) (hl:(wraps (pols.map polE)).length≤131072):xN n (wraps (pols.map polE)) ⟨l,false⟩=some (pols,⟨l,false⟩):=by
 unfold xN wy
 have hp:∀p∈pols.map polE,POk p:=by
  intro p hp; obtain⟨s,h1,rfl⟩:=List.mem_map.1 hp; exact Jv (List.all_eq_true.1 hs s h1)
 have hb:=kY (wraps (pols.map polE)) (M:=131072) hl
 rw [vb hp]at hb
 have hlen:=hb.1
 rw [List.length_map,List.length_map]at hlen
 rw [qS (by omega) (by omega),vb hp]
 simp only [Option.bind_some]
 rw [show((0:Int) !=0)=false from rfl,V7 (by omega) l n pols [] hs (by omega) (by simp; omega)]
 rfl
def Rd (M B:Nat) (v:zp):Prop:=v.zW.length≤M∧v.zr.zl.length≤M∧∀s∈v.zr.zl,s.length≤B
theorem KF {n M:Nat} {l:List zd} {f:Bool} (hn:2000000≤n) (hM:M≤1000000) (hb:Bd M l):∃v r,wr n ⟨l,f⟩=some (v,r)∧Rd M 252 v:=by
 obtain⟨x1,l1,f1,h1,b1,_⟩:=dR (n:=n) (t:=2) (f:=f) (by omega) hb
 obtain⟨e2,l2,f2,h2,c2,b2,_,_⟩:=WI (n:=n) (f:=f1) b1
 have bs:=kY e2.zq c2
 obtain⟨a,fa,hp,ha⟩:=UO (n:=n) (M:=M) (by omega) hM n [] (tList e2.zq).1 (((tList e2.zq).2 !=0)||(e2.zT !=48)) bs (by have:=bs.1; omega) (by simpa using bs.1)
 obtain⟨x3,l3,f3,h3,b3,_⟩:=dR (n:=n) (t:=10) (f:=f2) (by omega) b2
 obtain⟨x4,l4,f4,h4,b4,_⟩:=dR (n:=n) (t:=2) (f:=f3) (by omega) b3
 obtain⟨e5,l5,f5,h5,c5,b5,_,_⟩:=WI (n:=n) (f:=f4) b4
 obtain⟨ps,f6,h6,k1,k2⟩:=VW (n:=n) (M:=M) (c:=e5.zq) (l:=l5) (f:=f5) (by omega) hM c5
 unfold wr
 rw [h1,Option.bind_some,h2,Option.bind_some,Dc (e:=e2) (by omega) (by omega),Option.bind_some]
 simp only []
 rw [hp,Option.bind_some,h3,Option.bind_some,h4,Option.bind_some,h5,Option.bind_some]
 simp only []
 rw [h6,Option.bind_some]
 simp only [ifb,Option.bind_some]
 exact⟨_,_,rfl,ha,k1,k2⟩
theorem Xf {v:zp} {b:Bs} (h:p6 v=(b,0)):XN v=true∧v.zW.length≤8∧v.zr.zl.all (fun s=>(xS s).isSome)=true∧(wraps (v.zr.zl.map polE)).length≤131072∧(wraps (kx v)).length≤131072∧b=(tWrap 48 (wraps (kx v))).1:=by
 unfold p6 at h
 by_cases h1:XN v=false
 ·rw [if_pos h1]at h; injection h with h h'; cases h'
 ·rw [if_neg h1]at h
  by_cases h2:8<v.zW.length
  ·rw [if_pos h2]at h; injection h with h h'; cases h'
  ·rw [if_neg h2]at h
   by_cases h3:v.zr.zl.all (fun s=>(xS s).isSome)=false
   ·rw [if_pos h3]at h; injection h with h h'; cases h'
   ·rw [if_neg h3]at h
    by_cases h4:131072<(wraps (v.zr.zl.map polE)).length
    ·rw [if_pos h4]at h; injection h with h h'; cases h'
    ·rw [if_neg h4]at h
     by_cases h5:131072<(wraps (kx v)).length
     ·rw [if_pos h5]at h; injection h with h h'; cases h'
     ·rw [if_neg h5]at h
      injection h with h h'
      exact⟨by simpa using h1,by omega,by rw [Bool.not_eq_false]at h3; exact h3,by omega,by omega,h.symm⟩
theorem QG {v:zp} (h1:v.zW.length≤8) (h4:(wraps (v.zr.zl.map polE)).length≤131072):∀p∈kx v,POk p:=by
 have l4:=Yc v.zW
 intro p hp
 simp only [kx,List.mem_cons,List.not_mem_nil,or_false]at hp
 rcases hp with rfl|rfl|rfl|rfl|rfl
 ·exact⟨by show(2:Nat)≤255; omega,by show(2:Nat)%32≠31; omega,by show 1≤131072; omega⟩
 ·exact⟨by show(48:Nat)≤255; omega,by show(48:Nat)%32≠31; omega,by show(wraps (v.zW.map (numE 2))).length≤131072; omega⟩
 ·exact⟨by show(10:Nat)≤255; omega,by show(10:Nat)%32≠31; omega,by show 1≤131072; omega⟩
 ·exact⟨by show(2:Nat)≤255; omega,by show(2:Nat)%32≠31; omega,by show 1≤131072; omega⟩
 ·exact⟨by show(48:Nat)≤255; omega,by show(48:Nat)%32≠31; omega,h4⟩
theorem eH (t:Nat) (ht:t≤255∧t%32≠31) (x:Int):POk (numE t x):=⟨ht.1,ht.2,by show 1≤131072; omega⟩
theorem BK (p:List Int):∀q∈p.map (numE 2),POk q:=by
 intro q hq; obtain⟨x,_,rfl⟩:=List.mem_map.1 hq; exact eH 2 (by omega) x
theorem GV {v:zp} (h:XN v=true):sm v.xF=true∧v.zW.all sm=true∧sm v.zr.xa=true∧sm v.zr.zZ=true:=by
 unfold XN at h
 simp only [Bool.and_eq_true,decide_eq_true_eq]at h
 exact⟨h.1.1.1,h.1.1.2,PU h.1.2,PU (by omega)⟩
theorem Q4 {n:Nat} {v:zp} {b:Bs} (hn:2000000≤n) (h:p6 v=(b,0)):wr n ⟨(kx v).map elm,false⟩=some (v,⟨[],false⟩):=by
 obtain⟨g1,g2,g3,g4,g5,g6⟩:=Xf h
 obtain⟨s1,s2,s3,s4⟩:=GV g1
 have i1:=Xl (n:=n) (t:=2) (x:=v.xF) (l:= [(48,wraps (v.zW.map (numE 2))),numE 10 v.zr.xa,numE 2 v.zr.zZ,(48,wraps (v.zr.zl.map polE))].map elm) (by omega) s1
 rw [show((2:Nat):Int)=2 from rfl]at i1
 have i3:=Xl (n:=n) (t:=10) (x:=v.zr.xa) (l:= [numE 2 v.zr.zZ,(48,wraps (v.zr.zl.map polE))].map elm) (by omega) s3
 rw [show((10:Nat):Int)=10 from rfl]at i3
 have i4:=Xl (n:=n) (t:=2) (x:=v.zr.zZ) (l:= [(48,wraps (v.zr.zl.map polE))].map elm) (by omega) s4
 rw [show((2:Nat):Int)=2 from rfl]at i4
 have l4:=Yc v.zW
 unfold wr
 show(yi n 2 ⟨elm (numE 2 v.xF)::_,false⟩).bind _=_
 rw [i1,Option.bind_some]
 simp only [List.map_cons,List.map_nil]at i3 i4 ⊢
 rw [ZO,Option.bind_some]
 simp only []
 rw [Dc (e:=elm (48,wraps (v.zW.map (numE 2)))) (by show(wraps (v.zW.map (numE 2))).length+5≤n; omega) (by show(wraps (v.zW.map (numE 2))).length≤_; omega),Option.bind_some]
 have ht:tList (elm (48,wraps (v.zW.map (numE 2)))).zq=((v.zW.map (numE 2)).map elm,0):=vb (BK v.zW)
 rw [ht]
 simp only []
 have hfl:(((0:Int) !=0)||((elm (48,wraps (v.zW.map (numE 2)))).zT !=48))=false:=rfl
 rw [hfl,cw (by omega) n v.zW [] s2 (by omega) (by simp; omega),Option.bind_some,i3,Option.bind_some,i4,Option.bind_some,ZO,Option.bind_some]
 simp only []
 have hc:(elm (48,wraps (v.zr.zl.map polE))).zq=wraps (v.zr.zl.map polE):=rfl
 rw [hc,ZB hn g3 g4,Option.bind_some]
 rfl
theorem Kc {v:zp} {b:Bs} (h:p6 v=(b,0)):jZ b=(⟨48,wraps (kx v),b⟩,0):=by
 obtain⟨g1,g2,g3,g4,g5,g6⟩:=Xf h
 have:=pN (t:=48) (c:=wraps (kx v)) (by omega) (by omega) g5
 rw [g6,this]; rfl
def Z:zp:=⟨0,[],⟨0,0,[]⟩⟩
theorem mZ {n:Nat} {b:Bs} {x:Int} (hb:b.length≤1000000) (hn:200000000≤n) (hx:jm n b=some x):
  (x≠0→xM n b=some (Z,x))∧(x=0→(jZ b).2=0→∃r,xM n b=some r∧(∀v,p6 v=(b,0)→r=(v,0))∧(r=(Z,7)∨p6 r.1=(b,0)∧r.2=0)):=by
 unfold xM vY
 rw [hx,Option.bind_some]
 refine⟨fun h=>by rw [if_pos (by simpa using h)]; rfl,fun h h0=> ?_⟩
 subst h
 rw [if_neg (by simp),Xa (by omega) (by omega),Option.bind_some,if_neg (by rw [h0]; simp)]
 have hbd:=B7 b
 rw [Dc (by omega) (by omega),Option.bind_some]
 obtain⟨v',r,h1,h2,h3,h4⟩:=KF (n:=n) (M:=b.length) (f:=((tList (jZ b).1.zq).2 !=0)||((jZ b).1.zT !=48)) (by omega) hb (kY (jZ b).1.zq hbd)
 rw [h1,Option.bind_some]
 have hfit:Fit n 252 v':=⟨by omega,by omega,by omega,h4,by omega⟩
 have hback:∀v,p6 v=(b,0)→v'=v∧r.zX=false:=by
  intro v hv
  have ho:=Kc hv
  have hr:=Q4 (n:=n) (by omega) hv
  rw [ho]at h1
  obtain⟨g1,g2,g3,g4,g5,g6⟩:=Xf hv
  rw [vb (QG g2 g4)]at h1
  have hfl:(((0:Int) !=0)||((48:Int) !=48))=false:=rfl
  simp only [hfl]at h1
  rw [hr]at h1
  injection h1 with h1; injection h1 with h1 h1'
  subst h1'
  exact⟨h1.symm,rfl⟩
 simp only []
 by_cases hf:r.zX=true
 ·rw [if_pos hf]
  exact⟨_,rfl,(fun v hv=>by have:=(hback v hv).2; rw [hf]at this; exact absurd this (by simp)), .inl rfl⟩
 ·rw [if_neg hf]
  have he:=eG hfit
  rw [show yw n ⟨v'.xF,v'.zW,⟨v'.zr.xa,v'.zr.zZ,v'.zr.zl⟩⟩=some (p6 v')from he,Option.bind_some,ifb,Option.bind_some]
  by_cases hq:p6 v'=(b,0)
  ·rw [hq,if_neg (by simp)]
   exact⟨_,rfl,(fun v hv=>by rw [←(hback v hv).1]), .inr ⟨hq,rfl⟩⟩
  ·have:(((p6 v').2 !=0)|| !((p6 v').1==b))=true:=by
    rw [Bool.or_eq_true,bne_iff_ne,Bool.not_eq_true',beq_eq_false_iff_ne]
    by_cases h7:(p6 v').2=0
    ·exact .inr (fun h8=>hq (Prod.ext h8 h7))
    ·exact .inl h7
   rw [if_pos this]
   exact⟨_,rfl,(fun v hv=>by have:=(hback v hv).1; subst this; exact absurd hv hq), .inl rfl⟩
theorem Jo {n:Nat} (a:List Bs) (ha:a.length≤1000000):∀(k i:Nat),i≤a.length→a.length-i<k→xD n a a k (i:Int)=some (.nxt ())
 |0,_,_,h=>by omega
 | k+1,i,hi,hk=>by
  rw [xD]
  by_cases hc:i<a.length
  ·rw [if_pos (by rw [decide_eq_true_eq]; omega),yf hc]
   simp only [Option.bind_some]
   rw [if_neg (by simp),w1 (by omega)]
   exact Jo a ha k (i+1) (by omega) (by omega)
  ·rw [if_neg (by rw [decide_eq_true_eq]; omega)]
theorem Qx {n:Nat} (f:zp) (ha:f.zW.length≤1000000):∀(k i:Nat),i≤f.zW.length→f.zW.length-i<k→yA n f f k (i:Int)=some (.nxt ())
 |0,_,_,h=>by omega
 | k+1,i,hi,hk=>by
  rw [yA]
  by_cases hc:i<f.zW.length
  ·rw [if_pos (by rw [decide_eq_true_eq]; omega),yf hc]
   simp only [Option.bind_some]
   rw [if_neg (by simp),w1 (by omega)]
   exact Qx f ha k (i+1) (by omega) (by omega)
  ·rw [if_neg (by rw [decide_eq_true_eq]; omega)]
theorem Gt {n:Nat} {f:zp} (h1:f.zW.length≤131072) (h2:f.zr.zl.length≤131072) (hn:1000000≤n):xe n f f=some true:=by
 have e1:=Jo (n:=n) f.zr.zl (by omega) n 0 (by omega) (by omega)
 have e2:=Qx (n:=n) f (by omega) n 0 (by omega) (by omega)
 rw [show((0:Nat):Int)=0 from rfl]at e1 e2
 have hS:xH n f.zr.zl f.zr.zl=some true:=by
  unfold xH
  rw [if_neg (by simp),e1]; rfl
 have hR:wm n ⟨f.zr.xa,f.zr.zZ,f.zr.zl⟩ ⟨f.zr.xa,f.zr.zZ,f.zr.zl⟩=some true:=by
  unfold wm
  simp only []
  rw [if_pos (by simp),if_pos (by simp),hS]; rfl
 unfold xe
 rw [if_neg (by simp),if_neg (by simp),hR]
 simp only [Option.bind_some]
 rw [if_neg (by simp),e2]; rfl
theorem Gw {n:Nat} {x:Int} (h:0≤x∧x≤8):∃s,uC n x=some s∧s.length≤100:=by
 have:x=0∨x=1∨x=2∨x=3∨x=4∨x=5∨x=6∨x=7∨x=8:=by omega
 rcases this with h|h|h|h|h|h|h|h|h<;>subst h<;>exact⟨_,rfl,by decide⟩
theorem KD {n:Nat}:∀(j k:Nat) (acc:List Bs) (L:List Int) (At:Int),j<k→acc.length+j≤100→(∀s∈acc,s.length≤100)→xZ ⟨L,At⟩ →
  ∃ps L' At',yF n k acc (j:Int) L At=some (ps,L',At')∧ps.length≤acc.length+j∧(∀s∈ps,s.length≤100)∧xZ ⟨L',At'⟩
 |_,0,_,_,_,h,_,_,_=>by omega
 |0,k+1,acc,L,At,_,_,h,hd=>⟨acc,L,At,rfl,by omega,h,hd⟩
 | j+1,k+1,acc,L,At,hk,ha,h,hd=>by
  obtain⟨r,d',h1,h2,h3,h4⟩:=xb (n:=n) (k:=5) (by decide) (by decide) hd
  have hx:∃x,z6 ([0,1,2,3,8]:List Int) r=some x∧0≤x∧x≤8:=by
   have:r=0∨r=1∨r=2∨r=3∨r=4:=by omega
   rcases this with h|h|h|h|h<;>subst h<;>exact⟨_,rfl,by decide⟩
  obtain⟨x,hx,hx1⟩:=hx
  obtain⟨s,hs,hsl⟩:=Gw (n:=n) hx1
  rw [yF,if_pos (by rw [decide_eq_true_eq]; omega),h1,Option.bind_some,hx,Option.bind_some,hs,Option.bind_some,yZ (by rw [List.length_singleton]; omega),Option.bind_some,wt (by omega),show((j+1:Nat):Int)-1=(j:Int)by omega]
  obtain ⟨ps,L',At',e1,e2,e3,e4⟩:=KD j k (acc ++ [s]) d'.f_L d'.zO (by omega) (by rw [List.length_append,List.length_singleton]; omega) (by
   intro y hy; rcases List.mem_append.1 hy with hy|hy
   ·exact h y hy
   ·simp at hy; subst hy; exact hsl) h4
  exact⟨ps,L',At',e1,by rw [List.length_append,List.length_singleton]at e2; omega,e3,e4⟩
theorem PY {n:Nat} {d:zh} (hn:10≤n) (hd:xZ d):∃ps d',yL n 4 d=some (ps,d')∧ps.length≤5∧(∀s∈ps,s.length≤100)∧xZ d':=by
 unfold yL
 obtain⟨r,d',h1,h2,h3,h4⟩:=xb (n:=n) (k:=5) (by decide) (by decide) hd
 rw [show IntKind.wrap .i64 ((4:Int)+1)=5 from rfl,h1,Option.bind_some]
 obtain⟨ps,L',At',e1,e2,e3,e4⟩:=KD (n:=n) r.toNat n [] d'.f_L d'.zO (by omega) (by simp; omega) (by simp) h4
 rw [show((r.toNat:Nat):Int)=r by omega]at e1
 simp only []
 rw [e1]
 exact⟨ps,_,rfl,by simp at e2; omega,e3,e4⟩
theorem Qo {n:Nat}:∀(j k:Nat) (acc:List Int) (L:List Int) (At:Int),j<k→acc.length+j≤100→xZ ⟨L,At⟩ →
  ∃L' At' p,xq n k (j:Int) L At acc=some (L',At',p)∧p.length≤acc.length+j∧xZ ⟨L',At'⟩
 |_,0,_,_,_,h,_,_=>by omega
 |0,k+1,acc,L,At,_,_,hd=>⟨L,At,acc,rfl,by omega,hd⟩
 | j+1,k+1,acc,L,At,hk,ha,hd=>by
  obtain⟨r,d',h1,h2,h3,h4⟩:=xb (n:=n) (k:=64) (by decide) (by decide) hd
  rw [xq,if_pos (by rw [decide_eq_true_eq]; omega),h1,Option.bind_some,yZ (by rw [List.length_singleton]; omega),Option.bind_some,wt (by omega),show((j+1:Nat):Int)-1=(j:Int)by omega]
  obtain⟨L',At',p,e1,e2,e3⟩:=Qo j k (acc ++ [r]) d'.f_L d'.zO (by omega) (by rw [List.length_append,List.length_singleton]; omega) h4
  exact⟨L',At',p,e1,by rw [List.length_append,List.length_singleton]at e2; omega,e3⟩
theorem D8 {n:Nat} {d:zh} (hn:20≤n) (hd:xZ d):∃f d',vq n d=some (f,d')∧f.zW.length≤10∧f.zr.zl.length≤6∧(∀s∈f.zr.zl,s.length≤100)∧xZ d':=by
 obtain⟨r1,d1,h1,_,_,k1⟩:=xb (n:=n) (k:=64) (by decide) (by decide) hd
 obtain⟨r2,d2,h2,_,_,k2⟩:=xb (n:=n) (k:=16) (by decide) (by decide) k1
 obtain⟨r3,d3,h3,_,_,k3⟩:=xb (n:=n) (k:=9) (by decide) (by decide) k2
 obtain⟨ps,d4,h4,p1,p2,k4⟩:=PY (n:=n) (by omega) k3
 obtain⟨r5,d5,h5,a5,b5,k5⟩:=xb (n:=n) (k:=9) (by decide) (by decide) k4
 obtain⟨L6,At6,p,h6,q1,k6⟩:=Qo (n:=n) r5.toNat n [] d5.f_L d5.zO (by omega) (by simp; omega) k5
 rw [show((r5.toNat:Nat):Int)=r5 by omega]at h6
 have q1:p.length≤8:=by simp at q1; omega
 obtain⟨r7,d7,h7,a7,b7,k7⟩:=xb (n:=n) (k:=16) (by decide) (by decide) k6
 unfold vq
 rw [h1,Option.bind_some,h2,Option.bind_some,h3,Option.bind_some,h4,Option.bind_some,h5,Option.bind_some]
 simp only []
 rw [h6,Option.bind_some]
 simp only []
 rw [h7,Option.bind_some]
 by_cases c1:(r7==1)=true
 ·obtain⟨r8,d8,h8,a8,b8,k8⟩:=xb (n:=n) (k:=2) (by decide) (by decide) k7
  have hx:∃x,z6 ([(-1),64]:List Int) r8=some x:=ul a8 (by simpa using b8)
  obtain⟨x,hx⟩:=hx
  rw [if_pos c1]; simp only []; rw [h8,Option.bind_some]; simp only []; rw [hx]
  exact⟨_,_,rfl,by show p.length≤10; omega,by show ps.length≤6; omega,p2,k8⟩
 ·rw [if_neg c1]
  by_cases c2:(r7==2)=true
  ·obtain⟨r8,d8,h8,a8,b8,k8⟩:=xb (n:=n) (k:=3) (by decide) (by decide) k7
   obtain⟨x,hx⟩:∃x,z6 ([(-1),64,0]:List Int) r8=some x:=ul a8 (by simpa using b8)
   rw [if_pos c2]; simp only []; rw [h8,Option.bind_some]; simp only []; rw [hx,Option.bind_some,yZ (by rw [List.length_singleton]; omega)]
   exact⟨_,_,rfl,by show(p ++ [x]).length≤10; rw [List.length_append,List.length_singleton]; omega,by show ps.length≤6; omega,p2,k8⟩
  ·rw [if_neg c2]
   by_cases c3:(r7==3)=true
   ·obtain⟨r8,d8,h8,a8,b8,k8⟩:=xb (n:=n) (k:=2) (by decide) (by decide) k7
    obtain⟨x,hx⟩:∃x,z6 ([(-1),16]:List Int) r8=some x:=ul a8 (by simpa using b8)
    rw [if_pos c3]; simp only []; rw [h8,Option.bind_some]; simp only []; rw [hx]
    exact⟨_,_,rfl,by show p.length≤10; omega,by show ps.length≤6; omega,p2,k8⟩
   ·rw [if_neg c3]
    by_cases c4:(r7==4)=true
    ·obtain⟨r8,d8,h8,a8,b8,k8⟩:=xb (n:=n) (k:=2) (by decide) (by decide) k7
     obtain⟨x,hx⟩:∃x,z6 ([(-1),9]:List Int) r8=some x:=ul a8 (by simpa using b8)
     rw [if_pos c4]; simp only []; rw [h8,Option.bind_some]; simp only []; rw [hx]
     exact⟨_,_,rfl,by show p.length≤10; omega,by show ps.length≤6; omega,p2,k8⟩
    ·rw [if_neg c4]
     by_cases c5:(r7==5)=true
     ·rw [if_pos c5]; simp only []; rw [yZ (by rw [List.length_singleton]; omega)]
      refine⟨_,_,rfl,by show p.length≤10; omega,by show(ps ++ [_]).length≤6; rw [List.length_append,List.length_singleton]; omega, ?_,k7⟩
      intro s hs
      rcases List.mem_append.1 (show s∈ps++_ from hs)with hs|hs
      ·exact p2 s hs
      ·simp at hs; subst hs; simp
     ·rw [if_neg c5]
      exact⟨_,_,rfl,by show p.length≤10; omega,by show ps.length≤6; omega,p2,k7⟩
def Wf:Nat→Nat×Bs→Prop
 |0,p=>p.1/32%2=0
 |k+1,p=>p.1/32%2=0∨∃l:List (Nat×Bs),(∀q∈l,POk q∧Wf k q)∧p.2=wraps l
theorem cD {t:Nat} (h:t≤255):(wq .i64 (t:Int) 32==0)=decide (t/32%2=0):=by
 have:=List.all_eq_true.1 (show((List.range 256).all fun t:Nat=>(wq .i64 (t:Int) 32==0)==decide (t/32%2=0))=true by kernel_rfl) t (by simp; omega)
 simpa using this
theorem Wf.leaf {t:Nat} {c:Bs} {k:Nat} (h:t/32%2=0):Wf k (t,c):=by
 cases k with
 |zero=>exact h
 |succ k=>exact .inl h
theorem Wf.node {t:Nat} {k:Nat} {l:List (Nat×Bs)} (h:∀q∈l,POk q∧Wf k q):Wf (k+1) (t,wraps l):= .inr ⟨l,h,rfl⟩
theorem Wf.mono {k j:Nat} (h:k≤j):∀ {p:Nat×Bs},Wf k p→Wf j p:=by
 induction j generalizing k with
 |zero=>intro p hp; rw [show k=0 by omega]at hp; exact hp
 | succ j ih=>
  intro p hp
  cases k with
  |zero=>exact .inl hp
  | succ k=>
   rcases hp with hp|⟨l,h1,h2⟩
   ·exact .inl hp
   ·exact .inr ⟨l,fun q hq=>⟨(h1 q hq).1,ih (by omega) (h1 q hq).2⟩,h2⟩
theorem co {n d:Nat} (hn:5≤n) (hd:d<16) {rc:El→Int→Option Int}:∀(l:List (Nat×Bs)) (k:Nat),(∀q∈l,POk q∧rc (elm q) ((d+1:Nat):Int)=some 0)→(wraps l).length<k→(wraps l).length≤1000000000000→w3 n rc (d:Int) k (wraps l)=some (.nxt ())
 |_,0,_,h,_=>by omega
 | [],k+1,_,_,_=>by rw [w3,show wraps []= []from rfl]; simp
 | q::l,k+1,hq,hk,hl=>by
  obtain⟨⟨p1,p2,p3⟩,hr⟩:=hq q (by simp)
  have hw:=BM q.1 p3
  rw [jQ,List.length_append]at hk hl
  have hne:(tWrap q.1 q.2).1++wraps l≠ []:=by
   intro h; have:=congrArg List.length h; rw [List.length_append,List.length_nil]at this; omega
  rw [w3,jQ,if_pos (by simpa using hne),VE (by rw [List.length_append]; omega) hn,Y5 p1 p2 p3,Option.bind_some]
  simp only []
  rw [if_neg (by simp),if_neg (by rw [decide_eq_true_eq]; omega),w1 (by omega)]
  have hr':rc ⟨(q.1:Int),q.2,(tWrap q.1 q.2).1⟩ ((d+1:Nat):Int)=some 0:=hr
  rw [hr',Option.bind_some,if_neg (by simp)]
  exact co hn hd l k (fun x hx=>hq x (by simp [hx])) (by omega) (by omega)
theorem UU {n:Nat} (hn:2000000≤n):∀(k kk d:Nat) (p:Nat×Bs),POk p→Wf k p→k<kk→d+k≤16→vX n kk (elm p) (d:Int)=some 0
 |k,0,_,_,_,_,h,_=>by omega
 | k, kk+1,d,p,hp,hw,hk,hd=>by
  have ht:(elm p).zT=((p.1:Nat):Int):=rfl
  rw [vX,ht,cD hp.1]
  by_cases h:p.1/32%2=0
  ·rw [if_pos (by simpa using h)]
  ·rw [if_neg (by simpa using h)]
   cases k with
   |zero=>exact absurd hw h
   | succ k=>
    rcases hw with hw|⟨l,h1,h2⟩
    ·exact absurd hw h
    ·have hc:(elm p).zq=wraps l:=h2
     have hl:=hp.2.2
     rw [h2]at hl
     rw [hc,co (by omega) (by omega) l n (fun q hq=>⟨(h1 q hq).1,UU hn k kk (d+1) q (h1 q hq).1 (h1 q hq).2 (by omega) (by omega)⟩) (by omega) (by omega)]
     rfl
theorem QW {n k:Nat} (hn:2000000≤n) {p:Nat×Bs} (hp:POk p) (hw:Wf k p) (hk:k≤15):jm n (tWrap p.1 p.2).1=some 0:=by
 have hl:=yd p.1 p.2
 have:=hp.2.2
 unfold jm
 rw [Xa (by omega) (by omega),pN hp.1 hp.2.1 hp.2.2,Option.bind_some,if_neg (by simp)]
 have h:=UU (n:=n) hn k n 1 p hp hw (by omega) (by omega)
 rw [show((1:Nat):Int)=1 from rfl]at h
 have h':vX n n ⟨(p.1:Int),p.2,(tWrap p.1 p.2).1⟩ 1=some 0:=h
 rw [h']; rfl
theorem B3 {l:List (List Att)} (h:okN l):Wf 4 (wc l):=by
 refine Wf.node (t:=48) (k:=3) (l:=l.map kZ) fun q hq=> ?_
 obtain⟨r,hr,rfl⟩:=List.mem_map.1 hq
 have ho:=Xz (h.2 r hr)
 refine⟨Be (h.2 r hr),Wf.node (t:=49) (k:=2) (l:=(jH r).map Wc) fun q hq=> ?_⟩
 obtain⟨a,ha,rfl⟩:=List.mem_map.1 hq
 have hok:=ho.2.2.1 a ha
 refine⟨Ge hok,Wf.node (t:=48) (k:=1) (l:=Xc a) fun q hq=>⟨(Xs hok).1 q hq, ?_⟩⟩
 simp only [Xc,List.mem_cons,List.not_mem_nil,or_false]at hq
 rcases hq with rfl|rfl
 ·exact Wf.leaf (t:=6) (by decide)
 ·refine Wf.leaf (t:=a.zV.toNat) ?_
  rcases VG hok.2.2.1 with e|e|e<;>rw [e]<;>decide
theorem eS {k:zv} (h:okK k=true):Wf 2 (gx k):=by
 refine Wf.node (t:=48) (k:=1) (l:=Ys k) fun q hq=>⟨(Yk k h).1 q hq, ?_⟩
 simp only [Ys,List.mem_cons,List.not_mem_nil,or_false]at hq
 rcases hq with rfl|rfl
 ·refine Wf.node (t:=48) (k:=0) (l:= [(6,XG)]) fun q hq=> ?_
  rw [List.mem_singleton]at hq; subst hq
  exact⟨⟨by dsimp only; decide,by dsimp only; decide,by dsimp only; decide⟩,by show(6:Nat)/32%2=0; decide⟩
 ·exact Wf.leaf (t:=3) (by decide)
theorem eR {a:Anc} (h:YX a):Wf 5 (ancE a):=by
 refine Wf.node (t:=48) (k:=4) (l:=XQ a) fun q hq=>⟨(Yb h).1 q hq, ?_⟩
 simp only [XQ,List.mem_cons,List.not_mem_nil,or_false]at hq
 rcases hq with rfl|rfl
 ·exact B3 h.1
 ·exact(eS h.2.2).mono (by omega)
theorem DR {v:zp} {b:Bs} (h:p6 v=(b,0)):Wf 3 (48,wraps (kx v))∧POk (48,wraps (kx v))∧b=(tWrap 48 (wraps (kx v))).1:=by
 obtain⟨g1,g2,g3,g4,g5,g6⟩:=Xf h
 have hp:=QG g2 g4
 refine⟨Wf.node (t:=48) (k:=2) (l:=kx v) fun q hq=>⟨hp q hq, ?_⟩,⟨by dsimp only; decide,by dsimp only; decide,g5⟩,g6⟩
 simp only [kx,List.mem_cons,List.not_mem_nil,or_false]at hq
 rcases hq with rfl|rfl|rfl|rfl|rfl
 ·exact Wf.leaf (t:=2) (by decide)
 ·refine Wf.node (t:=48) (k:=1) (l:=v.zW.map (numE 2)) fun q hq=>⟨BK _ q hq, ?_⟩
  obtain⟨x,_,rfl⟩:=List.mem_map.1 hq
  exact Wf.leaf (t:=2) (by decide)
 ·exact Wf.leaf (t:=10) (by decide)
 ·exact Wf.leaf (t:=2) (by decide)
 ·refine Wf.node (t:=48) (k:=1) (l:=v.zr.zl.map polE) fun q hq=> ?_
  obtain⟨s,hs,rfl⟩:=List.mem_map.1 hq
  exact⟨Jv (List.all_eq_true.1 g3 s hs),Wf.leaf (t:=6) (by decide)⟩
theorem Gj {n:Nat} {v:zp} {b:Bs} (hn:200000000≤n) (h:p6 v=(b,0)):xM n b=some (v,0):=by
 obtain⟨h1,h2,h3⟩:=DR h
 have hc:=QW (n:=n) (by omega) h2 h1 (by omega)
 have hl:=yd 48 (wraps (kx v))
 have h5:(wraps (kx v)).length≤131072:=h2.2.2
 rw [←h3]at hc hl
 obtain⟨_,p2⟩:=mZ (n:=n) (b:=b) (x:=0) (by omega) hn hc
 obtain⟨r,e1,e2,_⟩:=p2 rfl (by rw [Kc h])
 rw [e1,e2 v h]
end Go.Abs
end
