/- The typed Lean form of WireReturns gives true for every list of at most 9223372036854775807 numbers. -/
import Derived.Test.YtbggpcnbbhjiaaaGreatDoorLaw4
set_option linter.unusedVariables false
set_option linter.unusedSimpArgs false
set_option linter.unnecessarySimpa false
section
set_option maxRecDepth 100000
namespace Go.Abs
open Go Go.Proofs
theorem Yv (r:List Att):(jH r).Pairwise fun a b=>leB (pB a) (pB b)=true:=
 List.pairwise_mergeSort (le:=fun a b=>leB (pB a) (pB b)) (fun _ _ _ h1 h2=>GG _ _ _ h1 h2) (fun _ _=>GX _ _) r
theorem Qt (r:List Att):jH (jH r)=jH r:=List.mergeSort_of_pairwise (Yv r)
abbrev ZJ (l:List (List Att)):List (List Att):=l.map jH
theorem Xn {l:List (List Att)} (h:okN l):okN (ZJ l):=by
 refine⟨by rw [List.length_map]; exact h.1,fun r hr=> ?_⟩
 obtain⟨q,hq,rfl⟩:=List.mem_map.1 hr
 exact Xz (h.2 q hq)
theorem Uk (l:List (List Att)):wc (ZJ l)=wc l:=by
 unfold wc
 rw [List.map_map]
 have:l.map (kZ∘jH)=l.map kZ:=List.map_congr_left fun r _=>by simp only [Function.comp,kZ,Qt]
 rw [this]
theorem Ge {a:Att} (h:okA a):POk (Wc a):=
 ⟨by show(48:Nat)≤255; omega,by show(48:Nat)%32≠31; omega,by have:=(Xs h).2.1; show(wraps (Xc a)).length≤_; omega⟩
theorem Be {r:List Att} (h:okR r):POk (kZ r):=
 ⟨by show(49:Nat)≤255; omega,by show(49:Nat)%32≠31; omega,by have:=XX h; omega⟩
theorem Ux {l:List (List Att)} (h:okN l):POk (wc l):=
 ⟨by show(48:Nat)≤255; omega,by show(48:Nat)%32≠31; omega,by have:=bI h; omega⟩
theorem cR {a:Att} (h:okA a):BdA 252 a:=⟨G6 h.1,by have:=h.2.2.2; omega⟩
theorem cY {r:List Att} (h:okR r):BdR 252 r:=⟨by have:=h.2.1; omega,fun a ha=>cR (h.2.2.1 a ha)⟩
theorem De {l:List (List Att)} (h:okN l):BdN 252 l:=⟨by have:=h.1; omega,fun r hr=>cY (h.2 r hr)⟩
theorem BdA.mono {A B:Nat} {a:Att} (hAB:A≤B) (h:BdA A a):BdA B a:=⟨Nat.le_trans h.1 hAB,Nat.le_trans h.2 hAB⟩
theorem BdR.mono {A B:Nat} {a:List Att} (hAB:A≤B) (h:BdR A a):BdR B a:=⟨Nat.le_trans h.1 hAB,fun x hx=>(h.2 x hx).mono hAB⟩
theorem BdN.mono {A B:Nat} {a:List (List Att)} (hAB:A≤B) (h:BdN A a):BdN B a:=⟨Nat.le_trans h.1 hAB,fun x hx=>(h.2 x hx).mono hAB⟩
abbrev Anc:=ze
theorem Yk (k:zv) (h:okK k=true):(∀p∈Ys k,POk p)∧(wraps (Ys k)).length≤60:=by
 obtain⟨h1,h2,h3,h4⟩:=Vw.1 h
 have ha:Z8.2.length=12:=by decide
 have hl:(0::o8 k.zA.toNat::(k.xL++k.zY):Bs).length=34:=by simp [h3,h4]
 refine⟨?_, ?_⟩
 ·intro p hp
  simp only [Ys,List.mem_cons,List.not_mem_nil,or_false]at hp
  rcases hp with rfl|rfl
  ·exact⟨by decide,by decide,by omega⟩
  ·exact⟨by dsimp only; decide,by dsimp only; decide,by dsimp only; omega⟩
 ·have t1:=yd Z8.1 Z8.2
  have t2:=yd 3 (0::o8 k.zA.toNat::(k.xL++k.zY))
  simp only [Ys,wraps,List.map_cons,List.map_nil,List.flatten_cons,List.flatten_nil,List.append_nil,List.length_append]
  omega
theorem BP {k:zv} (h:okK k=true):POk (gx k):=
 ⟨by show(48:Nat)≤255; omega,by show(48:Nat)%32≠31; omega,by have:=(Yk k h).2; show(wraps (Ys k)).length≤_; omega⟩
def XQ (a:Anc):List (Nat×Bs):= [wc a.zy.zo,gx a.zE]
def ancE (a:Anc):Nat×Bs:=(48,wraps (XQ a))
def YX (a:Anc):Prop:=okN a.zy.zo∧a.zy.zo≠ []∧okK a.zE=true
theorem Yb {a:Anc} (h:YX a):(∀p∈XQ a,POk p)∧(wraps (XQ a)).length≤4398:=by
 have k1:=bI h.1
 have k2:=(Yk a.zE h.2.2).2
 refine⟨?_, ?_⟩
 ·intro p hp
  simp only [XQ,List.mem_cons,List.not_mem_nil,or_false]at hp
  rcases hp with rfl|rfl
  ·exact Ux h.1
  ·exact BP h.2.2
 ·have t1:=yd (wc a.zy.zo).1 (wc a.zy.zo).2
  have t2:=yd 48 (wraps (Ys a.zE))
  have e:gx a.zE=(48,wraps (Ys a.zE)):=rfl
  simp only [XQ,wraps,List.map_cons,List.map_nil,List.flatten_cons,List.flatten_nil,List.append_nil,List.length_append,e]at *
  omega
theorem Bp {a:Anc} (h:YX a):POk (ancE a):=
 ⟨by show(48:Nat)≤255; omega,by show(48:Nat)%32≠31; omega,by have:=(Yb h).2; show(wraps (XQ a)).length≤_; omega⟩
def gE (a:Anc):Anc:=⟨⟨ZJ a.zy.zo⟩,a.zE⟩
theorem UZ {a:Anc} (h:YX a):YX (gE a):=⟨Xn h.1,fun e=>h.2.1 (by simpa [gE,ZJ] using e),h.2.2⟩
theorem Gq (a:Anc):ancE (gE a)=ancE a:=by
 unfold ancE XQ gE; simp only [Uk]
theorem nX (v:Nat):b2s ([IntKind.wrap .u8 (v:Int)]:List Int)= [o8 v]:=by
 show [UInt8.ofNat (IntKind.wrap .u8 (v:Int)).toNat]=_
 rw [ke]
theorem P2 {n:Nat} {k:zv} (hn:100≤n):um n k=some (if okK k=true then((tWrap (gx k).1 (gx k).2).1,0)else([],18)):=by
 unfold um
 rw [Do,Option.bind_some]
 by_cases h:okK k=true
 ·rw [if_pos h,if_pos h,if_neg (by decide)]
  obtain⟨h1,h2,h3,h4⟩:=Vw.1 h
  have hv:k.zA=((k.zA.toNat:Nat):Int):=by omega
  have hb:b2s ([IntKind.wrap .u8 k.zA]:List Int)= [o8 k.zA.toNat]:=by
   conv=>lhs; rw [hv]
   exact nX _
  have hc:uV n k=some (o8 k.zA.toNat::(k.xL++k.zY)):=by
   unfold uV
   rw [hb,pT (by rw [h3]; simp),Option.bind_some,pT (by rw [List.length_append,h3,h4]; simp),Option.bind_some]
   rfl
  have hs:jU n (o8 k.zA.toNat::(k.xL++k.zY)) 0=some (0::o8 k.zA.toNat::(k.xL++k.zY),0):=by
   unfold jU qQ
   rw [if_neg (by decide),Option.bind_some,if_neg (by decide),if_pos (by decide),Option.bind_some,if_neg (by decide),show b2s ([IntKind.wrap .u8 0]:List Int)= [0]from rfl,pT (by simp [h3,h4]),Option.bind_some]
   rfl
  have hl:(0::o8 k.zA.toNat::(k.xL++k.zY):Bs).length=34:=by simp [h3,h4]
  have ha:Z8.2.length=12:=by decide
  have t1:=yd Z8.1 Z8.2
  have t2:=yd 3 (0::o8 k.zA.toNat::(k.xL++k.zY))
  rw [hc,Option.bind_some,hs,Option.bind_some,if_neg (by simp),show(3:Int)=((3:Nat):Int)from rfl,Xo (by omega) (by omega) (by dsimp only; omega) (by omega),Option.bind_some,qw (t:=3) (by dsimp only; omega),if_neg (by simp),ng hn,Option.bind_some,show(48:Int)=((48:Nat):Int)from rfl]
  have hf:([(tWrap Z8.1 Z8.2).1,(tWrap 3 (0::o8 k.zA.toNat::(k.xL++k.zY))).1]:List Bs).flatten=wraps (Ys k):=by
   simp only [Ys,wraps,List.map_cons,List.map_nil]
  have hk:=(Yk k h).2
  rw [Xr (by omega) (by omega) (by intro c hc; simp only [List.mem_cons,List.not_mem_nil,or_false]at hc; rcases hc with rfl|rfl<;>omega) (by simp only [List.length_cons,List.length_nil]; omega) (by simp),hf,qw (t:=48) (by omega)]
  rfl
 ·rw [if_neg h,if_neg h,if_pos (by decide)]
def BdL (B:Nat) (l:List Anc):Prop:=∀a∈l,BdN B a.zy.zo
theorem nI {n B:Nat} {a:Anc} {b:Bs} (h:YX a) (hb:BdN B a.zy.zo) (hB:B≤1000000) (hn:B+100≤n) (hl:b.length≤1000000000):wl n a ⟨b,0⟩=some ⟨b++(tWrap (ancE a).1 (ancE a).2).1,0⟩:=by
 unfold wl
 have k1:=bI h.1
 have k2:=(Yk a.zE h.2.2).2
 have k3:=(Yb h).2
 have t1:=yd 48 (wc a.zy.zo).2
 have t2:=yd (gx a.zE).1 (gx a.zE).2
 have e2:(gx a.zE).2=wraps (Ys a.zE):=rfl
 rw [e2]at t2
 have e0:Jg a.zy.zo=((tWrap 48 (wc a.zy.zo).2).1,0):=by unfold Jg; rw [if_neg (by rw [gg.2 h.1]; simp)]
 rw [Jb hb hB hn,Option.bind_some,e0,WL (by simp only [List.length_nil]; omega),Option.bind_some,P2 (k:=⟨a.zE.zA,a.zE.xL,a.zE.zY⟩) (by omega),Option.bind_some,if_pos (show okK ⟨a.zE.zA,a.zE.xL,a.zE.zY⟩=true from h.2.2),List.nil_append]
 have e1:(tWrap (gx ⟨a.zE.zA,a.zE.xL,a.zE.zY⟩).1 (gx ⟨a.zE.zA,a.zE.xL,a.zE.zY⟩).2).1=(tWrap (gx a.zE).1 (gx a.zE).2).1:=rfl
 simp only []
 rw [e1,e2,WL (by omega),Option.bind_some]
 simp only []
 rw [WL (by simp only [List.length_nil]; omega),Option.bind_some,List.append_nil]
 have hf:(tWrap 48 (wc a.zy.zo).2).1++(tWrap (gx a.zE).1 (wraps (Ys a.zE))).1=wraps (XQ a):=by
  simp only [XQ,wraps,List.map_cons,List.map_nil,List.flatten_cons,List.flatten_nil,List.append_nil]
  rfl
 rw [hf,show(48:Int)=((48:Nat):Int)from rfl,U6 (by omega) (by omega) (by omega) (by omega),Option.bind_some,qw (t:=48) (by omega)]
 rfl
theorem Zj {l:List Anc} (ho:∀a∈l,YX a):(wraps (l.map ancE)).length≤4403*l.length:=by
 have:=pX (m:=4398) (l.map ancE) (fun p hp=>by obtain⟨a,ha,rfl⟩:=List.mem_map.1 hp; exact(Yb (ho a ha)).2)
 rw [List.length_map]at this; exact this
abbrev El:=zd
def UC:List El→Bool
 |a::b::l=> !(Op.bytesLess b.qP a.qP)&&UC (b::l)
 |_=>true
theorem Pb {n:Nat} (a:List El) (ha:a.length≤1000000000):∀(k i:Nat),1≤i→a.length-i<k→wD n a k (i:Int)=some (if UC (a.drop (i-1))=true then .nxt ()else .ret false)
 |0,i,_,h=>by omega
 | k + 1,i,hi,hk=>by
  rw [wD]
  by_cases hc:i<a.length
  ·have e1:IntKind.wrap .i64 ((i:Int)-1)=((i-1:Nat):Int):=by rw [wt (by omega)]; omega
   have e2:a.drop (i-1)=a[i-1]::a[i]::a.drop (i+1):=by
    rw [List.drop_eq_getElem_cons (show i-1<a.length by omega)]
    congr 1
    have:i-1+1=i:=by omega
    rw [this,List.drop_eq_getElem_cons hc]
   rw [if_pos (by rw [decide_eq_true_eq]; omega),yf hc,Option.bind_some,e1,yf (show i-1<a.length by omega),Option.bind_some,e2,UC]
   by_cases h:Op.bytesLess a[i].qP a[i-1].qP=true
   ·rw [if_pos h,h]; rfl
   ·have e3:a.drop (i+1-1)=a[i]::a.drop (i+1):=by
     rw [show i+1-1=i by omega,List.drop_eq_getElem_cons hc]
    rw [if_neg h,w1 (by omega),Pb a ha k (i+1) (by omega) (by omega),e3]
    rw [Bool.not_eq_true]at h
    rw [h,Bool.not_false,Bool.true_and]
  ·rw [if_neg (by rw [decide_eq_true_eq]; omega)]
   have:UC (a.drop (i-1))=true:=by
    have hl:(a.drop (i-1)).length≤1:=by rw [List.length_drop]; omega
    match a.drop (i-1),hl with
    | [],_=>rfl
    | [_],_=>rfl
   rw [this]; rfl
theorem P9 {n:Nat} {a:List El} (ha:a.length≤1000000000) (hn:a.length<n):jD n a=some (UC a):=by
 unfold jD
 have:=Pb (n:=n) a ha n 1 (by omega) (by omega)
 rw [show((1:Nat):Int)=1 from rfl,show 1-1=0 from rfl,List.drop_zero]at this
 rw [this]
 cases UC a<;>rfl
def A0:Att:=⟨[],0,[]⟩
def dh (D:Bs→Bs×Int) (e:El):Att×Int:=
 if e.zT≠48 then(A0,5)else if(tList e.zq).2≠0 then(A0,(tList e.zq).2)else match(tList e.zq).1 with
 | []=>(A0,3)
 | x::r=>if x.zT≠6 then(A0,5)else if(D x.zq).2≠0 then(A0,(D x.zq).2)else match r with
  | []=>(A0,3)
  |y::s=>if y.zT≠12∧y.zT≠19∧y.zT≠22 then(A0,5)else if s≠ []then(A0,4)else(⟨(D x.zq).1,y.zT,y.zq⟩,0)
def je (D:Bs→Bs×Int):List Att→List El→List Att×Int
 |acc,[]=>(acc,0)
 |acc,x::l=>if(dh D x).2≠0 then([],(dh D x).2)else je D (acc ++ [(dh D x).1]) l
def px (D:Bs→Bs×Int) (e:El):List Att×Int:=
 if e.zT≠49 then([],5)else if(tList e.zq).2≠0 then([],(tList e.zq).2)else if UC (tList e.zq).1=false then([],9)else je D [] (tList e.zq).1
def u3 (D:Bs→Bs×Int):List (List Att)→List El→List (List Att)×Int
 |acc,[]=>(acc,0)
 |acc,x::l=>if(px D x).2≠0 then([],(px D x).2)else u3 D (acc ++ [(px D x).1]) l
def XP (D:Bs→Bs×Int) (b:Bs):List (List Att)×Int:=
 if(jZ b).2≠0 then([],(jZ b).2)else if(jZ b).1.zT≠48 then([],5)else if(tList (jZ b).1.zq).2≠0 then([],(tList (jZ b).1.zq).2)else
 if(u3 D [] (tList (jZ b).1.zq).1).2≠0 then([],(u3 D [] (tList (jZ b).1.zq).1).2)else
 if kM (u3 D [] (tList (jZ b).1.zq).1).1≠0 then([],kM (u3 D [] (tList (jZ b).1.zq).1).1)else((u3 D [] (tList (jZ b).1.zq).1).1,0)
theorem PA {n M:Nat} {D:Bs→Bs×Int} (hD:∀c:Bs,c.length≤M→yr n c=some (D c)) {e:El} (he:e.zq.length≤M) (hM:M≤1000000) (hn:M+100≤n):wK n e=some (dh D e):=by
 unfold wK dh
 by_cases h1:e.zT≠48
 ·rw [if_pos (by simpa using h1),if_pos h1]; rfl
 rw [if_neg (by simpa using h1),if_neg h1,qS (by omega) (by omega),Option.bind_some]
 have hb:=kY e.zq he
 generalize tList e.zq=T at hb
 obtain⟨L,x⟩:=T
 simp only []at hb ⊢
 by_cases h2:x≠0
 ·rw [if_pos (by simpa using h2),if_pos h2]; rfl
 rw [if_neg (by simpa using h2),if_neg h2]
 match L,hb with
 | [],_=>rfl
 | x ::r,hb=>
  have k0:z6 (x::r) 0=some x:=by simp [z6]
  have hx:=hb.2 x (by simp)
  have hl:=hb.1
  simp only [List.length_cons]at hl
  rw [if_neg (by rw [decide_eq_true_eq,List.length_cons]; omega),k0,Option.bind_some]
  simp only []
  by_cases h3:x.zT≠6
  ·rw [if_pos (by simpa using h3),if_pos h3]; rfl
  rw [if_neg (by simpa using h3),if_neg h3,Option.bind_some,hD _ hx,Option.bind_some]
  by_cases h4:(D x.zq).2≠0
  ·rw [if_pos (by simpa using h4),if_pos h4]; rfl
  rw [if_neg (by simpa using h4),if_neg h4]
  match r,hb with
  | [],_=>rfl
  | y ::s,hb=>
   have k1:z6 (x::y::s) 1=some y:=by simp [z6]
   rw [if_neg (by rw [decide_eq_true_eq,List.length_cons,List.length_cons]; omega),k1,Option.bind_some]
   simp only []
   have fin:(if(decide ((List.length (x::y::s):Int)>2))=true then(some ((zb.mk ([]:List UInt8) 0 ([]:List UInt8)),(4:Int)))else((some y:Option El).bind fun x9=>
     (some y:Option El).bind fun x10=>some ((zb.mk (D x.zq).1 x9.zT x10.zq),(0:Int))))=some (if s≠ []then(A0,4)else(⟨(D x.zq).1,y.zT,y.zq⟩,0)):=by
    by_cases h6:s= []
    ·subst h6; rfl
    ·have:0<s.length:=List.length_pos_iff.2 h6
     rw [if_pos (by rw [decide_eq_true_eq,List.length_cons,List.length_cons]; omega),if_pos h6]; rfl
   by_cases t1:y.zT=12
   ·rw [if_pos (by simpa using t1),if_pos (by simpa using t1),if_neg (show ¬(y.zT≠12∧y.zT≠19∧y.zT≠22)from fun h=>h.1 t1)]; exact fin
   by_cases t2:y.zT=19
   ·rw [if_neg (by simpa using t1),if_pos (by simpa using t2),if_pos (by simpa using t2),if_neg (show ¬(y.zT≠12∧y.zT≠19∧y.zT≠22)from fun h=>h.2.1 t2)]; exact fin
   by_cases t3:y.zT=22
   ·rw [if_neg (by simpa using t1),if_neg (by simpa using t2),if_pos (by simpa using t3),if_neg (show ¬(y.zT≠12∧y.zT≠19∧y.zT≠22)from fun h=>h.2.2 t3)]; exact fin
   rw [if_neg (by simpa using t1),if_neg (by simpa using t2),if_neg (by simpa using t3),if_pos (show(y.zT≠12∧y.zT≠19∧y.zT≠22)from⟨t1,t2,t3⟩)]; rfl
theorem W5 {D:Bs→Bs×Int}:∀ {l:List El} {acc:List Att},(je D acc l).2≠0→(je D acc l).1= []
 | [],acc,h=>absurd rfl h
 | x::l,acc,h=>by
  rw [je]at h ⊢
  by_cases h1:(dh D x).2≠0
  ·rw [if_pos h1]
  ·rw [if_neg h1]at h ⊢; exact W5 h
theorem GH {D:Bs→Bs×Int} {M B:Nat} (hD:∀c:Bs,c.length≤M→(D c).1.length≤B) (hMB:M≤B) {e:El} (he:e.zq.length≤M):BdA B (dh D e).1:=by
 have hb:=kY e.zq he
 have z:BdA B A0:=⟨Nat.zero_le _,Nat.zero_le _⟩
 unfold dh
 split
 ·exact z
 split
 ·exact z
 split
 ·exact z
 rename_i x r hL
 rw [hL]at hb
 split
 ·exact z
 split
 ·exact z
 split
 ·exact z
 split
 ·exact z
 split
 ·exact z
 rename_i y s _ _ _
 exact⟨hD _ (hb.2 x (by simp)),Nat.le_trans (hb.2 _ (by simp)) hMB⟩
theorem Uy {D:Bs→Bs×Int} {M B:Nat} (hD:∀c:Bs,c.length≤M→(D c).1.length≤B) (hMB:M≤B):∀(l:List El) (acc:List Att),(∀e∈l,e.zq.length≤M)→acc.length+l.length≤B→(∀a∈acc,BdA B a)→BdR B (je D acc l).1
 | [],acc,_,h,h2=>⟨by simpa [je] using h,h2⟩
 | x::l,acc,hl,h,h2=>by
  rw [je]
  split
  ·exact⟨Nat.zero_le _,by simp⟩
  ·refine Uy hD hMB l _ (fun e he=>hl e (by simp [he])) (by rw [List.length_append,List.length_singleton]; simp only [List.length_cons]at h; omega) ?_
   intro a ha
   rcases List.mem_append.1 ha with ha|ha
   ·exact h2 a ha
   ·rw [List.mem_singleton]at ha; subst ha; exact GH hD hMB (hl x (by simp))
theorem Gv {D:Bs→Bs×Int} {M B:Nat} (hD:∀c:Bs,c.length≤M→(D c).1.length≤B) (hMB:M≤B) {e:El} (he:e.zq.length≤M):BdR B (px D e).1:=by
 have hb:=kY e.zq he
 have z:BdR B []:=⟨Nat.zero_le _,by simp⟩
 unfold px
 split
 ·exact z
 split
 ·exact z
 split
 ·exact z
 exact Uy hD hMB _ [] hb.2 (by have:=hb.1; simp only [List.length_nil]; omega) (by simp)
theorem V4 {D:Bs→Bs×Int} {M B:Nat} (hD:∀c:Bs,c.length≤M→(D c).1.length≤B) (hMB:M≤B):∀(l:List El) (acc:List (List Att)),(∀e∈l,e.zq.length≤M)→acc.length+l.length≤B→(∀a∈acc,BdR B a)→BdN B (u3 D acc l).1
 | [],acc,_,h,h2=>⟨by simpa [u3] using h,h2⟩
 | x::l,acc,hl,h,h2=>by
  rw [u3]
  split
  ·exact⟨Nat.zero_le _,by simp⟩
  ·refine V4 hD hMB l _ (fun e he=>hl e (by simp [he])) (by rw [List.length_append,List.length_singleton]; simp only [List.length_cons]at h; omega) ?_
   intro a ha
   rcases List.mem_append.1 ha with ha|ha
   ·exact h2 a ha
   ·rw [List.mem_singleton]at ha; subst ha; exact Gv hD hMB (hl x (by simp))
theorem BC {n M:Nat} {D:Bs→Bs×Int} (hD:∀c:Bs,c.length≤M→yr n c=some (D c)) (hM:M≤1000000) (hn:M+100≤n) (T:List El×Int) (hT:Bd M T.1):∀(k i:Nat) (acc:List Att),i≤T.1.length→T.1.length-i<k→acc.length≤i →
  xc n T k acc (i:Int)=some (if(je D acc (T.1.drop i)).2≠0 then .ret ([],(je D acc (T.1.drop i)).2)else .nxt (je D acc (T.1.drop i)).1)
 |0,i,_,_,h,_=>by omega
 | k + 1,i,acc,hi,hk,ha=>by
  have hl:=hT.1
  rw [xc]
  by_cases hc:i<T.1.length
  ·rw [if_pos (by rw [decide_eq_true_eq]; omega),yf hc,Option.bind_some,PA hD (hT.2 _ (List.getElem_mem hc)) hM hn,Option.bind_some,List.drop_eq_getElem_cons hc,je]
   by_cases h:(dh D T.1[i]).2≠0
   ·rw [if_pos (by simpa using h),if_pos h,if_pos h]
   ·rw [if_neg (by simpa using h),if_neg h,yZ (by rw [List.length_singleton]; omega),Option.bind_some,w1 (by omega)]
    exact BC hD hM hn T hT k (i+1) _ (by omega) (by omega) (by rw [List.length_append,List.length_singleton]; omega)
  ·rw [if_neg (by rw [decide_eq_true_eq]; omega),List.drop_eq_nil_of_le (by omega)]
   rfl
theorem nF {n M:Nat} {D:Bs→Bs×Int} (hD:∀c:Bs,c.length≤M→yr n c=some (D c)) (hM:M≤1000000) (hn:M+100≤n) {e:El} (he:e.zq.length≤M):w9 n e=some (px D e):=by
 unfold w9 px
 by_cases h1:e.zT≠49
 ·rw [if_pos (by simpa using h1),if_pos h1]
 rw [if_neg (by simpa using h1),if_neg h1,qS (by omega) (by omega),Option.bind_some]
 have hb:=kY e.zq he
 have hl:=hb.1
 by_cases h2:(tList e.zq).2≠0
 ·rw [if_pos (by simpa using h2),if_pos h2]
 rw [if_neg (by simpa using h2),if_neg h2,P9 (by omega) (by omega),Option.bind_some]
 by_cases h3:UC (tList e.zq).1=false
 ·rw [if_pos (by rw [h3]; rfl),if_pos h3]
 rw [if_neg (by simpa using h3),if_neg h3]
 have e1:=BC hD hM hn (tList e.zq) hb n 0 [] (by omega) (by omega) (by simp)
 rw [show((0:Nat):Int)=0 from rfl,List.drop_zero]at e1
 rw [e1]
 by_cases h4:(je D [] (tList e.zq).1).2≠0
 ·rw [if_pos h4]
  exact congrArg some (Prod.ext (W5 h4).symm rfl)
 ·rw [if_neg h4]
  simp only [xJ]
  have h4:(je D [] (tList e.zq).1).2=0:=by simpa using h4
  exact congrArg some (Prod.ext rfl h4.symm)
theorem J8 {n M:Nat} {D:Bs→Bs×Int} (hD:∀c:Bs,c.length≤M→yr n c=some (D c)) (hM:M≤1000000) (hn:M+100≤n) (T:List El×Int) (hT:Bd M T.1):∀(k i:Nat) (acc:List (List Att)),i≤T.1.length→T.1.length-i<k→acc.length≤i →
  wV n T k (i:Int) acc=some (if(u3 D acc (T.1.drop i)).2≠0 then .ret (⟨[]⟩,(u3 D acc (T.1.drop i)).2)else .nxt (u3 D acc (T.1.drop i)).1)
 |0,i,_,_,h,_=>by omega
 | k + 1,i,acc,hi,hk,ha=>by
  have hl:=hT.1
  rw [wV]
  by_cases hc:i<T.1.length
  ·rw [if_pos (by rw [decide_eq_true_eq]; omega),yf hc,Option.bind_some,nF hD hM hn (hT.2 _ (List.getElem_mem hc)),Option.bind_some,List.drop_eq_getElem_cons hc,u3]
   by_cases h:(px D T.1[i]).2≠0
   ·rw [if_pos (by simpa using h),if_pos h,if_pos h]
   ·rw [if_neg (by simpa using h),if_neg h,yZ (by rw [List.length_singleton]; omega),Option.bind_some,w1 (by omega)]
    exact J8 hD hM hn T hT k (i+1) _ (by omega) (by omega) (by rw [List.length_append,List.length_singleton]; omega)
  ·rw [if_neg (by rw [decide_eq_true_eq]; omega),List.drop_eq_nil_of_le (by omega)]
   rfl
theorem cp {n M:Nat} {D:Bs→Bs×Int} (hD:∀c:Bs,c.length≤M→yr n c=some (D c)) (hDl:∀c:Bs,c.length≤M→(D c).1.length≤M+252) (hM:M≤900000) (hn:M+500≤n) {b:Bs} (hb:b.length≤M):u9 n b=some (⟨(XP D b).1⟩,(XP D b).2):=by
 unfold u9 XP
 rw [Xa (by omega) (by omega),Option.bind_some]
 have ho:=B7 b
 by_cases h1:(jZ b).2≠0
 ·rw [if_pos (by simpa using h1),if_pos h1]
 rw [if_neg (by simpa using h1),if_neg h1]
 by_cases h2:(jZ b).1.zT≠48
 ·rw [if_pos (by simpa using h2),if_pos h2]
 rw [if_neg (by simpa using h2),if_neg h2,qS (by omega) (by omega),Option.bind_some]
 have hT:=kY (jZ b).1.zq (M:=M) (by omega)
 have hl:=hT.1
 generalize tList (jZ b).1.zq=T at hT hl ⊢
 by_cases h3:T.2≠0
 ·rw [if_pos (by simpa using h3),if_pos h3]
 rw [if_neg (by simpa using h3),if_neg h3]
 have e1:=J8 hD (by omega) (by omega) T hT n 0 [] (by omega) (by omega) (by simp)
 rw [show((0:Nat):Int)=0 from rfl,List.drop_zero]at e1
 rw [e1]
 by_cases h4:(u3 D [] T.1).2≠0
 ·rw [if_pos h4,if_pos h4]; rfl
 rw [if_neg h4,if_neg h4]
 simp only [xJ]
 have hbd:=V4 (B:=M+252) hDl (by omega) T.1 [] hT.2 (by simp only [List.length_nil]; omega) (by simp)
 rw [W3 hbd (by omega) (by omega),Option.bind_some]
 by_cases h5:kM (u3 D [] T.1).1≠0
 ·rw [if_pos (by simpa using h5),if_pos h5]
 ·rw [if_neg (by simpa using h5),if_neg h5]
theorem W6:∀ {l:List Att},(l.Pairwise fun a b=>leB (pB a) (pB b)=true)→UC ((l.map Wc).map elm)=true
 | [],_=>rfl
 | [_],_=>rfl
 | a::b::l,h=>by
  rw [List.pairwise_cons]at h
  have:=W6 h.2
  simp only [List.map_cons]at this ⊢
  rw [UC,this,Bool.and_true]
  have e1:(elm (Wc b)).qP=pB b:=rfl
  have e2:(elm (Wc a)).qP=pB a:=rfl
  rw [e1,e2,my,h.1 b (by simp)]; rfl
theorem QR {D:Bs→Bs×Int} (hD:∀s l,xS s=some l→D (qf l)=(s,0)) {a:Att} (h:okA a):dh D (elm (Wc a))=(a,0):=by
 obtain⟨hp,hw,l,hl,he⟩:=Xs h
 have hpe:polE a.xQ=(6,qf l):=by unfold polE; rw [hl]; rfl
 have hk:a.zV=((a.zV.toNat:Nat):Int):=by rcases VG h.2.2.1 with e|e|e<;>rw [e]<;>rfl
 have hc:(elm (Wc a)).zq=wraps (Xc a):=rfl
 unfold dh
 rw [if_neg (show ¬(elm (Wc a)).zT≠48 from fun h=>h rfl),hc,vb hp]
 simp only [Xc,List.map_cons,List.map_nil,hpe]
 rw [if_neg (by simp),if_neg (show ¬(elm (6,qf l)).zT≠6 from fun h=>h rfl),show(elm (6,qf l)).zq=qf l from rfl,hD _ _ hl,if_neg (by simp)]
 have ht:(elm (a.zV.toNat,a.wQ)).zT=a.zV:=hk.symm
 rw [ht,if_neg (by rcases VG h.2.2.1 with e|e|e<;>rw [e]<;>simp),if_neg (by simp)]
 rfl
theorem Xp {D:Bs→Bs×Int} (hD:∀s l,xS s=some l→D (qf l)=(s,0)):∀(r:List Att) (acc:List Att),(∀a∈r,okA a)→je D acc ((r.map Wc).map elm)=(acc++r,0)
 | [],acc,_=>by simp [je]
 | a::r,acc,h=>by
  simp only [List.map_cons]
  rw [je,QR hD (h a (by simp)),if_neg (by simp)]
  have:=Xp hD r (acc ++ [a]) (fun x hx=>h x (by simp [hx]))
  rw [this,List.append_assoc,List.singleton_append]
theorem Ke {D:Bs→Bs×Int} (hD:∀s l,xS s=some l→D (qf l)=(s,0)) {r:List Att} (h:okR r):px D (elm (kZ r))=(jH r,0):=by
 have ho:=Xz h
 have hc:(elm (kZ r)).zq=wraps ((jH r).map Wc):=rfl
 have hp:∀p∈(jH r).map Wc,POk p:=by
  intro p hp; obtain⟨a,ha,rfl⟩:=List.mem_map.1 hp; exact Ge (ho.2.2.1 a ha)
 unfold px
 rw [if_neg (show ¬(elm (kZ r)).zT≠49 from fun h=>h rfl),hc,vb hp,if_neg (by simp)]
 simp only []
 rw [W6 (Yv r),if_neg (by simp),Xp hD _ [] ho.2.2.1,List.nil_append]
theorem XZ {D:Bs→Bs×Int} (hD:∀s l,xS s=some l→D (qf l)=(s,0)):∀(l:List (List Att)) (acc:List (List Att)),(∀r∈l,okR r)→u3 D acc ((l.map kZ).map elm)=(acc++ZJ l,0)
 | [],acc,_=>by simp [u3,ZJ]
 | r::l,acc,h=>by
  simp only [List.map_cons]
  rw [u3,Ke hD (h r (by simp)),if_neg (by simp)]
  have:=XZ hD l (acc ++ [jH r]) (fun x hx=>h x (by simp [hx]))
  rw [this,List.append_assoc,List.singleton_append]
theorem Xb {D:Bs→Bs×Int} (hD:∀s l,xS s=some l→D (qf l)=(s,0)) {l:List (List Att)} (h:okN l):XP D (tWrap (wc l).1 (wc l).2).1=(ZJ l,0):=by
 have hn:=Ux h
 have hp:∀p∈l.map kZ,POk p:=by
  intro p hp; obtain⟨r,hr,rfl⟩:=List.mem_map.1 hp; exact Be (h.2 r hr)
 have hc:(wc l).2=wraps (l.map kZ):=rfl
 unfold XP
 rw [pN hn.1 hn.2.1 hn.2.2]
 simp only []
 rw [if_neg (by simp),if_neg (show ¬((wc l).1:Int)≠48 from fun h=>h rfl),hc,vb hp]
 simp only []
 rw [if_neg (by simp),XZ hD l [] h.2]
 simp only [List.nil_append]
 rw [if_neg (by simp),if_neg (by rw [gg.2 (Xn h)]; simp)]
def lN:Bs:= [49,46,51,46,54,46,49,46,52,46,49,46,53,56,56,56,56,46,49,46,49]
theorem Pd:xS lN=some [1,3,6,1,4,1,58888,1,1]:=by kernel_rfl
theorem PC:qf [1,3,6,1,4,1,58888,1,1]=XG:=by kernel_rfl
theorem nG {D:Bs→Bs×Int} (hD:∀s l,xS s=some l→D (qf l)=(s,0)):D XG=(lN,0):=by
 rw [←PC]; exact hD _ _ Pd
theorem Gk {n M:Nat} {D:Bs→Bs×Int} (hD:∀c:Bs,c.length≤M→yr n c=some (D c)) (hB:∀s l,xS s=some l→D (qf l)=(s,0)) (hM:100≤M) (hn:M+100≤n):wA n (elm Z8)=some 0:=by
 unfold wA
 have hc:(elm Z8).zq=wraps [(6,XG)]:=rfl
 have hw:(wraps [(6,XG)]).length≤50:=by decide
 have hp:∀p∈ [((6,XG):Nat×Bs)],POk p:=by
  intro p hp; rw [List.mem_singleton]at hp; subst hp; exact⟨by dsimp only; decide,by dsimp only; decide,by dsimp only; decide⟩
 rw [if_neg (show ¬((elm Z8).zT !=48)=true by decide),hc,qS (by omega) (by omega),Option.bind_some,vb hp]
 have k0:z6 (([((6,XG):Nat×Bs)].map elm,(0:Int)):List El×Int).1 0=some (elm (6,XG)):=rfl
 have hcc:(elm (6,XG)).zq=XG:=rfl
 rw [if_neg (by simp),if_neg (by simp),k0,Option.bind_some,if_neg (show ¬((elm (6,XG)).zT !=6)=true by decide),Option.bind_some,hcc,hD _ (by show XG.length≤M; have:XG.length=10:=(by decide); omega),Option.bind_some,nG hB]
 rfl
theorem KS {n:Nat} (s:Bs):qH n (0::s)=some (s,0,0):=by
 unfold qH
 have k0:uE (0::s) 0=some 0:=rfl
 have k1:ssl (0::s) 1 ((0::s).length:Nat)=some s:=by
  have:=bJ (s:=0::s) (i:=1) (j:=(0::s).length) (by simp) (by simp)
  rw [show((1:Nat):Int)=1 from rfl]at this
  rw [this]; simp
 rw [if_neg (by simp),k0,Option.bind_some,k1,if_neg (by decide)]
 rfl
theorem PX {k:zv} (h:okK k=true) {s:Bs} (hs:s=o8 k.zA.toNat::(k.xL++k.zY)):uE s 0=some k.zA∧ssl s 1 17=some k.xL∧ssl s 17 (s.length:Nat)=some k.zY∧s.length=33:=by
 obtain⟨h1,h2,h3,h4⟩:=Vw.1 h
 have hl:s.length=33:=by rw [hs]; simp [h3,h4]
 refine⟨?_, ?_, ?_,hl⟩
 ·rw [hs]
  show some (((o8 k.zA.toNat).toNat:Nat):Int)=_
  rw [py (by omega)]; congr 1; omega
 ·have:=bJ (s:=s) (i:=1) (j:=17) (by omega) (by omega)
  rw [show((1:Nat):Int)=1 from rfl,show((17:Nat):Int)=17 from rfl]at this
  rw [this,hs,List.take_succ_cons,List.drop_succ_cons,List.drop_zero,←h3,List.take_left]
 ·have:=bJ (s:=s) (i:=17) (j:=s.length) (by omega) (by omega)
  rw [show((17:Nat):Int)=17 from rfl]at this
  rw [this,List.take_length,hs,List.drop_succ_cons,←h3,List.drop_left]
theorem Ki {n M:Nat} {D:Bs→Bs×Int} (hD:∀c:Bs,c.length≤M→yr n c=some (D c)) (hB:∀s l,xS s=some l→D (qf l)=(s,0)) (hM:100≤M) (hn:M+100≤n) {k:zv} (h:okK k=true):jc n (tWrap (gx k).1 (gx k).2).1=some (k,0):=by
 obtain⟨hp,hw⟩:=Yk k h
 have hk:=BP h
 have hwl:=yd (gx k).1 (gx k).2
 have hc:(gx k).2=wraps (Ys k):=rfl
 unfold jc
 rw [Xa (by have:(gx k).2.length≤60:=hw; omega) (by omega),Option.bind_some,pN hk.1 hk.2.1 hk.2.2]
 simp only []
 rw [if_neg (by simp),if_neg (show ¬(((gx k).1:Int) !=48)=true by show ¬(((48:Nat):Int) !=48)=true; decide),hc,qS (by omega) (by omega),Option.bind_some,vb hp]
 have e0:(Ys k).map elm= [elm Z8,elm (3,0::o8 k.zA.toNat::(k.xL++k.zY))]:=rfl
 rw [e0]
 simp only []
 have k0:z6 [elm Z8,elm (3,0::o8 k.zA.toNat::(k.xL++k.zY))] 0=some (elm Z8):=rfl
 rw [if_neg (by simp),if_neg (by simp),k0,Option.bind_some]
 unfold vg
 rw [Gk hD hB hM hn]
 simp only [Option.bind_some]
 rw [if_neg (by decide),Ue,Option.bind_some,if_neg (by simp)]
 have k1:z6 [elm (3,0::o8 k.zA.toNat::(k.xL++k.zY))] 0=some (elm (3,0::o8 k.zA.toNat::(k.xL++k.zY))):=rfl
 rw [k1,Option.bind_some]
 unfold uz
 have hcc:(elm (3,0::o8 k.zA.toNat::(k.xL++k.zY))).zq=0::o8 k.zA.toNat::(k.xL++k.zY):=rfl
 obtain⟨c1,c2,c3,c4⟩:=PX h (s:=o8 k.zA.toNat::(k.xL++k.zY)) rfl
 obtain⟨g1,g2,_,_⟩:=Vw.1 h
 rw [if_neg (show ¬((elm (3,0::o8 k.zA.toNat::(k.xL++k.zY))).zT !=3)=true from by show ¬(((3:Nat):Int) !=3)=true; decide),hcc,KS,Option.bind_some]
 simp only []
 rw [if_neg (by decide),if_neg (by decide),Option.bind_some,if_neg (by rw [c4]; decide),c1,Option.bind_some,c2,Option.bind_some,c3,Option.bind_some,wt (by omega),Do,if_pos (show okK ⟨k.zA,k.xL,k.zY⟩=true from h),Option.bind_some,Option.bind_some]
 simp only []
 rw [if_neg (by decide),Ue,Option.bind_some]
 rfl
end Go.Abs
end
