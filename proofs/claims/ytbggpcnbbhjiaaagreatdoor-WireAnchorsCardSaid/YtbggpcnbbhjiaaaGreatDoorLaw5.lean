/- The typed Lean form of WireAnchors gives true for every list of at most 9223372036854775807 numbers and every such list of anchors. -/
import Derived.Test.YtbggpcnbbhjiaaaGreatDoorLaw4
set_option linter.unusedVariables false
set_option linter.unusedSimpArgs false
set_option linter.unnecessarySimpa false
section
set_option maxRecDepth 100000
namespace Go.Abs
open Go Go.Proofs
theorem Yt (r:List Att):(qI r).Pairwise fun a b=>leB (gY a) (gY b)=true:=
 List.pairwise_mergeSort (le:=fun a b=>leB (gY a) (gY b)) (fun _ _ _ h1 h2=>We _ _ _ h1 h2) (fun _ _=>X4 _ _) r
theorem QF (r:List Att):qI (qI r)=qI r:=List.mergeSort_of_pairwise (Yt r)
abbrev Kv (l:List (List Att)):List (List Att):=l.map qI
theorem QZ {l:List (List Att)} (h:okN l):okN (Kv l):=by
 refine⟨by rw [List.length_map]; exact h.1,fun r hr=> ?_⟩
 obtain⟨q,hq,rfl⟩:=List.mem_map.1 hr
 exact V7 (h.2 q hq)
theorem Kr (l:List (List Att)):vw (Kv l)=vw l:=by
 unfold vw
 rw [List.map_map]
 have:l.map (q9∘qI)=l.map q9:=List.map_congr_left fun r _=>by simp only [Function.comp,q9,QF]
 rw [this]
theorem Pg {a:Att} (h:okA a):POk (XI a):=
 ⟨by show(48:Nat)≤255; omega,by show(48:Nat)%32≠31; omega,by have:=(Xt h).2.1; show(yh (Xg a)).length≤_; omega⟩
theorem PR {r:List Att} (h:okR r):POk (q9 r):=
 ⟨by show(49:Nat)≤255; omega,by show(49:Nat)%32≠31; omega,by have:=ZT h; omega⟩
theorem Qw {l:List (List Att)} (h:okN l):POk (vw l):=
 ⟨by show(48:Nat)≤255; omega,by show(48:Nat)%32≠31; omega,by have:=bP h; omega⟩
theorem cM {a:Att} (h:okA a):BdA 252 a:=⟨Wr h.1,by have:=h.2.2.2; omega⟩
theorem c8 {r:List Att} (h:okR r):BdR 252 r:=⟨by have:=h.2.1; omega,fun a ha=>cM (h.2.2.1 a ha)⟩
theorem ez {l:List (List Att)} (h:okN l):BdN 252 l:=⟨by have:=h.1; omega,fun r hr=>c8 (h.2 r hr)⟩
theorem BdA.mono {A B:Nat} {a:Att} (hAB:A≤B) (h:BdA A a):BdA B a:=⟨Nat.le_trans h.1 hAB,Nat.le_trans h.2 hAB⟩
theorem BdR.mono {A B:Nat} {a:List Att} (hAB:A≤B) (h:BdR A a):BdR B a:=⟨Nat.le_trans h.1 hAB,fun x hx=>(h.2 x hx).mono hAB⟩
theorem BdN.mono {A B:Nat} {a:List (List Att)} (hAB:A≤B) (h:BdN A a):BdN B a:=⟨Nat.le_trans h.1 hAB,fun x hx=>(h.2 x hx).mono hAB⟩
abbrev Anc:=zd
theorem Za (k:zo) (h:okK k=true):(∀p∈pU k,POk p)∧(yh (pU k)).length≤60:=by
 obtain⟨h1,h2,h3,h4⟩:=Yf.1 h
 have ha:qP.2.length=12:=by decide
 have hl:(0::o8 k.zq.toNat::(k.xM++k.zR):Bs).length=34:=by simp [h3,h4]
 refine⟨?_, ?_⟩
 ·intro p hp
  simp only [pU,List.mem_cons,List.not_mem_nil,or_false]at hp
  rcases hp with rfl|rfl
  ·exact⟨by decide,by decide,by omega⟩
  ·exact⟨by dsimp only; decide,by dsimp only; decide,by dsimp only; omega⟩
 ·have t1:=yX qP.1 qP.2
  have t2:=yX 3 (0::o8 k.zq.toNat::(k.xM++k.zR))
  simp only [pU,yh,List.map_cons,List.map_nil,List.flatten_cons,List.flatten_nil,List.append_nil,List.length_append]
  omega
theorem Jd {k:zo} (h:okK k=true):POk (jB k):=
 ⟨by show(48:Nat)≤255; omega,by show(48:Nat)%32≠31; omega,by have:=(Za k h).2; show(yh (pU k)).length≤_; omega⟩
def kT (a:Anc):Int:=if uj a.zS.zl≠0 then uj a.zS.zl else if a.zS.zl= []then 14 else if okK a.zJ=true then 0 else 18
def jp:List Anc→Int
 | []=>0
 |a::l=>if kT a≠0 then kT a else jp l
def Yl (a:Anc):List (Nat×Bs):= [vw a.zS.zl,jB a.zJ]
def ancE (a:Anc):Nat×Bs:=(48,yh (Yl a))
def pV (a:Anc):Prop:=okN a.zS.zl∧a.zS.zl≠ []∧okK a.zJ=true
theorem Va {a:Anc}:kT a=0↔pV a:=by
 unfold kT pV
 rw [←dL]
 by_cases h1:uj a.zS.zl≠0
 ·rw [if_pos h1]; exact⟨fun h=>absurd h h1,fun h=>absurd h.1 h1⟩
 rw [if_neg h1]
 have h1:uj a.zS.zl=0:=by simpa using h1
 by_cases h2:a.zS.zl= []
 ·rw [if_pos h2]; exact⟨fun h=>by simp at h,fun h=>absurd h2 h.2.1⟩
 rw [if_neg h2]
 by_cases h3:okK a.zJ=true
 ·rw [if_pos h3]; exact⟨fun _=>⟨h1,h2,h3⟩,fun _=>rfl⟩
 ·rw [if_neg h3]; exact⟨fun h=>by simp at h,fun h=>absurd h.2.2 h3⟩
theorem ZQ:∀ {l:List Anc},jp l=0↔∀a∈l,pV a
 | []=>by simp [jp]
 | a::l=>by
  rw [jp]
  by_cases h:kT a=0
  ·rw [if_neg (by simpa using h),ZQ]
   rw [Va]at h
   simp [h]
  ·rw [if_pos h]
   constructor
   ·intro e; exact absurd e h
   ·intro e; exact absurd (Va.2 (e a (by simp))) h
theorem pd {a:Anc} (h:pV a):(∀p∈Yl a,POk p)∧(yh (Yl a)).length≤4398:=by
 have k1:=bP h.1
 have k2:=(Za a.zJ h.2.2).2
 refine⟨?_, ?_⟩
 ·intro p hp
  simp only [Yl,List.mem_cons,List.not_mem_nil,or_false]at hp
  rcases hp with rfl|rfl
  ·exact Qw h.1
  ·exact Jd h.2.2
 ·have t1:=yX (vw a.zS.zl).1 (vw a.zS.zl).2
  have t2:=yX 48 (yh (pU a.zJ))
  have e:jB a.zJ=(48,yh (pU a.zJ)):=rfl
  simp only [Yl,yh,List.map_cons,List.map_nil,List.flatten_cons,List.flatten_nil,List.append_nil,List.length_append,e]at *
  omega
theorem Jp {a:Anc} (h:pV a):POk (ancE a):=
 ⟨by show(48:Nat)≤255; omega,by show(48:Nat)%32≠31; omega,by have:=(pd h).2; show(yh (Yl a)).length≤_; omega⟩
def qW (l:List Anc):Bs×Int:=
 if 64<l.length then([],2)else if jp l≠0 then([],jp l)else if 131072<(yh (l.map ancE)).length then([],2)else((tWrap 48 (yh (l.map ancE))).1,0)
def Y3 (a:Anc):Anc:=⟨⟨Kv a.zS.zl⟩,a.zJ⟩
theorem GQ {a:Anc} (h:pV a):pV (Y3 a):=⟨QZ h.1,fun e=>h.2.1 (by simpa [Y3,Kv] using e),h.2.2⟩
theorem Gi (a:Anc):ancE (Y3 a)=ancE a:=by
 unfold ancE Yl Y3; simp only [Kr]
theorem ZZ {l:List Anc} {b:Bs} (h:qW l=(b,0)):l.length≤64∧(∀a∈l,pV a)∧(yh (l.map ancE)).length≤131072∧b=(tWrap 48 (yh (l.map ancE))).1:=by
 unfold qW at h
 by_cases h1:64<l.length
 ·rw [if_pos h1]at h; simp at h
 rw [if_neg h1]at h
 by_cases h2:jp l≠0
 ·rw [if_pos h2]at h; injection h with _ h; exact absurd h h2
 rw [if_neg h2]at h
 by_cases h3:131072<(yh (l.map ancE)).length
 ·rw [if_pos h3]at h; simp at h
 rw [if_neg h3]at h
 injection h with h _
 exact⟨by omega,ZQ.1 (by simpa using h2),by omega,h.symm⟩
theorem Pd {l:List Anc} (h1:l.length≤64) (h2:∀a∈l,pV a) (h3:(yh (l.map ancE)).length≤131072):qW l=((tWrap 48 (yh (l.map ancE))).1,0):=by
 unfold qW
 rw [if_neg (by omega),if_neg (by rw [ZQ.2 h2]; simp),if_neg (by omega)]
theorem Uz {l:List Anc} {b:Bs} (h:qW l=(b,0)):qW (l.map Y3)=(b,0):=by
 obtain⟨h1,h2,h3,h4⟩:=ZZ h
 have e:(l.map Y3).map ancE=l.map ancE:=by
  rw [List.map_map]; exact List.map_congr_left fun a _=>Gi a
 rw [Pd (by rw [List.length_map]; exact h1) (fun a ha=>by obtain⟨x,hx,rfl⟩:=List.mem_map.1 ha; exact GQ (h2 x hx)) (by rw [e]; exact h3),e,h4]
theorem DI (l:List Anc):(qW l).1.length≤131077:=by
 unfold qW
 repeat' split
 all_goals first|exact Nat.zero_le _|skip
 rename_i h
 have:=yX 48 (yh (l.map ancE))
 show(tWrap 48 (yh (l.map ancE))).1.length≤_
 omega
theorem ng (v:Nat):b2s ([IntKind.wrap .u8 (v:Int)]:List Int)= [o8 v]:=by
 show [UInt8.ofNat (IntKind.wrap .u8 (v:Int)).toNat]=_
 rw [jS]
theorem Ga {n:Nat} {k:zo} (hn:100≤n):uR n k=some (if okK k=true then((tWrap (jB k).1 (jB k).2).1,0)else([],18)):=by
 unfold uR
 rw [cP,Option.bind_some]
 by_cases h:okK k=true
 ·rw [if_pos h,if_pos h,if_neg (by decide)]
  obtain⟨h1,h2,h3,h4⟩:=Yf.1 h
  have hv:k.zq=((k.zq.toNat:Nat):Int):=by omega
  have hb:b2s ([IntKind.wrap .u8 k.zq]:List Int)= [o8 k.zq.toNat]:=by
   conv=>lhs; rw [hv]
   exact ng _
  have hc:jn n k=some (o8 k.zq.toNat::(k.xM++k.zR)):=by
   unfold jn
   rw [hb,yC (by rw [h3]; simp),Option.bind_some,yC (by rw [List.length_append,h3,h4]; simp),Option.bind_some]
   rfl
  have hs:qx n (o8 k.zq.toNat::(k.xM++k.zR)) 0=some (0::o8 k.zq.toNat::(k.xM++k.zR),0):=by
   unfold qx qA
   rw [if_neg (by decide),Option.bind_some,if_neg (by decide),if_pos (by decide),Option.bind_some,if_neg (by decide),show b2s ([IntKind.wrap .u8 0]:List Int)= [0]from rfl,yC (by simp [h3,h4]),Option.bind_some]
   rfl
  have hl:(0::o8 k.zq.toNat::(k.xM++k.zR):Bs).length=34:=by simp [h3,h4]
  have ha:qP.2.length=12:=by decide
  have t1:=yX qP.1 qP.2
  have t2:=yX 3 (0::o8 k.zq.toNat::(k.xM++k.zR))
  rw [hc,Option.bind_some,hs,Option.bind_some,if_neg (by simp),show(3:Int)=((3:Nat):Int)from rfl,V0 (by omega) (by omega) (by dsimp only; omega) (by omega),Option.bind_some,gj (t:=3) (by dsimp only; omega),if_neg (by simp),ms hn,Option.bind_some,show(48:Int)=((48:Nat):Int)from rfl]
  have hf:([(tWrap qP.1 qP.2).1,(tWrap 3 (0::o8 k.zq.toNat::(k.xM++k.zR))).1]:List Bs).flatten=yh (pU k):=by
   simp only [pU,yh,List.map_cons,List.map_nil]
  have hk:=(Za k h).2
  rw [Y5 (by omega) (by omega) (by intro c hc; simp only [List.mem_cons,List.not_mem_nil,or_false]at hc; rcases hc with rfl|rfl<;>omega) (by simp only [List.length_cons,List.length_nil]; omega) (by simp),hf,gj (t:=48) (by omega)]
  rfl
 ·rw [if_neg h,if_neg h,if_pos (by decide)]
theorem PE {n:Nat} {k:zo} (hn:100≤n):wJ n k=some (if okK k=true then((tWrap (jB k).1 (jB k).2).1,0)else([],18)):=by
 unfold wJ
 rw [ct,Option.bind_some]
 by_cases h:okK k=true
 ·rw [if_pos h,if_pos h,if_neg (by decide)]
  obtain⟨h1,h2,h3,h4⟩:=Yf.1 h
  have hv:k.zq=((k.zq.toNat:Nat):Int):=by omega
  have hb:ud n k.zq=some [o8 k.zq.toNat]:=by
   rw [hv]
   have:∀v:Nat,v≤8→ud n (v:Int)=some [o8 v]:=by
    intro v hv
    have:=List.all_eq_true.1 (show((List.range 9).all fun v:Nat=>decide (ud n (v:Int)=some [o8 v]))=true by kernel_rfl) v (by simp; omega)
    simpa using this
   rw [this _ (by omega)]; rfl
  have hc:uF n k=some (o8 k.zq.toNat::(k.xM++k.zR)):=by
   unfold uF
   rw [hb,Option.bind_some,yC (by rw [h3]; simp),Option.bind_some,yC (by rw [List.length_append,h3,h4]; simp),Option.bind_some]
   rfl
  have hl:(0::o8 k.zq.toNat::(k.xM++k.zR):Bs).length=34:=by simp [h3,h4]
  have ha:qP.2.length=12:=by decide
  have t1:=yX qP.1 qP.2
  have t2:=yX 3 (0::o8 k.zq.toNat::(k.xM++k.zR))
  rw [mC hn,Option.bind_some,hc,Option.bind_some,yC (by simp [h3,h4]),Option.bind_some,show(3:Int)=((3:Nat):Int)from rfl,List.singleton_append,UH (by omega) (by omega) (by omega) (by omega),Option.bind_some,show(48:Int)=((48:Nat):Int)from rfl]
  have hf:([(tWrap qP.1 qP.2).1,(tWrap 3 (0::o8 k.zq.toNat::(k.xM++k.zR))).1]:List Bs).flatten=yh (pU k):=by
   simp only [pU,yh,List.map_cons,List.map_nil]
  have hk:=(Za k h).2
  rw [KX (by omega) (by omega) (by rw [hf]; omega) (by simp only [List.length_cons,List.length_nil]; omega) (by simp),hf]
  rfl
 ·rw [if_neg h,if_neg h,if_pos (by decide)]
def BdL (B:Nat) (l:List Anc):Prop:=∀a∈l,BdN B a.zS.zl
theorem na {n B:Nat} {a:Anc} {b:Bs} (h:pV a) (hb:BdN B a.zS.zl) (hB:B≤1000000) (hn:B+100≤n) (hl:b.length≤1000000000):ww n a ⟨b,0⟩=some ⟨b++(tWrap (ancE a).1 (ancE a).2).1,0⟩:=by
 unfold ww
 have k1:=bP h.1
 have k2:=(Za a.zJ h.2.2).2
 have k3:=(pd h).2
 have t1:=yX 48 (vw a.zS.zl).2
 have t2:=yX (jB a.zJ).1 (jB a.zJ).2
 have e2:(jB a.zJ).2=yh (pU a.zJ):=rfl
 rw [e2]at t2
 have e0:Wt a.zS.zl=((tWrap 48 (vw a.zS.zl).2).1,0):=by unfold Wt; rw [if_neg (by rw [dL.2 h.1]; simp)]
 rw [GK hb hB hn,Option.bind_some,e0,PP (by simp only [List.length_nil]; omega),Option.bind_some,Ga (k:=⟨a.zJ.zq,a.zJ.xM,a.zJ.zR⟩) (by omega),Option.bind_some,if_pos (show okK ⟨a.zJ.zq,a.zJ.xM,a.zJ.zR⟩=true from h.2.2),List.nil_append]
 have e1:(tWrap (jB ⟨a.zJ.zq,a.zJ.xM,a.zJ.zR⟩).1 (jB ⟨a.zJ.zq,a.zJ.xM,a.zJ.zR⟩).2).1=(tWrap (jB a.zJ).1 (jB a.zJ).2).1:=rfl
 simp only []
 rw [e1,e2,PP (by omega),Option.bind_some]
 simp only []
 rw [PP (by simp only [List.length_nil]; omega),Option.bind_some,List.append_nil]
 have hf:(tWrap 48 (vw a.zS.zl).2).1++(tWrap (jB a.zJ).1 (yh (pU a.zJ))).1=yh (Yl a):=by
  simp only [Yl,yh,List.map_cons,List.map_nil,List.flatten_cons,List.flatten_nil,List.append_nil]
  rfl
 rw [hf,show(48:Int)=((48:Nat):Int)from rfl,fW (by omega) (by omega) (by omega) (by omega),Option.bind_some,gj (t:=48) (by omega)]
 rfl
theorem JJ {n B:Nat} (l:List Anc) (hb:BdL B l) (hB:B≤1000000) (hn:B+100≤n) (hl:l.length≤64):∀(k i:Nat),i≤l.length→l.length-i<k→xQ n l k (i:Int)=some (if jp (l.drop i)≠0 then .ret ([],jp (l.drop i))else .nxt ())
 |0,i,_,h=>by omega
 | k + 1,i,hi,hk=>by
  rw [xQ]
  by_cases hc:i<l.length
  ·rw [if_pos (by rw [decide_eq_true_eq]; omega),ye hc,Option.bind_some,Db (hb _ (List.getElem_mem hc)) hB hn,Option.bind_some,List.drop_eq_getElem_cons hc,jp]
   unfold kT
   by_cases h1:uj l[i].zS.zl≠0
   ·rw [if_pos (by simpa using h1),if_pos h1,if_pos h1,if_pos h1]
   rw [if_neg (by simpa using h1),if_neg h1]
   by_cases h2:l[i].zS.zl= []
   ·rw [if_pos (by rw [h2]; rfl),if_pos h2]; rfl
   rw [if_neg (by simpa using h2),if_neg h2,Ga (k:=⟨l[i].zJ.zq,l[i].zJ.xM,l[i].zJ.zR⟩) (by omega),Option.bind_some,show okK ⟨l[i].zJ.zq,l[i].zJ.xM,l[i].zJ.zR⟩=okK l[i].zJ from rfl]
   by_cases h3:okK l[i].zJ=true
   ·rw [if_pos h3,if_pos h3,if_neg (by simp),if_neg (show ¬((0:Int)≠0)by simp),w1 (by omega)]
    exact JJ l hb hB hn hl k (i+1) (by omega) (by omega)
   ·rw [if_neg h3,if_neg h3,if_pos (by simp),if_pos (show((18:Int)≠0)by simp),if_pos (show((18:Int)≠0)by simp)]
  ·rw [if_neg (by rw [decide_eq_true_eq]; omega),List.drop_eq_nil_of_le (by omega)]
   rfl
theorem QD {n B:Nat} (l:List Anc) (ho:∀a∈l,pV a) (hb:BdL B l) (hB:B≤1000000) (hn:B+100≤n) (hl:l.length≤64):∀(k i:Nat) (b:Bs),i≤l.length→l.length-i<k→b.length≤4403*i→xP n l k (i:Int) b 0=some (b++yh ((l.drop i).map ancE),0)
 |0,i,_,_,h,_=>by omega
 | k+1,i,b,hi,hk,hbl=>by
  rw [xP]
  by_cases hc:i<l.length
  ·have hx:=List.getElem_mem hc
   have k3:=(pd (ho _ hx)).2
   have t1:=yX (ancE l[i]).1 (ancE l[i]).2
   have e2:(ancE l[i]).2=yh (Yl l[i]):=rfl
   rw [←e2]at k3
   rw [if_pos (by rw [decide_eq_true_eq]; omega),ye hc,Option.bind_some,show ww n ⟨⟨l[i].zS.zl⟩,⟨l[i].zJ.zq,l[i].zJ.xM,l[i].zJ.zR⟩⟩ ⟨b,0⟩=_ from na (a:=l[i]) (ho _ hx) (hb _ hx) hB hn (by omega),Option.bind_some,w1 (by omega)]
   simp only []
   rw [QD l ho hb hB hn hl k (i+1) _ (by omega) (by omega) (by rw [List.length_append]; omega),List.drop_eq_getElem_cons hc,List.map_cons,Zc,List.append_assoc]
  ·rw [if_neg (by rw [decide_eq_true_eq]; omega),List.drop_eq_nil_of_le (by omega)]
   simp [yh]
theorem Vz {l:List Anc} (ho:∀a∈l,pV a):(yh (l.map ancE)).length≤4403*l.length:=by
 have:=UA (m:=4398) (l.map ancE) (fun p hp=>by obtain⟨a,ha,rfl⟩:=List.mem_map.1 hp; exact(pd (ho a ha)).2)
 rw [List.length_map]at this; exact this
theorem Kg {n B:Nat} {l:List Anc} (hb:BdL B l) (hB:B≤1000000) (hn:B+500≤n):xU n l=some (qW l):=by
 unfold xU qW
 by_cases h1:64<l.length
 ·rw [if_pos (by rw [decide_eq_true_eq]; omega),if_pos h1]
 rw [if_neg (by rw [decide_eq_true_eq]; omega),if_neg h1]
 have e1:=JJ (n:=n) l hb hB (by omega) (by omega) n 0 (by omega) (by omega)
 rw [show((0:Nat):Int)=0 from rfl,List.drop_zero]at e1
 rw [e1]
 by_cases h2:jp l≠0
 ·rw [if_pos h2,if_pos h2]; rfl
 rw [if_neg h2,if_neg h2]
 simp only [ym]
 have ho:=ZQ.1 (show jp l=0 by simpa using h2)
 have e2:=QD (n:=n) l ho hb hB (by omega) (by omega) n 0 [] (by omega) (by omega) (by simp)
 rw [show((0:Nat):Int)=0 from rfl,List.drop_zero,List.nil_append]at e2
 have hw:=Vz ho
 rw [e2,Option.bind_some]
 simp only []
 rw [DJ (by omega) (by omega),Option.bind_some]
 split<;>rfl
theorem JK {n B:Nat} (l:List Anc) (hb:BdL B l) (hB:B≤1000000) (hn:B+100≤n) (hl:l.length≤64):∀(k i:Nat) (b:Bs),i≤l.length→l.length-i<k→b.length≤4403*i→yl n l k b (i:Int)=some (if jp (l.drop i)≠0 then .ret ([],jp (l.drop i))else .nxt (b++yh ((l.drop i).map ancE)))
 |0,i,_,_,h,_=>by omega
 | k + 1,i,b,hi,hk,hbl=>by
  rw [yl]
  by_cases hc:i<l.length
  ·have hx:=List.getElem_mem hc
   rw [if_pos (by rw [decide_eq_true_eq]; omega),ye hc,Option.bind_some,List.drop_eq_getElem_cons hc,jp,List.map_cons,Zc]
   have key:xY n ⟨⟨l[i].zS.zl⟩,⟨l[i].zJ.zq,l[i].zJ.xM,l[i].zJ.zR⟩⟩=some (if kT l[i]≠0 then([],kT l[i])else((tWrap (ancE l[i]).1 (ancE l[i]).2).1,0)):=by
    unfold xY vm
    simp only []
    rw [D5 (hb _ hx) hB hn,Option.bind_some]
    by_cases h1:uj l[i].zS.zl≠0
    ·have ea:kT l[i]=uj l[i].zS.zl:=by unfold kT; rw [if_pos h1]
     rw [if_pos (by simpa using h1),Option.bind_some,ea,if_pos (by simpa using h1),if_pos h1]
    rw [if_neg (by simpa using h1)]
    have h1':uj l[i].zS.zl=0:=by simpa using h1
    by_cases h2:l[i].zS.zl= []
    ·have ea:kT l[i]=14:=by unfold kT; rw [if_neg h1,if_pos h2]
     rw [if_pos (by rw [h2]; rfl),Option.bind_some,ea,if_pos (by decide),if_pos (by decide)]
    have e0:Wt l[i].zS.zl=((tWrap 48 (vw l[i].zS.zl).2).1,0):=by unfold Wt; rw [if_neg h1]
    rw [if_neg (by simpa using h2),Option.bind_some,if_neg (by decide),JN (hb _ hx) hB hn,Option.bind_some,e0,PE (k:=⟨l[i].zJ.zq,l[i].zJ.xM,l[i].zJ.zR⟩) (by omega),Option.bind_some,show okK ⟨l[i].zJ.zq,l[i].zJ.xM,l[i].zJ.zR⟩=okK l[i].zJ from rfl]
    by_cases h3:okK l[i].zJ=true
    ·have ok:pV l[i]:=⟨dL.1 h1',h2,h3⟩
     have k3:=(pd ok).2
     have hf:([(tWrap 48 (vw l[i].zS.zl).2).1,(tWrap (jB l[i].zJ).1 (jB l[i].zJ).2).1]:List Bs).flatten=yh (Yl l[i]):=by
      simp only [Yl,yh,List.map_cons,List.map_nil]
      rfl
     rw [if_pos h3,if_neg (by simp),if_neg (by rw [Va.2 ok]; simp),show(48:Int)=((48:Nat):Int)from rfl]
     rw [show([(((tWrap 48 (vw l[i].zS.zl).2).1,(0:Int)):Bs×Int).1,(((tWrap (jB ⟨l[i].zJ.zq,l[i].zJ.xM,l[i].zJ.zR⟩).1 (jB ⟨l[i].zJ.zq,l[i].zJ.xM,l[i].zJ.zR⟩).2).1,(0:Int)):Bs×Int).1]:List Bs)= [(tWrap 48 (vw l[i].zS.zl).2).1,(tWrap (jB l[i].zJ).1 (jB l[i].zJ).2).1]from rfl]
     rw [KX (by omega) (by omega) (by rw [hf]; omega) (by simp only [List.length_cons,List.length_nil]; omega) (by simp),hf]
     rfl
    ·have ea:kT l[i]=18:=by unfold kT; rw [if_neg h1,if_neg h2,if_neg h3]
     rw [if_neg h3,if_pos (by simp),ea,if_pos (by decide)]
   rw [key,Option.bind_some]
   by_cases h:kT l[i]≠0
   ·rw [if_pos h,if_pos (by simpa using h),if_pos h,if_pos h]
   ·have ok:pV l[i]:=Va.1 (by simpa using h)
    have k3:=(pd ok).2
    have t1:=yX (ancE l[i]).1 (ancE l[i]).2
    have e2:(ancE l[i]).2=yh (Yl l[i]):=rfl
    rw [←e2]at k3
    rw [if_neg h,if_neg (by simp),if_neg h,yC (by show b.length+(tWrap (ancE l[i]).1 (ancE l[i]).2).1.length≤_; omega),Option.bind_some,w1 (by omega)]
    simp only []
    rw [JK l hb hB hn hl k (i+1) _ (by omega) (by omega) (by rw [List.length_append]; omega),List.append_assoc]
  ·rw [if_neg (by rw [decide_eq_true_eq]; omega),List.drop_eq_nil_of_le (by omega)]
   simp [yh,jp]
theorem Ku {n B:Nat} {l:List Anc} (hb:BdL B l) (hB:B≤1000000) (hn:B+500≤n):yG n l=some (qW l):=by
 unfold yG qW
 by_cases h1:64<l.length
 ·rw [if_pos (by rw [decide_eq_true_eq]; omega),if_pos h1]
 rw [if_neg (by rw [decide_eq_true_eq]; omega),if_neg h1]
 have e1:=JK (n:=n) l hb hB (by omega) (by omega) n 0 [] (by omega) (by omega) (by simp)
 rw [show((0:Nat):Int)=0 from rfl,List.drop_zero]at e1
 rw [e1]
 by_cases h2:jp l≠0
 ·rw [if_pos h2,if_pos h2]; rfl
 rw [if_neg h2,if_neg h2]
 simp only [ym,List.nil_append]
 have ho:=ZQ.1 (show jp l=0 by simpa using h2)
 have hw:=Vz ho
 unfold uC
 rw [show(48:Int)=((48:Nat):Int)from rfl,P0 (by omega) (by omega) (by omega) (by omega),Option.bind_some]
 by_cases h3:131072<(yh (l.map ancE)).length
 ·rw [Dk h3,if_pos h3]; rfl
 ·rw [Wv (by omega),if_neg h3]; rfl
abbrev El:=zc
def W1:List El→Bool
 |a::b::l=> !(Op.bytesLess b.wa a.wa)&&W1 (b::l)
 |_=>true
theorem Dp {n:Nat} (a:List El) (ha:a.length≤1000000000):∀(k i:Nat),1≤i→a.length-i<k→xV n a k (i:Int)=some (if W1 (a.drop (i-1))=true then .nxt ()else .ret false)
 |0,i,_,h=>by omega
 | k + 1,i,hi,hk=>by
  rw [xV]
  by_cases hc:i<a.length
  ·have e1:IntKind.wrap .i64 ((i:Int)-1)=((i-1:Nat):Int):=by rw [xT (by omega)]; omega
   have e2:a.drop (i-1)=a[i-1]::a[i]::a.drop (i+1):=by
    rw [List.drop_eq_getElem_cons (show i-1<a.length by omega)]
    congr 1
    have:i-1+1=i:=by omega
    rw [this,List.drop_eq_getElem_cons hc]
   rw [if_pos (by rw [decide_eq_true_eq]; omega),ye hc,Option.bind_some,e1,ye (show i-1<a.length by omega),Option.bind_some,e2,W1]
   by_cases h:Op.bytesLess a[i].wa a[i-1].wa=true
   ·rw [if_pos h,h]; rfl
   ·have e3:a.drop (i+1-1)=a[i]::a.drop (i+1):=by
     rw [show i+1-1=i by omega,List.drop_eq_getElem_cons hc]
    rw [if_neg h,w1 (by omega),Dp a ha k (i+1) (by omega) (by omega),e3]
    rw [Bool.not_eq_true]at h
    rw [h,Bool.not_false,Bool.true_and]
  ·rw [if_neg (by rw [decide_eq_true_eq]; omega)]
   have:W1 (a.drop (i-1))=true:=by
    have hl:(a.drop (i-1)).length≤1:=by rw [List.length_drop]; omega
    match a.drop (i-1),hl with
    | [],_=>rfl
    | [_],_=>rfl
   rw [this]; rfl
theorem BE {n:Nat} {a:List El} (ha:a.length≤1000000000) (hn:a.length<n):jf n a=some (W1 a):=by
 unfold jf
 have:=Dp (n:=n) a ha n 1 (by omega) (by omega)
 rw [show((1:Nat):Int)=1 from rfl,show 1-1=0 from rfl,List.drop_zero]at this
 rw [this]
 cases W1 a<;>rfl
theorem BC {n:Nat} (a:List El):∀(k:Nat) (v:Int),yP n a k v=xV n a k v
 |0,v=>rfl
 |k+1,v=>by rw [yP,xV]; simp only [BC a k]
theorem PW {n:Nat} {a:List El} (ha:a.length≤1000000000) (hn:a.length<n):wQ n a=some (W1 a):=by
 have:=BE ha hn
 unfold jf at this
 unfold wQ
 rw [BC]; exact this
def A0:Att:=⟨[],0,[]⟩
def bw (D:Bs→Bs×Int) (e:El):Att×Int:=
 if e.zG≠48 then(A0,5)else if(tList e.zj).2≠0 then(A0,(tList e.zj).2)else match(tList e.zj).1 with
 | []=>(A0,3)
 | x::r=>if x.zG≠6 then(A0,5)else if(D x.zj).2≠0 then(A0,(D x.zj).2)else match r with
  | []=>(A0,3)
  |y::s=>if y.zG≠12∧y.zG≠19∧y.zG≠22 then(A0,5)else if s≠ []then(A0,4)else(⟨(D x.zj).1,y.zG,y.zj⟩,0)
def uh (D:Bs→Bs×Int):List Att→List El→List Att×Int
 |acc,[]=>(acc,0)
 |acc,x::l=>if(bw D x).2≠0 then([],(bw D x).2)else uh D (acc ++ [(bw D x).1]) l
def dt (D:Bs→Bs×Int) (e:El):List Att×Int:=
 if e.zG≠49 then([],5)else if(tList e.zj).2≠0 then([],(tList e.zj).2)else if W1 (tList e.zj).1=false then([],9)else uh D [] (tList e.zj).1
def vM (D:Bs→Bs×Int):List (List Att)→List El→List (List Att)×Int
 |acc,[]=>(acc,0)
 |acc,x::l=>if(dt D x).2≠0 then([],(dt D x).2)else vM D (acc ++ [(dt D x).1]) l
def bZ (D:Bs→Bs×Int) (b:Bs):List (List Att)×Int:=
 if(vG b).2≠0 then([],(vG b).2)else if(vG b).1.zG≠48 then([],5)else if(tList (vG b).1.zj).2≠0 then([],(tList (vG b).1.zj).2)else
 if(vM D [] (tList (vG b).1.zj).1).2≠0 then([],(vM D [] (tList (vG b).1.zj).1).2)else
 if uj (vM D [] (tList (vG b).1.zj).1).1≠0 then([],uj (vM D [] (tList (vG b).1.zj).1).1)else((vM D [] (tList (vG b).1.zj).1).1,0)
theorem Pu {n M:Nat} {D:Bs→Bs×Int} (hD:∀c:Bs,c.length≤M→yo n c=some (D c)) {e:El} (he:e.zj.length≤M) (hM:M≤1000000) (hn:M+100≤n):vd n e=some (bw D e):=by
 unfold vd bw
 by_cases h1:e.zG≠48
 ·rw [if_pos (by simpa using h1),if_pos h1]; rfl
 rw [if_neg (by simpa using h1),if_neg h1,bC (by omega) (by omega),Option.bind_some]
 have hb:=u6 e.zj he
 generalize tList e.zj=T at hb
 obtain⟨L,x⟩:=T
 simp only []at hb ⊢
 by_cases h2:x≠0
 ·rw [if_pos (by simpa using h2),if_pos h2]; rfl
 rw [if_neg (by simpa using h2),if_neg h2]
 match L,hb with
 | [],_=>rfl
 | x ::r,hb=>
  have k0:zX (x::r) 0=some x:=by simp [zX]
  have hx:=hb.2 x (by simp)
  have hl:=hb.1
  simp only [List.length_cons]at hl
  rw [if_neg (by rw [decide_eq_true_eq,List.length_cons]; omega),k0,Option.bind_some]
  simp only []
  by_cases h3:x.zG≠6
  ·rw [if_pos (by simpa using h3),if_pos h3]; rfl
  rw [if_neg (by simpa using h3),if_neg h3,Option.bind_some,hD _ hx,Option.bind_some]
  by_cases h4:(D x.zj).2≠0
  ·rw [if_pos (by simpa using h4),if_pos h4]; rfl
  rw [if_neg (by simpa using h4),if_neg h4]
  match r,hb with
  | [],_=>rfl
  | y ::s,hb=>
   have k1:zX (x::y::s) 1=some y:=by simp [zX]
   rw [if_neg (by rw [decide_eq_true_eq,List.length_cons,List.length_cons]; omega),k1,Option.bind_some]
   simp only []
   have fin:(if(decide ((List.length (x::y::s):Int)>2))=true then(some ((zb.mk ([]:List UInt8) 0 ([]:List UInt8)),(4:Int)))else((some y:Option El).bind fun x9=>
     (some y:Option El).bind fun x10=>some ((zb.mk (D x.zj).1 x9.zG x10.zj),(0:Int))))=some (if s≠ []then(A0,4)else(⟨(D x.zj).1,y.zG,y.zj⟩,0)):=by
    by_cases h6:s= []
    ·subst h6; rfl
    ·have:0<s.length:=List.length_pos_iff.2 h6
     rw [if_pos (by rw [decide_eq_true_eq,List.length_cons,List.length_cons]; omega),if_pos h6]; rfl
   by_cases t1:y.zG=12
   ·rw [if_pos (by simpa using t1),if_pos (by simpa using t1),if_neg (show ¬(y.zG≠12∧y.zG≠19∧y.zG≠22)from fun h=>h.1 t1)]; exact fin
   by_cases t2:y.zG=19
   ·rw [if_neg (by simpa using t1),if_pos (by simpa using t2),if_pos (by simpa using t2),if_neg (show ¬(y.zG≠12∧y.zG≠19∧y.zG≠22)from fun h=>h.2.1 t2)]; exact fin
   by_cases t3:y.zG=22
   ·rw [if_neg (by simpa using t1),if_neg (by simpa using t2),if_pos (by simpa using t3),if_neg (show ¬(y.zG≠12∧y.zG≠19∧y.zG≠22)from fun h=>h.2.2 t3)]; exact fin
   rw [if_neg (by simpa using t1),if_neg (by simpa using t2),if_neg (by simpa using t3),if_pos (show(y.zG≠12∧y.zG≠19∧y.zG≠22)from⟨t1,t2,t3⟩)]; rfl
theorem WK {n:Nat} {t:Int} {l:List El} {i:Nat} (hl:l.length≤1000000000):zT n t ⟨l,(i:Int)⟩=some (match l[i]? with|none=>(E0,3,⟨l,(i:Int)⟩)|some x=>if 0≤t∧x.zG≠t then(E0,5,⟨l,(i:Int)⟩)else(x,0,⟨l,((i+1:Nat):Int)⟩)):=by
 unfold zT
 simp only []
 by_cases hc:i<l.length
 ·rw [if_neg (by rw [decide_eq_true_eq]; omega),ye hc,Option.bind_some,List.getElem?_eq_getElem hc,w1 (by omega)]
  simp only []
  by_cases h0:0≤t
  ·rw [if_pos (by rw [decide_eq_true_eq]; omega),Option.bind_some]
   by_cases h1:l[i].zG≠t
   ·rw [if_pos (by simpa using h1),if_pos ⟨h0,h1⟩]
   ·rw [if_neg (by simpa using h1),if_neg (fun h=>h1 h.2)]
  ·rw [if_neg (by rw [decide_eq_true_eq]; omega),Option.bind_some,if_neg (by simp),if_neg (fun h=>h0 h.1)]
 ·rw [if_pos (by rw [decide_eq_true_eq]; omega),List.getElem?_eq_none (by omega)]
theorem cW {n:Nat} {l:List El} {i:Nat}:yZ n ⟨l,(i:Int)⟩=some (if i<l.length then 4 else 0,⟨l,(i:Int)⟩):=by
 unfold yZ
 simp only []
 by_cases hc:i<l.length
 ·rw [if_pos (by rw [decide_eq_true_eq]; omega),if_pos hc]
 ·rw [if_neg (by rw [decide_eq_true_eq]; omega),if_neg hc]
theorem Vg {n:Nat} {e:El} {t:Int} (hn:e.zj.length+5≤n) (hl:e.zj.length≤1000000000000):xp n e t=some (if e.zG≠t then(⟨[],0⟩,5)else(⟨(tList e.zj).1,0⟩,(tList e.zj).2)):=by
 unfold xp
 by_cases h:e.zG≠t
 ·rw [if_pos (by simpa using h),if_pos h]
 ·rw [if_neg (by simpa using h),if_neg h,VJ hl hn]; rfl
theorem Pt {n M:Nat} {D:Bs→Bs×Int} (hD:∀c:Bs,c.length≤M→zD n c=some (D c)) {e:El} (he:e.zj.length≤M) (hM:M≤1000000) (hn:M+100≤n):wI n e=some (bw D e):=by
 unfold wI bw
 rw [Vg (by omega) (by omega),Option.bind_some]
 by_cases h1:e.zG≠48
 ·rw [if_pos h1,if_pos h1]; rfl
 rw [if_neg h1,if_neg h1]
 have hb:=u6 e.zj he
 generalize tList e.zj=T at hb
 obtain⟨L,x⟩:=T
 simp only []at hb ⊢
 by_cases h2:x≠0
 ·rw [if_pos (by simpa using h2),if_pos h2]; rfl
 rw [if_neg (by simpa using h2),if_neg h2]
 have hl:=hb.1
 have n0:=WK (n:=n) (t:=6) (l:=L) (i:=0) (by omega)
 rw [show((0:Nat):Int)=0 from rfl]at n0
 match L,hb,hl,n0 with
 | [],_,_,n0=>rw [n0]; rfl
 | x ::r,hb,hl,n0=>
  have hx:=hb.2 x (by simp)
  simp only [List.getElem?_cons_zero]at n0
  by_cases h3:x.zG≠6
  ·rw [if_pos (show(0:Int)≤6∧x.zG≠6 from⟨by omega,h3⟩)]at n0
   rw [n0,Option.bind_some]
   simp only []
   rw [if_pos (show x.zG≠6 from h3)]; rfl
  rw [if_neg (show ¬((0:Int)≤6∧x.zG≠6)from fun h=>h3 h.2)]at n0
  rw [n0,Option.bind_some]
  simp only []
  rw [if_neg h3,if_neg (by decide),hD _ hx,Option.bind_some]
  by_cases h4:(D x.zj).2≠0
  ·rw [if_pos (by simpa using h4),if_pos h4]; rfl
  rw [if_neg (by simpa using h4),if_neg h4]
  have n1:=WK (n:=n) (t:= -1) (l:=x::r) (i:=0+1) (by omega)
  match r,hb,n1 with
  | [],_,n1=>rw [n1]; rfl
  | y::s,hb,n1=>
   simp only [Nat.zero_add,List.getElem?_cons_succ,List.getElem?_cons_zero]at n1
   rw [if_neg (show ¬((0:Int)≤ -1∧y.zG≠ -1)from fun h=>absurd h.1 (by decide))]at n1
   rw [show((0+1:Nat):Int)=((1:Nat):Int)from rfl,n1,Option.bind_some]
   simp only []
   rw [if_neg (by decide)]
   have key:(if(y.zG !=12)=true then(if(y.zG !=19)=true then(some (y.zG !=22))else(some false))else(some false):Option Bool)=some (decide (y.zG≠12∧y.zG≠19∧y.zG≠22)):=by
    by_cases t1:y.zG=12
    ·rw [if_neg (by simpa using t1),decide_eq_false (fun h=>h.1 t1)]
    by_cases t2:y.zG=19
    ·rw [if_pos (by simpa using t1),if_neg (by simpa using t2),decide_eq_false (fun h=>h.2.1 t2)]
    by_cases t3:y.zG=22
    ·rw [if_pos (by simpa using t1),if_pos (by simpa using t2),decide_eq_false (fun h=>h.2.2 t3)]; simpa using t3
    ·rw [if_pos (by simpa using t1),if_pos (by simpa using t2),decide_eq_true ⟨t1,t2,t3⟩]; simpa using t3
   rw [key,Option.bind_some]
   by_cases h5:y.zG≠12∧y.zG≠19∧y.zG≠22
   ·rw [if_pos (by simpa using h5),if_pos h5]; rfl
   rw [if_neg (show ¬(decide (y.zG≠12∧y.zG≠19∧y.zG≠22))=true by rw [decide_eq_true_eq]; exact h5),if_neg h5,cW,Option.bind_some]
   by_cases h6:s= []
   ·subst h6; rfl
   ·have:0<s.length:=List.length_pos_iff.2 h6
    rw [if_pos (show 1+1<(x::y::s).length by simp only [List.length_cons]; omega),if_pos (by simp),if_pos h6]; rfl
theorem Wz {D:Bs→Bs×Int}:∀ {l:List El} {acc:List Att},(uh D acc l).2≠0→(uh D acc l).1= []
 | [],acc,h=>absurd rfl h
 | x::l,acc,h=>by
  rw [uh]at h ⊢
  by_cases h1:(bw D x).2≠0
  ·rw [if_pos h1]
  ·rw [if_neg h1]at h ⊢; exact Wz h
theorem Gz {D:Bs→Bs×Int} {M B:Nat} (hD:∀c:Bs,c.length≤M→(D c).1.length≤B) (hMB:M≤B) {e:El} (he:e.zj.length≤M):BdA B (bw D e).1:=by
 have hb:=u6 e.zj he
 have z:BdA B A0:=⟨Nat.zero_le _,Nat.zero_le _⟩
 unfold bw
 split
 ·exact z
 split
 ·exact z
 split
 ·exact z
 rename_i x r hL
 rw [hL]at hb
 split
 ·exact z
 split
 ·exact z
 split
 ·exact z
 split
 ·exact z
 split
 ·exact z
 rename_i y s _ _ _
 exact⟨hD _ (hb.2 x (by simp)),Nat.le_trans (hb.2 _ (by simp)) hMB⟩
theorem VE {D:Bs→Bs×Int} {M B:Nat} (hD:∀c:Bs,c.length≤M→(D c).1.length≤B) (hMB:M≤B):∀(l:List El) (acc:List Att),(∀e∈l,e.zj.length≤M)→acc.length+l.length≤B→(∀a∈acc,BdA B a)→BdR B (uh D acc l).1
 | [],acc,_,h,h2=>⟨by simpa [uh] using h,h2⟩
 | x::l,acc,hl,h,h2=>by
  rw [uh]
  split
  ·exact⟨Nat.zero_le _,by simp⟩
  ·refine VE hD hMB l _ (fun e he=>hl e (by simp [he])) (by rw [List.length_append,List.length_singleton]; simp only [List.length_cons]at h; omega) ?_
   intro a ha
   rcases List.mem_append.1 ha with ha|ha
   ·exact h2 a ha
   ·rw [List.mem_singleton]at ha; subst ha; exact Gz hD hMB (hl x (by simp))
theorem GD {D:Bs→Bs×Int} {M B:Nat} (hD:∀c:Bs,c.length≤M→(D c).1.length≤B) (hMB:M≤B) {e:El} (he:e.zj.length≤M):BdR B (dt D e).1:=by
 have hb:=u6 e.zj he
 have z:BdR B []:=⟨Nat.zero_le _,by simp⟩
 unfold dt
 split
 ·exact z
 split
 ·exact z
 split
 ·exact z
 exact VE hD hMB _ [] hb.2 (by have:=hb.1; simp only [List.length_nil]; omega) (by simp)
theorem YD {D:Bs→Bs×Int} {M B:Nat} (hD:∀c:Bs,c.length≤M→(D c).1.length≤B) (hMB:M≤B):∀(l:List El) (acc:List (List Att)),(∀e∈l,e.zj.length≤M)→acc.length+l.length≤B→(∀a∈acc,BdR B a)→BdN B (vM D acc l).1
 | [],acc,_,h,h2=>⟨by simpa [vM] using h,h2⟩
 | x::l,acc,hl,h,h2=>by
  rw [vM]
  split
  ·exact⟨Nat.zero_le _,by simp⟩
  ·refine YD hD hMB l _ (fun e he=>hl e (by simp [he])) (by rw [List.length_append,List.length_singleton]; simp only [List.length_cons]at h; omega) ?_
   intro a ha
   rcases List.mem_append.1 ha with ha|ha
   ·exact h2 a ha
   ·rw [List.mem_singleton]at ha; subst ha; exact GD hD hMB (hl x (by simp))
theorem Vh {D:Bs→Bs×Int} {b:Bs}:BdN 252 (bZ D b).1:=by
 have z:BdN 252 []:=⟨Nat.zero_le _,by simp⟩
 unfold bZ
 split
 ·exact z
 split
 ·exact z
 split
 ·exact z
 split
 ·exact z
 split
 ·exact z
 rename_i h
 exact ez (dL.1 (by simpa using h))
theorem Bo {n M:Nat} {D:Bs→Bs×Int} (hD:∀c:Bs,c.length≤M→yo n c=some (D c)) (hM:M≤1000000) (hn:M+100≤n) (T:List El×Int) (hT:Bd M T.1):∀(k i:Nat) (acc:List Att),i≤T.1.length→T.1.length-i<k→acc.length≤i →
  xm n T k acc (i:Int)=some (if(uh D acc (T.1.drop i)).2≠0 then .ret ([],(uh D acc (T.1.drop i)).2)else .nxt (uh D acc (T.1.drop i)).1)
 |0,i,_,_,h,_=>by omega
 | k + 1,i,acc,hi,hk,ha=>by
  have hl:=hT.1
  rw [xm]
  by_cases hc:i<T.1.length
  ·rw [if_pos (by rw [decide_eq_true_eq]; omega),ye hc,Option.bind_some,Pu hD (hT.2 _ (List.getElem_mem hc)) hM hn,Option.bind_some,List.drop_eq_getElem_cons hc,uh]
   by_cases h:(bw D T.1[i]).2≠0
   ·rw [if_pos (by simpa using h),if_pos h,if_pos h]
   ·rw [if_neg (by simpa using h),if_neg h,wq (by rw [List.length_singleton]; omega),Option.bind_some,w1 (by omega)]
    exact Bo hD hM hn T hT k (i+1) _ (by omega) (by omega) (by rw [List.length_append,List.length_singleton]; omega)
  ·rw [if_neg (by rw [decide_eq_true_eq]; omega),List.drop_eq_nil_of_le (by omega)]
   rfl
theorem no {n M:Nat} {D:Bs→Bs×Int} (hD:∀c:Bs,c.length≤M→yo n c=some (D c)) (hM:M≤1000000) (hn:M+100≤n) {e:El} (he:e.zj.length≤M):vv n e=some (dt D e):=by
 unfold vv dt
 by_cases h1:e.zG≠49
 ·rw [if_pos (by simpa using h1),if_pos h1]
 rw [if_neg (by simpa using h1),if_neg h1,bC (by omega) (by omega),Option.bind_some]
 have hb:=u6 e.zj he
 have hl:=hb.1
 by_cases h2:(tList e.zj).2≠0
 ·rw [if_pos (by simpa using h2),if_pos h2]
 rw [if_neg (by simpa using h2),if_neg h2,BE (by omega) (by omega),Option.bind_some]
 by_cases h3:W1 (tList e.zj).1=false
 ·rw [if_pos (by rw [h3]; rfl),if_pos h3]
 rw [if_neg (by simpa using h3),if_neg h3]
 have e1:=Bo hD hM hn (tList e.zj) hb n 0 [] (by omega) (by omega) (by simp)
 rw [show((0:Nat):Int)=0 from rfl,List.drop_zero]at e1
 rw [e1]
 by_cases h4:(uh D [] (tList e.zj).1).2≠0
 ·rw [if_pos h4]
  exact congrArg some (Prod.ext (Wz h4).symm rfl)
 ·rw [if_neg h4]
  simp only [ym]
  have h4:(uh D [] (tList e.zj).1).2=0:=by simpa using h4
  exact congrArg some (Prod.ext rfl h4.symm)
theorem Qi {n M:Nat} {D:Bs→Bs×Int} (hD:∀c:Bs,c.length≤M→yo n c=some (D c)) (hM:M≤1000000) (hn:M+100≤n) (T:List El×Int) (hT:Bd M T.1):∀(k i:Nat) (acc:List (List Att)),i≤T.1.length→T.1.length-i<k→acc.length≤i →
  vn n T k (i:Int) acc=some (if(vM D acc (T.1.drop i)).2≠0 then .ret (⟨[]⟩,(vM D acc (T.1.drop i)).2)else .nxt (vM D acc (T.1.drop i)).1)
 |0,i,_,_,h,_=>by omega
 | k + 1,i,acc,hi,hk,ha=>by
  have hl:=hT.1
  rw [vn]
  by_cases hc:i<T.1.length
  ·rw [if_pos (by rw [decide_eq_true_eq]; omega),ye hc,Option.bind_some,no hD hM hn (hT.2 _ (List.getElem_mem hc)),Option.bind_some,List.drop_eq_getElem_cons hc,vM]
   by_cases h:(dt D T.1[i]).2≠0
   ·rw [if_pos (by simpa using h),if_pos h,if_pos h]
   ·rw [if_neg (by simpa using h),if_neg h,wq (by rw [List.length_singleton]; omega),Option.bind_some,w1 (by omega)]
    exact Qi hD hM hn T hT k (i+1) _ (by omega) (by omega) (by rw [List.length_append,List.length_singleton]; omega)
  ·rw [if_neg (by rw [decide_eq_true_eq]; omega),List.drop_eq_nil_of_le (by omega)]
   rfl
theorem PX {n M:Nat} {D:Bs→Bs×Int} (hD:∀c:Bs,c.length≤M→yo n c=some (D c)) (hDl:∀c:Bs,c.length≤M→(D c).1.length≤M+252) (hM:M≤900000) (hn:M+500≤n) {b:Bs} (hb:b.length≤M):qz n b=some (⟨(bZ D b).1⟩,(bZ D b).2):=by
 unfold qz bZ
 rw [Xm (by omega) (by omega),Option.bind_some]
 have ho:=Z9 b
 by_cases h1:(vG b).2≠0
 ·rw [if_pos (by simpa using h1),if_pos h1]
 rw [if_neg (by simpa using h1),if_neg h1]
 by_cases h2:(vG b).1.zG≠48
 ·rw [if_pos (by simpa using h2),if_pos h2]
 rw [if_neg (by simpa using h2),if_neg h2,bC (by omega) (by omega),Option.bind_some]
 have hT:=u6 (vG b).1.zj (M:=M) (by omega)
 have hl:=hT.1
 generalize tList (vG b).1.zj=T at hT hl ⊢
 by_cases h3:T.2≠0
 ·rw [if_pos (by simpa using h3),if_pos h3]
 rw [if_neg (by simpa using h3),if_neg h3]
 have e1:=Qi hD (by omega) (by omega) T hT n 0 [] (by omega) (by omega) (by simp)
 rw [show((0:Nat):Int)=0 from rfl,List.drop_zero]at e1
 rw [e1]
 by_cases h4:(vM D [] T.1).2≠0
 ·rw [if_pos h4,if_pos h4]; rfl
 rw [if_neg h4,if_neg h4]
 simp only [ym]
 have hbd:=YD (B:=M+252) hDl (by omega) T.1 [] hT.2 (by simp only [List.length_nil]; omega) (by simp)
 rw [Db hbd (by omega) (by omega),Option.bind_some]
 by_cases h5:uj (vM D [] T.1).1≠0
 ·rw [if_pos (by simpa using h5),if_pos h5]
 ·rw [if_neg (by simpa using h5),if_neg h5]
theorem Bw {n M:Nat} {D:Bs→Bs×Int} (hD:∀c:Bs,c.length≤M→zD n c=some (D c)) (hM:M≤1000000) (hn:M+100≤n) (T:zk×Int) (hT:Bd M T.1.f_L):∀(k i:Nat) (acc:List Att),i≤T.1.f_L.length→T.1.f_L.length-i<k→acc.length≤i →
  yE n T k acc (i:Int)=some (if(uh D acc (T.1.f_L.drop i)).2≠0 then .ret (⟨[]⟩,(uh D acc (T.1.f_L.drop i)).2)else .nxt (uh D acc (T.1.f_L.drop i)).1)
 |0,i,_,_,h,_=>by omega
 | k + 1,i,acc,hi,hk,ha=>by
  have hl:=hT.1
  rw [yE]
  by_cases hc:i<T.1.f_L.length
  ·rw [if_pos (by rw [decide_eq_true_eq]; omega),ye hc,Option.bind_some,Pt hD (hT.2 _ (List.getElem_mem hc)) hM hn,Option.bind_some,List.drop_eq_getElem_cons hc,uh]
   by_cases h:(bw D T.1.f_L[i]).2≠0
   ·rw [if_pos (by simpa using h),if_pos h,if_pos h]
   ·rw [if_neg (by simpa using h),if_neg h,wq (by rw [List.length_singleton]; omega),Option.bind_some,w1 (by omega)]
    exact Bw hD hM hn T hT k (i+1) _ (by omega) (by omega) (by rw [List.length_append,List.length_singleton]; omega)
  ·rw [if_neg (by rw [decide_eq_true_eq]; omega),List.drop_eq_nil_of_le (by omega)]
   rfl
theorem Ql {n M:Nat} {D:Bs→Bs×Int} (hD:∀c:Bs,c.length≤M→zD n c=some (D c)) (hM:M≤1000000) (hn:M+100≤n) (T:zk×Int) (hT:Bd M T.1.f_L):∀(k i:Nat) (acc:List (List Att)),i≤T.1.f_L.length→T.1.f_L.length-i<k→acc.length≤i →
  yH n T k (i:Int) acc=some (if(vM D acc (T.1.f_L.drop i)).2≠0 then .ret (⟨[]⟩,(vM D acc (T.1.f_L.drop i)).2)else .nxt (vM D acc (T.1.f_L.drop i)).1)
 |0,i,_,_,h,_=>by omega
 | k + 1,i,acc,hi,hk,ha=>by
  have hl:=hT.1
  rw [yH]
  by_cases hc:i<T.1.f_L.length
  ·have hx:=hT.2 _ (List.getElem_mem hc)
   have hb:=u6 (T.1.f_L[i]).zj hx
   have hbl:=hb.1
   rw [if_pos (by rw [decide_eq_true_eq]; omega),ye hc,Option.bind_some,Vg (by omega) (by omega),Option.bind_some,List.drop_eq_getElem_cons hc,vM]
   unfold dt
   by_cases h1:(T.1.f_L[i]).zG≠49
   ·rw [if_pos h1,if_pos (by decide),if_pos h1]; rfl
   rw [if_neg h1,if_neg h1]
   by_cases h2:(tList (T.1.f_L[i]).zj).2≠0
   ·rw [if_pos (by simpa using h2),if_pos h2,if_pos h2,if_pos h2]
   rw [if_neg (by simpa using h2),if_neg h2]
   simp only []
   rw [PW (by omega) (by omega),Option.bind_some]
   by_cases h3:W1 (tList (T.1.f_L[i]).zj).1=false
   ·rw [if_pos (by rw [h3]; rfl),if_pos h3]; rfl
   rw [if_neg (by simpa using h3),if_neg h3]
   have e1:=Bw hD hM hn (⟨(tList (T.1.f_L[i]).zj).1,0⟩,(tList (T.1.f_L[i]).zj).2) hb n 0 [] (by omega) (by show(tList (T.1.f_L[i]).zj).1.length-0<n; omega) (by simp)
   rw [show((0:Nat):Int)=0 from rfl,List.drop_zero]at e1
   rw [e1]
   simp only []
   by_cases h4:(uh D [] (tList (T.1.f_L[i]).zj).1).2≠0
   ·rw [if_pos h4,if_pos h4,if_pos h4]; rfl
   ·rw [if_neg h4,if_neg h4]
    simp only [ym]
    rw [wq (by rw [List.length_singleton]; omega),Option.bind_some,w1 (by omega)]
    exact Ql hD hM hn T hT k (i+1) _ (by omega) (by omega) (by rw [List.length_append,List.length_singleton]; omega)
  ·rw [if_neg (by rw [decide_eq_true_eq]; omega),List.drop_eq_nil_of_le (by omega)]
   rfl
theorem cd {n M:Nat} {D:Bs→Bs×Int} (hD:∀c:Bs,c.length≤M→zD n c=some (D c)) (hDl:∀c:Bs,c.length≤M→(D c).1.length≤M+252) (hM:M≤900000) (hn:M+500≤n) {b:Bs} (hb:b.length≤M):wC n b=some (⟨(bZ D b).1⟩,(bZ D b).2):=by
 unfold wC bZ
 rw [Yb (by omega) (by omega),Option.bind_some]
 have ho:=Z9 b
 by_cases h1:(vG b).2≠0
 ·rw [if_pos (by simpa using h1),if_pos h1]
 rw [if_neg (by simpa using h1),if_neg h1,Vg (by omega) (by omega),Option.bind_some]
 by_cases h2:(vG b).1.zG≠48
 ·rw [if_pos h2,if_pos h2]; rfl
 rw [if_neg h2,if_neg h2]
 have hT:=u6 (vG b).1.zj (M:=M) (by omega)
 have hl:=hT.1
 generalize tList (vG b).1.zj=T at hT hl ⊢
 by_cases h3:T.2≠0
 ·rw [if_pos (by simpa using h3),if_pos h3]
 rw [if_neg (by simpa using h3),if_neg h3]
 have e1:=Ql hD (by omega) (by omega) (⟨T.1,0⟩,T.2) hT n 0 [] (by omega) (by show T.1.length-0<n; omega) (by simp)
 rw [show((0:Nat):Int)=0 from rfl,List.drop_zero]at e1
 rw [e1]
 simp only []
 by_cases h4:(vM D [] T.1).2≠0
 ·rw [if_pos h4,if_pos h4]; rfl
 rw [if_neg h4,if_neg h4]
 simp only [ym]
 have hbd:=YD (B:=M+252) hDl (by omega) T.1 [] hT.2 (by simp only [List.length_nil]; omega) (by simp)
 rw [D5 hbd (by omega) (by omega),Option.bind_some]
 by_cases h5:uj (vM D [] T.1).1≠0
 ·rw [if_pos (by simpa using h5),if_pos h5]
 ·rw [if_neg (by simpa using h5),if_neg h5]
theorem Wu:∀ {l:List Att},(l.Pairwise fun a b=>leB (gY a) (gY b)=true)→W1 ((l.map XI).map elm)=true
 | [],_=>rfl
 | [_],_=>rfl
 | a::b::l,h=>by
  rw [List.pairwise_cons]at h
  have:=Wu h.2
  simp only [List.map_cons]at this ⊢
  rw [W1,this,Bool.and_true]
  have e1:(elm (XI b)).wa=gY b:=rfl
  have e2:(elm (XI a)).wa=gY a:=rfl
  rw [e1,e2,lO,h.1 b (by simp)]; rfl
theorem Qb {D:Bs→Bs×Int} (hD:∀s l,vY s=some l→D (jG l)=(s,0)) {a:Att} (h:okA a):bw D (elm (XI a))=(a,0):=by
 obtain⟨hp,hw,l,hl,he⟩:=Xt h
 have hpe:W0 a.yA=(6,jG l):=by unfold W0; rw [hl]; rfl
 have hk:a.vT=((a.vT.toNat:Nat):Int):=by rcases Xx h.2.2.1 with e|e|e<;>rw [e]<;>rfl
 have hc:(elm (XI a)).zj=yh (Xg a):=rfl
 unfold bw
 rw [if_neg (show ¬(elm (XI a)).zG≠48 from fun h=>h rfl),hc,ue hp]
 simp only [Xg,List.map_cons,List.map_nil,hpe]
 rw [if_neg (by simp),if_neg (show ¬(elm (6,jG l)).zG≠6 from fun h=>h rfl),show(elm (6,jG l)).zj=jG l from rfl,hD _ _ hl,if_neg (by simp)]
 have ht:(elm (a.vT.toNat,a.xo)).zG=a.vT:=hk.symm
 rw [ht,if_neg (by rcases Xx h.2.2.1 with e|e|e<;>rw [e]<;>simp),if_neg (by simp)]
 rfl
theorem Xz {D:Bs→Bs×Int} (hD:∀s l,vY s=some l→D (jG l)=(s,0)):∀(r:List Att) (acc:List Att),(∀a∈r,okA a)→uh D acc ((r.map XI).map elm)=(acc++r,0)
 | [],acc,_=>by simp [uh]
 | a::r,acc,h=>by
  simp only [List.map_cons]
  rw [uh,Qb hD (h a (by simp)),if_neg (by simp)]
  have:=Xz hD r (acc ++ [a]) (fun x hx=>h x (by simp [hx]))
  rw [this,List.append_assoc,List.singleton_append]
theorem QT {D:Bs→Bs×Int} (hD:∀s l,vY s=some l→D (jG l)=(s,0)) {r:List Att} (h:okR r):dt D (elm (q9 r))=(qI r,0):=by
 have ho:=V7 h
 have hc:(elm (q9 r)).zj=yh ((qI r).map XI):=rfl
 have hp:∀p∈(qI r).map XI,POk p:=by
  intro p hp; obtain⟨a,ha,rfl⟩:=List.mem_map.1 hp; exact Pg (ho.2.2.1 a ha)
 unfold dt
 rw [if_neg (show ¬(elm (q9 r)).zG≠49 from fun h=>h rfl),hc,ue hp,if_neg (by simp)]
 simp only []
 rw [Wu (Yt r),if_neg (by simp),Xz hD _ [] ho.2.2.1,List.nil_append]
theorem Xn {D:Bs→Bs×Int} (hD:∀s l,vY s=some l→D (jG l)=(s,0)):∀(l:List (List Att)) (acc:List (List Att)),(∀r∈l,okR r)→vM D acc ((l.map q9).map elm)=(acc++Kv l,0)
 | [],acc,_=>by simp [vM,Kv]
 | r::l,acc,h=>by
  simp only [List.map_cons]
  rw [vM,QT hD (h r (by simp)),if_neg (by simp)]
  have:=Xn hD l (acc ++ [qI r]) (fun x hx=>h x (by simp [hx]))
  rw [this,List.append_assoc,List.singleton_append]
theorem Xk {D:Bs→Bs×Int} (hD:∀s l,vY s=some l→D (jG l)=(s,0)) {l:List (List Att)} (h:okN l):bZ D (tWrap (vw l).1 (vw l).2).1=(Kv l,0):=by
 have hn:=Qw h
 have hp:∀p∈l.map q9,POk p:=by
  intro p hp; obtain⟨r,hr,rfl⟩:=List.mem_map.1 hp; exact PR (h.2 r hr)
 have hc:(vw l).2=yh (l.map q9):=rfl
 unfold bZ
 rw [Yg hn.1 hn.2.1 hn.2.2]
 simp only []
 rw [if_neg (by simp),if_neg (show ¬((vw l).1:Int)≠48 from fun h=>h rfl),hc,ue hp]
 simp only []
 rw [if_neg (by simp),Xn hD l [] h.2]
 simp only [List.nil_append]
 rw [if_neg (by simp),if_neg (by rw [dL.2 (QZ h)]; simp)]
end Go.Abs
end
