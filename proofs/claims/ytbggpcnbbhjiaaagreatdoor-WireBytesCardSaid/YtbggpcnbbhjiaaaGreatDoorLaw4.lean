/- The typed Lean form of WireBytes gives true for every string. No condition. -/
import Derived.Test.YtbggpcnbbhjiaaaGreatDoorLaw3
set_option linter.unusedVariables false
set_option linter.unusedSimpArgs false
set_option linter.unnecessarySimpa false
section
set_option maxRecDepth 100000
namespace Go.Abs
open Go Go.Proofs IntKind
def okA (a:Att):Prop:=(y4 a.wi).isSome=true∧a.vA≠ []∧Xd a.zG a.vA=true∧a.vA.length≤64
def okR (r:List Att):Prop:=r≠ []∧r.length≤4∧(∀a∈r,okA a)∧r.Pairwise fun a b=>a.wi≠b.wi
def okN (l:List (List Att)):Prop:=l.length≤8∧∀r∈l,okR r
theorem ld {pre:List Att} {a:Att}:Jf pre a=0↔okA a∧∀b∈pre,b.wi≠a.wi:=by
 unfold Jf okA
 constructor
 ·intro h
  split at h
  ·simp at h
  rename_i h1
  split at h
  ·simp at h
  rename_i h2
  split at h
  ·simp at h
  rename_i h3
  split at h
  ·simp at h
  rename_i h4
  refine⟨⟨by cases hq:(y4 a.wi).isSome with|true=>rfl|false=>exact absurd hq h1,fun e=>h2 (.inl e), ?_,O0⟩,fun b hb e=>h4 (by rw [List.any_eq_true]; exact⟨b,hb,by simpa using e⟩)⟩
  cases hq:Xd a.zG a.vA with
  |true=>rfl
  |false=>exact absurd (Or.inr hq) h2
 ·rintro⟨⟨h1,h2,h3,h4⟩,h5⟩
  rw [L3 (by rw [h1]; simp),L3 (by rintro(h|h); exact h2 h; rw [h3]at h; simp at h),L3 O0,L3]
  intro h
  obtain⟨b,hb,e⟩:=List.any_eq_true.1 h
  exact h5 b hb (O9 e)
theorem cQ:∀ {r pre:List Att},dQ pre r=0↔(∀a∈r,okA a)∧(r.Pairwise fun a b=>a.wi≠b.wi)∧∀b∈pre,∀a∈r,b.wi≠a.wi
 | [],pre=>by simp [dQ]
 | a ::r,pre=>by
  rw [dQ]
  by_cases h:Jf pre a=0
  ·rw [L3 (O9 h),cQ,List.pairwise_cons]
   rw [ld]at h
   constructor
   ·rintro⟨h1,h2,h3⟩
    refine⟨fun x hx=> ?_,⟨fun x hx=>h3 a O2 x hx,h2⟩,fun b hb x hx=> ?_⟩
    ·rcases Lm.1 hx with rfl|hx
     ·exact h.1
     ·exact h1 x hx
    ·rcases Lm.1 hx with rfl|hx
     ·exact h.2 b hb
     ·exact h3 b (by simp [hb]) x hx
   ·rintro⟨h1,⟨h2,h3⟩,h4⟩
    refine⟨fun x hx=>h1 x (by simp [hx]),h3,fun b hb x hx=> ?_⟩
    rcases Ll.1 hb with hb|hb
    ·exact h4 b hb x (by simp [hx])
    ·rw [Lk]at hb; subst hb; exact h2 x hx
  ·rw [L4 h]
   constructor
   ·intro e; exact absurd e h
   ·rintro⟨h1,_,h4⟩
    exact absurd (ld.2 ⟨h1 a O2,fun b hb=>h4 b hb a O2⟩) h
theorem hZ {r:List Att}:WY r=0↔okR r:=by
 unfold WY okR
 by_cases h1:r= []
 ·rw [L4 h1]; simp [h1]
 rw [L3 h1]
 by_cases h2:4<r.length
 ·rw [L4 h2]; constructor
  ·intro h; simp at h
  ·rintro⟨_,h,_⟩; omega
 rw [L3 h2,cQ]
 constructor
 ·rintro⟨a,b,_⟩; exact⟨h1,O0,a,b⟩
 ·rintro⟨_,_,a,b⟩; exact⟨a,b,O2⟩
theorem D4:∀ {l:List (List Att)},Zp l=0↔∀r∈l,okR r
 | []=>by simp [Zp]
 | r::l=>by
  rw [Zp]
  by_cases h:WY r=0
  ·rw [L3 (O9 h),D4]
   rw [hZ]at h
   simp [h]
  ·rw [L4 h]
   constructor
   ·intro e; exact absurd e h
   ·intro e; exact absurd (hZ.2 (e r O2)) h
theorem kT {l:List (List Att)}:vy l=0↔okN l:=by
 unfold vy okN
 by_cases h:8<l.length
 ·rw [L4 h]; constructor
  ·intro h; simp at h
  ·rintro⟨h,_⟩; omega
 ·rw [L3 h,D4]
  exact⟨fun e=>⟨O0,e⟩,fun e=>e.2⟩
def Ux (a:Att):List (Nat×Bs):= [polE a.wi,(a.zG.toNat,a.vA)]
def U5 (a:Att):Nat×Bs:=(48,wraps (Ux a))
def YR (a:Att):Bs:=(tWrap 48 (wraps (Ux a))).1
def gf (r:List Att):List Att:=r.mergeSort fun a b=>leB (YR a) (YR b)
def dy (r:List Att):Nat×Bs:=(49,wraps ((gf r).map U5))
def y8 (l:List (List Att)):Nat×Bs:=(48,wraps (l.map dy))
theorem XL (r:List Att):List.Perm (gf r) r:=List.mergeSort_perm r _
theorem KP (r:List Att):wraps (r.map U5)=(r.map YR).flatten:=by
 unfold wraps; rw [List.map_map]; rfl
theorem en (r:List Att):(gf r).map YR=Yq (r.map YR):=List.map_mergeSort (fun _ _ _ _=>rfl)
theorem Q4 (r:List Att):(Yq (r.map YR)).flatten=wraps ((gf r).map U5):=by
 rw [KP,en]
theorem UF {k:Int} {s:Bs} (h:Xd k s=true):k=12∨k=19∨k=22:=by
 unfold Xd at h
 by_cases h1:k=12
 ·exact .inl h1
 by_cases h2:k=19
 ·exact .inr (.inl h2)
 by_cases h3:k=22
 ·exact .inr (.inr h3)
 rw [L3 h1,L3 h2,L3 h3]at h; simp at h
theorem Ur {a:Att} (h:okA a):(∀p∈Ux a,POk p)∧(wraps (Ux a)).length≤129∧∃l,y4 a.wi=some l∧(qg l).length≤55:=by
 obtain⟨h1,h2,h3,h4⟩:=h
 obtain⟨l,hl⟩:=Option.isSome_iff_exists.1 h1
 have e1:=gZ (bf hl)
 have hp:polE a.wi=(6,qg l):=by unfold polE; rw [hl]; rfl
 have w1:=zU 6 (qg l)
 have w2:=zU a.zG.toNat a.vA
 refine⟨?_, ?_,l,hl,e1⟩
 ·intro p hpm
  simp only [Ux,Lm,List.not_mem_nil,or_false]at hpm
  rcases hpm with rfl|rfl
  ·rw [hp]; exact⟨O2,O2,by simp only; omega⟩
  ·rcases UF h3 with e|e|e<;>rw [e]<;>exact⟨by dsimp only; decide,by dsimp only; decide,O6⟩
 ·simp only [Ux,wraps,Lb,List.map_nil,List.flatten_cons,List.flatten_nil,Lh,L5,hp]
  omega
theorem PS {a:Att} (h:okA a):(YR a).length≤134:=by
 have:=(Ur h).2.1
 have:=zU 48 (wraps (Ux a))
 unfold YR; omega
theorem Jy {α:Type} (f:α→Bs) (M:Nat):∀(l:List α),(∀x∈l,(f x).length≤M)→((l.map f).flatten).length≤M*l.length
 | [],_=>O2
 | a::l,h=>by
  have:=Jy f M l (fun x hx=>h x (by simp [hx]))
  have:=h a O2
  simp only [Lb,List.flatten_cons,L5,L7,Nat.mul_add,Nat.mul_one]; omega
theorem JU {r:List Att} (h:okR r):okR (gf r):=by
 obtain⟨h1,h2,h3,h4⟩:=h
 have hp:=XL r
 refine⟨fun e=>h1 ?_,by rw [hp.length_eq]; exact h2,fun a ha=>h3 a (hp.mem_iff.1 ha),(hp.pairwise_iff (fun h=>Ne.symm h)).2 h4⟩
 rw [e]at hp; exact List.nil_perm.1 hp
theorem Ua {r:List Att} (h:okR r):(dy r).2.length≤536:=by
 have h':=JU h
 unfold dy
 simp only
 rw [KP]
 have:=Jy YR 134 (gf r) (fun a ha=>PS (h'.2.2.1 a ha))
 have:=h'.2.1
 omega
theorem dm {l:List (List Att)} (h:okN l):(y8 l).2.length≤4328:=by
 have:=Jy (fun r=>(tWrap (dy r).1 (dy r).2).1) 541 l (fun r hr=>by have:=Ua (h.2 r hr); have:=zU (dy r).1 (dy r).2; omega)
 unfold y8 wraps
 simp only
 rw [List.map_map]
 have:=h.1
 have e:(List.map ((fun p=>(tWrap p.1 p.2).1)∘dy) l)=l.map (fun r=>(tWrap (dy r).1 (dy r).2).1):=rfl
 rw [e]; omega
theorem be {t:Nat} {c:Bs} (h:c.length≤131072):tWrap t c=((tWrap t c).1,0):=by unfold tWrap; rw [L4 h]
theorem tD {n B:Nat} {a:Att} (h:okA a) (hb:BdA B a) (hB:B≤1000000) (hn:B+100≤n):qh n a=some (YR a,0):=by
 obtain⟨hp,hw,l,hl,he⟩:=Ur h
 unfold qh
 have hb1:=hb.1
 have hb2:=hb.2
 rw [U7 O0 O0 hl]
 simp only [L0]
 rw [L3 O1,show(6:Int)=((6:Nat):Int)from rfl,Js O0 O0 O0 O0,be (t:=6) O0]
 simp only [L0]
 rw [L3 O1]
 have hk:a.zG=((a.zG.toNat:Nat):Int):=by rcases UF h.2.2.1 with e|e|e<;>rw [e]<;>rfl
 rw [hk,Js (by rcases UF h.2.2.1 with e|e|e<;>rw [e]<;>decide) (by rcases UF h.2.2.1 with e|e|e<;>rw [e]<;>decide) O0 O0,be (t:=a.zG.toNat) (by have:=h.2.2.2; omega)]
 simp only [L0]
 rw [L3 O1,show(48:Int)=((48:Nat):Int)from rfl]
 have hpe:polE a.wi=(6,qg l):=by unfold polE; rw [hl]; rfl
 have hf:([(tWrap 6 (qg l)).1,(tWrap a.zG.toNat a.vA).1]:List Bs).flatten=wraps (Ux a):=by
  simp only [Ux,wraps,Lb,List.map_nil,hpe]
 have t1:=zU 6 (qg l)
 have t2:=zU a.zG.toNat a.vA
 rw [Ww O0 O0 (by intro c hc; simp only [Lm,List.not_mem_nil,or_false]at hc; rcases hc with rfl|rfl<;>omega) (by simp only [L7,Lj]; omega) O2,hf,be (t:=48) O0]
 rfl
theorem my {n B:Nat} (r:List Att) (h:∀a∈r,okA a) (hb:BdR B r) (hB:B≤1000000) (hn:B+100≤n):∀(k i:Nat) (acc:List Bs),i≤r.length→r.length-i<k→acc.length=i→qf n r k acc (i:Int)=some (.nxt (acc++(r.drop i).map YR))
 |0,i,_,_,h,_=>O0
 | k+1,i,acc,hi,hk,ha=>by
  have hl:=hb.1
  rw [qf]
  by_cases hc:i<r.length
  ·rw [L4 O4,zE hc]
   simp only [L0]
   rw [tD (h r[i] O2) (hb.2 r[i] O2) hB hn]
   simp only [L0]
   rw [L3 O1,yU (by simp only [L6]; omega)]
   simp only [L0]
   rw [w1 O0,my r h hb hB hn k (i+1) _ O0 O0 (by simp [ha]),L9 hc,Lb,Ln,List.singleton_append]
  ·rw [L3 O4]
   have:i=r.length:=O0
   subst this
   simp
theorem tt {n:Nat} {l:List Bs} (h1:l.length≤1000000) (h2:l.flatten.length≤1000000000):YT n l=some (Yq l).flatten:=by
 unfold YT
 have o0:Kf 16 l=some l:=by unfold Kf; rw [L4 O0]
 rw [o0]
 simp only [L0]
 have hs:Jr n l.length l=some (Yq l):=by
  unfold Jr; rw [L4 ⟨rfl,O0⟩,←VN]; rfl
 rw [hs]
 simp only [L0]
 have hj:VH n l.length [] (Yq l)=some ((Yq l).flatten,Yq l):=by
  unfold VH
  rw [JI,L4 ⟨Ut l,by rw [Ja]; omega,by rw [Ut]; omega⟩]
 rw [hj]; rfl
theorem GO {r:List Att} (h:okR r):(r.map YR).flatten.length≤536:=by
 have:=Jy YR 134 r (fun a ha=>PS (h.2.2.1 a ha))
 have:=h.2.1
 omega
theorem lu {n B:Nat} (l:List (List Att)) (h:okN l) (hb:BdN B l) (hB:B≤1000000) (hn:B+100≤n):∀(k i:Nat) (acc:List Bs),i≤l.length→l.length-i<k→acc.length=i→j9 n ⟨l⟩ k acc (i:Int)=some (.nxt (acc++(l.drop i).map fun r=>(tWrap (dy r).1 (dy r).2).1))
 |0,i,_,_,h,_=>O0
 | k+1,i,acc,hi,hk,ha=>by
  have hl:=hb.1
  rw [j9]
  by_cases hc:i<l.length
  ·have hr:=h.2 l[i] O2
   have hbr:=hb.2 l[i] O2
   rw [L4 (by rw [L2]; show(i:Int)<(l.length:Int); omega)]
   simp only [zE hc,L0]
   have e2:=my (n:=n) l[i] hr.2.2.1 hbr hB hn n 0 [] O0 (by have:=hbr.1; omega) rfl
   rw [show((0:Nat):Int)=0 from rfl,Lf,Lg]at e2
   rw [e2]
   simp only [z8]
   rw [tt (by rw [L8]; have:=hr.2.1; omega) (by have:=GO hr; omega),Q4]
   simp only [L0]
   have hlen:=Ua hr
   rw [show(49:Int)=((49:Nat):Int)from rfl,Js O0 O0 (by simp only [dy]at hlen; omega) O0,be (t:=49) (by simp only [dy]at hlen; omega)]
   simp only [L0]
   rw [L3 O1,yU (by simp only [L6]; omega)]
   simp only [L0]
   rw [w1 O0,lu l h hb hB hn k (i+1) _ O0 O0 (by simp [ha]),L9 hc,Lb,Ln,List.singleton_append]
   rfl
  ·rw [L3 (by rw [L2]; show ¬(i:Int)<(l.length:Int); omega)]
   have:i=l.length:=O0
   subst this
   simp
def XV (l:List (List Att)):Bs×Int:=if vy l≠0 then([],vy l)else((tWrap 48 (y8 l).2).1,0)
theorem Ge {n B:Nat} {l:List (List Att)} (hb:BdN B l) (hB:B≤1000000) (hn:B+100≤n):gY n ⟨l⟩=some (XV l):=by
 unfold gY XV
 have hl:=hb.1
 rw [J4 hb hB hn]
 simp only [L0]
 by_cases h:vy l≠0
 ·rw [L4 h,L4 (O9 h)]
 rw [L3 h,L3 (O9 h)]
 have ho:okN l:=kT.1 (O9 h)
 have e1:=lu (n:=n) l ho hb hB hn n 0 [] O0 O0 rfl
 rw [show((0:Nat):Int)=0 from rfl,Lf,Lg]at e1
 rw [e1]
 simp only [z8]
 have hlen:=dm ho
 have hf:(l.map fun r=>(tWrap (dy r).1 (dy r).2).1).flatten=(y8 l).2:=by
  unfold y8 wraps; simp only; rw [List.map_map]; rfl
 rw [show(48:Int)=((48:Nat):Int)from rfl,Ww O0 O0 ?_ (by rw [L8]; have:=ho.1; omega) (by rw [L8]; omega),hf,be (t:=48) O0]
 ·rfl
 ·intro c hc
  obtain⟨r,hr,rfl⟩:=Le.1 hc
  have:=Ua (ho.2 r hr)
  have:=zU (dy r).1 (dy r).2
  omega
theorem DD {n t:Nat} {cs:List Bs} (h1:t≤255) (h2:t%32≠31) (hc:cs.flatten.length≤1000000000000) (hn:cs.length<n) (hl:cs.length≤1000):zD n (t:Int) cs=some (tWrap t cs.flatten).1:=by
 unfold zD
 rw [Xc h1 h2 hc hn O0]; rfl
theorem tL {n B:Nat} {a:Att} (h:okA a) (hb:BdA B a) (hB:B≤1000000) (hn:B+100≤n):((uC n a.wi).bind fun r66=>
  (zD n a.zG ([a.vA]:List (List UInt8))).bind fun r67=>
  zD n 48 ([r66,r67]:List (List UInt8)))=some (YR a):=by
 obtain⟨hp,hw,l,hl,he⟩:=Ur h
 have hb1:=hb.1
 have hb2:=hb.2
 have hpe:polE a.wi=(6,qg l):=by unfold polE; rw [hl]; rfl
 rw [zdj O0 O0 (by rw [hl]; rfl),hpe]
 simp only [L0]
 have hk:a.zG=((a.zG.toNat:Nat):Int):=by rcases UF h.2.2.1 with e|e|e<;>rw [e]<;>rfl
 rw [hk,Xh (by rcases UF h.2.2.1 with e|e|e<;>rw [e]<;>decide) (by rcases UF h.2.2.1 with e|e|e<;>rw [e]<;>decide) O0 O0]
 simp only [L0]
 have hf:([(tWrap 6 (qg l)).1,(tWrap a.zG.toNat a.vA).1]:List Bs).flatten=wraps (Ux a):=by
  simp only [Ux,wraps,Lb,List.map_nil,hpe]
 rw [show(48:Int)=((48:Nat):Int)from rfl,DD O0 O0 (by rw [hf]; omega) (by simp only [L7,Lj]; omega) O2,hf]
 rfl
theorem JT {n B:Nat} (r:List Att) (h:∀a∈r,okA a) (hb:BdR B r) (hB:B≤1000000) (hn:B+100≤n):∀(k i:Nat) (acc:List Bs),i≤r.length→r.length-i<k→acc.length=i→wh n r k acc (i:Int)=some (acc++(r.drop i).map YR)
 |0,i,_,_,h,_=>O0
 | k+1,i,acc,hi,hk,ha=>by
  have hl:=hb.1
  rw [wh]
  by_cases hc:i<r.length
  ·rw [L4 O4,zE hc]
   simp only [L0]
   have e:=tL (h r[i] O2) (hb.2 r[i] O2) hB hn
   rw [Option.bind_eq_some_iff]at e
   obtain⟨x,e1,e⟩:=e
   rw [Option.bind_eq_some_iff]at e
   obtain⟨y,e2,e3⟩:=e
   rw [e1,L0,e2,L0,e3,L0]
   rw [yU (by simp only [L6]; omega)]
   simp only [L0]
   rw [w1 O0,JT r h hb hB hn k (i+1) _ O0 O0 (by simp [ha]),L9 hc,Lb,Ln,List.singleton_append]
  ·rw [L3 O4]
   have:i=r.length:=O0
   subst this
   simp
theorem oG {n B:Nat} {r:List Att} (h:∀a∈r,okA a) (hb:BdR B r) (hB:B≤1000000) (hn:B+100≤n):jt n r=some (r.map YR):=by
 unfold jt
 have:=JT (n:=n) r h hb hB hn n 0 [] O0 (by have:=hb.1; omega) rfl
 rw [show((0:Nat):Int)=0 from rfl,Lf,Lg]at this
 rw [this]; rfl
theorem D8 {n B:Nat} (l:List (List Att)) (h:okN l) (hb:BdN B l) (hB:B≤1000000) (hn:B+100≤n):∀(k i:Nat) (acc:Bs),i≤l.length→l.length-i<k→acc.length≤541*i→wm n ⟨l⟩ k acc (i:Int)=some (acc++wraps ((l.drop i).map dy))
 |0,i,_,_,h,_=>O0
 | k+1,i,acc,hi,hk,ha=>by
  have hl:=hb.1
  rw [wm]
  by_cases hc:i<l.length
  ·have hr:=h.2 l[i] O2
   have hbr:=hb.2 l[i] O2
   rw [L4 (by rw [L2]; show(i:Int)<(l.length:Int); omega)]
   simp only [zE hc,L0]
   rw [oG hr.2.2.1 hbr hB hn]
   simp only [L0]
   have:=hr.2.1
   rw [nE (by rw [L8]; omega) (by have:=GO hr; omega) (by rw [L8]; omega),Q4]
   simp only [L0]
   have hlen:=Ua hr
   have hw:=zU (dy l[i]).1 (dy l[i]).2
   have h8:=h.1
   rw [show(49:Int)=((49:Nat):Int)from rfl,Xh O0 O0 (by simp only [dy]at hlen; omega) O0]
   simp only [L0]
   have e:(tWrap 49 (wraps ((gf l[i]).map U5))).1=(tWrap (dy l[i]).1 (dy l[i]).2).1:=rfl
   rw [e,yo O0]
   simp only [L0]
   rw [w1 O0,D8 l h hb hB hn k (i+1) _ O0 O0 (by rw [L5]; omega),L9 hc,Lb,ji,Ln]
  ·rw [L3 (by rw [L2]; show ¬(i:Int)<(l.length:Int); omega)]
   have:i=l.length:=O0
   subst this
   simp [wraps]
theorem VM {n B:Nat} {l:List (List Att)} (hb:BdN B l) (hB:B≤1000000) (hn:B+100≤n):wc n ⟨l⟩=some (XV l):=by
 unfold wc XV
 have hl:=hb.1
 rw [PR hb hB hn]
 simp only [L0]
 by_cases h:vy l≠0
 ·rw [L4 h,L4 (O9 h)]
 rw [L3 h,L3 (O9 h)]
 have ho:okN l:=kT.1 (O9 h)
 have e1:=D8 (n:=n) l ho hb hB hn n 0 [] O0 O0 O2
 rw [show((0:Nat):Int)=0 from rfl,Lf,Lg]at e1
 rw [e1]
 simp only [L0]
 have hlen:=dm ho
 rw [show(48:Int)=((48:Nat):Int)from rfl,Xh O0 O0 (by simp only [y8]at hlen; omega) O0]
 rfl
def okK (k:zF):Bool:= !(decide (k.zy<0)||(decide (k.zy>8)||((k.wL.length:Int) !=16||(k.zY.length:Int) !=16)))
theorem Un {k:zF}:okK k=true↔0≤k.zy∧k.zy≤8∧k.wL.length=16∧k.zY.length=16:=by
 unfold okK
 simp only [Bool.not_eq_true',Bool.or_eq_false_iff,decide_eq_false_iff_not,bne_eq_false_iff_eq]
 omega
theorem nH {n:Nat} {k:zF}:qN n k=some (if okK k=true then 0 else 18):=by
 unfold qN okK
 simp only [dro,L0]
 cases(decide (k.zy<0)||(decide (k.zy>8)||((k.wL.length:Int) !=16||(k.zY.length:Int) !=16)))<;>rfl
theorem tX {n:Nat} {k:zF}:wH n k=some (if okK k=true then 0 else 18):=by
 unfold wH okK
 simp only [dro,L0]
 cases(decide (k.zy<0)||(decide (k.zy>8)||((k.wL.length:Int) !=16||(k.zY.length:Int) !=16)))<;>rfl
def Yw:Bs:= [43,6,1,4,1,131,204,8,1,1]
def dO:Nat×Bs:=(48,wraps [(6,Yw)])
def XC (k:zF):List (Nat×Bs):= [dO,(3,0::o8 k.zy.toNat::(k.wL++k.zY))]
def kR (k:zF):Nat×Bs:=(48,wraps (XC k))
theorem zeu {n:Nat} (hn:100≤n):dB n=some (tWrap dO.1 dO.2).1:=by
 obtain⟨m,rfl⟩:∃m,n=m+100:=⟨n-100,O0⟩
 kernel_rfl
theorem zec {n:Nat} (hn:100≤n):kX n=some (tWrap dO.1 dO.2).1:=by
 obtain⟨m,rfl⟩:∃m,n=m+100:=⟨n-100,O0⟩
 kernel_rfl
theorem UB (r:List Att):(gf r).Pairwise fun a b=>leB (YR a) (YR b)=true:=
 List.pairwise_mergeSort (le:=fun a b=>leB (YR a) (YR b)) (fun _ _ _ h1 h2=>Ql _ _ _ h1 h2) (fun _ _=>QQ _ _) r
theorem PK (r:List Att):gf (gf r)=gf r:=List.mergeSort_of_pairwise (UB r)
abbrev WX (l:List (List Att)):List (List Att):=l.map gf
theorem JM {l:List (List Att)} (h:okN l):okN (WX l):=by
 refine⟨by rw [L8]; exact h.1,fun r hr=> ?_⟩
 obtain⟨q,hq,rfl⟩:=Le.1 hr
 exact JU (h.2 q hq)
theorem Bu (l:List (List Att)):y8 (WX l)=y8 l:=by
 unfold y8
 rw [List.map_map]
 have:l.map (dy∘gf)=l.map dy:=List.map_congr_left fun r _=>by simp only [Function.comp,dy,PK]
 rw [this]
theorem lh {a:Att} (h:okA a):POk (U5 a):=
 ⟨by show(48:Nat)≤255; omega,by show(48:Nat)%32≠31; omega,by have:=(Ur h).2.1; show(wraps (Ux a)).length≤_; omega⟩
theorem mh {r:List Att} (h:okR r):POk (dy r):=
 ⟨by show(49:Nat)≤255; omega,by show(49:Nat)%32≠31; omega,by have:=Ua h; omega⟩
theorem K4 {l:List (List Att)} (h:okN l):POk (y8 l):=
 ⟨by show(48:Nat)≤255; omega,by show(48:Nat)%32≠31; omega,by have:=dm h; omega⟩
theorem za7 {a:Att} (h:okA a):BdA 252 a:=⟨Uu h.1,by have:=h.2.2.2; omega⟩
theorem zaV {r:List Att} (h:okR r):BdR 252 r:=⟨by have:=h.2.1; omega,fun a ha=>za7 (h.2.2.1 a ha)⟩
theorem fY {l:List (List Att)} (h:okN l):BdN 252 l:=⟨by have:=h.1; omega,fun r hr=>zaV (h.2 r hr)⟩
abbrev Anc:=zj
theorem XU (k:zF) (h:okK k=true):(∀p∈XC k,POk p)∧(wraps (XC k)).length≤60:=by
 obtain⟨h1,h2,h3,h4⟩:=Un.1 h
 have ha:dO.2.length=12:=O1
 have hl:(0::o8 k.zy.toNat::(k.wL++k.zY):Bs).length=34:=by simp [h3,h4]
 refine⟨?_, ?_⟩
 ·intro p hp
  simp only [XC,Lm,List.not_mem_nil,or_false]at hp
  rcases hp with rfl|rfl
  ·exact⟨O1,O1,O0⟩
  ·exact⟨by dsimp only; decide,by dsimp only; decide,O6⟩
 ·have t1:=zU dO.1 dO.2
  have t2:=zU 3 (0::o8 k.zy.toNat::(k.wL++k.zY))
  simp only [XC,wraps,Lb,List.map_nil,List.flatten_cons,List.flatten_nil,Lh,L5]
  omega
theorem DG {k:zF} (h:okK k=true):POk (kR k):=
 ⟨by show(48:Nat)≤255; omega,by show(48:Nat)%32≠31; omega,by have:=(XU k h).2; show(wraps (XC k)).length≤_; omega⟩
def bo (a:Anc):Int:=if vy a.zo.zg≠0 then vy a.zo.zg else if a.zo.zg= []then 14 else if okK a.zK=true then 0 else 18
def bg:List Anc→Int
 | []=>0
 |a::l=>if bo a≠0 then bo a else bg l
def XJ (a:Anc):List (Nat×Bs):= [y8 a.zo.zg,kR a.zK]
def ancE (a:Anc):Nat×Bs:=(48,wraps (XJ a))
def Zf (a:Anc):Prop:=okN a.zo.zg∧a.zo.zg≠ []∧okK a.zK=true
theorem Kz {a:Anc}:bo a=0↔Zf a:=by
 unfold bo Zf
 rw [←kT]
 by_cases h1:vy a.zo.zg≠0
 ·rw [L4 h1]; exact⟨fun h=>absurd h h1,fun h=>absurd h.1 h1⟩
 rw [L3 h1]
 have h1:vy a.zo.zg=0:=by simpa using h1
 by_cases h2:a.zo.zg= []
 ·rw [L4 h2]; exact⟨fun h=>by simp at h,fun h=>absurd h2 h.2.1⟩
 rw [L3 h2]
 by_cases h3:okK a.zK=true
 ·rw [L4 h3]; exact⟨fun _=>⟨h1,h2,h3⟩,fun _=>rfl⟩
 ·rw [L3 h3]; exact⟨fun h=>by simp at h,fun h=>absurd h.2.2 h3⟩
theorem VU:∀ {l:List Anc},bg l=0↔∀a∈l,Zf a
 | []=>by simp [bg]
 | a::l=>by
  rw [bg]
  by_cases h:bo a=0
  ·rw [L3 (O9 h),VU]
   rw [Kz]at h
   simp [h]
  ·rw [L4 h]
   constructor
   ·intro e; exact absurd e h
   ·intro e; exact absurd (Kz.2 (e a O2)) h
theorem pL {a:Anc} (h:Zf a):(∀p∈XJ a,POk p)∧(wraps (XJ a)).length≤4398:=by
 have k1:=dm h.1
 have k2:=(XU a.zK h.2.2).2
 refine⟨?_, ?_⟩
 ·intro p hp
  simp only [XJ,Lm,List.not_mem_nil,or_false]at hp
  rcases hp with rfl|rfl
  ·exact K4 h.1
  ·exact DG h.2.2
 ·have t1:=zU (y8 a.zo.zg).1 (y8 a.zo.zg).2
  have t2:=zU 48 (wraps (XC a.zK))
  have e:kR a.zK=(48,wraps (XC a.zK)):=rfl
  simp only [XJ,wraps,Lb,List.map_nil,List.flatten_cons,List.flatten_nil,Lh,L5,e]at *
  omega
theorem Uh {a:Anc} (h:Zf a):POk (ancE a):=
 ⟨by show(48:Nat)≤255; omega,by show(48:Nat)%32≠31; omega,by have:=(pL h).2; show(wraps (XJ a)).length≤_; omega⟩
def YD (l:List Anc):Bs×Int:=
 if 64<l.length then([],2)else if bg l≠0 then([],bg l)else if 131072<(wraps (l.map ancE)).length then([],2)else((tWrap 48 (wraps (l.map ancE))).1,0)
def dZ (a:Anc):Anc:=⟨⟨WX a.zo.zg⟩,a.zK⟩
theorem QU {a:Anc} (h:Zf a):Zf (dZ a):=⟨JM h.1,fun e=>h.2.1 (by simpa [dZ,WX] using e),h.2.2⟩
theorem Gx (a:Anc):ancE (dZ a)=ancE a:=by
 unfold ancE XJ dZ; simp only [Bu]
theorem VZ {l:List Anc} {b:Bs} (h:YD l=(b,0)):l.length≤64∧(∀a∈l,Zf a)∧(wraps (l.map ancE)).length≤131072∧b=(tWrap 48 (wraps (l.map ancE))).1:=by
 unfold YD at h
 by_cases h1:64<l.length
 ·rw [L4 h1]at h; simp at h
 rw [L3 h1]at h
 by_cases h2:bg l≠0
 ·rw [L4 h2]at h; injection h with _ h; exact absurd h h2
 rw [L3 h2]at h
 by_cases h3:131072<(wraps (l.map ancE)).length
 ·rw [L4 h3]at h; simp at h
 rw [L3 h3]at h
 injection h with h _
 exact⟨O0,VU.1 (O9 h2),O0,h.symm⟩
theorem tE {l:List Anc} (h1:l.length≤64) (h2:∀a∈l,Zf a) (h3:(wraps (l.map ancE)).length≤131072):YD l=((tWrap 48 (wraps (l.map ancE))).1,0):=by
 unfold YD
 rw [L3 O0,L3 (by rw [VU.2 h2]; simp),L3 O0]
theorem GL {l:List Anc} {b:Bs} (h:YD l=(b,0)):YD (l.map dZ)=(b,0):=by
 obtain⟨h1,h2,h3,h4⟩:=VZ h
 have e:(l.map dZ).map ancE=l.map ancE:=by
  rw [List.map_map]; exact List.map_congr_left fun a _=>Gx a
 rw [tE (by rw [L8]; exact h1) (fun a ha=>by obtain⟨x,hx,rfl⟩:=Le.1 ha; exact QU (h2 x hx)) (by rw [e]; exact h3),e,h4]
theorem zeH (v:Nat):b2s ([wrap .u8 (v:Int)]:List Int)= [o8 v]:=by
 show [UInt8.ofNat (wrap .u8 (v:Int)).toNat]=_
 rw [gn]
theorem ll {n:Nat} {k:zF} (hn:100≤n):bU n k=some (if okK k=true then((tWrap (kR k).1 (kR k).2).1,0)else([],18)):=by
 unfold bU
 rw [nH,L0]
 by_cases h:okK k=true
 ·rw [L4 h,L4 h,L3 O1]
  obtain⟨h1,h2,h3,h4⟩:=Un.1 h
  have hv:k.zy=((k.zy.toNat:Nat):Int):=O0
  have hb:b2s ([wrap .u8 k.zy]:List Int)= [o8 k.zy.toNat]:=by
   conv=>lhs; rw [hv]
   exact zeH _
  have hc:gQ n k=some (o8 k.zy.toNat::(k.wL++k.zY)):=by
   unfold gQ
   rw [hb,yo (by rw [h3]; simp),L0,yo (by rw [L5,h3,h4]; simp),L0]
   rfl
  have hs:pG n (o8 k.zy.toNat::(k.wL++k.zY)) 0=some (0::o8 k.zy.toNat::(k.wL++k.zY),0):=by
   unfold pG ge
   rw [L3 O1,L0,L3 O1,L4 O1,L0,L3 O1,show b2s ([wrap .u8 0]:List Int)= [0]from rfl,yo (by simp [h3,h4]),L0]
   rfl
  have hl:(0::o8 k.zy.toNat::(k.wL++k.zY):Bs).length=34:=by simp [h3,h4]
  have ha:dO.2.length=12:=O1
  have t1:=zU dO.1 dO.2
  have t2:=zU 3 (0::o8 k.zy.toNat::(k.wL++k.zY))
  rw [hc,L0,hs,L0,L3 O2,show(3:Int)=((3:Nat):Int)from rfl,Js O0 O0 O6 O0,L0,be (t:=3) O6,L3 O2,zeu hn,L0,show(48:Int)=((48:Nat):Int)from rfl]
  have hf:([(tWrap dO.1 dO.2).1,(tWrap 3 (0::o8 k.zy.toNat::(k.wL++k.zY))).1]:List Bs).flatten=wraps (XC k):=by
   simp only [XC,wraps,Lb,List.map_nil]
  have hk:=(XU k h).2
  rw [Ww O0 O0 (by intro c hc; simp only [Lm,List.not_mem_nil,or_false]at hc; rcases hc with rfl|rfl<;>omega) (by simp only [L7,Lj]; omega) O2,hf,be (t:=48) O0]
  rfl
 ·rw [L3 h,L3 h,L4 O1]
theorem mw {n:Nat} {k:zF} (hn:100≤n):uF n k=some (if okK k=true then((tWrap (kR k).1 (kR k).2).1,0)else([],18)):=by
 unfold uF
 rw [tX,L0]
 by_cases h:okK k=true
 ·rw [L4 h,L4 h,L3 O1]
  obtain⟨h1,h2,h3,h4⟩:=Un.1 h
  have hv:k.zy=((k.zy.toNat:Nat):Int):=O0
  have hb:qU n k.zy=some [o8 k.zy.toNat]:=by
   rw [hv]
   have:∀v:Nat,v≤8→qU n (v:Int)=some [o8 v]:=by
    intro v hv
    have:=Ld.1 (show((List.range 9).all fun v:Nat=>decide (qU n (v:Int)=some [o8 v]))=true by kernel_rfl) v O3
    simpa using this
   rw [this _ O0]; rfl
  have hc:bV n k=some (o8 k.zy.toNat::(k.wL++k.zY)):=by
   unfold bV
   rw [hb,L0,yo (by rw [h3]; simp),L0,yo (by rw [L5,h3,h4]; simp),L0]
   rfl
  have hl:(0::o8 k.zy.toNat::(k.wL++k.zY):Bs).length=34:=by simp [h3,h4]
  have ha:dO.2.length=12:=O1
  have t1:=zU dO.1 dO.2
  have t2:=zU 3 (0::o8 k.zy.toNat::(k.wL++k.zY))
  rw [zec hn,L0,hc,L0,yo (by simp [h3,h4]),L0,show(3:Int)=((3:Nat):Int)from rfl,List.singleton_append,Xh O0 O0 O0 O0,L0,show(48:Int)=((48:Nat):Int)from rfl]
  have hf:([(tWrap dO.1 dO.2).1,(tWrap 3 (0::o8 k.zy.toNat::(k.wL++k.zY))).1]:List Bs).flatten=wraps (XC k):=by
   simp only [XC,wraps,Lb,List.map_nil]
  have hk:=(XU k h).2
  rw [DD O0 O0 (by rw [hf]; omega) (by simp only [L7,Lj]; omega) O2,hf]
  rfl
 ·rw [L3 h,L3 h,L4 O1]
def BdL (B:Nat) (l:List Anc):Prop:=∀a∈l,BdN B a.zo.zg
theorem zce {n B:Nat} {a:Anc} {b:Bs} (h:Zf a) (hb:BdN B a.zo.zg) (hB:B≤1000000) (hn:B+100≤n) (hl:b.length≤1000000000):uk n a ⟨b,0⟩=some ⟨b++(tWrap (ancE a).1 (ancE a).2).1,0⟩:=by
 unfold uk
 have k1:=dm h.1
 have k2:=(XU a.zK h.2.2).2
 have k3:=(pL h).2
 have t1:=zU 48 (y8 a.zo.zg).2
 have t2:=zU (kR a.zK).1 (kR a.zK).2
 have e2:(kR a.zK).2=wraps (XC a.zK):=rfl
 rw [e2]at t2
 have e0:XV a.zo.zg=((tWrap 48 (y8 a.zo.zg).2).1,0):=by unfold XV; rw [L3 (by rw [kT.2 h.1]; simp)]
 rw [Ge hb hB hn,L0,e0,Qq (by simp only [Lj]; omega),L0,ll (k:=⟨a.zK.zy,a.zK.wL,a.zK.zY⟩) O0,L0,L4 (show okK ⟨a.zK.zy,a.zK.wL,a.zK.zY⟩=true from h.2.2),Lg]
 have e1:(tWrap (kR ⟨a.zK.zy,a.zK.wL,a.zK.zY⟩).1 (kR ⟨a.zK.zy,a.zK.wL,a.zK.zY⟩).2).1=(tWrap (kR a.zK).1 (kR a.zK).2).1:=rfl
 simp only []
 rw [e1,e2,Qq O0,L0]
 simp only []
 rw [Qq (by simp only [Lj]; omega),L0,Lh]
 have hf:(tWrap 48 (y8 a.zo.zg).2).1++(tWrap (kR a.zK).1 (wraps (XC a.zK))).1=wraps (XJ a):=by
  simp only [XJ,wraps,Lb,List.map_nil,List.flatten_cons,List.flatten_nil,Lh]
  rfl
 rw [hf,show(48:Int)=((48:Nat):Int)from rfl,KH O0 O0 O0 O0,L0,be (t:=48) O0]
 rfl
theorem Pn {n B:Nat} (l:List Anc) (hb:BdL B l) (hB:B≤1000000) (hn:B+100≤n) (hl:l.length≤64):∀(k i:Nat),i≤l.length→l.length-i<k→uc n l k (i:Int)=some (if bg (l.drop i)≠0 then .ret ([],bg (l.drop i))else .nxt ())
 |0,i,_,h=>O0
 | k + 1,i,hi,hk=>by
  rw [uc]
  by_cases hc:i<l.length
  ·rw [L4 O4,zE hc,L0,J4 (hb _ (Li hc)) hB hn,L0,L9 hc,bg]
   unfold bo
   by_cases h1:vy l[i].zo.zg≠0
   ·rw [L4 (O9 h1),L4 h1,L4 h1,L4 h1]
   rw [L3 (O9 h1),L3 h1]
   by_cases h2:l[i].zo.zg= []
   ·rw [L4 (by rw [h2]; rfl),L4 h2]; rfl
   rw [L3 (O9 h2),L3 h2,ll (k:=⟨l[i].zK.zy,l[i].zK.wL,l[i].zK.zY⟩) O0,L0,show okK ⟨l[i].zK.zy,l[i].zK.wL,l[i].zK.zY⟩=okK l[i].zK from rfl]
   by_cases h3:okK l[i].zK=true
   ·rw [L4 h3,L4 h3,L3 O2,L3 (show ¬((0:Int)≠0)by simp),w1 O0]
    exact Pn l hb hB hn hl k (i+1) O0 O0
   ·rw [L3 h3,L3 h3,L4 O2,L4 (show((18:Int)≠0)by simp),L4 (show((18:Int)≠0)by simp)]
  ·rw [L3 O4,La O0]
   rfl
theorem PZ {n B:Nat} (l:List Anc) (ho:∀a∈l,Zf a) (hb:BdL B l) (hB:B≤1000000) (hn:B+100≤n) (hl:l.length≤64):∀(k i:Nat) (b:Bs),i≤l.length→l.length-i<k→b.length≤4403*i→vY n l k (i:Int) b 0=some (b++wraps ((l.drop i).map ancE),0)
 |0,i,_,_,h,_=>O0
 | k+1,i,b,hi,hk,hbl=>by
  rw [vY]
  by_cases hc:i<l.length
  ·have hx:=Li hc
   have k3:=(pL (ho _ hx)).2
   have t1:=zU (ancE l[i]).1 (ancE l[i]).2
   have e2:(ancE l[i]).2=wraps (XJ l[i]):=rfl
   rw [←e2]at k3
   rw [L4 O4,zE hc,L0,show uk n ⟨⟨l[i].zo.zg⟩,⟨l[i].zK.zy,l[i].zK.wL,l[i].zK.zY⟩⟩ ⟨b,0⟩=_ from zce (a:=l[i]) (ho _ hx) (hb _ hx) hB hn O0,L0,w1 O0]
   simp only []
   rw [PZ l ho hb hB hn hl k (i+1) _ O0 O0 (by rw [L5]; omega),L9 hc,Lb,ji,Ln]
  ·rw [L3 O4,La O0]
   simp [wraps]
theorem dD {l:List Anc} (ho:∀a∈l,Zf a):(wraps (l.map ancE)).length≤4403*l.length:=by
 have:=WB (m:=4398) (l.map ancE) (fun p hp=>by obtain⟨a,ha,rfl⟩:=Le.1 hp; exact(pL (ho a ha)).2)
 rw [L8]at this; exact this
theorem zbv {n B:Nat} {l:List Anc} (hb:BdL B l) (hB:B≤1000000) (hn:B+500≤n):jX n l=some (YD l):=by
 unfold jX YD
 by_cases h1:64<l.length
 ·rw [L4 O4,L4 h1]
 rw [L3 O4,L3 h1]
 have e1:=Pn (n:=n) l hb hB O0 O0 n 0 O0 O0
 rw [show((0:Nat):Int)=0 from rfl,Lf]at e1
 rw [e1]
 by_cases h2:bg l≠0
 ·rw [L4 h2,L4 h2]; rfl
 rw [L3 h2,L3 h2]
 simp only [z8]
 have ho:=VU.1 (show bg l=0 by simpa using h2)
 have e2:=PZ (n:=n) l ho hb hB O0 O0 n 0 [] O0 O0 O2
 rw [show((0:Nat):Int)=0 from rfl,Lf,Lg]at e2
 have hw:=dD ho
 rw [e2,L0]
 simp only []
 rw [JV O0 O0,L0]
 split<;>rfl
theorem PJ {n B:Nat} (l:List Anc) (hb:BdL B l) (hB:B≤1000000) (hn:B+100≤n) (hl:l.length≤64):∀(k i:Nat) (b:Bs),i≤l.length→l.length-i<k→b.length≤4403*i→xD n l k b (i:Int)=some (if bg (l.drop i)≠0 then .ret ([],bg (l.drop i))else .nxt (b++wraps ((l.drop i).map ancE)))
 |0,i,_,_,h,_=>O0
 | k + 1,i,b,hi,hk,hbl=>by
  rw [xD]
  by_cases hc:i<l.length
  ·have hx:=Li hc
   rw [L4 O4,zE hc,L0,L9 hc,bg,Lb,ji]
   have key:xc n ⟨⟨l[i].zo.zg⟩,⟨l[i].zK.zy,l[i].zK.wL,l[i].zK.zY⟩⟩=some (if bo l[i]≠0 then([],bo l[i])else((tWrap (ancE l[i]).1 (ancE l[i]).2).1,0)):=by
    unfold xc yr
    simp only []
    rw [PR (hb _ hx) hB hn,L0]
    by_cases h1:vy l[i].zo.zg≠0
    ·have ea:bo l[i]=vy l[i].zo.zg:=by unfold bo; rw [L4 h1]
     rw [L4 (O9 h1),L0,ea,L4 (O9 h1),L4 h1]
    rw [L3 (O9 h1)]
    have h1':vy l[i].zo.zg=0:=by simpa using h1
    by_cases h2:l[i].zo.zg= []
    ·have ea:bo l[i]=14:=by unfold bo; rw [L3 h1,L4 h2]
     rw [L4 (by rw [h2]; rfl),L0,ea,L4 O1,L4 O1]
    have e0:XV l[i].zo.zg=((tWrap 48 (y8 l[i].zo.zg).2).1,0):=by unfold XV; rw [L3 h1]
    rw [L3 (O9 h2),L0,L3 O1,VM (hb _ hx) hB hn,L0,e0,mw (k:=⟨l[i].zK.zy,l[i].zK.wL,l[i].zK.zY⟩) O0,L0,show okK ⟨l[i].zK.zy,l[i].zK.wL,l[i].zK.zY⟩=okK l[i].zK from rfl]
    by_cases h3:okK l[i].zK=true
    ·have ok:Zf l[i]:=⟨kT.1 h1',h2,h3⟩
     have k3:=(pL ok).2
     have hf:([(tWrap 48 (y8 l[i].zo.zg).2).1,(tWrap (kR l[i].zK).1 (kR l[i].zK).2).1]:List Bs).flatten=wraps (XJ l[i]):=by
      simp only [XJ,wraps,Lb,List.map_nil]
      rfl
     rw [L4 h3,L3 O2,L3 (by rw [Kz.2 ok]; simp),show(48:Int)=((48:Nat):Int)from rfl]
     rw [show([(((tWrap 48 (y8 l[i].zo.zg).2).1,(0:Int)):Bs×Int).1,(((tWrap (kR ⟨l[i].zK.zy,l[i].zK.wL,l[i].zK.zY⟩).1 (kR ⟨l[i].zK.zy,l[i].zK.wL,l[i].zK.zY⟩).2).1,(0:Int)):Bs×Int).1]:List Bs)= [(tWrap 48 (y8 l[i].zo.zg).2).1,(tWrap (kR l[i].zK).1 (kR l[i].zK).2).1]from rfl]
     rw [DD O0 O0 (by rw [hf]; omega) (by simp only [L7,Lj]; omega) O2,hf]
     rfl
    ·have ea:bo l[i]=18:=by unfold bo; rw [L3 h1,L3 h2,L3 h3]
     rw [L3 h3,L4 O2,ea,L4 O1]
   rw [key,L0]
   by_cases h:bo l[i]≠0
   ·rw [L4 h,L4 (O9 h),L4 h,L4 h]
   ·have ok:Zf l[i]:=Kz.1 (O9 h)
    have k3:=(pL ok).2
    have t1:=zU (ancE l[i]).1 (ancE l[i]).2
    have e2:(ancE l[i]).2=wraps (XJ l[i]):=rfl
    rw [←e2]at k3
    rw [L3 h,L3 O2,L3 h,yo (by show b.length+(tWrap (ancE l[i]).1 (ancE l[i]).2).1.length≤_; omega),L0,w1 O0]
    simp only []
    rw [PJ l hb hB hn hl k (i+1) _ O0 O0 (by rw [L5]; omega),Ln]
  ·rw [L3 O4,La O0]
   simp [wraps,bg]
theorem zba {n B:Nat} {l:List Anc} (hb:BdL B l) (hB:B≤1000000) (hn:B+500≤n):uM n l=some (YD l):=by
 unfold uM YD
 by_cases h1:64<l.length
 ·rw [L4 O4,L4 h1]
 rw [L3 O4,L3 h1]
 have e1:=PJ (n:=n) l hb hB O0 O0 n 0 [] O0 O0 O2
 rw [show((0:Nat):Int)=0 from rfl,Lf]at e1
 rw [e1]
 by_cases h2:bg l≠0
 ·rw [L4 h2,L4 h2]; rfl
 rw [L3 h2,L3 h2]
 simp only [z8,Lg]
 have ho:=VU.1 (show bg l=0 by simpa using h2)
 have hw:=dD ho
 unfold xC
 rw [show(48:Int)=((48:Nat):Int)from rfl,lK O0 O0 O0 O0,L0]
 by_cases h3:131072<(wraps (l.map ancE)).length
 ·rw [J3 h3,L4 h3]; rfl
 ·rw [bB O0,L3 h3]; rfl
abbrev El:=za
def Ki:List El→Bool
 |a::b::l=> !(Op.bytesLess b.jL a.jL)&&Ki (b::l)
 |_=>true
theorem o7 {n:Nat} (a:List El) (ha:a.length≤1000000000):∀(k i:Nat),1≤i→a.length-i<k→ue n a k (i:Int)=some (if Ki (a.drop (i-1))=true then .nxt ()else .ret false)
 |0,i,_,h=>O0
 | k + 1,i,hi,hk=>by
  rw [ue]
  by_cases hc:i<a.length
  ·have e1:wrap .i64 ((i:Int)-1)=((i-1:Nat):Int):=by rw [yv O0]; omega
   have e2:a.drop (i-1)=a[i-1]::a[i]::a.drop (i+1):=by
    rw [L9 (show i-1<a.length by omega)]
    congr 1
    have:i-1+1=i:=O0
    rw [this,L9 hc]
   rw [L4 O4,zE hc,L0,e1,zE (show i-1<a.length by omega),L0,e2,Ki]
   by_cases h:Op.bytesLess a[i].jL a[i-1].jL=true
   ·rw [L4 h,h]; rfl
   ·have e3:a.drop (i+1-1)=a[i]::a.drop (i+1):=by
     rw [show i+1-1=i by omega,L9 hc]
    rw [L3 h,w1 O0,o7 a ha k (i+1) O0 O0,e3]
    rw [Bool.not_eq_true]at h
    rw [h,Bool.not_false,Bool.true_and]
  ·rw [L3 O4]
   have:Ki (a.drop (i-1))=true:=by
    have hl:(a.drop (i-1)).length≤1:=by rw [List.length_drop]; omega
    match a.drop (i-1),hl with
    | [],_=>rfl
    | [_],_=>rfl
   rw [this]; rfl
theorem mq {n:Nat} {a:List El} (ha:a.length≤1000000000) (hn:a.length<n):gK n a=some (Ki a):=by
 unfold gK
 have:=o7 (n:=n) a ha n 1 O0 O0
 rw [show((1:Nat):Int)=1 from rfl,show 1-1=0 from rfl,Lf]at this
 rw [this]
 cases Ki a<;>rfl
theorem lY {n:Nat} (a:List El):∀(k:Nat) (v:Int),wA n a k v=ue n a k v
 |0,v=>rfl
 |k+1,v=>by rw [wA,ue]; simp only [lY a k]
theorem t6 {n:Nat} {a:List El} (ha:a.length≤1000000000) (hn:a.length<n):jC n a=some (Ki a):=by
 have:=mq ha hn
 unfold gK at this
 unfold jC
 rw [lY]; exact this
def A0:Att:=⟨[],0,[]⟩
def Zq (D:Bs→Bs×Int) (e:El):Att×Int:=
 if e.zA≠48 then(A0,5)else if(tList e.zc).2≠0 then(A0,(tList e.zc).2)else match(tList e.zc).1 with
 | []=>(A0,3)
 | x::r=>if x.zA≠6 then(A0,5)else if(D x.zc).2≠0 then(A0,(D x.zc).2)else match r with
  | []=>(A0,3)
  |y::s=>if y.zA≠12∧y.zA≠19∧y.zA≠22 then(A0,5)else if s≠ []then(A0,4)else(⟨(D x.zc).1,y.zA,y.zc⟩,0)
def jU (D:Bs→Bs×Int):List Att→List El→List Att×Int
 |acc,[]=>(acc,0)
 |acc,x::l=>if(Zq D x).2≠0 then([],(Zq D x).2)else jU D (acc ++ [(Zq D x).1]) l
def Xs (D:Bs→Bs×Int) (e:El):List Att×Int:=
 if e.zA≠49 then([],5)else if(tList e.zc).2≠0 then([],(tList e.zc).2)else if Ki (tList e.zc).1=false then([],9)else jU D [] (tList e.zc).1
def js (D:Bs→Bs×Int):List (List Att)→List El→List (List Att)×Int
 |acc,[]=>(acc,0)
 |acc,x::l=>if(Xs D x).2≠0 then([],(Xs D x).2)else js D (acc ++ [(Xs D x).1]) l
def bS (D:Bs→Bs×Int) (b:Bs):List (List Att)×Int:=
 if(va b).2≠0 then([],(va b).2)else if(va b).1.zA≠48 then([],5)else if(tList (va b).1.zc).2≠0 then([],(tList (va b).1.zc).2)else
 if(js D [] (tList (va b).1.zc).1).2≠0 then([],(js D [] (tList (va b).1.zc).1).2)else
 if vy (js D [] (tList (va b).1.zc).1).1≠0 then([],vy (js D [] (tList (va b).1.zc).1).1)else((js D [] (tList (va b).1.zc).1).1,0)
theorem tH {n M:Nat} {D:Bs→Bs×Int} (hD:∀c:Bs,c.length≤M→yq n c=some (D c)) {e:El} (he:e.zc.length≤M) (hM:M≤1000000) (hn:M+100≤n):qx n e=some (Zq D e):=by
 unfold qx Zq
 by_cases h1:e.zA≠48
 ·rw [L4 (O9 h1),L4 h1]; rfl
 rw [L3 (O9 h1),L3 h1,kW O0 O0,L0]
 have hb:=wg e.zc he
 generalize tList e.zc=T at hb
 obtain⟨L,x⟩:=T
 simp only []at hb ⊢
 by_cases h2:x≠0
 ·rw [L4 (O9 h2),L4 h2]; rfl
 rw [L3 (O9 h2),L3 h2]
 match L,hb with
 | [],_=>rfl
 | x ::r,hb=>
  have k0:zV (x::r) 0=some x:=by simp [zV]
  have hx:=hb.2 x O2
  have hl:=hb.1
  simp only [L7]at hl
  rw [L3 (by rw [L2,L7]; omega),k0,L0]
  simp only []
  by_cases h3:x.zA≠6
  ·rw [L4 (O9 h3),L4 h3]; rfl
  rw [L3 (O9 h3),L3 h3,L0,hD _ hx,L0]
  by_cases h4:(D x.zc).2≠0
  ·rw [L4 (O9 h4),L4 h4]; rfl
  rw [L3 (O9 h4),L3 h4]
  match r,hb with
  | [],_=>rfl
  | y ::s,hb=>
   have k1:zV (x::y::s) 1=some y:=by simp [zV]
   rw [L3 (by rw [L2,L7,L7]; omega),k1,L0]
   simp only []
   have fin:(if(decide ((List.length (x::y::s):Int)>2))=true then(some ((zb.mk ([]:List UInt8) 0 ([]:List UInt8)),(4:Int)))else((some y:Option El).bind fun x9=>
     (some y:Option El).bind fun x10=>some ((zb.mk (D x.zc).1 x9.zA x10.zc),(0:Int))))=some (if s≠ []then(A0,4)else(⟨(D x.zc).1,y.zA,y.zc⟩,0)):=by
    by_cases h6:s= []
    ·subst h6; rfl
    ·have:0<s.length:=List.length_pos_iff.2 h6
     rw [L4 (by rw [L2,L7,L7]; omega),L4 h6]; rfl
   by_cases t1:y.zA=12
   ·rw [L4 (O9 t1),L4 (O9 t1),L3 (show ¬(y.zA≠12∧y.zA≠19∧y.zA≠22)from fun h=>h.1 t1)]; exact fin
   by_cases t2:y.zA=19
   ·rw [L3 (O9 t1),L4 (O9 t2),L4 (O9 t2),L3 (show ¬(y.zA≠12∧y.zA≠19∧y.zA≠22)from fun h=>h.2.1 t2)]; exact fin
   by_cases t3:y.zA=22
   ·rw [L3 (O9 t1),L3 (O9 t2),L4 (O9 t3),L3 (show ¬(y.zA≠12∧y.zA≠19∧y.zA≠22)from fun h=>h.2.2 t3)]; exact fin
   rw [L3 (O9 t1),L3 (O9 t2),L3 (O9 t3),L4 (show(y.zA≠12∧y.zA≠19∧y.zA≠22)from⟨t1,t2,t3⟩)]; rfl
theorem Kb {n:Nat} {t:Int} {l:List El} {i:Nat} (hl:l.length≤1000000000):ye n t ⟨l,(i:Int)⟩=some (match l[i]? with|none=>(E0,3,⟨l,(i:Int)⟩)|some x=>if 0≤t∧x.zA≠t then(E0,5,⟨l,(i:Int)⟩)else(x,0,⟨l,((i+1:Nat):Int)⟩)):=by
 unfold ye
 simp only []
 by_cases hc:i<l.length
 ·rw [L3 O4,zE hc,L0,List.getElem?_eq_getElem hc,w1 O0]
  simp only []
  by_cases h0:0≤t
  ·rw [L4 O4,L0]
   by_cases h1:l[i].zA≠t
   ·rw [L4 (O9 h1),L4 ⟨h0,h1⟩]
   ·rw [L3 (O9 h1),L3 (fun h=>h1 h.2)]
  ·rw [L3 O4,L0,L3 O2,L3 (fun h=>h0 h.1)]
 ·rw [L4 O4,List.getElem?_eq_none O0]
theorem za2 {n:Nat} {l:List El} {i:Nat}:wZ n ⟨l,(i:Int)⟩=some (if i<l.length then 4 else 0,⟨l,(i:Int)⟩):=by
 unfold wZ
 simp only []
 by_cases hc:i<l.length
 ·rw [L4 O4,L4 hc]
 ·rw [L3 O4,L3 hc]
theorem Ba {n:Nat} {e:El} {t:Int} (hn:e.zc.length+5≤n) (hl:e.zc.length≤1000000000000):vd n e t=some (if e.zA≠t then(⟨[],0⟩,5)else(⟨(tList e.zc).1,0⟩,(tList e.zc).2)):=by
 unfold vd
 by_cases h:e.zA≠t
 ·rw [L4 (O9 h),L4 h]
 ·rw [L3 (O9 h),L3 h,Yi hl hn]; rfl
theorem tf {n M:Nat} {D:Bs→Bs×Int} (hD:∀c:Bs,c.length≤M→zx n c=some (D c)) {e:El} (he:e.zc.length≤M) (hM:M≤1000000) (hn:M+100≤n):jx n e=some (Zq D e):=by
 unfold jx Zq
 rw [Ba O0 O0,L0]
 by_cases h1:e.zA≠48
 ·rw [L4 h1,L4 h1]; rfl
 rw [L3 h1,L3 h1]
 have hb:=wg e.zc he
 generalize tList e.zc=T at hb
 obtain⟨L,x⟩:=T
 simp only []at hb ⊢
 by_cases h2:x≠0
 ·rw [L4 (O9 h2),L4 h2]; rfl
 rw [L3 (O9 h2),L3 h2]
 have hl:=hb.1
 have n0:=Kb (n:=n) (t:=6) (l:=L) (i:=0) O0
 rw [show((0:Nat):Int)=0 from rfl]at n0
 match L,hb,hl,n0 with
 | [],_,_,n0=>rw [n0]; rfl
 | x ::r,hb,hl,n0=>
  have hx:=hb.2 x O2
  simp only [List.getElem?_cons_zero]at n0
  by_cases h3:x.zA≠6
  ·rw [L4 (show(0:Int)≤6∧x.zA≠6 from⟨O0,h3⟩)]at n0
   rw [n0,L0]
   simp only []
   rw [L4 (show x.zA≠6 from h3)]; rfl
  rw [L3 (show ¬((0:Int)≤6∧x.zA≠6)from fun h=>h3 h.2)]at n0
  rw [n0,L0]
  simp only []
  rw [L3 h3,L3 O1,hD _ hx,L0]
  by_cases h4:(D x.zc).2≠0
  ·rw [L4 (O9 h4),L4 h4]; rfl
  rw [L3 (O9 h4),L3 h4]
  have n1:=Kb (n:=n) (t:= -1) (l:=x::r) (i:=0+1) O0
  match r,hb,n1 with
  | [],_,n1=>rw [n1]; rfl
  | y::s,hb,n1=>
   simp only [Nat.zero_add,List.getElem?_cons_succ,List.getElem?_cons_zero]at n1
   rw [L3 (show ¬((0:Int)≤ -1∧y.zA≠ -1)from fun h=>absurd h.1 O1)]at n1
   rw [show((0+1:Nat):Int)=((1:Nat):Int)from rfl,n1,L0]
   simp only []
   rw [L3 O1]
   have key:(if(y.zA !=12)=true then(if(y.zA !=19)=true then(some (y.zA !=22))else(some false))else(some false):Option Bool)=some (decide (y.zA≠12∧y.zA≠19∧y.zA≠22)):=by
    by_cases t1:y.zA=12
    ·rw [L3 (O9 t1),decide_eq_false (fun h=>h.1 t1)]
    by_cases t2:y.zA=19
    ·rw [L4 (O9 t1),L3 (O9 t2),decide_eq_false (fun h=>h.2.1 t2)]
    by_cases t3:y.zA=22
    ·rw [L4 (O9 t1),L4 (O9 t2),decide_eq_false (fun h=>h.2.2 t3)]; simpa using t3
    ·rw [L4 (O9 t1),L4 (O9 t2),decide_eq_true ⟨t1,t2,t3⟩]; simpa using t3
   rw [key,L0]
   by_cases h5:y.zA≠12∧y.zA≠19∧y.zA≠22
   ·rw [L4 (O9 h5),L4 h5]; rfl
   rw [L3 (show ¬(decide (y.zA≠12∧y.zA≠19∧y.zA≠22))=true by rw [L2]; exact h5),L3 h5,za2,L0]
   by_cases h6:s= []
   ·subst h6; rfl
   ·have:0<s.length:=List.length_pos_iff.2 h6
    rw [L4 (show 1+1<(x::y::s).length by simp only [L7]; omega),L4 O2,L4 h6]; rfl
theorem Q9 {D:Bs→Bs×Int}:∀ {l:List El} {acc:List Att},(jU D acc l).2≠0→(jU D acc l).1= []
 | [],acc,h=>absurd rfl h
 | x::l,acc,h=>by
  rw [jU]at h ⊢
  by_cases h1:(Zq D x).2≠0
  ·rw [L4 h1]
  ·rw [L3 h1]at h ⊢; exact Q9 h
theorem oz {D:Bs→Bs×Int} {M B:Nat} (hD:∀c:Bs,c.length≤M→(D c).1.length≤B) (hMB:M≤B) {e:El} (he:e.zc.length≤M):BdA B (Zq D e).1:=by
 have hb:=wg e.zc he
 have z:BdA B A0:=⟨Nat.zero_le _,Nat.zero_le _⟩
 unfold Zq
 split
 ·exact z
 split
 ·exact z
 split
 ·exact z
 rename_i x r hL
 rw [hL]at hb
 split
 ·exact z
 split
 ·exact z
 split
 ·exact z
 split
 ·exact z
 split
 ·exact z
 rename_i y s _ _ _
 exact⟨hD _ (hb.2 x O2),Nat.le_trans (hb.2 _ O2) hMB⟩
theorem K5 {D:Bs→Bs×Int} {M B:Nat} (hD:∀c:Bs,c.length≤M→(D c).1.length≤B) (hMB:M≤B):∀(l:List El) (acc:List Att),(∀e∈l,e.zc.length≤M)→acc.length+l.length≤B→(∀a∈acc,BdA B a)→BdR B (jU D acc l).1
 | [],acc,_,h,h2=>⟨by simpa [jU] using h,h2⟩
 | x::l,acc,hl,h,h2=>by
  rw [jU]
  split
  ·exact⟨Nat.zero_le _,O2⟩
  ·refine K5 hD hMB l _ (fun e he=>hl e (by simp [he])) (by rw [L5,L6]; simp only [L7]at h; omega) ?_
   intro a ha
   rcases Ll.1 ha with ha|ha
   ·exact h2 a ha
   ·rw [Lk]at ha; subst ha; exact oz hD hMB (hl x O2)
theorem nN {D:Bs→Bs×Int} {M B:Nat} (hD:∀c:Bs,c.length≤M→(D c).1.length≤B) (hMB:M≤B) {e:El} (he:e.zc.length≤M):BdR B (Xs D e).1:=by
 have hb:=wg e.zc he
 have z:BdR B []:=⟨Nat.zero_le _,O2⟩
 unfold Xs
 split
 ·exact z
 split
 ·exact z
 split
 ·exact z
 exact K5 hD hMB _ [] hb.2 (by have:=hb.1; simp only [Lj]; omega) O2
theorem UZ {D:Bs→Bs×Int} {M B:Nat} (hD:∀c:Bs,c.length≤M→(D c).1.length≤B) (hMB:M≤B):∀(l:List El) (acc:List (List Att)),(∀e∈l,e.zc.length≤M)→acc.length+l.length≤B→(∀a∈acc,BdR B a)→BdN B (js D acc l).1
 | [],acc,_,h,h2=>⟨by simpa [js] using h,h2⟩
 | x::l,acc,hl,h,h2=>by
  rw [js]
  split
  ·exact⟨Nat.zero_le _,O2⟩
  ·refine UZ hD hMB l _ (fun e he=>hl e (by simp [he])) (by rw [L5,L6]; simp only [L7]at h; omega) ?_
   intro a ha
   rcases Ll.1 ha with ha|ha
   ·exact h2 a ha
   ·rw [Lk]at ha; subst ha; exact nN hD hMB (hl x O2)
theorem Xf {D:Bs→Bs×Int} {b:Bs}:BdN 252 (bS D b).1:=by
 have z:BdN 252 []:=⟨Nat.zero_le _,O2⟩
 unfold bS
 split
 ·exact z
 split
 ·exact z
 split
 ·exact z
 split
 ·exact z
 split
 ·exact z
 rename_i h
 exact fY (kT.1 (O9 h))
theorem ly {n M:Nat} {D:Bs→Bs×Int} (hD:∀c:Bs,c.length≤M→yq n c=some (D c)) (hM:M≤1000000) (hn:M+100≤n) (T:List El×Int) (hT:Bd M T.1):∀(k i:Nat) (acc:List Att),i≤T.1.length→T.1.length-i<k→acc.length≤i →
  vk n T k acc (i:Int)=some (if(jU D acc (T.1.drop i)).2≠0 then .ret ([],(jU D acc (T.1.drop i)).2)else .nxt (jU D acc (T.1.drop i)).1)
 |0,i,_,_,h,_=>O0
 | k + 1,i,acc,hi,hk,ha=>by
  have hl:=hT.1
  rw [vk]
  by_cases hc:i<T.1.length
  ·rw [L4 O4,zE hc,L0,tH hD (hT.2 _ (Li hc)) hM hn,L0,L9 hc,jU]
   by_cases h:(Zq D T.1[i]).2≠0
   ·rw [L4 (O9 h),L4 h,L4 h]
   ·rw [L3 (O9 h),L3 h,yU (by rw [L6]; omega),L0,w1 O0]
    exact ly hD hM hn T hT k (i+1) _ O0 O0 (by rw [L5,L6]; omega)
  ·rw [L3 O4,La O0]
   rfl
theorem zef {n M:Nat} {D:Bs→Bs×Int} (hD:∀c:Bs,c.length≤M→yq n c=some (D c)) (hM:M≤1000000) (hn:M+100≤n) {e:El} (he:e.zc.length≤M):qH n e=some (Xs D e):=by
 unfold qH Xs
 by_cases h1:e.zA≠49
 ·rw [L4 (O9 h1),L4 h1]
 rw [L3 (O9 h1),L3 h1,kW O0 O0,L0]
 have hb:=wg e.zc he
 have hl:=hb.1
 by_cases h2:(tList e.zc).2≠0
 ·rw [L4 (O9 h2),L4 h2]
 rw [L3 (O9 h2),L3 h2,mq O0 O0,L0]
 by_cases h3:Ki (tList e.zc).1=false
 ·rw [L4 (by rw [h3]; rfl),L4 h3]
 rw [L3 (O9 h3),L3 h3]
 have e1:=ly hD hM hn (tList e.zc) hb n 0 [] O0 O0 O2
 rw [show((0:Nat):Int)=0 from rfl,Lf]at e1
 rw [e1]
 by_cases h4:(jU D [] (tList e.zc).1).2≠0
 ·rw [L4 h4]
  exact congrArg some (Prod.ext (Q9 h4).symm rfl)
 ·rw [L3 h4]
  simp only [z8]
  have h4:(jU D [] (tList e.zc).1).2=0:=by simpa using h4
  exact congrArg some (Prod.ext rfl h4.symm)
theorem PU {n M:Nat} {D:Bs→Bs×Int} (hD:∀c:Bs,c.length≤M→yq n c=some (D c)) (hM:M≤1000000) (hn:M+100≤n) (T:List El×Int) (hT:Bd M T.1):∀(k i:Nat) (acc:List (List Att)),i≤T.1.length→T.1.length-i<k→acc.length≤i →
  qa n T k (i:Int) acc=some (if(js D acc (T.1.drop i)).2≠0 then .ret (⟨[]⟩,(js D acc (T.1.drop i)).2)else .nxt (js D acc (T.1.drop i)).1)
 |0,i,_,_,h,_=>O0
 | k + 1,i,acc,hi,hk,ha=>by
  have hl:=hT.1
  rw [qa]
  by_cases hc:i<T.1.length
  ·rw [L4 O4,zE hc,L0,zef hD hM hn (hT.2 _ (Li hc)),L0,L9 hc,js]
   by_cases h:(Xs D T.1[i]).2≠0
   ·rw [L4 (O9 h),L4 h,L4 h]
   ·rw [L3 (O9 h),L3 h,yU (by rw [L6]; omega),L0,w1 O0]
    exact PU hD hM hn T hT k (i+1) _ O0 O0 (by rw [L5,L6]; omega)
  ·rw [L3 O4,La O0]
   rfl
theorem mQ {n M:Nat} {D:Bs→Bs×Int} (hD:∀c:Bs,c.length≤M→yq n c=some (D c)) (hDl:∀c:Bs,c.length≤M→(D c).1.length≤M+252) (hM:M≤900000) (hn:M+500≤n) {b:Bs} (hb:b.length≤M):dc n b=some (⟨(bS D b).1⟩,(bS D b).2):=by
 unfold dc bS
 rw [Ve O0 O0,L0]
 have ho:=YW b
 by_cases h1:(va b).2≠0
 ·rw [L4 (O9 h1),L4 h1]
 rw [L3 (O9 h1),L3 h1]
 by_cases h2:(va b).1.zA≠48
 ·rw [L4 (O9 h2),L4 h2]
 rw [L3 (O9 h2),L3 h2,kW O0 O0,L0]
 have hT:=wg (va b).1.zc (M:=M) O0
 have hl:=hT.1
 generalize tList (va b).1.zc=T at hT hl ⊢
 by_cases h3:T.2≠0
 ·rw [L4 (O9 h3),L4 h3]
 rw [L3 (O9 h3),L3 h3]
 have e1:=PU hD O0 O0 T hT n 0 [] O0 O0 O2
 rw [show((0:Nat):Int)=0 from rfl,Lf]at e1
 rw [e1]
 by_cases h4:(js D [] T.1).2≠0
 ·rw [L4 h4,L4 h4]; rfl
 rw [L3 h4,L3 h4]
 simp only [z8]
 have hbd:=UZ (B:=M+252) hDl O0 T.1 [] hT.2 (by simp only [Lj]; omega) O2
 rw [J4 hbd O0 O0,L0]
 by_cases h5:vy (js D [] T.1).1≠0
 ·rw [L4 (O9 h5),L4 h5]
 ·rw [L3 (O9 h5),L3 h5]
theorem mj {n M:Nat} {D:Bs→Bs×Int} (hD:∀c:Bs,c.length≤M→zx n c=some (D c)) (hM:M≤1000000) (hn:M+100≤n) (T:zI×Int) (hT:Bd M T.1.f_L):∀(k i:Nat) (acc:List Att),i≤T.1.f_L.length→T.1.f_L.length-i<k→acc.length≤i →
  wj n T k acc (i:Int)=some (if(jU D acc (T.1.f_L.drop i)).2≠0 then .ret (⟨[]⟩,(jU D acc (T.1.f_L.drop i)).2)else .nxt (jU D acc (T.1.f_L.drop i)).1)
 |0,i,_,_,h,_=>O0
 | k + 1,i,acc,hi,hk,ha=>by
  have hl:=hT.1
  rw [wj]
  by_cases hc:i<T.1.f_L.length
  ·rw [L4 O4,zE hc,L0,tf hD (hT.2 _ (Li hc)) hM hn,L0,L9 hc,jU]
   by_cases h:(Zq D T.1.f_L[i]).2≠0
   ·rw [L4 (O9 h),L4 h,L4 h]
   ·rw [L3 (O9 h),L3 h,yU (by rw [L6]; omega),L0,w1 O0]
    exact mj hD hM hn T hT k (i+1) _ O0 O0 (by rw [L5,L6]; omega)
  ·rw [L3 O4,La O0]
   rfl
theorem cp {n M:Nat} {D:Bs→Bs×Int} (hD:∀c:Bs,c.length≤M→zx n c=some (D c)) (hM:M≤1000000) (hn:M+100≤n) (T:zI×Int) (hT:Bd M T.1.f_L):∀(k i:Nat) (acc:List (List Att)),i≤T.1.f_L.length→T.1.f_L.length-i<k→acc.length≤i →
  wq n T k (i:Int) acc=some (if(js D acc (T.1.f_L.drop i)).2≠0 then .ret (⟨[]⟩,(js D acc (T.1.f_L.drop i)).2)else .nxt (js D acc (T.1.f_L.drop i)).1)
 |0,i,_,_,h,_=>O0
 | k + 1,i,acc,hi,hk,ha=>by
  have hl:=hT.1
  rw [wq]
  by_cases hc:i<T.1.f_L.length
  ·have hx:=hT.2 _ (Li hc)
   have hb:=wg (T.1.f_L[i]).zc hx
   have hbl:=hb.1
   rw [L4 O4,zE hc,L0,Ba O0 O0,L0,L9 hc,js]
   unfold Xs
   by_cases h1:(T.1.f_L[i]).zA≠49
   ·rw [L4 h1,L4 O1,L4 h1]; rfl
   rw [L3 h1,L3 h1]
   by_cases h2:(tList (T.1.f_L[i]).zc).2≠0
   ·rw [L4 (O9 h2),L4 h2,L4 h2,L4 h2]
   rw [L3 (O9 h2),L3 h2]
   simp only []
   rw [t6 O0 O0,L0]
   by_cases h3:Ki (tList (T.1.f_L[i]).zc).1=false
   ·rw [L4 (by rw [h3]; rfl),L4 h3]; rfl
   rw [L3 (O9 h3),L3 h3]
   have e1:=mj hD hM hn (⟨(tList (T.1.f_L[i]).zc).1,0⟩,(tList (T.1.f_L[i]).zc).2) hb n 0 [] O0 (by show(tList (T.1.f_L[i]).zc).1.length-0<n; omega) O2
   rw [show((0:Nat):Int)=0 from rfl,Lf]at e1
   rw [e1]
   simp only []
   by_cases h4:(jU D [] (tList (T.1.f_L[i]).zc).1).2≠0
   ·rw [L4 h4,L4 h4,L4 h4]; rfl
   ·rw [L3 h4,L3 h4]
    simp only [z8]
    rw [yU (by rw [L6]; omega),L0,w1 O0]
    exact cp hD hM hn T hT k (i+1) _ O0 O0 (by rw [L5,L6]; omega)
  ·rw [L3 O4,La O0]
   rfl
theorem rO {n M:Nat} {D:Bs→Bs×Int} (hD:∀c:Bs,c.length≤M→zx n c=some (D c)) (hDl:∀c:Bs,c.length≤M→(D c).1.length≤M+252) (hM:M≤900000) (hn:M+500≤n) {b:Bs} (hb:b.length≤M):uo n b=some (⟨(bS D b).1⟩,(bS D b).2):=by
 unfold uo bS
 rw [W0 O0 O0,L0]
 have ho:=YW b
 by_cases h1:(va b).2≠0
 ·rw [L4 (O9 h1),L4 h1]
 rw [L3 (O9 h1),L3 h1,Ba O0 O0,L0]
 by_cases h2:(va b).1.zA≠48
 ·rw [L4 h2,L4 h2]; rfl
 rw [L3 h2,L3 h2]
 have hT:=wg (va b).1.zc (M:=M) O0
 have hl:=hT.1
 generalize tList (va b).1.zc=T at hT hl ⊢
 by_cases h3:T.2≠0
 ·rw [L4 (O9 h3),L4 h3]
 rw [L3 (O9 h3),L3 h3]
 have e1:=cp hD O0 O0 (⟨T.1,0⟩,T.2) hT n 0 [] O0 (by show T.1.length-0<n; omega) O2
 rw [show((0:Nat):Int)=0 from rfl,Lf]at e1
 rw [e1]
 simp only []
 by_cases h4:(js D [] T.1).2≠0
 ·rw [L4 h4,L4 h4]; rfl
 rw [L3 h4,L3 h4]
 simp only [z8]
 have hbd:=UZ (B:=M+252) hDl O0 T.1 [] hT.2 (by simp only [Lj]; omega) O2
 rw [PR hbd O0 O0,L0]
 by_cases h5:vy (js D [] T.1).1≠0
 ·rw [L4 (O9 h5),L4 h5]
 ·rw [L3 (O9 h5),L3 h5]
theorem Q2:∀ {l:List Att},(l.Pairwise fun a b=>leB (YR a) (YR b)=true)→Ki ((l.map U5).map elm)=true
 | [],_=>rfl
 | [_],_=>rfl
 | a::b::l,h=>by
  rw [List.pairwise_cons]at h
  have:=Q2 h.2
  simp only [Lb]at this ⊢
  rw [Ki,this,Bool.and_true]
  have e1:(elm (U5 b)).jL=YR b:=rfl
  have e2:(elm (U5 a)).jL=YR a:=rfl
  rw [e1,e2,zcW,h.1 b O2]; rfl
theorem DV {D:Bs→Bs×Int} (hD:∀s l,y4 s=some l→D (qg l)=(s,0)) {a:Att} (h:okA a):Zq D (elm (U5 a))=(a,0):=by
 obtain⟨hp,hw,l,hl,he⟩:=Ur h
 have hpe:polE a.wi=(6,qg l):=by unfold polE; rw [hl]; rfl
 have hk:a.zG=((a.zG.toNat:Nat):Int):=by rcases UF h.2.2.1 with e|e|e<;>rw [e]<;>rfl
 have hc:(elm (U5 a)).zc=wraps (Ux a):=rfl
 unfold Zq
 rw [L3 (show ¬(elm (U5 a)).zA≠48 from fun h=>h rfl),hc,yV hp]
 simp only [Ux,Lb,List.map_nil,hpe]
 rw [L3 O2,L3 (show ¬(elm (6,qg l)).zA≠6 from fun h=>h rfl),show(elm (6,qg l)).zc=qg l from rfl,hD _ _ hl,L3 O2]
 have ht:(elm (a.zG.toNat,a.vA)).zA=a.zG:=hk.symm
 rw [ht,L3 (by rcases UF h.2.2.1 with e|e|e<;>rw [e]<;>simp),L3 O2]
 rfl
theorem Jv {D:Bs→Bs×Int} (hD:∀s l,y4 s=some l→D (qg l)=(s,0)):∀(r:List Att) (acc:List Att),(∀a∈r,okA a)→jU D acc ((r.map U5).map elm)=(acc++r,0)
 | [],acc,_=>by simp [jU]
 | a::r,acc,h=>by
  simp only [Lb]
  rw [jU,DV hD (h a O2),L3 O2]
  have:=Jv hD r (acc ++ [a]) (fun x hx=>h x (by simp [hx]))
  rw [this,Ln,List.singleton_append]
theorem PM {D:Bs→Bs×Int} (hD:∀s l,y4 s=some l→D (qg l)=(s,0)) {r:List Att} (h:okR r):Xs D (elm (dy r))=(gf r,0):=by
 have ho:=JU h
 have hc:(elm (dy r)).zc=wraps ((gf r).map U5):=rfl
 have hp:∀p∈(gf r).map U5,POk p:=by
  intro p hp; obtain⟨a,ha,rfl⟩:=Le.1 hp; exact lh (ho.2.2.1 a ha)
 unfold Xs
 rw [L3 (show ¬(elm (dy r)).zA≠49 from fun h=>h rfl),hc,yV hp,L3 O2]
 simp only []
 rw [Q2 (UB r),L3 O2,Jv hD _ [] ho.2.2.1,Lg]
theorem JX {D:Bs→Bs×Int} (hD:∀s l,y4 s=some l→D (qg l)=(s,0)):∀(l:List (List Att)) (acc:List (List Att)),(∀r∈l,okR r)→js D acc ((l.map dy).map elm)=(acc++WX l,0)
 | [],acc,_=>by simp [js,WX]
 | r::l,acc,h=>by
  simp only [Lb]
  rw [js,PM hD (h r O2),L3 O2]
  have:=JX hD l (acc ++ [gf r]) (fun x hx=>h x (by simp [hx]))
  rw [this,Ln,List.singleton_append]
theorem YP {D:Bs→Bs×Int} (hD:∀s l,y4 s=some l→D (qg l)=(s,0)) {l:List (List Att)} (h:okN l):bS D (tWrap (y8 l).1 (y8 l).2).1=(WX l,0):=by
 have hn:=K4 h
 have hp:∀p∈l.map dy,POk p:=by
  intro p hp; obtain⟨r,hr,rfl⟩:=Le.1 hp; exact mh (h.2 r hr)
 have hc:(y8 l).2=wraps (l.map dy):=rfl
 unfold bS
 rw [pZ hn.1 hn.2.1 hn.2.2]
 simp only []
 rw [L3 O2,L3 (show ¬((y8 l).1:Int)≠48 from fun h=>h rfl),hc,yV hp]
 simp only []
 rw [L3 O2,JX hD l [] h.2]
 simp only [Lg]
 rw [L3 O2,L3 (by rw [kT.2 (JM h)]; simp)]
def zdB:Bs:= [49,46,51,46,54,46,49,46,52,46,49,46,53,56,56,56,56,46,49,46,49]
theorem oT:y4 zdB=some [1,3,6,1,4,1,58888,1,1]:=O7
theorem tq:qg [1,3,6,1,4,1,58888,1,1]=Yw:=O7
theorem zcs {D:Bs→Bs×Int} (hD:∀s l,y4 s=some l→D (qg l)=(s,0)):D Yw=(zdB,0):=by
 rw [←tq]; exact hD _ _ oT
theorem tA {n M:Nat} {D:Bs→Bs×Int} (hD:∀c:Bs,c.length≤M→yq n c=some (D c)) {e:El} (he:e.zc.length≤M) (hM:M≤1000000) (hn:M+100≤n):∃x,vF n e=some x:=by
 unfold vF
 rw [kW O0 O0,L0]
 have hb:=wg e.zc he
 generalize tList e.zc=T at hb
 obtain⟨L,y⟩:=T
 simp only []at hb ⊢
 refine yn (fun _=>⟨_,rfl⟩) fun _=>yn (fun _=>⟨_,rfl⟩) fun _=>yn (fun _=>⟨_,rfl⟩) fun h=> ?_
 match L,hb,h with
 | [],_,h=>exact absurd rfl h
 | x::r,hb,_=>
  have k0:zV (x::r) 0=some x:=by simp [zV]
  rw [k0,L0]
  refine yn (fun _=>⟨_,rfl⟩) fun _=> ?_
  rw [L0,hD _ (hb.2 x O2),L0]
  refine yn (fun _=>⟨_,rfl⟩) fun _=> ?_
  refine yM (yn (fun _=>⟨_,rfl⟩) fun _=>⟨_,rfl⟩) fun y _=>yn (fun _=>⟨_,rfl⟩) fun _=>⟨_,rfl⟩
theorem nR {n M:Nat} {D:Bs→Bs×Int} (hD:∀c:Bs,c.length≤M→yq n c=some (D c)) (hB:∀s l,y4 s=some l→D (qg l)=(s,0)) (hM:100≤M) (hn:M+100≤n):vF n (elm dO)=some 0:=by
 unfold vF
 have hc:(elm dO).zc=wraps [(6,Yw)]:=rfl
 have hw:(wraps [(6,Yw)]).length≤50:=O1
 have hp:∀p∈ [((6,Yw):Nat×Bs)],POk p:=by
  intro p hp; rw [Lk]at hp; subst hp; exact⟨by dsimp only; decide,by dsimp only; decide,by dsimp only; decide⟩
 rw [L3 (show ¬((elm dO).zA !=48)=true by decide),hc,kW O0 O0,L0,yV hp]
 have k0:zV (([((6,Yw):Nat×Bs)].map elm,(0:Int)):List El×Int).1 0=some (elm (6,Yw)):=rfl
 have hcc:(elm (6,Yw)).zc=Yw:=rfl
 rw [L3 O2,L3 O2,k0,L0,L3 (show ¬((elm (6,Yw)).zA !=6)=true by decide),L0,hcc,hD _ (by show Yw.length≤M; have:Yw.length=10:=(by decide); omega),L0,zcs hB]
 rfl
theorem tF {n M:Nat} {D:Bs→Bs×Int} (hD:∀c:Bs,c.length≤M→zx n c=some (D c)) {e:El} (he:e.zc.length≤M) (hM:M≤1000000) (hn:M+100≤n):∃x,xX n e=some x:=by
 unfold xX
 rw [Ba O0 O0,L0]
 by_cases h1:e.zA≠48
 ·rw [L4 h1]; exact⟨_,rfl⟩
 rw [L3 h1]
 have hb:=wg e.zc he
 generalize tList e.zc=T at hb
 obtain⟨L,y⟩:=T
 simp only []at hb ⊢
 refine yn (fun _=>⟨_,rfl⟩) fun _=> ?_
 have hl:=hb.1
 have n0:=Kb (n:=n) (t:=6) (l:=L) (i:=0) O0
 rw [show((0:Nat):Int)=0 from rfl]at n0
 match L,hb,n0 with
 | [],_,n0=>rw [n0]; exact⟨_,rfl⟩
 | x::r,hb,n0=>
  simp only [List.getElem?_cons_zero]at n0
  by_cases h3:x.zA≠6
  ·rw [L4 (show(0:Int)≤6∧x.zA≠6 from⟨O0,h3⟩)]at n0
   rw [n0]; exact⟨_,rfl⟩
  rw [L3 (show ¬((0:Int)≤6∧x.zA≠6)from fun h=>h3 h.2)]at n0
  rw [n0,L0]
  simp only []
  rw [L3 O1,hD _ (hb.2 x O2),L0]
  refine yn (fun _=>⟨_,rfl⟩) fun _=> ?_
  refine yM (yn (fun _=>⟨_,rfl⟩) fun _=> ?_) fun y _=>yn (fun _=>⟨_,rfl⟩) fun _=>⟨_,rfl⟩
  rw [za2]; exact⟨_,rfl⟩
theorem om {n M:Nat} {D:Bs→Bs×Int} (hD:∀c:Bs,c.length≤M→zx n c=some (D c)) (hB:∀s l,y4 s=some l→D (qg l)=(s,0)) (hM:100≤M) (hn:M+100≤n):xX n (elm dO)=some 0:=by
 unfold xX
 have hc:(elm dO).zc=wraps [(6,Yw)]:=rfl
 have hw:(wraps [(6,Yw)]).length≤50:=O1
 have hp:∀p∈ [((6,Yw):Nat×Bs)],POk p:=by
  intro p hp; rw [Lk]at hp; subst hp; exact⟨by dsimp only; decide,by dsimp only; decide,by dsimp only; decide⟩
 rw [Ba (by rw [hc]; omega) (by rw [hc]; omega),L0,L3 (show ¬(elm dO).zA≠48 by decide),hc,yV hp]
 have n0:=Kb (n:=n) (t:=6) (l:= [((6,Yw):Nat×Bs)].map elm) (i:=0) O2
 rw [show((0:Nat):Int)=0 from rfl]at n0
 have n1:ye n 6 ⟨[((6,Yw):Nat×Bs)].map elm,0⟩=some (elm (6,Yw),0,⟨[((6,Yw):Nat×Bs)].map elm,1⟩):=n0
 have hcc:(elm (6,Yw)).zc=Yw:=rfl
 simp only []
 rw [L3 O1,n1,L0]
 simp only []
 rw [L3 O1,hcc,hD _ (by show Yw.length≤M; have:Yw.length=10:=(by decide); omega),L0,zcs hB]
 rfl
theorem zd3:∀u:Nat,u≤7→∃x,Je .u8 1 (wrap .u64 (wrap .i64 (u:Int)))=some x:=by
 intro u hu
 have:=Ld.1 (show((List.range 8).all fun u:Nat=>(Je .u8 1 (wrap .u64 (wrap .i64 (u:Int)))).isSome)=true by kernel_rfl) u O3
 exact Option.isSome_iff_exists.1 this
theorem zc3:∀u:Nat,u≤7→∃x,Je .i64 1 (u:Int)=some x∧x≠0:=by
 intro u hu
 have:=Ld.1 (show((List.range 8).all fun u:Nat=>(match Je .i64 1 (u:Int)with|some x=>decide (x≠0)|none=>false))=true by kernel_rfl) u O3
 cases h:Je .i64 1 (u:Int)with
 |none=>rw [h]at this; cases this
 |some x=>rw [h]at this; exact⟨x,rfl,by simpa using this⟩
theorem o5 {n:Nat} {c:Bs} (hc:c.length≤1000000000):∃r,kc n c=some r:=by
 unfold kc
 match c,hc with
 | [],_=>exact⟨_,rfl⟩
 | t ::s,hc=>
  have k0:yw (t::s) 0=some ((t.toNat:Nat):Int):=rfl
  have k1:ssl (t::s) 1 ((t::s).length:Nat)=some s:=by
   have:=bn (s:=t::s) (i:=1) (j:=(t::s).length) O2 O2
   rw [show((1:Nat):Int)=1 from rfl]at this
   rw [this]; simp
  rw [L3 O2,k0,L0,k1]
  refine yM (yn (fun _=>⟨_,rfl⟩) fun h=> ?_) fun y hy=>yn (fun _=>⟨_,rfl⟩) fun _=> ?_
  ·rw [L2]at h
   rw [L0,L0]
   unfold ge
   obtain⟨x,hx⟩:=zd3 t.toNat O0
   refine yM (yn (fun _=>⟨_,rfl⟩) fun _=>yM (yn (fun hs=> ?_) fun _=>⟨_,rfl⟩) fun y _=>⟨_,rfl⟩) fun r _=>⟨_,rfl⟩
   have:0<s.length:=by
    cases s with
    |nil=>exact absurd hs O2
    |cons a s=>simp
   simp only [L7]at hc
   refine yM (jK (by rw [yv O0]; omega) (by rw [yv O0]; omega)) fun a _=> ?_
   rw [hx]; exact⟨_,rfl⟩
  ·rw [L0,L0]; exact⟨_,rfl⟩
theorem eH {n:Nat} (s:Bs):kc n (0::s)=some (s,0,0):=by
 unfold kc
 have k0:yw (0::s) 0=some 0:=rfl
 have k1:ssl (0::s) 1 ((0::s).length:Nat)=some s:=by
  have:=bn (s:=0::s) (i:=1) (j:=(0::s).length) O2 O2
  rw [show((1:Nat):Int)=1 from rfl]at this
  rw [this]; simp
 rw [L3 O2,k0,L0,k1,L3 O1]
 rfl
theorem mW {a b:Int} (h:b≠0):∃x,nL a b=some x:=by
 unfold nL
 rw [L3 h]
 exact⟨_,rfl⟩
theorem rT {n:Nat} {c:Bs} (hc:c.length≤1000000000):∃r,ww n c=some r:=by
 unfold ww
 match c,hc with
 | [],_=>exact⟨_,rfl⟩
 | t::s,hc=>
  have k0:yw (t::s) 0=some ((t.toNat:Nat):Int):=rfl
  have k1:ssl (t::s) 1 ((t::s).length:Nat)=some s:=by
   have:=bn (s:=t::s) (i:=1) (j:=(t::s).length) O2 O2
   rw [show((1:Nat):Int)=1 from rfl]at this
   rw [this]; simp
  rw [L3 (by rw [beq_iff_eq,L7]; omega),k0,L0,k1]
  refine yM (yn (fun _=>⟨_,rfl⟩) fun h=> ?_) fun y hy=>yn (fun _=>⟨_,rfl⟩) fun _=> ?_
  ·rw [L2]at h
   rw [L0]
   obtain⟨x,hx,hx0⟩:=zc3 t.toNat O0
   refine yn (fun _=>yn (fun _=>⟨_,rfl⟩) fun _=> ?_) fun _=>⟨_,rfl⟩
   simp only [L7]at hc
   refine yM (jK (by rw [yv (by simp only [L7]; omega)]; simp only [L7]; omega) (by rw [yv (by simp only [L7]; omega)]; omega)) fun a _=> ?_
   rw [L0,hx,L0]
   exact yM (mW hx0) fun b _=>⟨_,rfl⟩
  ·rw [L0,L0]; exact⟨_,rfl⟩
theorem fE {n:Nat} (s:Bs):ww n (0::s)=some (s,0,0):=by
 unfold ww
 have k0:yw (0::s) 0=some 0:=rfl
 have k1:ssl (0::s) 1 ((0::s).length:Nat)=some s:=by
  have:=bn (s:=0::s) (i:=1) (j:=(0::s).length) O2 O2
  rw [show((1:Nat):Int)=1 from rfl]at this
  rw [this]; simp
 rw [L3 (by rw [beq_iff_eq,L7]; omega),k0,L0,k1,L3 O1]
 rfl
theorem mb {k:zF} (h:okK k=true) {s:Bs} (hs:s=o8 k.zy.toNat::(k.wL++k.zY)):yw s 0=some k.zy∧ssl s 1 17=some k.wL∧ssl s 17 (s.length:Nat)=some k.zY∧s.length=33:=by
 obtain⟨h1,h2,h3,h4⟩:=Un.1 h
 have hl:s.length=33:=by rw [hs]; simp [h3,h4]
 refine⟨?_, ?_, ?_,hl⟩
 ·rw [hs]
  show some (((o8 k.zy.toNat).toNat:Nat):Int)=_
  rw [YF O0]; congr 1; omega
 ·have:=bn (s:=s) (i:=1) (j:=17) O0 O0
  rw [show((1:Nat):Int)=1 from rfl,show((17:Nat):Int)=17 from rfl]at this
  rw [this,hs,List.take_succ_cons,List.drop_succ_cons,Lf,←h3,List.take_left]
 ·have:=bn (s:=s) (i:=17) (j:=s.length) O0 O0
  rw [show((17:Nat):Int)=17 from rfl]at this
  rw [this,List.take_length,hs,List.drop_succ_cons,←h3,List.drop_left]
theorem sD {s:Bs} (h:s.length=33):∃a b c,yw s 0=some a∧ssl s 1 17=some b∧ssl s 17 (s.length:Nat)=some c:=by
 obtain⟨a,ha⟩:=jK (s:=s) (i:=0) O0 O0
 obtain⟨b,hb⟩:=rK (s:=s) (i:=1) (j:=17) O0 O0 O0
 obtain⟨c,hc⟩:=rK (s:=s) (i:=17) (j:=(s.length:Nat)) O0 O0 O0
 exact⟨a,b,c,ha,hb,hc⟩
theorem sZ {n M:Nat} {D:Bs→Bs×Int} (hD:∀c:Bs,c.length≤M→yq n c=some (D c)) {b:Bs} (hb:b.length≤M) (hM:M≤1000000) (hn:M+100≤n):∃k e,jB n b=some (k,e):=by
 have key:∃r,jB n b=some r:=by
  unfold jB
  have ho:=YW b
  rw [Ve O0 O0,L0]
  refine yn (fun _=>⟨_,rfl⟩) fun _=>yn (fun _=>⟨_,rfl⟩) fun _=> ?_
  rw [kW O0 O0,L0]
  have hT:=wg (va b).1.zc (M:=M) O0
  generalize tList (va b).1.zc=T at hT ⊢
  obtain⟨L,y⟩:=T
  simp only []at hT ⊢
  refine yn (fun _=>⟨_,rfl⟩) fun _=>yn (fun _=>⟨_,rfl⟩) fun h=> ?_
  match L,hT,h with
  | [],_,h=>exact absurd rfl h
  | x ::r,hT,_=>
   have k0:zV (x::r) 0=some x:=by simp [zV]
   obtain⟨a,ha⟩:=tA hD (hT.2 x O2) hM hn
   unfold jp
   rw [k0,L0,ha]
   simp only [L0]
   refine yn (fun _=>⟨_,rfl⟩) fun _=> ?_
   rw [Wu,L0]
   refine yn (fun _=>⟨_,rfl⟩) fun h=> ?_
   match r,hT,h with
   | [],_,h=>exact absurd rfl h
   | z ::s,hT,_=>
    have k1:zV (z::s) 0=some z:=by simp [zV]
    have hz:=hT.2 z O2
    rw [k1,L0]
    refine yM ?_ fun r25 _=>yn (fun _=>⟨_,rfl⟩) fun _=> ?_
    ·unfold kg
     refine yn (fun _=>⟨_,rfl⟩) fun _=> ?_
     obtain⟨q,hq⟩:=o5 (n:=n) (c:=z.zc) O0
     rw [hq,L0]
     refine yn (fun _=>⟨_,rfl⟩) fun _=> ?_
     refine yM (yn (fun _=>⟨_,rfl⟩) fun _=>⟨_,rfl⟩) fun y hy=>yn (fun _=>⟨_,rfl⟩) fun h=> ?_
     have hlen:q.1.length=33:=by
      by_cases c:(q.2.1 !=0)=true
      ·rw [L4 c]at hy; injection hy with hy; exact absurd hy.symm h
      ·rw [L3 c]at hy; injection hy with hy; rw [←hy]at h; rw [bne_iff_ne,ne_eq,Decidable.not_not]at h; omega
     obtain⟨u,v,w,e1,e2,e3⟩:=sD hlen
     rw [e1,L0,e2,L0,e3,L0,nH]
     exact⟨_,rfl⟩
    ·rw [Wu,L0]
     exact yn (fun _=>⟨_,rfl⟩) fun _=>⟨_,rfl⟩
 obtain⟨r,hr⟩:=key
 exact⟨r.1,r.2,hr⟩
theorem eN {n M:Nat} {D:Bs→Bs×Int} (hD:∀c:Bs,c.length≤M→yq n c=some (D c)) (hB:∀s l,y4 s=some l→D (qg l)=(s,0)) (hM:100≤M) (hn:M+100≤n) {k:zF} (h:okK k=true):jB n (tWrap (kR k).1 (kR k).2).1=some (k,0):=by
 obtain⟨hp,hw⟩:=XU k h
 have hk:=DG h
 have hwl:=zU (kR k).1 (kR k).2
 have hc:(kR k).2=wraps (XC k):=rfl
 unfold jB
 rw [Ve (by have:(kR k).2.length≤60:=hw; omega) O0,L0,pZ hk.1 hk.2.1 hk.2.2]
 simp only []
 rw [L3 O2,L3 (show ¬(((kR k).1:Int) !=48)=true by show ¬(((48:Nat):Int) !=48)=true; decide),hc,kW O0 O0,L0,yV hp]
 have e0:(XC k).map elm= [elm dO,elm (3,0::o8 k.zy.toNat::(k.wL++k.zY))]:=rfl
 rw [e0]
 simp only []
 have k0:zV [elm dO,elm (3,0::o8 k.zy.toNat::(k.wL++k.zY))] 0=some (elm dO):=rfl
 rw [L3 O2,L3 O2,k0,L0]
 unfold jp
 rw [nR hD hB hM hn]
 simp only [L0]
 rw [L3 O1,Wu,L0,L3 O2]
 have k1:zV [elm (3,0::o8 k.zy.toNat::(k.wL++k.zY))] 0=some (elm (3,0::o8 k.zy.toNat::(k.wL++k.zY))):=rfl
 rw [k1,L0]
 unfold kg
 have hcc:(elm (3,0::o8 k.zy.toNat::(k.wL++k.zY))).zc=0::o8 k.zy.toNat::(k.wL++k.zY):=rfl
 obtain⟨c1,c2,c3,c4⟩:=mb h (s:=o8 k.zy.toNat::(k.wL++k.zY)) rfl
 obtain⟨g1,g2,_,_⟩:=Un.1 h
 rw [L3 (show ¬((elm (3,0::o8 k.zy.toNat::(k.wL++k.zY))).zA !=3)=true from by show ¬(((3:Nat):Int) !=3)=true; decide),hcc,eH,L0]
 simp only []
 rw [L3 O1,L3 O1,L0,L3 (by rw [c4]; decide),c1,L0,c2,L0,c3,L0,yv O0,nH,L4 (show okK ⟨k.zy,k.wL,k.zY⟩=true from h),L0,L0]
 simp only []
 rw [L3 O1,Wu,L0]
 rfl
theorem sM {n M:Nat} {D:Bs→Bs×Int} (hD:∀c:Bs,c.length≤M→zx n c=some (D c)) {b:Bs} (hb:b.length≤M) (hM:M≤1000000) (hn:M+100≤n):∃k e,wv n b=some (k,e):=by
 have key:∃r,wv n b=some r:=by
  unfold wv
  have ho:=YW b
  rw [W0 O0 O0,L0]
  refine yn (fun _=>⟨_,rfl⟩) fun _=> ?_
  rw [Ba O0 O0,L0]
  have hT:=wg (va b).1.zc (M:=M) O0
  generalize tList (va b).1.zc=T at hT ⊢
  obtain⟨L,y⟩:=T
  simp only []at hT ⊢
  refine yn (fun _=>⟨_,rfl⟩) fun h5=> ?_
  by_cases h1:(va b).1.zA≠48
  ·rw [L4 h1]at h5; exact absurd O1 h5
  rw [L3 h1]
  simp only []
  have hl:=hT.1
  have n0:=Kb (n:=n) (t:= -1) (l:=L) (i:=0) O0
  rw [show((0:Nat):Int)=0 from rfl]at n0
  match L,hT,n0,hl with
  | [],_,n0,_=>rw [n0]; exact⟨_,rfl⟩
  | x ::r,hT,n0,hl=>
   simp only [List.getElem?_cons_zero]at n0
   rw [L3 (show ¬((0:Int)≤ -1∧x.zA≠ -1)from fun h=>absurd h.1 O1)]at n0
   rw [n0,L0]
   simp only []
   obtain⟨a,ha⟩:=tF hD (hT.2 x O2) hM hn
   rw [L3 O1,ha,L0]
   refine yn (fun _=>⟨_,rfl⟩) fun _=> ?_
   have n1:=Kb (n:=n) (t:=3) (l:=x::r) (i:=0+1) O0
   match r,hT,n1 with
   | [],_,n1=>rw [n1]; exact⟨_,rfl⟩
   | z::s,hT,n1=>
    have hz:=hT.2 z O2
    simp only [Nat.zero_add,List.getElem?_cons_succ,List.getElem?_cons_zero]at n1
    by_cases h3:z.zA≠3
    ·rw [L4 (show(0:Int)≤3∧z.zA≠3 from⟨O0,h3⟩)]at n1
     rw [show((0+1:Nat):Int)=((1:Nat):Int)from rfl,n1]; exact⟨_,rfl⟩
    rw [L3 (show ¬((0:Int)≤3∧z.zA≠3)from fun h=>h3 h.2)]at n1
    rw [show((0+1:Nat):Int)=((1:Nat):Int)from rfl,n1,L0]
    simp only []
    rw [L3 O1]
    obtain⟨q,hq⟩:=rT (n:=n) (c:=z.zc) O0
    rw [hq,L0]
    refine yn (fun _=>⟨_,rfl⟩) fun _=> ?_
    refine yM (yn (fun _=>⟨_,rfl⟩) fun _=>⟨_,rfl⟩) fun y hy=>yn (fun _=>⟨_,rfl⟩) fun h=> ?_
    have hlen:q.1.length=33:=by
     by_cases c:(q.2.1 !=0)=true
     ·rw [L4 c]at hy; injection hy with hy; exact absurd hy.symm h
     ·rw [L3 c]at hy; injection hy with hy; rw [←hy]at h; rw [bne_iff_ne,ne_eq,Decidable.not_not]at h; omega
    obtain⟨u,v,w,e1,e2,e3⟩:=sD hlen
    rw [e1,L0,e2,L0,e3,L0,tX,L0]
    refine yn (fun _=>⟨_,rfl⟩) fun _=> ?_
    rw [za2,L0]
    exact yn (fun _=>⟨_,rfl⟩) fun _=>⟨_,rfl⟩
 obtain⟨r,hr⟩:=key
 exact⟨r.1,r.2,hr⟩
theorem hU {n M:Nat} {D:Bs→Bs×Int} (hD:∀c:Bs,c.length≤M→zx n c=some (D c)) (hB:∀s l,y4 s=some l→D (qg l)=(s,0)) (hM:100≤M) (hn:M+100≤n) {k:zF} (h:okK k=true):wv n (tWrap (kR k).1 (kR k).2).1=some (k,0):=by
 obtain⟨hp,hw⟩:=XU k h
 have hk:=DG h
 have hwl:=zU (kR k).1 (kR k).2
 have hc:(kR k).2=wraps (XC k):=rfl
 unfold wv
 rw [W0 (by have:(kR k).2.length≤60:=hw; omega) O0,L0,pZ hk.1 hk.2.1 hk.2.2]
 simp only []
 rw [L3 O2,Ba (by show(wraps (XC k)).length+5≤n; omega) (by show(wraps (XC k)).length≤_; omega),L0,L3 (show ¬((kR k).1:Int)≠48 from fun h=>h rfl),hc,yV hp]
 have e0:(XC k).map elm= [elm dO,elm (3,0::o8 k.zy.toNat::(k.wL++k.zY))]:=rfl
 rw [e0]
 simp only []
 have n0:ye n (-1) ⟨[elm dO,elm (3,0::o8 k.zy.toNat::(k.wL++k.zY))],0⟩=some (elm dO,0,⟨[elm dO,elm (3,0::o8 k.zy.toNat::(k.wL++k.zY))],1⟩):=Kb (n:=n) (t:= -1) (l:= [elm dO,elm (3,0::o8 k.zy.toNat::(k.wL++k.zY))]) (i:=0) O2
 have n1:ye n 3 ⟨[elm dO,elm (3,0::o8 k.zy.toNat::(k.wL++k.zY))],1⟩=some (elm (3,0::o8 k.zy.toNat::(k.wL++k.zY)),0,⟨[elm dO,elm (3,0::o8 k.zy.toNat::(k.wL++k.zY))],2⟩):=Kb (n:=n) (t:=3) (l:= [elm dO,elm (3,0::o8 k.zy.toNat::(k.wL++k.zY))]) (i:=1) O2
 have hcc:(elm (3,0::o8 k.zy.toNat::(k.wL++k.zY))).zc=0::o8 k.zy.toNat::(k.wL++k.zY):=rfl
 obtain⟨c1,c2,c3,c4⟩:=mb h (s:=o8 k.zy.toNat::(k.wL++k.zY)) rfl
 obtain⟨g1,g2,_,_⟩:=Un.1 h
 rw [L3 O1,n0,L0]
 simp only []
 rw [L3 O1,om hD hB hM hn,L0,L3 O1,n1,L0]
 simp only []
 rw [L3 O1,hcc,fE,L0]
 simp only []
 rw [L3 O1,L3 O1,L0,L3 (by rw [c4]; decide),c1,L0,c2,L0,c3,L0,yv O0,tX,L4 (show okK ⟨k.zy,k.wL,k.zY⟩=true from h),L0,L3 O1]
 rfl
end Go.Abs
end
