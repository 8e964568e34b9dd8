/- The typed Lean form of WireDecodesQueries gives true for every list of at most 9223372036854775807 numbers. -/
import Derived.Test.YtbggpcnbbhjiaaaGreatDoorLaw3
set_option linter.unusedVariables false
set_option linter.unusedSimpArgs false
set_option linter.unnecessarySimpa false
section
set_option maxRecDepth 100000
namespace Go.Abs
open Go Go.Proofs IntKind
def okA (a:Att):Prop:=(xG a.xx).isSome=true∧a.vg≠ []∧XM a.zG a.vg=true∧a.vg.length≤64
def okR (r:List Att):Prop:=r≠ []∧r.length≤4∧(∀a∈r,okA a)∧r.Pairwise fun a b=>a.xx≠b.xx
def okN (l:List (List Att)):Prop:=l.length≤8∧∀r∈l,okR r
theorem mO {pre:List Att} {a:Att}:J8 pre a=0↔okA a∧∀b∈pre,b.xx≠a.xx:=by
 unfold J8 okA
 constructor
 ·intro h
  split at h
  ·simp at h
  rename_i h1
  split at h
  ·simp at h
  rename_i h2
  split at h
  ·simp at h
  rename_i h3
  split at h
  ·simp at h
  rename_i h4
  refine⟨⟨by cases hq:(xG a.xx).isSome with|true=>rfl|false=>exact absurd hq h1,fun e=>h2 (.inl e), ?_,O0⟩,fun b hb e=>h4 (by rw [List.any_eq_true]; exact⟨b,hb,by simpa using e⟩)⟩
  cases hq:XM a.zG a.vg with
  |true=>rfl
  |false=>exact absurd (Or.inr hq) h2
 ·rintro⟨⟨h1,h2,h3,h4⟩,h5⟩
  rw [L4 (by rw [h1]; simp),L4 (by rintro(h|h); exact h2 h; rw [h3]at h; simp at h),L4 O0,L4]
  intro h
  obtain⟨b,hb,e⟩:=List.any_eq_true.1 h
  exact h5 b hb (Oa e)
theorem fK:∀ {r pre:List Att},py pre r=0↔(∀a∈r,okA a)∧(r.Pairwise fun a b=>a.xx≠b.xx)∧∀b∈pre,∀a∈r,b.xx≠a.xx
 | [],pre=>by simp [py]
 | a ::r,pre=>by
  rw [py]
  by_cases h:J8 pre a=0
  ·rw [L4 (Oa h),fK,List.pairwise_cons]
   rw [mO]at h
   constructor
   ·rintro⟨h1,h2,h3⟩
    refine⟨fun x hx=> ?_,⟨fun x hx=>h3 a O2 x hx,h2⟩,fun b hb x hx=> ?_⟩
    ·rcases Lp.1 hx with rfl|hx
     ·exact h.1
     ·exact h1 x hx
    ·rcases Lp.1 hx with rfl|hx
     ·exact h.2 b hb
     ·exact h3 b (by simp [hb]) x hx
   ·rintro⟨h1,⟨h2,h3⟩,h4⟩
    refine⟨fun x hx=>h1 x (by simp [hx]),h3,fun b hb x hx=> ?_⟩
    rcases Lo.1 hb with hb|hb
    ·exact h4 b hb x (by simp [hx])
    ·rw [Ln]at hb; subst hb; exact h2 x hx
  ·rw [L6 h]
   constructor
   ·intro e; exact absurd e h
   ·rintro⟨h1,_,h4⟩
    exact absurd (mO.2 ⟨h1 a O2,fun b hb=>h4 b hb a O2⟩) h
theorem mM {r:List Att}:VU r=0↔okR r:=by
 unfold VU okR
 by_cases h1:r= []
 ·rw [L6 h1]; simp [h1]
 rw [L4 h1]
 by_cases h2:4<r.length
 ·rw [L6 h2]; constructor
  ·intro h; simp at h
  ·rintro⟨_,h,_⟩; omega
 rw [L4 h2,fK]
 constructor
 ·rintro⟨a,b,_⟩; exact⟨h1,O0,a,b⟩
 ·rintro⟨_,_,a,b⟩; exact⟨a,b,O2⟩
theorem cg:∀ {l:List (List Att)},ZV l=0↔∀r∈l,okR r
 | []=>by simp [ZV]
 | r::l=>by
  rw [ZV]
  by_cases h:VU r=0
  ·rw [L4 (Oa h),cg]
   rw [mM]at h
   simp [h]
  ·rw [L6 h]
   constructor
   ·intro e; exact absurd e h
   ·intro e; exact absurd (mM.2 (e r O2)) h
theorem gU {l:List (List Att)}:jj l=0↔okN l:=by
 unfold jj okN
 by_cases h:8<l.length
 ·rw [L6 h]; constructor
  ·intro h; simp at h
  ·rintro⟨h,_⟩; omega
 ·rw [L4 h,cg]
  exact⟨fun e=>⟨O0,e⟩,fun e=>e.2⟩
def Jt (a:Att):List (Nat×Bs):= [polE a.xx,(a.zG.toNat,a.vg)]
def JZ (a:Att):Nat×Bs:=(48,wraps (Jt a))
def Xp (a:Att):Bs:=(tWrap 48 (wraps (Jt a))).1
def gA (r:List Att):List Att:=r.mergeSort fun a b=>leB (Xp a) (Xp b)
def ph (r:List Att):Nat×Bs:=(49,wraps ((gA r).map JZ))
def xd (l:List (List Att)):Nat×Bs:=(48,wraps (l.map ph))
theorem WH (r:List Att):List.Perm (gA r) r:=List.mergeSort_perm r _
theorem B1 (r:List Att):wraps (r.map JZ)=(r.map Xp).flatten:=by
 unfold wraps; rw [List.map_map]; rfl
theorem fU (r:List Att):(gA r).map Xp=YW (r.map Xp):=List.map_mergeSort (fun _ _ _ _=>rfl)
theorem K0 (r:List Att):(YW (r.map Xp)).flatten=wraps ((gA r).map JZ):=by
 rw [B1,fU]
theorem JB {k:Int} {s:Bs} (h:XM k s=true):k=12∨k=19∨k=22:=by
 unfold XM at h
 by_cases h1:k=12
 ·exact .inl h1
 by_cases h2:k=19
 ·exact .inr (.inl h2)
 by_cases h3:k=22
 ·exact .inr (.inr h3)
 rw [L4 h1,L4 h2,L4 h3]at h; simp at h
theorem Jo {a:Att} (h:okA a):(∀p∈Jt a,POk p)∧(wraps (Jt a)).length≤129∧∃l,xG a.xx=some l∧(qA l).length≤55:=by
 obtain⟨h1,h2,h3,h4⟩:=h
 obtain⟨l,hl⟩:=Option.isSome_iff_exists.1 h1
 have e1:=dJ (bB hl)
 have hp:polE a.xx=(6,qA l):=by unfold polE; rw [hl]; rfl
 have w1:=yc 6 (qA l)
 have w2:=yc a.zG.toNat a.vg
 refine⟨?_, ?_,l,hl,e1⟩
 ·intro p hpm
  simp only [Jt,Lp,List.not_mem_nil,or_false]at hpm
  rcases hpm with rfl|rfl
  ·rw [hp]; exact⟨O2,O2,by simp only; omega⟩
  ·rcases JB h3 with e|e|e<;>rw [e]<;>exact⟨by dsimp only; decide,by dsimp only; decide,O7⟩
 ·simp only [Jt,wraps,Le,List.map_nil,List.flatten_cons,List.flatten_nil,Lk,L8,hp]
  omega
theorem eN {a:Att} (h:okA a):(Xp a).length≤134:=by
 have:=(Jo h).2.1
 have:=yc 48 (wraps (Jt a))
 unfold Xp; omega
theorem Qt {α:Type} (f:α→Bs) (M:Nat):∀(l:List α),(∀x∈l,(f x).length≤M)→((l.map f).flatten).length≤M*l.length
 | [],_=>O2
 | a::l,h=>by
  have:=Qt f M l (fun x hx=>h x (by simp [hx]))
  have:=h a O2
  simp only [Le,List.flatten_cons,L8,La,Nat.mul_add,Nat.mul_one]; omega
theorem QR {r:List Att} (h:okR r):okR (gA r):=by
 obtain⟨h1,h2,h3,h4⟩:=h
 have hp:=WH r
 refine⟨fun e=>h1 ?_,by rw [hp.length_eq]; exact h2,fun a ha=>h3 a (hp.mem_iff.1 ha),(hp.pairwise_iff (fun h=>Ne.symm h)).2 h4⟩
 rw [e]at hp; exact List.nil_perm.1 hp
theorem U6 {r:List Att} (h:okR r):(ph r).2.length≤536:=by
 have h':=QR h
 unfold ph
 simp only
 rw [B1]
 have:=Qt Xp 134 (gA r) (fun a ha=>eN (h'.2.2.1 a ha))
 have:=h'.2.1
 omega
theorem dW {l:List (List Att)} (h:okN l):(xd l).2.length≤4328:=by
 have:=Qt (fun r=>(tWrap (ph r).1 (ph r).2).1) 541 l (fun r hr=>by have:=U6 (h.2 r hr); have:=yc (ph r).1 (ph r).2; omega)
 unfold xd wraps
 simp only
 rw [List.map_map]
 have:=h.1
 have e:(List.map ((fun p=>(tWrap p.1 p.2).1)∘ph) l)=l.map (fun r=>(tWrap (ph r).1 (ph r).2).1):=rfl
 rw [e]; omega
theorem bA {t:Nat} {c:Bs} (h:c.length≤131072):tWrap t c=((tWrap t c).1,0):=by unfold tWrap; rw [L6 h]
theorem zba {n B:Nat} {a:Att} (h:okA a) (hb:BdA B a) (hB:B≤1000000) (hn:B+100≤n):qB n a=some (Xp a,0):=by
 obtain⟨hp,hw,l,hl,he⟩:=Jo h
 unfold qB
 have hb1:=hb.1
 have hb2:=hb.2
 rw [J2 O0 O0 hl]
 simp only [L0]
 rw [L4 O1,show(6:Int)=((6:Nat):Int)from rfl,Qn O0 O0 O0 O0,bA (t:=6) O0]
 simp only [L0]
 rw [L4 O1]
 have hk:a.zG=((a.zG.toNat:Nat):Int):=by rcases JB h.2.2.1 with e|e|e<;>rw [e]<;>rfl
 rw [hk,Qn (by rcases JB h.2.2.1 with e|e|e<;>rw [e]<;>decide) (by rcases JB h.2.2.1 with e|e|e<;>rw [e]<;>decide) O0 O0,bA (t:=a.zG.toNat) (by have:=h.2.2.2; omega)]
 simp only [L0]
 rw [L4 O1,show(48:Int)=((48:Nat):Int)from rfl]
 have hpe:polE a.xx=(6,qA l):=by unfold polE; rw [hl]; rfl
 have hf:([(tWrap 6 (qA l)).1,(tWrap a.zG.toNat a.vg).1]:List Bs).flatten=wraps (Jt a):=by
  simp only [Jt,wraps,Le,List.map_nil,hpe]
 have t1:=yc 6 (qA l)
 have t2:=yc a.zG.toNat a.vg
 rw [Vm O0 O0 (by intro c hc; simp only [Lp,List.not_mem_nil,or_false]at hc; rcases hc with rfl|rfl<;>omega) (by simp only [La,Lm]; omega) O2,hf,bA (t:=48) O0]
 rfl
theorem nS {n B:Nat} (r:List Att) (h:∀a∈r,okA a) (hb:BdR B r) (hB:B≤1000000) (hn:B+100≤n):∀(k i:Nat) (acc:List Bs),i≤r.length→r.length-i<k→acc.length=i→qz n r k acc (i:Int)=some (.nxt (acc++(r.drop i).map Xp))
 |0,i,_,_,h,_=>O0
 | k+1,i,acc,hi,hk,ha=>by
  have hl:=hb.1
  rw [qz]
  by_cases hc:i<r.length
  ·rw [L6 O4,zQ hc]
   simp only [L0]
   rw [zba (h r[i] O2) (hb.2 r[i] O2) hB hn]
   simp only [L0]
   rw [L4 O1,yx (by simp only [L9]; omega)]
   simp only [L0]
   rw [w1 O0,nS r h hb hB hn k (i+1) _ O0 O0 (by simp [ha]),Lc hc,Le,Lq,List.singleton_append]
  ·rw [L4 O4]
   have:i=r.length:=O0
   subst this
   simp
theorem za2 {n:Nat} {l:List Bs} (h1:l.length≤1000000) (h2:l.flatten.length≤1000000000):Xr n l=some (YW l).flatten:=by
 unfold Xr
 have o0:Bf 16 l=some l:=by unfold Bf; rw [L6 O0]
 rw [o0]
 simp only [L0]
 have hs:Qm n l.length l=some (YW l):=by
  unfold Qm; rw [L6 ⟨rfl,O0⟩,←UP]; rfl
 rw [hs]
 simp only [L0]
 have hj:UK n l.length [] (YW l)=some ((YW l).flatten,YW l):=by
  unfold UK
  rw [QF,L6 ⟨Jp l,by rw [J5]; omega,by rw [Jp]; omega⟩]
 rw [hj]; rfl
theorem DU {r:List Att} (h:okR r):(r.map Xp).flatten.length≤536:=by
 have:=Qt Xp 134 r (fun a ha=>eN (h.2.2.1 a ha))
 have:=h.2.1
 omega
theorem mV {n B:Nat} (l:List (List Att)) (h:okN l) (hb:BdN B l) (hB:B≤1000000) (hn:B+100≤n):∀(k i:Nat) (acc:List Bs),i≤l.length→l.length-i<k→acc.length=i→qm n ⟨l⟩ k acc (i:Int)=some (.nxt (acc++(l.drop i).map fun r=>(tWrap (ph r).1 (ph r).2).1))
 |0,i,_,_,h,_=>O0
 | k+1,i,acc,hi,hk,ha=>by
  have hl:=hb.1
  rw [qm]
  by_cases hc:i<l.length
  ·have hr:=h.2 l[i] O2
   have hbr:=hb.2 l[i] O2
   rw [L6 (by rw [L3]; show(i:Int)<(l.length:Int); omega)]
   simp only [zQ hc,L0]
   have e2:=nS (n:=n) l[i] hr.2.2.1 hbr hB hn n 0 [] O0 (by have:=hbr.1; omega) rfl
   rw [show((0:Nat):Int)=0 from rfl,Li,Lj]at e2
   rw [e2]
   simp only [yb]
   rw [za2 (by rw [Lb]; have:=hr.2.1; omega) (by have:=DU hr; omega),K0]
   simp only [L0]
   have hlen:=U6 hr
   rw [show(49:Int)=((49:Nat):Int)from rfl,Qn O0 O0 (by simp only [ph]at hlen; omega) O0,bA (t:=49) (by simp only [ph]at hlen; omega)]
   simp only [L0]
   rw [L4 O1,yx (by simp only [L9]; omega)]
   simp only [L0]
   rw [w1 O0,mV l h hb hB hn k (i+1) _ O0 O0 (by simp [ha]),Lc hc,Le,Lq,List.singleton_append]
   rfl
  ·rw [L4 (by rw [L3]; show ¬(i:Int)<(l.length:Int); omega)]
   have:i=l.length:=O0
   subst this
   simp
def Uo (l:List (List Att)):Bs×Int:=if jj l≠0 then([],jj l)else((tWrap 48 (xd l).2).1,0)
theorem Dp {n B:Nat} {l:List (List Att)} (hb:BdN B l) (hB:B≤1000000) (hn:B+100≤n):dH n ⟨l⟩=some (Uo l):=by
 unfold dH Uo
 have hl:=hb.1
 rw [K8 hb hB hn]
 simp only [L0]
 by_cases h:jj l≠0
 ·rw [L6 h,L6 (Oa h)]
 rw [L4 h,L4 (Oa h)]
 have ho:okN l:=gU.1 (Oa h)
 have e1:=mV (n:=n) l ho hb hB hn n 0 [] O0 O0 rfl
 rw [show((0:Nat):Int)=0 from rfl,Li,Lj]at e1
 rw [e1]
 simp only [yb]
 have hlen:=dW ho
 have hf:(l.map fun r=>(tWrap (ph r).1 (ph r).2).1).flatten=(xd l).2:=by
  unfold xd wraps; simp only; rw [List.map_map]; rfl
 rw [show(48:Int)=((48:Nat):Int)from rfl,Vm O0 O0 ?_ (by rw [Lb]; have:=ho.1; omega) (by rw [Lb]; omega),hf,bA (t:=48) O0]
 ·rfl
 ·intro c hc
  obtain⟨r,hr,rfl⟩:=Lh.1 hc
  have:=U6 (ho.2 r hr)
  have:=yc (ph r).1 (ph r).2
  omega
theorem mf {n t:Nat} {cs:List Bs} (h1:t≤255) (h2:t%32≠31) (hc:cs.flatten.length≤1000000000000) (hn:cs.length<n) (hl:cs.length≤1000):zD n (t:Int) cs=some (tWrap t cs.flatten).1:=by
 unfold zD
 rw [XL h1 h2 hc hn O0]; rfl
theorem zbk {n B:Nat} {a:Att} (h:okA a) (hb:BdA B a) (hB:B≤1000000) (hn:B+100≤n):((uM n a.xx).bind fun r66=>
  (zD n a.zG ([a.vg]:List (List UInt8))).bind fun r67=>
  zD n 48 ([r66,r67]:List (List UInt8)))=some (Xp a):=by
 obtain⟨hp,hw,l,hl,he⟩:=Jo h
 have hb1:=hb.1
 have hb2:=hb.2
 have hpe:polE a.xx=(6,qA l):=by unfold polE; rw [hl]; rfl
 rw [zeS O0 O0 (by rw [hl]; rfl),hpe]
 simp only [L0]
 have hk:a.zG=((a.zG.toNat:Nat):Int):=by rcases JB h.2.2.1 with e|e|e<;>rw [e]<;>rfl
 rw [hk,Vz (by rcases JB h.2.2.1 with e|e|e<;>rw [e]<;>decide) (by rcases JB h.2.2.1 with e|e|e<;>rw [e]<;>decide) O0 O0]
 simp only [L0]
 have hf:([(tWrap 6 (qA l)).1,(tWrap a.zG.toNat a.vg).1]:List Bs).flatten=wraps (Jt a):=by
  simp only [Jt,wraps,Le,List.map_nil,hpe]
 rw [show(48:Int)=((48:Nat):Int)from rfl,mf O0 O0 (by rw [hf]; omega) (by simp only [La,Lm]; omega) O2,hf]
 rfl
theorem QQ {n B:Nat} (r:List Att) (h:∀a∈r,okA a) (hb:BdR B r) (hB:B≤1000000) (hn:B+100≤n):∀(k i:Nat) (acc:List Bs),i≤r.length→r.length-i<k→acc.length=i→wa n r k acc (i:Int)=some (acc++(r.drop i).map Xp)
 |0,i,_,_,h,_=>O0
 | k+1,i,acc,hi,hk,ha=>by
  have hl:=hb.1
  rw [wa]
  by_cases hc:i<r.length
  ·rw [L6 O4,zQ hc]
   simp only [L0]
   have e:=zbk (h r[i] O2) (hb.2 r[i] O2) hB hn
   rw [Option.bind_eq_some_iff]at e
   obtain⟨x,e1,e⟩:=e
   rw [Option.bind_eq_some_iff]at e
   obtain⟨y,e2,e3⟩:=e
   rw [e1,L0,e2,L0,e3,L0]
   rw [yx (by simp only [L9]; omega)]
   simp only [L0]
   rw [w1 O0,QQ r h hb hB hn k (i+1) _ O0 O0 (by simp [ha]),Lc hc,Le,Lq,List.singleton_append]
  ·rw [L4 O4]
   have:i=r.length:=O0
   subst this
   simp
theorem sg {n B:Nat} {r:List Att} (h:∀a∈r,okA a) (hb:BdR B r) (hB:B≤1000000) (hn:B+100≤n):jJ n r=some (r.map Xp):=by
 unfold jJ
 have:=QQ (n:=n) r h hb hB hn n 0 [] O0 (by have:=hb.1; omega) rfl
 rw [show((0:Nat):Int)=0 from rfl,Li,Lj]at this
 rw [this]; rfl
theorem cp {n B:Nat} (l:List (List Att)) (h:okN l) (hb:BdN B l) (hB:B≤1000000) (hn:B+100≤n):∀(k i:Nat) (acc:Bs),i≤l.length→l.length-i<k→acc.length≤541*i→wd n ⟨l⟩ k acc (i:Int)=some (acc++wraps ((l.drop i).map ph))
 |0,i,_,_,h,_=>O0
 | k+1,i,acc,hi,hk,ha=>by
  have hl:=hb.1
  rw [wd]
  by_cases hc:i<l.length
  ·have hr:=h.2 l[i] O2
   have hbr:=hb.2 l[i] O2
   rw [L6 (by rw [L3]; show(i:Int)<(l.length:Int); omega)]
   simp only [zQ hc,L0]
   rw [sg hr.2.2.1 hbr hB hn]
   simp only [L0]
   have:=hr.2.1
   rw [o5 (by rw [Lb]; omega) (by have:=DU hr; omega) (by rw [Lb]; omega),K0]
   simp only [L0]
   have hlen:=U6 hr
   have hw:=yc (ph l[i]).1 (ph l[i]).2
   have h8:=h.1
   rw [show(49:Int)=((49:Nat):Int)from rfl,Vz O0 O0 (by simp only [ph]at hlen; omega) O0]
   simp only [L0]
   have e:(tWrap 49 (wraps ((gA l[i]).map JZ))).1=(tWrap (ph l[i]).1 (ph l[i]).2).1:=rfl
   rw [e,yd O0]
   simp only [L0]
   rw [w1 O0,cp l h hb hB hn k (i+1) _ O0 O0 (by rw [L8]; omega),Lc hc,Le,gz,Lq]
  ·rw [L4 (by rw [L3]; show ¬(i:Int)<(l.length:Int); omega)]
   have:i=l.length:=O0
   subst this
   simp [wraps]
theorem K1 {n B:Nat} {l:List (List Att)} (hb:BdN B l) (hB:B≤1000000) (hn:B+100≤n):xU n ⟨l⟩=some (Uo l):=by
 unfold xU Uo
 have hl:=hb.1
 rw [nX hb hB hn]
 simp only [L0]
 by_cases h:jj l≠0
 ·rw [L6 h,L6 (Oa h)]
 rw [L4 h,L4 (Oa h)]
 have ho:okN l:=gU.1 (Oa h)
 have e1:=cp (n:=n) l ho hb hB hn n 0 [] O0 O0 O2
 rw [show((0:Nat):Int)=0 from rfl,Li,Lj]at e1
 rw [e1]
 simp only [L0]
 have hlen:=dW ho
 rw [show(48:Int)=((48:Nat):Int)from rfl,Vz O0 O0 (by simp only [xd]at hlen; omega) O0]
 rfl
def okK (k:zB):Bool:= !(decide (k.zA<0)||(decide (k.zA>8)||((k.wj.length:Int) !=16||(k.zY.length:Int) !=16)))
theorem Jj {k:zB}:okK k=true↔0≤k.zA∧k.zA≤8∧k.wj.length=16∧k.zY.length=16:=by
 unfold okK
 simp only [Bool.not_eq_true',Bool.or_eq_false_iff,decide_eq_false_iff_not,bne_eq_false_iff_eq]
 omega
theorem rh {n:Nat} {k:zB}:km n k=some (if okK k=true then 0 else 18):=by
 unfold km okK
 simp only [dro,L0]
 cases(decide (k.zA<0)||(decide (k.zA>8)||((k.wj.length:Int) !=16||(k.zY.length:Int) !=16)))<;>rfl
theorem zbw {n:Nat} {k:zB}:wB n k=some (if okK k=true then 0 else 18):=by
 unfold wB okK
 simp only [dro,L0]
 cases(decide (k.zA<0)||(decide (k.zA>8)||((k.wj.length:Int) !=16||(k.zY.length:Int) !=16)))<;>rfl
def Y4:Bs:= [43,6,1,4,1,131,204,8,1,1]
def px:Nat×Bs:=(48,wraps [(6,Y4)])
def Wq (k:zB):List (Nat×Bs):= [px,(3,0::o8 k.zA.toNat::(k.wj++k.zY))]
def gT (k:zB):Nat×Bs:=(48,wraps (Wq k))
theorem zf3 {n:Nat} (hn:100≤n):pj n=some (tWrap px.1 px.2).1:=by
 obtain⟨m,rfl⟩:∃m,n=m+100:=⟨n-100,O0⟩
 kernel_rfl
theorem zfL {n:Nat} (hn:100≤n):bv n=some (tWrap px.1 px.2).1:=by
 obtain⟨m,rfl⟩:∃m,n=m+100:=⟨n-100,O0⟩
 kernel_rfl
theorem Jx (r:List Att):(gA r).Pairwise fun a b=>leB (Xp a) (Xp b)=true:=
 List.pairwise_mergeSort (le:=fun a b=>leB (Xp a) (Xp b)) (fun _ _ _ h1 h2=>Ki _ _ _ h1 h2) (fun _ _=>KM _ _) r
theorem eE (r:List Att):gA (gA r)=gA r:=List.mergeSort_of_pairwise (Jx r)
abbrev VS (l:List (List Att)):List (List Att):=l.map gA
theorem QJ {l:List (List Att)} (h:okN l):okN (VS l):=by
 refine⟨by rw [Lb]; exact h.1,fun r hr=> ?_⟩
 obtain⟨q,hq,rfl⟩:=Lh.1 hr
 exact QR (h.2 q hq)
theorem GG (l:List (List Att)):xd (VS l)=xd l:=by
 unfold xd
 rw [List.map_map]
 have:l.map (ph∘gA)=l.map ph:=List.map_congr_left fun r _=>by simp only [Function.comp,ph,eE]
 rw [this]
theorem mR {a:Att} (h:okA a):POk (JZ a):=
 ⟨by show(48:Nat)≤255; omega,by show(48:Nat)%32≠31; omega,by have:=(Jo h).2.1; show(wraps (Jt a)).length≤_; omega⟩
theorem nM {r:List Att} (h:okR r):POk (ph r):=
 ⟨by show(49:Nat)≤255; omega,by show(49:Nat)%32≠31; omega,by have:=U6 h; omega⟩
theorem Gf {l:List (List Att)} (h:okN l):POk (xd l):=
 ⟨by show(48:Nat)≤255; omega,by show(48:Nat)%32≠31; omega,by have:=dW h; omega⟩
theorem zcI {a:Att} (h:okA a):BdA 252 a:=⟨Jq h.1,by have:=h.2.2.2; omega⟩
theorem zcv {r:List Att} (h:okR r):BdR 252 r:=⟨by have:=h.2.1; omega,fun a ha=>zcI (h.2.2.1 a ha)⟩
theorem mF {l:List (List Att)} (h:okN l):BdN 252 l:=⟨by have:=h.1; omega,fun r hr=>zcv (h.2 r hr)⟩
theorem BdA.mono {A B:Nat} {a:Att} (hAB:A≤B) (h:BdA A a):BdA B a:=⟨Nat.le_trans h.1 hAB,Nat.le_trans h.2 hAB⟩
theorem BdR.mono {A B:Nat} {a:List Att} (hAB:A≤B) (h:BdR A a):BdR B a:=⟨Nat.le_trans h.1 hAB,fun x hx=>(h.2 x hx).mono hAB⟩
theorem BdN.mono {A B:Nat} {a:List (List Att)} (hAB:A≤B) (h:BdN A a):BdN B a:=⟨Nat.le_trans h.1 hAB,fun x hx=>(h.2 x hx).mono hAB⟩
abbrev Anc:=ze
theorem WQ (k:zB) (h:okK k=true):(∀p∈Wq k,POk p)∧(wraps (Wq k)).length≤60:=by
 obtain⟨h1,h2,h3,h4⟩:=Jj.1 h
 have ha:px.2.length=12:=O1
 have hl:(0::o8 k.zA.toNat::(k.wj++k.zY):Bs).length=34:=by simp [h3,h4]
 refine⟨?_, ?_⟩
 ·intro p hp
  simp only [Wq,Lp,List.not_mem_nil,or_false]at hp
  rcases hp with rfl|rfl
  ·exact⟨O1,O1,O0⟩
  ·exact⟨by dsimp only; decide,by dsimp only; decide,O7⟩
 ·have t1:=yc px.1 px.2
  have t2:=yc 3 (0::o8 k.zA.toNat::(k.wj++k.zY))
  simp only [Wq,wraps,Le,List.map_nil,List.flatten_cons,List.flatten_nil,Lk,L8]
  omega
theorem PM {k:zB} (h:okK k=true):POk (gT k):=
 ⟨by show(48:Nat)≤255; omega,by show(48:Nat)%32≠31; omega,by have:=(WQ k h).2; show(wraps (Wq k)).length≤_; omega⟩
def J0 (a:Anc):Int:=if jj a.zt.zh≠0 then jj a.zt.zh else if a.zt.zh= []then 14 else if okK a.zP=true then 0 else 18
def UB (a:Anc):List (Nat×Bs):= [xd a.zt.zh,gT a.zP]
def ancE (a:Anc):Nat×Bs:=(48,wraps (UB a))
def Uv (a:Anc):Prop:=okN a.zt.zh∧a.zt.zh≠ []∧okK a.zP=true
theorem Xu {a:Anc} (h:Uv a):(∀p∈UB a,POk p)∧(wraps (UB a)).length≤4398:=by
 have k1:=dW h.1
 have k2:=(WQ a.zP h.2.2).2
 refine⟨?_, ?_⟩
 ·intro p hp
  simp only [UB,Lp,List.not_mem_nil,or_false]at hp
  rcases hp with rfl|rfl
  ·exact Gf h.1
  ·exact PM h.2.2
 ·have t1:=yc (xd a.zt.zh).1 (xd a.zt.zh).2
  have t2:=yc 48 (wraps (Wq a.zP))
  have e:gT a.zP=(48,wraps (Wq a.zP)):=rfl
  simp only [UB,wraps,Le,List.map_nil,List.flatten_cons,List.flatten_nil,Lk,L8,e]at *
  omega
theorem Pg {a:Anc} (h:Uv a):POk (ancE a):=
 ⟨by show(48:Nat)≤255; omega,by show(48:Nat)%32≠31; omega,by have:=(Xu h).2; show(wraps (UB a)).length≤_; omega⟩
def Yw (a:Anc):Anc:=⟨⟨VS a.zt.zh⟩,a.zP⟩
theorem DX {a:Anc} (h:Uv a):Uv (Yw a):=⟨QJ h.1,fun e=>h.2.1 (by simpa [Yw,VS] using e),h.2.2⟩
theorem ry (a:Anc):ancE (Yw a)=ancE a:=by
 unfold ancE UB Yw; simp only [GG]
theorem zgh (v:Nat):b2s ([wrap .u8 (v:Int)]:List Int)= [o8 v]:=by
 show [UInt8.ofNat (wrap .u8 (v:Int)).toNat]=_
 rw [gG]
theorem zaP {n:Nat} {k:zB} (hn:100≤n):gq n k=some (if okK k=true then((tWrap (gT k).1 (gT k).2).1,0)else([],18)):=by
 unfold gq
 rw [rh,L0]
 by_cases h:okK k=true
 ·rw [L6 h,L6 h,L4 O1]
  obtain⟨h1,h2,h3,h4⟩:=Jj.1 h
  have hv:k.zA=((k.zA.toNat:Nat):Int):=O0
  have hb:b2s ([wrap .u8 k.zA]:List Int)= [o8 k.zA.toNat]:=by
   conv=>lhs; rw [hv]
   exact zgh _
  have hc:dt n k=some (o8 k.zA.toNat::(k.wj++k.zY)):=by
   unfold dt
   rw [hb,yd (by rw [h3]; simp),L0,yd (by rw [L8,h3,h4]; simp),L0]
   rfl
  have hs:Zi n (o8 k.zA.toNat::(k.wj++k.zY)) 0=some (0::o8 k.zA.toNat::(k.wj++k.zY),0):=by
   unfold Zi gy
   rw [L4 O1,L0,L4 O1,L6 O1,L0,L4 O1,show b2s ([wrap .u8 0]:List Int)= [0]from rfl,yd (by simp [h3,h4]),L0]
   rfl
  have hl:(0::o8 k.zA.toNat::(k.wj++k.zY):Bs).length=34:=by simp [h3,h4]
  have ha:px.2.length=12:=O1
  have t1:=yc px.1 px.2
  have t2:=yc 3 (0::o8 k.zA.toNat::(k.wj++k.zY))
  rw [hc,L0,hs,L0,L4 O2,show(3:Int)=((3:Nat):Int)from rfl,Qn O0 O0 O7 O0,L0,bA (t:=3) O7,L4 O2,zf3 hn,L0,show(48:Int)=((48:Nat):Int)from rfl]
  have hf:([(tWrap px.1 px.2).1,(tWrap 3 (0::o8 k.zA.toNat::(k.wj++k.zY))).1]:List Bs).flatten=wraps (Wq k):=by
   simp only [Wq,wraps,Le,List.map_nil]
  have hk:=(WQ k h).2
  rw [Vm O0 O0 (by intro c hc; simp only [Lp,List.not_mem_nil,or_false]at hc; rcases hc with rfl|rfl<;>omega) (by simp only [La,Lm]; omega) O2,hf,bA (t:=48) O0]
  rfl
 ·rw [L4 h,L4 h,L6 O1]
theorem zbj {n:Nat} {k:zB} (hn:100≤n):uP n k=some (if okK k=true then((tWrap (gT k).1 (gT k).2).1,0)else([],18)):=by
 unfold uP
 rw [zbw,L0]
 by_cases h:okK k=true
 ·rw [L6 h,L6 h,L4 O1]
  obtain⟨h1,h2,h3,h4⟩:=Jj.1 h
  have hv:k.zA=((k.zA.toNat:Nat):Int):=O0
  have hb:wv n k.zA=some [o8 k.zA.toNat]:=by
   rw [hv]
   have:∀v:Nat,v≤8→wv n (v:Int)=some [o8 v]:=by
    intro v hv
    have:=Lg.1 (show((List.range 9).all fun v:Nat=>decide (wv n (v:Int)=some [o8 v]))=true by kernel_rfl) v O3
    simpa using this
   rw [this _ O0]; rfl
  have hc:gt n k=some (o8 k.zA.toNat::(k.wj++k.zY)):=by
   unfold gt
   rw [hb,L0,yd (by rw [h3]; simp),L0,yd (by rw [L8,h3,h4]; simp),L0]
   rfl
  have hl:(0::o8 k.zA.toNat::(k.wj++k.zY):Bs).length=34:=by simp [h3,h4]
  have ha:px.2.length=12:=O1
  have t1:=yc px.1 px.2
  have t2:=yc 3 (0::o8 k.zA.toNat::(k.wj++k.zY))
  rw [zfL hn,L0,hc,L0,yd (by simp [h3,h4]),L0,show(3:Int)=((3:Nat):Int)from rfl,List.singleton_append,Vz O0 O0 O0 O0,L0,show(48:Int)=((48:Nat):Int)from rfl]
  have hf:([(tWrap px.1 px.2).1,(tWrap 3 (0::o8 k.zA.toNat::(k.wj++k.zY))).1]:List Bs).flatten=wraps (Wq k):=by
   simp only [Wq,wraps,Le,List.map_nil]
  have hk:=(WQ k h).2
  rw [mf O0 O0 (by rw [hf]; omega) (by simp only [La,Lm]; omega) O2,hf]
  rfl
 ·rw [L4 h,L4 h,L6 O1]
def BdL (B:Nat) (l:List Anc):Prop:=∀a∈l,BdN B a.zt.zh
theorem zfM {n B:Nat} {a:Anc} {b:Bs} (h:Uv a) (hb:BdN B a.zt.zh) (hB:B≤1000000) (hn:B+100≤n) (hl:b.length≤1000000000):jo n a ⟨b,0⟩=some ⟨b++(tWrap (ancE a).1 (ancE a).2).1,0⟩:=by
 unfold jo
 have k1:=dW h.1
 have k2:=(WQ a.zP h.2.2).2
 have k3:=(Xu h).2
 have t1:=yc 48 (xd a.zt.zh).2
 have t2:=yc (gT a.zP).1 (gT a.zP).2
 have e2:(gT a.zP).2=wraps (Wq a.zP):=rfl
 rw [e2]at t2
 have e0:Uo a.zt.zh=((tWrap 48 (xd a.zt.zh).2).1,0):=by unfold Uo; rw [L4 (by rw [gU.2 h.1]; simp)]
 rw [Dp hb hB hn,L0,e0,B0 (by simp only [Lm]; omega),L0,zaP (k:=⟨a.zP.zA,a.zP.wj,a.zP.zY⟩) O0,L0,L6 (show okK ⟨a.zP.zA,a.zP.wj,a.zP.zY⟩=true from h.2.2),Lj]
 have e1:(tWrap (gT ⟨a.zP.zA,a.zP.wj,a.zP.zY⟩).1 (gT ⟨a.zP.zA,a.zP.wj,a.zP.zY⟩).2).1=(tWrap (gT a.zP).1 (gT a.zP).2).1:=rfl
 simp only []
 rw [e1,e2,B0 O0,L0]
 simp only []
 rw [B0 (by simp only [Lm]; omega),L0,Lk]
 have hf:(tWrap 48 (xd a.zt.zh).2).1++(tWrap (gT a.zP).1 (wraps (Wq a.zP))).1=wraps (UB a):=by
  simp only [UB,wraps,Le,List.map_nil,List.flatten_cons,List.flatten_nil,Lk]
  rfl
 rw [hf,show(48:Int)=((48:Nat):Int)from rfl,PZ O0 O0 O0 O0,L0,bA (t:=48) O0]
 rfl
theorem Ym {l:List Anc} (ho:∀a∈l,Uv a):(wraps (l.map ancE)).length≤4403*l.length:=by
 have:=Jg (m:=4398) (l.map ancE) (fun p hp=>by obtain⟨a,ha,rfl⟩:=Lh.1 hp; exact(Xu (ho a ha)).2)
 rw [Lb]at this; exact this
abbrev El:=zb
def Bh:List El→Bool
 |a::b::l=> !(Op.bytesLess b.uE a.uE)&&Bh (b::l)
 |_=>true
theorem sJ {n:Nat} (a:List El) (ha:a.length≤1000000000):∀(k i:Nat),1≤i→a.length-i<k→uo n a k (i:Int)=some (if Bh (a.drop (i-1))=true then .nxt ()else .ret false)
 |0,i,_,h=>O0
 | k + 1,i,hi,hk=>by
  rw [uo]
  by_cases hc:i<a.length
  ·have e1:wrap .i64 ((i:Int)-1)=((i-1:Nat):Int):=by rw [z6 O0]; omega
   have e2:a.drop (i-1)=a[i-1]::a[i]::a.drop (i+1):=by
    rw [Lc (show i-1<a.length by omega)]
    congr 1
    have:i-1+1=i:=O0
    rw [this,Lc hc]
   rw [L6 O4,zQ hc,L0,e1,zQ (show i-1<a.length by omega),L0,e2,Bh]
   by_cases h:Op.bytesLess a[i].uE a[i-1].uE=true
   ·rw [L6 h,h]; rfl
   ·have e3:a.drop (i+1-1)=a[i]::a.drop (i+1):=by
     rw [show i+1-1=i by omega,Lc hc]
    rw [L4 h,w1 O0,sJ a ha k (i+1) O0 O0,e3]
    rw [Bool.not_eq_true]at h
    rw [h,Bool.not_false,Bool.true_and]
  ·rw [L4 O4]
   have:Bh (a.drop (i-1))=true:=by
    have hl:(a.drop (i-1)).length≤1:=by rw [List.length_drop]; omega
    match a.drop (i-1),hl with
    | [],_=>rfl
    | [_],_=>rfl
   rw [this]; rfl
theorem nO {n:Nat} {a:List El} (ha:a.length≤1000000000) (hn:a.length<n):df n a=some (Bh a):=by
 unfold df
 have:=sJ (n:=n) a ha n 1 O0 O0
 rw [show((1:Nat):Int)=1 from rfl,show 1-1=0 from rfl,Li]at this
 rw [this]
 cases Bh a<;>rfl
theorem nB {n:Nat} (a:List El):∀(k:Nat) (v:Int),wr n a k v=uo n a k v
 |0,v=>rfl
 |k+1,v=>by rw [wr,uo]; simp only [nB a k]
theorem zbz {n:Nat} {a:List El} (ha:a.length≤1000000000) (hn:a.length<n):jS n a=some (Bh a):=by
 have:=nO ha hn
 unfold df at this
 unfold jS
 rw [nB]; exact this
def A0:Att:=⟨[],0,[]⟩
def ZW (D:Bs→Bs×Int) (e:El):Att×Int:=
 if e.zF≠48 then(A0,5)else if(tList e.zd).2≠0 then(A0,(tList e.zd).2)else match(tList e.zd).1 with
 | []=>(A0,3)
 | x::r=>if x.zF≠6 then(A0,5)else if(D x.zd).2≠0 then(A0,(D x.zd).2)else match r with
  | []=>(A0,3)
  |y::s=>if y.zF≠12∧y.zF≠19∧y.zF≠22 then(A0,5)else if s≠ []then(A0,4)else(⟨(D x.zd).1,y.zF,y.zd⟩,0)
def qa (D:Bs→Bs×Int):List Att→List El→List Att×Int
 |acc,[]=>(acc,0)
 |acc,x::l=>if(ZW D x).2≠0 then([],(ZW D x).2)else qa D (acc ++ [(ZW D x).1]) l
def Wa (D:Bs→Bs×Int) (e:El):List Att×Int:=
 if e.zF≠49 then([],5)else if(tList e.zd).2≠0 then([],(tList e.zd).2)else if Bh (tList e.zd).1=false then([],9)else qa D [] (tList e.zd).1
def jI (D:Bs→Bs×Int):List (List Att)→List El→List (List Att)×Int
 |acc,[]=>(acc,0)
 |acc,x::l=>if(Wa D x).2≠0 then([],(Wa D x).2)else jI D (acc ++ [(Wa D x).1]) l
def gm (D:Bs→Bs×Int) (b:Bs):List (List Att)×Int:=
 if(vE b).2≠0 then([],(vE b).2)else if(vE b).1.zF≠48 then([],5)else if(tList (vE b).1.zd).2≠0 then([],(tList (vE b).1.zd).2)else
 if(jI D [] (tList (vE b).1.zd).1).2≠0 then([],(jI D [] (tList (vE b).1.zd).1).2)else
 if jj (jI D [] (tList (vE b).1.zd).1).1≠0 then([],jj (jI D [] (tList (vE b).1.zd).1).1)else((jI D [] (tList (vE b).1.zd).1).1,0)
theorem zbe {n M:Nat} {D:Bs→Bs×Int} (hD:∀c:Bs,c.length≤M→yw n c=some (D c)) {e:El} (he:e.zd.length≤M) (hM:M≤1000000) (hn:M+100≤n):qN n e=some (ZW D e):=by
 unfold qN ZW
 by_cases h1:e.zF≠48
 ·rw [L6 (Oa h1),L6 h1]; rfl
 rw [L4 (Oa h1),L4 h1,gd O0 O0,L0]
 have hb:=uR e.zd he
 generalize tList e.zd=T at hb
 obtain⟨L,x⟩:=T
 simp only []at hb ⊢
 by_cases h2:x≠0
 ·rw [L6 (Oa h2),L6 h2]; rfl
 rw [L4 (Oa h2),L4 h2]
 match L,hb with
 | [],_=>rfl
 | x ::r,hb=>
  have k0:zM (x::r) 0=some x:=by simp [zM]
  have hx:=hb.2 x O2
  have hl:=hb.1
  simp only [La]at hl
  rw [L4 (by rw [L3,La]; omega),k0,L0]
  simp only []
  by_cases h3:x.zF≠6
  ·rw [L6 (Oa h3),L6 h3]; rfl
  rw [L4 (Oa h3),L4 h3,L0,hD _ hx,L0]
  by_cases h4:(D x.zd).2≠0
  ·rw [L6 (Oa h4),L6 h4]; rfl
  rw [L4 (Oa h4),L4 h4]
  match r,hb with
  | [],_=>rfl
  | y ::s,hb=>
   have k1:zM (x::y::s) 1=some y:=by simp [zM]
   rw [L4 (by rw [L3,La,La]; omega),k1,L0]
   simp only []
   have fin:(if(decide ((List.length (x::y::s):Int)>2))=true then(some ((za.mk ([]:List UInt8) 0 ([]:List UInt8)),(4:Int)))else((some y:Option El).bind fun x9=>
     (some y:Option El).bind fun x10=>some ((za.mk (D x.zd).1 x9.zF x10.zd),(0:Int))))=some (if s≠ []then(A0,4)else(⟨(D x.zd).1,y.zF,y.zd⟩,0)):=by
    by_cases h6:s= []
    ·subst h6; rfl
    ·have:0<s.length:=List.length_pos_iff.2 h6
     rw [L6 (by rw [L3,La,La]; omega),L6 h6]; rfl
   by_cases t1:y.zF=12
   ·rw [L6 (Oa t1),L6 (Oa t1),L4 (show ¬(y.zF≠12∧y.zF≠19∧y.zF≠22)from fun h=>h.1 t1)]; exact fin
   by_cases t2:y.zF=19
   ·rw [L4 (Oa t1),L6 (Oa t2),L6 (Oa t2),L4 (show ¬(y.zF≠12∧y.zF≠19∧y.zF≠22)from fun h=>h.2.1 t2)]; exact fin
   by_cases t3:y.zF=22
   ·rw [L4 (Oa t1),L4 (Oa t2),L6 (Oa t3),L4 (show ¬(y.zF≠12∧y.zF≠19∧y.zF≠22)from fun h=>h.2.2 t3)]; exact fin
   rw [L4 (Oa t1),L4 (Oa t2),L4 (Oa t3),L6 (show(y.zF≠12∧y.zF≠19∧y.zF≠22)from⟨t1,t2,t3⟩)]; rfl
theorem Ba {n:Nat} {t:Int} {l:List El} {i:Nat} (hl:l.length≤1000000000):yi n t ⟨l,(i:Int)⟩=some (match l[i]? with|none=>(E0,3,⟨l,(i:Int)⟩)|some x=>if 0≤t∧x.zF≠t then(E0,5,⟨l,(i:Int)⟩)else(x,0,⟨l,((i+1:Nat):Int)⟩)):=by
 unfold yi
 simp only []
 by_cases hc:i<l.length
 ·rw [L4 O4,zQ hc,L0,List.getElem?_eq_getElem hc,w1 O0]
  simp only []
  by_cases h0:0≤t
  ·rw [L6 O4,L0]
   by_cases h1:l[i].zF≠t
   ·rw [L6 (Oa h1),L6 ⟨h0,h1⟩]
   ·rw [L4 (Oa h1),L4 (fun h=>h1 h.2)]
  ·rw [L4 O4,L0,L4 O2,L4 (fun h=>h0 h.1)]
 ·rw [L6 O4,List.getElem?_eq_none O0]
theorem zcE {n:Nat} {l:List El} {i:Nat}:w5 n ⟨l,(i:Int)⟩=some (if i<l.length then 4 else 0,⟨l,(i:Int)⟩):=by
 unfold w5
 simp only []
 by_cases hc:i<l.length
 ·rw [L6 O4,L6 hc]
 ·rw [L4 O4,L4 hc]
theorem Gn {n:Nat} {e:El} {t:Int} (hn:e.zd.length+5≤n) (hl:e.zd.length≤1000000000000):va n e t=some (if e.zF≠t then(⟨[],0⟩,5)else(⟨(tList e.zd).1,0⟩,(tList e.zd).2)):=by
 unfold va
 by_cases h:e.zF≠t
 ·rw [L6 (Oa h),L6 h]
 ·rw [L4 (Oa h),L4 h,YQ hl hn]; rfl
theorem zaS {n M:Nat} {D:Bs→Bs×Int} (hD:∀c:Bs,c.length≤M→zE n c=some (D c)) {e:El} (he:e.zd.length≤M) (hM:M≤1000000) (hn:M+100≤n):jM n e=some (ZW D e):=by
 unfold jM ZW
 rw [Gn O0 O0,L0]
 by_cases h1:e.zF≠48
 ·rw [L6 h1,L6 h1]; rfl
 rw [L4 h1,L4 h1]
 have hb:=uR e.zd he
 generalize tList e.zd=T at hb
 obtain⟨L,x⟩:=T
 simp only []at hb ⊢
 by_cases h2:x≠0
 ·rw [L6 (Oa h2),L6 h2]; rfl
 rw [L4 (Oa h2),L4 h2]
 have hl:=hb.1
 have n0:=Ba (n:=n) (t:=6) (l:=L) (i:=0) O0
 rw [show((0:Nat):Int)=0 from rfl]at n0
 match L,hb,hl,n0 with
 | [],_,_,n0=>rw [n0]; rfl
 | x ::r,hb,hl,n0=>
  have hx:=hb.2 x O2
  simp only [List.getElem?_cons_zero]at n0
  by_cases h3:x.zF≠6
  ·rw [L6 (show(0:Int)≤6∧x.zF≠6 from⟨O0,h3⟩)]at n0
   rw [n0,L0]
   simp only []
   rw [L6 (show x.zF≠6 from h3)]; rfl
  rw [L4 (show ¬((0:Int)≤6∧x.zF≠6)from fun h=>h3 h.2)]at n0
  rw [n0,L0]
  simp only []
  rw [L4 h3,L4 O1,hD _ hx,L0]
  by_cases h4:(D x.zd).2≠0
  ·rw [L6 (Oa h4),L6 h4]; rfl
  rw [L4 (Oa h4),L4 h4]
  have n1:=Ba (n:=n) (t:= -1) (l:=x::r) (i:=0+1) O0
  match r,hb,n1 with
  | [],_,n1=>rw [n1]; rfl
  | y::s,hb,n1=>
   simp only [Nat.zero_add,List.getElem?_cons_succ,List.getElem?_cons_zero]at n1
   rw [L4 (show ¬((0:Int)≤ -1∧y.zF≠ -1)from fun h=>absurd h.1 O1)]at n1
   rw [show((0+1:Nat):Int)=((1:Nat):Int)from rfl,n1,L0]
   simp only []
   rw [L4 O1]
   have key:(if(y.zF !=12)=true then(if(y.zF !=19)=true then(some (y.zF !=22))else(some false))else(some false):Option Bool)=some (decide (y.zF≠12∧y.zF≠19∧y.zF≠22)):=by
    by_cases t1:y.zF=12
    ·rw [L4 (Oa t1),decide_eq_false (fun h=>h.1 t1)]
    by_cases t2:y.zF=19
    ·rw [L6 (Oa t1),L4 (Oa t2),decide_eq_false (fun h=>h.2.1 t2)]
    by_cases t3:y.zF=22
    ·rw [L6 (Oa t1),L6 (Oa t2),decide_eq_false (fun h=>h.2.2 t3)]; simpa using t3
    ·rw [L6 (Oa t1),L6 (Oa t2),decide_eq_true ⟨t1,t2,t3⟩]; simpa using t3
   rw [key,L0]
   by_cases h5:y.zF≠12∧y.zF≠19∧y.zF≠22
   ·rw [L6 (Oa h5),L6 h5]; rfl
   rw [L4 (show ¬(decide (y.zF≠12∧y.zF≠19∧y.zF≠22))=true by rw [L3]; exact h5),L4 h5,zcE,L0]
   by_cases h6:s= []
   ·subst h6; rfl
   ·have:0<s.length:=List.length_pos_iff.2 h6
    rw [L6 (show 1+1<(x::y::s).length by simp only [La]; omega),L6 O2,L6 h6]; rfl
theorem K7 {D:Bs→Bs×Int}:∀ {l:List El} {acc:List Att},(qa D acc l).2≠0→(qa D acc l).1= []
 | [],acc,h=>absurd rfl h
 | x::l,acc,h=>by
  rw [qa]at h ⊢
  by_cases h1:(ZW D x).2≠0
  ·rw [L6 h1]
  ·rw [L4 h1]at h ⊢; exact K7 h
theorem rY {D:Bs→Bs×Int} {M B:Nat} (hD:∀c:Bs,c.length≤M→(D c).1.length≤B) (hMB:M≤B) {e:El} (he:e.zd.length≤M):BdA B (ZW D e).1:=by
 have hb:=uR e.zd he
 have z:BdA B A0:=⟨Nat.zero_le _,Nat.zero_le _⟩
 unfold ZW
 split
 ·exact z
 split
 ·exact z
 split
 ·exact z
 rename_i x r hL
 rw [hL]at hb
 split
 ·exact z
 split
 ·exact z
 split
 ·exact z
 split
 ·exact z
 split
 ·exact z
 rename_i y s _ _ _
 exact⟨hD _ (hb.2 x O2),Nat.le_trans (hb.2 _ O2) hMB⟩
theorem Gg {D:Bs→Bs×Int} {M B:Nat} (hD:∀c:Bs,c.length≤M→(D c).1.length≤B) (hMB:M≤B):∀(l:List El) (acc:List Att),(∀e∈l,e.zd.length≤M)→acc.length+l.length≤B→(∀a∈acc,BdA B a)→BdR B (qa D acc l).1
 | [],acc,_,h,h2=>⟨by simpa [qa] using h,h2⟩
 | x::l,acc,hl,h,h2=>by
  rw [qa]
  split
  ·exact⟨Nat.zero_le _,O2⟩
  ·refine Gg hD hMB l _ (fun e he=>hl e (by simp [he])) (by rw [L8,L9]; simp only [La]at h; omega) ?_
   intro a ha
   rcases Lo.1 ha with ha|ha
   ·exact h2 a ha
   ·rw [Ln]at ha; subst ha; exact rY hD hMB (hl x O2)
theorem rm {D:Bs→Bs×Int} {M B:Nat} (hD:∀c:Bs,c.length≤M→(D c).1.length≤B) (hMB:M≤B) {e:El} (he:e.zd.length≤M):BdR B (Wa D e).1:=by
 have hb:=uR e.zd he
 have z:BdR B []:=⟨Nat.zero_le _,O2⟩
 unfold Wa
 split
 ·exact z
 split
 ·exact z
 split
 ·exact z
 exact Gg hD hMB _ [] hb.2 (by have:=hb.1; simp only [Lm]; omega) O2
theorem JV {D:Bs→Bs×Int} {M B:Nat} (hD:∀c:Bs,c.length≤M→(D c).1.length≤B) (hMB:M≤B):∀(l:List El) (acc:List (List Att)),(∀e∈l,e.zd.length≤M)→acc.length+l.length≤B→(∀a∈acc,BdR B a)→BdN B (jI D acc l).1
 | [],acc,_,h,h2=>⟨by simpa [jI] using h,h2⟩
 | x::l,acc,hl,h,h2=>by
  rw [jI]
  split
  ·exact⟨Nat.zero_le _,O2⟩
  ·refine JV hD hMB l _ (fun e he=>hl e (by simp [he])) (by rw [L8,L9]; simp only [La]at h; omega) ?_
   intro a ha
   rcases Lo.1 ha with ha|ha
   ·exact h2 a ha
   ·rw [Ln]at ha; subst ha; exact rm hD hMB (hl x O2)
theorem XN {D:Bs→Bs×Int} {b:Bs}:BdN 252 (gm D b).1:=by
 have z:BdN 252 []:=⟨Nat.zero_le _,O2⟩
 unfold gm
 split
 ·exact z
 split
 ·exact z
 split
 ·exact z
 split
 ·exact z
 split
 ·exact z
 rename_i h
 exact mF (gU.1 (Oa h))
theorem mZ {n M:Nat} {D:Bs→Bs×Int} (hD:∀c:Bs,c.length≤M→yw n c=some (D c)) (hM:M≤1000000) (hn:M+100≤n) (T:List El×Int) (hT:Bd M T.1):∀(k i:Nat) (acc:List Att),i≤T.1.length→T.1.length-i<k→acc.length≤i →
  vi n T k acc (i:Int)=some (if(qa D acc (T.1.drop i)).2≠0 then .ret ([],(qa D acc (T.1.drop i)).2)else .nxt (qa D acc (T.1.drop i)).1)
 |0,i,_,_,h,_=>O0
 | k + 1,i,acc,hi,hk,ha=>by
  have hl:=hT.1
  rw [vi]
  by_cases hc:i<T.1.length
  ·rw [L6 O4,zQ hc,L0,zbe hD (hT.2 _ (Ll hc)) hM hn,L0,Lc hc,qa]
   by_cases h:(ZW D T.1[i]).2≠0
   ·rw [L6 (Oa h),L6 h,L6 h]
   ·rw [L4 (Oa h),L4 h,yx (by rw [L9]; omega),L0,w1 O0]
    exact mZ hD hM hn T hT k (i+1) _ O0 O0 (by rw [L8,L9]; omega)
  ·rw [L4 O4,Ld O0]
   rfl
theorem zfP {n M:Nat} {D:Bs→Bs×Int} (hD:∀c:Bs,c.length≤M→yw n c=some (D c)) (hM:M≤1000000) (hn:M+100≤n) {e:El} (he:e.zd.length≤M):kf n e=some (Wa D e):=by
 unfold kf Wa
 by_cases h1:e.zF≠49
 ·rw [L6 (Oa h1),L6 h1]
 rw [L4 (Oa h1),L4 h1,gd O0 O0,L0]
 have hb:=uR e.zd he
 have hl:=hb.1
 by_cases h2:(tList e.zd).2≠0
 ·rw [L6 (Oa h2),L6 h2]
 rw [L4 (Oa h2),L4 h2,nO O0 O0,L0]
 by_cases h3:Bh (tList e.zd).1=false
 ·rw [L6 (by rw [h3]; rfl),L6 h3]
 rw [L4 (Oa h3),L4 h3]
 have e1:=mZ hD hM hn (tList e.zd) hb n 0 [] O0 O0 O2
 rw [show((0:Nat):Int)=0 from rfl,Li]at e1
 rw [e1]
 by_cases h4:(qa D [] (tList e.zd).1).2≠0
 ·rw [L6 h4]
  exact congrArg some (Prod.ext (K7 h4).symm rfl)
 ·rw [L4 h4]
  simp only [yb]
  have h4:(qa D [] (tList e.zd).1).2=0:=by simpa using h4
  exact congrArg some (Prod.ext rfl h4.symm)
theorem eQ {n M:Nat} {D:Bs→Bs×Int} (hD:∀c:Bs,c.length≤M→yw n c=some (D c)) (hM:M≤1000000) (hn:M+100≤n) (T:List El×Int) (hT:Bd M T.1):∀(k i:Nat) (acc:List (List Att)),i≤T.1.length→T.1.length-i<k→acc.length≤i →
  qo n T k (i:Int) acc=some (if(jI D acc (T.1.drop i)).2≠0 then .ret (⟨[]⟩,(jI D acc (T.1.drop i)).2)else .nxt (jI D acc (T.1.drop i)).1)
 |0,i,_,_,h,_=>O0
 | k + 1,i,acc,hi,hk,ha=>by
  have hl:=hT.1
  rw [qo]
  by_cases hc:i<T.1.length
  ·rw [L6 O4,zQ hc,L0,zfP hD hM hn (hT.2 _ (Ll hc)),L0,Lc hc,jI]
   by_cases h:(Wa D T.1[i]).2≠0
   ·rw [L6 (Oa h),L6 h,L6 h]
   ·rw [L4 (Oa h),L4 h,yx (by rw [L9]; omega),L0,w1 O0]
    exact eQ hD hM hn T hT k (i+1) _ O0 O0 (by rw [L8,L9]; omega)
  ·rw [L4 O4,Ld O0]
   rfl
theorem oo {n M:Nat} {D:Bs→Bs×Int} (hD:∀c:Bs,c.length≤M→yw n c=some (D c)) (hDl:∀c:Bs,c.length≤M→(D c).1.length≤M+252) (hM:M≤900000) (hn:M+500≤n) {b:Bs} (hb:b.length≤M):dN n b=some (⟨(gm D b).1⟩,(gm D b).2):=by
 unfold dN gm
 rw [Q9 O0 O0,L0]
 have ho:=Q7 b
 by_cases h1:(vE b).2≠0
 ·rw [L6 (Oa h1),L6 h1]
 rw [L4 (Oa h1),L4 h1]
 by_cases h2:(vE b).1.zF≠48
 ·rw [L6 (Oa h2),L6 h2]
 rw [L4 (Oa h2),L4 h2,gd O0 O0,L0]
 have hT:=uR (vE b).1.zd (M:=M) O0
 have hl:=hT.1
 generalize tList (vE b).1.zd=T at hT hl ⊢
 by_cases h3:T.2≠0
 ·rw [L6 (Oa h3),L6 h3]
 rw [L4 (Oa h3),L4 h3]
 have e1:=eQ hD O0 O0 T hT n 0 [] O0 O0 O2
 rw [show((0:Nat):Int)=0 from rfl,Li]at e1
 rw [e1]
 by_cases h4:(jI D [] T.1).2≠0
 ·rw [L6 h4,L6 h4]; rfl
 rw [L4 h4,L4 h4]
 simp only [yb]
 have hbd:=JV (B:=M+252) hDl O0 T.1 [] hT.2 (by simp only [Lm]; omega) O2
 rw [K8 hbd O0 O0,L0]
 by_cases h5:jj (jI D [] T.1).1≠0
 ·rw [L6 (Oa h5),L6 h5]
 ·rw [L4 (Oa h5),L4 h5]
theorem nN {n M:Nat} {D:Bs→Bs×Int} (hD:∀c:Bs,c.length≤M→zE n c=some (D c)) (hM:M≤1000000) (hn:M+100≤n) (T:zI×Int) (hT:Bd M T.1.f_L):∀(k i:Nat) (acc:List Att),i≤T.1.f_L.length→T.1.f_L.length-i<k→acc.length≤i →
  wb n T k acc (i:Int)=some (if(qa D acc (T.1.f_L.drop i)).2≠0 then .ret (⟨[]⟩,(qa D acc (T.1.f_L.drop i)).2)else .nxt (qa D acc (T.1.f_L.drop i)).1)
 |0,i,_,_,h,_=>O0
 | k + 1,i,acc,hi,hk,ha=>by
  have hl:=hT.1
  rw [wb]
  by_cases hc:i<T.1.f_L.length
  ·rw [L6 O4,zQ hc,L0,zaS hD (hT.2 _ (Ll hc)) hM hn,L0,Lc hc,qa]
   by_cases h:(ZW D T.1.f_L[i]).2≠0
   ·rw [L6 (Oa h),L6 h,L6 h]
   ·rw [L4 (Oa h),L4 h,yx (by rw [L9]; omega),L0,w1 O0]
    exact nN hD hM hn T hT k (i+1) _ O0 O0 (by rw [L8,L9]; omega)
  ·rw [L4 O4,Ld O0]
   rfl
theorem fk {n M:Nat} {D:Bs→Bs×Int} (hD:∀c:Bs,c.length≤M→zE n c=some (D c)) (hM:M≤1000000) (hn:M+100≤n) (T:zI×Int) (hT:Bd M T.1.f_L):∀(k i:Nat) (acc:List (List Att)),i≤T.1.f_L.length→T.1.f_L.length-i<k→acc.length≤i →
  wf n T k (i:Int) acc=some (if(jI D acc (T.1.f_L.drop i)).2≠0 then .ret (⟨[]⟩,(jI D acc (T.1.f_L.drop i)).2)else .nxt (jI D acc (T.1.f_L.drop i)).1)
 |0,i,_,_,h,_=>O0
 | k + 1,i,acc,hi,hk,ha=>by
  have hl:=hT.1
  rw [wf]
  by_cases hc:i<T.1.f_L.length
  ·have hx:=hT.2 _ (Ll hc)
   have hb:=uR (T.1.f_L[i]).zd hx
   have hbl:=hb.1
   rw [L6 O4,zQ hc,L0,Gn O0 O0,L0,Lc hc,jI]
   unfold Wa
   by_cases h1:(T.1.f_L[i]).zF≠49
   ·rw [L6 h1,L6 O1,L6 h1]; rfl
   rw [L4 h1,L4 h1]
   by_cases h2:(tList (T.1.f_L[i]).zd).2≠0
   ·rw [L6 (Oa h2),L6 h2,L6 h2,L6 h2]
   rw [L4 (Oa h2),L4 h2]
   simp only []
   rw [zbz O0 O0,L0]
   by_cases h3:Bh (tList (T.1.f_L[i]).zd).1=false
   ·rw [L6 (by rw [h3]; rfl),L6 h3]; rfl
   rw [L4 (Oa h3),L4 h3]
   have e1:=nN hD hM hn (⟨(tList (T.1.f_L[i]).zd).1,0⟩,(tList (T.1.f_L[i]).zd).2) hb n 0 [] O0 (by show(tList (T.1.f_L[i]).zd).1.length-0<n; omega) O2
   rw [show((0:Nat):Int)=0 from rfl,Li]at e1
   rw [e1]
   simp only []
   by_cases h4:(qa D [] (tList (T.1.f_L[i]).zd).1).2≠0
   ·rw [L6 h4,L6 h4,L6 h4]; rfl
   ·rw [L4 h4,L4 h4]
    simp only [yb]
    rw [yx (by rw [L9]; omega),L0,w1 O0]
    exact fk hD hM hn T hT k (i+1) _ O0 O0 (by rw [L8,L9]; omega)
  ·rw [L4 O4,Ld O0]
   rfl
theorem tr {n M:Nat} {D:Bs→Bs×Int} (hD:∀c:Bs,c.length≤M→zE n c=some (D c)) (hDl:∀c:Bs,c.length≤M→(D c).1.length≤M+252) (hM:M≤900000) (hn:M+500≤n) {b:Bs} (hb:b.length≤M):uA n b=some (⟨(gm D b).1⟩,(gm D b).2):=by
 unfold uA gm
 rw [Ji O0 O0,L0]
 have ho:=Q7 b
 by_cases h1:(vE b).2≠0
 ·rw [L6 (Oa h1),L6 h1]
 rw [L4 (Oa h1),L4 h1,Gn O0 O0,L0]
 by_cases h2:(vE b).1.zF≠48
 ·rw [L6 h2,L6 h2]; rfl
 rw [L4 h2,L4 h2]
 have hT:=uR (vE b).1.zd (M:=M) O0
 have hl:=hT.1
 generalize tList (vE b).1.zd=T at hT hl ⊢
 by_cases h3:T.2≠0
 ·rw [L6 (Oa h3),L6 h3]
 rw [L4 (Oa h3),L4 h3]
 have e1:=fk hD O0 O0 (⟨T.1,0⟩,T.2) hT n 0 [] O0 (by show T.1.length-0<n; omega) O2
 rw [show((0:Nat):Int)=0 from rfl,Li]at e1
 rw [e1]
 simp only []
 by_cases h4:(jI D [] T.1).2≠0
 ·rw [L6 h4,L6 h4]; rfl
 rw [L4 h4,L4 h4]
 simp only [yb]
 have hbd:=JV (B:=M+252) hDl O0 T.1 [] hT.2 (by simp only [Lm]; omega) O2
 rw [nX hbd O0 O0,L0]
 by_cases h5:jj (jI D [] T.1).1≠0
 ·rw [L6 (Oa h5),L6 h5]
 ·rw [L4 (Oa h5),L4 h5]
theorem KY:∀ {l:List Att},(l.Pairwise fun a b=>leB (Xp a) (Xp b)=true)→Bh ((l.map JZ).map elm)=true
 | [],_=>rfl
 | [_],_=>rfl
 | a::b::l,h=>by
  rw [List.pairwise_cons]at h
  have:=KY h.2
  simp only [Le]at this ⊢
  rw [Bh,this,Bool.and_true]
  have e1:(elm (JZ b)).uE=Xp b:=rfl
  have e2:(elm (JZ a)).uE=Xp a:=rfl
  rw [e1,e2,zev,h.1 b O2]; rfl
theorem P2 {D:Bs→Bs×Int} (hD:∀s l,xG s=some l→D (qA l)=(s,0)) {a:Att} (h:okA a):ZW D (elm (JZ a))=(a,0):=by
 obtain⟨hp,hw,l,hl,he⟩:=Jo h
 have hpe:polE a.xx=(6,qA l):=by unfold polE; rw [hl]; rfl
 have hk:a.zG=((a.zG.toNat:Nat):Int):=by rcases JB h.2.2.1 with e|e|e<;>rw [e]<;>rfl
 have hc:(elm (JZ a)).zd=wraps (Jt a):=rfl
 unfold ZW
 rw [L4 (show ¬(elm (JZ a)).zF≠48 from fun h=>h rfl),hc,wV hp]
 simp only [Jt,Le,List.map_nil,hpe]
 rw [L4 O2,L4 (show ¬(elm (6,qA l)).zF≠6 from fun h=>h rfl),show(elm (6,qA l)).zd=qA l from rfl,hD _ _ hl,L4 O2]
 have ht:(elm (a.zG.toNat,a.vg)).zF=a.zG:=hk.symm
 rw [ht,L4 (by rcases JB h.2.2.1 with e|e|e<;>rw [e]<;>simp),L4 O2]
 rfl
theorem Qq {D:Bs→Bs×Int} (hD:∀s l,xG s=some l→D (qA l)=(s,0)):∀(r:List Att) (acc:List Att),(∀a∈r,okA a)→qa D acc ((r.map JZ).map elm)=(acc++r,0)
 | [],acc,_=>by simp [qa]
 | a::r,acc,h=>by
  simp only [Le]
  rw [qa,P2 hD (h a O2),L4 O2]
  have:=Qq hD r (acc ++ [a]) (fun x hx=>h x (by simp [hx]))
  rw [this,Lq,List.singleton_append]
theorem eH {D:Bs→Bs×Int} (hD:∀s l,xG s=some l→D (qA l)=(s,0)) {r:List Att} (h:okR r):Wa D (elm (ph r))=(gA r,0):=by
 have ho:=QR h
 have hc:(elm (ph r)).zd=wraps ((gA r).map JZ):=rfl
 have hp:∀p∈(gA r).map JZ,POk p:=by
  intro p hp; obtain⟨a,ha,rfl⟩:=Lh.1 hp; exact mR (ho.2.2.1 a ha)
 unfold Wa
 rw [L4 (show ¬(elm (ph r)).zF≠49 from fun h=>h rfl),hc,wV hp,L4 O2]
 simp only []
 rw [KY (Jx r),L4 O2,Qq hD _ [] ho.2.2.1,Lj]
theorem QT {D:Bs→Bs×Int} (hD:∀s l,xG s=some l→D (qA l)=(s,0)):∀(l:List (List Att)) (acc:List (List Att)),(∀r∈l,okR r)→jI D acc ((l.map ph).map elm)=(acc++VS l,0)
 | [],acc,_=>by simp [jI,VS]
 | r::l,acc,h=>by
  simp only [Le]
  rw [jI,eH hD (h r O2),L4 O2]
  have:=QT hD l (acc ++ [gA r]) (fun x hx=>h x (by simp [hx]))
  rw [this,Lq,List.singleton_append]
theorem Xn {D:Bs→Bs×Int} (hD:∀s l,xG s=some l→D (qA l)=(s,0)) {l:List (List Att)} (h:okN l):gm D (tWrap (xd l).1 (xd l).2).1=(VS l,0):=by
 have hn:=Gf h
 have hp:∀p∈l.map ph,POk p:=by
  intro p hp; obtain⟨r,hr,rfl⟩:=Lh.1 hp; exact nM (h.2 r hr)
 have hc:(xd l).2=wraps (l.map ph):=rfl
 unfold gm
 rw [XD hn.1 hn.2.1 hn.2.2]
 simp only []
 rw [L4 O2,L4 (show ¬((xd l).1:Int)≠48 from fun h=>h rfl),hc,wV hp]
 simp only []
 rw [L4 O2,QT hD l [] h.2]
 simp only [Lj]
 rw [L4 O2,L4 (by rw [gU.2 (QJ h)]; simp)]
def zfc:Bs:= [49,46,51,46,54,46,49,46,52,46,49,46,53,56,56,56,56,46,49,46,49]
theorem sB:xG zfc=some [1,3,6,1,4,1,58888,1,1]:=O8
theorem zaZ:qA [1,3,6,1,4,1,58888,1,1]=Y4:=O8
theorem zd2 {D:Bs→Bs×Int} (hD:∀s l,xG s=some l→D (qA l)=(s,0)):D Y4=(zfc,0):=by
 rw [←zaZ]; exact hD _ _ sB
theorem za7 {n M:Nat} {D:Bs→Bs×Int} (hD:∀c:Bs,c.length≤M→yw n c=some (D c)) {e:El} (he:e.zd.length≤M) (hM:M≤1000000) (hn:M+100≤n):∃x,vM n e=some x:=by
 unfold vM
 rw [gd O0 O0,L0]
 have hb:=uR e.zd he
 generalize tList e.zd=T at hb
 obtain⟨L,y⟩:=T
 simp only []at hb ⊢
 refine yq (fun _=>⟨_,rfl⟩) fun _=>yq (fun _=>⟨_,rfl⟩) fun _=>yq (fun _=>⟨_,rfl⟩) fun h=> ?_
 match L,hb,h with
 | [],_,h=>exact absurd rfl h
 | x::r,hb,_=>
  have k0:zM (x::r) 0=some x:=by simp [zM]
  rw [k0,L0]
  refine yq (fun _=>⟨_,rfl⟩) fun _=> ?_
  rw [L0,hD _ (hb.2 x O2),L0]
  refine yq (fun _=>⟨_,rfl⟩) fun _=> ?_
  refine yF (yq (fun _=>⟨_,rfl⟩) fun _=>⟨_,rfl⟩) fun y _=>yq (fun _=>⟨_,rfl⟩) fun _=>⟨_,rfl⟩
theorem rp {n M:Nat} {D:Bs→Bs×Int} (hD:∀c:Bs,c.length≤M→yw n c=some (D c)) (hB:∀s l,xG s=some l→D (qA l)=(s,0)) (hM:100≤M) (hn:M+100≤n):vM n (elm px)=some 0:=by
 unfold vM
 have hc:(elm px).zd=wraps [(6,Y4)]:=rfl
 have hw:(wraps [(6,Y4)]).length≤50:=O1
 have hp:∀p∈ [((6,Y4):Nat×Bs)],POk p:=by
  intro p hp; rw [Ln]at hp; subst hp; exact⟨by dsimp only; decide,by dsimp only; decide,by dsimp only; decide⟩
 rw [L4 (show ¬((elm px).zF !=48)=true by decide),hc,gd O0 O0,L0,wV hp]
 have k0:zM (([((6,Y4):Nat×Bs)].map elm,(0:Int)):List El×Int).1 0=some (elm (6,Y4)):=rfl
 have hcc:(elm (6,Y4)).zd=Y4:=rfl
 rw [L4 O2,L4 O2,k0,L0,L4 (show ¬((elm (6,Y4)).zF !=6)=true by decide),L0,hcc,hD _ (by show Y4.length≤M; have:Y4.length=10:=(by decide); omega),L0,zd2 hB]
 rfl
theorem zbc {n M:Nat} {D:Bs→Bs×Int} (hD:∀c:Bs,c.length≤M→zE n c=some (D c)) {e:El} (he:e.zd.length≤M) (hM:M≤1000000) (hn:M+100≤n):∃x,xQ n e=some x:=by
 unfold xQ
 rw [Gn O0 O0,L0]
 by_cases h1:e.zF≠48
 ·rw [L6 h1]; exact⟨_,rfl⟩
 rw [L4 h1]
 have hb:=uR e.zd he
 generalize tList e.zd=T at hb
 obtain⟨L,y⟩:=T
 simp only []at hb ⊢
 refine yq (fun _=>⟨_,rfl⟩) fun _=> ?_
 have hl:=hb.1
 have n0:=Ba (n:=n) (t:=6) (l:=L) (i:=0) O0
 rw [show((0:Nat):Int)=0 from rfl]at n0
 match L,hb,n0 with
 | [],_,n0=>rw [n0]; exact⟨_,rfl⟩
 | x::r,hb,n0=>
  simp only [List.getElem?_cons_zero]at n0
  by_cases h3:x.zF≠6
  ·rw [L6 (show(0:Int)≤6∧x.zF≠6 from⟨O0,h3⟩)]at n0
   rw [n0]; exact⟨_,rfl⟩
  rw [L4 (show ¬((0:Int)≤6∧x.zF≠6)from fun h=>h3 h.2)]at n0
  rw [n0,L0]
  simp only []
  rw [L4 O1,hD _ (hb.2 x O2),L0]
  refine yq (fun _=>⟨_,rfl⟩) fun _=> ?_
  refine yF (yq (fun _=>⟨_,rfl⟩) fun _=> ?_) fun y _=>yq (fun _=>⟨_,rfl⟩) fun _=>⟨_,rfl⟩
  rw [zcE]; exact⟨_,rfl⟩
theorem rS {n M:Nat} {D:Bs→Bs×Int} (hD:∀c:Bs,c.length≤M→zE n c=some (D c)) (hB:∀s l,xG s=some l→D (qA l)=(s,0)) (hM:100≤M) (hn:M+100≤n):xQ n (elm px)=some 0:=by
 unfold xQ
 have hc:(elm px).zd=wraps [(6,Y4)]:=rfl
 have hw:(wraps [(6,Y4)]).length≤50:=O1
 have hp:∀p∈ [((6,Y4):Nat×Bs)],POk p:=by
  intro p hp; rw [Ln]at hp; subst hp; exact⟨by dsimp only; decide,by dsimp only; decide,by dsimp only; decide⟩
 rw [Gn (by rw [hc]; omega) (by rw [hc]; omega),L0,L4 (show ¬(elm px).zF≠48 by decide),hc,wV hp]
 have n0:=Ba (n:=n) (t:=6) (l:= [((6,Y4):Nat×Bs)].map elm) (i:=0) O2
 rw [show((0:Nat):Int)=0 from rfl]at n0
 have n1:yi n 6 ⟨[((6,Y4):Nat×Bs)].map elm,0⟩=some (elm (6,Y4),0,⟨[((6,Y4):Nat×Bs)].map elm,1⟩):=n0
 have hcc:(elm (6,Y4)).zd=Y4:=rfl
 simp only []
 rw [L4 O1,n1,L0]
 simp only []
 rw [L4 O1,hcc,hD _ (by show Y4.length≤M; have:Y4.length=10:=(by decide); omega),L0,zd2 hB]
 rfl
theorem zfC:∀u:Nat,u≤7→∃x,Uy .u8 1 (wrap .u64 (wrap .i64 (u:Int)))=some x:=by
 intro u hu
 have:=Lg.1 (show((List.range 8).all fun u:Nat=>(Uy .u8 1 (wrap .u64 (wrap .i64 (u:Int)))).isSome)=true by kernel_rfl) u O3
 exact Option.isSome_iff_exists.1 this
theorem zeC:∀u:Nat,u≤7→∃x,Uy .i64 1 (u:Int)=some x∧x≠0:=by
 intro u hu
 have:=Lg.1 (show((List.range 8).all fun u:Nat=>(match Uy .i64 1 (u:Int)with|some x=>decide (x≠0)|none=>false))=true by kernel_rfl) u O3
 cases h:Uy .i64 1 (u:Int)with
 |none=>rw [h]at this; cases this
 |some x=>rw [h]at this; exact⟨x,rfl,by simpa using this⟩
theorem sH {n:Nat} {c:Bs} (hc:c.length≤1000000000):∃r,kD n c=some r:=by
 unfold kD
 match c,hc with
 | [],_=>exact⟨_,rfl⟩
 | t ::s,hc=>
  have k0:yr (t::s) 0=some ((t.toNat:Nat):Int):=rfl
  have k1:ssl (t::s) 1 ((t::s).length:Nat)=some s:=by
   have:=kX (s:=t::s) (i:=1) (j:=(t::s).length) O2 O2
   rw [show((1:Nat):Int)=1 from rfl]at this
   rw [this]; simp
  rw [L4 O2,k0,L0,k1]
  refine yF (yq (fun _=>⟨_,rfl⟩) fun h=> ?_) fun y hy=>yq (fun _=>⟨_,rfl⟩) fun _=> ?_
  ·rw [L3]at h
   rw [L0,L0]
   unfold gy
   obtain⟨x,hx⟩:=zfC t.toNat O0
   refine yF (yq (fun _=>⟨_,rfl⟩) fun _=>yF (yq (fun hs=> ?_) fun _=>⟨_,rfl⟩) fun y _=>⟨_,rfl⟩) fun r _=>⟨_,rfl⟩
   have:0<s.length:=by
    cases s with
    |nil=>exact absurd hs O2
    |cons a s=>simp
   simp only [La]at hc
   refine yF (u9 (by rw [z6 O0]; omega) (by rw [z6 O0]; omega)) fun a _=> ?_
   rw [hx]; exact⟨_,rfl⟩
  ·rw [L0,L0]; exact⟨_,rfl⟩
theorem hU {n:Nat} (s:Bs):kD n (0::s)=some (s,0,0):=by
 unfold kD
 have k0:yr (0::s) 0=some 0:=rfl
 have k1:ssl (0::s) 1 ((0::s).length:Nat)=some s:=by
  have:=kX (s:=0::s) (i:=1) (j:=(0::s).length) O2 O2
  rw [show((1:Nat):Int)=1 from rfl]at this
  rw [this]; simp
 rw [L4 O2,k0,L0,k1,L4 O1]
 rfl
theorem ow {a b:Int} (h:b≠0):∃x,PC a b=some x:=by
 unfold PC
 rw [L4 h]
 exact⟨_,rfl⟩
theorem tz {n:Nat} {c:Bs} (hc:c.length≤1000000000):∃r,wn n c=some r:=by
 unfold wn
 match c,hc with
 | [],_=>exact⟨_,rfl⟩
 | t::s,hc=>
  have k0:yr (t::s) 0=some ((t.toNat:Nat):Int):=rfl
  have k1:ssl (t::s) 1 ((t::s).length:Nat)=some s:=by
   have:=kX (s:=t::s) (i:=1) (j:=(t::s).length) O2 O2
   rw [show((1:Nat):Int)=1 from rfl]at this
   rw [this]; simp
  rw [L4 (by rw [beq_iff_eq,La]; omega),k0,L0,k1]
  refine yF (yq (fun _=>⟨_,rfl⟩) fun h=> ?_) fun y hy=>yq (fun _=>⟨_,rfl⟩) fun _=> ?_
  ·rw [L3]at h
   rw [L0]
   obtain⟨x,hx,hx0⟩:=zeC t.toNat O0
   refine yq (fun _=>yq (fun _=>⟨_,rfl⟩) fun _=> ?_) fun _=>⟨_,rfl⟩
   simp only [La]at hc
   refine yF (u9 (by rw [z6 (by simp only [La]; omega)]; simp only [La]; omega) (by rw [z6 (by simp only [La]; omega)]; omega)) fun a _=> ?_
   rw [L0,hx,L0]
   exact yF (ow hx0) fun b _=>⟨_,rfl⟩
  ·rw [L0,L0]; exact⟨_,rfl⟩
theorem mb {n:Nat} (s:Bs):wn n (0::s)=some (s,0,0):=by
 unfold wn
 have k0:yr (0::s) 0=some 0:=rfl
 have k1:ssl (0::s) 1 ((0::s).length:Nat)=some s:=by
  have:=kX (s:=0::s) (i:=1) (j:=(0::s).length) O2 O2
  rw [show((1:Nat):Int)=1 from rfl]at this
  rw [this]; simp
 rw [L4 (by rw [beq_iff_eq,La]; omega),k0,L0,k1,L4 O1]
 rfl
theorem nE {k:zB} (h:okK k=true) {s:Bs} (hs:s=o8 k.zA.toNat::(k.wj++k.zY)):yr s 0=some k.zA∧ssl s 1 17=some k.wj∧ssl s 17 (s.length:Nat)=some k.zY∧s.length=33:=by
 obtain⟨h1,h2,h3,h4⟩:=Jj.1 h
 have hl:s.length=33:=by rw [hs]; simp [h3,h4]
 refine⟨?_, ?_, ?_,hl⟩
 ·rw [hs]
  show some (((o8 k.zA.toNat).toNat:Nat):Int)=_
  rw [Xc O0]; congr 1; omega
 ·have:=kX (s:=s) (i:=1) (j:=17) O0 O0
  rw [show((1:Nat):Int)=1 from rfl,show((17:Nat):Int)=17 from rfl]at this
  rw [this,hs,List.take_succ_cons,List.drop_succ_cons,Li,←h3,List.take_left]
 ·have:=kX (s:=s) (i:=17) (j:=s.length) O0 O0
  rw [show((17:Nat):Int)=17 from rfl]at this
  rw [this,List.take_length,hs,List.drop_succ_cons,←h3,List.drop_left]
theorem zam {s:Bs} (h:s.length=33):∃a b c,yr s 0=some a∧ssl s 1 17=some b∧ssl s 17 (s.length:Nat)=some c:=by
 obtain⟨a,ha⟩:=u9 (s:=s) (i:=0) O0 O0
 obtain⟨b,hb⟩:=Pz (s:=s) (i:=1) (j:=17) O0 O0 O0
 obtain⟨c,hc⟩:=Pz (s:=s) (i:=17) (j:=(s.length:Nat)) O0 O0 O0
 exact⟨a,b,c,ha,hb,hc⟩
theorem zaI {n M:Nat} {D:Bs→Bs×Int} (hD:∀c:Bs,c.length≤M→yw n c=some (D c)) {b:Bs} (hb:b.length≤M) (hM:M≤1000000) (hn:M+100≤n):∃k e,jQ n b=some (k,e):=by
 have key:∃r,jQ n b=some r:=by
  unfold jQ
  have ho:=Q7 b
  rw [Q9 O0 O0,L0]
  refine yq (fun _=>⟨_,rfl⟩) fun _=>yq (fun _=>⟨_,rfl⟩) fun _=> ?_
  rw [gd O0 O0,L0]
  have hT:=uR (vE b).1.zd (M:=M) O0
  generalize tList (vE b).1.zd=T at hT ⊢
  obtain⟨L,y⟩:=T
  simp only []at hT ⊢
  refine yq (fun _=>⟨_,rfl⟩) fun _=>yq (fun _=>⟨_,rfl⟩) fun h=> ?_
  match L,hT,h with
  | [],_,h=>exact absurd rfl h
  | x ::r,hT,_=>
   have k0:zM (x::r) 0=some x:=by simp [zM]
   obtain⟨a,ha⟩:=za7 hD (hT.2 x O2) hM hn
   unfold jG
   rw [k0,L0,ha]
   simp only [L0]
   refine yq (fun _=>⟨_,rfl⟩) fun _=> ?_
   rw [UI,L0]
   refine yq (fun _=>⟨_,rfl⟩) fun h=> ?_
   match r,hT,h with
   | [],_,h=>exact absurd rfl h
   | z ::s,hT,_=>
    have k1:zM (z::s) 0=some z:=by simp [zM]
    have hz:=hT.2 z O2
    rw [k1,L0]
    refine yF ?_ fun r25 _=>yq (fun _=>⟨_,rfl⟩) fun _=> ?_
    ·unfold kQ
     refine yq (fun _=>⟨_,rfl⟩) fun _=> ?_
     obtain⟨q,hq⟩:=sH (n:=n) (c:=z.zd) O0
     rw [hq,L0]
     refine yq (fun _=>⟨_,rfl⟩) fun _=> ?_
     refine yF (yq (fun _=>⟨_,rfl⟩) fun _=>⟨_,rfl⟩) fun y hy=>yq (fun _=>⟨_,rfl⟩) fun h=> ?_
     have hlen:q.1.length=33:=by
      by_cases c:(q.2.1 !=0)=true
      ·rw [L6 c]at hy; injection hy with hy; exact absurd hy.symm h
      ·rw [L4 c]at hy; injection hy with hy; rw [←hy]at h; rw [bne_iff_ne,ne_eq,Decidable.not_not]at h; omega
     obtain⟨u,v,w,e1,e2,e3⟩:=zam hlen
     rw [e1,L0,e2,L0,e3,L0,rh]
     exact⟨_,rfl⟩
    ·rw [UI,L0]
     exact yq (fun _=>⟨_,rfl⟩) fun _=>⟨_,rfl⟩
 obtain⟨r,hr⟩:=key
 exact⟨r.1,r.2,hr⟩
theorem lg {n M:Nat} {D:Bs→Bs×Int} (hD:∀c:Bs,c.length≤M→yw n c=some (D c)) (hB:∀s l,xG s=some l→D (qA l)=(s,0)) (hM:100≤M) (hn:M+100≤n) {k:zB} (h:okK k=true):jQ n (tWrap (gT k).1 (gT k).2).1=some (k,0):=by
 obtain⟨hp,hw⟩:=WQ k h
 have hk:=PM h
 have hwl:=yc (gT k).1 (gT k).2
 have hc:(gT k).2=wraps (Wq k):=rfl
 unfold jQ
 rw [Q9 (by have:(gT k).2.length≤60:=hw; omega) O0,L0,XD hk.1 hk.2.1 hk.2.2]
 simp only []
 rw [L4 O2,L4 (show ¬(((gT k).1:Int) !=48)=true by show ¬(((48:Nat):Int) !=48)=true; decide),hc,gd O0 O0,L0,wV hp]
 have e0:(Wq k).map elm= [elm px,elm (3,0::o8 k.zA.toNat::(k.wj++k.zY))]:=rfl
 rw [e0]
 simp only []
 have k0:zM [elm px,elm (3,0::o8 k.zA.toNat::(k.wj++k.zY))] 0=some (elm px):=rfl
 rw [L4 O2,L4 O2,k0,L0]
 unfold jG
 rw [rp hD hB hM hn]
 simp only [L0]
 rw [L4 O1,UI,L0,L4 O2]
 have k1:zM [elm (3,0::o8 k.zA.toNat::(k.wj++k.zY))] 0=some (elm (3,0::o8 k.zA.toNat::(k.wj++k.zY))):=rfl
 rw [k1,L0]
 unfold kQ
 have hcc:(elm (3,0::o8 k.zA.toNat::(k.wj++k.zY))).zd=0::o8 k.zA.toNat::(k.wj++k.zY):=rfl
 obtain⟨c1,c2,c3,c4⟩:=nE h (s:=o8 k.zA.toNat::(k.wj++k.zY)) rfl
 obtain⟨g1,g2,_,_⟩:=Jj.1 h
 rw [L4 (show ¬((elm (3,0::o8 k.zA.toNat::(k.wj++k.zY))).zF !=3)=true from by show ¬(((3:Nat):Int) !=3)=true; decide),hcc,hU,L0]
 simp only []
 rw [L4 O1,L4 O1,L0,L4 (by rw [c4]; decide),c1,L0,c2,L0,c3,L0,z6 O0,rh,L6 (show okK ⟨k.zA,k.wj,k.zY⟩=true from h),L0,L0]
 simp only []
 rw [L4 O1,UI,L0]
 rfl
theorem zau {n M:Nat} {D:Bs→Bs×Int} (hD:∀c:Bs,c.length≤M→zE n c=some (D c)) {b:Bs} (hb:b.length≤M) (hM:M≤1000000) (hn:M+100≤n):∃k e,wi n b=some (k,e):=by
 have key:∃r,wi n b=some r:=by
  unfold wi
  have ho:=Q7 b
  rw [Ji O0 O0,L0]
  refine yq (fun _=>⟨_,rfl⟩) fun _=> ?_
  rw [Gn O0 O0,L0]
  have hT:=uR (vE b).1.zd (M:=M) O0
  generalize tList (vE b).1.zd=T at hT ⊢
  obtain⟨L,y⟩:=T
  simp only []at hT ⊢
  refine yq (fun _=>⟨_,rfl⟩) fun h5=> ?_
  by_cases h1:(vE b).1.zF≠48
  ·rw [L6 h1]at h5; exact absurd O1 h5
  rw [L4 h1]
  simp only []
  have hl:=hT.1
  have n0:=Ba (n:=n) (t:= -1) (l:=L) (i:=0) O0
  rw [show((0:Nat):Int)=0 from rfl]at n0
  match L,hT,n0,hl with
  | [],_,n0,_=>rw [n0]; exact⟨_,rfl⟩
  | x ::r,hT,n0,hl=>
   simp only [List.getElem?_cons_zero]at n0
   rw [L4 (show ¬((0:Int)≤ -1∧x.zF≠ -1)from fun h=>absurd h.1 O1)]at n0
   rw [n0,L0]
   simp only []
   obtain⟨a,ha⟩:=zbc hD (hT.2 x O2) hM hn
   rw [L4 O1,ha,L0]
   refine yq (fun _=>⟨_,rfl⟩) fun _=> ?_
   have n1:=Ba (n:=n) (t:=3) (l:=x::r) (i:=0+1) O0
   match r,hT,n1 with
   | [],_,n1=>rw [n1]; exact⟨_,rfl⟩
   | z::s,hT,n1=>
    have hz:=hT.2 z O2
    simp only [Nat.zero_add,List.getElem?_cons_succ,List.getElem?_cons_zero]at n1
    by_cases h3:z.zF≠3
    ·rw [L6 (show(0:Int)≤3∧z.zF≠3 from⟨O0,h3⟩)]at n1
     rw [show((0+1:Nat):Int)=((1:Nat):Int)from rfl,n1]; exact⟨_,rfl⟩
    rw [L4 (show ¬((0:Int)≤3∧z.zF≠3)from fun h=>h3 h.2)]at n1
    rw [show((0+1:Nat):Int)=((1:Nat):Int)from rfl,n1,L0]
    simp only []
    rw [L4 O1]
    obtain⟨q,hq⟩:=tz (n:=n) (c:=z.zd) O0
    rw [hq,L0]
    refine yq (fun _=>⟨_,rfl⟩) fun _=> ?_
    refine yF (yq (fun _=>⟨_,rfl⟩) fun _=>⟨_,rfl⟩) fun y hy=>yq (fun _=>⟨_,rfl⟩) fun h=> ?_
    have hlen:q.1.length=33:=by
     by_cases c:(q.2.1 !=0)=true
     ·rw [L6 c]at hy; injection hy with hy; exact absurd hy.symm h
     ·rw [L4 c]at hy; injection hy with hy; rw [←hy]at h; rw [bne_iff_ne,ne_eq,Decidable.not_not]at h; omega
    obtain⟨u,v,w,e1,e2,e3⟩:=zam hlen
    rw [e1,L0,e2,L0,e3,L0,zbw,L0]
    refine yq (fun _=>⟨_,rfl⟩) fun _=> ?_
    rw [zcE,L0]
    exact yq (fun _=>⟨_,rfl⟩) fun _=>⟨_,rfl⟩
 obtain⟨r,hr⟩:=key
 exact⟨r.1,r.2,hr⟩
theorem mL {n M:Nat} {D:Bs→Bs×Int} (hD:∀c:Bs,c.length≤M→zE n c=some (D c)) (hB:∀s l,xG s=some l→D (qA l)=(s,0)) (hM:100≤M) (hn:M+100≤n) {k:zB} (h:okK k=true):wi n (tWrap (gT k).1 (gT k).2).1=some (k,0):=by
 obtain⟨hp,hw⟩:=WQ k h
 have hk:=PM h
 have hwl:=yc (gT k).1 (gT k).2
 have hc:(gT k).2=wraps (Wq k):=rfl
 unfold wi
 rw [Ji (by have:(gT k).2.length≤60:=hw; omega) O0,L0,XD hk.1 hk.2.1 hk.2.2]
 simp only []
 rw [L4 O2,Gn (by show(wraps (Wq k)).length+5≤n; omega) (by show(wraps (Wq k)).length≤_; omega),L0,L4 (show ¬((gT k).1:Int)≠48 from fun h=>h rfl),hc,wV hp]
 have e0:(Wq k).map elm= [elm px,elm (3,0::o8 k.zA.toNat::(k.wj++k.zY))]:=rfl
 rw [e0]
 simp only []
 have n0:yi n (-1) ⟨[elm px,elm (3,0::o8 k.zA.toNat::(k.wj++k.zY))],0⟩=some (elm px,0,⟨[elm px,elm (3,0::o8 k.zA.toNat::(k.wj++k.zY))],1⟩):=Ba (n:=n) (t:= -1) (l:= [elm px,elm (3,0::o8 k.zA.toNat::(k.wj++k.zY))]) (i:=0) O2
 have n1:yi n 3 ⟨[elm px,elm (3,0::o8 k.zA.toNat::(k.wj++k.zY))],1⟩=some (elm (3,0::o8 k.zA.toNat::(k.wj++k.zY)),0,⟨[elm px,elm (3,0::o8 k.zA.toNat::(k.wj++k.zY))],2⟩):=Ba (n:=n) (t:=3) (l:= [elm px,elm (3,0::o8 k.zA.toNat::(k.wj++k.zY))]) (i:=1) O2
 have hcc:(elm (3,0::o8 k.zA.toNat::(k.wj++k.zY))).zd=0::o8 k.zA.toNat::(k.wj++k.zY):=rfl
 obtain⟨c1,c2,c3,c4⟩:=nE h (s:=o8 k.zA.toNat::(k.wj++k.zY)) rfl
 obtain⟨g1,g2,_,_⟩:=Jj.1 h
 rw [L4 O1,n0,L0]
 simp only []
 rw [L4 O1,rS hD hB hM hn,L0,L4 O1,n1,L0]
 simp only []
 rw [L4 O1,hcc,mb,L0]
 simp only []
 rw [L4 O1,L4 O1,L0,L4 (by rw [c4]; decide),c1,L0,c2,L0,c3,L0,z6 O0,zbw,L6 (show okK ⟨k.zA,k.wj,k.zY⟩=true from h),L0,L4 O1]
 rfl
end Go.Abs
end
