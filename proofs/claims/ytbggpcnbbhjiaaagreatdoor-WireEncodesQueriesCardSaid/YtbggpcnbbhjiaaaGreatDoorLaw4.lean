/- The typed Lean form of WireEncodesQueries gives true for every list of at most 9223372036854775807 numbers and every raw query of at most as many issuers. -/
import Derived.Test.YtbggpcnbbhjiaaaGreatDoorLaw3
set_option linter.unusedVariables false
set_option linter.unusedSimpArgs false
set_option linter.unnecessarySimpa false
section
set_option maxRecDepth 100000
namespace Go.Abs
open Go Go.Proofs
abbrev Att:=zb
def XX (pre:List Att) (a:Att):Int:=
 if(vA a.yS).isSome=false then 11 else if a.wo= []∨po a.zI a.wo=false then 13 else if 64<a.wo.length then 2 else if(pre.any fun b=>b.yS==a.yS)=true then 10 else 0
def be:List Att→List Att→Int
 |_,[]=>0
 |pre,a::r=>if XX pre a≠0 then XX pre a else be (pre ++ [a]) r
def Yj (r:List Att):Int:=if r= []then 14 else if 4<r.length then 2 else be [] r
def gi:List (List Att)→Int
 | []=>0
 |r::l=>if Yj r≠0 then Yj r else gi l
def uz (l:List (List Att)):Int:=if 8<l.length then 2 else gi l
def BdA (B:Nat) (a:Att):Prop:=a.yS.length≤B∧a.wo.length≤B
def BdR (B:Nat) (r:List Att):Prop:=r.length≤B∧∀a∈r,BdA B a
def BdN (B:Nat) (l:List (List Att)):Prop:=l.length≤B∧∀r∈l,BdR B r
theorem Jc {α:Type} {l:List α} {i:Nat} (h:i<l.length):l.take (i+1)=l.take i ++ [l[i]]:=by
 rw [List.take_add_one,List.getElem?_eq_getElem h]; rfl
theorem BZ {n:Nat} (p:List Att) (a:Att) (hp:p.length≤1000000):∀(k j:Nat),j≤p.length→p.length-j<k→xR n p a k (j:Int)=some (if((p.drop j).any fun b=>b.yS==a.yS)=true then .ret 10 else .nxt ())
 |0,j,_,h=>by omega
 | k + 1,j,hj,hk=>by
  rw [xR]
  by_cases hc:j<p.length
  ·rw [L4 (by rw [L1]; omega),z2 hc,Lb hc,List.any_cons]
   simp only [L0]
   by_cases he:(p[j].yS==a.yS)=true
   ·rw [L4 he,he]; rfl
   ·rw [L3 he,w1 (by omega),BZ p a hp k (j+1) (by omega) (by omega)]
    rw [Bool.not_eq_true]at he
    rw [he,Bool.false_or]
  ·rw [L3 (by rw [L1]; omega)]
   have:j=p.length:=by omega
   subst this
   simp
theorem B8 {n B:Nat} (r:List Att) (hb:BdR B r) (hB:B≤1000000) (hn:B+100≤n):∀(k i:Nat),i≤r.length→r.length-i<k→yW (xe n r k (i:Int)) (fun x=>some x) (fun _=>some 0)=some (be (r.take i) (r.drop i))
 |0,i,_,h=>by omega
 | k+1,i,hi,hk=>by
  have hl:=hb.1
  rw [xe]
  by_cases hc:i<r.length
  ·have ha:=hb.2 r[i] (by simp)
   rw [L4 (by rw [L1]; omega),z2 hc,Lb hc,be]
   simp only [L0]
   rw [ZI (by have:=ha.1; omega) (by have:=ha.1; omega),Bx (by have:=ha.2; omega) (by have:=ha.2; omega)]
   simp only [L0]
   unfold XX
   by_cases h1:(vA (r[i]).yS).isSome=false
   ·rw [L4 h1,L4 (by rw [h1]; rfl)]; rfl
   rw [L3 h1,L3 (by simpa using h1)]
   rw [ifb]
   simp only [L0]
   by_cases h2:(r[i]).wo= []∨po (r[i]).zI (r[i]).wo=false
   ·rw [L4 h2,L4 (by simpa using h2)]; rfl
   rw [L3 h2,L3 (by simpa using h2)]
   by_cases h3:64<(r[i]).wo.length
   ·rw [L4 h3,L4 (by rw [L1]; omega)]; rfl
   rw [L3 h3,L3 (by rw [L1]; omega)]
   have hs:lsl r 0 (i:Int)=some (r.take i):=by unfold lsl; rw [L4 ⟨by omega,by omega,by omega⟩]; simp
   rw [hs]
   simp only [L0]
   have h4:=BZ (n:=n) (r.take i) r[i] (by rw [List.length_take]; omega) n 0 (by omega) (by rw [List.length_take]; omega)
   rw [show((0:Nat):Int)=0 from rfl,Lh]at h4
   rw [h4]
   by_cases h5:((r.take i).any fun b=>b.yS==(r[i]).yS)=true
   ·rw [L4 h5,L4 h5]; rfl
   rw [L3 h5,L3 h5]
   rw [L3 (show ¬((0:Int)≠0)by simp)]
   show yW (xe n r k (IntKind.wrap .i64 ((i:Int)+1))) (fun x=>some x) (fun _=>some 0)=_
   rw [w1 (by omega),B8 r hb hB hn k (i+1) (by omega) (by omega),Jc hc]
  ·rw [L3 (by rw [L1]; omega)]
   have:i=r.length:=by omega
   subst this
   simp [yW,be]
theorem si {n B:Nat} {r:List Att} (hb:BdR B r) (hB:B≤1000000) (hn:B+100≤n):ui n r=some (Yj r):=by
 unfold ui Yj
 have hl:=hb.1
 by_cases h1:r= []
 ·subst h1; rfl
 rw [L3 (by simpa using h1),L3 h1]
 by_cases h2:4<r.length
 ·rw [L4 (by rw [L1]; omega),L4 h2]
 rw [L3 (by rw [L1]; omega),L3 h2]
 have:=B8 (n:=n) r hb hB hn n 0 (by omega) (by omega)
 rw [show((0:Nat):Int)=0 from rfl,Lh,List.take_zero]at this
 exact this
theorem Km {n B:Nat} (l:List (List Att)) (hb:BdN B l) (hB:B≤1000000) (hn:B+100≤n):∀(k i:Nat),i≤l.length→l.length-i<k→yW (un n ⟨l⟩ k (i:Int)) (fun x=>some x) (fun _=>some 0)=some (gi (l.drop i))
 |0,i,_,h=>by omega
 | k + 1,i,hi,hk=>by
  have hl:=hb.1
  rw [un]
  by_cases hc:i<l.length
  ·rw [L4 (by rw [L1]; show(i:Int)<(l.length:Int); omega)]
   simp only [z2 hc,L0]
   rw [Lb hc,gi,si (hb.2 l[i] (by simp)) hB hn]
   simp only [L0]
   by_cases h1:Yj l[i]≠0
   ·rw [L4 h1,L4 (by simpa using h1)]; rfl
   ·rw [L3 h1,L3 (by simpa using h1),w1 (by omega)]
    exact Km l hb hB hn k (i+1) (by omega) (by omega)
  ·rw [L3 (by rw [L1]; show ¬(i:Int)<(l.length:Int); omega)]
   have:i=l.length:=by omega
   subst this
   simp [yW,gi]
theorem UM {n B:Nat} {l:List (List Att)} (hb:BdN B l) (hB:B≤1000000) (hn:B+100≤n):ut n ⟨l⟩=some (uz l):=by
 unfold ut uz
 have hl:=hb.1
 by_cases h2:8<l.length
 ·rw [L4 (by rw [L1]; show((l.length:Int)>8); omega),L4 h2]
 rw [L3 (by rw [L1]; show ¬((l.length:Int)>8); omega),L3 h2]
 have:=Km (n:=n) l hb hB hn n 0 (by omega) (by omega)
 rw [show((0:Nat):Int)=0 from rfl,Lh]at this
 exact this
theorem BU {n:Nat} (r:List Att) (a:Att) (hr:r.length≤1000000) (i:Nat) (hi:i≤r.length):∀(k j:Nat),j≤i→i-j<k→yh n (i:Int) r a k (j:Int)=some (if(((r.take i).drop j).any fun b=>b.yS==a.yS)=true then .ret 10 else .nxt ())
 |0,j,_,h=>by omega
 | k + 1,j,hj,hk=>by
  rw [yh]
  by_cases hc:j<i
  ·have hc':j<(r.take i).length:=by rw [List.length_take]; omega
   have hg:(r.take i)[j]=r[j]:=by simp
   rw [L4 (by rw [L1]; omega),z2 (by omega),Lb hc',List.any_cons,hg]
   simp only [L0]
   by_cases he:(r[j].yS==a.yS)=true
   ·rw [L4 he,he]; rfl
   ·rw [L3 he,w1 (by omega),BU r a hr i hi k (j+1) (by omega) (by omega)]
    rw [Bool.not_eq_true]at he
    rw [he,Bool.false_or]
  ·rw [L3 (by rw [L1]; omega)]
   have:j=i:=by omega
   subst this
   rw [Lc (by rw [List.length_take]; omega)]
   rfl
theorem Gp {n B:Nat} (r:List Att) (hb:BdR B r) (hB:B≤1000000) (hn:B+100≤n):∀(k i:Nat),i≤r.length→r.length-i<k→yW (zY n r k (i:Int)) (fun x=>some x) (fun _=>some 0)=some (be (r.take i) (r.drop i))
 |0,i,_,h=>by omega
 | k+1,i,hi,hk=>by
  have hl:=hb.1
  rw [zY]
  by_cases hc:i<r.length
  ·have ha:=hb.2 r[i] (by simp)
   rw [L4 (by rw [L1]; omega),z2 hc,Lb hc,be]
   simp only [L0]
   rw [Yh (by have:=ha.1; omega) (by have:=ha.1; omega),U8 (by have:=ha.2; omega) (by have:=ha.2; omega)]
   simp only [L0]
   unfold XX
   by_cases h1:(vA (r[i]).yS).isSome=false
   ·rw [L4 h1,L4 (by rw [h1]; rfl)]; rfl
   rw [L3 h1,L3 (by simpa using h1)]
   rw [ifb]
   simp only [L0]
   by_cases h2:(r[i]).wo= []∨po (r[i]).zI (r[i]).wo=false
   ·rw [L4 h2,L4 (by simpa using h2)]; rfl
   rw [L3 h2,L3 (by simpa using h2)]
   by_cases h3:64<(r[i]).wo.length
   ·rw [L4 h3,L4 (by rw [L1]; omega)]; rfl
   rw [L3 h3,L3 (by rw [L1]; omega)]
   have h4:=BU (n:=n) r r[i] (by omega) i (by omega) n 0 (by omega) (by omega)
   rw [show((0:Nat):Int)=0 from rfl,Lh]at h4
   rw [h4]
   by_cases h5:((r.take i).any fun b=>b.yS==(r[i]).yS)=true
   ·rw [L4 h5,L4 h5]; rfl
   rw [L3 h5,L3 h5]
   rw [L3 (show ¬((0:Int)≠0)by simp)]
   show yW (zY n r k (IntKind.wrap .i64 ((i:Int)+1))) (fun x=>some x) (fun _=>some 0)=_
   rw [w1 (by omega),Gp r hb hB hn k (i+1) (by omega) (by omega),Jc hc]
  ·rw [L3 (by rw [L1]; omega)]
   have:i=r.length:=by omega
   subst this
   simp [yW,be]
theorem rK {n B:Nat} {r:List Att} (hb:BdR B r) (hB:B≤1000000) (hn:B+100≤n):xY n r=some (be [] r):=by
 unfold xY
 have hl:=hb.1
 have:=Gp (n:=n) r hb hB hn n 0 (by omega) (by omega)
 rw [show((0:Nat):Int)=0 from rfl,Lh,List.take_zero]at this
 exact this
theorem QI {n B:Nat} (l:List (List Att)) (hb:BdN B l) (hB:B≤1000000) (hn:B+100≤n):∀(k i:Nat),i≤l.length→l.length-i<k→yW (yV n ⟨l⟩ k (i:Int)) (fun x=>some x) (fun _=>some 0)=some (gi (l.drop i))
 |0,i,_,h=>by omega
 | k + 1,i,hi,hk=>by
  have hl:=hb.1
  rw [yV]
  by_cases hc:i<l.length
  ·rw [L4 (by rw [L1]; show(i:Int)<(l.length:Int); omega)]
   simp only [z2 hc,L0]
   rw [Lb hc,gi,rK (hb.2 l[i] (by simp)) hB hn]
   simp only [L0]
   unfold Yj
   by_cases h0:l[i]= []
   ·rw [L4 (by rw [h0]; rfl),L4 h0,L4 (by decide)]; rfl
   rw [L3 (by simpa using h0),L3 h0]
   by_cases h4:4<(l[i]).length
   ·rw [L4 (by rw [L1]; omega),L4 h4,L4 (by decide)]; rfl
   rw [L3 (by rw [L1]; omega),L3 h4]
   by_cases h1:be [] l[i]≠0
   ·rw [L4 h1,L4 (by simpa using h1)]; rfl
   ·rw [L3 h1,L3 (by simpa using h1),w1 (by omega)]
    exact QI l hb hB hn k (i+1) (by omega) (by omega)
  ·rw [L3 (by rw [L1]; show ¬(i:Int)<(l.length:Int); omega)]
   have:i=l.length:=by omega
   subst this
   simp [yW,gi]
theorem DQ {n B:Nat} {l:List (List Att)} (hb:BdN B l) (hB:B≤1000000) (hn:B+100≤n):yz n ⟨l⟩=some (uz l):=by
 unfold yz uz
 have hl:=hb.1
 by_cases h2:8<l.length
 ·rw [L4 (by rw [L1]; show((l.length:Int)>8); omega),L4 h2]
 rw [L3 (by rw [L1]; show ¬((l.length:Int)>8); omega),L3 h2]
 have:=QI (n:=n) l hb hB hn n 0 (by omega) (by omega)
 rw [show((0:Nat):Int)=0 from rfl,Lh]at this
 exact this
def okA (a:Att):Prop:=(vA a.yS).isSome=true∧a.wo≠ []∧po a.zI a.wo=true∧a.wo.length≤64
def okR (r:List Att):Prop:=r≠ []∧r.length≤4∧(∀a∈r,okA a)∧r.Pairwise fun a b=>a.yS≠b.yS
def okN (l:List (List Att)):Prop:=l.length≤8∧∀r∈l,okR r
theorem Gb {pre:List Att} {a:Att}:XX pre a=0↔okA a∧∀b∈pre,b.yS≠a.yS:=by
 unfold XX okA
 constructor
 ·intro h
  split at h
  ·simp at h
  rename_i h1
  split at h
  ·simp at h
  rename_i h2
  split at h
  ·simp at h
  rename_i h3
  split at h
  ·simp at h
  rename_i h4
  refine⟨⟨by cases hq:(vA a.yS).isSome with|true=>rfl|false=>exact absurd hq h1,fun e=>h2 (.inl e), ?_,by omega⟩,fun b hb e=>h4 (by rw [List.any_eq_true]; exact⟨b,hb,by simpa using e⟩)⟩
  cases hq:po a.zI a.wo with
  |true=>rfl
  |false=>exact absurd (Or.inr hq) h2
 ·rintro⟨⟨h1,h2,h3,h4⟩,h5⟩
  rw [L3 (by rw [h1]; simp),L3 (by rintro(h|h); exact h2 h; rw [h3]at h; simp at h),L3 (by omega),L3]
  intro h
  obtain⟨b,hb,e⟩:=List.any_eq_true.1 h
  exact h5 b hb (by simpa using e)
theorem Q7:∀ {r pre:List Att},be pre r=0↔(∀a∈r,okA a)∧(r.Pairwise fun a b=>a.yS≠b.yS)∧∀b∈pre,∀a∈r,b.yS≠a.yS
 | [],pre=>by simp [be]
 | a ::r,pre=>by
  rw [be]
  by_cases h:XX pre a=0
  ·rw [L3 (by simpa using h),Q7,List.pairwise_cons]
   rw [Gb]at h
   constructor
   ·rintro⟨h1,h2,h3⟩
    refine⟨fun x hx=> ?_,⟨fun x hx=>h3 a (by simp) x hx,h2⟩,fun b hb x hx=> ?_⟩
    ·rcases Lo.1 hx with rfl|hx
     ·exact h.1
     ·exact h1 x hx
    ·rcases Lo.1 hx with rfl|hx
     ·exact h.2 b hb
     ·exact h3 b (by simp [hb]) x hx
   ·rintro⟨h1,⟨h2,h3⟩,h4⟩
    refine⟨fun x hx=>h1 x (by simp [hx]),h3,fun b hb x hx=> ?_⟩
    rcases Ln.1 hb with hb|hb
    ·exact h4 b hb x (by simp [hx])
    ·rw [Lm]at hb; subst hb; exact h2 x hx
  ·rw [L4 h]
   constructor
   ·intro e; exact absurd e h
   ·rintro⟨h1,_,h4⟩
    exact absurd (Gb.2 ⟨h1 a (by simp),fun b hb=>h4 b hb a (by simp)⟩) h
theorem B0 {r:List Att}:Yj r=0↔okR r:=by
 unfold Yj okR
 by_cases h1:r= []
 ·rw [L4 h1]; simp [h1]
 rw [L3 h1]
 by_cases h2:4<r.length
 ·rw [L4 h2]; constructor
  ·intro h; simp at h
  ·rintro⟨_,h,_⟩; omega
 rw [L3 h2,Q7]
 constructor
 ·rintro⟨a,b,_⟩; exact⟨h1,by omega,a,b⟩
 ·rintro⟨_,_,a,b⟩; exact⟨a,b,by simp⟩
theorem Kq:∀ {l:List (List Att)},gi l=0↔∀r∈l,okR r
 | []=>by simp [gi]
 | r::l=>by
  rw [gi]
  by_cases h:Yj r=0
  ·rw [L3 (by simpa using h),Kq]
   rw [B0]at h
   simp [h]
  ·rw [L4 h]
   constructor
   ·intro e; exact absurd e h
   ·intro e; exact absurd (B0.2 (e r (by simp))) h
theorem kJ {l:List (List Att)}:uz l=0↔okN l:=by
 unfold uz okN
 by_cases h:8<l.length
 ·rw [L4 h]; constructor
  ·intro h; simp at h
  ·rintro⟨h,_⟩; omega
 ·rw [L3 h,Kq]
  exact⟨fun e=>⟨by omega,e⟩,fun e=>e.2⟩
def Wi (a:Att):List (Nat×Bs):= [polE a.yS,(a.zI.toNat,a.wo)]
def Dy (a:Att):Nat×Bs:=(48,wraps (Wi a))
def Xk (a:Att):Bs:=(tWrap 48 (wraps (Wi a))).1
def Z0 (r:List Att):List Att:=r.mergeSort fun a b=>leB (Xk a) (Xk b)
def dh (r:List Att):Nat×Bs:=(49,wraps ((Z0 r).map Dy))
def jl (l:List (List Att)):Nat×Bs:=(48,wraps (l.map dh))
theorem Qu (r:List Att):List.Perm (Z0 r) r:=List.mergeSort_perm r _
theorem UP (r:List Att):wraps (r.map Dy)=(r.map Xk).flatten:=by
 unfold wraps; rw [List.map_map]; rfl
theorem Bc (r:List Att):(Z0 r).map Xk=dm (r.map Xk):=List.map_mergeSort (fun _ _ _ _=>rfl)
theorem VA (r:List Att):(dm (r.map Xk)).flatten=wraps ((Z0 r).map Dy):=by
 rw [UP,Bc]
theorem VF {k:Int} {s:Bs} (h:po k s=true):k=12∨k=19∨k=22:=by
 unfold po at h
 by_cases h1:k=12
 ·exact .inl h1
 by_cases h2:k=19
 ·exact .inr (.inl h2)
 by_cases h3:k=22
 ·exact .inr (.inr h3)
 rw [L3 h1,L3 h2,L3 h3]at h; simp at h
theorem Wm {a:Att} (h:okA a):(∀p∈Wi a,POk p)∧(wraps (Wi a)).length≤129∧∃l,vA a.yS=some l∧(pz l).length≤55:=by
 obtain⟨h1,h2,h3,h4⟩:=h
 obtain⟨l,hl⟩:=Option.isSome_iff_exists.1 h1
 have e1:=gn (kf hl)
 have hp:polE a.yS=(6,pz l):=by unfold polE; rw [hl]; rfl
 have w1:=ym 6 (pz l)
 have w2:=ym a.zI.toNat a.wo
 refine⟨?_, ?_,l,hl,e1⟩
 ·intro p hpm
  simp only [Wi,Lo,List.not_mem_nil,or_false]at hpm
  rcases hpm with rfl|rfl
  ·rw [hp]; exact⟨by simp,by simp,by simp only; omega⟩
  ·rcases VF h3 with e|e|e<;>rw [e]<;>exact⟨by dsimp only; decide,by dsimp only; decide,by dsimp only; omega⟩
 ·simp only [Wi,wraps,Ld,List.map_nil,List.flatten_cons,List.flatten_nil,Lj,L6,hp]
  omega
theorem Q9 {a:Att} (h:okA a):(Xk a).length≤134:=by
 have:=(Wm h).2.1
 have:=ym 48 (wraps (Wi a))
 unfold Xk; omega
theorem WP {α:Type} (f:α→Bs) (M:Nat):∀(l:List α),(∀x∈l,(f x).length≤M)→((l.map f).flatten).length≤M*l.length
 | [],_=>by simp
 | a::l,h=>by
  have:=WP f M l (fun x hx=>h x (by simp [hx]))
  have:=h a (by simp)
  simp only [Ld,List.flatten_cons,L6,L9,Nat.mul_add,Nat.mul_one]; omega
theorem Un {r:List Att} (h:okR r):okR (Z0 r):=by
 obtain⟨h1,h2,h3,h4⟩:=h
 have hp:=Qu r
 refine⟨fun e=>h1 ?_,by rw [hp.length_eq]; exact h2,fun a ha=>h3 a (hp.mem_iff.1 ha),(hp.pairwise_iff (fun h=>Ne.symm h)).2 h4⟩
 rw [e]at hp; exact List.nil_perm.1 hp
theorem YN {r:List Att} (h:okR r):(dh r).2.length≤536:=by
 have h':=Un h
 unfold dh
 simp only
 rw [UP]
 have:=WP Xk 134 (Z0 r) (fun a ha=>Q9 (h'.2.2.1 a ha))
 have:=h'.2.1
 omega
theorem gM {l:List (List Att)} (h:okN l):(jl l).2.length≤4328:=by
 have:=WP (fun r=>(tWrap (dh r).1 (dh r).2).1) 541 l (fun r hr=>by have:=YN (h.2 r hr); have:=ym (dh r).1 (dh r).2; omega)
 unfold jl wraps
 simp only
 rw [List.map_map]
 have:=h.1
 have e:(List.map ((fun p=>(tWrap p.1 p.2).1)∘dh) l)=l.map (fun r=>(tWrap (dh r).1 (dh r).2).1):=rfl
 rw [e]; omega
theorem j3 {t:Nat} {c:Bs} (h:c.length≤131072):tWrap t c=((tWrap t c).1,0):=by unfold tWrap; rw [L4 h]
theorem eC {n B:Nat} {a:Att} (h:okA a) (hb:BdA B a) (hB:B≤1000000) (hn:B+100≤n):vC n a=some (Xk a,0):=by
 obtain⟨hp,hw,l,hl,he⟩:=Wm h
 unfold vC
 have hb1:=hb.1
 have hb2:=hb.2
 rw [XS (by omega) (by omega) hl]
 simp only [L0]
 rw [L3 (by decide),show(6:Int)=((6:Nat):Int)from rfl,WH (by omega) (by omega) (by omega) (by omega),j3 (t:=6) (by omega)]
 simp only [L0]
 rw [L3 (by decide)]
 have hk:a.zI=((a.zI.toNat:Nat):Int):=by rcases VF h.2.2.1 with e|e|e<;>rw [e]<;>rfl
 rw [hk,WH (by rcases VF h.2.2.1 with e|e|e<;>rw [e]<;>decide) (by rcases VF h.2.2.1 with e|e|e<;>rw [e]<;>decide) (by omega) (by omega),j3 (t:=a.zI.toNat) (by have:=h.2.2.2; omega)]
 simp only [L0]
 rw [L3 (by decide),show(48:Int)=((48:Nat):Int)from rfl]
 have hpe:polE a.yS=(6,pz l):=by unfold polE; rw [hl]; rfl
 have hf:([(tWrap 6 (pz l)).1,(tWrap a.zI.toNat a.wo).1]:List Bs).flatten=wraps (Wi a):=by
  simp only [Wi,wraps,Ld,List.map_nil,hpe]
 have t1:=ym 6 (pz l)
 have t2:=ym a.zI.toNat a.wo
 rw [YQ (by omega) (by omega) (by intro c hc; simp only [Lo,List.not_mem_nil,or_false]at hc; rcases hc with rfl|rfl<;>omega) (by simp only [L9,Ll]; omega) (by simp),hf,j3 (t:=48) (by omega)]
 rfl
theorem B9 {n B:Nat} (r:List Att) (h:∀a∈r,okA a) (hb:BdR B r) (hB:B≤1000000) (hn:B+100≤n):∀(k i:Nat) (acc:List Bs),i≤r.length→r.length-i<k→acc.length=i→vL n r k acc (i:Int)=some (.nxt (acc++(r.drop i).map Xk))
 |0,i,_,_,h,_=>by omega
 | k+1,i,acc,hi,hk,ha=>by
  have hl:=hb.1
  rw [vL]
  by_cases hc:i<r.length
  ·rw [L4 (by rw [L1]; omega),z2 hc]
   simp only [L0]
   rw [eC (h r[i] (by simp)) (hb.2 r[i] (by simp)) hB hn]
   simp only [L0]
   rw [L3 (by decide),w8 (by simp only [L8]; omega)]
   simp only [L0]
   rw [w1 (by omega),B9 r h hb hB hn k (i+1) _ (by omega) (by omega) (by simp [ha]),Lb hc,Ld,Lp,List.singleton_append]
  ·rw [L3 (by rw [L1]; omega)]
   have:i=r.length:=by omega
   subst this
   simp
theorem ff {n:Nat} {l:List Bs} (h1:l.length≤1000000) (h2:l.flatten.length≤1000000000):gu n l=some (dm l).flatten:=by
 unfold gu
 have o0:VG 16 l=some l:=by unfold VG; rw [L4 (by omega)]
 rw [o0]
 simp only [L0]
 have hs:WN n l.length l=some (dm l):=by
  unfold WN; rw [L4 ⟨rfl,by omega⟩,←YU]; rfl
 rw [hs]
 simp only [L0]
 have hj:YK n l.length [] (dm l)=some ((dm l).flatten,dm l):=by
  unfold YK
  rw [WS,L4 ⟨Xa l,by rw [XP]; omega,by rw [Xa]; omega⟩]
 rw [hj]; rfl
theorem Jo {r:List Att} (h:okR r):(r.map Xk).flatten.length≤536:=by
 have:=WP Xk 134 r (fun a ha=>Q9 (h.2.2.1 a ha))
 have:=h.2.1
 omega
theorem Gr {n B:Nat} (l:List (List Att)) (h:okN l) (hb:BdN B l) (hB:B≤1000000) (hn:B+100≤n):∀(k i:Nat) (acc:List Bs),i≤l.length→l.length-i<k→acc.length=i→vM n ⟨l⟩ k acc (i:Int)=some (.nxt (acc++(l.drop i).map fun r=>(tWrap (dh r).1 (dh r).2).1))
 |0,i,_,_,h,_=>by omega
 | k+1,i,acc,hi,hk,ha=>by
  have hl:=hb.1
  rw [vM]
  by_cases hc:i<l.length
  ·have hr:=h.2 l[i] (by simp)
   have hbr:=hb.2 l[i] (by simp)
   rw [L4 (by rw [L1]; show(i:Int)<(l.length:Int); omega)]
   simp only [z2 hc,L0]
   have e2:=B9 (n:=n) l[i] hr.2.2.1 hbr hB hn n 0 [] (by omega) (by have:=hbr.1; omega) rfl
   rw [show((0:Nat):Int)=0 from rfl,Lh,Li]at e2
   rw [e2]
   simp only [yW]
   rw [ff (by rw [La]; have:=hr.2.1; omega) (by have:=Jo hr; omega),VA]
   simp only [L0]
   have hlen:=YN hr
   rw [show(49:Int)=((49:Nat):Int)from rfl,WH (by omega) (by omega) (by simp only [dh]at hlen; omega) (by omega),j3 (t:=49) (by simp only [dh]at hlen; omega)]
   simp only [L0]
   rw [L3 (by decide),w8 (by simp only [L8]; omega)]
   simp only [L0]
   rw [w1 (by omega),Gr l h hb hB hn k (i+1) _ (by omega) (by omega) (by simp [ha]),Lb hc,Ld,Lp,List.singleton_append]
   rfl
  ·rw [L3 (by rw [L1]; show ¬(i:Int)<(l.length:Int); omega)]
   have:i=l.length:=by omega
   subst this
   simp
def Yx (l:List (List Att)):Bs×Int:=if uz l≠0 then([],uz l)else((tWrap 48 (jl l).2).1,0)
theorem Jj {n B:Nat} {l:List (List Att)} (hb:BdN B l) (hB:B≤1000000) (hn:B+100≤n):jZ n ⟨l⟩=some (Yx l):=by
 unfold jZ Yx
 have hl:=hb.1
 rw [UM hb hB hn]
 simp only [L0]
 by_cases h:uz l≠0
 ·rw [L4 h,L4 (by simpa using h)]
 rw [L3 h,L3 (by simpa using h)]
 have ho:okN l:=kJ.1 (by simpa using h)
 have e1:=Gr (n:=n) l ho hb hB hn n 0 [] (by omega) (by omega) rfl
 rw [show((0:Nat):Int)=0 from rfl,Lh,Li]at e1
 rw [e1]
 simp only [yW]
 have hlen:=gM ho
 have hf:(l.map fun r=>(tWrap (dh r).1 (dh r).2).1).flatten=(jl l).2:=by
  unfold jl wraps; simp only; rw [List.map_map]; rfl
 rw [show(48:Int)=((48:Nat):Int)from rfl,YQ (by omega) (by omega) ?_ (by rw [La]; have:=ho.1; omega) (by rw [La]; omega),hf,j3 (t:=48) (by omega)]
 ·rfl
 ·intro c hc
  obtain⟨r,hr,rfl⟩:=Lg.1 hc
  have:=YN (ho.2 r hr)
  have:=ym (dh r).1 (dh r).2
  omega
theorem KY {n t:Nat} {cs:List Bs} (h1:t≤255) (h2:t%32≠31) (hc:cs.flatten.length≤1000000000000) (hn:cs.length<n) (hl:cs.length≤1000):zE n (t:Int) cs=some (tWrap t cs.flatten).1:=by
 unfold zE
 rw [pC h1 h2 hc hn (by omega)]; rfl
theorem eH {n B:Nat} {a:Att} (h:okA a) (hb:BdA B a) (hB:B≤1000000) (hn:B+100≤n):((wJ n a.yS).bind fun r66=>
  (zE n a.zI ([a.wo]:List (List UInt8))).bind fun r67=>
  zE n 48 ([r66,r67]:List (List UInt8)))=some (Xk a):=by
 obtain⟨hp,hw,l,hl,he⟩:=Wm h
 have hb1:=hb.1
 have hb2:=hb.2
 have hpe:polE a.yS=(6,pz l):=by unfold polE; rw [hl]; rfl
 rw [ou (by omega) (by omega) (by rw [hl]; rfl),hpe]
 simp only [L0]
 have hk:a.zI=((a.zI.toNat:Nat):Int):=by rcases VF h.2.2.1 with e|e|e<;>rw [e]<;>rfl
 rw [hk,Yt (by rcases VF h.2.2.1 with e|e|e<;>rw [e]<;>decide) (by rcases VF h.2.2.1 with e|e|e<;>rw [e]<;>decide) (by omega) (by omega)]
 simp only [L0]
 have hf:([(tWrap 6 (pz l)).1,(tWrap a.zI.toNat a.wo).1]:List Bs).flatten=wraps (Wi a):=by
  simp only [Wi,wraps,Ld,List.map_nil,hpe]
 rw [show(48:Int)=((48:Nat):Int)from rfl,KY (by omega) (by omega) (by rw [hf]; omega) (by simp only [L9,Ll]; omega) (by simp),hf]
 rfl
theorem WD {n B:Nat} (r:List Att) (h:∀a∈r,okA a) (hb:BdR B r) (hB:B≤1000000) (hn:B+100≤n):∀(k i:Nat) (acc:List Bs),i≤r.length→r.length-i<k→acc.length=i→yN n r k acc (i:Int)=some (acc++(r.drop i).map Xk)
 |0,i,_,_,h,_=>by omega
 | k+1,i,acc,hi,hk,ha=>by
  have hl:=hb.1
  rw [yN]
  by_cases hc:i<r.length
  ·rw [L4 (by rw [L1]; omega),z2 hc]
   simp only [L0]
   have e:=eH (h r[i] (by simp)) (hb.2 r[i] (by simp)) hB hn
   rw [Option.bind_eq_some_iff]at e
   obtain⟨x,e1,e⟩:=e
   rw [Option.bind_eq_some_iff]at e
   obtain⟨y,e2,e3⟩:=e
   rw [e1,L0,e2,L0,e3,L0]
   rw [w8 (by simp only [L8]; omega)]
   simp only [L0]
   rw [w1 (by omega),WD r h hb hB hn k (i+1) _ (by omega) (by omega) (by simp [ha]),Lb hc,Ld,Lp,List.singleton_append]
  ·rw [L3 (by rw [L1]; omega)]
   have:i=r.length:=by omega
   subst this
   simp
theorem Dp {n B:Nat} {r:List Att} (h:∀a∈r,okA a) (hb:BdR B r) (hB:B≤1000000) (hn:B+100≤n):w3 n r=some (r.map Xk):=by
 unfold w3
 have:=WD (n:=n) r h hb hB hn n 0 [] (by omega) (by have:=hb.1; omega) rfl
 rw [show((0:Nat):Int)=0 from rfl,Lh,Li]at this
 rw [this]; rfl
theorem Kg {n B:Nat} (l:List (List Att)) (h:okN l) (hb:BdN B l) (hB:B≤1000000) (hn:B+100≤n):∀(k i:Nat) (acc:Bs),i≤l.length→l.length-i<k→acc.length≤541*i→yL n ⟨l⟩ k acc (i:Int)=some (acc++wraps ((l.drop i).map dh))
 |0,i,_,_,h,_=>by omega
 | k+1,i,acc,hi,hk,ha=>by
  have hl:=hb.1
  rw [yL]
  by_cases hc:i<l.length
  ·have hr:=h.2 l[i] (by simp)
   have hbr:=hb.2 l[i] (by simp)
   rw [L4 (by rw [L1]; show(i:Int)<(l.length:Int); omega)]
   simp only [z2 hc,L0]
   rw [Dp hr.2.2.1 hbr hB hn]
   simp only [L0]
   have:=hr.2.1
   rw [DA (by rw [La]; omega) (by have:=Jo hr; omega) (by rw [La]; omega),VA]
   simp only [L0]
   have hlen:=YN hr
   have hw:=ym (dh l[i]).1 (dh l[i]).2
   have h8:=h.1
   rw [show(49:Int)=((49:Nat):Int)from rfl,Yt (by omega) (by omega) (by simp only [dh]at hlen; omega) (by omega)]
   simp only [L0]
   have e:(tWrap 49 (wraps ((Z0 l[i]).map Dy))).1=(tWrap (dh l[i]).1 (dh l[i]).2).1:=rfl
   rw [e,xh (by omega)]
   simp only [L0]
   rw [w1 (by omega),Kg l h hb hB hn k (i+1) _ (by omega) (by omega) (by rw [L6]; omega),Lb hc,Ld,qm,Lp]
  ·rw [L3 (by rw [L1]; show ¬(i:Int)<(l.length:Int); omega)]
   have:i=l.length:=by omega
   subst this
   simp [wraps]
theorem VC {n B:Nat} {l:List (List Att)} (hb:BdN B l) (hB:B≤1000000) (hn:B+100≤n):yK n ⟨l⟩=some (Yx l):=by
 unfold yK Yx
 have hl:=hb.1
 rw [DQ hb hB hn]
 simp only [L0]
 by_cases h:uz l≠0
 ·rw [L4 h,L4 (by simpa using h)]
 rw [L3 h,L3 (by simpa using h)]
 have ho:okN l:=kJ.1 (by simpa using h)
 have e1:=Kg (n:=n) l ho hb hB hn n 0 [] (by omega) (by omega) (by simp)
 rw [show((0:Nat):Int)=0 from rfl,Lh,Li]at e1
 rw [e1]
 simp only [L0]
 have hlen:=gM ho
 rw [show(48:Int)=((48:Nat):Int)from rfl,Yt (by omega) (by omega) (by simp only [jl]at hlen; omega) (by omega)]
 rfl
def okK (k:zB):Bool:= !(decide (k.zA<0)||(decide (k.zA>8)||((k.wm.length:Int) !=16||(k.zT.length:Int) !=16)))
theorem JU {k:zB}:okK k=true↔0≤k.zA∧k.zA≤8∧k.wm.length=16∧k.zT.length=16:=by
 unfold okK
 simp only [Bool.not_eq_true',Bool.or_eq_false_iff,decide_eq_false_iff_not,bne_eq_false_iff_eq]
 omega
theorem eh {n:Nat} {k:zB}:jp n k=some (if okK k=true then 0 else 18):=by
 unfold jp okK
 simp only [dro,L0]
 cases(decide (k.zA<0)||(decide (k.zA>8)||((k.wm.length:Int) !=16||(k.zT.length:Int) !=16)))<;>rfl
theorem ol {n:Nat} {k:zB}:xO n k=some (if okK k=true then 0 else 18):=by
 unfold xO okK
 simp only [dro,L0]
 cases(decide (k.zA<0)||(decide (k.zA>8)||((k.wm.length:Int) !=16||(k.zT.length:Int) !=16)))<;>rfl
def se:Bs:= [43,6,1,4,1,131,204,8,1,1]
def YC:Nat×Bs:=(48,wraps [(6,se)])
def WI (k:zB):List (Nat×Bs):= [YC,(3,0::o8 k.zA.toNat::(k.wm++k.zT))]
def Y1 (k:zB):Nat×Bs:=(48,wraps (WI k))
theorem re {n:Nat} (hn:100≤n):qf n=some (tWrap YC.1 YC.2).1:=by
 obtain⟨m,rfl⟩:∃m,n=m+100:=⟨n-100,by omega⟩
 kernel_rfl
theorem rv {n:Nat} (hn:100≤n):ub n=some (tWrap YC.1 YC.2).1:=by
 obtain⟨m,rfl⟩:∃m,n=m+100:=⟨n-100,by omega⟩
 kernel_rfl
abbrev eS (l:List (List Att)):List (List Att):=l.map Z0
theorem UN {l:List (List Att)} (h:okN l):okN (eS l):=by
 refine⟨by rw [La]; exact h.1,fun r hr=> ?_⟩
 obtain⟨q,hq,rfl⟩:=Lg.1 hr
 exact Un (h.2 q hq)
theorem cK {a:Att} (h:okA a):POk (Dy a):=
 ⟨by show(48:Nat)≤255; omega,by show(48:Nat)%32≠31; omega,by have:=(Wm h).2.1; show(wraps (Wi a)).length≤_; omega⟩
theorem eN {r:List Att} (h:okR r):POk (dh r):=
 ⟨by show(49:Nat)≤255; omega,by show(49:Nat)%32≠31; omega,by have:=YN h; omega⟩
theorem QF {l:List (List Att)} (h:okN l):POk (jl l):=
 ⟨by show(48:Nat)≤255; omega,by show(48:Nat)%32≠31; omega,by have:=gM h; omega⟩
theorem lf {a:Att} (h:okA a):BdA 252 a:=⟨DM h.1,by have:=h.2.2.2; omega⟩
theorem fO {r:List Att} (h:okR r):BdR 252 r:=⟨by have:=h.2.1; omega,fun a ha=>lf (h.2.2.1 a ha)⟩
theorem DP {l:List (List Att)} (h:okN l):BdN 252 l:=⟨by have:=h.1; omega,fun r hr=>fO (h.2 r hr)⟩
theorem BdA.mono {A B:Nat} {a:Att} (hAB:A≤B) (h:BdA A a):BdA B a:=⟨Nat.le_trans h.1 hAB,Nat.le_trans h.2 hAB⟩
theorem BdR.mono {A B:Nat} {a:List Att} (hAB:A≤B) (h:BdR A a):BdR B a:=⟨Nat.le_trans h.1 hAB,fun x hx=>(h.2 x hx).mono hAB⟩
theorem BdN.mono {A B:Nat} {a:List (List Att)} (hAB:A≤B) (h:BdN A a):BdN B a:=⟨Nat.le_trans h.1 hAB,fun x hx=>(h.2 x hx).mono hAB⟩
abbrev Anc:=ze
theorem WY (k:zB) (h:okK k=true):(∀p∈WI k,POk p)∧(wraps (WI k)).length≤60:=by
 obtain⟨h1,h2,h3,h4⟩:=JU.1 h
 have ha:YC.2.length=12:=by decide
 have hl:(0::o8 k.zA.toNat::(k.wm++k.zT):Bs).length=34:=by simp [h3,h4]
 refine⟨?_, ?_⟩
 ·intro p hp
  simp only [WI,Lo,List.not_mem_nil,or_false]at hp
  rcases hp with rfl|rfl
  ·exact⟨by decide,by decide,by omega⟩
  ·exact⟨by dsimp only; decide,by dsimp only; decide,by dsimp only; omega⟩
 ·have t1:=ym YC.1 YC.2
  have t2:=ym 3 (0::o8 k.zA.toNat::(k.wm++k.zT))
  simp only [WI,wraps,Ld,List.map_nil,List.flatten_cons,List.flatten_nil,Lj,L6]
  omega
theorem cQ {k:zB} (h:okK k=true):POk (Y1 k):=
 ⟨by show(48:Nat)≤255; omega,by show(48:Nat)%32≠31; omega,by have:=(WY k h).2; show(wraps (WI k)).length≤_; omega⟩
def Xz (a:Anc):Int:=if uz a.zr.zk≠0 then uz a.zr.zk else if a.zr.zk= []then 14 else if okK a.zw=true then 0 else 18
def Uz (a:Anc):List (Nat×Bs):= [jl a.zr.zk,Y1 a.zw]
def ancE (a:Anc):Nat×Bs:=(48,wraps (Uz a))
def W7 (a:Anc):Prop:=okN a.zr.zk∧a.zr.zk≠ []∧okK a.zw=true
theorem WX {a:Anc} (h:W7 a):(∀p∈Uz a,POk p)∧(wraps (Uz a)).length≤4398:=by
 have k1:=gM h.1
 have k2:=(WY a.zw h.2.2).2
 refine⟨?_, ?_⟩
 ·intro p hp
  simp only [Uz,Lo,List.not_mem_nil,or_false]at hp
  rcases hp with rfl|rfl
  ·exact QF h.1
  ·exact cQ h.2.2
 ·have t1:=ym (jl a.zr.zk).1 (jl a.zr.zk).2
  have t2:=ym 48 (wraps (WI a.zw))
  have e:Y1 a.zw=(48,wraps (WI a.zw)):=rfl
  simp only [Uz,wraps,Ld,List.map_nil,List.flatten_cons,List.flatten_nil,Lj,L6,e]at *
  omega
def Pd (a:Anc):Anc:=⟨⟨eS a.zr.zk⟩,a.zw⟩
theorem Dz {a:Anc} (h:W7 a):W7 (Pd a):=⟨UN h.1,fun e=>h.2.1 (by simpa [Pd,eS] using e),h.2.2⟩
theorem rN (v:Nat):b2s ([IntKind.wrap .u8 (v:Int)]:List Int)= [o8 v]:=by
 show [UInt8.ofNat (IntKind.wrap .u8 (v:Int)).toNat]=_
 rw [qA]
theorem cX {n:Nat} {k:zB} (hn:100≤n):ji n k=some (if okK k=true then((tWrap (Y1 k).1 (Y1 k).2).1,0)else([],18)):=by
 unfold ji
 rw [eh,L0]
 by_cases h:okK k=true
 ·rw [L4 h,L4 h,L3 (by decide)]
  obtain⟨h1,h2,h3,h4⟩:=JU.1 h
  have hv:k.zA=((k.zA.toNat:Nat):Int):=by omega
  have hb:b2s ([IntKind.wrap .u8 k.zA]:List Int)= [o8 k.zA.toNat]:=by
   conv=>lhs; rw [hv]
   exact rN _
  have hc:jK n k=some (o8 k.zA.toNat::(k.wm++k.zT)):=by
   unfold jK
   rw [hb,xh (by rw [h3]; simp),L0,xh (by rw [L6,h3,h4]; simp),L0]
   rfl
  have hs:ko n (o8 k.zA.toNat::(k.wm++k.zT)) 0=some (0::o8 k.zA.toNat::(k.wm++k.zT),0):=by
   unfold ko gV
   rw [L3 (by decide),L0,L3 (by decide),L4 (by decide),L0,L3 (by decide),show b2s ([IntKind.wrap .u8 0]:List Int)= [0]from rfl,xh (by simp [h3,h4]),L0]
   rfl
  have hl:(0::o8 k.zA.toNat::(k.wm++k.zT):Bs).length=34:=by simp [h3,h4]
  have ha:YC.2.length=12:=by decide
  have t1:=ym YC.1 YC.2
  have t2:=ym 3 (0::o8 k.zA.toNat::(k.wm++k.zT))
  rw [hc,L0,hs,L0,L3 (by simp),show(3:Int)=((3:Nat):Int)from rfl,WH (by omega) (by omega) (by dsimp only; omega) (by omega),L0,j3 (t:=3) (by dsimp only; omega),L3 (by simp),re hn,L0,show(48:Int)=((48:Nat):Int)from rfl]
  have hf:([(tWrap YC.1 YC.2).1,(tWrap 3 (0::o8 k.zA.toNat::(k.wm++k.zT))).1]:List Bs).flatten=wraps (WI k):=by
   simp only [WI,wraps,Ld,List.map_nil]
  have hk:=(WY k h).2
  rw [YQ (by omega) (by omega) (by intro c hc; simp only [Lo,List.not_mem_nil,or_false]at hc; rcases hc with rfl|rfl<;>omega) (by simp only [L9,Ll]; omega) (by simp),hf,j3 (t:=48) (by omega)]
  rfl
 ·rw [L3 h,L3 h,L4 (by decide)]
theorem ea {n:Nat} {k:zB} (hn:100≤n):wy n k=some (if okK k=true then((tWrap (Y1 k).1 (Y1 k).2).1,0)else([],18)):=by
 unfold wy
 rw [ol,L0]
 by_cases h:okK k=true
 ·rw [L4 h,L4 h,L3 (by decide)]
  obtain⟨h1,h2,h3,h4⟩:=JU.1 h
  have hv:k.zA=((k.zA.toNat:Nat):Int):=by omega
  have hb:xg n k.zA=some [o8 k.zA.toNat]:=by
   rw [hv]
   have:∀v:Nat,v≤8→xg n (v:Int)=some [o8 v]:=by
    intro v hv
    have:=Lf.1 (show((List.range 9).all fun v:Nat=>decide (xg n (v:Int)=some [o8 v]))=true by kernel_rfl) v (by simp; omega)
    simpa using this
   rw [this _ (by omega)]; rfl
  have hc:u9 n k=some (o8 k.zA.toNat::(k.wm++k.zT)):=by
   unfold u9
   rw [hb,L0,xh (by rw [h3]; simp),L0,xh (by rw [L6,h3,h4]; simp),L0]
   rfl
  have hl:(0::o8 k.zA.toNat::(k.wm++k.zT):Bs).length=34:=by simp [h3,h4]
  have ha:YC.2.length=12:=by decide
  have t1:=ym YC.1 YC.2
  have t2:=ym 3 (0::o8 k.zA.toNat::(k.wm++k.zT))
  rw [rv hn,L0,hc,L0,xh (by simp [h3,h4]),L0,show(3:Int)=((3:Nat):Int)from rfl,List.singleton_append,Yt (by omega) (by omega) (by omega) (by omega),L0,show(48:Int)=((48:Nat):Int)from rfl]
  have hf:([(tWrap YC.1 YC.2).1,(tWrap 3 (0::o8 k.zA.toNat::(k.wm++k.zT))).1]:List Bs).flatten=wraps (WI k):=by
   simp only [WI,wraps,Ld,List.map_nil]
  have hk:=(WY k h).2
  rw [KY (by omega) (by omega) (by rw [hf]; omega) (by simp only [L9,Ll]; omega) (by simp),hf]
  rfl
 ·rw [L3 h,L3 h,L4 (by decide)]
def BdL (B:Nat) (l:List Anc):Prop:=∀a∈l,BdN B a.zr.zk
theorem rh {n B:Nat} {a:Anc} {b:Bs} (h:W7 a) (hb:BdN B a.zr.zk) (hB:B≤1000000) (hn:B+100≤n) (hl:b.length≤1000000000):wY n a ⟨b,0⟩=some ⟨b++(tWrap (ancE a).1 (ancE a).2).1,0⟩:=by
 unfold wY
 have k1:=gM h.1
 have k2:=(WY a.zw h.2.2).2
 have k3:=(WX h).2
 have t1:=ym 48 (jl a.zr.zk).2
 have t2:=ym (Y1 a.zw).1 (Y1 a.zw).2
 have e2:(Y1 a.zw).2=wraps (WI a.zw):=rfl
 rw [e2]at t2
 have e0:Yx a.zr.zk=((tWrap 48 (jl a.zr.zk).2).1,0):=by unfold Yx; rw [L3 (by rw [kJ.2 h.1]; simp)]
 rw [Jj hb hB hn,L0,e0,Uu (by simp only [Ll]; omega),L0,cX (k:=⟨a.zw.zA,a.zw.wm,a.zw.zT⟩) (by omega),L0,L4 (show okK ⟨a.zw.zA,a.zw.wm,a.zw.zT⟩=true from h.2.2),Li]
 have e1:(tWrap (Y1 ⟨a.zw.zA,a.zw.wm,a.zw.zT⟩).1 (Y1 ⟨a.zw.zA,a.zw.wm,a.zw.zT⟩).2).1=(tWrap (Y1 a.zw).1 (Y1 a.zw).2).1:=rfl
 simp only []
 rw [e1,e2,Uu (by omega),L0]
 simp only []
 rw [Uu (by simp only [Ll]; omega),L0,Lj]
 have hf:(tWrap 48 (jl a.zr.zk).2).1++(tWrap (Y1 a.zw).1 (wraps (WI a.zw))).1=wraps (Uz a):=by
  simp only [Uz,wraps,Ld,List.map_nil,List.flatten_cons,List.flatten_nil,Lj]
  rfl
 rw [hf,show(48:Int)=((48:Nat):Int)from rfl,Gy (by omega) (by omega) (by omega) (by omega),L0,j3 (t:=48) (by omega)]
 rfl
theorem Xy {l:List Anc} (ho:∀a∈l,W7 a):(wraps (l.map ancE)).length≤4403*l.length:=by
 have:=Y8 (m:=4398) (l.map ancE) (fun p hp=>by obtain⟨a,ha,rfl⟩:=Lg.1 hp; exact(WX (ho a ha)).2)
 rw [La]at this; exact this
end Go.Abs
end
