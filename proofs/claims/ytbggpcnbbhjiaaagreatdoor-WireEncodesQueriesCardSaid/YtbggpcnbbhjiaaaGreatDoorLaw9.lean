/- The typed Lean form of WireEncodesQueries gives true for every list of at most 9223372036854775807 numbers and every raw query of at most as many issuers. -/
import Derived.Test.YtbggpcnbbhjiaaaGreatDoorLaw8
set_option linter.unusedVariables false
set_option linter.unusedSimpArgs false
set_option linter.unnecessarySimpa false
section
set_option maxRecDepth 100000
namespace Go.Abs
open Go Go.Proofs
def dK {α:Type} (f:α→Int):List α→Int
 | []=>0
 |x::l=>if f x≠0 then f x else dK f l
def BO (e:Int):Ctl Int Unit:=if e=0 then .nxt ()else .ret e
theorem qR {α:Type} {f:α→Int} {x:α} {l:List α} (h:f x≠0):BO (dK f (x::l))= .ret (f x):=by unfold BO dK; rw [L4 h,L3 h]
theorem Zc {α:Type} {f:α→Int} {x:α} {l:List α} (h:f x=0):dK f (x::l)=dK f l:=by rw [dK,L3 (by rw [h]; simp)]
def isV (s:Bs):Bool:=(vA s).isSome
theorem fB {n B:Nat} (hB:B≤100000) (hn:B+1000≤n) (q:Qry) (hb:∀s∈q.zo,s.length≤B) (hl:q.zo.length≤1000):∀(k i:Nat) (m:List (Bs×Bool)),i≤q.zo.length→q.zo.length-i<k →
  yb n q k (i:Int) m=some (if(q.zo.drop i).all isV=true then .nxt ((q.zo.drop i).foldl (fun m s=>Xg s true m) m)else .ret 11)
 |0,i,m,_,h=>by omega
 | k+1,i,m,hi,hk=>by
  rw [yb]
  by_cases hc:i<q.zo.length
  ·have hx:=hb _ (Lk hc)
   rw [L4 (by rw [L1]; omega),z2 hc,L0,ZI (by omega) (by omega),L0,w1 (by omega),fB hB hn q hb hl k (i+1) _ (by omega) (by omega),Lb hc,List.all_cons,List.foldl_cons]
   cases h:(vA q.zo[i]).isSome<;>simp [isV,h]
  ·rw [L3 (by rw [L1]; omega),Lc (by omega)]; rfl
theorem fy {n B:Nat} (hB:B≤100000) (hn:B+1000≤n) (q:Qry) (hb:∀s∈q.zo,s.length≤B) (hl:q.zo.length≤1000):∀(k i:Nat),i≤q.zo.length→q.zo.length-i<k →
  xM n q k (i:Int)=some (if(q.zo.drop i).all isV=true then .nxt ()else .ret 11)
 |0,i,_,h=>by omega
 | k+1,i,hi,hk=>by
  rw [xM]
  by_cases hc:i<q.zo.length
  ·have hx:=hb _ (Lk hc)
   rw [L4 (by rw [L1]; omega),z2 hc,L0,Yh (by omega) (by omega),L0,w1 (by omega),fy hB hn q hb hl k (i+1) (by omega) (by omega),Lb hc,List.all_cons]
   cases h:(vA q.zo[i]).isSome<;>simp [isV,h]
  ·rw [L3 (by rw [L1]; omega),Lc (by omega)]; rfl
theorem fA {n B:Nat} (hB:B≤100000) (hn:2000000≤n) (q:Qry) (hb:∀g∈q.zD,BdG B g) (hl:q.zD.length≤1000):∀(k i:Nat),i≤q.zD.length→q.zD.length-i<k→yE n q k (i:Int)=some (BO (dK qV (q.zD.drop i)))
 |0,i,_,h=>by omega
 | k+1,i,hi,hk=>by
  rw [yE]
  by_cases hc:i<q.zD.length
  ·rw [L4 (by rw [L1]; omega),z2 hc,L0,show wQ n ⟨q.zD[i].zI,q.zD[i].ye,⟨q.zD[i].zr.zk⟩⟩ false=some (qV q.zD[i])from PT hn (hb _ (Lk hc)) (by omega) (by omega),L0,Lb hc]
   by_cases h:qV q.zD[i]=0
   ·rw [L3 (by rw [h]; decide),w1 (by omega),fA hB hn q hb hl k (i+1) (by omega) (by omega),Zc h]
   ·rw [L4 (by simpa using h),qR h]
  ·rw [L3 (by rw [L1]; omega),Lc (by omega)]; rfl
theorem fm {n B:Nat} (hB:B≤100000) (hn:2000000≤n) (q:Qry) (hb:∀g∈q.zD,BdG B g) (hl:q.zD.length≤1000):∀(k i:Nat),i≤q.zD.length→q.zD.length-i<k→xT n q k (i:Int)=some (BO (dK qV (q.zD.drop i)))
 |0,i,_,h=>by omega
 | k+1,i,hi,hk=>by
  rw [xT]
  by_cases hc:i<q.zD.length
  ·rw [L4 (by rw [L1]; omega),z2 hc,L0,show yr n ⟨q.zD[i].zI,q.zD[i].ye,⟨q.zD[i].zr.zk⟩⟩ false=some (qV q.zD[i])from BX hn (hb _ (Lk hc)) (by omega) (by omega),L0,Lb hc]
   by_cases h:qV q.zD[i]=0
   ·rw [L3 (by rw [h]; decide),w1 (by omega),fm hB hn q hb hl k (i+1) (by omega) (by omega),Zc h]
   ·rw [L4 (by simpa using h),qR h]
  ·rw [L3 (by rw [L1]; omega),Lc (by omega)]; rfl
theorem n8 (l:List (List Att)):((List.length l:Int)==0)=decide (l= []):=by cases l with
 |nil=>rfl
 |cons x l=>rw [decide_eq_false (by simp)]; rw [beq_eq_false_iff_ne]; simp; omega
theorem fv {n B:Nat} (hB:B≤100000) (hn:B+1000≤n) (q:Qry) (hb:∀a∈q.zn,BdN B a.zr.zk) (hl:q.zn.length≤1000):∀(k i:Nat),i≤q.zn.length→q.zn.length-i<k→yF n q k (i:Int)=some (BO (dK Xz (q.zn.drop i)))
 |0,i,_,h=>by omega
 | k + 1,i,hi,hk=>by
  rw [yF]
  by_cases hc:i<q.zn.length
  ·rw [L4 (by rw [L1]; omega),z2 hc,L0,UM (hb _ (Lk hc)) (by omega) (by omega),L0,Lb hc,n8,show jp n ⟨q.zn[i].zw.zA,q.zn[i].zw.wm,q.zn[i].zw.zT⟩=some (if okK q.zn[i].zw=true then 0 else 18)from eh]
   obtain⟨e,he⟩:∃e,Xz q.zn[i]=e:=⟨_,rfl⟩
   have hdef:=he
   rw [Xz]at hdef
   by_cases h1:uz q.zn[i].zr.zk=0
   ·rw [L3 (by rw [h1]; simp)]at hdef
    rw [L3 (by rw [h1]; decide)]
    by_cases h2:q.zn[i].zr.zk= []
    ·rw [L4 h2]at hdef
     rw [L4 (by rw [L1]; exact h2),qR (by rw [he,←hdef]; decide),he,←hdef]
    ·rw [L3 h2]at hdef
     rw [L3 (by rw [L1]; exact h2),L0]
     by_cases h3:okK q.zn[i].zw=true
     ·rw [L4 h3]at hdef
      rw [L4 h3,L3 (by decide),w1 (by omega),fv hB hn q hb hl k (i+1) (by omega) (by omega),Zc (he.trans hdef.symm)]
     ·rw [L3 h3]at hdef
      rw [L3 h3,L4 (by decide),qR (by rw [he,←hdef]; decide),he,←hdef]
   ·rw [L4 h1]at hdef
    rw [L4 (by simpa using h1),qR (by rw [he,←hdef]; exact h1),he,←hdef]
  ·rw [L3 (by rw [L1]; omega),Lc (by omega)]; rfl
theorem Kr {n B:Nat} {a:Anc} (hb:BdN B a.zr.zk) (hB:B≤1000000) (hn:B+100≤n):(uz a.zr.zk≠0→z8 n a=some (uz a.zr.zk)) ∧
  (uz a.zr.zk=0→a.zr.zk= []→z8 n a=some 14)∧(uz a.zr.zk=0→a.zr.zk≠ []→z8 n a=some 0):=by
 unfold z8
 rw [show yz n ⟨a.zr.zk⟩=some (uz a.zr.zk)from DQ hb hB hn,L0,n8]
 refine⟨fun h=> ?_,fun h1 h2=> ?_,fun h1 h2=> ?_⟩
 ·rw [L4 (by simpa using h)]
 ·rw [L3 (by rw [h1]; decide),L4 (by rw [L1]; exact h2)]
 ·rw [L3 (by rw [h1]; decide),L3 (by rw [L1]; exact h2)]
theorem fC {n B:Nat} (hB:B≤100000) (hn:B+1000≤n) (q:Qry) (hb:∀a∈q.zn,BdN B a.zr.zk) (hl:q.zn.length≤1000):∀(k i:Nat),i≤q.zn.length→q.zn.length-i<k→xV n q k (i:Int)=some (BO (dK Xz (q.zn.drop i)))
 |0,i,_,h=>by omega
 | k + 1,i,hi,hk=>by
  rw [xV]
  by_cases hc:i<q.zn.length
  ·obtain ⟨c1,c2,c3⟩:=Kr (n:=n) (hb _ (Lk hc)) (by omega) (by omega)
   rw [L4 (by rw [L1]; omega),z2 hc,L0,Lb hc]
   show((z8 n q.zn[i]).bind fun r128=>_)=_
   obtain⟨e,he⟩:∃e,Xz q.zn[i]=e:=⟨_,rfl⟩
   have hdef:=he
   rw [Xz]at hdef
   by_cases h1:uz q.zn[i].zr.zk=0
   ·rw [L3 (by rw [h1]; simp)]at hdef
    by_cases h2:q.zn[i].zr.zk= []
    ·rw [L4 h2]at hdef
     rw [c2 h1 h2,L0,L4 (by decide),qR (by rw [he,←hdef]; decide),he,←hdef]
    ·rw [L3 h2]at hdef
     rw [c3 h1 h2,L0,L3 (by decide),L0,show xO n ⟨q.zn[i].zw.zA,q.zn[i].zw.wm,q.zn[i].zw.zT⟩=some (if okK q.zn[i].zw=true then 0 else 18)from ol,L0]
     by_cases h3:okK q.zn[i].zw=true
     ·rw [L4 h3]at hdef
      rw [L4 h3,L3 (by decide),w1 (by omega),fC hB hn q hb hl k (i+1) (by omega) (by omega),Zc (he.trans hdef.symm)]
     ·rw [L3 h3]at hdef
      rw [L3 h3,L4 (by decide),qR (by rw [he,←hdef]; decide),he,←hdef]
   ·rw [L4 h1]at hdef
    rw [c1 h1,L0,L4 (by simpa using h1),qR (by rw [he,←hdef]; exact h1),he,←hdef]
  ·rw [L3 (by rw [L1]; omega),Lc (by omega)]; rfl
theorem Pw (l:List Bs):∀m:List (Bs×Bool),(l.foldl (fun m s=>Xg s true m) m).length≤m.length+l.length:=by
 induction l with
 |nil=>intro m; simp
 | cons x l ih=>
  intro m
  rw [List.foldl_cons]
  have h1:=ih (Xg x true m)
  have h2:=(UO x m).2
  have h3:(Xg x true m).length≤m.length+1:=by rw [h2]; split<;>omega
  rw [L9]; omega
structure QS (B:Nat) (q:Qry):Prop where
 b:B≤60000
 pu:q.zM.length≤B
 pl:∀s∈q.zo,s.length≤B
 nm:∀g∈q.zD,BdG B g
 is:∀a∈q.zn,BdN B a.zr.zk
 l1:q.zo.length≤1000
 l2:q.zD.length≤1000
 l3:q.zn.length≤1000
theorem P1 {n B:Nat} {q:Qry} (hn:2000000≤n) (h:QS B q):∃e,wh n q=some e∧vf n q=some e:=by
 obtain⟨hB,hpu,hpl,hnm,his,hl1,hl2,hl3⟩:=h
 unfold wh vf
 rw [ifb,L0,L0]
 by_cases c0:(decide (q.qT<0)||decide (q.qT>254033452799))=true
 ·rw [L4 c0,L4 c0]; exact⟨_,rfl,rfl⟩
 rw [L3 c0,L3 c0,ZI (by omega) (by omega),Yh (by omega) (by omega)]
 have hy:∃y,(if(!(q.zM==([]:List UInt8)))=true then((some (vA q.zM).isSome).bind fun r12=>some (!r12))else(some false))=some y:=Uq (fun _=>⟨_,rfl⟩) fun _=>⟨_,rfl⟩
 obtain⟨y,hy⟩:=hy
 rw [hy,L0,L0]
 cases y with
 |true=>rw [L4 rfl,L4 rfl]; exact⟨_,rfl,rfl⟩
 | false=>
  rw [L3 (show ¬(false=true)by decide),L3 (show ¬(false=true)by decide),mY,L0,L0]
  by_cases c1:(decide (q.wb<0)||(decide (q.wb>511)||(decide (q.yU<1)||decide (q.yU>8))))=true
  ·rw [L4 c1,L4 c1]; exact⟨_,rfl,rfl⟩
  rw [L3 c1,L3 c1,hP,L0,L0]
  by_cases c2:(decide ((List.length q.zo:Int)>8)||(decide ((List.length q.zD:Int)>16)||decide ((List.length q.zn:Int)>64)))=true
  ·rw [L4 c2,L4 c2]; exact⟨_,rfl,rfl⟩
  rw [L3 c2,L3 c2]
  have a1:=fB (n:=n) (B:=B) (by omega) (by omega) q hpl hl1 n 0 [] (by omega) (by omega)
  have a2:=fy (n:=n) (B:=B) (by omega) (by omega) q hpl hl1 n 0 (by omega) (by omega)
  have a3:=fA (n:=n) (B:=B) (by omega) hn q hnm hl2 n 0 (by omega) (by omega)
  have a4:=fm (n:=n) (B:=B) (by omega) hn q hnm hl2 n 0 (by omega) (by omega)
  have a5:=fv (n:=n) (B:=B) (by omega) (by omega) q his hl3 n 0 (by omega) (by omega)
  have a6:=fC (n:=n) (B:=B) (by omega) (by omega) q his hl3 n 0 (by omega) (by omega)
  obtain⟨o,ho,hr,_⟩:=KR (n:=n) (a:=q.zo) (by omega) hl1 n 0 [] [] (by omega) (by omega) (by simp) ⟨rfl,by simp,by simp⟩
  rw [show((0:Nat):Int)=0 from rfl,Lh]at a1 a2 a3 a4 a5 a6
  rw [show((0:Nat):Int)=0 from rfl]at ho
  rw [Lh]at hr
  have hs:u5 n q.zo=some o:=by unfold u5; rw [ho]; rfl
  rw [a1,a2,a3,a4,a5,a6,hs]
  have hfl:=Pw q.zo []
  by_cases c3:q.zo.all isV=true
  ·rw [L4 c3,L4 c3]
   simp only [yW,L0]
   rw [hr.len]at *
   simp only [Ll,Nat.zero_add]at hfl
   by_cases c4:o.length<q.zo.length
   ·rw [L4 (by rw [L1]; omega),L4 (by rw [bne_iff_ne]; omega)]; exact⟨_,rfl,rfl⟩
   ·rw [L3 (by rw [L1]; omega),L3 (by rw [bne_iff_ne]; omega)]
    unfold BO
    by_cases c5:dK qV q.zD=0
    ·rw [L4 c5]
     simp only []
     by_cases c6:dK Xz q.zn=0
     ·rw [L4 c6]; exact⟨_,rfl,rfl⟩
     ·rw [L3 c6]; exact⟨_,rfl,rfl⟩
    ·rw [L3 c5]; exact⟨_,rfl,rfl⟩
  ·rw [L3 c3,L3 c3]; exact⟨_,rfl,rfl⟩
def Dj (m:Nat) (v:Nat):Bool:=match uK (m+1000) (v:Int),xS (m+1000) (v:Int)with
 |some (c,e),some (c',e')=>decide (e=0)&&decide (c.length≤4)&&(c'==c&&decide (e'=0))
 |_,_=>false
theorem mq (m:Nat):((List.range 128).all fun v=>Dj m v)=true:=by kernel_rfl
theorem na (m:Nat):((List.range 128).all fun v=>Dj m (v+128))=true:=by kernel_rfl
theorem mD (m:Nat):((List.range 128).all fun v=>Dj m (v+256))=true:=by kernel_rfl
theorem mN (m:Nat):((List.range 128).all fun v=>Dj m (v+384))=true:=by kernel_rfl
theorem Db {n:Nat} (hn:1000≤n) {u:Int} (h0:0≤u) (h1:u≤511):∃c:Bs,c.length≤4∧uK n u=some (c,0)∧xS n u=some (c,0):=by
 obtain⟨m,rfl⟩:∃m,n=m+1000:=⟨n-1000,by omega⟩
 obtain⟨v,rfl⟩:∃v:Nat,u=(v:Int):=⟨u.toNat,by omega⟩
 have h:Dj m v=true:=by
  by_cases a:v<128
  ·exact Lf.1 (mq m) v (by simp; omega)
  by_cases b:v<256
  ·have:=Lf.1 (na m) (v-128) (by simp; omega)
   rwa [show v-128+128=v by omega]at this
  by_cases c:v<384
  ·have:=Lf.1 (mD m) (v-256) (by simp; omega)
   rwa [show v-256+256=v by omega]at this
  ·have:=Lf.1 (mN m) (v-384) (by simp; omega)
   rwa [show v-384+384=v by omega]at this
 unfold Dj at h
 split at h
 ·rename_i c e c' e' h1 h2
  simp only [Le,L1,beq_iff_eq]at h
  obtain⟨⟨rfl,h4⟩,rfl,rfl⟩:=h
  exact⟨_,h4,h1,h2⟩
 ·cases h
theorem nS {n B:Nat} {g:Gen} (hn:2000000≤n) (hb:BdG B g) (hB:B≤60000) (h:okG n g):qV g=0:=by
 unfold okG at h
 rw [PT hn hb (by omega) (by omega)]at h
 injection h
theorem oF {n B:Nat} {g:Gen} (h:okG n g) (hb:BdG B g) (hB:B≤60000) (hn:2000000≤n):xu n g false=some ((tWrap (j2 g).1 (j2 g).2).1,0):=by
 obtain⟨hp,hl,_⟩:=WF h hb hB (by omega)
 unfold xu
 rw [show yr n ⟨g.zI,g.ye,⟨g.zr.zk⟩⟩ false=some (qV g)from BX hn hb (by omega) (by omega),nS hn hb hB h,L0,L3 (by decide)]
 rcases Y5 h hb.2 (by omega) (by omega)with⟨h1,h2,h3⟩|⟨h1,h2⟩
 ·have e:j2 g=(164,(tWrap (jl g.zr.zk).1 (jl g.zr.zk).2).1):=by unfold j2; rw [L4 h1]
  rw [e]at hl ⊢
  have e0:Yx g.zr.zk=((tWrap 48 (jl g.zr.zk).2).1,0):=by unfold Yx; rw [L3 (by rw [kJ.2 h3]; simp)]
  have ek:IntKind.wrap .i64 ((160:Int)+4)=((164:Nat):Int):=by decide
  have l3:(tWrap 48 (jl g.zr.zk).2).1.length≤B+4333:=hl
  rw [L4 (by rw [h1]; decide),show yK n ⟨g.zr.zk⟩=_ from VC hb.2 (by omega) (by omega),L0,e0,h1,ek]
  dsimp only
  rw [Yt (by omega) (by omega) (by omega) (by omega),L0]
  rfl
 ·have hk:¬g.zI=4:=by omega
  have e:j2 g=((128+g.zI).toNat,g.ye):=by unfold j2; rw [L3 hk]
  have hbt:=hb.1
  have ek:IntKind.wrap .i64 ((128:Int)+g.zI)=(((128+g.zI).toNat:Nat):Int):=by rw [xf (by omega)]; omega
  rw [e,L3 (by simpa using hk),ek,Yt (by omega) (by rcases h1 with h1|h1|h1<;>rw [h1]<;>decide) (by omega) (by omega),L0]
theorem Jm {n B:Nat} (hB:B≤60000) (hn:2000000≤n) (l:List Gen) (ho:∀g∈l,okG n g) (hb:∀g∈l,BdG B g) (hl:l.length≤16):∀(k i:Nat) (acc:Bs),i≤l.length→l.length-i<k→acc.length≤100000*i→yM n l k acc (i:Int)=some (.nxt (acc++wraps ((l.drop i).map j2)))
 |0,i,acc,_,h,_=>by omega
 | k+1,i,acc,hi,hk,ha=>by
  rw [yM]
  by_cases hc:i<l.length
  ·have hx:=Lk hc
   obtain⟨_,hgl,_⟩:=WF (ho _ hx) (hb _ hx) hB (by omega)
   have hw:=ym (j2 l[i]).1 (j2 l[i]).2
   have he:xu n ⟨l[i].zI,l[i].ye,⟨l[i].zr.zk⟩⟩ false=some ((tWrap (j2 l[i]).1 (j2 l[i]).2).1,0):=oF (ho _ hx) (hb _ hx) hB hn
   rw [L4 (by rw [L1]; omega),z2 hc,L0,he,L0,L3 (by simp),xh (by dsimp only; omega),L0,w1 (by omega)]
   dsimp only
   rw [Jm hB hn l ho hb hl k (i+1) _ (by omega) (by omega) (by rw [L6]; omega),Lb hc,Ld,qm,Lp]
  ·rw [L3 (by rw [L1]; omega),Lc (by omega)]
   simp [wraps]
theorem hG {n B:Nat} (hB:B≤60000) (hn:2000000≤n) {l:List Gen} (ho:∀g∈l,okG n g) (hb:∀g∈l,BdG B g) (h0:l≠ []) (hl:l.length≤16):wq n l=some (wraps (l.map j2),0):=by
 have hp:0<l.length:=List.length_pos_iff.2 h0
 unfold wq
 have e:=Jm (n:=n) hB hn l ho hb hl n 0 [] (by omega) (by omega) (by simp)
 rw [show((0:Nat):Int)=0 from rfl,Lh,Li]at e
 rw [L3 (by rw [beq_iff_eq]; omega),L3 (by rw [L1]; omega),e]
 rfl
theorem mG {n B:Nat} {a:Anc} (h:W7 a) (hb:BdN B a.zr.zk) (hB:B≤1000000) (hn:B+100≤n):xF n a=some ((tWrap (ancE a).1 (ancE a).2).1,0):=by
 unfold xF
 have k1:=gM h.1
 have k3:=(WX h).2
 have e0:Yx a.zr.zk=((tWrap 48 (jl a.zr.zk).2).1,0):=by unfold Yx; rw [L3 (by rw [kJ.2 h.1]; simp)]
 have hf:([(tWrap 48 (jl a.zr.zk).2).1,(tWrap (Y1 a.zw).1 (Y1 a.zw).2).1]:List Bs).flatten=wraps (Uz a):=by
  simp only [Uz,wraps,Ld,List.map_nil]
  rfl
 rw [show z8 n ⟨⟨a.zr.zk⟩,⟨a.zw.zA,a.zw.wm,a.zw.zT⟩⟩=some 0 from(Kr hb hB hn).2.2 (kJ.2 h.1) h.2.1,L0,L3 (by decide),
  show yK n ⟨a.zr.zk⟩=_ from VC hb hB hn,L0,show wy n ⟨a.zw.zA,a.zw.wm,a.zw.zT⟩=_ from ea (k:=a.zw) (by omega),L4 h.2.2,L0,L3 (by simp),e0]
 dsimp only
 rw [show(48:Int)=((48:Nat):Int)from rfl,KY (by omega) (by omega) (by rw [hf]; omega) (by simp; omega) (by simp),hf,L0]
 rfl
theorem Jf {n B:Nat} (q:Qry) (ho:∀a∈q.zn,W7 a) (hb:∀a∈q.zn,BdN B a.zr.zk) (hB:B≤1000000) (hn:B+100≤n) (hl:q.zn.length≤64):∀(k i:Nat) (b:Bs),i≤q.zn.length→q.zn.length-i<k→b.length≤4403*i →
  yH n q k b (i:Int)=some (b++wraps ((q.zn.drop i).map ancE))
 |0,i,_,_,h,_=>by omega
 | k+1,i,b,hi,hk,hbl=>by
  rw [yH]
  by_cases hc:i<q.zn.length
  ·have hx:=Lk hc
   have k3:=(WX (ho _ hx)).2
   have t1:=ym (ancE q.zn[i]).1 (ancE q.zn[i]).2
   have e2:(ancE q.zn[i]).2=wraps (Uz q.zn[i]):=rfl
   rw [←e2]at k3
   rw [L4 (by rw [L1]; omega),z2 hc,L0,show xF n ⟨⟨q.zn[i].zr.zk⟩,⟨q.zn[i].zw.zA,q.zn[i].zw.wm,q.zn[i].zw.zT⟩⟩=some ((tWrap (ancE q.zn[i]).1 (ancE q.zn[i]).2).1,0)from mG (a:=q.zn[i]) (ho _ hx) (hb _ hx) hB hn,L0]
   dsimp only
   rw [xh (by omega),L0,w1 (by omega),Jf q ho hb hB hn hl k (i+1) _ (by omega) (by omega) (by rw [L6]; omega),Lb hc,Ld,qm,Lp]
  ·rw [L3 (by rw [L1]; omega),Lc (by omega)]
   simp [wraps]
theorem GN {n t:Nat} {b:Bool} (h1:t≤255) (h2:t%32≠31) (hn:20≤n):wu n (t:Int) b=some (wraps (optE b (t,[255]))):=by
 unfold wu vZ
 cases b with
 |true=>rw [L3 (by decide),L4 rfl,L0,Yt h1 h2 (by simp) hn,L0,ke]
 |false=>rw [L4 (show(!false)=true from rfl),Yb]
theorem nF {n g:Nat} {c fl:Bs} {q:Qry} (hn:200000000≤n) (hf:hZ n q) (hv:vf n q=some 0) (hg:g=23∨g=24) (hc:c.length≤20) (ht:xi n q.qT=some ((tWrap g c).1,0)) (hfl:fl.length≤4) (hu:xS n q.wb=some (fl,0)) (hlen:(wraps (ZS (g,c) fl q)).length≤131072):
    yB n q=some ((tWrap 48 (wraps (ZS (g,c) fl q))).1,0):=by
  obtain⟨⟨f1,f2,f3,⟨f4,f5,f6⟩,f7,f8,f9⟩,⟨b1,b2,b3,b4⟩,f10⟩:=hf
  have ew:wraps (ZS (g,c) fl q)=(tWrap g c).1++wraps (optE (!(q.zM== [])) (128,(polE q.zM).2))++wraps (optE (q.wb !=0) (129,fl))++wraps (optE (!q.zo.isEmpty) (162,wraps (q.zo.map polE)))++(wraps (optE q.qj (131,[255]))++wraps (optE q.jG (132,[255]))++wraps (optE q.g9 (133,[255]))) ++
      wraps (optE (!q.zD.isEmpty) (166,wraps (q.zD.map j2)))++((tWrap 2 [o8 q.yU.toNat]).1++wraps (optE q.bz (135,[255])))++wraps (optE (!q.zn.isEmpty) (168,wraps (q.zn.map ancE))):=by
    unfold ZS q2 q3 q4 q5 q6 q7 q8 q9 q10 q11
    simp only [qm,Jw,Lp,lL]
    rw [show wraps []= []from rfl,Lj]
  have hl2:=hlen
  rw [ew]at hl2
  simp only [L6]at hl2
  unfold yB
  rw [hv,L0,L3 (by decide),ht,L0]
  dsimp only
  generalize (tWrap g c).1=X0 at hl2 ew
  have s1:(if(!(q.zM==([]:List UInt8)))=true then((xw n q.zM).bind fun r9=>
     (zE n 128 ([r9.1]:List (List UInt8))).bind fun r10=>(uw X0 r10).bind fun x11=>some x11)else(some X0))=some (X0++wraps (optE (!(q.zM== [])) (128,(polE q.zM).2))):=by
    cases hb:(!(q.zM== []))with
    | true=>
      have hs:(vA q.zM).isSome=true:=by
        rcases f1 with f1|f1
        · rw [f1]at hb; exact absurd hb (by decide)
        · exact f1
      obtain⟨l,hl⟩:=Option.isSome_iff_exists.1 hs
      have hpe:(polE q.zM).2=pz l:=by unfold polE; rw [hl]; rfl
      have hlo:=gn (kf hl)
      have hw:=ym 128 (pz l)
      rw [L4 rfl,Xn (by omega) (by omega) hl,L0]
      dsimp only
      rw [show(128:Int)=((128:Nat):Int)from rfl,Yt (by omega) (by omega) (by omega) (by omega),L0,xh (by omega),L0,ke,hpe]
    |false=>rw [L3 (by simp),Yb,Lj]
  rw [s1,L0]
  generalize hX1:X0++wraps (optE (!(q.zM== [])) (128,(polE q.zM).2))=X1 at ew
  have l1:X1.length≤131072:=by rw [←hX1,L6]; omega
  have s2:(if(q.wb !=0)=true then((xS n q.wb).bind fun r18=>
     (zE n 129 ([r18.1]:List (List UInt8))).bind fun r19=>(uw X1 r19).bind fun x20=>some x20)else(some X1))=some (X1++wraps (optE (q.wb !=0) (129,fl))):=by
    cases hb:(q.wb !=0)with
    | true=>
      have hw:=ym 129 fl
      rw [L4 rfl,hu,L0]
      dsimp only
      rw [show(129:Int)=((129:Nat):Int)from rfl,Yt (by omega) (by omega) (by omega) (by omega),L0,xh (by omega),L0,ke]
    |false=>rw [L3 (by simp),Yb,Lj]
  rw [s2,L0]
  generalize hX2:X1++wraps (optE (q.wb !=0) (129,fl))=X2 at ew
  have l2:X2.length≤131072:=by rw [←hX2,L6,←hX1,L6]; omega
  have m3:=UV f7
  have m3':(wraps (q.zo.map polE)).length≤1000:=by omega
  have s3:(if(decide ((List.length q.zo:Int)>0))=true then((vx n q.zo).bind fun r27=>
     (zE n 162 ([r27]:List (List UInt8))).bind fun r28=>(uw X2 r28).bind fun x29=>some x29)else(some X2))=some (X2++wraps (optE (!q.zo.isEmpty) (162,wraps (q.zo.map polE)))):=by
    cases hp:q.zo with
    |nil=>rw [L3 (by decide)]; simp [optE,wraps]
    | cons s r=>
      have e:=QY (n:=n) (B:=252) (by omega) (by omega) q.zo (by omega) f7 b2 n 0 [] (by omega) (by omega) (by simp; omega)
      rw [show((0:Nat):Int)=0 from rfl,Lh,Li]at e
      have hw:=ym 162 (wraps (q.zo.map polE))
      have eo:vx n q.zo=some (wraps (q.zo.map polE)):=by unfold vx; rw [e]; rfl
      rw [L4 (by rw [L1,L9]; omega),←hp,eo,L0,show(162:Int)=((162:Nat):Int)from rfl,Yt (by omega) (by omega) (by omega) (by omega),L0,xh (by omega),L0,hp,show(!(s::r).isEmpty)=true from rfl,ke]
  rw [s3,L0]
  generalize hX3:X2++wraps (optE (!q.zo.isEmpty) (162,wraps (q.zo.map polE)))=X3 at ew
  have l3:X3.length≤131072:=by rw [←hX3,L6,←hX2,L6,←hX1,L6]; omega
  have o1:=j5 q.qj (131,[255])
  have o2:=j5 q.jG (132,[255])
  have o3:=j5 q.g9 (133,[255])
  have o4:=j5 q.bz (135,[255])
  simp only [L8]at o1 o2 o3 o4
  rw [show(131:Int)=((131:Nat):Int)from rfl,GN (by omega) (by omega) (by omega),L0,show(132:Int)=((132:Nat):Int)from rfl,GN (by omega) (by omega) (by omega),L0,xh (by omega),L0,show(133:Int)=((133:Nat):Int)from rfl,GN (by omega) (by omega) (by omega),L0,
    xh (by rw [L6]; omega),L0,xh (by simp only [L6]; omega),L0]
  generalize hX6:X3++(wraps (optE q.qj (131,[255]))++wraps (optE q.jG (132,[255]))++wraps (optE q.g9 (133,[255])))=X6 at ew
  have l6:X6.length≤131090:=by rw [←hX6]; simp only [L6]; omega
  have m4:=Q8 (n:=n) (B:=252) (by omega) (by omega) f8 b3
  have m4':(wraps (q.zD.map j2)).length≤73440:=by omega
  have m4w:=ym 166 (wraps (q.zD.map j2))
  have s7:(if(decide ((List.length q.zD:Int)>0))=true then((wq n q.zD).bind fun r43=>
     (yp n 166 ([r43.1]:List (List UInt8))).bind fun r44=>
     if(r44.2 !=0)=true then(some (.ret (([]:List UInt8),(2:Int))))else((uw X6 r44.1).bind fun x45=>some (.nxt x45)))else(some (.nxt X6)))=some (.nxt (X6++wraps (optE (!q.zD.isEmpty) (166,wraps (q.zD.map j2)))):Ctl (List UInt8×Int) (List UInt8)):=by
    cases hp:q.zD with
    |nil=>rw [L3 (by decide)]; simp [optE,wraps]
    | cons s r=>
      rw [L4 (by rw [L1,L9]; omega),←hp,hG (B:=252) (by omega) (by omega) f8 b3 (by rw [hp]; simp) f5,L0]
      dsimp only
      rw [show(166:Int)=((166:Nat):Int)from rfl,pC (by omega) (by omega) (by simp only [List.flatten_cons,List.flatten_nil,Lj]; omega) (by simp; omega) (by simp),L0]
      simp only [List.flatten_cons,List.flatten_nil,Lj]
      rw [j3 (by omega)]
      dsimp only
      rw [L3 (show ¬(((0:Int) !=0)=true)by decide),xh (by omega),L0,hp,show(!(s::r).isEmpty)=true from rfl,ke]
  rw [s7]
  simp only [yW]
  generalize hX7:X6++wraps (optE (!q.zD.isEmpty) (166,wraps (q.zD.map j2)))=X7 at ew
  have mno:=j5 (!q.zD.isEmpty) (166,wraps (q.zD.map j2))
  have l7:X7.length≤300000:=by rw [←hX7,L6]; dsimp only at mno; omega
  have ml:=ym 2 [o8 q.yU.toNat]
  simp only [L8]at ml
  rw [nJ (sm8 f3) (by omega),L0,show(135:Int)=((135:Nat):Int)from rfl,GN (by omega) (by omega) (by omega),L0,xh (by omega),L0,xh (by rw [L6]; omega),L0]
  generalize hX9:X7++((tWrap 2 [o8 q.yU.toNat]).1++wraps (optE q.bz (135,[255])))=X9 at ew
  have hwr:∀X:Bs,X.length≤131072→wU n X=some ((tWrap 48 X).1,0):=by
    intro X hX
    unfold wU
    rw [show(48:Int)=((48:Nat):Int)from rfl,pC (by omega) (by omega) (by simp only [List.flatten_cons,List.flatten_nil,Lj]; omega) (by simp; omega) (by simp),L0]
    simp only [List.flatten_cons,List.flatten_nil,Lj]
    rw [j3 hX,L3 (show ¬(((0:Int) !=0)=true)by decide)]
  cases hp:q.zn with
  | nil=>
    have e0:X9=wraps (ZS (g,c) fl q):=by rw [ew,hp]; simp [optE,wraps]
    rw [L3 (by decide),e0,hwr _ hlen,L0]
  | cons s r=>
    have m5:=Xy f9
    have e0:X9++(tWrap 168 (wraps (q.zn.map ancE))).1=wraps (ZS (g,c) fl q):=by
      rw [ew]
      rw [show(!q.zn.isEmpty)=true by rw [hp]; rfl,ke]
    have e:=Jf (n:=n) (B:=252) q f9 b4 (by omega) (by omega) (by omega) n 0 [] (by omega) (by omega) (by simp)
    rw [show((0:Nat):Int)=0 from rfl,Lh,Li]at e
    have hle:=congrArg List.length e0
    rw [L6]at hle
    rw [L4 (by rw [L1,L9]; omega),e,L0,show(168:Int)=((168:Nat):Int)from rfl,pC (by omega) (by omega) (by simp only [List.flatten_cons,List.flatten_nil,Lj]; omega) (by simp; omega) (by simp),L0]
    simp only [List.flatten_cons,List.flatten_nil,Lj]
    have h168:(tWrap 168 (wraps (q.zn.map ancE))).2=0:=by rw [j3 (by omega)]
    rw [h168,L3 (by decide),xh (by omega),L0,e0,hwr _ hlen,L0]
theorem DT {s:Bs} (h:Zr s=true):s.length≤128:=by
 unfold Zr at h
 rw [Le,L1]at h
 exact h.1
theorem DX {s:Bs} (h:U0 s=true):s.length≤128:=by
 unfold U0 at h
 split at h
 ·rw [Le,L1]at h; exact h.1
 ·exact DT h
theorem DJ {s:Bs} (h:Wx s=true):s.length≤128:=by
 unfold Wx at h
 rw [Le,Le,L1]at h
 exact h.1.1
theorem eP {g:Gen} (h:qV g=0):g.ye.length≤128:=by
 unfold qV at h
 split at h
 ·split at h
  ·rename_i h1; rw [h1]; decide
  ·exact absurd h (by decide)
 ·split at h
  ·split at h
   ·rename_i h1
    have h2:=h1.2
    unfold DR at h2
    split at h2
    ·exact DJ h2
    ·split at h2
     ·exact DX h2
     ·rw [Bool.or_eq_true,L1,L1]at h2; omega
   ·exact absurd h (by decide)
  ·exact absurd h (by decide)
theorem cB {n:Nat} {q:Qry} (h:wh n q=some 0):0≤q.qT∧q.qT≤254033452799:=by
 unfold wh at h
 rw [ifb,L0]at h
 by_cases c:(decide (q.qT<0)||decide (q.qT>254033452799))=true
 ·rw [L4 c]at h; injection h with h; exact absurd h (by decide)
 ·rw [Bool.not_eq_true,Bool.or_eq_false_iff,decide_eq_false_iff_not,decide_eq_false_iff_not]at c
  omega
structure QB (q:Qry):Prop where
 pu:q.zM.length≤252
 pl:∀s∈q.zo,s.length≤252
 nm:∀g∈q.zD,BdG 300 g∧BdN 252 g.zr.zk
 is:∀a∈q.zn,BdN 252 a.zr.zk
 l1:q.zo.length≤1000
 l2:q.zD.length≤1000
 l3:q.zn.length≤6
theorem QN {n:Nat} {q:Qry} (hn:200000000≤n) (h:QB q):∃x,xJ n q=some x∧yB n q=some x:=by
 obtain⟨hpu,hpl,hnm,his,hl1,hl2,hl3⟩:=h
 have hs:QS 300 q:=⟨by omega,by omega,fun s h=>by have:=hpl s h; omega,fun g h=>(hnm g h).1,fun a h=>(his a h).mono (by omega),hl1,hl2,by omega⟩
 obtain⟨e,v1,v2⟩:=P1 (n:=n) (by omega) hs
 by_cases c:e=0
 ·subst c
  obtain⟨hq,_⟩:=PJ (B:=300) (by omega) (by omega) ⟨hs.pu,hs.pl,hs.nm,hs.is⟩ v1
  have hg:∀g∈q.zD,BdG 252 g:=fun g h=>⟨by
   have h0:=nS (B:=300) (by omega) (hs.nm g h) (by omega) (hq.2.2.2.2.2.1 g h)
   have:=eP h0
   omega,(hnm g h).2⟩
  have hf:hZ n q:=⟨hq,⟨hpu,hpl,hg,his⟩,hl3⟩
  obtain⟨ht0,ht1⟩:=cB v1
  obtain⟨g,tc,hg,hc,t1,t2⟩:=DE (n:=n) (by omega) ht0 ht1
  obtain⟨fl,hfl,u1,u2⟩:=Db (n:=n) (by omega) hq.2.1.1 hq.2.1.2
  obtain⟨e1,e2⟩:=rT hn hf v1 hg hc t1 hfl u1
  exact⟨_,e1,nF hn hf v2 hg hc t2 hfl u2 e2⟩
 ·refine ⟨([],e), ?_, ?_⟩
  ·unfold xJ
   rw [v1,L0,L4 (by simpa using c)]
  ·unfold yB
   rw [v2,L0,L4 (by simpa using c)]
theorem cC {n:Nat} (a:List Bs) (ha:a.length≤12):∀(k i:Nat),i≤a.length→a.length-i<k→wi n a 200 k (i:Int)=some (.ret false)∨(wi n a 200 k (i:Int)=some (.nxt ())∧∀s∈a.drop i,s.length≤200)
 |0,_,_,h=>by omega
 | k + 1,i,hi,hk=>by
  rw [wi]
  by_cases hc:i<a.length
  ·rw [L4 (by rw [L1]; omega),z2 hc,L0]
   by_cases h:a[i].length≤200
   ·rw [L3 (by rw [L1]; omega),w1 (by omega)]
    rcases cC a ha k (i+1) (by omega) (by omega)with h'|⟨h',h''⟩
    ·exact .inl h'
    ·refine .inr ⟨h', ?_⟩
     rw [Lb hc]
     intro s hs
     rcases Lo.1 hs with rfl|hs
     ·exact h
     ·exact h'' s hs
   ·rw [L4 (by rw [L1]; omega)]; exact .inl rfl
  ·rw [L3 (by rw [L1]; omega),Lc (by omega)]
   exact .inr ⟨rfl,by simp⟩
theorem hS {n:Nat} (a:List Bs) (hn:100≤n):∃b,js n a 12 200=some b∧(b=true→a.length≤12∧∀s∈a,s.length≤200):=by
 unfold js
 by_cases h:a.length≤12
 ·rw [L3 (by rw [L1]; omega)]
  have:=cC (n:=n) a h n 0 (by omega) (by omega)
  rw [show((0:Nat):Int)=0 from rfl,Lh]at this
  rcases this with h'|⟨h',h''⟩
  ·rw [h']; exact⟨false,rfl,fun h=>by cases h⟩
  ·rw [h']; exact⟨true,rfl,fun _=>⟨h,h''⟩⟩
 ·rw [L4 (by rw [L1]; omega)]; exact⟨false,rfl,fun h=>by cases h⟩
theorem KP {n:Nat} (l:List Gen) (hl:l.length≤20) (hn:1000≤n):∀(k i:Nat),i≤l.length→l.length-i<k→yq n l k (i:Int)=some (.ret false)∨(yq n l k (i:Int)=some (.nxt ())∧∀g∈l.drop i,BdG 300 g∧BdN 252 g.zr.zk)
 |0,i,_,h=>by omega
 | k + 1,i,hi,hk=>by
  rw [yq]
  by_cases hc:i<l.length
  ·obtain ⟨b,hb1,hb2⟩:=Qr (n:=n) l[i].zr.zk hn
   rw [L4 (by rw [L1]; omega)]
   simp only [z2 hc,L0,hb1]
   by_cases h:l[i].ye.length≤300
   ·rw [L3 (by rw [L1]; omega),L0]
    cases b with
    |false=>rw [L4 (by decide)]; exact .inl rfl
    | true=>
     rw [L3 (by decide),w1 (by omega)]
     rcases KP (n:=n) l hl hn k (i+1) (by omega) (by omega)with h3|⟨h3,h4⟩
     ·exact .inl h3
     ·refine .inr ⟨h3,fun a ha=> ?_⟩
      rw [Lb hc]at ha
      rcases Lo.1 ha with rfl|ha
      ·exact⟨⟨h,(hb2 rfl).mono (by omega)⟩,hb2 rfl⟩
      ·exact h4 a ha
   ·rw [L4 (by rw [L1]; omega),L0,L4 (by decide)]; exact .inl rfl
  ·rw [L3 (by rw [L1]; omega),Lc (by omega)]
   exact .inr ⟨rfl,by simp⟩
theorem cp {n:Nat} (l:List Gen) (hn:1000≤n):∃b,w9 n l=some b∧(b=true→l.length≤20∧∀g∈l,BdG 300 g∧BdN 252 g.zr.zk):=by
 unfold w9
 by_cases h:l.length≤20
 ·rw [L3 (by rw [L1]; omega)]
  have:=KP (n:=n) l h hn n 0 (by omega) (by omega)
  rw [show((0:Nat):Int)=0 from rfl,Lh]at this
  rcases this with h'|⟨h',h''⟩
  ·rw [h']; exact⟨false,rfl,fun h=>by cases h⟩
  ·rw [h']; exact⟨true,rfl,fun _=>⟨h,h''⟩⟩
 ·rw [L4 (by rw [L1]; omega)]; exact⟨false,rfl,fun h=>by cases h⟩
theorem cE {n:Nat} (l:List Anc) (hl:l.length≤9223372036854775807) (hn:l.length+1000≤n):∃b,u7 n l=some b∧(b=true→BdL 252 l∧l.length≤6):=by
 unfold u7
 rcases Gw (n:=n) l hl (by omega) n 0 (by omega) (by omega)with h1|⟨h1,h2⟩
 ·rw [show((0:Nat):Int)=0 from rfl]at h1
  rw [h1]; exact⟨false,rfl,fun h=>by cases h⟩
 ·rw [show((0:Nat):Int)=0 from rfl]at h1
  rw [Lh]at h2
  rw [h1]; exact⟨_,rfl,fun h=>⟨h2,by have:=of_decide_eq_true h; omega⟩⟩
theorem Ps {n:Nat} (q:Qry) (hl:q.zn.length≤9223372036854775807) (hn:q.zn.length+2000≤n):∃b,uh n q=some b∧(b=true→QB q):=by
 unfold uh
 obtain⟨b1,e1,k1⟩:=hS (n:=n) q.zo (by omega)
 obtain⟨b2,e2,k2⟩:=cp (n:=n) q.zD (by omega)
 obtain⟨b3,e3,k3⟩:=cE (n:=n) q.zn hl (by omega)
 rw [e1,e2,e3]
 by_cases h:q.zM.length≤200
 ·rw [L3 (by rw [L1]; omega)]
  cases b1 with
  |false=>exact⟨false,rfl,fun h=>by cases h⟩
  | true=>
   cases b2 with
   |false=>exact⟨false,rfl,fun h=>by cases h⟩
   | true=>
    obtain⟨p1,p2⟩:=k1 rfl
    obtain⟨p3,p4⟩:=k2 rfl
    refine⟨b3,rfl,fun hb=> ?_⟩
    obtain⟨p5,p6⟩:=k3 hb
    exact⟨by omega,fun s hs=>by have:=p2 s hs; omega,p4,p5,by omega,by omega,p6⟩
 ·rw [L4 (by rw [L1]; omega)]; exact⟨false,rfl,fun h=>by cases h⟩
theorem ef {n:Nat} {d:zh} (hd:vE d):∃t d',je n d=some (t,d')∧vE d':=by
 unfold je
 obtain⟨r,d1,e1,a1,b1,k1⟩:=vi (n:=n) (k:=7) (by decide) (by decide) hd
 obtain⟨x,ex⟩:=qz (s:=fk) (i:=r) a1 (show r<((7:Nat):Int)from b1)
 unfold fk at ex
 rw [e1,L0]; simp only []; rw [ex]
 exact⟨_,_,rfl,k1⟩
theorem Do {n:Nat} {d:zh} (hn:2000≤n) (hd:vE d):∃q d',uk n d=some (q,d')∧QB q:=by
 unfold uk
 obtain⟨t,pu,us,ps,b1,b2,b3,nm,ml,b4,an,d1,e1,k1,hpu,⟨hps,hpl⟩,⟨hnm,hng⟩,han,hab⟩:=P6 (n:=n) hn hd
 obtain⟨tm,d2,e2,k2⟩:=ef (n:=n) k1
 obtain⟨r3,d3,e3,_,_,k3⟩:=vi (n:=n) (k:=512) (by decide) (by decide) k2
 obtain⟨r4,d4,e4,a4,b4',k4⟩:=vi (n:=n) (k:=3) (by decide) (by decide) k3
 obtain⟨L5,At5,nm',e5,k5,hnm',hng'⟩:=fY (n:=n) (nm:=nm) hn k4 a4 b4' hnm hng
 obtain⟨r6,d6,e6,a6,b6,k6⟩:=vi (n:=n) (k:=3) (by decide) (by decide) k5
 obtain⟨L7,At7,an',e7,k7,han',hab'⟩:=eY (n:=n) (nm:=an) hn k6 a6 b6 han hab
 obtain⟨r8,d8,e8,a8,b8,k8⟩:=vi (n:=n) (k:=24) (by decide) (by decide) k7
 obtain⟨pu',ps',ml',e9,h1,h2,h3⟩:=eV (r:=(r8,d8)) (pu:=pu) (ps:=ps) (ml:=ml) hpu hps hpl
 unfold qn4 at e5
 unfold lG at e7
 unfold fQ at e9
 rw [e1,L0]; dsimp only
 rw [e2,L0]; dsimp only
 rw [e3,L0]; dsimp only
 rw [e4,L0]
 rw [show(if decide ((r4,d4).1>0)=true then _ else _)=some (L5,At5,nm')from e5,L0]; dsimp only
 rw [e6,L0]
 rw [show(if decide ((r6,d6).1>0)=true then _ else _)=some (L7,At7,an')from e7,L0]; dsimp only
 rw [e8,L0]
 rw [show(if((r8,d8).1==1)=true then _ else _)=some (pu',ps',ml')from e9,L0]
 exact⟨_,_,rfl,by show pu'.length≤252; omega,fun s hs=>by have:=h3 s hs; omega,fun g hg=>⟨⟨by have:=(hng' g hg).1; omega,(hng' g hg).2.mono (by omega)⟩,(hng' g hg).2⟩,hab',by show ps'.length≤1000; omega,by show nm'.length≤1000; omega,by show an'.length≤6; omega⟩
theorem JN {n:Nat} (hn:200000000≤n) (l:List Int) (q:Qry) (hl:l.length≤9223372036854775807) (hq:q.zn.length≤9223372036854775807) (hn2:q.zn.length+2000≤n) (aw:vj n=some true):xt n l q=some true:=by
 have hd:vE ⟨l,0⟩:=⟨by simp,by simp,hl⟩
 unfold xt
 obtain⟨b,hb1,hb2⟩:=Ps (n:=n) q hq hn2
 rw [hb1,L0,aw]
 cases b with
 |false=>rfl
 | true=>
  obtain⟨p,d1,e1,hp⟩:=Do (n:=n) (by omega) hd
  obtain⟨x,x1,x2⟩:=QN hn hp
  obtain⟨y,y1,y2⟩:=QN hn (hb2 rfl)
  rw [L3 (by decide),show qy n l=some ⟨l,0⟩from rfl,L0,e1,L0]
  dsimp only
  rw [x1,L0,x2,L0,y1,L0,y2,L0]
  simp
theorem Q2 (l:List Int) (q:Qry) (hl:l.length≤9223372036854775807) (hq:q.zn.length≤9223372036854775807):xt (q.zn.length+199999000+1000) l q=some true:=
 JN (by omega) l q hl hq (by omega) (lq _)
end Go.Abs
end
