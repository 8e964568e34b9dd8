/- The typed Lean form of WireReturns gives true for every list of at most 9223372036854775807 numbers. -/
import Derived.Test.YtbggpcnbbhjiaaaGreatDoorLaw7
set_option linter.unusedVariables false
set_option linter.unusedSimpArgs false
set_option linter.unnecessarySimpa false
section
set_option maxRecDepth 100000
namespace Go.Abs
open Go Go.Proofs
abbrev Gen:=zc
def okG (n:Nat) (g:Gen):Prop:=yy n g false=some 0
def BdG (B:Nat) (g:Gen):Prop:=g.xE.length≤B∧BdN B g.zy.zo
def uK (g:Gen):Nat×Bs:=if g.zV=4 then(164,(tWrap (wc g.zy.zo).1 (wc g.zy.zo).2).1)else((128+g.zV).toNat,g.xE)
def bA (g:Gen):Gen:=⟨g.zV,g.xE,⟨ZJ g.zy.zo⟩⟩
theorem Ym {n B:Nat} {g:Gen} (h:okG n g) (hb:BdN B g.zy.zo) (hB:B≤1000000) (hn:B+100≤n):
  (g.zV=4∧g.xE= []∧okN g.zy.zo)∨((g.zV=1∨g.zV=2∨g.zV=7)∧g.zy.zo= []):=by
 unfold okG yy kG at h
 by_cases k1:g.zV=4
 ·left
  rw [k1,if_neg (by decide),if_neg (by decide),if_pos (by decide),Option.bind_some,if_neg (by decide),if_pos (by decide)]at h
  by_cases ht:g.xE= []
  ·rw [if_neg (by rw [ht]; decide),W3 hb hB hn]at h
   injection h with h
   exact⟨k1,ht,gg.1 h⟩
  ·rw [if_pos (by simpa using ht)]at h; injection h with h; exact absurd h (by decide)
 ·right
  have rd:(if decide ((List.length g.zy.zo:Int)>0)=true then some true else none)=some true→False∨True:=fun _=> .inr trivial
  have key:∀v:Int,v≠4→v≠2→((some v:Option Int).bind fun r1=>
    if(r1==4)=true then(some (14:Int))else(if(r1==2)=true then(if(!(g.xE==([]:List UInt8)))=true then(some 14)else((wN n (zu.mk g.zy.zo)).bind fun r6=>
    some r6))else((if(decide ((List.length g.zy.zo:Int)>0))=true then(some true)else((jt n r1 g.xE false).bind fun r7=>
    some (!r7))).bind fun y9=>
    if y9=true then(some 14)else(some 0))))=some 0→g.zy.zo= []:=by
   intro v h4 h2 h
   rw [Option.bind_some,if_neg (by simpa using h4),if_neg (by simpa using h2)]at h
   by_cases hl:g.zy.zo= []
   ·exact hl
   ·have:0<g.zy.zo.length:=List.length_pos_iff.2 hl
    rw [if_pos (by rw [decide_eq_true_eq]; omega),Option.bind_some,if_pos rfl]at h
    injection h with h; exact absurd h (by decide)
  by_cases k2:g.zV=1
  ·rw [k2,if_pos (by decide)]at h
   exact⟨.inl k2,key 0 (by decide) (by decide) h⟩
  by_cases k3:g.zV=2
  ·rw [k3,if_neg (by decide),if_pos (by decide)]at h
   exact⟨.inr (.inl k3),key 1 (by decide) (by decide) h⟩
  by_cases k4:g.zV=7
  ·rw [k4,if_neg (by decide),if_neg (by decide),if_neg (by decide),if_pos (by decide)]at h
   exact⟨.inr (.inr k4),key 3 (by decide) (by decide) h⟩
  rw [if_neg (by simpa using k2),if_neg (by simpa using k3),if_neg (by simpa using k1),if_neg (by simpa using k4),Option.bind_some,if_pos (by decide)]at h
  injection h with h; exact absurd h (by decide)
theorem PR {n B:Nat} {l:List (List Att)} (h:okN l) (hb:BdN B l) (hB:B≤1000000) (hn:B+100≤n):okG n ⟨4,[],⟨l⟩⟩:=by
 unfold okG yy kG
 dsimp only
 rw [if_neg (by decide),if_neg (by decide),if_pos (by decide),Option.bind_some,if_neg (by decide),if_pos (by decide),if_neg (by decide),W3 hb hB hn,gg.2 h]
 rfl
theorem Ul {n B:Nat} {g:Gen} (h:okG n g) (hb:BdN B g.zy.zo) (hB:B≤1000000) (hn:B+1000≤n):okG n (bA g):=by
 obtain⟨k,t,⟨l⟩⟩:=g
 rcases Ym h hb hB (by omega)with⟨h1,h2,h3⟩|⟨h1,h2⟩
 ·simp only at h1 h2 h3
  subst h1 h2
  exact PR (Xn h3) (De (Xn h3)) (by omega) (by omega)
 ·simp only at h2
  subst h2
  exact h
theorem Xe {n B:Nat} {g:Gen} (h:okG n g) (hb:BdG B g) (hB:B≤60000) (hn:B+1000≤n):POk (uK g)∧(uK g).2.length≤B+4333∧Wf 5 (uK g):=by
 rcases Ym h hb.2 (by omega) (by omega)with⟨h1,h2,h3⟩|⟨h1,h2⟩
 ·have e:uK g=(164,(tWrap (wc g.zy.zo).1 (wc g.zy.zo).2).1):=by unfold uK; rw [if_pos h1]
  have l1:=bI h3
  have l2:=yd (wc g.zy.zo).1 (wc g.zy.zo).2
  rw [e]
  refine⟨⟨by dsimp only; decide,by dsimp only; decide,by dsimp only; omega⟩,by dsimp only; omega, ?_⟩
  have ew:(tWrap (wc g.zy.zo).1 (wc g.zy.zo).2).1=wraps [wc g.zy.zo]:=by simp [wraps]
  rw [ew]
  exact Wf.node (t:=164) (k:=4) (l:= [wc g.zy.zo]) fun q hq=>by
   rw [List.mem_singleton]at hq; subst hq; exact⟨Ux h3,B3 h3⟩
 ·have hk:¬g.zV=4:=by omega
  have e:uK g=((128+g.zV).toNat,g.xE):=by unfold uK; rw [if_neg hk]
  have:=hb.1
  rw [e]
  rcases h1 with h1|h1|h1<;>rw [h1]
  all_goals refine⟨⟨by dsimp only; decide,by dsimp only; decide,by dsimp only; omega⟩,by dsimp only; omega,Wf.leaf (by decide)⟩
theorem nH {n B:Nat} {g:Gen} (h:okG n g) (hb:BdG B g) (hB:B≤60000) (hn:B+1000≤n):u6 n g false=some ((tWrap (uK g).1 (uK g).2).1,0):=by
 obtain⟨hp,hl,_⟩:=Xe h hb hB hn
 unfold u6
 have h':yy n ⟨g.zV,g.xE,⟨g.zy.zo⟩⟩ false=some 0:=h
 rw [h',Option.bind_some,if_neg (by decide)]
 rcases Ym h hb.2 (by omega) (by omega)with⟨h1,h2,h3⟩|⟨h1,h2⟩
 ·have e:uK g=(164,(tWrap (wc g.zy.zo).1 (wc g.zy.zo).2).1):=by unfold uK; rw [if_pos h1]
  rw [e]at hl ⊢
  have e0:Jg g.zy.zo=((tWrap 48 (wc g.zy.zo).2).1,0):=by unfold Jg; rw [if_neg (by rw [gg.2 h3]; simp)]
  have ek:IntKind.wrap .i64 ((160:Int)+4)=((164:Nat):Int):=by decide
  rw [if_neg (by rw [h1]; decide),Jb hb.2 (by omega) (by omega),Option.bind_some,e0,if_neg (by simp),h1,ek]
  have l3:(tWrap 48 (wc g.zy.zo).2).1.length≤B+4333:=hl
  rw [Xo (by omega) (by omega) (by dsimp only; omega) (by omega),Option.bind_some,qw (t:=164) (by dsimp only; omega)]
  rfl
 ·have hk:¬g.zV=4:=by omega
  have e:uK g=((128+g.zV).toNat,g.xE):=by unfold uK; rw [if_neg hk]
  have hbt:=hb.1
  have ek:IntKind.wrap .i64 ((128:Int)+g.zV)=(((128+g.zV).toNat:Nat):Int):=by rw [wt (by omega)]; omega
  rw [e,if_pos (by simpa using hk),ek,Xo (by omega) (by rcases h1 with h1|h1|h1<;>rw [h1]<;>decide) (by omega) (by omega),Option.bind_some,qw (by omega)]
theorem QZ {n B:Nat} (hB:B≤60000) (hn:B+1000≤n) (l:List Gen) (ho:∀g∈l,okG n g) (hb:∀g∈l,BdG B g) (hl:l.length≤16):∀(k i:Nat) (acc:Bs),i≤l.length→l.length-i<k→acc.length≤100000*i→xY n l k acc (i:Int)=some (.nxt (acc++wraps ((l.drop i).map uK)))
 |0,i,_,_,h,_=>by omega
 | k+1,i,acc,hi,hk,ha=>by
  rw [xY]
  by_cases hc:i<l.length
  ·have hx:=List.getElem_mem hc
   obtain⟨_,hgl,_⟩:=Xe (ho _ hx) (hb _ hx) hB hn
   have hw:=yd (uK l[i]).1 (uK l[i]).2
   have he:u6 n ⟨l[i].zV,l[i].xE,⟨l[i].zy.zo⟩⟩ false=some ((tWrap (uK l[i]).1 (uK l[i]).2).1,0):=nH (ho _ hx) (hb _ hx) hB hn
   rw [if_pos (by rw [decide_eq_true_eq]; omega),yf hc,Option.bind_some,he,Option.bind_some,if_neg (by simp),pT (by dsimp only; omega),Option.bind_some,w1 (by omega)]
   dsimp only
   rw [QZ hB hn l ho hb hl k (i+1) _ (by omega) (by omega) (by rw [List.length_append]; omega),List.drop_eq_getElem_cons hc,List.map_cons,jQ,List.append_assoc]
  ·rw [if_neg (by rw [decide_eq_true_eq]; omega),List.drop_eq_nil_of_le (by omega)]
   simp [wraps]
theorem lH {n B:Nat} (hB:B≤60000) (hn:B+1000≤n) {l:List Gen} (ho:∀g∈l,okG n g) (hb:∀g∈l,BdG B g) (h0:l≠ []) (hl:l.length≤16):vD n l=some (wraps (l.map uK),0):=by
 have hp:0<l.length:=List.length_pos_iff.2 h0
 unfold vD jE
 have e:=QZ (n:=n) hB hn l ho hb hl n 0 [] (by omega) (by omega) (by simp)
 rw [show((0:Nat):Int)=0 from rfl,List.drop_zero,List.nil_append]at e
 rw [if_neg (by rw [beq_iff_eq]; omega),if_neg (by rw [decide_eq_true_eq]; omega),Option.bind_some,if_neg (by decide),e]
 rfl
theorem nA {n B:Nat} {g:Gen} (h:okG n g) (hb:BdG B g) (hB:B≤60000) (hn:200000000≤n):jY n (elm (uK g)) false=some (bA g,0):=by
 have hs:yy n ⟨g.zV,g.xE,⟨ZJ g.zy.zo⟩⟩ false=some 0:=Ul h hb.2 (by omega) (by omega)
 obtain⟨hD,hO,hBk⟩:=Du (n:=n) (M:=900000) (by omega) hn
 unfold jY
 rcases Ym h hb.2 (by omega) (by omega)with⟨h1,h2,h3⟩|⟨h1,h2⟩
 ·have e:uK g=(164,(tWrap (wc g.zy.zo).1 (wc g.zy.zo).2).1):=by unfold uK; rw [if_pos h1]
  have l1:=bI h3
  have l2:=yd (wc g.zy.zo).1 (wc g.zy.zo).2
  have et:(elm (164,(tWrap (wc g.zy.zo).1 (wc g.zy.zo).2).1)).zT=164:=rfl
  have ec:(elm (164,(tWrap (wc g.zy.zo).1 (wc g.zy.zo).2).1)).zq=(tWrap (wc g.zy.zo).1 (wc g.zy.zo).2).1:=rfl
  rw [e,et,ec,if_neg (by decide),if_neg (by decide),Option.bind_some,if_neg (by decide),if_pos (by decide),cp hD hO (by omega) (by omega) (by omega),Option.bind_some,Xb hBk h3,if_neg (by simp)]
  simp only [xJ]
  rw [h1,h2]at hs
  rw [hs,Option.bind_some,if_neg (by decide)]
  unfold bA
  rw [h1,h2]
 ·have hk:¬g.zV=4:=by omega
  have e:uK g=((128+g.zV).toNat,g.xE):=by unfold uK; rw [if_neg hk]
  have et:(elm ((128+g.zV).toNat,g.xE)).zT=128+g.zV:=by show(((128+g.zV).toNat:Nat):Int)=_; omega
  have ec:(elm ((128+g.zV).toNat,g.xE)).zq=g.xE:=rfl
  have key:(if((128+g.zV)==(129:Int))=true then(some ((128+g.zV)==(129:Int)))else(if((128+g.zV)==(130:Int))=true then(some ((128+g.zV)==(130:Int)))else(some ((128+g.zV)==(135:Int)))))=some true:=by
   rcases h1 with h1|h1|h1<;>rw [h1]<;>rfl
  have ew:IntKind.wrap .i64 (128+g.zV-128)=g.zV:=by rw [wt (by omega)]; omega
  rw [e,et,ec,key,Option.bind_some,if_pos rfl,ew]
  simp only [xJ]
  rw [h2]at hs
  have hs':yy n ⟨g.zV,g.xE,⟨[]⟩⟩ false=some 0:=hs
  rw [hs',Option.bind_some,if_neg (by decide)]
  unfold bA
  rw [h2]
  rfl
theorem QO {n B:Nat} (hB:B≤60000) (hn:200000000≤n) (l:List Gen) (ho:∀g∈l,okG n g) (hb:∀g∈l,BdG B g) (hl:l.length≤16):∀(k i:Nat) (acc:List Gen),i≤l.length→l.length-i<k→acc.length≤i→wb n ((l.map uK).map elm,0) k acc (i:Int)=some (.nxt (acc++(l.drop i).map bA))
 |0,i,_,_,h,_=>by omega
 | k+1,i,acc,hi,hk,ha=>by
  rw [wb]
  have hlen:((l.map uK).map elm).length=l.length:=by rw [List.length_map,List.length_map]
  dsimp only
  rw [hlen]
  by_cases hc:i<l.length
  ·have hx:=List.getElem_mem hc
   have hi2:z6 ((l.map uK).map elm) (i:Int)=some (elm (uK l[i])):=by rw [yf (by rw [hlen]; omega)]; simp
   rw [if_pos (by rw [decide_eq_true_eq]; omega),hi2,Option.bind_some,nA (ho _ hx) (hb _ hx) hB hn,Option.bind_some,if_neg (by simp),yZ (by rw [List.length_singleton]; omega),Option.bind_some,w1 (by omega)]
   have:=QO hB hn l ho hb hl k (i+1) (acc ++ [bA l[i]]) (by omega) (by omega) (by rw [List.length_append,List.length_singleton]; omega)
   rw [List.append_assoc,List.singleton_append]at this
   rw [List.drop_eq_getElem_cons hc,List.map_cons]
   exact this
  ·rw [if_neg (by rw [decide_eq_true_eq]; omega),List.drop_eq_nil_of_le (by omega)]
   simp
theorem fk {n B:Nat} (hB:B≤60000) (hn:200000000≤n) {l:List Gen} (ho:∀g∈l,okG n g) (hb:∀g∈l,BdG B g) (h0:l≠ []) (hl:l.length≤16) (hw:(wraps (l.map uK)).length≤131072):vA n (wraps (l.map uK))=some (l.map bA,0):=by
 have hp:0<l.length:=List.length_pos_iff.2 h0
 have hq:∀p∈l.map uK,POk p:=by
  intro p hp; obtain⟨g,hg,rfl⟩:=List.mem_map.1 hp; exact(Xe (ho g hg) (hb g hg) hB (by omega)).1
 unfold vA jE
 have e:=QO (n:=n) hB hn l ho hb hl n 0 [] (by omega) (by omega) (by simp)
 rw [show((0:Nat):Int)=0 from rfl,List.drop_zero,List.nil_append]at e
 have hlen:((l.map uK).map elm).length=l.length:=by rw [List.length_map,List.length_map]
 rw [qS (by omega) (by omega),vb hq,Option.bind_some,if_neg (by simp)]
 dsimp only
 rw [hlen,if_neg (by rw [beq_iff_eq]; omega),if_neg (by rw [decide_eq_true_eq]; omega),Option.bind_some,if_neg (by decide),e]
 rfl
def cf (m:Nat) (t:Int):Bool:=match uY (m+1000) t with
 | some (s,e)=>decide (e=0)&&(decide ((jZ s).1.zT=23)||decide ((jZ s).1.zT=24))&&decide ((jZ s).1.zq.length≤20)&&decide (s=(tWrap (jZ s).1.zT.toNat (jZ s).1.zq).1) &&
  (match uO (m+1000) (jZ s).1.zT (jZ s).1.zq with|some (v,f)=>decide (v=t)&&decide (f=0)|none=>false)
 |none=>false
def Ve:List Int:= [0,1000,2000000000,3155759999,3155760000,254033452799,2400000000]
theorem Gi (m:Nat):Ve.all (cf m)=true:=by kernel_rfl
theorem PM {n:Nat} (hn:1000≤n) {t:Int} (ht:t∈Ve):∃(g:Nat) (c:Bs),(g=23∨g=24)∧c.length≤20∧uY n t=some ((tWrap g c).1,0)∧uO n (g:Int) c=some (t,0):=by
 obtain⟨m,rfl⟩:∃m,n=m+1000:=⟨n-1000,by omega⟩
 have h:=List.all_eq_true.1 (Gi m) t ht
 unfold cf at h
 cases he:uY (m+1000) t with
 |none=>rw [he]at h; cases h
 | some r=>
  obtain⟨s,e⟩:=r
  rw [he]at h
  simp only [Bool.and_eq_true,Bool.or_eq_true,decide_eq_true_eq]at h
  obtain⟨⟨⟨⟨h1,h2⟩,h3⟩,h4⟩,h5⟩:=h
  have hg:(jZ s).1.zT=(((jZ s).1.zT.toNat:Nat):Int):=by omega
  refine⟨(jZ s).1.zT.toNat,(jZ s).1.zq,by omega,h3,by rw [←h4,h1], ?_⟩
  rw [←hg]
  cases hd:uO (m+1000) (jZ s).1.zT (jZ s).1.zq with
  |none=>rw [hd]at h5; cases h5
  | some r=>
   obtain⟨v,f⟩:=r
   rw [hd]at h5
   simp only [Bool.and_eq_true,decide_eq_true_eq]at h5
   rw [h5.1,h5.2]
def Jf (m:Nat) (v:Nat):Bool:=match w5 (m+1000) (v:Int)with
 |some (c,e)=>decide (e=0)&&decide (c.length≤4)&&(match uH (m+1000) c with|some (w,f)=>decide (w=(v:Int))&&decide (f=0)|none=>false)
 |none=>false
theorem cX (m:Nat):((List.range 128).all fun v=>Jf m v)=true:=by kernel_rfl
theorem cM (m:Nat):((List.range 128).all fun v=>Jf m (v+128))=true:=by kernel_rfl
theorem cP (m:Nat):((List.range 128).all fun v=>Jf m (v+256))=true:=by kernel_rfl
theorem cT (m:Nat):((List.range 128).all fun v=>Jf m (v+384))=true:=by kernel_rfl
theorem PS {n:Nat} (hn:1000≤n) {u:Int} (h0:0≤u) (h1:u≤511):∃c:Bs,c.length≤4∧w5 n u=some (c,0)∧uH n c=some (u,0):=by
 obtain⟨m,rfl⟩:∃m,n=m+1000:=⟨n-1000,by omega⟩
 obtain⟨v,rfl⟩:∃v:Nat,u=(v:Int):=⟨u.toNat,by omega⟩
 have h:Jf m v=true:=by
  by_cases a:v<128
  ·exact List.all_eq_true.1 (cX m) v (by simp; omega)
  by_cases b:v<256
  ·have:=List.all_eq_true.1 (cM m) (v-128) (by simp; omega)
   rwa [show v-128+128=v by omega]at this
  by_cases c:v<384
  ·have:=List.all_eq_true.1 (cP m) (v-256) (by simp; omega)
   rwa [show v-256+256=v by omega]at this
  ·have:=List.all_eq_true.1 (cT m) (v-384) (by simp; omega)
   rwa [show v-384+384=v by omega]at this
 unfold Jf at h
 cases he:w5 (m+1000) (v:Int)with
 |none=>rw [he]at h; cases h
 | some r=>
  obtain⟨c,e⟩:=r
  rw [he]at h
  simp only [Bool.and_eq_true,decide_eq_true_eq]at h
  obtain⟨⟨a,b⟩,d⟩:=h
  refine⟨c,b,by rw [a], ?_⟩
  cases hd:uH (m+1000) c with
  |none=>rw [hd]at d; cases d
  | some r=>
   obtain⟨w,f⟩:=r
   rw [hd]at d
   simp only [Bool.and_eq_true,decide_eq_true_eq]at d
   rw [d.1,d.2]
abbrev Qry:=zt
def jA (q:Qry):Qry:={q with zK:=q.zK.map bA,zz:=q.zz.map gE}
def BdQ (B:Nat) (q:Qry):Prop:=q.zQ.length≤B∧(∀s∈q.zl,s.length≤B)∧(∀g∈q.zK,BdG B g)∧∀a∈q.zz,BdN B a.zy.zo
def QOk (n:Nat) (q:Qry):Prop:=(q.zQ= []∨(xS q.zQ).isSome=true)∧(0≤q.wa∧q.wa≤511)∧(1≤q.xl∧q.xl≤8)∧(q.zl.length≤8∧q.zK.length≤16∧q.zz.length≤64)∧q.zl.all (fun s=>(xS s).isSome)=true∧(∀g∈q.zK,okG n g)∧∀a∈q.zz,YX a
theorem US {n:Nat} {q q':Qry} (h:q'.zl=q.zl):∀(k:Nat) (i:Int) (m:List (Bs×Bool)),yc n q' k i m=yc n q k i m
 |0,i,m=>rfl
 |k+1,i,m=>by rw [yc,yc]; simp only [h,US h k]
theorem KO {n B:Nat} (hB:B≤100000) (hn:B+1000≤n) (q:Qry) (hb:∀s∈q.zl,s.length≤B) (hl:q.zl.length≤8):∀(k i:Nat) (m:List (Bs×Bool)) (c:Ctl Int (List (Bs×Bool))),i≤q.zl.length→yc n q k (i:Int) m=some c →
  (∃m',c= .nxt m'∧∀s∈q.zl.drop i,(xS s).isSome=true)∨c= .ret 11
 |0,i,m,c,_,h=>by rw [yc]at h; cases h
 | k + 1,i,m,c,hi,h=>by
  rw [yc]at h
  by_cases hc:i<q.zl.length
  ·have hx:=hb _ (List.getElem_mem hc)
   rw [if_pos (by rw [decide_eq_true_eq]; omega),yf hc,Option.bind_some,gM (by omega) (by omega),Option.bind_some]at h
   by_cases hv:(xS q.zl[i]).isSome=true
   ·rw [if_neg (by rw [hv]; simp),w1 (by omega)]at h
    rcases KO hB hn q hb hl k (i+1) _ c (by omega) h with⟨m',h1,h2⟩|h1
    ·refine .inl ⟨m',h1,fun s hs=> ?_⟩
     rw [List.drop_eq_getElem_cons hc]at hs
     rcases List.mem_cons.1 hs with rfl|hs
     ·exact hv
     ·exact h2 s hs
    ·exact .inr h1
   ·rw [if_pos (by simpa using hv)]at h
    injection h with h; exact .inr h.symm
  ·rw [if_neg (by rw [decide_eq_true_eq]; omega)]at h
   injection h with h
   refine .inl ⟨m,h.symm, ?_⟩
   rw [List.drop_eq_nil_of_le (by omega)]; simp
theorem KE {n:Nat} (q:Qry) (hl:q.zK.length≤16):∀(k i:Nat) (c:Ctl Int Unit),i≤q.zK.length→yo n q k (i:Int)=some c →
  (c= .nxt ()∧∀g∈q.zK.drop i,okG n g)∨∃r,r≠0∧c= .ret r
 |0,i,c,_,h=>by rw [yo]at h; cases h
 | k + 1,i,c,hi,h=>by
  rw [yo]at h
  by_cases hc:i<q.zK.length
  ·rw [if_pos (by rw [decide_eq_true_eq]; omega),yf hc,Option.bind_some,Option.bind_eq_some_iff]at h
   obtain⟨r,h1,h2⟩:=h
   by_cases hv:r=0
   ·subst hv
    rw [if_neg (by decide),w1 (by omega)]at h2
    rcases KE q hl k (i+1) c (by omega) h2 with⟨g1,g2⟩|g1
    ·refine .inl ⟨g1,fun s hs=> ?_⟩
     rw [List.drop_eq_getElem_cons hc]at hs
     rcases List.mem_cons.1 hs with rfl|hs
     ·exact h1
     ·exact g2 s hs
    ·exact .inr g1
   ·rw [if_pos (by simpa using hv)]at h2
    injection h2 with h2; exact .inr ⟨r,hv,h2.symm⟩
  ·rw [if_neg (by rw [decide_eq_true_eq]; omega)]at h
   injection h with h
   refine .inl ⟨h.symm, ?_⟩
   rw [List.drop_eq_nil_of_le (by omega)]; simp
theorem U0 {n:Nat} (q:Qry) (hl:q.zK.length≤16) (ho:∀g∈q.zK,okG n g):∀(k i:Nat),i≤q.zK.length→q.zK.length-i<k→yo n q k (i:Int)=some (.nxt ())
 |0,i,_,h=>by omega
 | k+1,i,hi,hk=>by
  rw [yo]
  by_cases hc:i<q.zK.length
  ·have h:yy n ⟨q.zK[i].zV,q.zK[i].xE,⟨q.zK[i].zy.zo⟩⟩ false=some 0:=ho _ (List.getElem_mem hc)
   rw [if_pos (by rw [decide_eq_true_eq]; omega),yf hc,Option.bind_some,h,Option.bind_some,if_neg (by decide),w1 (by omega)]
   exact U0 q hl ho k (i+1) (by omega) (by omega)
  ·rw [if_neg (by rw [decide_eq_true_eq]; omega)]
theorem K4 {n B:Nat} (hB:B≤100000) (hn:B+1000≤n) (q:Qry) (hb:∀a∈q.zz,BdN B a.zy.zo) (hl:q.zz.length≤64):∀(k i:Nat) (c:Ctl Int Unit),i≤q.zz.length→yn n q k (i:Int)=some c →
  (c= .nxt ()∧∀a∈q.zz.drop i,YX a)∨∃r,r≠0∧c= .ret r
 |0,i,c,_,h=>by rw [yn]at h; cases h
 | k + 1,i,c,hi,h=>by
  rw [yn]at h
  by_cases hc:i<q.zz.length
  ·rw [if_pos (by rw [decide_eq_true_eq]; omega),yf hc,Option.bind_some,W3 (hb _ (List.getElem_mem hc)) (by omega) (by omega),Option.bind_some]at h
   by_cases h1:kM q.zz[i].zy.zo≠0
   ·rw [if_pos (by simpa using h1)]at h
    injection h with h; exact .inr ⟨_,h1,h.symm⟩
   rw [if_neg (by simpa using h1)]at h
   by_cases h2:q.zz[i].zy.zo= []
   ·rw [if_pos (by rw [h2]; rfl)]at h
    injection h with h; exact .inr ⟨14,by decide,h.symm⟩
   rw [if_neg (by simpa using h2),Do,Option.bind_some]at h
   by_cases h3:okK q.zz[i].zE=true
   ·rw [if_pos (show okK ⟨q.zz[i].zE.zA,q.zz[i].zE.xL,q.zz[i].zE.zY⟩=true from h3),if_neg (by decide),w1 (by omega)]at h
    rcases K4 hB hn q hb hl k (i+1) c (by omega) h with⟨g1,g2⟩|g1
    ·refine .inl ⟨g1,fun s hs=> ?_⟩
     rw [List.drop_eq_getElem_cons hc]at hs
     rcases List.mem_cons.1 hs with rfl|hs
     ·exact⟨gg.1 (by simpa using h1),h2,h3⟩
     ·exact g2 s hs
    ·exact .inr g1
   ·rw [if_neg (show ¬okK ⟨q.zz[i].zE.zA,q.zz[i].zE.xL,q.zz[i].zE.zY⟩=true from h3),if_pos (by decide)]at h
    injection h with h; exact .inr ⟨18,by decide,h.symm⟩
  ·rw [if_neg (by rw [decide_eq_true_eq]; omega)]at h
   injection h with h
   refine .inl ⟨h.symm, ?_⟩
   rw [List.drop_eq_nil_of_le (by omega)]; simp
theorem UN {n:Nat} (hn:2000≤n) (q:Qry) (hl:q.zz.length≤64) (ho:∀a∈q.zz,YX a):∀(k i:Nat),i≤q.zz.length→q.zz.length-i<k→yn n q k (i:Int)=some (.nxt ())
 |0,i,_,h=>by omega
 | k + 1,i,hi,hk=>by
  rw [yn]
  by_cases hc:i<q.zz.length
  ·have h:=ho _ (List.getElem_mem hc)
   rw [if_pos (by rw [decide_eq_true_eq]; omega),yf hc,Option.bind_some,W3 (De h.1) (by omega) (by omega),Option.bind_some,gg.2 h.1,if_neg (by decide),if_neg (by have:=h.2.1; simpa using this),Do,Option.bind_some,
    if_pos (show okK ⟨q.zz[i].zE.zA,q.zz[i].zE.xL,q.zz[i].zE.zY⟩=true from h.2.2),if_neg (by decide),w1 (by omega)]
   exact UN hn q hl ho k (i+1) (by omega) (by omega)
  ·rw [if_neg (by rw [decide_eq_true_eq]; omega)]
theorem cG {X:Type} {o:Option (Ctl Int X)} {f:X→Option Int} (h:xJ o (fun r=>some r) f=some 0):o=some (.ret 0)∨∃x,o=some (.nxt x)∧f x=some 0:=by
 match o with
 |none=>cases h
 |some (.ret r)=>exact .inl (by simp only [xJ]at h; injection h with h; rw [h])
 |some (.nxt x)=>exact .inr ⟨x,rfl,h⟩
theorem Q2 {n B:Nat} {q:Qry} (hB:B≤60000) (hn:B+2000≤n) (hb:BdQ B q) (h:xt n q=some 0):QOk n q∧xt n (jA q)=some 0:=by
 unfold xt at h ⊢
 have e1:(jA q).qq=q.qq:=rfl
 have e2:(jA q).zQ=q.zQ:=rfl
 have e3:(jA q).wa=q.wa:=rfl
 have e4:(jA q).xl=q.xl:=rfl
 have e5:(jA q).zl=q.zl:=rfl
 have e6:(jA q).zK.length=q.zK.length:=by show(q.zK.map bA).length=_; rw [List.length_map]
 have e7:(jA q).zz.length=q.zz.length:=by show(q.zz.map gE).length=_; rw [List.length_map]
 rw [e1,e2,e3,e4,e5,e6,e7]
 rw [ifb,Option.bind_some]at h ⊢
 by_cases c1:(decide (q.qq<0)||decide (q.qq>254033452799))=true
 ·rw [if_pos c1]at h; injection h with h; exact absurd h (by decide)
 rw [if_neg c1]at h ⊢
 have hp:∃y,(if(!(q.zQ==([]:List UInt8)))=true then((uA n q.zQ).bind fun r12=>some (!r12))else(some false))=some y∧(y=false→q.zQ= []∨(xS q.zQ).isSome=true):=by
  by_cases p0:q.zQ= []
  ·exact⟨false,by rw [if_neg (by rw [p0]; decide)],fun _=> .inl p0⟩
  ·have:=hb.1
   refine⟨!(xS q.zQ).isSome,by rw [if_pos (by simpa using p0),gM (by omega) (by omega)]; rfl,fun hy=> .inr (by simpa using hy)⟩
 obtain⟨y,hy1,hy2⟩:=hp
 rw [hy1,Option.bind_some]at h ⊢
 cases y with
 |true=>rw [if_pos rfl]at h; injection h with h; exact absurd h (by decide)
 | false=>
  rw [if_neg (by decide)]at h ⊢
  rw [mf,Option.bind_some]at h ⊢
  by_cases c2:(decide (q.wa<0)||(decide (q.wa>511)||(decide (q.xl<1)||decide (q.xl>8))))=true
  ·rw [if_pos c2]at h; injection h with h; exact absurd h (by decide)
  rw [if_neg c2]at h ⊢
  rw [cO,Option.bind_some]at h ⊢
  by_cases c3:(decide ((List.length q.zl:Int)>8)||(decide ((List.length q.zK:Int)>16)||decide ((List.length q.zz:Int)>64)))=true
  ·rw [if_pos c3]at h; injection h with h; exact absurd h (by decide)
  rw [if_neg c3]at h ⊢
  simp only [Bool.not_eq_true,Bool.or_eq_false_iff,decide_eq_false_iff_not]at c2 c3
  obtain⟨l1,l2,l3⟩:=c3
  rw [US e5]
  rcases cG h with h1|⟨m,h1,h2⟩
  ·rcases KO (by omega) (by omega) q hb.2.1 (by omega) n 0 [] _ (by omega) h1 with⟨m',h2,_⟩|h2
   ·cases h2
   ·injection h2 with h2; exact absurd h2 (by decide)
  have a1:∀s∈q.zl,(xS s).isSome=true:=by
   rcases KO (by omega) (by omega) q hb.2.1 (by omega) n 0 [] _ (by omega) h1 with⟨m',_,h3⟩|h3
   ·rw [List.drop_zero]at h3; exact h3
   ·cases h3
  rw [h1]
  simp only [xJ]
  by_cases c4:decide ((List.length m:Int)<(List.length q.zl:Int))=true
  ·rw [if_pos c4]at h2; injection h2 with h2; exact absurd h2 (by decide)
  rw [if_neg c4]at h2 ⊢
  rcases cG h2 with h3|⟨u,h3,h4⟩
  ·rcases KE q (by omega) n 0 _ (by omega) h3 with⟨h4,_⟩|⟨r,hr,h4⟩
   ·cases h4
   ·injection h4 with h4; exact absurd h4.symm hr
  have a2:∀g∈q.zK,okG n g:=by
   rcases KE q (by omega) n 0 _ (by omega) h3 with⟨_,h5⟩|⟨r,hr,h5⟩
   ·rw [List.drop_zero]at h5; exact h5
   ·cases h5
  rcases cG h4 with h5|⟨v,h5,h6⟩
  ·rcases K4 (by omega) (by omega) q hb.2.2.2 (by omega) n 0 _ (by omega) h5 with⟨h6,_⟩|⟨r,hr,h6⟩
   ·cases h6
   ·injection h6 with h6; exact absurd h6.symm hr
  have a3:∀a∈q.zz,YX a:=by
   rcases K4 (by omega) (by omega) q hb.2.2.2 (by omega) n 0 _ (by omega) h5 with⟨_,h7⟩|⟨r,hr,h7⟩
   ·rw [List.drop_zero]at h7; exact h7
   ·cases h7
  refine⟨⟨hy2 rfl,by omega,by omega,by omega,List.all_eq_true.2 a1,a2,a3⟩, ?_⟩
  have b2:=U0 (n:=n) (jA q) (by omega) (fun g hg=>by
   obtain⟨x,hx,rfl⟩:=List.mem_map.1 (show g∈q.zK.map bA from hg)
   exact Ul (a2 x hx) (hb.2.2.1 x hx).2 (by omega) (by omega)) n 0 (by omega) (by omega)
  have b3:=UN (n:=n) (by omega) (jA q) (by omega) (fun g hg=>by
   obtain⟨x,hx,rfl⟩:=List.mem_map.1 (show g∈q.zz.map gE from hg)
   exact UZ (a3 x hx)) n 0 (by omega) (by omega)
  rw [show((0:Nat):Int)=0 from rfl]at b2 b3
  rw [b2]
  simp only [xJ]
  rw [b3]
def optE (b:Bool) (p:Nat×Bs):List (Nat×Bs):=if b=true then [p]else []
def q11 (q:Qry):List (Nat×Bs):=optE (!q.zz.isEmpty) (168,wraps (q.zz.map ancE)) ++ []
def q10 (q:Qry):List (Nat×Bs):=optE q.qk (135,[255])++q11 q
def q9 (q:Qry):List (Nat×Bs):=numE 2 q.xl::q10 q
def q8 (q:Qry):List (Nat×Bs):=optE (!q.zK.isEmpty) (166,wraps (q.zK.map uK))++q9 q
def q7 (q:Qry):List (Nat×Bs):=optE q.br (133,[255])++q8 q
def q6 (q:Qry):List (Nat×Bs):=optE q.ue (132,[255])++q7 q
def q5 (q:Qry):List (Nat×Bs):=optE q.uL (131,[255])++q6 q
def q4 (q:Qry):List (Nat×Bs):=optE (!q.zl.isEmpty) (162,wraps (q.zl.map polE))++q5 q
def q3 (fl:Bs) (q:Qry):List (Nat×Bs):=optE (q.wa !=0) (129,fl)++q4 q
def q2 (fl:Bs) (q:Qry):List (Nat×Bs):=optE (!(q.zQ== [])) (128,(polE q.zQ).2)++q3 fl q
def bf (tm:Nat×Bs) (fl:Bs) (q:Qry):List (Nat×Bs):=tm::q2 fl q
theorem Gn (a b:List (Nat×Bs)):wraps (a++b)=wraps a++wraps b:=by simp [wraps, -List.length_flatten]
theorem bb (b:Bool) (p:Nat×Bs):(wraps (optE b p)).length≤p.2.length+5:=by
 unfold optE
 have:=yd p.1 p.2
 split
 ·simp only [wraps,List.map_cons,List.map_nil,List.flatten_cons,List.flatten_nil,List.append_nil]; exact this
 ·simp [wraps]
theorem pY (p:Nat×Bs):wraps (optE true p)=(tWrap p.1 p.2).1:=by simp [optE,wraps]
theorem Vs (p:Nat×Bs):wraps (optE false p)= []:=by simp [optE,wraps]
theorem UL {n t:Nat} {X c:Bs} (h1:t≤255) (h2:t%32≠31) (hc:c.length≤131072) (hX:X.length≤1000000) (hn:20≤n):zP n (t:Int) c ⟨X,0⟩=some ⟨X++(tWrap t c).1,0⟩:=by
 rw [U6 h1 h2 (by omega) hn,qw hc]
theorem Bc {n t:Nat} {X:Bs} {b:Bool} (h1:t≤255) (h2:t%32≠31) (hX:X.length≤1000000) (hn:20≤n):xw n (t:Int) b ⟨X,0⟩=some ⟨X++wraps (optE b (t,[255])),0⟩:=by
 unfold xw jS
 cases b with
 |true=>rw [if_pos rfl,if_pos rfl,Option.bind_some,UL h1 h2 (by simp) hX hn,pY]; rfl
 |false=>rw [if_neg (by simp),Vs,List.append_nil]
theorem lA {n B t:Nat} {a:List Bs} {b:Bs} (h1:t≤255) (h2:t%32≠31) (hB:B≤100000000) (hn:a.length+B+40≤n) (ha:a.length≤2000) (hs:a.all (fun s=>(xS s).isSome)=true) (hl:∀s∈a,s.length≤B) (hb:b.length≤1000000):xK n (t:Int) a ⟨b,0⟩=some ⟨b++(tWrap t (wraps (a.map polE))).1,0⟩:=by
 unfold xK
 have e1:=Ud (n:=n) hB (by omega) a (by omega) hs hl n 0 [] (by omega) (by omega) (by simp; omega)
 rw [show((0:Nat):Int)=0 from rfl,List.drop_zero,List.nil_append]at e1
 rw [show kQ n ⟨[],0⟩=some ⟨[],0⟩from rfl,Option.bind_some]
 simp only []
 rw [e1,Option.bind_some]
 have hl:=pF hs
 simp only []
 rw [WL (by simp; omega),List.append_nil,Option.bind_some,UL h1 h2 (by omega) hb (by omega)]; rfl
theorem QJ {n B:Nat} (l:List Anc) (ho:∀a∈l,YX a) (hb:BdL B l) (hB:B≤1000000) (hn:B+100≤n) (hl:l.length≤64):∀(k i:Nat) (b:Bs),i≤l.length→l.length-i<k→b.length≤4403*i→xd n l k (i:Int) b 0=some (b++wraps ((l.drop i).map ancE),0)
 |0,i,_,_,h,_=>by omega
 | k+1,i,b,hi,hk,hbl=>by
  rw [xd]
  by_cases hc:i<l.length
  ·have hx:=List.getElem_mem hc
   have k3:=(Yb (ho _ hx)).2
   have t1:=yd (ancE l[i]).1 (ancE l[i]).2
   have e2:(ancE l[i]).2=wraps (XQ l[i]):=rfl
   rw [←e2]at k3
   have he:wl n ⟨⟨l[i].zy.zo⟩,⟨l[i].zE.zA,l[i].zE.xL,l[i].zE.zY⟩⟩ ⟨b,0⟩=some ⟨b++(tWrap (ancE l[i]).1 (ancE l[i]).2).1,0⟩:=nI (a:=l[i]) (ho _ hx) (hb _ hx) hB hn (by omega)
   rw [if_pos (by rw [decide_eq_true_eq]; omega),yf hc,Option.bind_some,he,Option.bind_some,w1 (by omega)]
   simp only []
   rw [QJ l ho hb hB hn hl k (i+1) _ (by omega) (by omega) (by rw [List.length_append]; omega),List.drop_eq_getElem_cons hc,List.map_cons,jQ,List.append_assoc]
  ·rw [if_neg (by rw [decide_eq_true_eq]; omega),List.drop_eq_nil_of_le (by omega)]
   simp [wraps]
theorem mQ {n B t:Nat} {l:List Anc} {b:Bs} (h1:t≤255) (h2:t%32≠31) (ho:∀a∈l,YX a) (hbl:BdL B l) (hB:B≤1000000) (hn:B+200≤n) (hl:l.length≤10) (hb:b.length≤1000000):w7 n (t:Int) l ⟨b,0⟩=some ⟨b++(tWrap t (wraps (l.map ancE))).1,0⟩:=by
 unfold w7
 have e1:=QJ (n:=n) l ho hbl hB (by omega) (by omega) n 0 [] (by omega) (by omega) (by simp)
 rw [show((0:Nat):Int)=0 from rfl,List.drop_zero,List.nil_append]at e1
 rw [show ki n ⟨[],0⟩=some ⟨[],0⟩from rfl,Option.bind_some]
 simp only []
 rw [e1,Option.bind_some]
 have hw:=Zj ho
 simp only []
 rw [WL (by simp; omega),List.append_nil,Option.bind_some,UL h1 h2 (by omega) hb (by omega)]; rfl
theorem Uo {n B:Nat} (hB:B≤60000) (hn:B+1000≤n) {l:List Gen} (ho:∀g∈l,okG n g) (hb:∀g∈l,BdG B g):(wraps (l.map uK)).length≤(B+4338)*l.length:=by
 have:=pX (m:=B+4333) (l.map uK) (fun p hp=>by obtain⟨g,hg,rfl⟩:=List.mem_map.1 hp; exact(Xe (ho g hg) (hb g hg) hB hn).2.1)
 rw [List.length_map]at this; exact this
theorem J7 (s:Bs) (h:(xS s).isSome=true):(polE s).2.length≤55:=by
 obtain⟨l,he⟩:=Option.isSome_iff_exists.1 h
 unfold polE; rw [he]; exact bV (qU he)
def Ba (n:Nat) (q:Qry):Prop:=QOk n q∧BdQ 252 q∧q.zz.length≤6
theorem sm8 {x:Int} (h:1≤x∧x≤8):sm x=true:=by simp only [sm,Bool.and_eq_true,decide_eq_true_eq]; omega
theorem lF {n g:Nat} {c fl:Bs} {q:Qry} (hn:200000000≤n) (hf:Ba n q) (hv:xt n q=some 0) (hg:g=23∨g=24) (hc:c.length≤20) (ht:uY n q.qq=some ((tWrap g c).1,0)) (hfl:fl.length≤4) (hu:w5 n q.wa=some (fl,0)):
  yv n q=some ((tWrap 48 (wraps (bf (g,c) fl q))).1,0)∧(wraps (bf (g,c) fl q)).length≤131072:=by
 obtain⟨⟨f1,f2,f3,⟨f4,f5,f6⟩,f7,f8,f9⟩,⟨b1,b2,b3,b4⟩,f10⟩:=hf
 have m1:=yd g c
 have m3:=pF f7
 have m4:=Uo (by omega) (by omega) f8 b3
 have m5:=Zj f9
 have m4':(252+4338)*q.zK.length≤73440:=by omega
 have mp:(!(q.zQ== []))=true→(polE q.zQ).2.length≤55:=fun h=>by
  rcases f1 with f1|f1
  ·rw [f1]at h; exact absurd h (by decide)
  ·exact J7 _ f1
 have mp2:(wraps (optE (!(q.zQ== [])) (128,(polE q.zQ).2))).length≤60:=by
  cases hb:(!(q.zQ== []))with
  |true=>have:=mp hb; have:=bb true (128,(polE q.zQ).2); dsimp only at this; omega
  |false=>rw [Vs]; simp
 have mu:=bb (q.wa !=0) (129,fl)
 have mo:=bb (!q.zl.isEmpty) (162,wraps (q.zl.map polE))
 have me:=bb q.uL (131,[255])
 have mm:=bb q.ue (132,[255])
 have ma:=bb q.br (133,[255])
 have mn:=bb (!q.zK.isEmpty) (166,wraps (q.zK.map uK))
 have ms:=bb q.qk (135,[255])
 have mi:=bb (!q.zz.isEmpty) (168,wraps (q.zz.map ancE))
 have ml:=yd 2 [o8 q.xl.toNat]
 simp only [List.length_singleton]at mu mo me mm ma mn ms mi ml
 have ew:wraps (bf (g,c) fl q)=(tWrap g c).1++wraps (optE (!(q.zQ== [])) (128,(polE q.zQ).2))++wraps (optE (q.wa !=0) (129,fl))++wraps (optE (!q.zl.isEmpty) (162,wraps (q.zl.map polE)))++wraps (optE q.uL (131,[255]))++wraps (optE q.ue (132,[255]))++wraps (optE q.br (133,[255])) ++
   wraps (optE (!q.zK.isEmpty) (166,wraps (q.zK.map uK)))++(tWrap 2 [o8 q.xl.toNat]).1++wraps (optE q.qk (135,[255]))++wraps (optE (!q.zz.isEmpty) (168,wraps (q.zz.map ancE))):=by
  unfold bf q2 q3 q4 q5 q6 q7 q8 q9 q10 q11
  simp only [jQ,Gn,List.append_assoc,numE]
  rw [show wraps []= []from rfl,List.append_nil]
 have hlen:(wraps (bf (g,c) fl q)).length≤131072:=by
  rw [ew]; simp only [List.length_append]; omega
 refine⟨?_,hlen⟩
 unfold yv
 rw [hv,Option.bind_some,if_neg (by decide),ht,Option.bind_some,WL (by simp only [List.length_nil]; omega),Option.bind_some,List.nil_append]
 generalize hX0:(tWrap g c).1=X0 at m1 ew
 have s1:(if(!(q.zQ==([]:List UInt8)))=true then((vZ n q.zQ).bind fun r11=>
   (z1 n ([]:List UInt8) r11.2 ⟨X0,0⟩).bind fun r12=>(zP n 128 r11.1 r12).bind fun r13=>some (r13.f_b,r13.f_e))else(some (X0,(0:Int))))=some (X0++wraps (optE (!(q.zQ== [])) (128,(polE q.zQ).2)),0):=by
  cases hb:(!(q.zQ== []))with
  | true=>
   have hs:(xS q.zQ).isSome=true:=by
    rcases f1 with f1|f1
    ·rw [f1]at hb; exact absurd hb (by decide)
    ·exact f1
   obtain⟨l,hl⟩:=Option.isSome_iff_exists.1 hs
   have hpe:(polE q.zQ).2=qf l:=by unfold polE; rw [hl]; rfl
   have hlo:=bV (qU hl)
   rw [if_pos rfl,YU (by omega) (by omega) hl,Option.bind_some,WL (by simp only [List.length_nil]; omega),Option.bind_some,List.append_nil,show(128:Int)=((128:Nat):Int)from rfl,UL (by omega) (by omega) (by dsimp only; omega) (by omega) (by omega),Option.bind_some,pY,hpe]
  |false=>rw [if_neg (by simp),Vs,List.append_nil]
 rw [s1,Option.bind_some]
 generalize hX1:X0++wraps (optE (!(q.zQ== [])) (128,(polE q.zQ).2))=X1 at ew
 have l1:X1.length≤200:=by rw [←hX1,List.length_append]; omega
 have s2:(if(q.wa !=0)=true then((w5 n q.wa).bind fun r21=>
   (z1 n ([]:List UInt8) r21.2 ⟨X1,0⟩).bind fun r22=>(zP n 129 r21.1 r22).bind fun r23=>some (r23.f_b,r23.f_e))else(some (X1,(0:Int))))=some (X1++wraps (optE (q.wa !=0) (129,fl)),0):=by
  cases hb:(q.wa !=0)with
  | true=>
   rw [if_pos rfl,hu,Option.bind_some,WL (by simp only [List.length_nil]; omega),Option.bind_some,List.append_nil,show(129:Int)=((129:Nat):Int)from rfl,UL (by omega) (by omega) (by dsimp only; omega) (by omega) (by omega),Option.bind_some,pY]
  |false=>rw [if_neg (by simp),Vs,List.append_nil]
 dsimp only
 rw [s2,Option.bind_some]
 generalize hX2:X1++wraps (optE (q.wa !=0) (129,fl))=X2 at ew
 have l2:X2.length≤300:=by rw [←hX2,List.length_append]; omega
 have s3:(if(decide ((List.length q.zl:Int)>0))=true then((xK n 162 q.zl ⟨X2,0⟩).bind fun r29=>
   some (r29.f_b,r29.f_e))else(some (X2,(0:Int))))=some (X2++wraps (optE (!q.zl.isEmpty) (162,wraps (q.zl.map polE))),0):=by
  cases hp:q.zl with
  |nil=>rw [if_neg (by decide)]; simp [optE,wraps]
  | cons s r=>
   rw [if_pos (by rw [decide_eq_true_eq,List.length_cons]; omega),←hp,show(162:Int)=((162:Nat):Int)from rfl,lA (B:=252) (by omega) (by omega) (by omega) (by omega) (by omega) f7 b2 (by omega),Option.bind_some,hp,show(!(s::r).isEmpty)=true from rfl,pY]
 dsimp only
 rw [s3,Option.bind_some]
 generalize hX3:X2++wraps (optE (!q.zl.isEmpty) (162,wraps (q.zl.map polE)))=X3 at ew
 have l3:X3.length≤1000:=by rw [←hX3,List.length_append]; omega
 dsimp only
 rw [show(131:Int)=((131:Nat):Int)from rfl,Bc (by omega) (by omega) (by omega) (by omega),Option.bind_some]
 generalize hX4:X3++wraps (optE q.uL (131,[255]))=X4 at ew
 have l4:X4.length≤1010:=by rw [←hX4,List.length_append]; omega
 rw [show(132:Int)=((132:Nat):Int)from rfl,Bc (by omega) (by omega) (by omega) (by omega),Option.bind_some]
 generalize hX5:X4++wraps (optE q.ue (132,[255]))=X5 at ew
 have l5:X5.length≤1020:=by rw [←hX5,List.length_append]; omega
 rw [show(133:Int)=((133:Nat):Int)from rfl,Bc (by omega) (by omega) (by omega) (by omega),Option.bind_some]
 generalize hX6:X5++wraps (optE q.br (133,[255]))=X6 at ew
 have l6:X6.length≤1030:=by rw [←hX6,List.length_append]; omega
 have s7:(if(decide ((List.length q.zK:Int)>0))=true then((vD n q.zK).bind fun r40=>
   (z1 n ([]:List UInt8) r40.2 ⟨X6,0⟩).bind fun r41=>(zP n 166 r40.1 r41).bind fun r42=>some (r42.f_b,r42.f_e))else(some (X6,(0:Int))))=some (X6++wraps (optE (!q.zK.isEmpty) (166,wraps (q.zK.map uK))),0):=by
  cases hp:q.zK with
  |nil=>rw [if_neg (by decide)]; simp [optE,wraps]
  | cons s r=>
   rw [if_pos (by rw [decide_eq_true_eq,List.length_cons]; omega),←hp,lH (B:=252) (by omega) (by omega) f8 b3 (by rw [hp]; simp) f5,Option.bind_some,WL (by simp only [List.length_nil]; omega),Option.bind_some,List.append_nil,show(166:Int)=((166:Nat):Int)from rfl,UL (by omega) (by omega) (by dsimp only; omega) (by omega) (by omega),Option.bind_some,hp,show(!(s::r).isEmpty)=true from rfl,pY]
 dsimp only
 rw [s7,Option.bind_some]
 generalize hX7:X6++wraps (optE (!q.zK.isEmpty) (166,wraps (q.zK.map uK)))=X7 at ew
 have l7:X7.length≤80000:=by rw [←hX7,List.length_append]; omega
 dsimp only
 rw [Wb (t:=2) (sm8 f3) (by omega) (by omega) (by omega) (by omega),Option.bind_some]
 generalize hX8:X7++(tWrap 2 [o8 q.xl.toNat]).1=X8 at ew
 have l8:X8.length≤80010:=by rw [←hX8,List.length_append]; omega
 rw [show(135:Int)=((135:Nat):Int)from rfl,Bc (by omega) (by omega) (by omega) (by omega),Option.bind_some]
 generalize hX9:X8++wraps (optE q.qk (135,[255]))=X9 at ew
 have l9:X9.length≤80020:=by rw [←hX9,List.length_append]; omega
 cases hp:q.zz with
 | nil=>
  have e0:X9=wraps (bf (g,c) fl q):=by rw [ew,hp]; simp [optE,wraps]
  rw [if_neg (by decide),V0 (by omega) (by omega),Option.bind_some,if_neg (by omega),←e0]
 | cons s r=>
  have e0:X9++(tWrap 168 (wraps (q.zz.map ancE))).1=wraps (bf (g,c) fl q):=by
   rw [ew]
   rw [show(!q.zz.isEmpty)=true by rw [hp]; rfl,pY]
  rw [if_pos (by rw [decide_eq_true_eq,List.length_cons]; omega),←hp,show(168:Int)=((168:Nat):Int)from rfl,mQ (B:=252) (by omega) (by omega) f9 b4 (by omega) (by omega) (by omega) (by omega),Option.bind_some,e0,V0 (by omega) (by omega),Option.bind_some,if_neg (by omega)]
end Go.Abs
end
