/- The typed Lean form of ScriptLines gives true for every list of numbers. No condition beyond each statement's own. -/
import Derived.Test.YthfhicembdpjpaaGreatDoorLaw1
set_option linter.all false
section
set_option maxRecDepth 100000
namespace Go.Abs
open Go Go.Proofs IntKind
theorem lP {n:Nat} {s:Bs} (hs:s.length≤1048576):((61:UInt8)∉s∧vN n s [61]=some (s,[],false))∨∃p r,s=p++61::r∧(61:UInt8)∉p∧vN n s [61]=some (p,r,true):=by
 unfold vN wY ZU
 rw [if_pos O0,Option.bind_some]
 rcases Z4 61 s with⟨h1,h2⟩|⟨p,r,h1,h2,h3⟩
 ·rw [h1,if_neg O1]; exact .inl ⟨h2,rfl⟩
 ·right
  have hlen:s.length=p.length+(r.length+1):=by rw [h1]; simp
  have e1:ssl s 0 (p.length:Int)=some p:=by
   have:=qN (s:=s) (i:=0) (j:=p.length) O0 O0
   rw [show((0:Nat):Int)=0 from rfl]at this
   rw [this,h1]; simp
  have e2:wrap .i64 ((p.length:Int)+(List.length ([61]:Bs):Int))=((p.length+1:Nat):Int):=by rw [jX O3]; simp
  have e3:ssl s ((p.length+1:Nat):Int) (List.length s)=some r:=by
   rw [qN O0 (Nat.le_refl _),List.take_length,h1]; simp
  rw [h2,if_pos O4,e1,Option.bind_some,e2,e3]
  exact⟨p,r,h1,h3,rfl⟩
theorem B7 {n:Nat} {x:Bs} (hx:x.length≤1000000):∀(k i j:Nat),i≤j→j≤x.length→j-i<k→(∀t,i≤t→t<j→∀h:t<x.length,x[t]≠61)→(j=x.length∨∃h:j<x.length,x[j]=61)→xc n x k (i:Int)=some (j:Int)
 |0,i,j,_,_,h,_,_=>O0
 | k + 1,i,j,hi,hj,hk,ha,hb=>by
  rw [xc]
  by_cases c:i<j
  ·rw [if_pos O4,YU (by omega:i<x.length),Option.bind_some,Option.bind_some,if_pos (by
    rw [bne_iff_ne]; intro e; exact ha i (Nat.le_refl _) c O0 (UInt8.toNat_inj.1 (by have:(61:UInt8).toNat=61:=rfl; omega))),w1 O0]
   exact B7 hx k (i+1) j O0 hj O0 (fun t h1 h2=>ha t O0 h2) hb
  ·obtain rfl:i=j:=O0
   rcases hb with rfl|⟨h,e⟩
   ·rw [if_neg O4,Option.bind_some,if_neg O1]
   ·rw [if_pos O4,YU h,e,Option.bind_some,Option.bind_some,if_neg O1]
def JJ:List (Bs×Bs):= [([67,78],[50,46,53,46,52,46,51]),([67],[50,46,53,46,52,46,54]),([76],[50,46,53,46,52,46,55]),([79],[50,46,53,46,52,46,49,48]),([79,85],[50,46,53,46,52,46,49,49]),([68,67],[48,46,57,46,50,51,52,50,46,49,57,50,48,48,51,48,48,46,49,48,48,46,49,46,50,53]),([69],[49,46,50,46,56,52,48,46,49,49,51,53,52,57,46,49,46,57,46,49])]
def Xi (w:Bs):Bs:=match JJ.find? fun p=>p.1==w with|some p=>p.2|none=>w
def shW:List yR:=JJ.map fun p=>⟨p.1,p.2⟩
def shR:List Bs:=JJ.flatMap fun p=> [p.1,p.2]
theorem BE {n:Nat}:gj n=some shW:=rfl
theorem GE {n:Nat}:uv n=some shR:=rfl
theorem GL {n:Nat} {L:List yR} {r1:Bs×Bs×Bool} (hL:L.length≤1000):∀(k i:Nat),i≤L.length→L.length-i<k→xQ n L r1 k (i:Int)=some (match(L.drop i).find? fun p=>p.Ws==r1.1 with|some p=>p.PI|none=>r1.1)
 |0,i,_,h=>O0
 | k+1,i,hi,hk=>by
  rw [xQ]
  by_cases c:i<L.length
  ·rw [if_pos O4,un c,Option.bind_some,List.drop_eq_getElem_cons c,List.find?_cons]
   cases h:L[i].Ws==r1.1 with
   |true=>rw [if_pos rfl]
   |false=>rw [if_neg O1,w1 O0,GL hL k (i+1) O0 O0]
  ·rw [if_neg O4,List.drop_eq_nil_of_le O0]; rfl
theorem lf {n:Nat} {w v:Bs} {b:Bool} (hn:1000≤n):xQ n shW (w,v,b) n 0=some (Xi w):=by
 have h:=GL (n:=n) (L:=shW) (r1:=(w,v,b)) O1 n 0 O0 (by have:shW.length=7:=rfl; omega)
 rw [show(0:Int)=((0:Nat):Int)from rfl,h,List.drop_zero]
 unfold shW Xi
 rw [List.find?_map]
 cases h:JJ.find? fun p=>p.1==w with
 |none=>rw [show((fun p:yR=>p.Ws==(w,v,b).1)∘fun p:Bs×Bs=>(⟨p.1,p.2⟩:yR))=(fun p=>p.1==w)from rfl,h]; rfl
 |some p=>rw [show((fun p:yR=>p.Ws==(w,v,b).1)∘fun p:Bs×Bs=>(⟨p.1,p.2⟩:yR))=(fun p=>p.1==w)from rfl,h]; rfl
theorem BV {n:Nat} {w:Bs} (hw:∀t (h:2*t<shR.length),shR[2*t]≠w):∀(k i:Nat),i≤7→7-i<k→xd n shR k ((2*i:Nat):Int) w=some w
 |0,i,_,h=>O0
 | k + 1,i,hi,hk=>by
  have hl:shR.length=14:=rfl
  rw [xd]
  by_cases c:i<7
  ·rw [if_pos O4,un (by omega:2*i<shR.length),Option.bind_some,if_neg (by
    rw [beq_iff_eq]; exact hw i O0),Option.bind_some,jX O0,show(((2*i:Nat):Int)+2)=((2*(i+1):Nat):Int)by omega]
   exact BV hw k (i+1) O0 O0
  ·rw [if_neg O4]
theorem fZ:∀t:Fin 7,shR.getD (2*t.val) []∈JJ.map fun p=>p.1:=by decide +kernel
theorem lW {n:Nat} {w:Bs} (hn:1000≤n):xd n shR n 0 w=some (Xi w):=by
 by_cases h:w∈JJ.map fun p=>p.1
 ·obtain⟨m,rfl⟩:∃m,n=m+100:=⟨n-100,O0⟩
  simp only [JJ,List.map_cons,List.map_nil,List.mem_cons,List.not_mem_nil,or_false]at h
  rcases h with rfl|rfl|rfl|rfl|rfl|rfl|rfl<;>kernel_rfl
 ·have e:Xi w=w:=by
   unfold Xi
   rw [List.find?_eq_none.2 (by
    intro p hp e
    rw [beq_iff_eq]at e
    exact h (List.mem_map.2 ⟨p,hp,e⟩))]
  rw [e]
  refine BV (n:=n) (w:=w) ?_ n 0 O0 O0
  intro t ht e
  have hl:shR.length=14:=rfl
  have:=fZ ⟨t,O0⟩
  rw [List.getD_eq_getElem?_getD,List.getElem?_eq_getElem (by omega:2*t<shR.length),Option.getD_some,e]at this
  exact h this
theorem BT {w:Bs} {B:Nat} (h:w.length≤B) (hB:100≤B):(Xi w).length≤B:=by
 unfold Xi
 split
 ·rename_i p hp
  have:=List.mem_of_find?_eq_some hp
  have hq:∀p∈JJ,p.2.length≤100:=by decide +kernel
  have:=hq p this
  omega
 ·exact h
def Xb (n:Nat) (v32467:List zc) (x32977:Bs):Option (Ctl (yq×Int) (List zc)):=
  (xc n x32977 n 0).bind fun y32989=>
  if(y32989==(List.length x32977:Int))=true then(some (.ret ((yq.mk ([]:(List (List zc)))),32)))else((ssl x32977 0 y32989).bind fun x33001=>
  (uv n).bind fun r33002=>
  (xd n r33002 n 0 x33001).bind fun y33033=>
  (ssl x32977 (wrap .i64 (y32989+1)) (List.length x32977)).bind fun x33064=>
  (wL n x33064).bind fun r33065=>
  (if(!r33065.2)=true then(some true)else((yJ n y33033).bind fun r33066=>
  some (!r33066))).bind fun y33068=>
  if y33068=true then(some (.ret ((yq.mk ([]:(List (List zc)))),32)))else((xR n 19 r33065.1).bind fun r33069=>
  (if r33069=true then(some 19)else(some 12)).bind fun y33071=>
  (if(y33033==([48,46,57,46,50,51,52,50,46,49,57,50,48,48,51,48,48,46,49,48,48,46,49,46,50,53]:List UInt8))=true then(some true)else(some (y33033==([49,46,50,46,56,52,48,46,49,49,51,53,52,57,46,49,46,57,46,49]:List UInt8)))).bind fun y33074=>
  if y33074=true then((jO 40 v32467 ([(zc.mk y33033 22 r33065.1)]:List zc)).bind fun x33075=>
  some (.nxt x33075))else((jO 40 v32467 ([(zc.mk y33033 y33071 r33065.1)]:List zc)).bind fun x33076=>
  some (.nxt x33076))))
theorem Dd {n:Nat} {x:Bs} (hx:x.length≤1000000) (hn:2000000≤n) (hb:(92:UInt8)∉x):∃o:Option zc,
  ww n x=some (match o with|some a=>(a,true)|none=>(⟨[],0,[]⟩,false)) ∧
  (∀acc,Xb n acc x=match o with|some a=>(jO 40 acc [a]).bind fun y=>some (.nxt y)|none=>some (.ret (⟨[]⟩,32))) ∧
  (∀a,o=some a→BdA 1000000 a):=by
 rcases lP (n:=n) (s:=x) O0 with⟨h1,h2⟩|⟨w,v,rfl,h1,h2⟩
 ·refine ⟨none, ?_, ?_,fun a h=>by cases h⟩
  ·unfold ww
   rw [h2,Option.bind_some]; exact if_pos rfl
  ·intro acc
   unfold Xb
   rw [show(0:Int)=((0:Nat):Int)from rfl,B7 hx n 0 x.length O0 O0 O0 (fun t _ _ h e=>h1 (e▸List.getElem_mem h)) (.inl rfl),Option.bind_some,if_pos O2]
 ·have hlen:(w++61::v).length=w.length+(v.length+1):=O2
  have hv:(92:UInt8)∉v:=fun h=>hb (by simp [h])
  have hu:=GT (n:=n) (s:=v) O0 hn hv
  have hu':=QB (n:=n) (s:=v) O0 hn hv
  have hk:=BT (w:=w) (B:=1000000) O0 O0
  have ho:=UC (n:=n) (s:=Xi w) O0 O0
  have ho':=Wd (n:=n) (s:=Xi w) O0 O0
  have ht:=VN (n:=n) (k:=19) (a:=v) O0 O0
  have ht':=Xr (n:=n) (k:=19) (a:=v) O0 O0
  have hf:xc n (w++61::v) n 0=some (w.length:Int):=by
   rw [show(0:Int)=((0:Nat):Int)from rfl]
   refine B7 hx n 0 w.length O0 O0 O0 ?_ (.inr ⟨O0,O2⟩)
   intro t _ h3 h e
   rw [List.getElem_append_left h3]at e
   exact h1 (e▸List.getElem_mem h3)
  have e1:ssl (w++61::v) 0 (w.length:Int)=some w:=by
   have:=qN (s:=w++61::v) (i:=0) (j:=w.length) O0 O0
   rw [show((0:Nat):Int)=0 from rfl]at this
   rw [this]; simp
  have e3:ssl (w++61::v) ((w.length+1:Nat):Int) (List.length (w++61::v))=some v:=by
   rw [qN O0 (Nat.le_refl _),List.take_length]; simp
  have hne:((w.length:Int)==(List.length (w++61::v):Int))=false:=by rw [beq_eq_false_iff_ne]; omega
  obtain⟨z,hz⟩:∃z,ww n (w++61::v)=z:=⟨_,rfl⟩
  have hP:=hz
  unfold ww at hP
  rw [h2,Option.bind_some]at hP
  replace hP:=(if_neg (c:=(!true)=true) O1).symm.trans hP
  rw [BE,Option.bind_some,lf O0,Option.bind_some]at hP
  have hR:∀acc,Xb n acc (w++61::v)=Xb n acc (w++61::v):=fun _=>rfl
  conv at hR=>enter [acc,1]; unfold Xb; rw [hf,Option.bind_some,hne,if_neg O1,e1,Option.bind_some,GE,Option.bind_some,lW O0,Option.bind_some,w1 O0,e3,Option.bind_some,hu',Option.bind_some]
  dsimp only at hP
  rw [hu,Option.bind_some]at hP
  by_cases c:v.all plB=true
  ·simp only [if_pos c,Bool.not_true,Bool.false_eq_true,if_false,ho,ho',Option.bind_some]at hP hR
   cases q:(Ya (Xi w)).isSome with
   | false=>
    simp only [q,Bool.not_false,if_true]at hP hR
    exact⟨none,hz.trans hP.symm,fun acc=>(hR acc).symm,fun a h=>by cases h⟩
   | true=>
    simp only [q,Bool.not_true,Bool.false_eq_true,if_false,ht,ht',Option.bind_some]at hP hR
    cases b1:Xi w==([48,46,57,46,50,51,52,50,46,49,57,50,48,48,51,48,48,46,49,48,48,46,49,46,50,53]:Bs)with
    | true=>
     simp only [b1,if_true,Option.bind_some]at hP hR
     cases b3:ZE 19 v<;>simp only [b3,Bool.false_eq_true,if_false,if_true,Option.bind_some]at hR<;>exact⟨some ⟨Xi w,22,v⟩,hz.trans hP.symm,fun acc=>(hR acc).symm,fun a h=>by cases h; exact⟨hk,by show v.length≤_; omega⟩⟩
    | false=>
     simp only [b1,Bool.false_eq_true,if_false,Option.bind_some]at hP hR
     cases b2:Xi w==([49,46,50,46,56,52,48,46,49,49,51,53,52,57,46,49,46,57,46,49]:Bs)with
     | true=>
      simp only [b2,if_true,Option.bind_some]at hP hR
      cases b3:ZE 19 v<;>simp only [b3,Bool.false_eq_true,if_false,if_true,Option.bind_some]at hR<;>exact⟨some ⟨Xi w,22,v⟩,hz.trans hP.symm,fun acc=>(hR acc).symm,fun a h=>by cases h; exact⟨hk,by show v.length≤_; omega⟩⟩
     | false=>
      simp only [b2,Bool.false_eq_true,if_false,Option.bind_some]at hP hR
      cases b3:ZE 19 v<;>simp only [b3,Bool.false_eq_true,if_false,if_true,Option.bind_some]at hP hR
      ·exact⟨some ⟨Xi w,12,v⟩,hz.trans hP.symm,fun acc=>(hR acc).symm,fun a h=>by cases h; exact⟨hk,by show v.length≤_; omega⟩⟩
      ·exact⟨some ⟨Xi w,19,v⟩,hz.trans hP.symm,fun acc=>(hR acc).symm,fun a h=>by cases h; exact⟨hk,by show v.length≤_; omega⟩⟩
  ·simp only [if_neg c,Bool.not_false,if_true,Option.bind_some]at hP hR
   exact⟨none,hz.trans hP.symm,fun acc=>(hR acc).symm,fun a h=>by cases h⟩
theorem dv {c:UInt8}:∀(s p:Bs),p∈splitB c s→∀x∈p,x∈s
 | [],p,h,x,hx=>by
  simp only [splitB,List.mem_singleton]at h
  subst h; cases hx
 | y ::r,p,h,x,hx=>by
  unfold splitB at h
  split at h
  ·rcases List.mem_cons.1 h with rfl|h
   ·cases hx
   ·exact List.mem_cons_of_mem _ (dv r p h x hx)
  ·split at h
   ·rename_i q qs hq
    rcases List.mem_cons.1 h with rfl|h
    ·rcases List.mem_cons.1 hx with rfl|hx
     ·exact List.mem_cons_self
     ·exact List.mem_cons_of_mem _ (dv r q (by rw [hq]; exact List.mem_cons_self) x hx)
    ·exact List.mem_cons_of_mem _ (dv r p (by rw [hq]; exact List.mem_cons_of_mem _ h) x hx)
   ·rw [List.mem_singleton]at h
    subst h
    rw [List.mem_singleton]at hx
    subst hx; exact List.mem_cons_self
theorem J0 {n:Nat} {L:List Bs} (hL:L.length≤1000000) (hx:∀x∈L,x.length≤1000000∧(92:UInt8)∉x) (hn:2000000≤n):∀(k i:Nat) (acc:List zc),i≤L.length→L.length-i<k→acc.length=i→(∀a∈acc,BdA 1000000 a) →
  ∃o:Option (List zc),jv n L k acc (i:Int)=some (match o with|some l=> .nxt l|none=> .ret (⟨[]⟩,32))∧xb n L k acc (i:Int)=some (match o with|some l=> .nxt l|none=> .ret (⟨[]⟩,32))∧∀l,o=some l→BdR 1000000 l
 |0,i,acc,_,h,_,_=>O0
 | k + 1,i,acc,hi,hk,ha,hb=>by
  have hR:xb n L (k+1) acc (i:Int)=(if(decide ((i:Int)<(List.length L:Int)))=true then(yM ((xe L (i:Int)).bind fun x=>Xb n acc x) (fun r=>some (.ret r)) (fun y=>xb n L k y (wrap .i64 ((i:Int)+1))))else(some (.nxt acc))):=by
   rw [xb]; rfl
  rw [hR,jv]
  by_cases c:i<L.length
  ·obtain ⟨h1,h2⟩:=hx L[i] (List.getElem_mem c)
   obtain⟨o,e1,e2,e3⟩:=Dd h1 hn h2
   rw [if_pos O4,if_pos O4,un c,Option.bind_some,Option.bind_some,e1,Option.bind_some,e2 acc]
   cases o with
   |none=>exact⟨none,rfl,rfl,fun l h=>by cases h⟩
   | some a=>
    dsimp only
    rw [if_neg O1,j2 (by rw [List.length_singleton]; omega),Option.bind_some,Option.bind_some,w1 O0]
    dsimp only [yM]
    exact J0 hL hx hn k (i+1) _ O0 O0 (by rw [List.length_append,List.length_singleton]; omega) (by
     intro b hm
     rcases List.mem_append.1 hm with h|h
     ·exact hb b h
     ·rw [List.mem_singleton]at h; subst h; exact e3 _ rfl)
  ·rw [if_neg O4,if_neg O4]
   exact⟨some acc,rfl,rfl,fun l h=>by cases h; exact⟨O0,hb⟩⟩
theorem Ky {n:Nat} {L:List Bs} (hL:L.length≤1000000) (hx:∀x∈L,x.length<1000000∧(92:UInt8)∉x) (hn:2000000≤n):∀(k i:Nat) (acc:List (List zc)),i≤L.length→L.length-i<k→acc.length=i→(∀a∈acc,BdR 1000000 a) →
  ∃o:Option (List (List zc)),jy n L k (i:Int) acc=some (match o with|some l=> .nxt l|none=> .ret (⟨[]⟩,32))∧xU n L k (i:Int) acc=some (match o with|some l=> .nxt l|none=> .ret (⟨[]⟩,32))∧∀l,o=some l→BdN 1000000 l
 |0,i,acc,_,h,_,_=>O0
 | k + 1,i,acc,hi,hk,ha,hb=>by
  rw [xU,jy]
  by_cases c:i<L.length
  ·obtain ⟨h1,h2⟩:=hx L[i] (List.getElem_mem c)
   have hc:(splitB 43 L[i]).length≤1000000:=by rw [j7]; have:=List.count_le_length (a:=(43:UInt8)) (l:=L[i]); omega
   rw [if_pos O4,if_pos O4,un c,Option.bind_some,Option.bind_some,ga O0 O0,show(43:Int)=(((43:UInt8).toNat:Nat):Int)from rfl,Z8 O0 O0,Option.bind_some,Option.bind_some]
   obtain⟨o,e1,e2,e3⟩:=J0 (n:=n) (L:=splitB 43 L[i]) hc (fun p hp=>⟨by have:=kw hp; omega,fun h=>h2 (dv _ _ hp _ h)⟩) hn n 0 [] O0 O0 rfl (by intro a h; cases h)
   rw [show(0:Int)=((0:Nat):Int)from rfl,e1,e2]
   cases o with
   |none=>exact⟨none,rfl,rfl,fun l h=>by cases h⟩
   | some a=>
    dsimp only [yM]
    rw [j2 (by rw [List.length_singleton]; omega),Option.bind_some,w1 O0]
    exact Ky hL hx hn k (i+1) _ O0 O0 (by rw [List.length_append,List.length_singleton]; omega) (by
     intro b hm
     rcases List.mem_append.1 hm with h|h
     ·exact hb b h
     ·rw [List.mem_singleton]at h; subst h; exact e3 _ rfl)
  ·rw [if_neg O4,if_neg O4]
   exact⟨some acc,rfl,rfl,fun l h=>by cases h; exact⟨O0,hb⟩⟩
theorem G5 {n:Nat} {s:Bs} (hs:s.length<1000000) (hn:2000000≤n) (hb:(92:UInt8)∉s):∃v e,bp n s=some (v,e)∧vn n s=some (v,e):=by
 unfold bp vn
 by_cases c:(s==([]:Bs))=true
 ·rw [if_pos c,if_pos c]; exact⟨_,_,rfl,rfl⟩
 ·have hc:(splitB 44 s).length≤1000000:=by rw [j7]; have:=List.count_le_length (a:=(44:UInt8)) (l:=s); omega
  rw [if_neg c,if_neg c,ga O0 O0,show(44:Int)=(((44:UInt8).toNat:Nat):Int)from rfl,Z8 O0 O0,Option.bind_some,Option.bind_some]
  obtain⟨o,e1,e2,e3⟩:=Ky (n:=n) (L:=splitB 44 s) hc (fun p hp=>⟨by have:=kw hp; omega,fun h=>hb (dv _ _ hp _ h)⟩) hn n 0 [] O0 O0 rfl (by intro a h; cases h)
  rw [show(0:Int)=((0:Nat):Int)from rfl,e1,e2]
  cases o with
  |none=>exact⟨_,_,rfl,rfl⟩
  | some l=>
   dsimp only [yM]
   rw [fe (e3 _ rfl) O0 O0,eX (e3 _ rfl) O0 O0,Option.bind_some]
   split<;>exact⟨_,_,rfl,rfl⟩
def Wy:List Bs:= [[],[105,115,115,117,101],[114,101,110,101,119],[114,101,107,101,121],[114,101,118,111,107,101],[114,101,108,101,97,115,101],[112,117,98,108,105,115,104],[97,100,111,112,116]]
theorem K0 {n:Nat} {r:Bs×ze} (hw:r.1∉Wy.drop 1):∀(k i:Nat),1≤i→i≤8→8-i<k→zO n r k (i:Int) 0=some 0
 |0,i,_,_,h=>O0
 | k + 1,i,h1,hi,hk=>by
  rw [zO]
  by_cases c:i<8
  ·have hl:i<Wy.length:=c
   have hm:Wy[i]∈Wy.drop 1:=by
    have:(Wy.drop 1)[i-1]'(by rw [List.length_drop]; omega)=Wy[i]:=by
     rw [List.getElem_drop]; congr 1; omega
    exact this▸List.getElem_mem _
   rw [if_pos O4,show([[],[105,115,115,117,101],[114,101,110,101,119],[114,101,107,101,121],[114,101,118,111,107,101],[114,101,108,101,97,115,101],[112,117,98,108,105,115,104],[97,100,111,112,116]]:List Bs)=Wy from rfl,un hl,Option.bind_some,if_neg (by
    rw [beq_iff_eq]; intro e; exact hw (e▸hm)),Option.bind_some,w1 O0]
   exact K0 hw k (i+1) O0 O0 O0
  ·rw [if_neg O4]
theorem DT {n:Nat} (s:Bs) (w:ze) (hn:1000≤n):
  (s= [105,115,115,117,101]∧zO n (s,w) n 1 0=some 1) ∨
  (s= [114,101,110,101,119]∧zO n (s,w) n 1 0=some 2) ∨
  (s= [114,101,107,101,121]∧zO n (s,w) n 1 0=some 3) ∨
  (s= [114,101,118,111,107,101]∧zO n (s,w) n 1 0=some 4) ∨
  (s= [114,101,108,101,97,115,101]∧zO n (s,w) n 1 0=some 5) ∨
  (s= [112,117,98,108,105,115,104]∧zO n (s,w) n 1 0=some 6) ∨
  (s= [97,100,111,112,116]∧zO n (s,w) n 1 0=some 7) ∨
  (s∉Wy.drop 1∧zO n (s,w) n 1 0=some 0):=by
 obtain⟨m,rfl⟩:∃m,n=m+100:=⟨n-100,O0⟩
 by_cases h:s∈Wy.drop 1
 ·simp only [Wy,List.drop_succ_cons,List.drop_zero,List.mem_cons,List.not_mem_nil,or_false]at h
  rcases h with rfl|rfl|rfl|rfl|rfl|rfl|rfl
  ·exact .inl ⟨rfl,O5⟩
  ·exact .inr (.inl ⟨rfl,O5⟩)
  ·exact .inr (.inr (.inl ⟨rfl,O5⟩))
  ·exact .inr (.inr (.inr (.inl ⟨rfl,O5⟩)))
  ·exact .inr (.inr (.inr (.inr (.inl ⟨rfl,O5⟩))))
  ·exact .inr (.inr (.inr (.inr (.inr (.inl ⟨rfl,O5⟩)))))
  ·exact .inr (.inr (.inr (.inr (.inr (.inr (.inl ⟨rfl,O5⟩))))))
 ·exact .inr (.inr (.inr (.inr (.inr (.inr (.inr ⟨h,K0 (r:=(s,w)) h (m+100) 1 O0 O0 O0⟩))))))
def km (n:Nat) (who:Int) (hide:Bool) (r5:Bs×ze):Option (zi×Int×ze):=
 (zO n r5 n 1 0).bind fun y27=>
 if(y27==0)=true then(some ((zi.mk 1 who (zM.mk y27 0 0 ([]:List UInt8) (zr.mk false false 0 0 ([]:(List (List UInt8))) ([]:(List (List UInt8))) ([]:(List zw)) 0 0 0 ([]:(List za)) false (zv.mk ([]:(List za)) ([]:(List za))) ([]:List UInt8) ([]:List UInt8) ([]:(List zn)) ([]:(List zn)) ([]:(List zf))) 0 0 0 0 0 0 false) hide 0 0 0 (yu.mk 0 ([]:(List Int))) (zy.mk 0 ([]:List UInt8) 0 ([]:(List (List UInt8))) false false false ([]:(List za)) 0 false ([]:(List zB))) ([]:(List Int))),32,r5.2))else((xl n y27).bind fun r49=>
 (zo n false r5.2).bind fun r50=>
 (if((va .i64 r49 1) !=0)=true then((zo n false r50.2).bind fun r58=>
 some (r58.2.f_l,r58.2.wB,r58.2.zG,r58.1))else(some (r50.2.f_l,r50.2.wB,r50.2.zG,0))).bind fun y56=>
 (if((va .i64 r49 8) !=0)=true then((zo n false (ze.mk y56.1 y56.2.1 y56.2.2.1)).bind fun r66=>
 some (r66.2.f_l,r66.2.wB,r66.2.zG,r66.1))else(some (y56.1,y56.2.1,y56.2.2.1,0))).bind fun y64=>
 (if((va .i64 r49 16) !=0)=true then((zo n false (ze.mk y64.1 y64.2.1 y64.2.2.1)).bind fun r76=>
 (zo n true r76.2).bind fun r77=>
 some (r77.2.f_l,r77.2.wB,r77.2.zG,r76.1,r77.1))else(some (y64.1,y64.2.1,y64.2.2.1,0,0))).bind fun y74=>
 (if((va .i64 r49 32) !=0)=true then((zo n true (ze.mk y74.1 y74.2.1 y74.2.2.1)).bind fun r93=>
 (zo n false r93.2).bind fun r94=>
 (zo n true r94.2).bind fun r95=>
 (zT n r95.2).bind fun r96=>
 (if r96.2.zG=true then(some true)else(if(!(r96.1==([102,111,114,101,105,103,110]:List UInt8)))=true then(some (!(r96.1==([111,119,110]:List UInt8))))else(some false))).bind fun y98=>
 some (r96.2.f_l,r96.2.wB,y98,r93.1,r94.1,r95.1,r96.1==([102,111,114,101,105,103,110]:List UInt8)))else(some (y74.1,y74.2.1,y74.2.2.1,0,0,0,false))).bind fun y91=>
 (if((va .i64 r49 2) !=0)=true then((yG n (ze.mk y91.1 y91.2.1 y91.2.2.1)).bind fun r106=>
 some (r106.2.f_l,r106.2.wB,r106.2.zG,r106.1))else(some (y91.1,y91.2.1,y91.2.2.1,([]:List UInt8)))).bind fun y104=>
 (if((va .i64 r49 4) !=0)=true then((yG n (ze.mk y104.1 y104.2.1 y104.2.2.1)).bind fun r114=>
 some (r114.1,r114.2.f_l,r114.2.wB,r114.2.zG))else(some (([]:List UInt8),y104.1,y104.2.1,y104.2.2.1))).bind fun y112=>
 (yS n (ze.mk y112.2.1 y112.2.2.1 y112.2.2.2)).bind fun r115=>
 if(!r115.1)=true then(some ((zi.mk 1 who (zM.mk y27 r50.1 y56.2.2.2 y104.2.2.2 (zr.mk false false 0 0 ([]:(List (List UInt8))) ([]:(List (List UInt8))) ([]:(List zw)) 0 0 0 ([]:(List za)) false (zv.mk ([]:(List za)) ([]:(List za))) ([]:List UInt8) ([]:List UInt8) ([]:(List zn)) ([]:(List zn)) ([]:(List zf))) y64.2.2.2 y74.2.2.2.1 y74.2.2.2.2 y91.2.2.2.1 y91.2.2.2.2.1 y91.2.2.2.2.2.1 y91.2.2.2.2.2.2) hide 0 0 0 (yu.mk 0 ([]:(List Int))) (zy.mk 0 ([]:List UInt8) 0 ([]:(List (List UInt8))) false false false ([]:(List za)) 0 false ([]:(List zB))) ([]:(List Int))),32,r115.2))else(if((va .i64 r49 4)==0)=true then(some ((zi.mk 1 who (zM.mk y27 r50.1 y56.2.2.2 y104.2.2.2 (zr.mk false false 0 0 ([]:(List (List UInt8))) ([]:(List (List UInt8))) ([]:(List zw)) 0 0 0 ([]:(List za)) false (zv.mk ([]:(List za)) ([]:(List za))) ([]:List UInt8) ([]:List UInt8) ([]:(List zn)) ([]:(List zn)) ([]:(List zf))) y64.2.2.2 y74.2.2.2.1 y74.2.2.2.2 y91.2.2.2.1 y91.2.2.2.2.1 y91.2.2.2.2.2.1 y91.2.2.2.2.2.2) hide 0 0 0 (yu.mk 0 ([]:(List Int))) (zy.mk 0 ([]:List UInt8) 0 ([]:(List (List UInt8))) false false false ([]:(List za)) 0 false ([]:(List zB))) ([]:(List Int))),0,r115.2))else((u0 n).bind fun r116=>
 if(y112.1==([]:List UInt8))=true then(some ((zi.mk 1 who (zM.mk y27 r50.1 y56.2.2.2 y104.2.2.2 (zr.mk r116.yk r116.jZ r116.yw r116.yr r116.yc r116.zH r116.yd r116.zA r116.zD r116.zV r116.yl r116.zz (zv.mk r116.zq.ye r116.zq.yo) r116.zU r116.zJ r116.yn r116.z7 r116.yp) y64.2.2.2 y74.2.2.2.1 y74.2.2.2.2 y91.2.2.2.1 y91.2.2.2.2.1 y91.2.2.2.2.2.1 y91.2.2.2.2.2.2) hide 0 0 0 (yu.mk 0 ([]:(List Int))) (zy.mk 0 ([]:List UInt8) 0 ([]:(List (List UInt8))) false false false ([]:(List za)) 0 false ([]:(List zB))) ([]:(List Int))),0,r115.2))else((xy n y112.1).bind fun r117=>
 if(r117.2 !=0)=true then(some ((zi.mk 1 who (zM.mk y27 r50.1 y56.2.2.2 y104.2.2.2 (zr.mk r116.yk r116.jZ r116.yw r116.yr r116.yc r116.zH r116.yd r116.zA r116.zD r116.zV r116.yl r116.zz (zv.mk r116.zq.ye r116.zq.yo) r116.zU r116.zJ r116.yn r116.z7 r116.yp) y64.2.2.2 y74.2.2.2.1 y74.2.2.2.2 y91.2.2.2.1 y91.2.2.2.2.1 y91.2.2.2.2.2.1 y91.2.2.2.2.2.2) hide 0 0 0 (yu.mk 0 ([]:(List Int))) (zy.mk 0 ([]:List UInt8) 0 ([]:(List (List UInt8))) false false false ([]:(List za)) 0 false ([]:(List zB))) ([]:(List Int))),r117.2,r115.2))else(none)))))
theorem Km (n:Nat) (m0:ze):wS n m0=
 (zo n false m0).bind fun r1=>
 (zT n r1.2).bind fun r2=>
 (if r2.2.zG=true then(some true)else(if(!(r2.1==([104,105,100,101]:List UInt8)))=true then(some (!(r2.1==([112,111,115,116]:List UInt8))))else(some false))).bind fun y4=>
 (zT n (ze.mk r2.2.f_l r2.2.wB y4)).bind fun r5=>
 km n r1.1 (r2.1==([104,105,100,101]:List UInt8)) r5:=by
  unfold wS km; rfl
theorem Kl:va .i64 7 1=1∧va .i64 7 2=2∧va .i64 7 4=4∧va .i64 7 8=0∧va .i64 7 16=0∧va .i64 7 32=0∧va .i64 9 1=1∧va .i64 9 2=0∧va .i64 9 4=0∧va .i64 9 8=8∧va .i64 9 16=0∧va .i64 9 32=0∧va .i64 1 1=1∧va .i64 1 2=0∧va .i64 1 4=0∧va .i64 1 8=0∧va .i64 1 16=0∧va .i64 1 32=0∧va .i64 24 1=0∧va .i64 24 2=0∧va .i64 24 4=0∧va .i64 24 8=8∧va .i64 24 16=16∧va .i64 24 32=0∧va .i64 8 1=0∧va .i64 8 2=0∧va .i64 8 4=0∧va .i64 8 8=8∧va .i64 8 16=0∧va .i64 8 32=0∧va .i64 33 1=1∧va .i64 33 2=0∧va .i64 33 4=0∧va .i64 33 8=0∧va .i64 33 16=0∧va .i64 33 32=32∧va .i64 2 1=0∧va .i64 2 2=2∧va .i64 2 4=0∧va .i64 2 8=0∧va .i64 2 16=0∧va .i64 2 32=0:=by decide +kernel
def jQ (n:Nat) (r1:Bs×zk):Option (zM×Int×zk):=
 (zu n r1.2).bind fun r2=>
 yM (if(r1.1==([105,115,115,117,101]:List UInt8))=true then((zu n r2.2).bind fun r58=>
 (yx n r58.2).bind fun r59=>
 (yx n r59.2).bind fun r60=>
 (yO n r60.2).bind fun r61=>
 if(r61.1 !=0)=true then(some (.ret ((zM.mk 1 r2.1 r58.1 r59.1 (zr.mk false false 0 0 ([]:(List (List UInt8))) ([]:(List (List UInt8))) ([]:(List zw)) 0 0 0 ([]:(List za)) false (zv.mk ([]:(List za)) ([]:(List za))) ([]:List UInt8) ([]:List UInt8) ([]:(List zn)) ([]:(List zn)) ([]:(List zf))) 0 0 0 0 0 0 false),r61.1,r61.2)))else((jK n r60.1).bind fun r62=>
 some (.ret ((zM.mk 1 r2.1 r58.1 r59.1 (zr.mk r62.1.yk r62.1.jZ r62.1.yw r62.1.yr r62.1.yc r62.1.zH r62.1.yd r62.1.zA r62.1.zD r62.1.zV r62.1.yl r62.1.zz (zv.mk r62.1.zq.ye r62.1.zq.yo) r62.1.zU r62.1.zJ r62.1.yn r62.1.z7 r62.1.yp) 0 0 0 0 0 0 false),r62.2,r61.2))))else(if(r1.1==([114,101,110,101,119]:List UInt8))=true then((zu n r2.2).bind fun r63=>
 (zu n r63.2).bind fun r64=>
 some (.nxt (r64.2.yz,r64.2.zG,2,r63.1,([]:List UInt8),r64.1,0,0,0,0,0,false)))else(if(r1.1==([114,101,107,101,121]:List UInt8))=true then((zu n r2.2).bind fun r65=>
 some (.nxt (r65.2.yz,r65.2.zG,3,r65.1,([]:List UInt8),0,0,0,0,0,0,false)))else(if(r1.1==([114,101,118,111,107,101]:List UInt8))=true then((zu n r2.2).bind fun r66=>
 (zu n r66.2).bind fun r67=>
 (yW n r67.2).bind fun r68=>
 some (.nxt (r68.2.yz,r68.2.zG,4,0,([]:List UInt8),r66.1,r67.1,r68.1,0,0,0,false)))else(if(r1.1==([114,101,108,101,97,115,101]:List UInt8))=true then((zu n r2.2).bind fun r69=>
 some (.nxt (r69.2.yz,r69.2.zG,5,0,([]:List UInt8),r69.1,0,0,0,0,0,false)))else(if(r1.1==([112,117,98,108,105,115,104]:List UInt8))=true then((zu n r2.2).bind fun r70=>
 (yW n r70.2).bind fun r71=>
 (zu n r71.2).bind fun r72=>
 (yW n r72.2).bind fun r73=>
 (yh n r73.2).bind fun r74=>
 (if r74.2.zG=true then(some true)else(if(!(r74.1==([102,111,114,101,105,103,110]:List UInt8)))=true then(some (!(r74.1==([111,119,110]:List UInt8))))else(some false))).bind fun y76=>
 some (.nxt (r74.2.yz,y76,6,r70.1,([]:List UInt8),0,0,0,r71.1,r72.1,r73.1,r74.1==([102,111,114,101,105,103,110]:List UInt8))))else(if(r1.1==([97,100,111,112,116]:List UInt8))=true then((yx n r2.2).bind fun r77=>
 some (.nxt (r77.2.yz,r77.2.zG,7,0,r77.1,0,0,0,0,0,0,false)))else(some (.nxt (r2.2.yz,true,0,0,([]:List UInt8),0,0,0,0,0,0,false)))))))))) (fun r=>some r) (fun y55=>
 (yO n (zk.mk y55.1 y55.2.1)).bind fun r78=>
 some ((zM.mk y55.2.2.1 r2.1 y55.2.2.2.1 y55.2.2.2.2.1 (zr.mk false false 0 0 ([]:(List (List UInt8))) ([]:(List (List UInt8))) ([]:(List zw)) 0 0 0 ([]:(List za)) false (zv.mk ([]:(List za)) ([]:(List za))) ([]:List UInt8) ([]:List UInt8) ([]:(List zn)) ([]:(List zn)) ([]:(List zf))) y55.2.2.2.2.2.1 y55.2.2.2.2.2.2.1 y55.2.2.2.2.2.2.2.1 y55.2.2.2.2.2.2.2.2.1 y55.2.2.2.2.2.2.2.2.2.1 y55.2.2.2.2.2.2.2.2.2.2.1 y55.2.2.2.2.2.2.2.2.2.2.2),r78.1,r78.2))
theorem Pn (n:Nat) (m0:zk):wD n m0=(yh n m0).bind fun r1=>jQ n r1:=by
 unfold wD jQ; rfl
def pu (who:Int) (hide:Bool) (a:zM):zi:=zi.mk 1 who a hide 0 0 0 (yu.mk 0 ([]:(List Int))) (zy.mk 0 ([]:List UInt8) 0 ([]:(List (List UInt8))) false false false ([]:(List za)) 0 false ([]:(List zB))) ([]:(List Int))
def GO:zr:=zr.mk false false 0 0 [] [] [] 0 0 0 [] false (zv.mk [] []) [] [] [] [] []
def Kz:zr:=(kL 0).getD GO
abbrev IOk (i:zr):Prop:=i=GO∨i=Kz
abbrev DOk (n:Nat) (d:zi):Prop:=IOk d.zj.zb∧d.jr.vV.length≤1000001∧d.jB.length≤1000001∧xO n d.zF d.zF=some true
def zQ:zy:=(zy.mk 0 ([]:List UInt8) 0 ([]:(List (List UInt8))) false false false ([]:(List za)) 0 false ([]:(List zB)))
theorem X4 {n:Nat} (hn:1000≤n):xO n zQ zQ=some true:=by
 obtain⟨m,rfl⟩:∃m,n=m+1000:=⟨n-1000,O0⟩
 kernel_rfl
theorem PB {n:Nat} {who:Int} {hide:Bool} {m:zk} {w:ze} (hn:2000000≤n) (r:RW m w):∃a e m' d w' e',jQ n ([114,101,107,101,121],m)=some (a,e,m')∧km n who hide ([114,101,107,101,121],w)=some (d,e',w')∧e'=(if m'.zG=true then 32 else e)∧(e'=0→d=pu who hide a∧IOk a.zb)∧(m.zG=true→m'.zG=true):=by
 have h:zO n (([114,101,107,101,121]:Bs),w) n 1 0=some 3:=by
  obtain⟨m,rfl⟩:∃m,n=m+100:=⟨n-100,O0⟩
  kernel_rfl
 obtain⟨a1,b1,m1,w1,p1,q1,r1,f1,g1,l1⟩:=vj hn r
 obtain⟨a2,b2,m2,w2,p2,q2,r2,f2,g2,l2⟩:=vj hn r1
 unfold km jQ
 rw [h,Option.bind_some,if_neg O1,show xl n 3=some 1 from rfl,Option.bind_some,p1,Option.bind_some,if_neg (Bool.eq_false_iff.1 O6),if_neg (Bool.eq_false_iff.1 O6),if_pos O6,p2,Option.bind_some]
 simp only [Kl,Option.bind_some,q1,q2,bne_self_eq_false,Bool.false_eq_true,if_false,show((1:Int) !=0)=true from rfl,if_true,yM]
 obtain⟨b,p3,q3⟩:=gT (n:=n) r2
 rw [show(zk.mk m2.yz m2.zG)=m2 from rfl,p3,show(ze.mk w2.f_l w2.wB w2.zG)=w2 from rfl,q3.1]
 cases b with
 |false=>exact⟨_,32,m2,_,w2,32,rfl,rfl,by split<;>rfl,fun h=>absurd h O1,fun h=>f2 (f1 h)⟩
 | true=>
  have hb:=q3.2 rfl
  have hb1:m1.zG=false:=by cases c:m1.zG with
   |false=>rfl
   |true=>rw [f2 c]at hb; cases hb
  cases g1 hb1; cases g2 hb
  exact⟨_,0,m2,_,w2,0,rfl,rfl,by rw [hb]; rfl,fun _=>⟨rfl, .inl rfl⟩,fun h=>f2 (f1 h)⟩
theorem Jt (w:ze):ze.mk w.f_l w.wB w.zG=w:=rfl
theorem Ux (m:zk):zk.mk m.yz m.zG=m:=rfl
theorem nz:(((1:Int) !=0)=true)∧(((2:Int) !=0)=true)∧(((4:Int) !=0)=true)∧(((8:Int) !=0)=true)∧(((16:Int) !=0)=true)∧(((32:Int) !=0)=true):=O1
theorem PH {n:Nat} {who:Int} {hide:Bool} {m:zk} {w:ze} (hn:2000000≤n) (r:RW m w):∃a e m' d w' e',jQ n ([114,101,108,101,97,115,101],m)=some (a,e,m')∧km n who hide ([114,101,108,101,97,115,101],w)=some (d,e',w')∧e'=(if m'.zG=true then 32 else e)∧(e'=0→d=pu who hide a∧IOk a.zb)∧(m.zG=true→m'.zG=true):=by
 have h:zO n (([114,101,108,101,97,115,101]:Bs),w) n 1 0=some 5:=by
  obtain⟨m,rfl⟩:∃m,n=m+100:=⟨n-100,O0⟩
  kernel_rfl
 obtain⟨a1,b1,m1,w1,p1,q1,r1,f1,g1,l1⟩:=vj hn r
 obtain⟨a2,b2,m2,w2,p2,q2,r2,f2,g2,l2⟩:=vj hn r1
 unfold km jQ
 rw [h,Option.bind_some,if_neg O1,show xl n 5=some 8 from rfl,Option.bind_some,p1,Option.bind_some,if_neg (Bool.eq_false_iff.1 O6),if_neg (Bool.eq_false_iff.1 O6),if_neg (Bool.eq_false_iff.1 O6),if_neg (Bool.eq_false_iff.1 O6),if_pos O6,p2,Option.bind_some]
 simp only [Kl,Option.bind_some,q1,q2,bne_self_eq_false,Bool.false_eq_true,if_false,nz,if_true,yM,Jt,Ux]
 obtain⟨b,p,q,qb⟩:=gT (n:=n) r2
 rw [p,q]
 cases b with
 |false=>exact⟨_,32,m2,_,w2,32,rfl,rfl,by split<;>rfl,fun h=>absurd h O1,fun h=>f2 (f1 h)⟩
 | true=>
  have h2:=qb rfl
  have h1:m1.zG=false:=by cases c:m1.zG with
   |false=>rfl
   |true=>rw [f2 c]at h2; cases h2
  cases g1 h1
  cases g2 h2
  exact⟨_,0,m2,_,w2,0,rfl,rfl,by rw [h2]; rfl,fun _=>⟨rfl, .inl rfl⟩,fun h=>f2 (f1 h)⟩
theorem Pe {n:Nat} {who:Int} {hide:Bool} {m:zk} {w:ze} (hn:2000000≤n) (r:RW m w):∃a e m' d w' e',jQ n ([114,101,110,101,119],m)=some (a,e,m')∧km n who hide ([114,101,110,101,119],w)=some (d,e',w')∧e'=(if m'.zG=true then 32 else e)∧(e'=0→d=pu who hide a∧IOk a.zb)∧(m.zG=true→m'.zG=true):=by
 have h:zO n (([114,101,110,101,119]:Bs),w) n 1 0=some 2:=by
  obtain⟨m,rfl⟩:∃m,n=m+100:=⟨n-100,O0⟩
  kernel_rfl
 obtain⟨a1,b1,m1,w1,p1,q1,r1,f1,g1,l1⟩:=vj hn r
 obtain⟨a2,b2,m2,w2,p2,q2,r2,f2,g2,l2⟩:=vj hn r1
 obtain⟨a3,b3,m3,w3,p3,q3,r3,f3,g3,l3⟩:=vj hn r2
 unfold km jQ
 rw [h,Option.bind_some,if_neg O1,show xl n 2=some 9 from rfl,Option.bind_some,p1,Option.bind_some,if_neg (Bool.eq_false_iff.1 O6),if_pos O6,p2,Option.bind_some,p3,Option.bind_some]
 simp only [Kl,Option.bind_some,q1,q2,q3,bne_self_eq_false,Bool.false_eq_true,if_false,nz,if_true,yM,Jt,Ux]
 obtain⟨b,p,q,qb⟩:=gT (n:=n) r3
 rw [p,q]
 cases b with
 |false=>exact⟨_,32,m3,_,w3,32,rfl,rfl,by split<;>rfl,fun h=>absurd h O1,fun h=>f3 (f2 (f1 h))⟩
 | true=>
  have h3:=qb rfl
  have h2:m2.zG=false:=by cases c:m2.zG with
   |false=>rfl
   |true=>rw [f3 c]at h3; cases h3
  have h1:m1.zG=false:=by cases c:m1.zG with
   |false=>rfl
   |true=>rw [f2 c]at h2; cases h2
  cases g1 h1
  cases g2 h2
  cases g3 h3
  exact⟨_,0,m3,_,w3,0,rfl,rfl,by rw [h3]; rfl,fun _=>⟨rfl, .inl rfl⟩,fun h=>f3 (f2 (f1 h))⟩
theorem Pm {n:Nat} {who:Int} {hide:Bool} {m:zk} {w:ze} (hn:2000000≤n) (r:RW m w):∃a e m' d w' e',jQ n ([114,101,118,111,107,101],m)=some (a,e,m')∧km n who hide ([114,101,118,111,107,101],w)=some (d,e',w')∧e'=(if m'.zG=true then 32 else e)∧(e'=0→d=pu who hide a∧IOk a.zb)∧(m.zG=true→m'.zG=true):=by
 have h:zO n (([114,101,118,111,107,101]:Bs),w) n 1 0=some 4:=by
  obtain⟨m,rfl⟩:∃m,n=m+100:=⟨n-100,O0⟩
  kernel_rfl
 obtain⟨a1,b1,m1,w1,p1,q1,r1,f1,g1,l1⟩:=vj hn r
 obtain⟨a2,b2,m2,w2,p2,q2,r2,f2,g2,l2⟩:=vj hn r1
 obtain⟨a3,b3,m3,w3,p3,q3,r3,f3,g3,l3⟩:=vj hn r2
 obtain⟨a4,b4,m4,w4,p4,q4,r4,f4,g4,l4⟩:=QM hn r3
 unfold km jQ
 rw [h,Option.bind_some,if_neg O1,show xl n 4=some 24 from rfl,Option.bind_some,p1,Option.bind_some,if_neg (Bool.eq_false_iff.1 O6),if_neg (Bool.eq_false_iff.1 O6),if_neg (Bool.eq_false_iff.1 O6),if_pos O6,p2,Option.bind_some,p3,Option.bind_some,p4,Option.bind_some]
 simp only [Kl,Option.bind_some,q1,q2,q3,q4,bne_self_eq_false,Bool.false_eq_true,if_false,nz,if_true,yM,Jt,Ux]
 obtain⟨b,p,q,qb⟩:=gT (n:=n) r4
 rw [p,q]
 cases b with
 |false=>exact⟨_,32,m4,_,w4,32,rfl,rfl,by split<;>rfl,fun h=>absurd h O1,fun h=>f4 (f3 (f2 (f1 h)))⟩
 | true=>
  have h4:=qb rfl
  have h3:m3.zG=false:=by cases c:m3.zG with
   |false=>rfl
   |true=>rw [f4 c]at h4; cases h4
  have h2:m2.zG=false:=by cases c:m2.zG with
   |false=>rfl
   |true=>rw [f3 c]at h3; cases h3
  have h1:m1.zG=false:=by cases c:m1.zG with
   |false=>rfl
   |true=>rw [f2 c]at h2; cases h2
  cases g1 h1
  cases g2 h2
  cases g3 h3
  cases g4 h4
  exact⟨_,0,m4,_,w4,0,rfl,rfl,by rw [h4]; rfl,fun _=>⟨rfl, .inl rfl⟩,fun h=>f4 (f3 (f2 (f1 h)))⟩
theorem PK {n:Nat} {who:Int} {hide:Bool} {m:zk} {w:ze} (hn:2000000≤n) (r:RW m w):∃a e m' d w' e',jQ n ([97,100,111,112,116],m)=some (a,e,m')∧km n who hide ([97,100,111,112,116],w)=some (d,e',w')∧e'=(if m'.zG=true then 32 else e)∧(e'=0→d=pu who hide a∧IOk a.zb)∧(m.zG=true→m'.zG=true):=by
 have h:zO n (([97,100,111,112,116]:Bs),w) n 1 0=some 7:=by
  obtain⟨m,rfl⟩:∃m,n=m+100:=⟨n-100,O0⟩
  kernel_rfl
 obtain⟨a1,b1,m1,w1,p1,q1,r1,f1,g1,l1⟩:=vj hn r
 obtain⟨a2,m2,w2,p2,q2,r2,f2,g2,l2⟩:=WB hn r1
 unfold km jQ
 rw [h,Option.bind_some,if_neg O1,show xl n 7=some 2 from rfl,Option.bind_some,p1,Option.bind_some,if_neg (Bool.eq_false_iff.1 O6),if_neg (Bool.eq_false_iff.1 O6),if_neg (Bool.eq_false_iff.1 O6),if_neg (Bool.eq_false_iff.1 O6),if_neg (Bool.eq_false_iff.1 O6),if_neg (Bool.eq_false_iff.1 O6),if_pos O6,p2,Option.bind_some]
 simp only [Kl,Option.bind_some,q1,q2,bne_self_eq_false,Bool.false_eq_true,if_false,nz,if_true,yM,Jt,Ux]
 obtain⟨b,p,q,qb⟩:=gT (n:=n) r2
 rw [p,q]
 cases b with
 |false=>exact⟨_,32,m2,_,w2,32,rfl,rfl,by split<;>rfl,fun h=>absurd h O1,fun h=>f2 (f1 h)⟩
 | true=>
  have h2:=qb rfl
  have h1:m1.zG=false:=by cases c:m1.zG with
   |false=>rfl
   |true=>rw [f2 c]at h2; cases h2
  cases g1 h1
  exact⟨_,0,m2,_,w2,0,rfl,rfl,by rw [h2]; rfl,fun _=>⟨rfl, .inl rfl⟩,fun h=>f2 (f1 h)⟩
theorem RW.turn {m:zk} {w:ze} (r:RW m w) (y:Bool):RW ⟨m.yz,y⟩ ⟨w.f_l,w.wB,y⟩:=⟨r.pos,rfl,r.len,r.ws⟩
theorem Pw {n:Nat} {who:Int} {hide:Bool} {s:Bs} {m:zk} {w:ze} (hn:2000000≤n) (hs:s∉Wy.drop 1) (h:zO n (s,w) n 1 0=some 0) (r:RW m w):∃a e m' d w' e',jQ n (s,m)=some (a,e,m')∧km n who hide (s,w)=some (d,e',w')∧e'=(if m'.zG=true then 32 else e)∧(e'=0→d=pu who hide a∧IOk a.zb)∧(m.zG=true→m'.zG=true):=by
 obtain⟨a1,b1,m1,w1,p1,q1,r1,f1,g1,l1⟩:=vj hn r
 have hq:∀t∈Wy.drop 1,(s==t)=false:=fun t ht=>by
  rw [beq_eq_false_iff_ne]; intro e; exact hs (e▸ht)
 simp only [Wy,List.drop_succ_cons,List.drop_zero,List.forall_mem_cons,List.not_mem_nil]at hq
 obtain⟨c1,c2,c3,c4,c5,c6,c7,_⟩:=hq
 obtain⟨b,p,q,qb⟩:=gT (n:=n) (r1.turn true)
 have hb:b=false:=by cases b with
  |false=>rfl
  |true=>cases qb rfl
 subst hb
 unfold km jQ
 rw [h,Option.bind_some,if_pos O6,p1,Option.bind_some]
 simp only [c1,c2,c3,c4,c5,c6,c7,Bool.false_eq_true,if_false,yM,p,Option.bind_some]
 exact⟨_,32,_,_,w,32,rfl,rfl,rfl,fun h=>absurd h O1,fun _=>rfl⟩
theorem Px {n:Nat} {who:Int} {hide:Bool} {m:zk} {w:ze} (hn:2000000≤n) (r:RW m w):∃a e m' d w' e',jQ n ([112,117,98,108,105,115,104],m)=some (a,e,m')∧km n who hide ([112,117,98,108,105,115,104],w)=some (d,e',w')∧e'=(if m'.zG=true then 32 else e)∧(e'=0→d=pu who hide a∧IOk a.zb)∧(m.zG=true→m'.zG=true):=by
 have h:zO n (([112,117,98,108,105,115,104]:Bs),w) n 1 0=some 6:=by
  obtain⟨m,rfl⟩:∃m,n=m+100:=⟨n-100,O0⟩
  kernel_rfl
 obtain⟨a1,b1,m1,w1,p1,q1,r1,f1,g1,l1⟩:=vj hn r
 obtain⟨a2,b2,m2,w2,p2,q2,r2,f2,g2,l2⟩:=vj hn r1
 obtain⟨a3,b3,m3,w3,p3,q3,r3,f3,g3,l3⟩:=QM hn r2
 obtain⟨a4,b4,m4,w4,p4,q4,r4,f4,g4,l4⟩:=vj hn r3
 obtain⟨a5,b5,m5,w5,p5,q5,r5,f5,g5,l5⟩:=QM hn r4
 obtain⟨s,m6,w6,p6,q6,r6,_,l6,f6,_,_⟩:=pt (n:=n) r5
 obtain ⟨y,hy,hy6⟩:∃y,(if m6.zG=true then(some true)else(if(!(s==([102,111,114,101,105,103,110]:List UInt8)))=true then(some (!(s==([111,119,110]:List UInt8))))else(some false)))=some y∧(m6.zG=true→y=true):=by
  split
  ·exact⟨_,rfl,fun _=>rfl⟩
  ·rename_i c
   split<;>exact⟨_,rfl,fun h=>absurd h c⟩
 have hy':=hy
 rw [r6.bad]at hy'
 obtain⟨b,p,q,qb⟩:=gT (n:=n) (r6.turn y)
 unfold km jQ
 rw [h,Option.bind_some,if_neg O1,show xl n 6=some 33 from rfl,Option.bind_some,p1,Option.bind_some,if_neg (Bool.eq_false_iff.1 O6),if_neg (Bool.eq_false_iff.1 O6),if_neg (Bool.eq_false_iff.1 O6),if_neg (Bool.eq_false_iff.1 O6),if_neg (Bool.eq_false_iff.1 O6),if_pos O6,p2,Option.bind_some,p3,Option.bind_some,p4,Option.bind_some,p5,Option.bind_some,p6,Option.bind_some]
 simp only [hy]
 simp only [Kl,Option.bind_some,q1,q2,q3,q4,q5,q6,bne_self_eq_false,Bool.false_eq_true,if_false,nz,if_true,yM,Jt,Ux]
 simp only [hy']
 simp only [Option.bind_some]
 rw [p,q]
 have hm:m.zG=true→y=true:=fun h=>hy6 (f6 (f5 (f4 (f3 (f2 (f1 h))))))
 cases b with
 |false=>exact⟨_,32,⟨m6.yz,y⟩,_,_,32,rfl,rfl,by split<;>rfl,fun h=>absurd h O1,hm⟩
 | true=>
  have h7:y=false:=qb rfl
  subst h7
  have h6:m6.zG=false:=by cases c:m6.zG with
   |false=>rfl
   |true=>cases hy6 c
  have h5:m5.zG=false:=by cases c:m5.zG with
   |false=>rfl
   |true=>rw [f6 c]at h6; cases h6
  have h4:m4.zG=false:=by cases c:m4.zG with
   |false=>rfl
   |true=>rw [f5 c]at h5; cases h5
  have h3:m3.zG=false:=by cases c:m3.zG with
   |false=>rfl
   |true=>rw [f4 c]at h4; cases h4
  have h2:m2.zG=false:=by cases c:m2.zG with
   |false=>rfl
   |true=>rw [f3 c]at h3; cases h3
  have h1:m1.zG=false:=by cases c:m1.zG with
   |false=>rfl
   |true=>rw [f2 c]at h2; cases h2
  cases g1 h1; cases g2 h2; cases g3 h3; cases g4 h4; cases g5 h5
  exact⟨_,0,⟨m6.yz,false⟩,_,_,0,rfl,rfl,rfl,fun _=>⟨rfl, .inl rfl⟩,hm⟩
def QU (n:Nat) (L:List Bs):Prop:=∀b,UR n L b→b≠ []→∃v v' e,gd n b=some (v,e)∧xy n b=some (v',e)∧e≠0
theorem DC (n:Nat):kL n=some Kz∧u0 n=some Kz:=⟨rfl,rfl⟩
theorem Ps {n:Nat} {who:Int} {hide:Bool} {m:zk} {w:ze} (hn:2000000≤n) (hD:QU n w.f_l) (r:RW m w):∃a e m' d w' e',jQ n ([105,115,115,117,101],m)=some (a,e,m')∧km n who hide ([105,115,115,117,101],w)=some (d,e',w')∧e'=(if m'.zG=true then 32 else e)∧(e'=0→d=pu who hide a∧IOk a.zb)∧(m.zG=true→m'.zG=true):=by
 have h:zO n (([105,115,115,117,101]:Bs),w) n 1 0=some 1:=by
  obtain⟨m,rfl⟩:∃m,n=m+100:=⟨n-100,O0⟩
  kernel_rfl
 obtain⟨a1,b1,m1,w1,p1,q1,r1,f1,g1,l1⟩:=vj hn r
 obtain⟨a2,b2,m2,w2,p2,q2,r2,f2,g2,l2⟩:=vj hn r1
 obtain⟨a3,m3,w3,p3,q3,r3,f3,g3,l3⟩:=WB hn r2
 obtain⟨a4,m4,w4,p4,q4,r4,f4,g4,l4⟩:=WB hn r3
 obtain⟨b,p,q,qb⟩:=gT (n:=n) r4
 obtain⟨ip,iq⟩:=DC n
 unfold km jQ
 rw [h,Option.bind_some,if_neg O1,show xl n 1=some 7 from rfl,Option.bind_some,p1,Option.bind_some,if_pos O6,p2,Option.bind_some,p3,Option.bind_some,p4,Option.bind_some,p,Option.bind_some]
 simp only [Kl,Option.bind_some,q1,q2,q3,q4,q,bne_self_eq_false,Bool.false_eq_true,if_false,nz,if_true,yM,Jt,Ux,iq]
 have hm:m.zG=true→m4.zG=true:=fun h=>f4 (f3 (f2 (f1 h)))
 cases b with
 |false=>exact⟨_,32,m4,_,w4,32,rfl,rfl,by split<;>rfl,fun h=>absurd h O1,hm⟩
 | true=>
  have h4:=qb rfl
  have h3:m3.zG=false:=by cases c:m3.zG with
   |false=>rfl
   |true=>rw [f4 c]at h4; cases h4
  have h2:m2.zG=false:=by cases c:m2.zG with
   |false=>rfl
   |true=>rw [f3 c]at h3; cases h3
  have h1:m1.zG=false:=by cases c:m1.zG with
   |false=>rfl
   |true=>rw [f2 c]at h2; cases h2
  cases g1 h1; cases g2 h2
  have hx:=g4 h4
  rw [l3,l2,l1]at hx
  simp only [if_true,bne_self_eq_false,Bool.false_eq_true,if_false,Bool.not_true]
  unfold jK
  by_cases c:a4= []
  ·subst c
   rw [if_pos O6,ip]
   exact⟨_,0,m4,_,w4,0,rfl,rfl,by rw [h4]; rfl,fun _=>⟨rfl, .inr rfl⟩,hm⟩
  ·obtain⟨v,v',e,d1,d2,d3⟩:=hD a4 hx c
   have c':(a4==([]:Bs))=false:=by rw [beq_eq_false_iff_ne]; exact c
   have d4:(e !=0)=true:=by rw [bne_iff_ne]; exact d3
   simp only [c',d1,d2,d4,Bool.false_eq_true,if_false,if_true,Option.bind_some]
   exact⟨_,e,m4,_,w4,e,rfl,rfl,by rw [h4]; rfl,fun h=>absurd h d3,hm⟩
theorem K2 {n:Nat} {who:Int} {hide:Bool} {s:Bs} {m:zk} {w:ze} (hn:2000000≤n) (hD:QU n w.f_l) (r:RW m w):∃a e m' d w' e',jQ n (s,m)=some (a,e,m')∧km n who hide (s,w)=some (d,e',w')∧e'=(if m'.zG=true then 32 else e)∧(e'=0→d=pu who hide a∧IOk a.zb)∧(m.zG=true→m'.zG=true):=by
 rcases DT (n:=n) s w O0 with⟨rfl,_⟩|⟨rfl,_⟩|⟨rfl,_⟩|⟨rfl,_⟩|⟨rfl,_⟩|⟨rfl,_⟩|⟨rfl,_⟩|⟨hs,h⟩
 ·exact Ps hn hD r
 ·exact Pe hn r
 ·exact PB hn r
 ·exact Pm hn r
 ·exact PH hn r
 ·exact Px hn r
 ·exact PK hn r
 ·exact Pw hn hs h r
def qC (n:Nat) (r2:Bs×zk):Option (zi×Int):=
 yM (if(r2.1==([97,99,116]:List UInt8))=true then((zu n r2.2).bind fun r50=>
 (yh n r50.2).bind fun r51=>
 if(r51.1==([104,105,100,101]:List UInt8))=true then((wD n r51.2).bind fun r54=>
 if r54.2.2.zG=true then(some (.ret ((zi.mk 1 r50.1 (zM.mk r54.1.yA r54.1.yH r54.1.xB r54.1.vx (zr.mk r54.1.zb.yk r54.1.zb.jZ r54.1.zb.yw r54.1.zb.yr r54.1.zb.yc r54.1.zb.zH r54.1.zb.yd r54.1.zb.zA r54.1.zb.zD r54.1.zb.zV r54.1.zb.yl r54.1.zb.zz (zv.mk r54.1.zb.zq.ye r54.1.zb.zq.yo) r54.1.zb.zU r54.1.zb.zJ r54.1.zb.yn r54.1.zb.z7 r54.1.zb.yp) r54.1.yZ r54.1.xz r54.1.yX r54.1.w8 r54.1.wa r54.1.w9 r54.1.yV) true 0 0 0 (yu.mk 0 ([]:(List Int))) (zy.mk 0 ([]:List UInt8) 0 ([]:(List (List UInt8))) false false false ([]:(List za)) 0 false ([]:(List zB))) ([]:(List Int))),32)))else(some (.ret ((zi.mk 1 r50.1 (zM.mk r54.1.yA r54.1.yH r54.1.xB r54.1.vx (zr.mk r54.1.zb.yk r54.1.zb.jZ r54.1.zb.yw r54.1.zb.yr r54.1.zb.yc r54.1.zb.zH r54.1.zb.yd r54.1.zb.zA r54.1.zb.zD r54.1.zb.zV r54.1.zb.yl r54.1.zb.zz (zv.mk r54.1.zb.zq.ye r54.1.zb.zq.yo) r54.1.zb.zU r54.1.zb.zJ r54.1.zb.yn r54.1.zb.z7 r54.1.zb.yp) r54.1.yZ r54.1.xz r54.1.yX r54.1.w8 r54.1.wa r54.1.w9 r54.1.yV) true 0 0 0 (yu.mk 0 ([]:(List Int))) (zy.mk 0 ([]:List UInt8) 0 ([]:(List (List UInt8))) false false false ([]:(List za)) 0 false ([]:(List zB))) ([]:(List Int))),r54.2.1))))else(if(r51.1==([112,111,115,116]:List UInt8))=true then((wD n r51.2).bind fun r55=>
 if r55.2.2.zG=true then(some (.ret ((zi.mk 1 r50.1 (zM.mk r55.1.yA r55.1.yH r55.1.xB r55.1.vx (zr.mk r55.1.zb.yk r55.1.zb.jZ r55.1.zb.yw r55.1.zb.yr r55.1.zb.yc r55.1.zb.zH r55.1.zb.yd r55.1.zb.zA r55.1.zb.zD r55.1.zb.zV r55.1.zb.yl r55.1.zb.zz (zv.mk r55.1.zb.zq.ye r55.1.zb.zq.yo) r55.1.zb.zU r55.1.zb.zJ r55.1.zb.yn r55.1.zb.z7 r55.1.zb.yp) r55.1.yZ r55.1.xz r55.1.yX r55.1.w8 r55.1.wa r55.1.w9 r55.1.yV) false 0 0 0 (yu.mk 0 ([]:(List Int))) (zy.mk 0 ([]:List UInt8) 0 ([]:(List (List UInt8))) false false false ([]:(List za)) 0 false ([]:(List zB))) ([]:(List Int))),32)))else(some (.ret ((zi.mk 1 r50.1 (zM.mk r55.1.yA r55.1.yH r55.1.xB r55.1.vx (zr.mk r55.1.zb.yk r55.1.zb.jZ r55.1.zb.yw r55.1.zb.yr r55.1.zb.yc r55.1.zb.zH r55.1.zb.yd r55.1.zb.zA r55.1.zb.zD r55.1.zb.zV r55.1.zb.yl r55.1.zb.zz (zv.mk r55.1.zb.zq.ye r55.1.zb.zq.yo) r55.1.zb.zU r55.1.zb.zJ r55.1.zb.yn r55.1.zb.z7 r55.1.zb.yp) r55.1.yZ r55.1.xz r55.1.yX r55.1.w8 r55.1.wa r55.1.w9 r55.1.yV) false 0 0 0 (yu.mk 0 ([]:(List Int))) (zy.mk 0 ([]:List UInt8) 0 ([]:(List (List UInt8))) false false false ([]:(List za)) 0 false ([]:(List zB))) ([]:(List Int))),r55.2.1))))else(some (.nxt (1,r50.1,0,0,r51.2.yz,true)))))else(if(r2.1==([99,114,97,115,104]:List UInt8))=true then((zu n r2.2).bind fun r56=>
 (zu n r56.2).bind fun r57=>
 (zu n r57.2).bind fun r58=>
 some (.nxt (2,r56.1,r57.1,r58.1,r58.2.yz,r58.2.zG)))else(if(r2.1==([102,117,115,101]:List UInt8))=true then((zu n r2.2).bind fun r59=>
 (zu n r59.2).bind fun r60=>
 some (.nxt (3,r59.1,r60.1,0,r60.2.yz,r60.2.zG)))else(if(r2.1==([99,111,109,112,97,99,116]:List UInt8))=true then((zu n r2.2).bind fun r61=>
 some (.nxt (4,r61.1,0,0,r61.2.yz,r61.2.zG)))else(if(r2.1==([97,115,107]:List UInt8))=true then((zu n r2.2).bind fun r62=>
 (wr n r62.2).bind fun r63=>
 (zu n r63.2).bind fun r64=>
 (wr n r64.2).bind fun r65=>
 (yx n r65.2).bind fun r66=>
 (yO n r66.2).bind fun r67=>
 if(r67.1 !=0)=true then(some (.ret ((zi.mk 5 0 (zM.mk 0 0 0 ([]:List UInt8) (zr.mk false false 0 0 ([]:(List (List UInt8))) ([]:(List (List UInt8))) ([]:(List zw)) 0 0 0 ([]:(List za)) false (zv.mk ([]:(List za)) ([]:(List za))) ([]:List UInt8) ([]:List UInt8) ([]:(List zn)) ([]:(List zn)) ([]:(List zf))) 0 0 0 0 0 0 false) false 0 0 r62.1 (yu.mk r64.1 r65.1) (zy.mk 0 ([]:List UInt8) 0 ([]:(List (List UInt8))) false false false ([]:(List za)) 0 false ([]:(List zB))) r63.1),r67.1)))else((uF n r66.1).bind fun r68=>
 some (.ret ((zi.mk 5 0 (zM.mk 0 0 0 ([]:List UInt8) (zr.mk false false 0 0 ([]:(List (List UInt8))) ([]:(List (List UInt8))) ([]:(List zw)) 0 0 0 ([]:(List za)) false (zv.mk ([]:(List za)) ([]:(List za))) ([]:List UInt8) ([]:List UInt8) ([]:(List zn)) ([]:(List zn)) ([]:(List zf))) 0 0 0 0 0 0 false) false 0 0 r62.1 (yu.mk r64.1 r65.1) r68.1 r63.1),r68.2))))else(some (.nxt (0,0,0,0,r2.2.yz,true)))))))) (fun r=>some r) (fun y47=>
 (yO n (zk.mk y47.2.2.2.2.1 y47.2.2.2.2.2)).bind fun r69=>
 some ((zi.mk y47.1 y47.2.1 (zM.mk 0 0 0 ([]:List UInt8) (zr.mk false false 0 0 ([]:(List (List UInt8))) ([]:(List (List UInt8))) ([]:(List zw)) 0 0 0 ([]:(List za)) false (zv.mk ([]:(List za)) ([]:(List za))) ([]:List UInt8) ([]:List UInt8) ([]:(List zn)) ([]:(List zn)) ([]:(List zf))) 0 0 0 0 0 0 false) false y47.2.2.1 y47.2.2.2.1 0 (yu.mk 0 ([]:(List Int))) (zy.mk 0 ([]:List UInt8) 0 ([]:(List (List UInt8))) false false false ([]:(List za)) 0 false ([]:(List zB))) ([]:(List Int))),r69.1))
def be (n:Nat) (r2:Bs×ze):Option (zi×Int):=
 yM (if(r2.1==([97,99,116]:List UInt8))=true then((wS n r2.2).bind fun r41=>
 some (.ret ((zi.mk r41.1.yA r41.1.bL (zM.mk r41.1.zj.yA r41.1.zj.yH r41.1.zj.xB r41.1.zj.vx (zr.mk r41.1.zj.zb.yk r41.1.zj.zb.jZ r41.1.zj.zb.yw r41.1.zj.zb.yr r41.1.zj.zb.yc r41.1.zj.zb.zH r41.1.zj.zb.yd r41.1.zj.zb.zA r41.1.zj.zb.zD r41.1.zj.zb.zV r41.1.zj.zb.yl r41.1.zj.zb.zz (zv.mk r41.1.zj.zb.zq.ye r41.1.zj.zb.zq.yo) r41.1.zj.zb.zU r41.1.zj.zb.zJ r41.1.zj.zb.yn r41.1.zj.zb.z7 r41.1.zj.zb.yp) r41.1.zj.yZ r41.1.zj.xz r41.1.zj.yX r41.1.zj.w8 r41.1.zj.wa r41.1.zj.w9 r41.1.zj.yV) r41.1.k9 r41.1.ki r41.1.qt r41.1.q8 (yu.mk r41.1.jr.yH r41.1.jr.vV) (zy.mk r41.1.zF.yH r41.1.zF.vJ r41.1.zF.yr r41.1.zF.zH r41.1.zF.vD r41.1.zF.wW r41.1.zF.qK r41.1.zF.yl r41.1.zF.wq r41.1.zF.jL r41.1.zF.vy) r41.1.jB),r41.2.1)))else(if(r2.1==([99,114,97,115,104]:List UInt8))=true then((zo n false r2.2).bind fun r42=>
 (zo n false r42.2).bind fun r43=>
 (zo n false r43.2).bind fun r44=>
 some (.nxt (r44.2.f_l,r44.2.wB,r44.2.zG,2,r42.1,r43.1,r44.1)))else(if(r2.1==([102,117,115,101]:List UInt8))=true then((zo n false r2.2).bind fun r45=>
 (zo n false r45.2).bind fun r46=>
 some (.nxt (r46.2.f_l,r46.2.wB,r46.2.zG,3,r45.1,r46.1,0)))else(if(r2.1==([99,111,109,112,97,99,116]:List UInt8))=true then((zo n false r2.2).bind fun r47=>
 some (.nxt (r47.2.f_l,r47.2.wB,r47.2.zG,4,r47.1,0,0)))else(if(r2.1==([97,115,107]:List UInt8))=true then((zo n false r2.2).bind fun r48=>
 (xn n r48.2).bind fun r49=>
 (zo n false r49.2).bind fun r50=>
 (xn n r50.2).bind fun r51=>
 (yG n r51.2).bind fun r52=>
 (yS n r52.2).bind fun r53=>
 if(!r53.1)=true then(some (.ret ((zi.mk 5 0 (zM.mk 0 0 0 ([]:List UInt8) (zr.mk false false 0 0 ([]:(List (List UInt8))) ([]:(List (List UInt8))) ([]:(List zw)) 0 0 0 ([]:(List za)) false (zv.mk ([]:(List za)) ([]:(List za))) ([]:List UInt8) ([]:List UInt8) ([]:(List zn)) ([]:(List zn)) ([]:(List zf))) 0 0 0 0 0 0 false) false 0 0 r48.1 (yu.mk r50.1 r51.1) (zy.mk 0 ([]:List UInt8) 0 ([]:(List (List UInt8))) false false false ([]:(List za)) 0 false ([]:(List zB))) r49.1),32)))else((wf n r52.1).bind fun r54=>
 some (.ret ((zi.mk 5 0 (zM.mk 0 0 0 ([]:List UInt8) (zr.mk false false 0 0 ([]:(List (List UInt8))) ([]:(List (List UInt8))) ([]:(List zw)) 0 0 0 ([]:(List za)) false (zv.mk ([]:(List za)) ([]:(List za))) ([]:List UInt8) ([]:List UInt8) ([]:(List zn)) ([]:(List zn)) ([]:(List zf))) 0 0 0 0 0 0 false) false 0 0 r48.1 (yu.mk r50.1 r51.1) r54.1 r49.1),r54.2))))else(some (.ret ((zi.mk 0 0 (zM.mk 0 0 0 ([]:List UInt8) (zr.mk false false 0 0 ([]:(List (List UInt8))) ([]:(List (List UInt8))) ([]:(List zw)) 0 0 0 ([]:(List za)) false (zv.mk ([]:(List za)) ([]:(List za))) ([]:List UInt8) ([]:List UInt8) ([]:(List zn)) ([]:(List zn)) ([]:(List zf))) 0 0 0 0 0 0 false) false 0 0 0 (yu.mk 0 ([]:(List Int))) (zy.mk 0 ([]:List UInt8) 0 ([]:(List (List UInt8))) false false false ([]:(List za)) 0 false ([]:(List zB))) ([]:(List Int))),32)))))))) (fun r=>some r) (fun y38=>
 (yS n (ze.mk y38.1 y38.2.1 y38.2.2.1)).bind fun r55=>
 if(!r55.1)=true then(some ((zi.mk y38.2.2.2.1 y38.2.2.2.2.1 (zM.mk 0 0 0 ([]:List UInt8) (zr.mk false false 0 0 ([]:(List (List UInt8))) ([]:(List (List UInt8))) ([]:(List zw)) 0 0 0 ([]:(List za)) false (zv.mk ([]:(List za)) ([]:(List za))) ([]:List UInt8) ([]:List UInt8) ([]:(List zn)) ([]:(List zn)) ([]:(List zf))) 0 0 0 0 0 0 false) false y38.2.2.2.2.2.1 y38.2.2.2.2.2.2 0 (yu.mk 0 ([]:(List Int))) (zy.mk 0 ([]:List UInt8) 0 ([]:(List (List UInt8))) false false false ([]:(List za)) 0 false ([]:(List zB))) ([]:(List Int))),32))else(some ((zi.mk y38.2.2.2.1 y38.2.2.2.2.1 (zM.mk 0 0 0 ([]:List UInt8) (zr.mk false false 0 0 ([]:(List (List UInt8))) ([]:(List (List UInt8))) ([]:(List zw)) 0 0 0 ([]:(List za)) false (zv.mk ([]:(List za)) ([]:(List za))) ([]:List UInt8) ([]:List UInt8) ([]:(List zn)) ([]:(List zn)) ([]:(List zf))) 0 0 0 0 0 0 false) false y38.2.2.2.2.2.1 y38.2.2.2.2.2.2 0 (yu.mk 0 ([]:(List Int))) (zy.mk 0 ([]:List UInt8) 0 ([]:(List (List UInt8))) false false false ([]:(List za)) 0 false ([]:(List zB))) ([]:(List Int))),0)))
theorem GZ (n:Nat) (a0:Bs):uE n a0=
 (wU n a0 ([32]:List UInt8)).bind fun r1=>
 (yh n (zk.mk r1 false)).bind fun r2=>
 qC n r2:=by
  unfold uE qC; rfl
theorem JO (n:Nat) (a0:Bs):xI n a0=
 (xh n a0 32).bind fun r1=>
 (zT n (ze.mk r1 0 false)).bind fun r2=>
 be n r2:=by
  unfold xI be; rfl
theorem Gx {n:Nat} {m:zk} {w:ze} (hn:2000000≤n) (hD:QU n w.f_l) (r:RW m w):∃d d' e,qC n ([97,99,116],m)=some (d,e)∧be n ([97,99,116],w)=some (d',e)∧(e=0→d=d'∧DOk n d):=by
 obtain⟨a1,b1,m1,w1,p1,q1,r1,f1,g1,l1⟩:=vj hn r
 obtain⟨s,m2,w2,p2,q2,r2,_,l2,f2,_,_⟩:=pt (n:=n) r1
 unfold qC be
 rw [if_pos O6,if_pos O6,p1,Option.bind_some,p2,Option.bind_some,Km,q1,Option.bind_some,q2,Option.bind_some]
 have key:∀(y:Bool),∃s3 m3 w3,yh n ⟨m2.yz,y⟩=some (s3,m3)∧zT n ⟨w2.f_l,w2.wB,y⟩=some (s3,w3)∧RW m3 w3∧QU n w3.f_l∧(y=true→m3.zG=true):=by
  intro y
  obtain⟨s3,m3,w3,p3,q3,r3,_,l3,f3,_,_⟩:=pt (n:=n) (r2.turn y)
  exact⟨s3,m3,w3,p3,q3,r3,by rw [l3]; show QU n w2.f_l; rw [l2,l1]; exact hD,f3⟩
 by_cases c:s= [104,105,100,101]∨s= [112,111,115,116]
 ·have hy:(if w2.zG=true then(some true)else(if(!(s==([104,105,100,101]:List UInt8)))=true then(some (!(s==([112,111,115,116]:List UInt8))))else(some false)))=some w2.zG:=by
   cases h:w2.zG with
   |true=>rfl
   |false=>rcases c with rfl|rfl<;>rfl
  obtain⟨s3,m3,w3,p3,q3,r3,d3,f3⟩:=key w2.zG
  rw [←r2.bad,Ux]at p3
  obtain⟨a,e,m',d,w',e',k1,k2,k3,k4,k5⟩:=K2 (who:=b1) (hide:=s==([104,105,100,101]:Bs)) (s:=s3) hn d3 r3
  simp only [hy,Option.bind_some,q3,k2,Pn,p3,k1]
  have fin:m'.zG=false→a1=b1:=by
   intro h
   refine g1 ?_
   cases x:m1.zG with
   |false=>rfl
   |true=>rw [k5 (f3 (by rw [←r2.bad]; exact f2 x))]at h; cases h
  rcases c with rfl|rfl
  ·rw [if_pos O6]
   cases hb:m'.zG with
   | true=>
    rw [hb]at k3; subst k3
    exact⟨_,_,32,rfl,rfl,fun h=>absurd h O1⟩
   | false=>
    rw [hb]at k3; cases fin hb
    refine⟨_,_,e,rfl,by rw [k3]; rfl,fun h=> ?_⟩
    obtain⟨i1,i2⟩:=k4 (by rw [k3]; exact h)
    exact⟨by rw [i1]; rfl,i2,Nat.zero_le _,Nat.zero_le _,X4 O0⟩
  ·rw [if_neg (Bool.eq_false_iff.1 O6),if_pos O6]
   cases hb:m'.zG with
   | true=>
    rw [hb]at k3; subst k3
    exact⟨_,_,32,rfl,rfl,fun h=>absurd h O1⟩
   | false=>
    rw [hb]at k3; cases fin hb
    refine⟨_,_,e,rfl,by rw [k3]; rfl,fun h=> ?_⟩
    obtain⟨i1,i2⟩:=k4 (by rw [k3]; exact h)
    exact⟨by rw [i1]; rfl,i2,Nat.zero_le _,Nat.zero_le _,X4 O0⟩
 ·have c1:(s==([104,105,100,101]:Bs))=false:=by rw [beq_eq_false_iff_ne]; exact fun h=>c (.inl h)
  have c2:(s==([112,111,115,116]:Bs))=false:=by rw [beq_eq_false_iff_ne]; exact fun h=>c (.inr h)
  have hy:(if w2.zG=true then(some true)else(if(!(s==([104,105,100,101]:List UInt8)))=true then(some (!(s==([112,111,115,116]:List UInt8))))else(some false)))=some true:=by
   rw [c1,c2]; split<;>rfl
  obtain⟨s3,m3,w3,p3,q3,r3,d3,f3⟩:=key true
  obtain⟨a,e,m',d,w',e',k1,k2,k3,k4,k5⟩:=K2 (who:=b1) (hide:=s==([104,105,100,101]:Bs)) (s:=s3) hn d3 r3
  obtain⟨b,p,q,qb⟩:=gT (n:=n) (r2.turn true)
  have hb:b=false:=by cases b with
   |false=>rfl
   |true=>cases qb rfl
  subst hb
  rw [k5 (f3 rfl)]at k3
  simp only [if_true]at k3
  subst k3
  simp only [hy,Option.bind_some,q3,k2]
  simp only [c1,c2,Bool.false_eq_true,if_false,yM,Option.bind_some,p]
  exact⟨_,_,32,rfl,rfl,fun h=>absurd h O1⟩
theorem G8 {n:Nat} {m:zk} {w:ze} (hn:2000000≤n) (r:RW m w):∃d d' e,qC n ([99,114,97,115,104],m)=some (d,e)∧be n ([99,114,97,115,104],w)=some (d',e)∧(e=0→d=d'∧DOk n d):=by
 obtain⟨a1,b1,m1,w1,p1,q1,r1,f1,g1,l1⟩:=vj hn r
 obtain⟨a2,b2,m2,w2,p2,q2,r2,f2,g2,l2⟩:=vj hn r1
 obtain⟨a3,b3,m3,w3,p3,q3,r3,f3,g3,l3⟩:=vj hn r2
 obtain⟨b,p,q,qb⟩:=gT (n:=n) r3
 unfold qC be
 rw [if_neg (Bool.eq_false_iff.1 O6),if_pos O6,if_neg (Bool.eq_false_iff.1 O6),if_pos O6,p1,Option.bind_some,p2,Option.bind_some,p3,Option.bind_some,q1,Option.bind_some,q2,Option.bind_some,q3,Option.bind_some]
 simp only [yM,Jt,Ux,p,q,Option.bind_some]
 cases b with
 |false=>exact⟨_,_,32,rfl,rfl,fun h=>absurd h O1⟩
 | true=>
  have h3:=qb rfl
  have h2:m2.zG=false:=by cases c:m2.zG with
   |false=>rfl
   |true=>rw [f3 c]at h3; cases h3
  have h1:m1.zG=false:=by cases c:m1.zG with
   |false=>rfl
   |true=>rw [f2 c]at h2; cases h2
  cases g1 h1
  cases g2 h2
  cases g3 h3
  exact⟨_,_,0,rfl,rfl,fun _=>⟨rfl, .inl rfl,Nat.zero_le _,Nat.zero_le _,X4 O0⟩⟩
theorem G7 {n:Nat} {m:zk} {w:ze} (hn:2000000≤n) (r:RW m w):∃d d' e,qC n ([102,117,115,101],m)=some (d,e)∧be n ([102,117,115,101],w)=some (d',e)∧(e=0→d=d'∧DOk n d):=by
 obtain⟨a1,b1,m1,w1,p1,q1,r1,f1,g1,l1⟩:=vj hn r
 obtain⟨a2,b2,m2,w2,p2,q2,r2,f2,g2,l2⟩:=vj hn r1
 obtain⟨b,p,q,qb⟩:=gT (n:=n) r2
 unfold qC be
 rw [if_neg (Bool.eq_false_iff.1 O6),if_neg (Bool.eq_false_iff.1 O6),if_pos O6,if_neg (Bool.eq_false_iff.1 O6),if_neg (Bool.eq_false_iff.1 O6),if_pos O6,p1,Option.bind_some,p2,Option.bind_some,q1,Option.bind_some,q2,Option.bind_some]
 simp only [yM,Jt,Ux,p,q,Option.bind_some]
 cases b with
 |false=>exact⟨_,_,32,rfl,rfl,fun h=>absurd h O1⟩
 | true=>
  have h2:=qb rfl
  have h1:m1.zG=false:=by cases c:m1.zG with
   |false=>rfl
   |true=>rw [f2 c]at h2; cases h2
  cases g1 h1
  cases g2 h2
  exact⟨_,_,0,rfl,rfl,fun _=>⟨rfl, .inl rfl,Nat.zero_le _,Nat.zero_le _,X4 O0⟩⟩
theorem DO {n:Nat} {m:zk} {w:ze} (hn:2000000≤n) (r:RW m w):∃d d' e,qC n ([99,111,109,112,97,99,116],m)=some (d,e)∧be n ([99,111,109,112,97,99,116],w)=some (d',e)∧(e=0→d=d'∧DOk n d):=by
 obtain⟨a1,b1,m1,w1,p1,q1,r1,f1,g1,l1⟩:=vj hn r
 obtain⟨b,p,q,qb⟩:=gT (n:=n) r1
 unfold qC be
 rw [if_neg (Bool.eq_false_iff.1 O6),if_neg (Bool.eq_false_iff.1 O6),if_neg (Bool.eq_false_iff.1 O6),if_pos O6,if_neg (Bool.eq_false_iff.1 O6),if_neg (Bool.eq_false_iff.1 O6),if_neg (Bool.eq_false_iff.1 O6),if_pos O6,p1,Option.bind_some,q1,Option.bind_some]
 simp only [yM,Jt,Ux,p,q,Option.bind_some]
 cases b with
 |false=>exact⟨_,_,32,rfl,rfl,fun h=>absurd h O1⟩
 | true=>
  have h1:=qb rfl
  cases g1 h1
  exact⟨_,_,0,rfl,rfl,fun _=>⟨rfl, .inl rfl,Nat.zero_le _,Nat.zero_le _,X4 O0⟩⟩
theorem KY {n:Nat} {s:Bs} {m:zk} {w:ze} (r:RW m w) (c1:(s==([97,99,116]:Bs))=false) (c2:(s==([99,114,97,115,104]:Bs))=false) (c3:(s==([102,117,115,101]:Bs))=false) (c4:(s==([99,111,109,112,97,99,116]:Bs))=false) (c5:(s==([97,115,107]:Bs))=false):∃d d',qC n (s,m)=some (d,32)∧be n (s,w)=some (d',32):=by
 obtain⟨b,p,q,qb⟩:=gT (n:=n) (r.turn true)
 have hb:b=false:=by cases b with
  |false=>rfl
  |true=>cases qb rfl
 subst hb
 unfold qC be
 simp only [c1,c2,c3,c4,c5,Bool.false_eq_true,if_false,yM,p,Option.bind_some]
 exact⟨_,_,rfl,rfl⟩
def D8 (n:Nat) (L:List Bs):Prop:=∀b,UR n L b→∃v v' e,uF n b=some (v,e)∧wf n b=some (v',e)∧(e=0→v=v'∧xO n v v=some true)
theorem GV {n:Nat} {m:zk} {w:ze} (hn:2000000≤n) (hD:D8 n w.f_l) (r:RW m w):∃d d' e,qC n ([97,115,107],m)=some (d,e)∧be n ([97,115,107],w)=some (d',e)∧(e=0→d=d'∧DOk n d):=by
 obtain⟨a1,b1,m1,w1,p1,q1,r1,f1,g1,l1⟩:=vj hn r
 obtain⟨a2,b2,m2,w2,p2,q2,r2,f2,g2,l2⟩:=Kt hn r1
 obtain⟨a3,b3,m3,w3,p3,q3,r3,f3,g3,l3⟩:=vj hn r2
 obtain⟨a4,b4,m4,w4,p4,q4,r4,f4,g4,l4⟩:=Kt hn r3
 obtain⟨a5,m5,w5,p5,q5,r5,f5,g5,l5⟩:=WB hn r4
 obtain⟨b,p,q,qb⟩:=gT (n:=n) r5
 unfold qC be
 rw [if_neg (Bool.eq_false_iff.1 O6),if_neg (Bool.eq_false_iff.1 O6),if_neg (Bool.eq_false_iff.1 O6),if_neg (Bool.eq_false_iff.1 O6),if_pos O6,if_neg (Bool.eq_false_iff.1 O6),if_neg (Bool.eq_false_iff.1 O6),if_neg (Bool.eq_false_iff.1 O6),if_neg (Bool.eq_false_iff.1 O6),if_pos O6,p1,Option.bind_some,p2,Option.bind_some,p3,Option.bind_some,p4,Option.bind_some,p5,Option.bind_some,p,Option.bind_some,q1,Option.bind_some,q2,Option.bind_some,q3,Option.bind_some,q4,Option.bind_some,q5,Option.bind_some,q,Option.bind_some]
 cases b with
 |false=>exact⟨_,_,32,rfl,rfl,fun h=>absurd h O1⟩
 | true=>
  have h5:=qb rfl
  have h4:m4.zG=false:=by cases c:m4.zG with
   |false=>rfl
   |true=>rw [f5 c]at h5; cases h5
  have h3:m3.zG=false:=by cases c:m3.zG with
   |false=>rfl
   |true=>rw [f4 c]at h4; cases h4
  have h2:m2.zG=false:=by cases c:m2.zG with
   |false=>rfl
   |true=>rw [f3 c]at h3; cases h3
  have h1:m1.zG=false:=by cases c:m1.zG with
   |false=>rfl
   |true=>rw [f2 c]at h2; cases h2
  have hx:=g5 h5
  rw [l4,l3,l2,l1]at hx
  cases g1 h1; cases g3 h3
  obtain⟨rfl,n2⟩:=g2 h2
  obtain⟨rfl,n4⟩:=g4 h4
  obtain⟨v,v',e,d1,d2,d3⟩:=hD a5 hx
  simp only [if_true,bne_self_eq_false,Bool.false_eq_true,if_false,Bool.not_true,d1,d2,Option.bind_some,yM]
  refine⟨_,_,e,rfl,rfl,fun h=> ?_⟩
  obtain⟨rfl,d4⟩:=d3 h
  exact⟨rfl, .inl rfl,n4,n2,d4⟩
theorem GM {n:Nat} {x:Bs} (hn:2000000≤n) (hx:x.length<1000000) (hX:QU n (splitB 32 x)) (hQ:D8 n (splitB 32 x)):∃d d' e,uE n x=some (d,e)∧xI n x=some (d',e)∧(e=0→d=d'∧DOk n d):=by
 have hc:(splitB 32 x).length≤1000000:=by rw [j7]; have:=List.count_le_length (a:=(32:UInt8)) (l:=x); omega
 have r0:RW ⟨splitB 32 x,false⟩ ⟨splitB 32 x,0,false⟩:=⟨⟨0,rfl,Nat.zero_le _,rfl⟩,rfl,hc,fun s hs=>by have:=kw hs; omega⟩
 obtain⟨s,m,w,p,q,r,_,l,_⟩:=pt (n:=n) r0
 rw [GZ,JO,ga O0 O0,show(32:Int)=(((32:UInt8).toNat:Nat):Int)from rfl,Z8 O0 O0,Option.bind_some,Option.bind_some,p,q,Option.bind_some,Option.bind_some]
 have hl:w.f_l=splitB 32 x:=l
 rw [←hl]at hX hQ
 by_cases c1:s= [97,99,116]
 ·subst c1; exact Gx hn hX r
 by_cases c2:s= [99,114,97,115,104]
 ·subst c2; exact G8 hn r
 by_cases c3:s= [102,117,115,101]
 ·subst c3; exact G7 hn r
 by_cases c4:s= [99,111,109,112,97,99,116]
 ·subst c4; exact DO hn r
 by_cases c5:s= [97,115,107]
 ·subst c5; exact GV hn hQ r
 ·obtain⟨d,d',p,q⟩:=KY (n:=n) r (beq_eq_false_iff_ne.2 c1) (beq_eq_false_iff_ne.2 c2) (beq_eq_false_iff_ne.2 c3) (beq_eq_false_iff_ne.2 c4) (beq_eq_false_iff_ne.2 c5)
  exact⟨d,d',32,p,q,fun h=>absurd h O1⟩
theorem KF {n:Nat} {c:UInt8} {s:Bs} (hs:s.length≤1000000000) (h5:5≤s.length):∀(k i:Nat) (v:Bs) (done:List Bs),done.length=i→i≤5→v.length≤s.length→6-i≤k →
  ∃w D,wj n s 6 [c] 0 6 k v (i:Int) (done++List.replicate (6-i) [])=some (w,((List.length D:Nat):Int),D++List.replicate (6-D.length) [])∧D.length≤5∧done++splitB c v=D++splitB c w∧(D.length<5→c∉w)∧w.length≤v.length∧∀b∈w,b∈v
 |0,_,_,_,_,h,_,h2=>O0
 | k + 1,i,v,done,hd,hi,hv,hk=>by
  rw [wj]
  have e1:wrap .i64 ((s.length:Int)+1)=((s.length+1:Nat):Int):=by rw [jX O0]; omega
  rw [e1]
  have e2:(if(((s.length+1:Nat):Int))<(6:Int)then((s.length+1:Nat):Int)else(6:Int))=6:=by
   rw [if_neg O0]
  rw [e2,jX (x:=(6:Int)-1) O0]
  by_cases hc:i<5
  ·rw [if_pos O4]
   have hidx:pL n v [c]=some (Lib.index v [c]):=by unfold pL; rw [if_pos O0]
   rw [hidx]
   simp only [Option.bind_some]
   rcases Z4 c v with⟨h1,h2⟩|⟨p,r,h1,h2,h3⟩
   ·rw [h1,if_pos O1]
    subst hd
    exact⟨v,done,rfl,hi,rfl,fun _=>h2,Nat.le_refl _,fun _ h=>h⟩
   ·have hvl:v.length=p.length+1+r.length:=by rw [h1]; simp; omega
    rw [h2,if_neg O2,jX (x:=(p.length:Int)+0) O0,Int.add_zero]
    have s1:ssl v 0 (p.length:Int)=some p:=by
     rw [show(0:Int)=((0:Nat):Int)from rfl,qN O0 O0,h1]; simp
    have s2:ssl v (wrap .i64 ((p.length:Int)+(([c]:Bs).length:Int))) (v.length:Int)=some r:=by
     rw [show(([c]:Bs).length:Int)=1 from rfl,w1 O0,qN O0 O0,List.take_length,h1,show p.length+1=(p ++ [c]).length by simp,show p++c::r=(p ++ [c])++r by simp,List.drop_left]
    have s3:pJ 6 (i:Int)=some i:=by unfold pJ; rw [if_pos O0]; simp
    have hrep:List.replicate (6-i) ([]:Bs)= []::List.replicate (6-(i+1)) []:=by
     rw [show 6-i=(6-(i+1))+1 by omega,List.replicate_succ]
    rw [s1,s3,s2,hrep]
    simp only [Option.bind_some]
    rw [Vq hd.symm,w1 O0]
    simp only [Option.bind_some]
    obtain⟨w,d2,g1,g2,g3,g4⟩:=KF (n:=n) (c:=c) hs h5 k (i+1) r (done ++ [p]) (by simp [hd]) O0 O0 O0
    refine⟨w,d2, ?_,g2, ?_,g4.1,by have:=g4.2.1; omega,fun b hb=> ?_⟩
    ·rw [←g1]; simp
    ·rw [←g3,h1,(u1 h3).2 r]; simp
    ·rw [h1]; exact List.mem_append_right _ (List.mem_cons_of_mem _ (g4.2.2 b hb))
  ·rw [if_neg O4]
   subst hd
   exact⟨v,done,rfl,hi,rfl,fun h=>absurd h hc,Nat.le_refl _,fun _ h=>h⟩
theorem DK {n:Nat} {c:UInt8} {s:Bs} (hs:s.length≤1000000000) (h5:5≤s.length) (hn:6≤n):∃D w,qx n s [c] 6=some (D ++ [w])∧D.length≤5∧splitB c s=D++splitB c w∧(D.length<5→c∉w)∧w.length≤s.length∧∀b∈w,b∈s:=by
 unfold qx uD
 rw [if_neg O1,if_neg O2,if_neg O1]
 simp only [Option.bind_some]
 have e1:wrap .i64 ((s.length:Int)+1)=((s.length+1:Nat):Int):=by rw [jX O0]; omega
 rw [e1]
 have e2:(if(((s.length+1:Nat):Int))<(6:Int)then((s.length+1:Nat):Int)else(6:Int))=6:=by
  rw [if_neg O0]
 rw [e2,show Un 16 6 6=some 6 from rfl]
 simp only [Option.bind_some]
 obtain⟨w,D,g1,g2,g3,g4⟩:=KF (n:=n) (c:=c) hs h5 n 0 s [] rfl O0 (Nat.le_refl _) O0
 rw [show((0:Nat):Int)=0 from rfl,List.nil_append,Nat.sub_zero]at g1
 rw [List.nil_append]at g3
 rw [g1]
 simp only [Option.bind_some]
 have s3:pJ 6 ((D.length:Nat):Int)=some D.length:=by unfold pJ; rw [if_pos O0]; simp
 have hrep:List.replicate (6-D.length) ([]:Bs)= []::List.replicate (5-D.length) []:=by
  rw [show 6-D.length=(5-D.length)+1 by omega,List.replicate_succ]
 rw [s3,hrep]
 simp only [Option.bind_some]
 rw [Vq rfl]
 simp only [Option.bind_some]
 have e3:wrap .i64 (((D.length:Nat):Int)+1)=((D.length+1:Nat):Int):=by rw [jX O0]; omega
 rw [e3]
 have e4:osl 6 ((D.length+1:Nat):Int)=some (D.length+1):=by unfold osl; rw [if_pos O0]; simp
 rw [e4]
 simp only [Option.bind_some]
 have e5:Jj (D.length+1) (D++w::List.replicate (5-D.length) [])=some (D ++ [w]):=by
  unfold Jj; rw [if_pos O2]
  congr 1
  rw [show D++w::List.replicate (5-D.length) []=(D ++ [w])++List.replicate (5-D.length) []by simp,List.take_left' O2]
 rw [e5]
 exact⟨D,w,rfl,g2,g3,g4⟩
theorem pA {n:Nat} (d:Bs) (T:List Bs) (b:Bool):yh n ⟨d::T,b⟩=some (d,⟨T,b⟩):=by
 unfold yh
 rw [if_neg (by simp only [beq_iff_eq,List.length_cons]; omega)]
 have e4:lsl (d::T) 1 (List.length (d::T))=some T:=JC
 show(xe (d::T) 0).bind _=_
 rw [show xe (d::T) 0=some d from rfl,Option.bind_some]
 show(lsl (d::T) 1 (List.length (d::T))).bind _=_
 rw [e4]; rfl
theorem V4 {n:Nat} (b:Bool):yh n ⟨[],b⟩=some ([],⟨[],true⟩):=rfl
theorem WO {n:Nat} {d:Bs} {b:Bool} (hd:d.length≤1000000):∃a y,∀T,zu n ⟨d::T,b⟩=some (a,⟨T,y⟩):=by
 unfold zu
 simp only [pA,Option.bind_some]
 cases h:Z5 d with
 |some u=>exact⟨u,b,fun T=>by rw [pC O0,h]; rfl⟩
 |none=>exact⟨0,true,fun T=>by rw [pC O0,h]; rfl⟩
theorem Uo {n:Nat} {d:Bs} {b:Bool} (hd:d.length≤1000000) (hn:2000000≤n):∃a y,∀T,yx n ⟨d::T,b⟩=some (a,⟨T,y⟩):=by
 unfold yx
 simp only [pA,Option.bind_some]
 by_cases c:d= [45]
 ·subst c; exact⟨_,b,fun T=>by rw [if_pos O1]⟩
 ·obtain ⟨x,ok,g1,_⟩:=VE (n:=n) (s:=d) hd hn
  obtain ⟨y,hy⟩:∃y,(if b=true then some true else if(!ok)=true then some true else some (x==([]:Bs)))=some y:=by
   cases b with
   |true=>exact⟨_,rfl⟩
   | false=>
    cases ok with
    |false=>exact⟨_,rfl⟩
    |true=>exact⟨_,rfl⟩
  refine⟨x,y,fun T=> ?_⟩
  rw [if_neg (O7 c),g1,Option.bind_some,hy]; rfl
theorem Du (sep x:Bs) (r:List Bs):Lib.joinTail sep (x::r)=sep++x++Lib.joinTail sep r:=by simp [Lib.joinTail]
theorem KD {n:Nat} {L:List Bs} (hL:L.length≤1000000):∀(k i:Nat) (a:Bs),i≤L.length→L.length-i<k→a.length+(Lib.joinTail [32] (L.drop i)).length≤1000000000→xF n k a L (i:Int) false=some (a++Lib.joinTail [32] (L.drop i))
 |0,i,_,_,h,_=>O0
 | k + 1,i,a,hi,hk,hlen=>by
  rw [xF]
  by_cases c:i<L.length
  ·rw [List.drop_eq_getElem_cons c]at hlen ⊢
   have ej:Lib.joinTail [32] (L[i]::L.drop (i+1))= [32]++L[i]++Lib.joinTail [32] (L.drop (i+1)):=Du _ _ _
   rw [ej]at hlen ⊢
   simp only [List.length_append,List.length_singleton]at hlen
   have ew:zT n ⟨L,(i:Int),false⟩=some (L[i],⟨L,((i+1:Nat):Int),false⟩):=by
    unfold zT
    rw [if_neg (by rw [decide_eq_true_eq]; show ¬((i:Int)≥(L.length:Int)); omega)]
    have e2:wrap .i64 (wrap .i64 ((i:Int)+1)-1)=(i:Int):=by rw [jX (x:=(i:Int)+1) O0,jX O0]; omega
    show(xe L (wrap .i64 (wrap .i64 ((i:Int)+1)-1))).bind _=_
    rw [e2,un c,Option.bind_some]
    show some (L[i],ze.mk L (wrap .i64 ((i:Int)+1)) false)=_
    rw [w1 O0]
   rw [if_pos O4,ew,Option.bind_some]
   dsimp only
   rw [show pb ([32]:Bs) L[i]=some ([32]++L[i])from qV O3,Option.bind_some,show pb a ([32]++L[i])=some (a++([32]++L[i]))from qV O3,Option.bind_some,KD hL k (i+1) _ O0 O0 (by simp only [List.length_append,List.length_singleton]; omega)]
   simp only [List.append_assoc]
  ·rw [if_neg O4,List.drop_eq_nil_of_le O0]
   simp [Lib.joinTail]
theorem UE {n:Nat} {m m':zk} {a:Int} (hw:∀s∈m.yz,s.length≤1000000) (h:zu n m=some (a,m')):m'.yz=m.yz.tail:=by
 obtain⟨ws,b⟩:=m
 cases ws with
 | nil=>
  unfold zu at h
  rw [V4,Option.bind_some]at h
  dsimp only at h
  rw [pC O2,JK]at h
  cases h; rfl
 | cons d T=>
  obtain⟨x,y,e⟩:=WO (n:=n) (d:=d) (b:=b) (hw d (List.mem_cons_self))
  rw [e T]at h
  cases h; rfl
theorem Qw {n:Nat} {m m':zk} {a:Bs} (hn:2000000≤n) (hw:∀s∈m.yz,s.length≤1000000) (h:yx n m=some (a,m')):m'.yz=m.yz.tail:=by
 obtain⟨ws,b⟩:=m
 cases ws with
 | nil=>
  unfold yx at h
  rw [V4,Option.bind_some,if_neg O1]at h
  obtain⟨x,ok,g1,_⟩:=VE (n:=n) (s:= []) O2 hn
  dsimp only at h
  rw [g1,Option.bind_some]at h
  dsimp only at h
  rw [if_pos rfl,Option.bind_some]at h
  cases h; rfl
 | cons d T=>
  obtain⟨x,y,e⟩:=Uo (n:=n) (d:=d) (b:=b) (hw d (List.mem_cons_self)) hn
  rw [e T]at h
  cases h; rfl
theorem Jk {n:Nat} {x:Bs} (hn:2000000≤n) (hx:x.length<1000000) (h5:5≤x.length) (hb:(92:UInt8)∉x) (hS:∀b,UR n (splitB 32 x) b→b.length≠32):∃v v' e,vZ n x=some (v,e)∧wF n x=some (v',e)∧e≠0:=by
 have hcl:(splitB 32 x).length≤1000000:=by rw [j7]; have:=List.count_le_length (a:=(32:UInt8)) (l:=x); omega
 have hws:∀s∈splitB 32 x,s.length≤1000000:=fun s hs=>by have:=kw hs; omega
 obtain⟨D,w,hp,hD,hL,hc,hwl,hwm⟩:=DK (n:=n) (c:=32) (s:=x) O0 h5 O0
 have hpos:1≤(splitB 32 x).length:=by rw [j7]; omega
 have r0:RW ⟨(splitB 32 x).drop 1,false⟩ ⟨splitB 32 x,1,false⟩:=⟨⟨1,rfl,hpos,rfl⟩,rfl,hcl,hws⟩
 obtain⟨a1,b1,m1,w1,p1,q1,r1,f1,g1,l1⟩:=vj hn r0
 obtain⟨a2,b2,m2,w2,p2,q2,r2,f2,g2,l2⟩:=vj hn r1
 obtain⟨a3,m3,w3,p3,q3,r3,f3,g3,l3⟩:=WB hn r2
 obtain⟨a4,m4,w4,p4,q4,r4,f4,g4,l4⟩:=WB hn r3
 have hl4:w4.f_l=splitB 32 x:=by rw [l4,l3,l2,l1]
 have hm4:m4.yz=(splitB 32 x).drop 5:=by
  have t1:=UE (fun s hs=>hws s (List.mem_of_mem_drop hs)) p1
  have t2:=UE (fun s hs=>hws s (by rw [t1]at hs; exact List.mem_of_mem_drop (List.mem_of_mem_tail hs))) p2
  have t3:=Qw hn (fun s hs=>hws s (by rw [t2,t1]at hs; exact List.mem_of_mem_drop (List.mem_of_mem_tail (List.mem_of_mem_tail hs)))) p3
  have t4:=Qw hn (fun s hs=>hws s (by rw [t3,t2,t1]at hs; exact List.mem_of_mem_drop (List.mem_of_mem_tail (List.mem_of_mem_tail (List.mem_of_mem_tail hs))))) p4
  rw [t4,t3,t2,t1]
  simp only [List.tail_drop]
 obtain⟨k,k1,k2,k3⟩:=r4.pos
 rw [hl4]at k2 k3
 rw [hm4]at k3
 have hbad:w4.zG=m4.zG:=r4.bad.symm
 unfold vZ wF
 rw [hp,Option.bind_some,show(32:Int)=(((32:UInt8).toNat:Nat):Int)from rfl,Z8 O0 O0,Option.bind_some,q1,Option.bind_some,q2,Option.bind_some,q3,Option.bind_some,q4,Option.bind_some]
 dsimp only
 rw [hl4,k1]
 by_cases c5:D.length<5
 ·have hLD:splitB 32 x=D ++ [w]:=by rw [hL,(u1 (hc c5)).1]
  have hlen:(splitB 32 x).length≤5:=by rw [hLD]; simp; omega
  rw [List.drop_eq_nil_of_le hlen]at k3 hm4
  have hk:(splitB 32 x).length≤k:=by
   have:=congrArg List.length k3
   rw [List.length_drop,List.length_nil]at this; omega
  have hy:(if w4.zG=true then(some true)else some (decide ((k:Int)≥((splitB 32 x).length:Int))))=some true:=by
   split
   ·rfl
   ·congr 1; rw [decide_eq_true_eq]; omega
  rw [hy,Option.bind_some,if_pos rfl,←hLD]
  obtain ⟨d0,T,hdT⟩:∃d0 T,splitB 32 x=d0::T:=by
   cases h:splitB 32 x with
   |nil=>rw [h]at hpos; cases hpos
   |cons d T=>exact⟨d,T,rfl⟩
  rw [hdT,pA,Option.bind_some]
  rw [hdT]at p1
  rw [show(zk.mk T false)=⟨(d0::T).drop 1,false⟩from rfl,p1,Option.bind_some]
  dsimp only
  rw [p2,Option.bind_some]
  dsimp only
  rw [p3,Option.bind_some]
  dsimp only
  rw [p4,Option.bind_some]
  dsimp only
  rw [show m4=⟨[],m4.zG⟩by cases m4; dsimp only at hm4; rw [hm4],V4,Option.bind_some]
  exact⟨_,_,32,rfl,rfl,O1⟩
 ·have hD5:D.length=5:=O0
  obtain ⟨d0,d1,d2,d3,d4,rfl⟩:∃d0 d1 d2 d3 d4,D= [d0,d1,d2,d3,d4]:=by
   match D,hD5 with
   | [a,b,c,d,e],_=>exact⟨a,b,c,d,e,rfl⟩
  have hR:(splitB 32 x).drop 5=splitB 32 w:=by rw [hL]; rfl
  have hRl:1≤(splitB 32 w).length:=by rw [j7]; omega
  have hlen:(splitB 32 x).length=5+(splitB 32 w).length:=by rw [hL]; simp; omega
  have hk5:k=5:=by
   have:=congrArg List.length k3
   rw [List.length_drop,List.length_drop]at this; omega
  subst hk5
  have hd:∀d∈ [d0,d1,d2,d3,d4],d.length≤1000000:=fun d h=>hws d (by rw [hL]; exact List.mem_append_left _ h)
  obtain⟨x1,y1,h1⟩:=WO (n:=n) (d:=d1) (b:=false) (hd d1 O2)
  obtain⟨x2,y2,h2⟩:=WO (n:=n) (d:=d2) (b:=y1) (hd d2 O2)
  obtain⟨x3,y3,h3⟩:=Uo (n:=n) (d:=d3) (b:=y2) (hd d3 O2) hn
  obtain⟨x4,y4,h4⟩:=Uo (n:=n) (d:=d4) (b:=y3) (hd d4 O2) hn
  rw [hL]at p1
  have p1':=p1.symm.trans (h1 (d2::d3::d4::splitB 32 w))
  cases p1'
  have p2':=p2.symm.trans (h2 (d3::d4::splitB 32 w))
  cases p2'
  have p3':=p3.symm.trans (h3 (d4::splitB 32 w))
  cases p3'
  have p4':=p4.symm.trans (h4 (splitB 32 w))
  cases p4'
  rw [show([d0,d1,d2,d3,d4] ++ [w]:List Bs)=d0::d1::d2::d3::d4:: [w]from rfl,pA,Option.bind_some,h1,Option.bind_some]
  dsimp only
  rw [h2,Option.bind_some]
  dsimp only
  rw [h3,Option.bind_some]
  dsimp only
  rw [h4,Option.bind_some]
  dsimp only
  rw [pA,Option.bind_some]
  dsimp only
  dsimp only at hbad
  rw [hbad]
  cases hy:y4 with
  |true=>exact⟨_,_,32,rfl,rfl,O1⟩
  | false=>
   rw [show yO n ⟨[],false⟩=some (0,⟨[],false⟩)from rfl,Option.bind_some]
   have e7:(if false=true then(some true)else some (decide (((5:Nat):Int)≥((splitB 32 x).length:Int))))=some false:=by
    rw [if_neg O1]; congr 1; rw [decide_eq_false_iff_not]; omega
   rw [e7,Option.bind_some,if_neg O1,if_neg O1]
   have ew4:w4=⟨splitB 32 x,((5:Nat):Int),false⟩:=by
    obtain⟨u,v,z⟩:=w4
    dsimp only at hl4 k1 hbad
    rw [hl4,k1,hbad,hy]
   have hR0:(splitB 32 x)[5]' O0::(splitB 32 x).drop 6=splitB 32 w:=by rw [←hR]; exact(List.drop_eq_getElem_cons O0).symm
   have ew:zT n ⟨splitB 32 x,((5:Nat):Int),false⟩=some ((splitB 32 x)[5]' O0,⟨splitB 32 x,((6:Nat):Int),false⟩):=by
    unfold zT
    rw [if_neg (by rw [decide_eq_true_eq]; show ¬(((5:Nat):Int)≥((splitB 32 x).length:Int)); omega)]
    show(xe (splitB 32 x) ((5:Nat):Int)).bind _=_
    rw [un O0]; rfl
   have hj:=VB 32 w
   rw [←hR0,Lib.join_cons]at hj
   rw [ew4,ew,Option.bind_some]
   dsimp only
   have hjl:((splitB 32 x)[5]' O0).length+(Lib.joinTail [32] ((splitB 32 x).drop 6)).length≤1000000000:=by
    have:=congrArg List.length hj
    rw [List.length_append]at this; omega
   rw [KD hcl n 6 _ O0 O0 hjl,Option.bind_some,hj]
   obtain⟨v,e,e1,e2⟩:=G5 (n:=n) (s:=w) O0 hn (fun h=>hb (hwm _ h))
   rw [e1,e2,Option.bind_some,Option.bind_some]
   dsimp only
   have hm3:y3=false:=by
    cases c:y3 with
    |false=>rfl
    |true=>have:=f4 c; dsimp only at this; rw [hy]at this; cases this
   have hx3:=g3 hm3
   rw [l2,l1]at hx3
   have hx3:=hS _ hx3
   by_cases ce:(e !=0)=true
   ·rw [if_pos ce,if_pos ce]
    exact⟨_,_,e,rfl,rfl,by simpa using ce⟩
   ·rw [if_neg ce,if_neg ce]
    by_cases cn:((List.length v.xo:Int)==0)=true
    ·rw [if_pos cn,if_pos cn]; exact⟨_,_,14,rfl,rfl,O1⟩
    ·have c32:((List.length a3:Int) !=(((32:UInt8).toNat:Nat):Int))=true:=by
      rw [bne_iff_ne]
      have:(32:UInt8).toNat=32:=rfl
      omega
     rw [if_neg cn,if_neg cn,if_pos c32,if_pos c32]; exact⟨_,_,18,rfl,rfl,O1⟩
def authW:Bs:= [97,117,116,104,111,114,105,116,121]
def hpA (p:Bs):Bool:=decide (10≤p.length)&&(p.take 10==([97,117,116,104,111,114,105,116,121,32]:Bs))
theorem J7 {p:Bs} (h:hpA p=true):∃r,p=authW++32::r:=by
 unfold hpA at h
 rw [iE,decide_eq_true_eq,beq_iff_eq]at h
 refine⟨p.drop 10, ?_⟩
 conv=>lhs; rw [←List.take_append_drop 10 p,h.2]
 rfl
theorem UH {n:Nat} {p:Bs}:wG n p [97,117,116,104,111,114,105,116,121,32]=some (hpA p):=by
 unfold wG xZ hpA
 by_cases c:10≤p.length
 ·have e:ssl p 0 ((10:Nat):Int)=some (p.take 10):=by
   rw [show(0:Int)=((0:Nat):Int)from rfl,qN O0 c]; rfl
  rw [if_pos (by rw [decide_eq_true_eq]; show(p.length:Int)≥((10:Nat):Int); omega)]
  show((((ssl p 0 ((10:Nat):Int)).bind _).bind _).bind _)=_
  rw [e,decide_eq_true c]; rfl
 ·rw [if_neg (by rw [decide_eq_true_eq]; show ¬(p.length:Int)≥((10:Nat):Int); omega),decide_eq_false c]; rfl
theorem Bg {n:Nat} {r:Bs} (hn:2000000≤n) (hx:(authW++32::r).length<1000000):∃d',xI n (authW++32::r)=some (d',32):=by
 have hs:splitB 32 (authW++32::r)=authW::splitB 32 r:=(u1 O1).2 r
 have hc:(splitB 32 (authW++32::r)).length≤1000000:=by rw [j7]; have:=List.count_le_length (a:=(32:UInt8)) (l:=authW++32::r); omega
 have r0:RW ⟨splitB 32 (authW++32::r),false⟩ ⟨splitB 32 (authW++32::r),0,false⟩:=⟨⟨0,rfl,Nat.zero_le _,rfl⟩,rfl,hc,fun s hs=>by have:=kw hs; omega⟩
 obtain⟨s,m,w,p,q,r1,_,l,_⟩:=pt (n:=n) r0
 rw [hs,pA]at p
 cases p
 rw [JO,show(32:Int)=(((32:UInt8).toNat:Nat):Int)from rfl,Z8 O0 O0,Option.bind_some,q,Option.bind_some]
 obtain⟨d,d',_,e⟩:=KY (n:=n) r1 (s:=authW) O6 O6 O6 O6 O6
 exact⟨d',e⟩
structure QE (n:Nat) (x:Bs):Prop where
 len:x.length<1000000
 pl:(92:UInt8)∉x
 seed:∀b,UR n (splitB 32 x) b→b.length≠32
 ext:QU n (splitB 32 x)
 qry:D8 n (splitB 32 x)
theorem Jz {n:Nat} {L:List Bs} {t:Bs} (hn:2000000≤n) (hL:L.length≤1000000) (hok:∀x∈L,QE n x):∀(k i:Nat) (s:Bs) (D:List zi),s.length≤1048576→i≤L.length→splitB 10 s=L.drop i ++ [t]→D.length≤i→(∀d∈D,DOk n d)→s.length<k→L.length-i<k →
  (∃D',(∀d∈D',DOk n d)∧D'.length≤L.length∧t= []∧vl n k s [] D ((i+1:Nat):Int)=some (.nxt ([],D'))∧xH n (L,decide (t= [])) k [] D (i:Int)=some (.nxt ([],D'))) ∨
  (∃D',t≠ []∧vl n k s [] D ((i+1:Nat):Int)=some (.ret ([],[],((L.length+1:Nat):Int),32))∧xH n (L,decide (t= [])) k [] D (i:Int)=some (.nxt ([],D'))) ∨
  (∃j e:Int,vl n k s [] D ((i+1:Nat):Int)=some (.ret ([],[],j,e))∧xH n (L,decide (t= [])) k [] D (i:Int)=some (.ret ([],[],j,e)))
 |0,_,_,_,_,_,_,_,_,h,_=>O0
 | k + 1,i,s,D,hs,hi,he,hD,hDo,hk,hk2=>by
  rw [vl,xH]
  dsimp only
  by_cases cs:s= []
  ·subst cs
   have hE:L.drop i ++ [t]= [[]]:=he.symm
   have hnil:L.drop i= []:=by
    cases h:L.drop i with
    |nil=>rfl
    |cons a b=>rw [h]at hE; simp at hE
   rw [hnil]at hE
   have ht:t= []:=by simpa using hE
   have hil:i=L.length:=by
    have:=congrArg List.length hnil
    rw [List.length_drop,List.length_nil]at this; omega
   rw [if_neg O2,if_neg O4]
   exact .inl ⟨D,hDo,O0,ht,rfl,rfl⟩
  rw [if_pos (O7 cs)]
  rcases PR (n:=n) hs with⟨h10,hcut⟩|⟨p,r,hspl,h10,hcut⟩
  ·rw [(u1 h10).1]at he
   have hnil:L.drop i= []:=by
    cases h:L.drop i with
    |nil=>rfl
    |cons a b=>rw [h]at he; simp at he
   rw [hnil]at he
   have ht:t=s:=by simpa using he.symm
   have hil:i=L.length:=by
    have:=congrArg List.length hnil
    rw [List.length_drop,List.length_nil]at this; omega
   rw [hcut,Option.bind_some,UH,Option.bind_some,if_neg (c:=decide ((i:Int)<(L.length:Int))=true) O4]
   exact .inr (.inl ⟨D,by rw [ht]; exact cs,by rw [hil]; rfl,rfl⟩)
  ·have hsr:splitB 10 s=p::splitB 10 r:=by rw [hspl]; exact(u1 h10).2 r
   rw [hsr]at he
   have hil:i<L.length:=by
    apply Decidable.byContradiction
    intro h
    rw [List.drop_eq_nil_of_le O0]at he
    have:=congrArg List.length he
    rw [List.length_cons,j7]at this
    simp at this
   rw [List.drop_eq_getElem_cons hil]at he
   rw [List.cons_append]at he
   injection he with he1 he2
   subst he1
   have hlo:=hok _ (List.getElem_mem hil)
   have hsl:s.length=(L[i]).length+(r.length+1):=by rw [hspl]; simp
   rw [hcut,Option.bind_some,UH,Option.bind_some,if_pos (c:=decide ((i:Int)<(L.length:Int))=true) O4]
   simp only [un hil,Option.bind_some]
   have hw:wrap .i64 ((i:Int)+1)=((i+1:Nat):Int):=w1 O0
   have hw2:wrap .i64 (((i+1:Nat):Int)+1)=((i+1+1:Nat):Int):=w1 O0
   have hy:(if(decide ((List.length L[i]:Int)≥10))=true then((ssl L[i] 0 10).bind fun x316=>if(x316==([97,117,116,104,111,114,105,116,121,32]:List UInt8))=true then(some ((List.length D:Int)==0))else(some false))else(some false))=some (hpA L[i]&&((List.length D:Int)==0)):=by
    unfold hpA
    by_cases c:10≤(L[i]).length
    ·have e:ssl L[i] 0 10=some ((L[i]).take 10):=by
      rw [show(0:Int)=((0:Nat):Int)from rfl,show(10:Int)=((10:Nat):Int)from rfl,qN O0 c]; rfl
     rw [if_pos O4,e,Option.bind_some,decide_eq_true c,Bool.true_and]
     split
     ·rename_i h; rw [h,Bool.true_and]
     ·rename_i h; rw [Bool.not_eq_true]at h; rw [h,Bool.false_and]
    ·rw [if_neg O4,decide_eq_false c]; rfl
   rw [hy,Option.bind_some]
   have la:∀x:zi,jO 632 D [x]=some (D ++ [x]):=fun x=>j2 (by rw [List.length_singleton]; omega)
   have ls:∀x:zh,jO 80 ([]:List zh) [x]=some [x]:=fun x=>j2 O2
   by_cases cp:hpA L[i]=true
   ·by_cases cd:(List.length D:Int)=0
    ·obtain ⟨v,v',e,e1,e2,e3⟩:=Jk hn hlo.len (by
      obtain⟨z,hz⟩:=J7 cp
      rw [hz]; simp [authW]) hlo.pl hlo.seed
     have c0:(e==0)=false:=by simpa using e3
     have c1:(e !=0)=true:=by simpa using e3
     simp only [cp,cd,e1,e2,c0,c1,ls,hw,Bool.true_and,beq_self_eq_true,Bool.not_true,Bool.false_eq_true,if_false,if_true,Option.bind_some,gt_iff_lt,Int.lt_irrefl,decide_false]
     exact .inr (.inr ⟨_,e,rfl,rfl⟩)
    ·have cd1:((List.length D:Int)==0)=false:=by simpa using cd
     have cd2:decide ((List.length D:Int)>0)=true:=O4
     obtain ⟨d',e2⟩:∃d',xI n L[i]=some (d',32):=by
      obtain⟨z,hz⟩:=J7 cp
      have:=hlo.len
      rw [hz]at this ⊢
      exact Bg hn this
     simp only [cp,cd1,cd2,e2,la,hw,Bool.true_and,Bool.not_true,Bool.false_eq_true,if_false,if_true,Option.bind_some]
     exact .inr (.inr ⟨_,32,rfl,rfl⟩)
   ·rw [Bool.not_eq_true]at cp
    obtain⟨d,d',e,e1,e2,e3⟩:=GM hn hlo.len hlo.ext hlo.qry
    simp only [cp,e1,e2,la,hw,hw2,Bool.false_and,Bool.not_true,Bool.false_eq_true,if_false,if_true,Option.bind_some]
    by_cases ce:e=0
    ·obtain ⟨rfl,hdk⟩:=e3 ce
     subst ce
     by_cases c4:(D ++ [d]).length>4096
     ·have c5:decide ((List.length (D ++ [d]):Int)>4096)=true:=O4
      have c6:decide ((List.length ([]:List zh):Int)>8)=false:=rfl
      right; right
      refine⟨((i+1:Nat):Int),2, ?_, ?_⟩
      ·simp only [beq_self_eq_true,if_true]
       show((if decide ((List.length ([]:List zh):Int)>8)=true then some true else some (decide ((List.length (D ++ [d]):Int)>4096))).bind _)=_
       rw [c5]; rfl
      ·simp only [beq_self_eq_true,if_true]
       show((if decide ((List.length ([]:List zh):Int)>8)=true then some true else some (decide ((List.length (D ++ [d]):Int)>4096))).bind _)=_
       rw [c5]; rfl
     ·have c5:decide ((List.length (D ++ [d]):Int)>4096)=false:=by rw [decide_eq_false_iff_not]; omega
      have ih:=Jz hn hL hok k (i+1) r (D ++ [d]) O0 hil he2 O3 (by
       intro z hz
       rcases List.mem_append.1 hz with h|h
       ·exact hDo z h
       ·rw [List.mem_singleton]at h; subst h; exact hdk) O0 O0
      have E1:∀ {α:Type} (A:Int→Option α) (B:Option α),((if((0:Int)==0)=true then(if(decide ((List.length ([]:List zh):Int)>8))=true then(some true)else(some (decide ((List.length (D ++ [d]):Int)>4096))))else(some false)).bind fun y374=>(if y374=true then(some (2:Int))else(some 0)).bind fun y376=>if(y376 !=0)=true then A y376 else B)=B:=by
       intro α A B; rw [c5]; rfl
      rcases ih with⟨D',i1,i2,i3,i4,i5⟩|⟨D',i1,i2,i3⟩|⟨j,e,i1,i2⟩
      ·exact .inl ⟨D',i1,i2,i3,(E1 _ _).trans i4,(E1 _ _).trans i5⟩
      ·exact .inr (.inl ⟨D',i1,(E1 _ _).trans i2,(E1 _ _).trans i3⟩)
      ·exact .inr (.inr ⟨j,e,(E1 _ _).trans i1,(E1 _ _).trans i2⟩)
    ·have c0:(e==0)=false:=by simpa using ce
     have c1:(e !=0)=true:=by simpa using ce
     simp only [c0,c1,Bool.false_eq_true,if_false,if_true,Option.bind_some]
     exact .inr (.inr ⟨_,e,rfl,rfl⟩)
def QT (c:UInt8):Bool:=c==32||c==10
def j5:Bs→List Bs
 | []=> [[]]
 | x::r=>if QT x=true then []::j5 r else match j5 r with
  |p::ps=>(x::p)::ps
  | []=> [[x]]
theorem Wq (s:Bs):j5 s≠ []:=by
 cases s with
 |nil=>simp [j5]
 | cons x r=>
  simp only [j5]; split
  ·simp
  ·split<;>simp
theorem W6:∀s:Bs,j5 s=(splitB 10 s).flatMap (splitB 32)
 | []=>rfl
 | x ::r=>by
  have ih:=W6 r
  by_cases h10:x=10
  ·subst h10
   have e:splitB 10 (10::r)= []::splitB 10 r:=by simp [splitB]
   rw [e,List.flatMap_cons,←ih,j5,if_pos O6]; rfl
  ·obtain ⟨p,ps,hp⟩:∃p ps,splitB 10 r=p::ps:=by
    cases h:splitB 10 r with
    |nil=>exact absurd h (ZT _ _)
    |cons p ps=>exact⟨p,ps,rfl⟩
   have e:splitB 10 (x::r)=(x::p)::ps:=by simp only [splitB]; rw [if_neg h10,hp]
   rw [hp,List.flatMap_cons]at ih
   rw [e,List.flatMap_cons,j5]
   by_cases h32:x=32
   ·subst h32
    have e2:splitB 32 (32::p)= []::splitB 32 p:=by simp [splitB]
    rw [if_pos O6,ih,e2]; rfl
   ·obtain ⟨q,qs,hq⟩:∃q qs,splitB 32 p=q::qs:=by
     cases h:splitB 32 p with
     |nil=>exact absurd h (ZT _ _)
     |cons q qs=>exact⟨q,qs,rfl⟩
    have e2:splitB 32 (x::p)=(x::q)::qs:=by simp only [splitB]; rw [if_neg h32,hq]
    have hs:QT x=false:=by unfold QT; simp [h10,h32]
    rw [if_neg (by rw [hs]; decide),ih,hq,e2]; rfl
theorem Kh {s x y:Bs} (hx:x∈splitB 10 s) (hy:y∈splitB 32 x):y∈j5 s:=by
 rw [W6]; exact List.mem_flatMap.2 ⟨x,hx,hy⟩
theorem V7 {c:UInt8} (hc:QT c=true):∀s:Bs,j5 (s ++ [c])=j5 s ++ [[]]
 | []=>by simp [j5,hc]
 | x::r=>by
  have ih:=V7 hc r
  rw [List.cons_append,j5,j5,ih]
  split
  ·rfl
  ·cases h:j5 r with
   |nil=>exact absurd h (Wq r)
   |cons p ps=>rfl
theorem Vy:∀w:Bs,(∀b∈w,QT b=false)→j5 w= [w]
 | [],_=>rfl
 | x::r,h=>by
  rw [j5,if_neg (by rw [h x O2]; decide),Vy r (fun b hb=>h b (by simp [hb]))]
theorem Yc {w:Bs} (hw:∀b∈w,QT b=false):∀(s p:Bs) (L:List Bs),j5 s=L ++ [p]→j5 (s++w)=L ++ [p++w]
 | [],p,L,h=>by
  have h: [[]]=L ++ [p]:=h
  cases L with
  |nil=>injection h with h; subst h; exact Vy w hw
  |cons a b=>simp at h
 | x ::r,p,L,h=>by
  rw [List.cons_append,j5]
  rw [j5]at h
  split at h
  ·rename_i hs
   rw [if_pos hs]
   cases L with
   | nil=>
    injection h with h1 h2
    exact absurd h2 (Wq r)
   | cons a b=>
    injection h with h1 h2
    subst h1
    rw [Yc hw r p b h2]; rfl
  ·rename_i hs
   rw [if_neg hs]
   cases hr:j5 r with
   |nil=>exact absurd hr (Wq r)
   | cons q qs=>
    rw [hr]at h
    cases L with
    | nil=>
     injection h with h1 h2
     subst h1 h2
     rw [Yc hw r q [] hr]; rfl
    | cons a b=>
     injection h with h1 h2
     subst h1
     rw [h2]at hr
     rw [Yc hw r p (q::b) hr]; rfl
def WD:List Bs:= [([97,99,116]:List UInt8),([97,117,116,104,111,114,105,116,121]:List UInt8),([99,114,97,115,104]:List UInt8),([102,117,115,101]:List UInt8),([99,111,109,112,97,99,116]:List UInt8),([97,115,107]:List UInt8),([48]:List UInt8),([49]:List UInt8),([55]:List UInt8),([49,50]:List UInt8),([45]:List UInt8),([112,111,115,116]:List UInt8),([104,105,100,101]:List UInt8),([105,115,115,117,101]:List UInt8),([114,101,110,101,119]:List UInt8),([114,101,107,101,121]:List UInt8),([114,101,118,111,107,101]:List UInt8),([114,101,108,101,97,115,101]:List UInt8),([112,117,98,108,105,115,104]:List UInt8),([97,100,111,112,116]:List UInt8),([111,119,110]:List UInt8),([102,111,114,101,105,103,110]:List UInt8),([48,48]:List UInt8),([48,97]:List UInt8),([49,44,50]:List UInt8),([49,44,44,50]:List UInt8),([52,54,49,49,54,56,54,48,49,56,52,50,55,51,56,55,57,48,52]:List UInt8),([52,54,49,49,54,56,54,48,49,56,52,50,55,51,56,55,57,48,53]:List UInt8),([]:List UInt8),([67,78,61,97]:List UInt8),([51,48,48,48]:List UInt8)]
def GK (b:UInt8):Bool:=match yK 0 ((b.toNat:Nat):Int)with|some v=>decide (0≤v)|none=>false
def Uq (p:Bs):Prop:=∃b∈p,GK b=false
def Yy (p:Bs):Prop:=Uq p∨p∈WD
def We (p:Bs):Prop:=Uq p∨∃a∈WD,∃b∈WD,p=a++b
theorem Uq.app {p:Bs} (h:Uq p) (w:Bs):Uq (p++w):=by
 obtain⟨b,h1,h2⟩:=h; exact⟨b,List.mem_append_left _ h1,h2⟩
theorem Uq.app2 {w:Bs} (h:Uq w) (p:Bs):Uq (p++w):=by
 obtain⟨b,h1,h2⟩:=h; exact⟨b,List.mem_append_right _ h1,h2⟩
theorem Yy.app {p w:Bs} (h:Yy p) (hw:w∈WD):We (p++w):=by
 rcases h with h|h
 ·exact .inl (h.app w)
 ·exact .inr ⟨p,h,w,hw,rfl⟩
theorem Yy.good {p:Bs} (h:Yy p):We p:=by
 rcases h with h|h
 ·exact .inl h
 ·exact .inr ⟨p,h,[],O1,O2⟩
structure TX (s p:Bs):Prop where
 cut:∃L,j5 s=L ++ [p]∧∀y∈L,We y
 pl:(92:UInt8)∉s
theorem BW:∀w∈WD,(∀b∈w,QT b=false)∧(92:UInt8)∉w∧w.length≤19:=O1
theorem TX.app {s p w:Bs} (h:TX s p) (hw:w∈WD):TX (s++w) (p++w):=by
 obtain⟨⟨L,h1,h2⟩,h3⟩:=h
 obtain⟨w1,w2,_⟩:=BW w hw
 exact ⟨⟨L,Yc w1 s p L h1,h2⟩,fun h=>by
  rcases List.mem_append.1 h with h|h
  ·exact h3 h
  ·exact w2 h⟩
theorem TX.sep {s p:Bs} {c:UInt8} (h:TX s p) (hp:We p) (hc:c=32∨c=10):TX (s ++ [c]) []:=by
 obtain⟨⟨L,h1,h2⟩,h3⟩:=h
 refine⟨⟨L ++ [p],by rw [V7 (by rcases hc with rfl|rfl<;>rfl),h1],fun y hy=> ?_⟩,fun h=> ?_⟩
 ·rcases List.mem_append.1 hy with h|h
  ·exact h2 y h
  ·rw [List.mem_singleton]at h; subst h; exact hp
 ·rcases List.mem_append.1 h with h|h
  ·exact h3 h
  ·rw [List.mem_singleton]at h; rcases hc with rfl|rfl<;>cases h
theorem TX.all {s p:Bs} (h:TX s p) (hp:We p):∀x∈splitB 10 s,∀y∈splitB 32 x,We y:=by
 intro x hx y hy
 obtain⟨⟨L,h1,h2⟩,_⟩:=h
 have:=Kh hx hy
 rw [h1]at this
 rcases List.mem_append.1 this with h|h
 ·exact h2 y h
 ·rw [List.mem_singleton]at h; subst h; exact hp
theorem KU {n:Nat} {b:UInt8} {v:Int} (h:yK n ((b.toNat:Nat):Int)=some v) (hv:¬v<0):GK b=true:=by
 unfold GK
 rw [show yK 0 ((b.toNat:Nat):Int)=some v from h]
 exact decide_eq_true O0
theorem Qr {n:Nat} {s:Bs} (hs:s.length≤1000000) (he:s.length%2=0):∀(k i:Nat) (a:List Int) (r:Ctl (Bs×Bool) (List Int)),i≤s.length→i%2=0→vA n s k a (i:Int)=some r→r= .ret ([],false)∨∀j,i≤j→(hj:j<s.length)→GK s[j]=true
 |0,i,a,r,_,_,h=>by cases h
 | k + 1,i,a,r,hi,hm,h=>by
  rw [vA]at h
  by_cases c:i<s.length
  ·have c2:i+1<s.length:=O0
   have e2:wrap .i64 ((i:Int)+1)=((i+1:Nat):Int):=w1 O0
   have e3:wrap .i64 ((i:Int)+2)=((i+2:Nat):Int):=by rw [jX O0]; omega
   obtain⟨x,hx,hx1,hx2⟩:=U3 (n:=n) s[i]
   obtain⟨y,hy,hy1,hy2⟩:=U3 (n:=n) s[i+1]
   rw [if_pos O4,e2,YU c,YU c2,Option.bind_some,Option.bind_some,Xg,Xg,hx,hy,Option.bind_some,Option.bind_some]at h
   by_cases d:x<0
   ·rw [if_pos (by rw [decide_eq_true_eq]; exact d),Option.bind_some,if_pos rfl]at h
    injection h with h; exact .inl h.symm
   ·rw [if_neg (by rw [decide_eq_true_eq]; exact d),Option.bind_some]at h
    by_cases d2:y<0
    ·rw [if_pos (by rw [decide_eq_true_eq]; exact d2)]at h
     injection h with h; exact .inl h.symm
    ·rw [if_neg (by rw [decide_eq_true_eq]; exact d2)]at h
     obtain⟨x94,hx94,h⟩:=Option.bind_eq_some_iff.1 h
     rw [e3]at h
     rcases Qr hs he k (i+2) _ r O0 O0 h with h1|h1
     ·exact .inl h1
     ·refine .inr fun j hij hj=> ?_
      by_cases j0:j=i
      ·subst j0; exact KU hx d
      by_cases j1:j=i+1
      ·subst j1; exact KU hy d2
      ·exact h1 j O0 hj
  ·exact .inr fun j hij hj=>O0
theorem BB {n:Nat} {s b:Bs} (hs:s.length≤1000000) (h:jg n s=some (b,true)):¬Uq s:=by
 intro⟨c,hc,hd⟩
 unfold jg at h
 split at h
 ·cases h
 ·rename_i hm
  have he:s.length%2=0:=by
   simp only [bne_iff_ne,ne_eq,Decidable.not_not]at hm
   rw [Int.tmod_eq_emod_of_nonneg O0]at hm
   omega
  cases hl:vA n s n [] 0 with
  |none=>rw [hl]at h; cases h
  | some r=>
   rcases Qr hs he n 0 [] r O0 rfl hl with h1|h1
   ·subst h1
    rw [hl]at h; cases h
   ·obtain⟨j,hj,rfl⟩:=List.getElem_of_mem hc
    rw [h1 j (Nat.zero_le _) hj]at hd; cases hd
def PU (m:Nat) (b:Bs):Bool:=match gd (m+3000) b,xy (m+3000) b with|some (_,e),some (_,f)=>(e==f)&&(e !=0)|_,_=>false
def Ds (m:Nat) (b:Bs):Bool:=match uF (m+3000) b,wf (m+3000) b with|some (_,e),some (_,f)=>(e==f)&&(e !=0)|_,_=>false
def fi (m:Nat) (y:Bs):Bool:=match jg (m+3000) y with
 |some (b,true)=>decide (b.length≠32)&&((b== [])||PU m b)&&Ds m b
 |some (_,false)=>true
 |none=>false
theorem Pj (m:Nat):(WD.all fun a=>WD.all fun b=>fi m (a++b))=true:=O5
theorem PA (m:Nat):Ds m []=true:=O5
theorem Ui {m:Nat} {L:List Bs} (hL:∀y∈L,y.length≤1000000) (hg:∀y∈L,We y) {b:Bs} (h:UR (m+3000) L b):b.length≠32∧(b≠ []→PU m b=true)∧Ds m b=true:=by
 rcases h with rfl|⟨s,hs,hu⟩
 ·exact⟨O1,fun h=>absurd rfl h,PA m⟩
 ·rcases hg s hs with hd|⟨a,ha,c,hc,rfl⟩
  ·exact absurd hd (BB (hL s hs) hu)
  ·have:=List.all_eq_true.1 (List.all_eq_true.1 (Pj m) a ha) c hc
   unfold fi at this
   rw [hu]at this
   simp only [iE,Bool.or_eq_true,decide_eq_true_eq,beq_iff_eq]at this
   obtain⟨⟨h1,h2⟩,h3⟩:=this
   exact⟨h1,fun hb=>h2.resolve_left hb,h3⟩
theorem Dh {n:Nat} {x:Bs} (hn:2000000≤n) (hx:x.length<1000000) (hp:(92:UInt8)∉x) (hg:∀y∈splitB 32 x,We y):QE n x:=by
 obtain⟨m,rfl⟩:∃m,n=m+3000:=⟨n-3000,O0⟩
 have hL:∀y∈splitB 32 x,y.length≤1000000:=fun y hy=>by have:=kw hy; omega
 refine⟨hx,hp,fun b hb=>(Ui hL hg hb).1,fun b hb hne=> ?_,fun b hb=> ?_⟩
 ·have:=(Ui hL hg hb).2.1 hne
  unfold PU at this
  split at this
  ·rename_i v e v' f h1 h2
   simp only [iE,beq_iff_eq,bne_iff_ne]at this
   obtain⟨rfl,h3⟩:=this
   exact⟨v,v',e,h1,h2,h3⟩
  ·cases this
 ·have:=(Ui hL hg hb).2.2
  unfold Ds at this
  split at this
  ·rename_i v e v' f h1 h2
   simp only [iE,beq_iff_eq,bne_iff_ne]at this
   obtain⟨rfl,h3⟩:=this
   exact⟨v,v',e,h1,h2,fun h=>absurd h h3⟩
  ·cases this
def FM:List (List Int):= [([0,6,11,15,7,8]:List Int),([2,6,7,8]:List Int),([3,6,7]:List Int),([4,6]:List Int),([0,6,12,18,7,8,10,6,10,20]:List Int),([0,6,11,16,7,8,9,10]:List Int),([0,6,11,14,7,8,9]:List Int),([0,6,11,17,7,8]:List Int),([0,6,11,13,7,8,30,10]:List Int),([5,6,24,7,10,30]:List Int),([0,6,11,19,7,30]:List Int),([1,6,7,23,10,29]:List Int)]
def eQ (f:List Int):Bool:=decide (2≤f.length)&&decide (f.length≤10)&&f.all (fun i=>decide (0≤i)&&decide (i<31))&&(match f with|a::_=>decide (0≤a)&&decide (a≤5)| []=>false)
theorem cE:∀f∈FM,eQ f=true:=O1
theorem GU (n k:Nat) (y:Nat×List Int×Int×List Int) (s:Bs) (i:Int):yD n y (k+1) s i=
  (if(decide (i<((y.1:Nat):Int)))=true then((if(decide (i>0))=true then((pb s ([32]:List UInt8)).bind fun x=>
  (pJ y.1 i).bind fun j=>((y.2.2.2)[(j*1)]?).bind fun c=>(xe WD c).bind fun w=>(pb x w).bind fun z=>some z)else((pJ y.1 i).bind fun j=>((y.2.2.2)[(j*1)]?).bind fun c=>(xe WD c).bind fun w=>(pb s w).bind fun z=>some z)).bind fun z=>
  yD n y k z (wrap .i64 (i+1)))else(some s)):=by
 rw [yD]; rfl
def pick (n:Nat) (x:List Int) (q:Int×yy):Option (Nat×List Int×Int×List Int):=
 if (q.1==1)=true then((z6 n ((List.length x:Nat):Int) q.2).bind fun r=>
  (z6 n (List.length WD:Int) r.2).bind fun r2=>
  (pJ (List.length x) r.1).bind fun j=>(VT x (j*1) r2.1).bind fun x2=>some (List.length x,r2.2.f_L,r2.2.kH,x2))
 else(if(q.1==2)=true then((z6 n ((List.length x:Nat):Int) q.2).bind fun r=>(osl (List.length x) r.1).bind fun m=>some (m,r.2.f_L,r.2.kH,x))
 else(if(q.1==3)=true then((z6 n (List.length WD:Int) q.2).bind fun r=>(GA 8 (List.length x) x ([r.1]:List Int)).bind fun x2=>some ((List.length x)+List.length ([r.1]:List Int),r.2.f_L,r.2.kH,x2))
 else(some (List.length x,q.2.f_L,q.2.kH,x))))
theorem eC (n k:Nat) (s:Bs) (v:Int) (L:List Int) (A:Int):yT n (k+1) s v L A=
  (if(decide (v>0))=true then(((z6 n (List.length FM:Int) (yy.mk L A)).bind fun r=>
  (xe FM r.1).bind fun f=>if(List.isEmpty f)=true then(none)else((Ul 8 f).bind fun x=>
  (z6 n 4 r.2).bind fun q=>(pick n x q).bind fun y=>
  (yD n y n s 0).bind fun z=>
  (z6 n 10 (yy.mk y.2.1 y.2.2.1)).bind fun r=>
  if(decide (r.1>0))=true then((pb z ([10]:List UInt8)).bind fun u=>some (u,r.2.f_L,r.2.kH))else(some (z,r.2.f_L,r.2.kH)))).bind fun y=>
  yT n k y.1 (wrap .i64 (v-1)) y.2.1 y.2.2)else(some s)):=by
 rw [yT]; rfl
structure FOk (len:Nat) (c:List Int):Prop where
 le:len≤c.length
 few:c.length≤11
 rg:∀i∈c,0≤i∧i<31
 one:len=1→∃a r,c=a::r∧0≤a∧a≤5
theorem JP {x:List Int} (h:x∈FM):2≤x.length∧x.length≤10∧(∀i∈x,0≤i∧i<31)∧∃a r,x=a::r∧0≤a∧a≤5:=by
 have:=cE x h
 unfold eQ at this
 simp only [iE,decide_eq_true_eq,List.all_eq_true]at this
 obtain⟨⟨⟨h1,h2⟩,h3⟩,h4⟩:=this
 refine⟨h1,h2,h3, ?_⟩
 cases x with
 |nil=>cases h4
 | cons a r=>
  simp only [iE,decide_eq_true_eq]at h4
  exact⟨a,r,rfl,h4⟩
theorem DL {n:Nat} {x:List Int} {q:Int×yy} (hx:x∈FM) (hd:YW q.2):∃len L A c,pick n x q=some (len,L,A,c)∧YW ⟨L,A⟩∧FOk len c:=by
 obtain⟨x1,x2,x3,x4⟩:=JP hx
 unfold pick
 by_cases c1:(q.1==1)=true
 ·rw [if_pos c1]
  obtain⟨r,d,e,r0,r1,hd1⟩:=Zw (n:=n) (k:=((List.length x:Nat):Int)) O0 O0 hd
  obtain⟨r',d',e',r0',r1',hd1'⟩:=Zw (n:=n) (k:=(List.length WD:Int)) O1 O1 hd1
  have hr:(List.length WD:Int)=31:=rfl
  rw [e,Option.bind_some,e',Option.bind_some,show pJ (List.length x) r=some r.toNat from if_pos ⟨r0,r1⟩,Option.bind_some,Nat.mul_one,show VT x r.toNat r'=some (x.set r.toNat r')from if_pos O0,Option.bind_some]
  refine⟨_,_,_,_,rfl,hd1',⟨O2,O3,fun i hi=> ?_,fun h=>O0⟩⟩
  rcases List.mem_or_eq_of_mem_set hi with h|h
  ·exact x3 i h
  ·subst h; omega
 rw [if_neg c1]
 by_cases c2:(q.1==2)=true
 ·rw [if_pos c2]
  obtain⟨r,d,e,r0,r1,hd1⟩:=Zw (n:=n) (k:=((List.length x:Nat):Int)) O0 O0 hd
  rw [e,Option.bind_some,show osl (List.length x) r=some r.toNat from if_pos ⟨r0,O0⟩,Option.bind_some]
  exact⟨_,_,_,_,rfl,hd1,⟨O0,O0,x3,fun _=>x4⟩⟩
 rw [if_neg c2]
 by_cases c3:(q.1==3)=true
 ·rw [if_pos c3]
  obtain⟨r,d,e,r0,r1,hd1⟩:=Zw (n:=n) (k:=(List.length WD:Int)) O1 O1 hd
  have hr:(List.length WD:Int)=31:=rfl
  rw [e,Option.bind_some,show GA 8 (List.length x) x ([r]:List Int)=some (x ++ [r])from if_pos ⟨rfl,O2,O0,O3⟩,Option.bind_some]
  refine⟨_,_,_,_,rfl,hd1,⟨O2,O3,fun i hi=> ?_,fun h=>by rw [List.length_singleton]at h; omega⟩⟩
  rcases List.mem_append.1 hi with h|h
  ·exact x3 i h
  ·rw [List.mem_singleton]at h; subst h; omega
 rw [if_neg c3]
 exact⟨_,_,_,_,rfl,hd,⟨Nat.le_refl _,O0,x3,fun _=>x4⟩⟩
theorem K7 {c:List Int} {len i:Nat} (h:i<len) (hf:FOk len c):∃j w,c[i*1]? =some j∧xe WD j=some w∧w∈WD∧c[i]? =some j:=by
 have hi:i<c.length:=Nat.lt_of_lt_of_le h hf.le
 obtain⟨h0,h1⟩:=hf.rg c[i] (List.getElem_mem hi)
 obtain⟨w,hw,hm⟩:=WC (l:=WD) h0 (by have:(List.length WD:Int)=31:=rfl; omega)
 exact⟨c[i],w,by rw [Nat.mul_one]; exact List.getElem?_eq_getElem hi,hw,hm,List.getElem?_eq_getElem hi⟩
theorem Gj:∀c:Fin 6,(match xe WD ((c.val:Nat):Int)with|some w=>w.any (fun b=> !GK b)|none=>false)=true:=by decide +kernel
theorem QH {c:Int} {w:Bs} (h0:0≤c) (h5:c≤5) (hw:xe WD c=some w):Uq w:=by
 have:=Gj ⟨c.toNat,O0⟩
 simp only at this
 rw [show((c.toNat:Nat):Int)=c by omega,hw]at this
 obtain⟨b,h1,h2⟩:=List.any_eq_true.1 this
 exact⟨b,h1,by simpa using h2⟩
theorem K6 {n len:Nat} {L:List Int} {A:Int} {c:List Int} (hf:FOk len c):∀(k i:Nat) (s p:Bs),1≤i→i≤len→len-i<k→TX s p→We p→(2≤i→Yy p)→s.length+20*(len-i)≤1000000 →
  ∃s' p',yD n (len,L,A,c) k s (i:Int)=some s'∧TX s' p'∧(2≤len→Yy p')∧s'.length≤s.length+20*(len-i)
 |0,i,s,p,_,_,h,_,_,_,_=>O0
 | k + 1,i,s,p,h1,hi,hk,ht,hg,ho,hs=>by
  rw [GU]
  dsimp only
  by_cases ci:i<len
  ·obtain ⟨j,w,e1,e2,e3,_⟩:=K7 ci hf
   obtain⟨_,_,wl⟩:=BW w e3
   rw [if_pos O4,if_pos O4,qV O3,Option.bind_some,show pJ len (i:Int)=some i from(if_pos ⟨O0,O0⟩).trans O2,Option.bind_some,e1,Option.bind_some,e2,Option.bind_some,qV O3,Option.bind_some,Option.bind_some,w1 (by have:=hf.le; have:=hf.few; omega)]
   have ht2:TX (s ++ [32]++w) w:=by
    have:=(ht.sep hg (.inl rfl)).app e3
    rwa [List.nil_append]at this
   obtain⟨s',p',g1,g2,g3,g4⟩:=K6 (n:=n) (L:=L) (A:=A) hf k (i+1) _ _ O0 ci O0 ht2 (Yy.good (.inr e3)) (fun _=> .inr e3) O3
   exact⟨s',p',g1,g2,g3,by simp at g4; omega⟩
  ·rw [if_neg O4]
   exact⟨s,p,rfl,ht,fun h=>ho O0,O0⟩
theorem GG {n len:Nat} {L:List Int} {A:Int} {c:List Int} {s p:Bs} (hn:100≤n) (hf:FOk len c) (ht:TX s p) (ho:Yy p) (hs:s.length≤500000):∃s' p',yD n (len,L,A,c) n s 0=some s'∧TX s' p'∧Yy p'∧s'.length≤s.length+240:=by
 obtain⟨m,rfl⟩:∃m,n=m+1:=⟨n-1,O0⟩
 rw [GU]
 dsimp only
 have hl:=hf.le
 have h11:=hf.few
 by_cases c0:0<len
 ·obtain ⟨j,w,e1,e2,e3,e4⟩:=K7 c0 hf
  obtain⟨_,_,wl⟩:=BW w e3
  rw [if_pos O4,if_neg O1,show pJ len (0:Int)=some 0 from(if_pos ⟨O0,O0⟩).trans rfl,Option.bind_some,e1,Option.bind_some,e2,Option.bind_some,qV O0,Option.bind_some,Option.bind_some]
  have ht1:=ht.app e3
  rw [show wrap .i64 ((0:Int)+1)=((1:Nat):Int)from rfl]
  by_cases c1:len=1
  ·obtain⟨m,rfl⟩:∃q,m=q+1:=⟨m-1,O0⟩
   rw [GU]
   dsimp only
   rw [if_neg O4]
   obtain⟨a,r,hc,a0,a5⟩:=hf.one c1
   subst hc
   have:a=j:=by simpa using e4
   subst this
   exact⟨_,_,rfl,ht1, .inl ((QH a0 a5 e2).app2 p),O3⟩
  ·obtain⟨s',p',g1,g2,g3,g4⟩:=K6 (n:=m+1) (L:=L) (A:=A) hf m 1 (s++w) (p++w) O0 O0 O0 ht1 (ho.app e3) (fun h=>by omega) O3
   exact⟨s',p',g1,g2,g3 O0,by simp at g4; omega⟩
 ·rw [if_neg O4]
  exact⟨s,p,rfl,ht,ho,O0⟩
theorem Jh {n:Nat} (hn:100≤n):∀(k m:Nat) (s p:Bs) (L:List Int) (A:Int),YW ⟨L,A⟩→m<k→m≤100→s.length+300*m≤100000→TX s p→Yy p →
  ∃s' p',yT n k s (m:Int) L A=some s'∧TX s' p'∧Yy p'∧s'.length≤100000
 |0,m,_,_,_,_,_,h,_,_,_,_=>O0
 | k + 1,m,s,p,L,A,hd,hk,h100,hs,ht,ho=>by
  rw [eC]
  by_cases c:0<m
  ·obtain ⟨r,d,e,r0,r1,hd1⟩:=Zw (n:=n) (k:=(List.length FM:Int)) O1 O1 hd
   obtain⟨f,hf,hfm⟩:=WC (l:=FM) r0 r1
   obtain⟨x1,x2,_,_⟩:=JP hfm
   obtain⟨q,d2,e2,_,_,hd2⟩:=Zw (n:=n) (k:=4) O1 O1 hd1
   obtain⟨len,L',A',cc,e3,hd3,hF⟩:=DL (n:=n) (q:=(q,d2)) hfm hd2
   obtain⟨s1,p1,e4,t1,o1,l1⟩:=GG (L:=L') (A:=A') hn hF ht ho O0
   obtain⟨r5,d5,e5,_,_,hd5⟩:=Zw (n:=n) (k:=10) O1 O1 hd3
   have hne:¬(List.isEmpty f)=true:=by
    cases f with
    |nil=>simp at x1
    |cons _ _=>simp
   rw [if_pos O4,e,Option.bind_some,hf,Option.bind_some,if_neg hne,show Ul 8 f=some f from if_pos O0,Option.bind_some,e2,Option.bind_some,e3,Option.bind_some,e4,Option.bind_some,e5,Option.bind_some]
   have hw:wrap .i64 ((m:Int)-1)=((m-1:Nat):Int):=by rw [jX O0]; omega
   rw [hw]
   by_cases c5:(decide (r5>0))=true
   ·rw [if_pos c5,qV O3,Option.bind_some,Option.bind_some]
    exact Jh hn k (m-1) (s1 ++ [10]) [] _ _ hd5 O0 O0 O3 (t1.sep o1.good (.inr rfl)) (.inr O1)
   ·rw [if_neg c5,Option.bind_some]
    exact Jh hn k (m-1) s1 p1 _ _ hd5 O0 O0 O0 t1 o1
  ·rw [if_neg O4]
   exact⟨s,p,rfl,ht,ho,O0⟩
theorem Y6 {α β:Type} {x:Option α} {a:α} {f:α→Option β} (h:x=some a):x.bind f=f a:=by rw [h]; rfl
theorem Dm (m:Nat):xK (m+3000) GO=some ([],7):=O5
theorem G9 (m:Nat):xK (m+3000) Kz=some ([],0):=O5
theorem P0 (n k:Nat) (e:Int):xJ n ([],e) ([],e) (k+1) 0=some (.nxt ()):=by
 rw [xJ]; rfl
theorem Jp {n:Nat} (hn:3000≤n) {a:zM} (hi:IOk a.zb):wT n a a=some true:=by
 obtain⟨m,rfl⟩:∃m,n=m+3000:=⟨n-3000,O0⟩
 have he:∃e,xK (m+3000) a.zb=some ([],e):=by
  rcases hi with h|h
  ·rw [h]; exact⟨7,Dm m⟩
  ·rw [h]; exact⟨0,G9 m⟩
 obtain⟨e,he⟩:=he
 unfold wT
 simp only [bne_self_eq_false,beq_self_eq_true,Bool.not_true,Bool.false_eq_true,if_false,Option.bind_some]
 refine(Y6 he).trans ?_
 refine(Y6 he).trans ?_
 simp only [bne_self_eq_false,Bool.false_eq_true,if_false,Option.bind_some]
 rw [show xJ (m+3000) ([],e) ([],e) (m+3000) 0=some (.nxt ())from P0 (m+3000) (m+2999) e]
 rfl
theorem KB {n:Nat} {l:List Int} {a b:Int} {p:xL} {q:xL} (hl:l.length≤2000000):∀(k i:Nat),i≤l.length→l.length-i<k→xW n ⟨a,l,p⟩ ⟨b,l,q⟩ k (i:Int)=some (.nxt ())
 |0,i,_,h=>O0
 | k+1,i,hi,hk=>by
  rw [xW]
  by_cases c:i<l.length
  ·rw [if_pos (by rw [decide_eq_true_eq]; show(i:Int)<(l.length:Int); omega)]
   show((xe l (i:Int)).bind fun x31=>(xe l (i:Int)).bind fun x32=>_)=_
   rw [un c,Option.bind_some,Option.bind_some,if_neg O2,w1 O0]
   exact KB hl k (i+1) O0 O0
  ·rw [if_neg (by rw [decide_eq_true_eq]; show ¬(i:Int)<(l.length:Int); omega)]
theorem GW (m:Nat):uf (m+100) (xL.mk 0 0 ([]:(List (List UInt8)))) (xL.mk 0 0 ([]:(List (List UInt8))))=some true:=O5
theorem UM {n:Nat} {l:List Int} (hn:2000000≤n) (hl:l.length≤1000001):wt n l l=some true:=by
 obtain⟨m,rfl⟩:∃m,n=m+100:=⟨n-100,O0⟩
 unfold wt uw
 have h:=KB (n:=m+100) (l:=l) (a:=0) (b:=0) (p:=xL.mk 0 0 ([]:(List (List UInt8)))) (q:=xL.mk 0 0 ([]:(List (List UInt8)))) O0 (m+100) 0 O0 O0
 rw [show((0:Nat):Int)=0 from rfl]at h
 simp only [bne_self_eq_false,Bool.false_eq_true,if_false,GW,Option.bind_some,Bool.not_true,h]
 rfl
def sdB (n:Nat) (d:zi):Option Bool:=
 (if (d.yA !=d.yA)=true then(some true)else(if(d.bL !=d.bL)=true then(some true)else((wT n (zM.mk d.zj.yA d.zj.yH d.zj.xB d.zj.vx (zr.mk d.zj.zb.yk d.zj.zb.jZ d.zj.zb.yw d.zj.zb.yr d.zj.zb.yc d.zj.zb.zH d.zj.zb.yd d.zj.zb.zA d.zj.zb.zD d.zj.zb.zV d.zj.zb.yl d.zj.zb.zz (zv.mk d.zj.zb.zq.ye d.zj.zb.zq.yo) d.zj.zb.zU d.zj.zb.zJ d.zj.zb.yn d.zj.zb.z7 d.zj.zb.yp) d.zj.yZ d.zj.xz d.zj.yX d.zj.w8 d.zj.wa d.zj.w9 d.zj.yV) (zM.mk d.zj.yA d.zj.yH d.zj.xB d.zj.vx (zr.mk d.zj.zb.yk d.zj.zb.jZ d.zj.zb.yw d.zj.zb.yr d.zj.zb.yc d.zj.zb.zH d.zj.zb.yd d.zj.zb.zA d.zj.zb.zD d.zj.zb.zV d.zj.zb.yl d.zj.zb.zz (zv.mk d.zj.zb.zq.ye d.zj.zb.zq.yo) d.zj.zb.zU d.zj.zb.zJ d.zj.zb.yn d.zj.zb.z7 d.zj.zb.yp) d.zj.yZ d.zj.xz d.zj.yX d.zj.w8 d.zj.wa d.zj.w9 d.zj.yV)).bind fun r120=>
    if(!r120)=true then(some true)else(if(!(d.k9==d.k9))=true then(some true)else(if(d.ki !=d.ki)=true then(some true)else(if(d.qt !=d.qt)=true then(some true)else(if(d.q8 !=d.q8)=true then(some true)else(if(d.jr.yH !=d.jr.yH)=true then(some true)else((wt n d.jr.vV d.jr.vV).bind fun r121=>
    if(!r121)=true then(some true)else((xO n (zy.mk d.zF.yH d.zF.vJ d.zF.yr d.zF.zH d.zF.vD d.zF.wW d.zF.qK d.zF.yl d.zF.wq d.zF.jL d.zF.vy) (zy.mk d.zF.yH d.zF.vJ d.zF.yr d.zF.zH d.zF.vD d.zF.wW d.zF.qK d.zF.yl d.zF.wq d.zF.jL d.zF.vy)).bind fun r122=>
    if(!r122)=true then(some true)else((wt n d.jB d.jB).bind fun r123=>
    some (!r123))))))))))))
theorem PM {n:Nat} {d:zi} (hn:2000000≤n) (h:DOk n d):sdB n d=some false:=by
 obtain⟨h1,h2,h3,h4⟩:=h
 unfold sdB
 simp only [bne_self_eq_false,Bool.false_eq_true,if_false,beq_self_eq_true,Bool.not_true]
 refine(Y6 (Jp O0 h1)).trans ?_
 simp only [Bool.not_true,Bool.false_eq_true,if_false]
 refine(Y6 (UM hn h2)).trans ?_
 simp only [Bool.not_true,Bool.false_eq_true,if_false]
 refine(Y6 h4).trans ?_
 simp only [Bool.not_true,Bool.false_eq_true,if_false]
 exact(Y6 (UM hn h3)).trans rfl
theorem Qt {n:Nat} {D:List zi} (hn:2000000≤n) (hl:D.length≤1000000) (hd:∀d∈D,DOk n d):∀(k i:Nat),i≤D.length→D.length-i<k→xX n D D k (i:Int)=some (.nxt ())
 |0,i,_,h=>O0
 | k+1,i,hi,hk=>by
  rw [xX]
  by_cases c:i<D.length
  ·rw [if_pos O4,un c,Option.bind_some,Option.bind_some]
   show(sdB n D[i]).bind _=_
   rw [PM hn (hd _ (List.getElem_mem c)),Option.bind_some,if_neg O1,w1 O0]
   exact Qt hn hl hd k (i+1) O0 O0
  ·rw [if_neg O4]
theorem Q8 {n:Nat} {D:List zi} (hn:2000000≤n) (hl:D.length≤1000000) (hd:∀d∈D,DOk n d):vk n D D=some true:=by
 unfold vk
 have h:=Qt hn hl hd n 0 O0 O0
 rw [show((0:Nat):Int)=0 from rfl]at h
 rw [if_neg O2,h]; rfl
theorem Dp (m:Nat):jT (m+3000)=some true:=O5
theorem DE {n:Nat} {s p:Bs} (hn:2000000≤n) (ht:TX s p) (ho:Yy p) (hs:s.length≤100000):∃D j e,jD n s=some ([],D,j,e)∧uq n s=some ([],D,j,e)∧D.length≤1000000∧∀d∈D,DOk n d:=by
 obtain⟨L,t,h1,h2⟩:=Gb (n:=n) (s:=s) O0 hn
 have hlen:L.length+1=s.count 10+1:=by
  rw [←j7,h1]; simp
 have hcount:=List.count_le_length (a:=(10:UInt8)) (l:=s)
 have hok:∀x∈L,QE n x:=fun x hx=>by
  have hm:x∈splitB 10 s:=by rw [h1]; exact List.mem_append_left _ hx
  exact Dh hn (by have:=kw hm; omega) (fun h=>ht.pl (dv _ _ hm _ h)) (ht.all ho.good x hm)
 have key:=Jz hn O0 hok n 0 s [] O0 O0 (by rw [h1]; rfl) O2 (by intro d hd; cases hd) O0 O0
 rw [show((0:Nat):Int)=0 from rfl,show((0+1:Nat):Int)=1 from rfl]at key
 unfold jD uq
 rw [if_neg O4,if_neg O4,h2,Option.bind_some]
 rcases key with⟨D,k1,k2,k3,k4,k5⟩|⟨D,k1,k2,k3⟩|⟨j,e,k1,k2⟩
 ·rw [k4,k5]
  subst k3
  exact⟨D,0,0,rfl,rfl,O0,k1⟩
 ·rw [k2,k3]
  refine⟨[],((L.length+1:Nat):Int),32,rfl, ?_,O2,by intro d hd; cases hd⟩
  simp only [yM,decide_eq_false k1,Bool.not_false,if_true]
  rw [w1 O0]
 ·rw [k1,k2]
  exact⟨[],j,e,rfl,rfl,O2,by intro d hd; cases hd⟩
theorem BG {n:Nat} {l:List Int} (hn:2000000≤n) (hl:l.length≤9223372036854775807):vQ n l=some true:=by
 unfold vQ
 have hd0:YW ⟨l,0⟩:=⟨Int.le_refl _,by show(0:Int)≤(l.length:Int); omega,hl⟩
 obtain⟨r,d,e,r0,r8,hd⟩:=Zw (n:=n) (k:=8) O1 O1 hd0
 rw [show qL n l=some ⟨l,0⟩from rfl,Option.bind_some,e,Option.bind_some]
 dsimp only
 have hw:wrap .i64 ((1:Int)+r)=((1+r.toNat:Nat):Int):=by rw [jX O0]; omega
 rw [hw]
 have t0:TX [] []:=⟨⟨[],rfl,by intro y hy; cases hy⟩,O2⟩
 obtain⟨s,p,e1,ht,ho,hs⟩:=Jh (n:=n) O0 n (1+r.toNat) [] [] d.f_L d.kH hd O0 O0 O3 t0 (.inr O1)
 rw [e1,Option.bind_some]
 obtain⟨D,j,e,k1,k2,k3,k4⟩:=DE hn ht ho hs
 obtain⟨m,rfl⟩:∃m,n=m+3000:=⟨n-3000,O0⟩
 have hss:vE (m+3000) [] []=some true:=rfl
 simp only [k1,k2,Option.bind_some,beq_self_eq_true,if_true,hss,Q8 hn k3 k4,Dp]
end Go.Abs
end
