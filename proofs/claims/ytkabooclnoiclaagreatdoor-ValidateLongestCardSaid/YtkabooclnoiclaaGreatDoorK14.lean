/- Closed runs: a part. No condition beyond each statement's own. -/
import Derived.Test.YtkabooclnoiclaaGreatDoorK13
set_option linter.all false
section
namespace Go.K
open Go.Abs
noncomputable def ZF {S:Type} (D:List DE) (i:Nat) (K:DE→S) (F:S):S:=List.rec (motive:=fun _=>S) F (fun d _ ih=>zb (Nat.beq d.i i) (K d) ih) D
theorem UO {S:Type} (i:Nat) (K:DE→S) (F:S):∀D:List DE,(∃d∈D,d.i=i∧ZF D i K F=K d)∨(i∉Di D∧ZF D i K F=F)
 | []=> .inr ⟨by simp [Di],rfl⟩
 | d ::D=>by
  have e:ZF (d::D) i K F=zb (Nat.beq d.i i) (K d) (ZF D i K F):=rfl
  rw [e,za]
  by_cases h:d.i=i
  ·rw [if_pos (by rw [h]; exact Nat.beq_refl i)]
   exact .inl ⟨d,by simp,h,rfl⟩
  ·rw [if_neg (fun q=>h (iE q))]
   rcases UO i K F D with⟨x,hx,h1,h2⟩|⟨h1,h2⟩
   ·exact .inl ⟨x,List.mem_cons_of_mem _ hx,h1,h2⟩
   ·refine .inr ⟨fun q=> ?_,h2⟩
    obtain⟨x,hx,hxi⟩:=vO.1 q
    rcases List.mem_cons.1 hx with rfl|hx
    ·exact h hxi
    ·exact h1 (vO.2 ⟨x,hx,hxi⟩)
noncomputable def xO (D:List DE):Nat:=List.rec (motive:=fun _=>Nat) 0 (fun d _ ih=>Nat.lor (bt d.i) ih) D
theorem Xr (i:Nat):∀D:List DE,tb (xO D) i=(Di D).contains i
 | []=>by show tb 0 i=false; exact uN i
 | d::D=>by
  have e:xO (d::D)=Nat.lor (bt d.i) (xO D):=rfl
  rw [e,w5,bj,Xr i D]
  show _=((d.i::Di D).contains i)
  rw [List.contains_cons]
  by_cases h:i=d.i<;>simp [h]
noncomputable def Xp (E:KE) (ops:Array Oper) (l:Sl) (e:DE) (K:KV→QR):QR:=
 Option.rec (motive:=fun _=>QR) none (fun v=>v.fc fun v=>zb v.free (K v) (v.onPtr (fun id _=>zb (Nat.beq id NV) (K .junk) none) none)) (dvl E ops l e)
theorem JM {E:KE} {ops:Array Oper} {l:Sl} {e:DE} {K:KV→QR} {r:KV×KH} (h:Xp E ops l e K=some r):∃v,dvl E ops l e=some v∧(v.free=true∨∃off,v= .ptr NV off)∧K (pL v)=some r:=by
 unfold Xp at h
 cases hd:dvl E ops l e with
 |none=>rw [hd]at h; cases h
 | some v=>
  rw [hd]at h
  simp only [KV.fc_eq]at h
  rw [za]at h
  refine⟨v,rfl, ?_⟩
  by_cases hf:v.free=true
  ·rw [if_pos hf]at h
   exact⟨.inl hf,by unfold pL; rw [if_pos hf]; exact h⟩
  ·rw [if_neg hf]at h
   cases v<;>first|(cases h; done)|skip
   rename_i id off
   have h2:zb (Nat.beq id NV) (K .junk) none=some r:=h
   clear h hd
   rw [za]at h2
   split at h2
   ·rename_i hid
    have hid:=iE hid
    exact⟨.inr ⟨off,by rw [hid]⟩,by unfold pL; rw [if_neg hf]; exact h2⟩
   ·cases h2
noncomputable def qd3 (X:QX) (e:QE) (n:Nat) (ops:Array Oper) (EM LM BB:Nat) (D:List DE) (order:List Nat):List Nat→Sl→List KD→KH→QKS→QR:=
 List.rec (motive:=fun _=>List Nat→Sl→List KD→KH→QKS→QR) (fun _ l ds h K=>K l ds h)
  (fun i _ ih seen l ds h K=>Option.rec (motive:=fun _=>QR) none (fun o=>cG ops o (fun g=>
   zb (tb EM i) (Zv X.E X.S.M o.op (fun q=>(QI.op g q (cT n o.dst)).run e l ds h fun l ds h=>zb (Nat.ble h.next NV) (wY X.E ops (Nat.lor (Nat.lor (Nat.lor EM LM) (xO D)) (yD BB i)) seen (fun cs=>uJ cs e l h (ih (i::seen) l ds h K)) none) none) none)
   (zb (tb LM i) (zb (qC o.op&&o.guard.isNone) (cOp X.E o.op (fun q=>(QI.op g q (cT n o.dst)).run e l ds h fun l ds h=>zb (Nat.ble h.next NV) (wY X.E ops (Nat.lor (Nat.lor (Nat.lor EM LM) (xO D)) (yD BB i)) seen (fun cs=>uJ cs e l h (ih (i::seen) l ds h K)) none) none) none) none)
   (ZF D i (fun d=>zb (o.guard.isNone&&wV X.E.T o.op) (Xp X.E ops l d fun v=>(cT n o.dst).put v l fun l=>ih (i::seen) l ds h K) none)
   (zb (wV X.E.T o.op) (cOp X.E o.op (fun q=>(QI.op g q (cT n o.dst)).run e l ds h fun l ds h=>ih (i::seen) l ds h K) none) none)))) none) ops[i]?) order
section
variable {P:Program} {X:QX} {e:QE} {rd:Option Nat}
theorem bV (ok:X.Ok P) (he:e.ok P X) (n:Nat) (ops:Array Oper) (hN:ops.size≤64) (EM LM BB:Nat) (D:List DE):∀(order seen:List Nat),(∀j∈seen,j<ops.size)→∀l ds h (K:QKS) r,qd3 X e n ops EM LM BB D order seen l ds h K=some r →
  ∃l' h',K l' ds h'=some r∧kD3 P X.E rd ops (xm EM ops.size) (xm LM ops.size) D (ba BB ops.size) order seen ⟨n,l,ds⟩ h fun f t=>f=⟨n,l',ds⟩∧t=h'
 | [],seen,_,l,ds,h,K,r,q=>⟨l,h,q,rfl,rfl⟩
 | i ::order,seen,hs,l,ds,h,K,r,q=>by
  have q:Option.rec (motive:=fun _=>QR) none (fun o=>cG ops o (fun g=>
   zb (tb EM i) (Zv X.E X.S.M o.op (fun q=>(QI.op g q (cT n o.dst)).run e l ds h fun l ds h=>zb (Nat.ble h.next NV) (wY X.E ops (Nat.lor (Nat.lor (Nat.lor EM LM) (xO D)) (yD BB i)) seen (fun cs=>uJ cs e l h (qd3 X e n ops EM LM BB D order (i::seen) l ds h K)) none) none) none)
   (zb (tb LM i) (zb (qC o.op&&o.guard.isNone) (cOp X.E o.op (fun q=>(QI.op g q (cT n o.dst)).run e l ds h fun l ds h=>zb (Nat.ble h.next NV) (wY X.E ops (Nat.lor (Nat.lor (Nat.lor EM LM) (xO D)) (yD BB i)) seen (fun cs=>uJ cs e l h (qd3 X e n ops EM LM BB D order (i::seen) l ds h K)) none) none) none) none)
   (ZF D i (fun d=>zb (o.guard.isNone&&wV X.E.T o.op) (Xp X.E ops l d fun v=>(cT n o.dst).put v l fun l=>qd3 X e n ops EM LM BB D order (i::seen) l ds h K) none)
   (zb (wV X.E.T o.op) (cOp X.E o.op (fun q=>(QI.op g q (cT n o.dst)).run e l ds h fun l ds h=>qd3 X e n ops EM LM BB D order (i::seen) l ds h K) none) none)))) none) ops[i]? =some r:=q
  cases ho:ops[i]? with
  |none=>rw [ho]at q; cases q
  | some o=>
   rw [ho]at q
   simp only at q
   have hd:zd ops i=o.dst:=by simp [zd,ho]
   have ht:=Pj n o.dst
   have hi:i<ops.size:=by
    rcases Nat.lt_or_ge i ops.size with h|h
    ·exact h
    ·rw [Array.getElem?_eq_none h]at ho; cases ho
   have hs':∀j∈i::seen,j<ops.size:=fun j hj=>by
    rcases List.mem_cons.1 hj with rfl|hj
    ·exact hi
    ·exact hs j hj
   have hM:∀j∈seen,((xm EM ops.size++xm LM ops.size++Di D).contains j||((ba BB ops.size).getD i []).contains j)=tb (Nat.lor (Nat.lor (Nat.lor EM LM) (xO D)) (yD BB i)) j:=fun j hj=>by
    have h1:=hs j hj
    have e1:(xm EM ops.size++xm LM ops.size++Di D).contains j=((xm EM ops.size++xm LM ops.size).contains j||(Di D).contains j):=by
     rw [Bool.eq_iff_iff]; simp only [List.contains_iff_mem,List.mem_append,Bool.or_eq_true]
    rw [e1,Xg h1,Vt hi h1]
    simp only [w5,Xr,jv]
    simp [show j<64 by omega]
   have cks:∀ {l:Sl} {h:KH} {Z:QR},wY X.E ops (Nat.lor (Nat.lor (Nat.lor EM LM) (xO D)) (yD BB i)) seen (fun cs=>uJ cs e l h Z) none=some r→v6 P X.E.ng rd ops (xm EM ops.size++xm LM ops.size++Di D) ((ba BB ops.size).getD i []) seen ⟨n,l,ds⟩ h∧Z=some r:=fun {l h Z} q=>by
    rcases gm (e:=e) (rd:=rd) ok n ops (xm EM ops.size++xm LM ops.size++Di D) ((ba BB ops.size).getD i []) _ none seen hM (fun cs=>uJ cs e l h Z)with h1|⟨cs,hcs,h1⟩
    ·rw [h1]at q; cases q
    ·rw [h1]at q; exact hcs l ds h Z r q
   have hnv:∀ {h:KH} {Z:QR},zb (Nat.ble h.next NV) Z none=some r→h.next≤NV∧Z=some r:=fun {h Z} q=>by
    rw [za]at q
    split at q
    ·rename_i hb; exact⟨iD hb,q⟩
    ·cases q
   generalize hB:(fun g=>zb (tb EM i) (Zv X.E X.S.M o.op (fun q=>(QI.op g q (cT n o.dst)).run e l ds h fun l ds h=>zb (Nat.ble h.next NV) (wY X.E ops (Nat.lor (Nat.lor (Nat.lor EM LM) (xO D)) (yD BB i)) seen (fun cs=>uJ cs e l h (qd3 X e n ops EM LM BB D order (i::seen) l ds h K)) none) none) none)
    (zb (tb LM i) (zb (qC o.op&&o.guard.isNone) (cOp X.E o.op (fun q=>(QI.op g q (cT n o.dst)).run e l ds h fun l ds h=>zb (Nat.ble h.next NV) (wY X.E ops (Nat.lor (Nat.lor (Nat.lor EM LM) (xO D)) (yD BB i)) seen (fun cs=>uJ cs e l h (qd3 X e n ops EM LM BB D order (i::seen) l ds h K)) none) none) none) none)
    (ZF D i (fun d=>zb (o.guard.isNone&&wV X.E.T o.op) (Xp X.E ops l d fun v=>(cT n o.dst).put v l fun l=>qd3 X e n ops EM LM BB D order (i::seen) l ds h K) none)
    (zb (wV X.E.T o.op) (cOp X.E o.op (fun q=>(QI.op g q (cT n o.dst)).run e l ds h fun l ds h=>qd3 X e n ops EM LM BB D order (i::seen) l ds h K) none) none))))=Bd at q
   rcases KY ops o Bd none with h0|⟨g,hg,h0⟩
   ·rw [h0]at q; cases q
   rw [h0,←hB]at q
   simp only [za]at q
   by_cases hE:tb EM i=true
   ·rw [if_pos hE]at q
    simp only [←za]at q
    rcases WY (e:=e) (rd:=rd) ok he o.op (fun q=>(QI.op g q (cT n o.dst)).run e l ds h fun l ds h=>zb (Nat.ble h.next NV) (wY X.E ops (Nat.lor (Nat.lor (Nat.lor EM LM) (xO D)) (yD BB i)) seen (fun cs=>uJ cs e l h (qd3 X e n ops EM LM BB D order (i::seen) l ds h K)) none) none) none with h1|⟨qo,hq,h1⟩
    ·rw [h1]at q; cases q
    rw [h1]at q
    have q:g.run l (qo.run e l h fun v h=>(cT n o.dst).put v l fun l=>zb (Nat.ble h.next NV) (wY X.E ops (Nat.lor (Nat.lor (Nat.lor EM LM) (xO D)) (yD BB i)) seen (fun cs=>uJ cs e l h (qd3 X e n ops EM LM BB D order (i::seen) l ds h K)) none) none) ((cT n o.dst).put (.tuple []) l fun l=>zb (Nat.ble h.next NV) (wY X.E ops (Nat.lor (Nat.lor (Nat.lor EM LM) (xO D)) (yD BB i)) seen (fun cs=>uJ cs e l h (qd3 X e n ops EM LM BB D order (i::seen) l ds h K)) none) none)=some r:=q
    simp only [kD3]
    rcases hg _ _ _ _ q with⟨hw,hy⟩|⟨hw,hn⟩
    ·obtain⟨v,h1,k,e2⟩:=hq o rfl _ _ _ _ hy
     rw [ht l ds v]at e2
     obtain⟨nv,e2⟩:=hnv e2
     obtain⟨st,e3⟩:=cks e2
     obtain⟨l',h',e4,k2⟩:=bV ok he n ops hN EM LM BB D order (i::seen) hs' _ _ _ _ _ e3
     refine⟨l',h',e4, ?_⟩
     rw [if_pos ((xr hi).trans hE)]
     unfold W7
     simp only [ho,hw]
     rw [←xD]at st k2
     exact⟨v,h1,k,st,fun _=>nv,k2⟩
    ·rw [ht l ds]at hn
     obtain⟨nv,hn⟩:=hnv hn
     obtain⟨st,e3⟩:=cks hn
     obtain⟨l',h',e4,k2⟩:=bV ok he n ops hN EM LM BB D order (i::seen) hs' _ _ _ _ _ e3
     refine⟨l',h',e4, ?_⟩
     rw [if_pos ((xr hi).trans hE)]
     unfold W7
     simp only [ho,hw]
     rw [←xD]at st k2
     exact⟨st,fun _=>nv,k2⟩
   rw [if_neg hE]at q
   have hE':¬(xm EM ops.size).contains i=true:=fun h=>hE ((xr hi).symm.trans h)
   by_cases hL:tb LM i=true
   ·rw [if_pos hL]at q
    by_cases ha:(qC o.op&&o.guard.isNone)=true
    ·rw [if_pos ha]at q
     simp only [iF,Option.isNone_iff_eq_none]at ha
     simp only [←za]at q
     rcases dN (E:=X.E) o.op (fun q=>(QI.op g q (cT n o.dst)).run e l ds h fun l ds h=>zb (Nat.ble h.next NV) (wY X.E ops (Nat.lor (Nat.lor (Nat.lor EM LM) (xO D)) (yD BB i)) seen (fun cs=>uJ cs e l h (qd3 X e n ops EM LM BB D order (i::seen) l ds h K)) none) none) none with h1|⟨qo,hq,h1⟩
     ·rw [h1]at q; cases q
     rw [h1]at q
     have q:g.run l (qo.run e l h fun v h=>(cT n o.dst).put v l fun l=>zb (Nat.ble h.next NV) (wY X.E ops (Nat.lor (Nat.lor (Nat.lor EM LM) (xO D)) (yD BB i)) seen (fun cs=>uJ cs e l h (qd3 X e n ops EM LM BB D order (i::seen) l ds h K)) none) none) ((cT n o.dst).put (.tuple []) l fun l=>zb (Nat.ble h.next NV) (wY X.E ops (Nat.lor (Nat.lor (Nat.lor EM LM) (xO D)) (yD BB i)) seen (fun cs=>uJ cs e l h (qd3 X e n ops EM LM BB D order (i::seen) l ds h K)) none) none)=some r:=q
     simp only [kD3]
     rcases hg _ _ _ _ q with⟨hw,hy⟩|⟨hw,hn⟩
     ·obtain⟨v,h1,e1,e2⟩:=hq _ _ _ _ _ hy
      obtain⟨tm,cells,k1,k2,rfl,rfl⟩:=pF ha.1 e1
      have e2:((cT n o.dst).put (tm.at h.next) l fun l=>zb (Nat.ble (h.push (.cells false cells)).next NV) (wY X.E ops (Nat.lor (Nat.lor (Nat.lor EM LM) (xO D)) (yD BB i)) seen (fun cs=>uJ cs e l (h.push (.cells false cells)) (qd3 X e n ops EM LM BB D order (i::seen) l ds (h.push (.cells false cells)) K)) none) none)=some r:=e2
      rw [ht l ds]at e2
      obtain⟨nv,e2⟩:=hnv e2
      obtain⟨st,e3⟩:=cks e2
      obtain⟨l',h',e4,k3⟩:=bV ok he n ops hN EM LM BB D order (i::seen) hs' _ _ _ _ _ e3
      refine⟨l',h',e4, ?_⟩
      rw [if_neg hE',if_pos ((xr hi).trans hL)]
      rw [←xD]at st k3
      exact⟨o,tm,cells,ho,k1,k2,st,fun _=>nv,k3⟩
     ·rw [yr,ha.2]at hw; cases hw
    ·rw [if_neg ha]at q; cases q
   rw [if_neg hL]at q
   have hL':¬(xm LM ops.size).contains i=true:=fun h=>hL ((xr hi).symm.trans h)
   rcases UO i (fun d=>if(o.guard.isNone&&wV X.E.T o.op)=true then(Xp X.E ops l d fun v=>(cT n o.dst).put v l fun l=>qd3 X e n ops EM LM BB D order (i::seen) l ds h K)else none)
    (if wV X.E.T o.op=true then(cOp X.E o.op (fun q=>(QI.op g q (cT n o.dst)).run e l ds h fun l ds h=>qd3 X e n ops EM LM BB D order (i::seen) l ds h K) none)else none) D with⟨d,hdD,hdi,h1⟩|⟨hnD,h1⟩
   ·rw [h1]at q
    split at q
    ·rename_i hgp
     simp only [iF,Option.isNone_iff_eq_none]at hgp
     obtain⟨v,v1,v2,q⟩:=JM q
     rw [ht l ds]at q
     obtain⟨l',h',e4,k2⟩:=bV ok he n ops hN EM LM BB D order (i::seen) hs' _ _ _ _ _ q
     refine⟨l',h',e4, ?_⟩
     simp only [kD3]
     rw [if_neg hE',if_neg hL',if_pos (by simpa using vO.2 ⟨d,hdD,hdi⟩)]
     rw [←xD,←hd]at k2
     exact⟨d,v,hdD,hdi,⟨v1,⟨o,by rw [hdi]; exact ho,hgp.1,hgp.2⟩,v2⟩,k2⟩
    ·cases q
   ·rw [h1]at q
    split at q
    ·rename_i hp
     rcases dN (E:=X.E) o.op (fun q=>(QI.op g q (cT n o.dst)).run e l ds h fun l ds h=>qd3 X e n ops EM LM BB D order (i::seen) l ds h K) none with h2|⟨qo,hq,h2⟩
     ·rw [h2]at q; cases q
     rw [h2]at q
     have q:g.run l (qo.run e l h fun v h=>(cT n o.dst).put v l fun l=>qd3 X e n ops EM LM BB D order (i::seen) l ds h K) ((cT n o.dst).put (.tuple []) l fun l=>qd3 X e n ops EM LM BB D order (i::seen) l ds h K)=some r:=q
     simp only [kD3]
     have hnD':¬(Di D).contains i=true:=by simpa using hnD
     rcases hg _ _ _ _ q with⟨hw,hy⟩|⟨hw,hn⟩
     ·obtain⟨v,h1,e1,e2⟩:=hq _ _ _ _ _ hy
      have:=ue hp e1
      subst this
      simp only at e2
      rw [ht l ds v]at e2
      obtain⟨l',h',e4,k2⟩:=bV ok he n ops hN EM LM BB D order (i::seen) hs' _ _ _ _ _ e2
      refine⟨l',h',e4, ?_⟩
      rw [if_neg hE',if_neg hL',if_neg hnD']
      rw [←xD,←hd]at k2
      refine⟨v, ?_,k2⟩
      unfold xM
      simp only [ho,hw]
      exact KDo.exec ok.E e1
     ·rw [ht l ds]at hn
      obtain⟨l',h',e4,k2⟩:=bV ok he n ops hN EM LM BB D order (i::seen) hs' _ _ _ _ _ hn
      refine⟨l',h',e4, ?_⟩
      rw [if_neg hE',if_neg hL',if_neg hnD']
      rw [←xD,←hd]at k2
      refine⟨_, ?_,k2⟩
      unfold xM
      simp only [ho,hw]
    ·cases q
theorem Jf (ok:X.Ok P) (he:e.ok P X) {n:Nat} {id:Nat} {ops:Array Oper} (hN:ops.size≤64) {EM LM BB:Nat} {D:List DE} {order:List Nat} (c:wG ops n order (xm EM ops.size) (xm LM ops.size) D (ba BB ops.size)) {l:Sl} {ds:List KD} {h:KH} (hnx:h.next≤NV) {K:QKS} {r:KV×KH}
  (q:qd3 X e n ops EM LM BB D order [] l ds h K=some r):∃l' ds' h',K l' ds' h'=some r∧KC P rd (.region id ops true) ⟨n,l,ds⟩ h .normal ⟨n,l',ds'⟩ h':=by
 obtain⟨l',h',e1,k⟩:=bV (rd:=rd) ok he n ops hN EM LM BB D order [] (by simp) l ds h K r q
 exact⟨l',ds,h',e1,VL (fr:=⟨n,l,ds⟩) ok.E ok.mixed c (fun i hi=>(xY.1 hi).1) (fun _=>hnx) k⟩
end
def oU (ops:Array Oper) (e:DE):List Nat:=
 zo ops e.p++(match e.q with
  |some q=>(zo ops q).filter fun t=> !(zd ops e.p==some t)
  |none=> [])++(zo ops e.i).filter fun t=> !(zd ops e.p==some t)&&(match e.q with
  |some q=> !(zd ops q==some t)
  |none=>true)
theorem D8 {ops:Array Oper} {e:DE} {t:Nat} (h:VN ops e t):t∈oU ops e:=by
 unfold oU
 rcases h with h|⟨q,hq,h,h1⟩|⟨h,h1,h2⟩
 ·simp [h]
 ·rw [hq]
  simp only [List.mem_append,List.mem_filter]
  exact .inl (.inr ⟨h,by simpa using h1⟩)
 ·simp only [List.mem_append,List.mem_filter]
  refine .inr ⟨h, ?_⟩
  rw [iF]
  refine⟨by simpa using h1, ?_⟩
  cases hq:e.q with
  |none=>rfl
  |some q=>simpa using h2 q hq
def ck3 (ops:Array Oper) (n:Nat) (order Es L:List Nat) (D:List DE) (B:List (List Nat)):Bool:=
 decide order.Nodup&&order.length==ops.size&&(List.range ops.size).all (fun i=>order.contains i)&&order.all (fun i=>decide (i<ops.size)) &&
 (List.range order.length).all (fun p=>(dp ops (order.getD p 0)).all fun k=>(order.take p).contains k) &&
 (List.range ops.size).all (fun j=>(B.getD j []).all fun i=>(dp ops j).contains i||(dp ops j).any fun k=>(B.getD k []).contains i) &&
 (List.range ops.size).all (fun i=>(match zd ops i with|some d=>decide (d<n)|none=>true)&&(List.range ops.size).all fun j=>i==j||(match zd ops i,zd ops j with|some d,some e=> !(d==e)|_,_=>true)) &&
 (List.range ops.size).all (fun i=>(zo ops i).all fun t=>(List.range ops.size).all fun w=>(match zd ops w with|some d=> !(d==t)|none=>true)||(B.getD i []).contains w||(Es.contains w&&((w==i)||(B.getD w []).contains i))) &&
 (List.range order.length).all (fun p=> !(Es.contains (order.getD p 0)||L.contains (order.getD p 0))||(order.drop (p+1)).all fun j=>L.contains j||(Di D).contains j||(B.getD j []).contains (order.getD p 0)) &&
 L.all (fun i=>decide (i<ops.size) && !(Es.contains i)&&(match ops[i]? with|some o=>o.guard.isNone|none=>true)&&(zo ops i).all fun t=>(L.all fun k=> !(zd ops k==some t))&&(Di D).all fun k=> !(zd ops k==some t)) &&
 D.all (fun e=>decide (e.i<ops.size) && !(Es.contains e.i) && !(L.contains e.i)&&L.contains e.p&&(B.getD e.i []).contains e.p) &&
 D.all (fun e=>match e.q with
  |none=>true
  |some q=>(B.getD e.i []).contains q&&(zd ops q).isSome&&D.any fun x=>x.i==q&&x.p==e.p&&x.q.isNone) &&
 decide (Di D).Nodup &&
 D.all (fun e=>(oU ops e).all fun t=>(List.range ops.size).all fun k=> !(zd ops k==some t)||(!(L.contains k) && !((Di D).contains k)&&(B.getD e.i []).contains k)) &&
 D.all (fun e=>Es.all fun x=>(B.getD x []).contains e.i||(List.range order.length).all fun k=> !(order.getD k 0==e.p)||(order.take k).contains x)
theorem BE {D:List DE} (h:(Di D).Nodup):∀x∈D,∀y∈D,x.i=y.i→x=y:=by
 induction D with
 |nil=>intro x hx; cases hx
 | cons d D ih=>
  have h':(d.i::Di D).Nodup:=h
  obtain⟨h1,h2⟩:=List.nodup_cons.1 h'
  intro x hx y hy e
  rcases List.mem_cons.1 hx with h3|h3
  ·rcases List.mem_cons.1 hy with h4|h4
   ·rw [h3,h4]
   ·exact absurd ((vO (D:=D)).2 ⟨y,h4,by rw [←e,h3]⟩) h1
  ·rcases List.mem_cons.1 hy with h4|h4
   ·exact absurd ((vO (D:=D)).2 ⟨x,h3,by rw [e,h4]⟩) h1
   ·exact ih h2 x h3 y h4 e
theorem wG.of {ops:Array Oper} {n:Nat} {order Es L:List Nat} {D:List DE} {B:List (List Nat)} (h:ck3 ops n order Es L D B=true):wG ops n order Es L D B:=by
 simp only [ck3,iF,List.all_eq_true,List.mem_range,decide_eq_true_eq,beq_iff_eq,List.contains_iff_mem,Bool.or_eq_true,List.any_eq_true,Bool.not_eq_true',List.contains_eq_mem,decide_eq_false_iff_not,Bool.or_eq_false_iff,beq_eq_false_iff_ne,ne_eq]at h
 obtain⟨⟨⟨⟨⟨⟨⟨⟨⟨⟨⟨⟨⟨⟨h0,h1⟩,h2⟩,h3⟩,h4⟩,h5⟩,h6⟩,h7⟩,h9⟩,h10⟩,h11⟩,h12⟩,h13⟩,h14⟩,h15⟩:=h
 have getD:∀p (hp:p<order.length),order.getD p 0=order[p]:=fun p hp=>by simp [List.getD,hp]
 have hL:∀i∈L,i<ops.size:=fun i hi=>(h10 i hi).1.1.1
 exact {
  nodup:=h0
  len:=h1
  all:=h2
  lt:=h3
  topo:=fun p hp k hk=>h4 p hp k (by rw [getD p hp]; exact hk)
  clos:=fun j hj i hi=>h5 j hj i hi
  dlt:=fun i hi d hd=>by
   have:=(h6 i hi).1
   rw [hd]at this; simpa using this
  uniq:=fun i j hi hj hne d hd hd'=>by
   have:=(h6 i hi).2 j hj
   rcases this with h|h
   ·exact hne h
   ·rw [hd,hd']at h; simp at h
  reads:=fun i hi t ht k hk hd=>by
   have:=h7 i hi t ht k hk
   rcases this with(h|h)|h
   ·rw [hd]at h; simp at h
   ·exact .inl h
   ·exact .inr h
  waits:=fun p hp he j hj hjL hjD=>by
   have:=h9 p hp
   rw [getD p hp]at this
   rcases this with h|h
   ·exact(he.elim h.1 h.2).elim
   ·rcases h j hj with(q|q)|q
    ·exact absurd q hjL
    ·exact absurd q hjD
    ·exact q
  late:=fun i hi hs=>by
   obtain⟨⟨⟨_,q2⟩,q3⟩,q4⟩:=h10 i hi
   refine⟨q2,fun o ho=> ?_,fun t ht=>⟨fun k hk hd=>(q4 t ht).1 k hk hd,fun k hk hd=>(q4 t ht).2 k hk hd⟩⟩
   rw [ho]at q3; simpa using q3
  dE:=fun e he=>by
   obtain⟨⟨⟨⟨q1,q2⟩,q3⟩,q4⟩,q5⟩:=h11 e he
   exact⟨q1,q2,q3,q4,hL _ q4,q5⟩
  dq:=fun e he q hq=>by
   have:=h12 e he
   rw [hq]at this
   simp only [iF,List.any_eq_true,beq_iff_eq,List.contains_iff_mem,Option.isSome_iff_exists,Option.isNone_iff_eq_none,List.contains_eq_mem,decide_eq_true_eq]at this
   obtain⟨⟨q1,q2⟩,x,hx,⟨x1,x2⟩,x3⟩:=this
   exact⟨q1,q2,x,hx,x1,x2,x3⟩
  du:=BE h13
  dr:=fun e he t ht k hk hd=>by
   rcases h14 e he t (D8 ht) k hk with q|q
   ·exact absurd hd q
   ·exact⟨q.1.1,q.1.2,q.2⟩
  dw :=fun e he x hx=>by
   rcases h15 e he x hx with q|q
   ·exact .inl q
   ·refine .inr fun k hk hke=> ?_
    rcases q k hk with q|q
    ·rw [getD k hk]at q; exact absurd hke q
    ·exact q}
def mkD (ops:Array Oper) (L:List Nat):List DE:=(List.range ops.size).filterMap fun i=>match ops[i]? with
 |none=>none
 | some o=>match o.op with
  | .indexAddr _ (.tmp s) _=>(L.find? fun p=>zd ops p==some s).map fun p=>⟨i,p,none⟩
  | .convert _ _ (.tmp s)=>(L.find? fun p=>zd ops p==some s).map fun p=>⟨i,p,none⟩
  | .load _ (.tmp s)=>match(List.range ops.size).find? fun q=>zd ops q==some s with
   |none=>none
   | some q=>match ops[q]? with
    |none=>none
    | some o2=>match o2.op with
     | .indexAddr _ (.tmp s2) _=>(L.find? fun p=>zd ops p==some s2).map fun p=>⟨i,p,some q⟩
     |_=>none
  |_=>none
section
variable {R:Type}
noncomputable def dfc (D:List DE):(List DE→R)→R:=List.rec (motive:=fun _=>(List DE→R)→R) (fun K=>K []) (fun d _ ih K=>DE.rec (motive:=fun _=>R) (fun i p q=>nfc i fun i=>nfc p fun p=>YW q fun q=>ih fun D=>K (⟨i,p,q⟩::D)) d) D
theorem GR:∀(D:List DE) (K:List DE→R),dfc D K=K D
 | [],K=>rfl
 | d::D,K=>by
  have e:dfc (d::D) K=DE.rec (motive:=fun _=>R) (fun i p q=>nfc i fun i=>nfc p fun p=>YW q fun q=>dfc D fun D=>K (⟨i,p,q⟩::D)) d:=rfl
  rw [e]
  obtain⟨i,p,q⟩:=d
  simp only [zi,WH]
  rw [GR D]
noncomputable def Vp (T:TypeId→TI) (ops:Array Oper) (n:Nat) (K:List Nat→Nat→Nat→Nat→List DE→R) (F:R):R:=
 nfc (pBB ops.toList 0 0) fun BB=>
 nfc (PQ (vU T ops ops.toList) (vU T ops ops.toList) 0 BB (ma (vU T ops ops.toList) 0 0)) fun TM=>
 nfc (nu (vU T ops ops.toList) (vU T ops ops.toList) 0 BB TM 0) fun LM=>
 nfc (Nat.sub TM LM) fun EM=>
 lfc (Dq (vU T ops ops.toList) ops.size (Nat.sub full (Nat.land TM full)) EM LM BB 0) fun order=>
 dfc (mkD ops (xm LM ops.size)) fun D=>
 zb (Nat.ble ops.size 64) (zb (ck3 ops n order (xm EM ops.size) (xm LM ops.size) D (ba BB ops.size)) (K order EM LM BB D) F) F
theorem D0 (T:TypeId→TI) (ops:Array Oper) (n:Nat) (K:List Nat→Nat→Nat→Nat→List DE→R) (F:R):Vp T ops n K F=F∨∃order EM LM BB D,(wG ops n order (xm EM ops.size) (xm LM ops.size) D (ba BB ops.size)∧ops.size≤64)∧Vp T ops n K F=K order EM LM BB D:=by
 unfold Vp
 simp only [zi,qL,GR,za]
 split
 ·rename_i h1
  split
  ·rename_i h
   exact .inr ⟨_,_,_,_,_,⟨wG.of h,iD h1⟩,rfl⟩
  ·exact .inl rfl
 ·exact .inl rfl
end
noncomputable def fK (X:QX) (e:QE) (out:Bool) (n:Nat) (ops:Array Oper) (draw:Bool) (l:Sl) (ds:List KD) (h:KH) (K:QKS):QR:=
 YX.rec (motive:=fun _=>QR) (fun s=>pf s e l ds h K) (zb draw (Vp X.E.T ops n (fun order EM LM BB D=>zb (Nat.ble h.next NV) (qd3 X e n ops EM LM BB D order [] l ds h K) none) none) none) (lV X.E X.S.M out n ops draw)
section
variable {P:Program} {X:QX} {e:QE} {rd:Option Nat}
theorem fk (ok:X.Ok P) (he:e.ok P X) {n:Nat} {id:Nat} {ops:Array Oper} {draw:Bool} {l:Sl} {ds:List KD} {h:KH} {K:QKS} {r:KV×KH} (q:fK X e rd.isNone n ops draw l ds h K=some r):
  ∃l' ds' h',K l' ds' h'=some r∧KC P rd (.region id ops draw) ⟨n,l,ds⟩ h .normal ⟨n,l',ds'⟩ h':=by
 unfold fK at q
 cases hc:lV X.E X.S.M rd.isNone n ops draw with
 | mk s=>
  rw [hc]at q
  refine eX (rd:=rd) ok he ?_
  rw [hc]
  exact q
 | bad=>
  rw [hc]at q
  have q:zb draw (Vp X.E.T ops n (fun order EM LM BB D=>zb (Nat.ble h.next NV) (qd3 X e n ops EM LM BB D order [] l ds h K) none) none) none=some r:=q
  rw [za]at q
  cases draw with
  |false=>cases q
  | true=>
   simp only [if_true]at q
   rcases D0 X.E.T ops n (fun order EM LM BB D=>zb (Nat.ble h.next NV) (qd3 X e n ops EM LM BB D order [] l ds h K) none) none with h0|⟨order,EM,LM,BB,D,hc3,h0⟩
   ·rw [h0]at q; cases q
   ·rw [h0,za]at q
    split at q
    ·rename_i hnx
     exact Jf (rd:=rd) ok he hc3.2 hc3.1 (iD hnx) q
    ·cases q
end
def GF:Nat:=1000000
attribute [irreducible] GF
abbrev QKE:=Exit→Sl→List KD→KH→QR
noncomputable def Exit.onN (e:Exit) (a b:QR):QR:=Exit.rec (motive:=fun _=>QR) a (fun _=>b) (fun _=>b) b (fun _=>b) b e
theorem Exit.onN_some {e:Exit} {a b:QR} {r:KV×KH} (h:Exit.onN e a b=some r):(e= .normal∧a=some r)∨(e≠ .normal∧b=some r):=by
 cases e<;>first|exact .inl ⟨rfl,h⟩|exact .inr ⟨(fun x=>by cases x),h⟩
noncomputable def KO.onLoop (o:KO) (f:xh→QR):QR:=KO.rec (motive:=fun _=>QR) (fun _ _=>none) (fun _ _=>none) (fun _ _ _=>none) (fun _ _ _ _=>none) f (fun _=>none) o
noncomputable def KO.onDefd (o:KO) (f:QR):QR:=KO.rec (motive:=fun _=>QR) (fun _ _=>none) (fun _ _=>none) (fun _ _ _=>none) (fun _ _ _ _=>none) (fun _=>none)
 (fun c=>Option.rec (motive:=fun _=>QR) none (fun l=>List.rec (motive:=fun _=>QR) f (fun _ _ _=>none) l) c) o
noncomputable def xh.turned (L:xh) (s:LoopState) (p:Option Code):xh:=xh.rec (motive:=fun _=>xh) (fun _ _ n l ps a b d=>⟨s,p,n,l,ps,a,b,d⟩) L
theorem xh.turned_eq (L:xh) (s:LoopState) (p:Option Code):L.turned s p={L with state:=s,pending:=p}:=rfl
noncomputable def xh.hd (L:xh) (K:xh→QR):QR:=xh.rec (motive:=fun _=>QR) (fun s p n l ps a b d=>K ⟨s,p,n,l,ps,a,b,d⟩) L
theorem xh.hd_eq (L:xh) (K:xh→QR):L.hd K=K L:=rfl
noncomputable def Pg (p:Option Code) (K:Exit→QR):QR:=match qA p with|some e=>K e|none=>none
noncomputable def mW (s:LoopState) (K:QR):QR:=match s with| .busy=>none|_=>K
noncomputable def cR (s:LoopState) (K:QR):QR:=match s with| .ready=>K|_=>none
noncomputable def Wz (X:QX) (e:QE) (n:Nat) (g:KV) (ps:Array Tmp) (assign body:Code) (l:Sl) (ds:List KD) (h:KH) (K:QKE):QR:=
 g.onFunc (fun fn first cap=>Fn.onFunc fn fun f=>yQ h (.defd (some [])) fun i h=>yQ h (.loop (WA ⟨n,l,ds⟩ ps assign body i)) fun j h=>
  dG [.yield j] cap fun yc=>dG first yc fun args=>e.call f args h fun _ h=>xX h j fun o=>o.onLoop fun L=>mW L.state (Pg L.pending fun ex=>(L.turned .exhausted L.pending).hd fun L=>qh h j (.loop L) fun h=>K ex l (.collected i::ds) h))
  (fun _=>none) none
noncomputable def mP (ic:Sl→List KD→KH→QKE→QR) (K:QKE) (m:Nat):Sl→List KD→KH→QR:=Nat.rec (motive:=fun _=>Sl→List KD→KH→QR) (fun _ _ _=>none) (fun _ again l ds h=>ic l ds h fun ex l ds h=>Exit.onN ex (again l ds h) (K ex l ds h)) m
noncomputable def qd (X:QX) (e:QE) (out:Bool) (n:Nat) (c:Code):Sl→List KD→KH→QKE→QR:=
 Code.rec (motive:=fun _=>Sl→List KD→KH→QKE→QR)
  (fun l ds h K=>K .normal l ds h)
  (fun _ ops draw l ds h K=>fK X e out n ops draw l ds h fun l ds h=>K .normal l ds h)
  (fun _ _ ia ib l ds h K=>ia l ds h fun ex l ds h=>Exit.onN ex (ib l ds h K) (K ex l ds h))
  (fun c _ _ ia ib l ds h K=>((cO X.E.ng c fun q=>q).ev l).onBool (fun t=>zb t (ia l ds h K) (ib l ds h K)) none)
  (fun id _ ic l ds h K=>ic l ds h fun ex l ds h=>Exit.rec (motive:=fun _=>QR) (K .normal l ds h) (fun i=>zb (Nat.beq i id) (K .normal l ds h) (K (.exit i) l ds h)) (fun g=>K (.goto g) l ds h) (K .ret l ds h) (fun p=>K (.panic p) l ds h) (K .outgrown l ds h) ex)
  (fun _ ic l ds h K=>mP ic K GF l ds h)
  (fun g ps a b _ _ l ds h K=>zb out (Wz X e n ((cO X.E.ng g fun q=>q).ev l) ps a b l ds h K) none)
  (fun i l ds h K=>K (.exit i) l ds h)
  (fun _ ic l ds h K=>ic l ds h fun ex l ds h=>Exit.rec (motive:=fun _=>QR) (K .normal l ds h) (fun i=>K (.exit i) l ds h) (fun _=>none) (K .ret l ds h) (fun p=>K (.panic p) l ds h) (K .outgrown l ds h) ex)
  (fun _ l ds h K=>K .normal l ds h)
  (fun _ _ _ _ _=>none)
  (fun l ds h K=>K .ret l ds h)
  (fun _ _ _ _ _=>none) c
section
variable {P:Program} {X:QX} {e:QE}
theorem Gz (ok:X.Ok P) (he:e.ok P X) {n:Nat} {g:Operand} {ps:Array Tmp} {assign body:Code} {l:Sl} {ds:List KD} {h:KH} {K:QKE} {r:KV×KH} (q:Wz X e n (zg X.E.ng l g) ps assign body l ds h K=some r):
  ∃ex l' ds' h',K ex l' ds' h'=some r∧KC P none (.rangeFunc g ps assign body) ⟨n,l,ds⟩ h ex ⟨n,l',ds'⟩ h':=by
 unfold Wz at q
 cases hv:zg X.E.ng l g<;>rw [hv]at q<;>first|(cases q; done)|skip
 rename_i fn first cap
 cases fn<;>first|(cases q; done)|skip
 rename_i f
 simp only [KV.onFunc,Fn.onFunc,yI,j3]at q
 split at q
 ·rename_i hr1
  split at q
  ·rename_i hr2
   obtain⟨v,h3,⟨fn,cd,h1,h2⟩,k,q⟩:=he.call _ _ _ _ _ q
   rw [xo]at q
   have hj:(h.push (.defd (some []))).next=h.next+1:=rfl
   rw [hj]at q k
   cases hL:h3.get (h.next+1)with
   |none=>rw [hL]at q; cases q
   | some o=>
    rw [hL]at q
    cases o<;>first|(cases q; done)|skip
    rename_i L
    simp only [Option.elim_some,KO.onLoop,xh.hd_eq,xh.turned_eq,uo]at q
    have hroom:h.next+2<65000:=by
     have:yw (h.push (.defd (some [])))=true:=hr2
     simpa [yw,zL,hj] using this
    cases hs:L.state<;>rw [hs]at q<;>first|(cases q; done)|skip
    all_goals
     simp only [mW,Pg]at q
     cases ha:qA L.pending with
     |none=>rw [ha]at q; cases q
     | some ex=>
      rw [ha]at q
      exact⟨ex,l, .collected h.next::ds,_,q,cL (fr:=⟨n,l,ds⟩) ok.E ok.S hroom hv h1 h2 (by rw [List.append_assoc]; exact k) hL (by rw [hs]; simp) ha⟩
  ·cases q
 ·cases q
theorem kp (ok:X.Ok P) (he:e.ok P X) {rd:Option Nat} {out:Bool} (ho:out=rd.isNone) (n:Nat):∀(c:Code) (l:Sl) (ds:List KD) (h:KH) (K:QKE) (r:KV×KH),qd X e out n c l ds h K=some r →
  ∃ex l' ds' h',K ex l' ds' h'=some r∧KC P rd c ⟨n,l,ds⟩ h ex ⟨n,l',ds'⟩ h':=by
 have hng:=ok.E.ng
 intro c
 induction c with
 |skip=>exact fun l ds h K r q=>⟨_,_,_,_,q,lu⟩
 | region id ops draw=>
  intro l ds h K r q
  have q:fK X e out n ops draw l ds h (fun l ds h=>K .normal l ds h)=some r:=q
  subst ho
  obtain⟨l',ds',h',e1,k⟩:=fk (rd:=rd) (id:=id) ok he q
  exact⟨_,_,_,_,e1,k⟩
 | seq a b ia ib=>
  intro l ds h K r q
  obtain⟨ex,l1,ds1,h1,q1,k1⟩:=ia l ds h _ r q
  rcases Exit.onN_some q1 with⟨rfl,q2⟩|⟨hne,q2⟩
  ·obtain⟨ex,l2,ds2,h2,q3,k2⟩:=ib l1 ds1 h1 K r q2
   exact⟨_,_,_,_,q3,D5 k1 k2⟩
  ·exact⟨_,_,_,_,q2,Kd k1 hne⟩
 | cond o a b ia ib=>
  intro l ds h K r q
  have q:((cO X.E.ng o fun q=>q).ev l).onBool (fun t=>zb t (qd X e out n a l ds h K) (qd X e out n b l ds h K)) none=some r:=q
  obtain⟨qo,hq,e1⟩:=jC X.E.ng o fun q=>q
  rw [e1,hq]at q
  cases hv:zg X.E.ng l o<;>rw [hv]at q<;>first|(cases q; done)|skip
  rename_i t
  simp only [KV.onBool,za]at q
  cases t with
  |true=>obtain⟨ex,l2,ds2,h2,q3,k2⟩:=ia l ds h K r q; exact⟨_,_,_,_,q3,KQ hng (fr:=⟨n,l,ds⟩) hv k2⟩
  |false=>obtain⟨ex,l2,ds2,h2,q3,k2⟩:=ib l ds h K r q; exact⟨_,_,_,_,q3,KQ hng (fr:=⟨n,l,ds⟩) hv k2⟩
 | block id c ic=>
  intro l ds h K r q
  obtain⟨ex,l1,ds1,h1,q1,k1⟩:=ic l ds h _ r q
  cases ex with
  | exit i=>
   simp only [za,Nat.beq_eq]at q1
   split at q1
   ·rename_i hi; exact⟨_,_,_,_,q1,uD k1 _ (by simp [hi])⟩
   ·rename_i hi; exact⟨_,_,_,_,q1,uD k1 _ (by simp [hi])⟩
  |normal=>exact⟨_,_,_,_,q1,uD k1 _ rfl⟩
  |goto _=>exact⟨_,_,_,_,q1,uD k1 _ rfl⟩
  |ret=>exact⟨_,_,_,_,q1,uD k1 _ rfl⟩
  |panic _=>exact⟨_,_,_,_,q1,uD k1 _ rfl⟩
  |outgrown=>exact⟨_,_,_,_,q1,uD k1 _ rfl⟩
 | loop c ic=>
  intro l ds h K r q
  have key:∀(m:Nat) (l:Sl) (ds:List KD) (h:KH),mP (qd X e out n c) K m l ds h=some r →
    ∃ex l' ds' h',K ex l' ds' h'=some r∧KL P rd c ⟨n,l,ds⟩ h ex ⟨n,l',ds'⟩ h':=by
   intro m
   induction m with
   |zero=>intro l ds h q; cases q
   | succ m im=>
    intro l ds h q
    obtain⟨ex,l1,ds1,h1,q1,k1⟩:=ic l ds h _ r q
    rcases Exit.onN_some q1 with⟨rfl,q2⟩|⟨hne,q2⟩
    ·obtain⟨ex,l2,ds2,h2,q3,k2⟩:=im l1 ds1 h1 q2
     exact⟨_,_,_,_,q3,lg k1 k2⟩
    ·exact⟨_,_,_,_,q2,oO k1 hne⟩
  obtain⟨ex,l2,ds2,h2,q3,k2⟩:=key GF l ds h q
  exact⟨_,_,_,_,q3,fq k2⟩
 | rangeFunc g ps a b _ _=>
  intro l ds h K r q
  have q:zb out (Wz X e n ((cO X.E.ng g fun q=>q).ev l) ps a b l ds h K) none=some r:=q
  rw [za]at q
  split at q
  ·rename_i hout
   rw [ho]at hout
   cases rd with
   |some _=>cases hout
   | none=>
    obtain⟨qo,hq,e1⟩:=jC X.E.ng g fun q=>q
    rw [e1,hq]at q
    exact Gz ok he q
  ·cases q
 |exit i=>exact fun l ds h K r q=>⟨_,_,_,_,q,hO⟩
 | scope c ic=>
  intro l ds h K r q
  obtain⟨ex,l1,ds1,h1,q1,k1⟩:=ic l ds h _ r q
  cases ex with
  |goto _=>cases q1
  |normal=>exact⟨_,_,_,_,q1,qF k1 (by simp)⟩
  |exit _=>exact⟨_,_,_,_,q1,qF k1 (by simp)⟩
  |ret=>exact⟨_,_,_,_,q1,qF k1 (by simp)⟩
  |panic _=>exact⟨_,_,_,_,q1,qF k1 (by simp)⟩
  |outgrown=>exact⟨_,_,_,_,q1,qF k1 (by simp)⟩
 |label _=>exact fun l ds h K r q=>⟨_,_,_,_,q,cg⟩
 |goto _=>intro l ds h K r q; cases q
 |ret=>exact fun l ds h K r q=>⟨_,_,_,_,q,ot⟩
 |refuse _=>intro l ds h K r q; cases q
end
inductive QRv where
 |tmp (g:Sl→KV)
 |cell (g:Sl→KV) (ld:KV→KH→QK→QR)
inductive QFn where
 |no
 |mk (n:Nat) (c:Code) (rs:List QRv)
section
variable {S:Type}
noncomputable def pO (E:KE) (rs:List ResultVar) (K:List QRv→S) (F:S):S:=
 List.rec (motive:=fun _=>(List QRv→S)→S) (fun K=>K []) (fun x _ ih K=>match x with
  | .tmp t=>Sel.rec (motive:=fun _=>S) (fun g=>ih fun r=>K (.tmp g::r)) (dS t)
  | .cell x t=>zb ((E.T t).ok && !(wM (E.T t).d)) (Sel.rec (motive:=fun _=>S) (fun g=>zb (E.T t).d.agg (nfc (E.T t).sz fun n=>ih fun r=>K (.cell g (ZV n)::r)) (ih fun r=>K (.cell g ZY::r))) (dS x)) F) rs K
end
noncomputable def VT (rs:List QRv) (l:Sl) (h:KH) (K:List KV→QR):QR:=
 List.rec (motive:=fun _=>(List KV→QR)→QR) (fun K=>K []) (fun x _ ih K=>QRv.rec (motive:=fun _=>QR) (fun g=>(g l).hd fun v=>ih fun vs=>K (v::vs)) (fun g ld=>ld (g l) h fun v _=>v.hd fun v=>ih fun vs=>K (v::vs)) x) rs K
noncomputable def sb (vs:List KV) (K:KV→QR):QR:=List.rec (motive:=fun _=>QR) (K (.tuple [])) (fun v r _=>List.rec (motive:=fun _=>QR) (K v) (fun _ _ _=>K (.tuple (v::r))) r) vs
def rM:List KV→KV
 | [v]=>v
 |vs=> .tuple vs
theorem fN (vs:List KV) (K:KV→QR):sb vs K=K (rM vs):=by
 match vs with
 | []=>rfl
 | [v]=>rfl
 |v::u::r=>rfl
def Jp (E:KE) (s:List QRv) (rs:List ResultVar):Prop:=∀l h K r,VT s l h K=some r→∃vs,gz E h l rs=some vs∧K vs=some r
theorem Kr {S:Type} (E:KE) (F:S):∀(rs:List ResultVar) (K:List QRv→S),pO E rs K F=F∨∃s,Jp E s rs∧pO E rs K F=K s
 | [],K=> .inr ⟨[],fun l h K r q=>⟨[],rfl,q⟩,rfl⟩
 | x ::rs,K=>by
  have fin:∀(y:QRv),(∀l h (K:KV→QR) r,QRv.rec (motive:=fun _=>QR) (fun g=>(g l).hd K) (fun g ld=>ld (g l) h fun v _=>v.hd K) y=some r→∃v,XJ E h l x=some v∧K v=some r) →
    pO E (x::rs) K F=pO E rs (fun r=>K (y::r)) F→pO E (x::rs) K F=F∨∃s,Jp E s (x::rs)∧pO E (x::rs) K F=K s:=by
   intro y hy e0
   rcases Kr E F rs (fun r=>K (y::r))with h|⟨s,hs,h⟩
   ·exact .inl (e0.trans h)
   ·refine .inr ⟨y::s, ?_,e0.trans h⟩
    intro l h K r q
    have q:QRv.rec (motive:=fun _=>QR) (fun g=>(g l).hd fun v=>VT s l h fun vs=>K (v::vs)) (fun g ld=>ld (g l) h fun v _=>v.hd fun v=>VT s l h fun vs=>K (v::vs)) y=some r:=q
    obtain⟨v,e1,q⟩:=hy l h _ r q
    obtain⟨vs,e2,q⟩:=hs _ _ _ _ q
    exact⟨v::vs,by simp only [gz,e1,e2],q⟩
  cases x with
  | tmp t=>
   refine fin (.tmp fun l=>zN l t) ?_ ?_
   ·intro l h K r q
    simp only [KV.hd_eq]at q
    exact⟨_,rfl,q⟩
   ·have e0:pO E (.tmp t::rs) K F=Sel.rec (motive:=fun _=>S) (fun g=>pO E rs (fun r=>K (.tmp g::r)) F) (dS t):=rfl
    rw [e0,V7]
  | cell x t=>
   have e0:pO E (.cell x t::rs) K F=zb ((E.T t).ok && !(wM (E.T t).d)) (Sel.rec (motive:=fun _=>S) (fun g=>zb (E.T t).d.agg (nfc (E.T t).sz fun n=>pO E rs (fun r=>K (.cell g (ZV n)::r)) F) (pO E rs (fun r=>K (.cell g ZY::r)) F)) (dS x)) F:=rfl
   rw [za]at e0
   by_cases hc:((E.T t).ok && !(wM (E.T t).d))=true
   ·rw [if_pos hc,V7]at e0
    simp only [za,zi]at e0
    simp only [iF,Bool.not_eq_true']at hc
    have h1:(E.T t).ok=true∧(E.T t).d≠ .other:=⟨hc.1,um _ hc.2⟩
    by_cases ha:(E.T t).d.agg=true
    ·rw [if_pos ha]at e0
     refine fin (.cell (fun l=>zN l x) (ZV (E.T t).sz)) ?_ e0
     intro l h K r q
     obtain⟨v,h',e1,e2⟩:=Xu (zN l x) (E.T t).sz r q
     obtain⟨u,e3,e4⟩:=Option.map_eq_some_iff.1 e1
     simp only [Prod.mk.injEq]at e4
     obtain⟨rfl,rfl⟩:=e4
     have e2:u.hd K=some r:=e2
     rw [KV.hd_eq]at e2
     exact⟨u,by simp only [XJ,if_pos h1,ha,e3],e2⟩
    ·rw [if_neg ha]at e0
     rw [Bool.not_eq_true]at ha
     refine fin (.cell (fun l=>zN l x) ZY) ?_ e0
     intro l h K r q
     obtain⟨v,h',e1,e2⟩:=XB (zN l x) (E.T t).sz r q
     obtain⟨u,e3,e4⟩:=Option.map_eq_some_iff.1 e1
     simp only [Prod.mk.injEq]at e4
     obtain⟨rfl,rfl⟩:=e4
     have e2:u.hd K=some r:=e2
     rw [KV.hd_eq]at e2
     exact⟨u,by simp only [XJ,if_pos h1,ha,e3],e2⟩
   ·rw [if_neg hc]at e0; exact .inl e0
noncomputable def cFn (X:QX) (f:FuncId):QFn:=match X.S.F f with
 |none=> .no
 | some fn=>match fn.body with
  |none=> .no
  |some c=>nfc fn.ntmps fun n=>pO X.E fn.results.toList (fun rs=> .mk n c rs) .no
theorem eA {X:QX} {f:FuncId} {n:Nat} {c:Code} {rs:List QRv} (h:cFn X f= .mk n c rs):∃fn,X.S.F f=some fn∧fn.body=some c∧fn.ntmps=n∧Jp X.E rs fn.results.toList:=by
 unfold cFn at h
 split at h
 ·cases h
 ·rename_i fn hf
  split at h
  ·cases h
  ·rename_i c' hb
   rw [zi]at h
   rcases Kr X.E QFn.no fn.results.toList (fun rs=>QFn.mk fn.ntmps c' rs)with e|⟨s,hs,e⟩
   ·rw [e]at h; cases h
   ·rw [e]at h
    injection h with h1 h2 h3
    subst h1 h2 h3
    exact⟨fn,hf,hb,rfl,hs⟩
noncomputable def Uw (vs:List KV) (i:Nat) (s:Sl) (K:Sl→QR):QR:=List.rec (motive:=fun _=>Nat→Sl→QR) (fun _ s=>K s) (fun v _ ih i s=>Upd.rec (motive:=fun _=>QR) (fun u=>u (fun _ k=>k v) s fun s=>nfc (Nat.succ i) fun i=>ih i s) (dU i)) vs i s
theorem Zy (K:Sl→QR):∀(vs:List KV) (i:Nat) (s:Sl),Uw vs i s K=K (gU vs i s)
 | [],i,s=>rfl
 | v::vs,i,s=>by
  have e:Uw (v::vs) i s K=Upd.rec (motive:=fun _=>QR) (fun u=>u (fun _ k=>k v) s fun s=>nfc (Nat.succ i) fun i=>Uw vs i s K) (dU i):=rfl
  rw [e,GT]
  simp only [zi]
  exact Zy K vs (i+1) _
noncomputable def Dx (ts:List Tmp) (vs:List KV) (n:Nat) (s:Sl) (K:Sl→QR):QR:=
 List.rec (motive:=fun _=>List KV→Sl→QR) (fun _ s=>K s) (fun t _ ih vs s=>List.rec (motive:=fun _=>QR) (K s) (fun v vs _=>zb (Nat.blt t n) (Upd.rec (motive:=fun _=>QR) (fun u=>u (fun _ k=>k v) s fun s=>ih vs s) (dU t)) (ih vs s)) vs) ts vs s
theorem Zg (n:Nat) (ds:List KD) (K:Sl→QR):∀(ts:List Tmp) (vs:List KV) (s:Sl),Dx ts vs n s K=K (Ym ts vs ⟨n,s,ds⟩).l∧Ym ts vs ⟨n,s,ds⟩=⟨n,(Ym ts vs ⟨n,s,ds⟩).l,ds⟩
 | [],vs,s=>⟨rfl,rfl⟩
 |t::ts,[],s=>⟨rfl,rfl⟩
 | t::ts,v::vs,s=>by
  have e:Dx (t::ts) (v::vs) n s K=zb (Nat.blt t n) (Upd.rec (motive:=fun _=>QR) (fun u=>u (fun _ k=>k v) s fun s=>Dx ts vs n s K) (dU t)) (Dx ts vs n s K):=rfl
  rw [e,GT,za]
  simp only [Ym]
  have hp:(KFr.mk n s ds).put (some t) v=bif Nat.blt t n then⟨n,xp s t v,ds⟩else⟨n,s,ds⟩:=rfl
  rw [hp]
  cases hb:Nat.blt t n with
  |true=>exact Zg n ds K ts vs _
  |false=>exact Zg n ds K ts vs _
noncomputable def Wc (e:QE) (ds:List KD) (h:KH) (K:KH→QR):QR:=List.rec (motive:=fun _=>KH→QR) K
 (fun d _ ih h=>KD.rec (motive:=fun _=>QR) (fun fn cap args=>Fn.onFunc fn fun f=>dG args cap fun a=>e.calld f a h ih) (fun id=>xX h id fun o=>o.onDefd (qh h id (.defd none) ih)) d) ds h
noncomputable def Pm (X:QX) (e:QE) (f:FuncId) (args:List KV) (h:KH) (K:QK):QR:=QFn.rec (motive:=fun _=>QR) none (fun n c rs=>zb (Nat.ble args.length n) (Uw args 0 .none fun l=>qd X e true n c l [] h fun ex l ds h=>
 (fun K=>Exit.rec (motive:=fun _=>QR) K (fun _=>none) (fun _=>none) K (fun _=>none) none ex) (Wc e ds h fun h=>VT rs l h fun vs=>sb vs fun v=>K v h)) none) (cFn X f)
noncomputable def J9 (X:QX) (e:QE) (f:FuncId) (args:List KV) (h:KH) (K:KH→QR):QR:=QFn.rec (motive:=fun _=>QR) none (fun n c rs=>zb (Nat.ble args.length n) (Uw args 0 .none fun l=>qd X e true n c l [] h fun ex l ds h=>
 (fun K=>Exit.rec (motive:=fun _=>QR) K (fun _=>none) (fun _=>none) K (fun _=>none) none ex) (List.rec (motive:=fun _=>QR) (VT rs l h fun _=>K h) (fun _ _ _=>none) ds)) none) (cFn X f)
noncomputable def P3 (X:QX) (e:QE) (f:FuncId) (args:List KV) (h:KH) (K:QK):QR:=Option.rec (motive:=fun _=>QR) (Pm X e f args h K) (fun g=>Option.rec (motive:=fun _=>QR) none (fun p=>Prod.rec (motive:=fun _=>QR) (fun v h=>K v h) p) (g args h)) (X.C f)
noncomputable def mE (ex:Exit) (K:Option Code→QR):QR:=match gx ex with|some j=>K j|none=>none
noncomputable def JZ (X:QX) (e:QE) (id:Nat) (args:List KV) (h:KH) (K:QK):QR:=
 xX h id fun o=>o.onLoop fun L=>L.hd fun L=>zb (Nat.beq args.length L.params.size) (Dx L.params.toList args L.n L.l fun l=>qd X e false L.n L.assign l [] h fun ex l1 ds1 h1=>
  Exit.onN ex (xX h1 id fun o=>o.onLoop fun L1=>cR L1.state ((L1.turned .busy L1.pending).hd fun L1=>qh h1 id (.loop L1) fun h2=>qd X e false L.n L.body l1 ds1 h2 fun ex3 l3 ds3 h3=>
   mE ex3 fun j=>xX h3 id fun o=>o.onLoop fun L3=>zb j.isNone ((L3.turned .ready j).hd fun L3=>qh h3 id (.loop L3) fun h4=>K (.bool true) h4) ((L3.turned .done j).hd fun L3=>qh h3 id (.loop L3) fun h4=>K (.bool false) h4))) none) none
noncomputable def qgo (X:QX) (n:Nat):QE:=Nat.rec (motive:=fun _=>QE) ⟨fun _ _ _ _=>none,fun _ _ _ _=>none,fun _ _ _ _=>none⟩ (fun _ e=>⟨P3 X e,JZ X e,J9 X e⟩) n
section
variable {P:Program} {X:QX} {e:QE}
theorem df (he:e.ok P X):∀(ds:List KD) (h:KH) (K:KH→QR) (r:KV×KH),Wc e ds h K=some r→∃h',ko P X.S ds h h'∧K h'=some r
 | [],h,K,r,q=>⟨h, .nil,q⟩
 | d ::ds,h,K,r,q=>by
  cases d with
  | fn fn cap args=>
   have q:Fn.onFunc fn (fun f=>dG args cap fun a=>e.calld f a h fun h=>Wc e ds h K)=some r:=q
   cases fn<;>first|(cases q; done)|skip
   rename_i f
   simp only [Fn.onFunc,j3]at q
   obtain⟨h1,⟨fn,c,hf,hb⟩,k,q⟩:=he.calld _ _ _ _ _ q
   obtain⟨h2,k2,q⟩:=df he ds h1 K r q
   exact⟨h2, .fn hf hb k k2,q⟩
  | collected id=>
   have q:xX h id (fun o=>o.onDefd (qh h id (.defd none) fun h=>Wc e ds h K))=some r:=q
   rw [xo]at q
   cases hg:h.get id with
   |none=>rw [hg]at q; cases q
   | some o=>
    rw [hg]at q
    cases o<;>first|(cases q; done)|skip
    rename_i c
    cases c with
    |none=>cases q
    | some cl=>cases cl with
     |cons _ _=>cases q
     | nil=>
      simp only [Option.elim_some,KO.onDefd,uo]at q
      obtain⟨h2,k2,q⟩:=df he ds _ K r q
      exact⟨h2, .collected hg k2,q⟩
theorem tf {ex:Exit} {a:QR} {r:KV×KH} (q:(fun K=>Exit.rec (motive:=fun _=>QR) K (fun _=>none) (fun _=>none) K (fun _=>none) none ex) a=some r):(ex= .normal∨ex= .ret)∧a=some r:=by
 cases ex<;>first|exact⟨.inl rfl,q⟩|exact⟨.inr rfl,q⟩|cases q
theorem Q4 {E:KE} {h:KH} {l:Sl} {rs:Array ResultVar} {vs:List KV} (e:gz E h l rs.toList=some vs):Bw E h l rs=some (rM vs):=by
 unfold Bw
 rw [e]
 match vs with
 | []=>rfl
 | [v]=>rfl
 |v::u::r=>rfl
theorem GI (ok:X.Ok P) (he:e.ok P X) {f:FuncId} {args:List KV} {h:KH} {K:QK} {r:KV×KH} (q:Pm X e f args h K=some r):∃v h',(∃fn c,X.S.F f=some fn∧fn.body=some c)∧KCall P f args h v h'∧K v h'=some r:=by
 unfold Pm at q
 cases hc:cFn X f with
 |no=>rw [hc]at q; cases q
 | mk n c rs=>
  rw [hc]at q
  obtain⟨fn,hf,hb,hn,hrs⟩:=eA hc
  subst hn
  simp only [za,Nat.ble_eq,Zy]at q
  split at q
  ·rename_i hlen
   obtain⟨ex,l',ds',h1,q,k⟩:=kp (rd:=none) ok he rfl fn.ntmps c _ [] h _ r q
   obtain⟨hex,q⟩:=tf q
   obtain⟨h2,kl,q⟩:=df he _ _ _ _ q
   obtain⟨vs,hv,q⟩:=hrs _ _ _ _ q
   rw [fN]at q
   exact⟨_,h2,⟨fn,c,hf,hb⟩,Xm ok.E ok.S (ok.S.F hf).1 hb hlen k hex kl (Q4 hv),q⟩
  ·cases q
theorem Gx (ok:X.Ok P) (he:e.ok P X) {f:FuncId} {args:List KV} {h:KH} {K:KH→QR} {r:KV×KH} (q:J9 X e f args h K=some r):∃h',(∃fn c,X.S.F f=some fn∧fn.body=some c)∧Wy P f args h h'∧K h'=some r:=by
 unfold J9 at q
 cases hc:cFn X f with
 |no=>rw [hc]at q; cases q
 | mk n c rs=>
  rw [hc]at q
  obtain⟨fn,hf,hb,hn,hrs⟩:=eA hc
  subst hn
  simp only [za,Nat.ble_eq,Zy]at q
  split at q
  ·rename_i hlen
   obtain⟨ex,l',ds',h1,q,k⟩:=kp (rd:=none) ok he rfl fn.ntmps c _ [] h _ r q
   obtain⟨hex,q⟩:=tf q
   cases ds' with
   |cons _ _=>cases q
   | nil=>
    obtain⟨vs,hv,q⟩:=hrs _ _ _ _ q
    exact⟨h1,⟨fn,c,hf,hb⟩,Gv ok.E (ok.S.F hf).1 hb hlen k hex rfl (Q4 hv),q⟩
  ·cases q
theorem BH (ok:X.Ok P) (he:e.ok P X) {id:Nat} {args:List KV} {h:KH} {K:QK} {r:KV×KH} (q:JZ X e id args h K=some r):∃v h',eE P X.E.ng id args h v h'∧K v h'=some r:=by
 unfold JZ at q
 rw [xo]at q
 cases hL:h.get id with
 |none=>rw [hL]at q; cases q
 | some o=>
  rw [hL]at q
  cases o<;>first|(cases q; done)|skip
  rename_i L
  simp only [Option.elim_some,KO.onLoop,xh.hd_eq,za,Nat.beq_eq]at q
  split at q
  ·rename_i hlen
   rw [(Zg L.n [] _ _ _ _).1]at q
   obtain⟨ex,l1,ds1,h1,q,kA⟩:=kp (rd:=some id) ok he rfl L.n L.assign _ [] h _ r q
   rcases Exit.onN_some q with⟨rfl,q⟩|⟨_,q⟩
   ·rw [xo]at q
    cases hL1:h1.get id with
    |none=>rw [hL1]at q; cases q
    | some o=>
     rw [hL1]at q
     cases o<;>first|(cases q; done)|skip
     rename_i L1
     simp only [Option.elim_some]at q
     cases hs:L1.state<;>rw [hs]at q<;>first|(cases q; done)|skip
     simp only [cR,xh.turned_eq,uo]at q
     obtain⟨ex3,l3,ds3,h3,q,kB⟩:=kp (rd:=some id) ok he rfl L.n L.body _ _ _ _ r q
     unfold mE at q
     cases hj:gx ex3 with
     |none=>rw [hj]at q; cases q
     | some j=>
      rw [hj]at q
      simp only [xo]at q
      cases hL3:h3.get id with
      |none=>rw [hL3]at q; cases q
      | some o=>
       rw [hL3]at q
       cases o<;>first|(cases q; done)|skip
       rename_i L3
       simp only [Option.elim_some]at q
       have key:∃v h',v=KV.bool j.isNone∧h'=h3.set id (some (.loop {L3 with state:=if j.isNone then .ready else .done,pending:=j}))∧K v h'=some r:=by
        cases j with
        |none=>exact⟨_,_,rfl,rfl,q⟩
        |some c=>exact⟨_,_,rfl,rfl,q⟩
       obtain⟨v,h',rfl,rfl,q⟩:=key
       refine⟨_,_, ?_,q⟩
       intro rd o l cl fo ho hc hv ha
       subst ha
       have hfr:Ym L.params.toList (cl.args.toList.map (zg X.E.ng l)) L.fr=⟨L.n,(Ym L.params.toList (cl.args.toList.map (zg X.E.ng l)) ⟨L.n,L.l,[]⟩).l,[]⟩:=(Zg L.n [] (fun _=>none) L.params.toList (cl.args.toList.map (zg X.E.ng l)) L.l).2
       exact KDo.yield ok.E ho hc hv hL (by simpa using hlen) (by rw [hfr]; exact kA) hL1 hs kB hj hL3
   ·cases q
  ·cases q
theorem pk (ok:X.Ok P):∀n,(qgo X n).ok P X
 |0=>⟨fun _ _ _ _ _ q=>(by cases q),fun _ _ _ _ _ q=>(by cases q),fun _ _ _ _ _ q=>(by cases q)⟩
 | n + 1=>by
  have he:=pk ok n
  refine⟨fun f args h K r q=> ?_,fun id args h K r q=>BH ok he q,fun f args h K r q=>Gx ok he q⟩
  have q:P3 X (qgo X n) f args h K=some r:=q
  unfold P3 at q
  cases hc:X.C f with
  |none=>rw [hc]at q; exact GI ok he q
  | some g=>
   rw [hc]at q
   obtain⟨q1,q2⟩:=ok.C hc
   simp only at q
   cases hg:g args h with
   |none=>rw [hg]at q; cases q
   | some p=>
    obtain⟨v,h'⟩:=p
    rw [hg]at q
    exact⟨v,h',q1,q2 hg,q⟩
theorem Ur (ok:X.Ok P) {n:Nat} {f:FuncId} {args:List KV} {h h':KH} {v:KV} (q:(qgo X n).call f args h (fun v h=>some (v,h))=some (v,h')):KCall P f args h v h':=by
 obtain⟨v1,h1,_,k,e⟩:=(pk ok n).call _ _ _ _ _ q
 simp only [Option.some.injEq,Prod.mk.injEq]at e
 obtain⟨rfl,rfl⟩:=e
 exact k
end
end Go.K
end
