/- The typed Lean form of WireAnchors gives true for every list of at most 9223372036854775807 numbers and every such list of anchors. -/
import Derived.Test.YtbggpcnbbhjiaaaGreatDoorLaw5
set_option linter.unusedVariables false
set_option linter.unusedSimpArgs false
set_option linter.unnecessarySimpa false
section
set_option maxRecDepth 100000
namespace Go.Abs
open Go Go.Proofs
def lv:Bs:= [49,46,51,46,54,46,49,46,52,46,49,46,53,56,56,56,56,46,49,46,49]
theorem D4:vY lv=some [1,3,6,1,4,1,58888,1,1]:=by kernel_rfl
theorem Pq:jG [1,3,6,1,4,1,58888,1,1]=db:=by kernel_rfl
theorem lM {D:Bs→Bs×Int} (hD:∀s l,vY s=some l→D (jG l)=(s,0)):D db=(lv,0):=by
 rw [←Pq]; exact hD _ _ D4
theorem Pj {n M:Nat} {D:Bs→Bs×Int} (hD:∀c:Bs,c.length≤M→yo n c=some (D c)) {e:El} (he:e.zj.length≤M) (hM:M≤1000000) (hn:M+100≤n):∃x,xG n e=some x:=by
 unfold xG
 rw [bC (by omega) (by omega),Option.bind_some]
 have hb:=u6 e.zj he
 generalize tList e.zj=T at hb
 obtain⟨L,y⟩:=T
 simp only []at hb ⊢
 refine xX (fun _=>⟨_,rfl⟩) fun _=>xX (fun _=>⟨_,rfl⟩) fun _=>xX (fun _=>⟨_,rfl⟩) fun h=> ?_
 match L,hb,h with
 | [],_,h=>exact absurd rfl h
 | x::r,hb,_=>
  have k0:zX (x::r) 0=some x:=by simp [zX]
  rw [k0,Option.bind_some]
  refine xX (fun _=>⟨_,rfl⟩) fun _=> ?_
  rw [Option.bind_some,hD _ (hb.2 x (by simp)),Option.bind_some]
  refine xX (fun _=>⟨_,rfl⟩) fun _=> ?_
  refine kO (xX (fun _=>⟨_,rfl⟩) fun _=>⟨_,rfl⟩) fun y _=>xX (fun _=>⟨_,rfl⟩) fun _=>⟨_,rfl⟩
theorem GC {n M:Nat} {D:Bs→Bs×Int} (hD:∀c:Bs,c.length≤M→yo n c=some (D c)) (hB:∀s l,vY s=some l→D (jG l)=(s,0)) (hM:100≤M) (hn:M+100≤n):xG n (elm qP)=some 0:=by
 unfold xG
 have hc:(elm qP).zj=yh [(6,db)]:=rfl
 have hw:(yh [(6,db)]).length≤50:=by decide
 have hp:∀p∈ [((6,db):Nat×Bs)],POk p:=by
  intro p hp; rw [List.mem_singleton]at hp; subst hp; exact⟨by dsimp only; decide,by dsimp only; decide,by dsimp only; decide⟩
 rw [if_neg (show ¬((elm qP).zG !=48)=true by decide),hc,bC (by omega) (by omega),Option.bind_some,ue hp]
 have k0:zX (([((6,db):Nat×Bs)].map elm,(0:Int)):List El×Int).1 0=some (elm (6,db)):=rfl
 have hcc:(elm (6,db)).zj=db:=rfl
 rw [if_neg (by simp),if_neg (by simp),k0,Option.bind_some,if_neg (show ¬((elm (6,db)).zG !=6)=true by decide),Option.bind_some,hcc,hD _ (by show db.length≤M; have:db.length=10:=(by decide); omega),Option.bind_some,lM hB]
 rfl
theorem Po {n M:Nat} {D:Bs→Bs×Int} (hD:∀c:Bs,c.length≤M→zD n c=some (D c)) {e:El} (he:e.zj.length≤M) (hM:M≤1000000) (hn:M+100≤n):∃x,yB n e=some x:=by
 unfold yB
 rw [Vg (by omega) (by omega),Option.bind_some]
 by_cases h1:e.zG≠48
 ·rw [if_pos h1]; exact⟨_,rfl⟩
 rw [if_neg h1]
 have hb:=u6 e.zj he
 generalize tList e.zj=T at hb
 obtain⟨L,y⟩:=T
 simp only []at hb ⊢
 refine xX (fun _=>⟨_,rfl⟩) fun _=> ?_
 have hl:=hb.1
 have n0:=WK (n:=n) (t:=6) (l:=L) (i:=0) (by omega)
 rw [show((0:Nat):Int)=0 from rfl]at n0
 match L,hb,n0 with
 | [],_,n0=>rw [n0]; exact⟨_,rfl⟩
 | x::r,hb,n0=>
  simp only [List.getElem?_cons_zero]at n0
  by_cases h3:x.zG≠6
  ·rw [if_pos (show(0:Int)≤6∧x.zG≠6 from⟨by omega,h3⟩)]at n0
   rw [n0]; exact⟨_,rfl⟩
  rw [if_neg (show ¬((0:Int)≤6∧x.zG≠6)from fun h=>h3 h.2)]at n0
  rw [n0,Option.bind_some]
  simp only []
  rw [if_neg (by decide),hD _ (hb.2 x (by simp)),Option.bind_some]
  refine xX (fun _=>⟨_,rfl⟩) fun _=> ?_
  refine kO (xX (fun _=>⟨_,rfl⟩) fun _=> ?_) fun y _=>xX (fun _=>⟨_,rfl⟩) fun _=>⟨_,rfl⟩
  rw [cW]; exact⟨_,rfl⟩
theorem Gt {n M:Nat} {D:Bs→Bs×Int} (hD:∀c:Bs,c.length≤M→zD n c=some (D c)) (hB:∀s l,vY s=some l→D (jG l)=(s,0)) (hM:100≤M) (hn:M+100≤n):yB n (elm qP)=some 0:=by
 unfold yB
 have hc:(elm qP).zj=yh [(6,db)]:=rfl
 have hw:(yh [(6,db)]).length≤50:=by decide
 have hp:∀p∈ [((6,db):Nat×Bs)],POk p:=by
  intro p hp; rw [List.mem_singleton]at hp; subst hp; exact⟨by dsimp only; decide,by dsimp only; decide,by dsimp only; decide⟩
 rw [Vg (by rw [hc]; omega) (by rw [hc]; omega),Option.bind_some,if_neg (show ¬(elm qP).zG≠48 by decide),hc,ue hp]
 have n0:=WK (n:=n) (t:=6) (l:= [((6,db):Nat×Bs)].map elm) (i:=0) (by simp)
 rw [show((0:Nat):Int)=0 from rfl]at n0
 have n1:zT n 6 ⟨[((6,db):Nat×Bs)].map elm,0⟩=some (elm (6,db),0,⟨[((6,db):Nat×Bs)].map elm,1⟩):=n0
 have hcc:(elm (6,db)).zj=db:=rfl
 simp only []
 rw [if_neg (by decide),n1,Option.bind_some]
 simp only []
 rw [if_neg (by decide),hcc,hD _ (by show db.length≤M; have:db.length=10:=(by decide); omega),Option.bind_some,lM hB]
 rfl
theorem mT:∀u:Nat,u≤7→∃x,Ue .u8 1 (IntKind.wrap .u64 (IntKind.wrap .i64 (u:Int)))=some x:=by
 intro u hu
 have:=List.all_eq_true.1 (show((List.range 8).all fun u:Nat=>(Ue .u8 1 (IntKind.wrap .u64 (IntKind.wrap .i64 (u:Int)))).isSome)=true by kernel_rfl) u (by simp; omega)
 exact Option.isSome_iff_exists.1 this
theorem eL:∀u:Nat,u≤7→∃x,Ue .i64 1 (u:Int)=some x∧x≠0:=by
 intro u hu
 have:=List.all_eq_true.1 (show((List.range 8).all fun u:Nat=>(match Ue .i64 1 (u:Int)with|some x=>decide (x≠0)|none=>false))=true by kernel_rfl) u (by simp; omega)
 cases h:Ue .i64 1 (u:Int)with
 |none=>rw [h]at this; cases this
 |some x=>rw [h]at this; exact⟨x,rfl,by simpa using this⟩
theorem DL {n:Nat} {c:Bs} (hc:c.length≤1000000000):∃r,qg n c=some r:=by
 unfold qg
 match c,hc with
 | [],_=>exact⟨_,rfl⟩
 | t ::s,hc=>
  have k0:xD (t::s) 0=some ((t.toNat:Nat):Int):=rfl
  have k1:ssl (t::s) 1 ((t::s).length:Nat)=some s:=by
   have:=jc (s:=t::s) (i:=1) (j:=(t::s).length) (by simp) (by simp)
   rw [show((1:Nat):Int)=1 from rfl]at this
   rw [this]; simp
  rw [if_neg (by simp),k0,Option.bind_some,k1]
  refine kO (xX (fun _=>⟨_,rfl⟩) fun h=> ?_) fun y hy=>xX (fun _=>⟨_,rfl⟩) fun _=> ?_
  ·rw [decide_eq_true_eq]at h
   rw [Option.bind_some,Option.bind_some]
   unfold qA
   obtain⟨x,hx⟩:=mT t.toNat (by omega)
   refine kO (xX (fun _=>⟨_,rfl⟩) fun _=>kO (xX (fun hs=> ?_) fun _=>⟨_,rfl⟩) fun y _=>⟨_,rfl⟩) fun r _=>⟨_,rfl⟩
   have:0<s.length:=by
    cases s with
    |nil=>exact absurd hs (by simp)
    |cons a s=>simp
   simp only [List.length_cons]at hc
   refine kO (U5 (by rw [xT (by omega)]; omega) (by rw [xT (by omega)]; omega)) fun a _=> ?_
   rw [hx]; exact⟨_,rfl⟩
  ·rw [Option.bind_some,Option.bind_some]; exact⟨_,rfl⟩
theorem Kc {n:Nat} (s:Bs):qg n (0::s)=some (s,0,0):=by
 unfold qg
 have k0:xD (0::s) 0=some 0:=rfl
 have k1:ssl (0::s) 1 ((0::s).length:Nat)=some s:=by
  have:=jc (s:=0::s) (i:=1) (j:=(0::s).length) (by simp) (by simp)
  rw [show((1:Nat):Int)=1 from rfl]at this
  rw [this]; simp
 rw [if_neg (by simp),k0,Option.bind_some,k1,if_neg (by decide)]
 rfl
theorem D8 {a b:Int} (h:b≠0):∃x,JR a b=some x:=by
 unfold JR
 rw [if_neg h]
 exact⟨_,rfl⟩
theorem DU {n:Nat} {c:Bs} (hc:c.length≤1000000000):∃r,wu n c=some r:=by
 unfold wu
 match c,hc with
 | [],_=>exact⟨_,rfl⟩
 | t::s,hc=>
  have k0:xD (t::s) 0=some ((t.toNat:Nat):Int):=rfl
  have k1:ssl (t::s) 1 ((t::s).length:Nat)=some s:=by
   have:=jc (s:=t::s) (i:=1) (j:=(t::s).length) (by simp) (by simp)
   rw [show((1:Nat):Int)=1 from rfl]at this
   rw [this]; simp
  rw [if_neg (by rw [beq_iff_eq,List.length_cons]; omega),k0,Option.bind_some,k1]
  refine kO (xX (fun _=>⟨_,rfl⟩) fun h=> ?_) fun y hy=>xX (fun _=>⟨_,rfl⟩) fun _=> ?_
  ·rw [decide_eq_true_eq]at h
   rw [Option.bind_some]
   obtain⟨x,hx,hx0⟩:=eL t.toNat (by omega)
   refine xX (fun _=>xX (fun _=>⟨_,rfl⟩) fun _=> ?_) fun _=>⟨_,rfl⟩
   simp only [List.length_cons]at hc
   refine kO (U5 (by rw [xT (by simp only [List.length_cons]; omega)]; simp only [List.length_cons]; omega) (by rw [xT (by simp only [List.length_cons]; omega)]; omega)) fun a _=> ?_
   rw [Option.bind_some,hx,Option.bind_some]
   exact kO (D8 hx0) fun b _=>⟨_,rfl⟩
  ·rw [Option.bind_some,Option.bind_some]; exact⟨_,rfl⟩
theorem KE {n:Nat} (s:Bs):wu n (0::s)=some (s,0,0):=by
 unfold wu
 have k0:xD (0::s) 0=some 0:=rfl
 have k1:ssl (0::s) 1 ((0::s).length:Nat)=some s:=by
  have:=jc (s:=0::s) (i:=1) (j:=(0::s).length) (by simp) (by simp)
  rw [show((1:Nat):Int)=1 from rfl]at this
  rw [this]; simp
 rw [if_neg (by rw [beq_iff_eq,List.length_cons]; omega),k0,Option.bind_some,k1,if_neg (by decide)]
 rfl
theorem Bt {k:zo} (h:okK k=true) {s:Bs} (hs:s=o8 k.zq.toNat::(k.xM++k.zR)):xD s 0=some k.zq∧ssl s 1 17=some k.xM∧ssl s 17 (s.length:Nat)=some k.zR∧s.length=33:=by
 obtain⟨h1,h2,h3,h4⟩:=Yf.1 h
 have hl:s.length=33:=by rw [hs]; simp [h3,h4]
 refine⟨?_, ?_, ?_,hl⟩
 ·rw [hs]
  show some (((o8 k.zq.toNat).toNat:Nat):Int)=_
  rw [gM (by omega)]; congr 1; omega
 ·have:=jc (s:=s) (i:=1) (j:=17) (by omega) (by omega)
  rw [show((1:Nat):Int)=1 from rfl,show((17:Nat):Int)=17 from rfl]at this
  rw [this,hs,List.take_succ_cons,List.drop_succ_cons,List.drop_zero,←h3,List.take_left]
 ·have:=jc (s:=s) (i:=17) (j:=s.length) (by omega) (by omega)
  rw [show((17:Nat):Int)=17 from rfl]at this
  rw [this,List.take_length,hs,List.drop_succ_cons,←h3,List.drop_left]
theorem DA {s:Bs} (h:s.length=33):∃a b c,xD s 0=some a∧ssl s 1 17=some b∧ssl s 17 (s.length:Nat)=some c:=by
 obtain⟨a,ha⟩:=U5 (s:=s) (i:=0) (by omega) (by omega)
 obtain⟨b,hb⟩:=U4 (s:=s) (i:=1) (j:=17) (by omega) (by omega) (by omega)
 obtain⟨c,hc⟩:=U4 (s:=s) (i:=17) (j:=(s.length:Nat)) (by omega) (by omega) (by omega)
 exact⟨a,b,c,ha,hb,hc⟩
theorem D2 {n M:Nat} {D:Bs→Bs×Int} (hD:∀c:Bs,c.length≤M→yo n c=some (D c)) {b:Bs} (hb:b.length≤M) (hM:M≤1000000) (hn:M+100≤n):∃k e,w8 n b=some (k,e):=by
 have key:∃r,w8 n b=some r:=by
  unfold w8
  have ho:=Z9 b
  rw [Xm (by omega) (by omega),Option.bind_some]
  refine xX (fun _=>⟨_,rfl⟩) fun _=>xX (fun _=>⟨_,rfl⟩) fun _=> ?_
  rw [bC (by omega) (by omega),Option.bind_some]
  have hT:=u6 (vG b).1.zj (M:=M) (by omega)
  generalize tList (vG b).1.zj=T at hT ⊢
  obtain⟨L,y⟩:=T
  simp only []at hT ⊢
  refine xX (fun _=>⟨_,rfl⟩) fun _=>xX (fun _=>⟨_,rfl⟩) fun h=> ?_
  match L,hT,h with
  | [],_,h=>exact absurd rfl h
  | x ::r,hT,_=>
   have k0:zX (x::r) 0=some x:=by simp [zX]
   obtain⟨a,ha⟩:=Pj hD (hT.2 x (by simp)) hM hn
   unfold wB
   rw [k0,Option.bind_some,ha]
   simp only [Option.bind_some]
   refine xX (fun _=>⟨_,rfl⟩) fun _=> ?_
   rw [Z5,Option.bind_some]
   refine xX (fun _=>⟨_,rfl⟩) fun h=> ?_
   match r,hT,h with
   | [],_,h=>exact absurd rfl h
   | z ::s,hT,_=>
    have k1:zX (z::s) 0=some z:=by simp [zX]
    have hz:=hT.2 z (by simp)
    rw [k1,Option.bind_some]
    refine kO ?_ fun r25 _=>xX (fun _=>⟨_,rfl⟩) fun _=> ?_
    ·unfold vZ
     refine xX (fun _=>⟨_,rfl⟩) fun _=> ?_
     obtain⟨q,hq⟩:=DL (n:=n) (c:=z.zj) (by omega)
     rw [hq,Option.bind_some]
     refine xX (fun _=>⟨_,rfl⟩) fun _=> ?_
     refine kO (xX (fun _=>⟨_,rfl⟩) fun _=>⟨_,rfl⟩) fun y hy=>xX (fun _=>⟨_,rfl⟩) fun h=> ?_
     have hlen:q.1.length=33:=by
      by_cases c:(q.2.1 !=0)=true
      ·rw [if_pos c]at hy; injection hy with hy; exact absurd hy.symm h
      ·rw [if_neg c]at hy; injection hy with hy; rw [←hy]at h; rw [bne_iff_ne,ne_eq,Decidable.not_not]at h; omega
     obtain⟨u,v,w,e1,e2,e3⟩:=DA hlen
     rw [e1,Option.bind_some,e2,Option.bind_some,e3,Option.bind_some,cP]
     exact⟨_,rfl⟩
    ·rw [Z5,Option.bind_some]
     exact xX (fun _=>⟨_,rfl⟩) fun _=>⟨_,rfl⟩
 obtain⟨r,hr⟩:=key
 exact⟨r.1,r.2,hr⟩
theorem KV {n M:Nat} {D:Bs→Bs×Int} (hD:∀c:Bs,c.length≤M→yo n c=some (D c)) (hB:∀s l,vY s=some l→D (jG l)=(s,0)) (hM:100≤M) (hn:M+100≤n) {k:zo} (h:okK k=true):w8 n (tWrap (jB k).1 (jB k).2).1=some (k,0):=by
 obtain⟨hp,hw⟩:=Za k h
 have hk:=Jd h
 have hwl:=yX (jB k).1 (jB k).2
 have hc:(jB k).2=yh (pU k):=rfl
 unfold w8
 rw [Xm (by have:(jB k).2.length≤60:=hw; omega) (by omega),Option.bind_some,Yg hk.1 hk.2.1 hk.2.2]
 simp only []
 rw [if_neg (by simp),if_neg (show ¬(((jB k).1:Int) !=48)=true by show ¬(((48:Nat):Int) !=48)=true; decide),hc,bC (by omega) (by omega),Option.bind_some,ue hp]
 have e0:(pU k).map elm= [elm qP,elm (3,0::o8 k.zq.toNat::(k.xM++k.zR))]:=rfl
 rw [e0]
 simp only []
 have k0:zX [elm qP,elm (3,0::o8 k.zq.toNat::(k.xM++k.zR))] 0=some (elm qP):=rfl
 rw [if_neg (by simp),if_neg (by simp),k0,Option.bind_some]
 unfold wB
 rw [GC hD hB hM hn]
 simp only [Option.bind_some]
 rw [if_neg (by decide),Z5,Option.bind_some,if_neg (by simp)]
 have k1:zX [elm (3,0::o8 k.zq.toNat::(k.xM++k.zR))] 0=some (elm (3,0::o8 k.zq.toNat::(k.xM++k.zR))):=rfl
 rw [k1,Option.bind_some]
 unfold vZ
 have hcc:(elm (3,0::o8 k.zq.toNat::(k.xM++k.zR))).zj=0::o8 k.zq.toNat::(k.xM++k.zR):=rfl
 obtain⟨c1,c2,c3,c4⟩:=Bt h (s:=o8 k.zq.toNat::(k.xM++k.zR)) rfl
 obtain⟨g1,g2,_,_⟩:=Yf.1 h
 rw [if_neg (show ¬((elm (3,0::o8 k.zq.toNat::(k.xM++k.zR))).zG !=3)=true from by show ¬(((3:Nat):Int) !=3)=true; decide),hcc,Kc,Option.bind_some]
 simp only []
 rw [if_neg (by decide),if_neg (by decide),Option.bind_some,if_neg (by rw [c4]; decide),c1,Option.bind_some,c2,Option.bind_some,c3,Option.bind_some,xT (by omega),cP,if_pos (show okK ⟨k.zq,k.xM,k.zR⟩=true from h),Option.bind_some,Option.bind_some]
 simp only []
 rw [if_neg (by decide),Z5,Option.bind_some]
 rfl
theorem Dh {n M:Nat} {D:Bs→Bs×Int} (hD:∀c:Bs,c.length≤M→zD n c=some (D c)) {b:Bs} (hb:b.length≤M) (hM:M≤1000000) (hn:M+100≤n):∃k e,yQ n b=some (k,e):=by
 have key:∃r,yQ n b=some r:=by
  unfold yQ
  have ho:=Z9 b
  rw [Yb (by omega) (by omega),Option.bind_some]
  refine xX (fun _=>⟨_,rfl⟩) fun _=> ?_
  rw [Vg (by omega) (by omega),Option.bind_some]
  have hT:=u6 (vG b).1.zj (M:=M) (by omega)
  generalize tList (vG b).1.zj=T at hT ⊢
  obtain⟨L,y⟩:=T
  simp only []at hT ⊢
  refine xX (fun _=>⟨_,rfl⟩) fun h5=> ?_
  by_cases h1:(vG b).1.zG≠48
  ·rw [if_pos h1]at h5; exact absurd (by decide) h5
  rw [if_neg h1]
  simp only []
  have hl:=hT.1
  have n0:=WK (n:=n) (t:= -1) (l:=L) (i:=0) (by omega)
  rw [show((0:Nat):Int)=0 from rfl]at n0
  match L,hT,n0,hl with
  | [],_,n0,_=>rw [n0]; exact⟨_,rfl⟩
  | x ::r,hT,n0,hl=>
   simp only [List.getElem?_cons_zero]at n0
   rw [if_neg (show ¬((0:Int)≤ -1∧x.zG≠ -1)from fun h=>absurd h.1 (by decide))]at n0
   rw [n0,Option.bind_some]
   simp only []
   obtain⟨a,ha⟩:=Po hD (hT.2 x (by simp)) hM hn
   rw [if_neg (by decide),ha,Option.bind_some]
   refine xX (fun _=>⟨_,rfl⟩) fun _=> ?_
   have n1:=WK (n:=n) (t:=3) (l:=x::r) (i:=0+1) (by omega)
   match r,hT,n1 with
   | [],_,n1=>rw [n1]; exact⟨_,rfl⟩
   | z::s,hT,n1=>
    have hz:=hT.2 z (by simp)
    simp only [Nat.zero_add,List.getElem?_cons_succ,List.getElem?_cons_zero]at n1
    by_cases h3:z.zG≠3
    ·rw [if_pos (show(0:Int)≤3∧z.zG≠3 from⟨by omega,h3⟩)]at n1
     rw [show((0+1:Nat):Int)=((1:Nat):Int)from rfl,n1]; exact⟨_,rfl⟩
    rw [if_neg (show ¬((0:Int)≤3∧z.zG≠3)from fun h=>h3 h.2)]at n1
    rw [show((0+1:Nat):Int)=((1:Nat):Int)from rfl,n1,Option.bind_some]
    simp only []
    rw [if_neg (by decide)]
    obtain⟨q,hq⟩:=DU (n:=n) (c:=z.zj) (by omega)
    rw [hq,Option.bind_some]
    refine xX (fun _=>⟨_,rfl⟩) fun _=> ?_
    refine kO (xX (fun _=>⟨_,rfl⟩) fun _=>⟨_,rfl⟩) fun y hy=>xX (fun _=>⟨_,rfl⟩) fun h=> ?_
    have hlen:q.1.length=33:=by
     by_cases c:(q.2.1 !=0)=true
     ·rw [if_pos c]at hy; injection hy with hy; exact absurd hy.symm h
     ·rw [if_neg c]at hy; injection hy with hy; rw [←hy]at h; rw [bne_iff_ne,ne_eq,Decidable.not_not]at h; omega
    obtain⟨u,v,w,e1,e2,e3⟩:=DA hlen
    rw [e1,Option.bind_some,e2,Option.bind_some,e3,Option.bind_some,ct,Option.bind_some]
    refine xX (fun _=>⟨_,rfl⟩) fun _=> ?_
    rw [cW,Option.bind_some]
    exact xX (fun _=>⟨_,rfl⟩) fun _=>⟨_,rfl⟩
 obtain⟨r,hr⟩:=key
 exact⟨r.1,r.2,hr⟩
theorem Kq {n M:Nat} {D:Bs→Bs×Int} (hD:∀c:Bs,c.length≤M→zD n c=some (D c)) (hB:∀s l,vY s=some l→D (jG l)=(s,0)) (hM:100≤M) (hn:M+100≤n) {k:zo} (h:okK k=true):yQ n (tWrap (jB k).1 (jB k).2).1=some (k,0):=by
 obtain⟨hp,hw⟩:=Za k h
 have hk:=Jd h
 have hwl:=yX (jB k).1 (jB k).2
 have hc:(jB k).2=yh (pU k):=rfl
 unfold yQ
 rw [Yb (by have:(jB k).2.length≤60:=hw; omega) (by omega),Option.bind_some,Yg hk.1 hk.2.1 hk.2.2]
 simp only []
 rw [if_neg (by simp),Vg (by show(yh (pU k)).length+5≤n; omega) (by show(yh (pU k)).length≤_; omega),Option.bind_some,if_neg (show ¬((jB k).1:Int)≠48 from fun h=>h rfl),hc,ue hp]
 have e0:(pU k).map elm= [elm qP,elm (3,0::o8 k.zq.toNat::(k.xM++k.zR))]:=rfl
 rw [e0]
 simp only []
 have n0:zT n (-1) ⟨[elm qP,elm (3,0::o8 k.zq.toNat::(k.xM++k.zR))],0⟩=some (elm qP,0,⟨[elm qP,elm (3,0::o8 k.zq.toNat::(k.xM++k.zR))],1⟩):=WK (n:=n) (t:= -1) (l:= [elm qP,elm (3,0::o8 k.zq.toNat::(k.xM++k.zR))]) (i:=0) (by simp)
 have n1:zT n 3 ⟨[elm qP,elm (3,0::o8 k.zq.toNat::(k.xM++k.zR))],1⟩=some (elm (3,0::o8 k.zq.toNat::(k.xM++k.zR)),0,⟨[elm qP,elm (3,0::o8 k.zq.toNat::(k.xM++k.zR))],2⟩):=WK (n:=n) (t:=3) (l:= [elm qP,elm (3,0::o8 k.zq.toNat::(k.xM++k.zR))]) (i:=1) (by simp)
 have hcc:(elm (3,0::o8 k.zq.toNat::(k.xM++k.zR))).zj=0::o8 k.zq.toNat::(k.xM++k.zR):=rfl
 obtain⟨c1,c2,c3,c4⟩:=Bt h (s:=o8 k.zq.toNat::(k.xM++k.zR)) rfl
 obtain⟨g1,g2,_,_⟩:=Yf.1 h
 rw [if_neg (by decide),n0,Option.bind_some]
 simp only []
 rw [if_neg (by decide),Gt hD hB hM hn,Option.bind_some,if_neg (by decide),n1,Option.bind_some]
 simp only []
 rw [if_neg (by decide),hcc,KE,Option.bind_some]
 simp only []
 rw [if_neg (by decide),if_neg (by decide),Option.bind_some,if_neg (by rw [c4]; decide),c1,Option.bind_some,c2,Option.bind_some,c3,Option.bind_some,xT (by omega),ct,if_pos (show okK ⟨k.zq,k.xM,k.zR⟩=true from h),Option.bind_some,if_neg (by decide)]
 rfl
def fy (n M:Nat) (D:Bs→Bs×Int):Prop:=(∀c:Bs,c.length≤M→(D c).1.length≤M+252)∧∀s l,vY s=some l→D (jG l)=(s,0)
def oiP (n:Nat) (c:Bs):Bs×Int:=(yo n c).getD ([],0)
def oiR (n:Nat) (c:Bs):Bs×Int:=(zD n c).getD ([],0)
theorem D0 {n M:Nat} (hM:M≤900000) (hn:200000000≤n):(∀c:Bs,c.length≤M→yo n c=some (oiP n c))∧fy n M (oiP n):=by
 refine⟨fun c hc=> ?_,fun c hc=> ?_,fun s l h=> ?_⟩
 ·obtain⟨s,e,h,_⟩:=J7 (n:=n) (b:=c) (by omega) (by omega)
  unfold oiP; rw [h]; rfl
 ·obtain⟨s,e,h,h2⟩:=J7 (n:=n) (b:=c) (by omega) (by omega)
  unfold oiP; rw [h]; show s.length≤_; omega
 ·unfold oiP; rw [WW h (by omega)]; rfl
theorem Ve {n:Nat} {b:Bs} (hb:b.length≤2000000) (hn:42*b.length+40≤n):∃s e,zD n b=some (s,e)∧s.length≤252:=by
 unfold zD
 obtain⟨c,hc,ho,hr⟩:=W5 (n:=n) (by omega) b (by omega) n 0 0 0 [] false (by omega) (by omega) (by omega) (by omega) (by simp)
 rw [show((0:Nat):Int)=0 from rfl]at hc
 rw [hc]
 cases c with
 |ret r=>exact⟨r.1,r.2,rfl,by rw [hr r rfl]; simp⟩
 | nxt x=>
  obtain⟨o,m⟩:=x
  have hl:=ho o m rfl
  simp only [ym]
  rw [Zn (by omega) (by omega)]
  simp only [Option.bind_some,ifb]
  by_cases h:(((b.length:Int)==0)||(m|| !(vY o).isSome))=true
  ·rw [if_pos h]; exact⟨_,_,rfl,by simp⟩
  ·rw [if_neg h]
   rw [Bool.not_eq_true,Bool.or_eq_false_iff,Bool.or_eq_false_iff]at h
   exact⟨_,_,rfl,Wr (by simpa using h.2.2)⟩
theorem DQ {n M:Nat} (hM:M≤900000) (hn:200000000≤n):(∀c:Bs,c.length≤M→zD n c=some (oiR n c))∧fy n M (oiR n):=by
 refine⟨fun c hc=> ?_,fun c hc=> ?_,fun s l h=> ?_⟩
 ·obtain⟨s,e,h,_⟩:=Ve (n:=n) (b:=c) (by omega) (by omega)
  unfold oiR; rw [h]; rfl
 ·obtain⟨s,e,h,h2⟩:=Ve (n:=n) (b:=c) (by omega) (by omega)
  unfold oiR; rw [h]; show s.length≤_; omega
 ·have:=Wr (s:=s) (by rw [h]; rfl)
  unfold oiR; rw [YS h (by omega) (by omega)]; rfl
def BdW (M:Nat) (l:List El):Prop:=∀e∈l,e.wa.length≤M
theorem UW (b:Bs) {M:Nat} (h:b.length≤M):BdW M (tList b).1:=by
 obtain⟨h1,h2⟩:=pb b
 intro e he
 have:=XF e he; omega
theorem Uv {n M:Nat} {f:Bool} {l:List El} (h:BdW M l):∃e r f',ya n ⟨l,f⟩=some (e,⟨r,f'⟩)∧e.wa.length≤M∧BdW M r:=by
 match l,h with
 | [],h=>exact⟨_,_,_,Gg,by simp,h⟩
 |e::l,h=>exact⟨_,_,_,JY,h e (by simp),fun x hx=>h x (by simp [hx])⟩
theorem Jb {n:Nat} {e:Int} {m:ze}:xg n e m=some ⟨m.f_l,m.zY||e !=0⟩:=by
 unfold xg; rw [ifb]; rfl
theorem Pp (a b c:Bool):(if a=true then some true else(if b=true then some true else some c))=some (a||(b||c)):=by cases a<;>cases b<;>rfl
theorem UD {n M:Nat} (hM:M≤900000) (hn:200000000≤n) (l0:List El):∀(k:Nat) (acc:List Anc) (f:Bool) (il:List El) (fi:Bool),(∀e∈il,e.zj.length≤M)→il.length<k→acc.length+il.length≤1000000→BdL 252 acc →
  ∃acc' f' fi',yk n k acc l0 f il fi=some (acc',l0,f',[],fi')∧BdL 252 acc'
 |0,_,_,_,_,_,h,_,_=>by omega
 | k+1,acc,f,il,fi,hi,hk,hl,ha=>by
  rw [yk]
  match il,hi,hk,hl with
  | [],_,_,_=>rw [if_neg (by simp)]; exact⟨_,_,_,rfl,ha⟩
  | x::il,hi,hk,hl=>
   have hx:=hi x (by simp)
   simp only [List.length_cons]at hk hl
   obtain⟨hD,hO,hB⟩:=D0 (n:=n) hM hn
   have hw:=UW x.zj hx
   obtain⟨e1,r1,g1,q1,w1',v1⟩:=Uv (n:=n) (f:=((tList x.zj).2 !=0)||(x.zG !=48)) hw
   obtain⟨e2,r2,g2,q2,w2',v2⟩:=Uv (n:=n) (f:=g1) v1
   obtain⟨ky,ke,hky⟩:=D2 hD w2' (by omega) (by omega)
   rw [if_pos (by rw [decide_eq_true_eq,List.length_cons]; omega),JY,Option.bind_some]
   simp only []
   rw [cX (by omega) (by omega),Option.bind_some,q1,Option.bind_some,PX hD hO (by omega) (by omega) w1',Option.bind_some,Jb,Option.bind_some,q2,Option.bind_some,hky,Option.bind_some,Jb,Option.bind_some,Pp,Option.bind_some,wq (by rw [List.length_singleton]; omega),Option.bind_some]
   simp only []
   refine UD hM hn l0 k _ _ il fi (fun e he=>hi e (by simp [he])) (by omega) (by rw [List.length_append,List.length_singleton]; omega) ?_
   intro a haa
   rcases List.mem_append.1 haa with h|h
   ·exact ha a h
   ·rw [List.mem_singleton]at h; subst h; exact Vh
theorem Qc (a:Anc):(Yl a).map elm= [elm (vw a.zS.zl),elm (jB a.zJ)]:=rfl
theorem Vb {n M:Nat} (hn:200000000≤n) (l0:List El):∀(k:Nat) (l acc:List Anc),(∀a∈l,pV a)→l.length<k→acc.length+l.length≤1000000 →
  yk n k acc l0 false ((l.map ancE).map elm) false=some (acc++l.map Y3,l0,false,[],false)
 |0,_,_,_,h,_=>by omega
 |k+1,[],acc,_,_,_=>by rw [yk,List.map_nil,List.map_nil,if_neg (by simp)]; simp
 | k+1,a::l,acc,ho,hk,hl=>by
  rw [yk]
  simp only [List.length_cons]at hk hl
  have ha:=ho a (by simp)
  obtain⟨hD,hO,hB⟩:=D0 (n:=n) (M:=900000) (by omega) hn
  obtain⟨p1,p2⟩:=pd ha
  have hc:(elm (ancE a)).zj=yh (Yl a):=rfl
  have hw1:(tWrap (vw a.zS.zl).1 (vw a.zS.zl).2).1.length≤900000:=by
   have:=bP ha.1; have:=yX (vw a.zS.zl).1 (vw a.zS.zl).2; omega
  have hr1:(elm (vw a.zS.zl)).wa=(tWrap (vw a.zS.zl).1 (vw a.zS.zl).2).1:=rfl
  have hr2:(elm (jB a.zJ)).wa=(tWrap (jB a.zJ).1 (jB a.zJ).2).1:=rfl
  simp only [List.map_cons]
  rw [if_pos (by rw [decide_eq_true_eq,List.length_cons]; omega),JY,Option.bind_some]
  simp only []
  rw [cX (by rw [hc]; omega) (by rw [hc]; omega),Option.bind_some,hc,ue p1,Qc]
  simp only []
  rw [JY,Option.bind_some]
  simp only []
  rw [hr1,PX hD hO (by omega) (by omega) hw1,Option.bind_some,Xk hB ha.1,Jb,Option.bind_some,JY,Option.bind_some]
  simp only []
  rw [hr2,KV hD hB (by omega) (by omega) ha.2.2,Option.bind_some,Jb,Option.bind_some,Pp,Option.bind_some,wq (by rw [List.length_singleton]; omega),Option.bind_some]
  have hf:((false||((0:Int) !=0))||((0:Int) !=0))=false:=rfl
  have hg:((((0:Int) !=0)||((elm (ancE a)).zG !=48))||decide ((List.length ([]:List El):Int)>0))=false:=rfl
  simp only [hf,hg,Bool.false_or]
  have:=Vb (M:=M) hn l0 k l (acc ++ [Y3 a]) (fun x hx=>ho x (by simp [hx])) (by omega) (by rw [List.length_append,List.length_singleton]; omega)
  rw [List.append_assoc,List.singleton_append]at this
  exact this
theorem JM {n:Nat} (m:ze) (hm:m.f_l.length≤1000000) (hr:du m.f_l≤100000000):∀(k i:Nat) (acc:Bs),i≤m.f_l.length→m.f_l.length-i<k→acc.length+du (m.f_l.drop i)≤100000000 →
  xl n m k acc (i:Int)=some (acc++((m.f_l.drop i).map fun e=>e.wa).flatten)
 |0,i,_,_,h,_=>by omega
 | k+1,i,acc,hi,hk,ha=>by
  rw [xl]
  by_cases hc:i<m.f_l.length
  ·have hd:=UJ hc
   rw [if_pos (by rw [decide_eq_true_eq]; omega),ye hc,Option.bind_some,yC (by omega),Option.bind_some,w1 (by omega),JM m hm hr k (i+1) _ (by omega) (by omega) (by rw [List.length_append]; omega),List.drop_eq_getElem_cons hc,List.map_cons,List.flatten_cons,List.append_assoc]
  ·rw [if_neg (by rw [decide_eq_true_eq]; omega),List.drop_eq_nil_of_le (by omega)]
   simp
theorem Ur:∀l:List El,((l.map fun e=>e.wa).flatten).length=du l
 | []=>rfl
 |e::l=>by rw [List.map_cons,List.flatten_cons,List.length_append,Ur l]; simp [du]
theorem eM {n M:Nat} {b:Bs} (hb:b.length≤M) (hM:M≤900000) (hn:200000000≤n) (f:Bool):∃l r,vy n ⟨(tList b).1,f⟩=some (l,r)∧BdL 252 l∧(∀v:List Anc,(∀a∈v,pV a)→b=yh (v.map ancE)→f=false→l=v.map Y3∧r.zY=false):=by
 unfold vy
 have hT:=u6 b hb
 have hl:=hT.1
 obtain⟨hr,_⟩:=pb b
 have e1:=JM (n:=n) ⟨(tList b).1,f⟩ (by show(tList b).1.length≤_; omega) (by show du (tList b).1≤_; omega) n 0 [] (by omega) (by show(tList b).1.length-0<n; omega) (by simp only [List.drop_zero,List.length_nil]; omega)
 rw [show((0:Nat):Int)=0 from rfl,List.drop_zero,List.nil_append]at e1
 rw [e1,Option.bind_some]
 have hfl:=Ur (tList b).1
 generalize hc:(List.map (fun e=>e.wa) (tList b).1).flatten=c at hfl
 unfold ua uw
 rw [bC (by omega) (by omega),Option.bind_some,Option.bind_some]
 simp only []
 have hC:=u6 c (M:=M) (by omega)
 have hCl:=hC.1
 obtain⟨acc',f',fi',h1,h2⟩:=UD hM hn [] n [] f (tList c).1 ((tList c).2 !=0) hC.2 (by omega) (by simp only [List.length_nil]; omega) (by intro a ha; simp at ha)
 rw [h1,Option.bind_some,ifb,Option.bind_some,Option.bind_some]
 refine⟨_,_,rfl,h2,fun v hv hbv hf=> ?_⟩
 have hp:∀p∈v.map ancE,POk p:=by
  intro p hp; obtain⟨a,ha,rfl⟩:=List.mem_map.1 hp; exact Jp (hv a ha)
 have ht:tList b=((v.map ancE).map elm,0):=by rw [hbv,ue hp]
 have hcb:c=b:=by
  rw [←hc,ht,hbv]
  unfold yh; rw [List.map_map]; rfl
 have hvl:v.length≤M:=by have:=hl; rw [ht,List.length_map,List.length_map]at this; exact this
 have hback:=Vb (M:=M) (n:=n) hn [] n v [] hv (by omega) (by simp only [List.length_nil]; omega)
 rw [hcb,ht,hf]at h1
 have hz:((0:Int) !=0)=false:=rfl
 simp only [hz]at h1
 rw [hback,List.nil_append]at h1
 injection h1 with h1; injection h1 with h1 h1'; injection h1' with _ h1'; injection h1' with h3 h4; injection h4 with _ h4
 subst h1 h3 h4
 exact⟨rfl,rfl⟩
theorem UG {v:List Anc} {b:Bs} (h:qW v=(b,0)):vG b=(⟨48,yh (v.map ancE),b⟩,0):=by
 obtain⟨g1,g2,g3,g4⟩:=ZZ h
 have:=Yg (t:=48) (c:=yh (v.map ancE)) (by omega) (by omega) g3
 rw [g4,this]; rfl
theorem lp {n:Nat} {b:Bs} {x:Int} (hb:b.length≤900000) (hn:200000000≤n) (hx:jz n b=some x):
  (x≠0→wx n b=some ([],x))∧(x=0→(vG b).2=0→∃r,wx n b=some r∧(∀v,qW v=(b,0)→r=(v.map Y3,0))∧(r=([],7)∨qW r.1=(b,0)∧r.2=0)):=by
 unfold wx wH
 rw [hx,Option.bind_some]
 refine⟨fun h=>by rw [if_pos (by simpa using h)]; rfl,fun h h0=> ?_⟩
 subst h
 rw [if_neg (by simp),Xm (by omega) (by omega),Option.bind_some,if_neg (by rw [h0]; simp)]
 have hbd:=Z9 b
 rw [cX (by omega) (by omega),Option.bind_some]
 obtain⟨v',r,h1,h2,h3⟩:=eM (n:=n) (M:=b.length) hbd hb hn (((tList (vG b).1.zj).2 !=0)||((vG b).1.zG !=48))
 rw [h1,Option.bind_some]
 have hback:∀v,qW v=(b,0)→v'=v.map Y3∧r.zY=false:=by
  intro v hv
  obtain⟨g1,g2,g3,g4⟩:=ZZ hv
  have ho:=UG hv
  have hp:∀p∈v.map ancE,POk p:=by
   intro p hp; obtain⟨a,ha,rfl⟩:=List.mem_map.1 hp; exact Jp (g2 a ha)
  refine h3 v g2 (by rw [ho]) ?_
  rw [ho]
  simp only []
  rw [ue hp]; rfl
 simp only []
 by_cases hf:r.zY=true
 ·rw [if_pos hf]
  exact⟨_,rfl,(fun v hv=>by have:=(hback v hv).2; rw [hf]at this; exact absurd this (by simp)), .inl rfl⟩
 ·rw [if_neg hf,Kg h2 (by omega) (by omega),Option.bind_some,ifb,Option.bind_some]
  by_cases hq:qW v'=(b,0)
  ·rw [hq,if_neg (by simp)]
   exact⟨_,rfl,(fun v hv=>by rw [←(hback v hv).1]), .inr ⟨hq,rfl⟩⟩
  ·have:(((qW v').2 !=0)|| !((qW v').1==b))=true:=by
    rw [Bool.or_eq_true,bne_iff_ne,Bool.not_eq_true',beq_eq_false_iff_ne]
    by_cases h7:(qW v').2=0
    ·exact .inr (fun h8=>hq (Prod.ext h8 h7))
    ·exact .inl h7
   rw [if_pos this]
   exact⟨_,rfl,(fun v hv=>by have:=(hback v hv).1; subst this; exact absurd (Uz hv) hq), .inl rfl⟩
theorem UT {n M:Nat} {t:Int} {l:List El} {i:Nat} {bad:Bool} (hl:l.length≤1000000) (hb:BdW M l) (hi:i≤l.length):∃e j bad',yx n t ⟨l,(i:Int),bad⟩=some (e,⟨l,((j:Nat):Int),bad'⟩)∧j≤l.length∧e.wa.length≤M:=by
 unfold yx
 by_cases h:bad=true∨l.length≤i∨∃e,l[i]? =some e∧e.zG≠t
 ·rw [PO h,Option.bind_some]
  simp only [ifb,Option.bind_some]
  exact⟨_,i,_,rfl,hi,by simp⟩
 ·have h1:bad=false:=by cases bad; rfl; exact absurd (.inl rfl) h
  subst h1
  have hi2:i<l.length:=by
   apply Decidable.byContradiction; intro hc; exact h (.inr (.inl (by omega)))
  have hx:l[i]? =some l[i]:=List.getElem?_eq_getElem hi2
  have ht:l[i].zG=t:=by
   apply Decidable.byContradiction; intro hc; exact h (.inr (.inr ⟨_,hx,hc⟩))
  rw [eK (by omega) hx ht,Option.bind_some]
  simp only [ifb,Option.bind_some]
  exact⟨_,i+1,_,rfl,by omega,hb _ (List.getElem_mem hi2)⟩
theorem fe (a b c d:Bool):(if a=true then some true else(if b=true then some true else(if c=true then some true else some d)))=some (a||(b||(c||d))):=by cases a<;>cases b<;>cases c<;>rfl
theorem Un {n M:Nat} (hM:M≤900000) (hn:200000000≤n) (a:List El) (hb:Bd M a):∀(k i:Nat) (acc:List Anc) (bad:Bool),i≤a.length→a.length-i<k→acc.length≤i→BdL 252 acc →
  ∃acc' bad',zV n a k acc (i:Int) bad=some (acc',bad')∧BdL 252 acc'
 |0,_,_,_,_,h,_,_=>by omega
 | k+1,i,acc,bad,hi,hk,hl,ha=>by
  have hal:=hb.1
  rw [zV]
  by_cases hc:i<a.length
  ·have hx:=hb.2 _ (List.getElem_mem hc)
   obtain⟨hD,hO,hB⟩:=DQ (n:=n) hM hn
   have hw:=UW a[i].zj hx
   have hT:=u6 a[i].zj hx
   have hTl:=hT.1
   obtain⟨e1,j1,b1,q1,k1,w1'⟩:=UT (n:=n) (t:=48) (i:=0) (bad:=(a[i].zG !=48)||((tList a[i].zj).2 !=0)) (by omega) hw (by omega)
   rw [show((0:Nat):Int)=0 from rfl]at q1
   obtain⟨e2,j2,b2,q2,k2,w2'⟩:=UT (n:=n) (t:=48) (bad:=b1) (by omega) hw k1
   obtain⟨ky,ke,hky⟩:=Dh hD w2' (by omega) (by omega)
   rw [if_pos (by rw [decide_eq_true_eq]; omega),ye hc,Option.bind_some,DH (by omega) (by omega),Option.bind_some,q1,Option.bind_some]
   simp only []
   rw [cd hD hO (by omega) (by omega) w1',Option.bind_some,q2,Option.bind_some]
   simp only []
   rw [hky,Option.bind_some,fe,Option.bind_some,wq (by rw [List.length_singleton]; omega),Option.bind_some,w1 (by omega)]
   refine Un hM hn a hb k (i+1) _ _ (by omega) (by omega) (by rw [List.length_append,List.length_singleton]; omega) ?_
   intro y hy
   rcases List.mem_append.1 hy with h|h
   ·exact ha y h
   ·rw [List.mem_singleton]at h; subst h; exact Vh
  ·rw [if_neg (by rw [decide_eq_true_eq]; omega)]
   exact⟨_,_,rfl,ha⟩
theorem VF {n:Nat} (hn:200000000≤n) (v:List Anc) (hv:∀a∈v,pV a) (hvl:v.length≤1000000):∀(k i:Nat) (acc:List Anc),i≤v.length→v.length-i<k→acc.length≤i →
  zV n ((v.map ancE).map elm) k acc (i:Int) false=some (acc++(v.drop i).map Y3,false)
 |0,_,_,_,h,_=>by omega
 | k + 1,i,acc,hi,hk,hl=>by
  rw [zV]
  have hlen:((v.map ancE).map elm).length=v.length:=by rw [List.length_map,List.length_map]
  rw [hlen]
  by_cases hc:i<v.length
  ·have ha:=hv _ (List.getElem_mem hc)
   have hx:zX ((v.map ancE).map elm) (i:Int)=some (elm (ancE v[i])):=by rw [ye (by rw [hlen]; omega)]; simp
   obtain⟨hD,hO,hB⟩:=DQ (n:=n) (M:=900000) (by omega) hn
   obtain⟨p1,p2⟩:=pd ha
   have hcc:(elm (ancE v[i])).zj=yh (Yl v[i]):=rfl
   have hw1:(tWrap (vw v[i].zS.zl).1 (vw v[i].zS.zl).2).1.length≤900000:=by
    have:=bP ha.1; have:=yX (vw v[i].zS.zl).1 (vw v[i].zS.zl).2; omega
   have hr1:(elm (vw v[i].zS.zl)).wa=(tWrap (vw v[i].zS.zl).1 (vw v[i].zS.zl).2).1:=rfl
   have hr2:(elm (jB v[i].zJ)).wa=(tWrap (jB v[i].zJ).1 (jB v[i].zJ).2).1:=rfl
   have hfl:((elm (ancE v[i])).zG !=48||((0:Int) !=0))=false:=rfl
   have q1:=P1 (n:=n) (t:=48) (l:= [elm (vw v[i].zS.zl),elm (jB v[i].zJ)]) (i:=0) (by simp) rfl rfl
   have q2:=P1 (n:=n) (t:=48) (l:= [elm (vw v[i].zS.zl),elm (jB v[i].zJ)]) (i:=0+1) (by simp) rfl rfl
   rw [show((0:Nat):Int)=0 from rfl]at q1
   rw [if_pos (by rw [decide_eq_true_eq]; omega),hx,Option.bind_some,DH (by rw [hcc]; omega) (by rw [hcc]; omega),Option.bind_some,hcc,ue p1,Qc]
   simp only [hfl]
   rw [q1,Option.bind_some]
   simp only []
   rw [hr1,cd hD hO (by omega) (by omega) hw1,Option.bind_some,Xk hB ha.1,q2,Option.bind_some]
   simp only []
   rw [hr2,Kq hD hB (by omega) (by omega) ha.2.2,Option.bind_some,fe,Option.bind_some,wq (by rw [List.length_singleton]; omega),Option.bind_some,w1 (by omega)]
   have hf:(false||(false||(((0:Int) !=0)||((0:Int) !=0))))=false:=rfl
   simp only [hf]
   have:=VF hn v hv hvl k (i+1) (acc ++ [Y3 v[i]]) (by omega) (by omega) (by rw [List.length_append,List.length_singleton]; omega)
   rw [List.append_assoc,List.singleton_append]at this
   rw [List.drop_eq_getElem_cons hc,List.map_cons]
   exact this
  ·rw [if_neg (by rw [decide_eq_true_eq]; omega),List.drop_eq_nil_of_le (by omega)]
   simp
theorem eG {n:Nat} {b:Bs} {x:Int} (hb:b.length≤900000) (hn:200000000≤n) (hx:wR n b=some x):
  (x≠0→yF n b=some ([],x))∧(x=0→(vG b).2=0→∃r,yF n b=some r∧(∀v,qW v=(b,0)→r=(v.map Y3,0))∧(r=([],7)∨qW r.1=(b,0)∧r.2=0)):=by
 unfold yF u7
 rw [hx,Option.bind_some]
 refine⟨fun h=>by rw [if_pos (by simpa using h),Option.bind_some,if_pos (by simpa using h)],fun h h0=> ?_⟩
 subst h
 rw [if_neg (by simp),Yb (by omega) (by omega),Option.bind_some,Option.bind_some,if_neg (by rw [h0]; simp)]
 have hbd:=Z9 b
 simp only []
 rw [DH (by omega) (by omega),Option.bind_some]
 have hT:=u6 (vG b).1.zj hbd
 have hTl:=hT.1
 unfold wG
 simp only []
 obtain⟨v',bad',h1,h2⟩:=Un (n:=n) (M:=b.length) hb hn (tList (vG b).1.zj).1 hT n 0 [] ((vG b).1.zG !=48||((tList (vG b).1.zj).2 !=0)) (by omega) (by omega) (by simp) (by intro a ha; simp at ha)
 rw [show((0:Nat):Int)=0 from rfl]at h1
 rw [h1,Option.bind_some,Option.bind_some]
 simp only []
 have hback:∀v,qW v=(b,0)→v'=v.map Y3∧bad'=false:=by
  intro v hv
  obtain⟨g1,g2,g3,g4⟩:=ZZ hv
  have ho:=UG hv
  have hp:∀p∈v.map ancE,POk p:=by
   intro p hp; obtain⟨a,ha,rfl⟩:=List.mem_map.1 hp; exact Jp (g2 a ha)
  have hr:=VF (n:=n) hn v g2 (by omega) n 0 [] (by omega) (by omega) (by simp)
  rw [show((0:Nat):Int)=0 from rfl,List.drop_zero,List.nil_append]at hr
  rw [ho]at h1
  simp only []at h1
  rw [ue hp]at h1
  have hf:((48:Int) !=48||((0:Int) !=0))=false:=rfl
  simp only [hf]at h1
  rw [hr]at h1
  injection h1 with h1; injection h1 with h1 h1'
  exact⟨h1.symm,h1'.symm⟩
 rw [Ku h2 (by omega) (by omega),Option.bind_some,Pp,Option.bind_some]
 by_cases hf:bad'=true
 ·rw [hf,Bool.true_or,if_pos rfl]
  exact⟨_,rfl,(fun v hv=>by have:=(hback v hv).2; rw [hf]at this; exact absurd this (by simp)), .inl rfl⟩
 ·rw [Bool.not_eq_true]at hf
  rw [hf,Bool.false_or]
  by_cases hq:qW v'=(b,0)
  ·rw [hq,if_neg (by simp)]
   exact⟨_,rfl,(fun v hv=>by rw [←(hback v hv).1]), .inr ⟨hq,rfl⟩⟩
  ·have:(((qW v').2 !=0)|| !((qW v').1==b))=true:=by
    rw [Bool.or_eq_true,bne_iff_ne,Bool.not_eq_true',beq_eq_false_iff_ne]
    by_cases h7:(qW v').2=0
    ·exact .inr (fun h8=>hq (Prod.ext h8 h7))
    ·exact .inl h7
   rw [if_pos this]
   exact⟨_,rfl,(fun v hv=>by have:=(hback v hv).1; subst this; exact absurd (Uz hv) hq), .inl rfl⟩
theorem Px {n:Nat} {b:Bs} (hb:b.length≤900000) (hn:200000000≤n):∃r,wx n b=some r∧yF n b=some r∧r.1.length≤64∧∀a∈r.1,pV a:=by
 obtain⟨x,h1,h2,h3⟩:=Ds (n:=n) (b:=b) (by omega) (by omega)
 obtain⟨p1,p2⟩:=lp hb hn h1
 obtain⟨r1,r2⟩:=eG hb hn h2
 by_cases hx:x=0
 ·obtain ⟨p,e1,e2,e3⟩:=p2 hx (h3 hx)
  obtain⟨r,q1,q2,q3⟩:=r2 hx (h3 hx)
  rcases e3 with e3|⟨e3,e4⟩
  ·rcases q3 with q3|⟨q3,q4⟩
   ·exact⟨p,e1,by rw [q1,q3,e3],by rw [e3]; exact Nat.zero_le _,by rw [e3]; intro a ha; simp at ha⟩
   ·have:=e2 _ q3; rw [e3]at this; cases(Prod.mk.inj this).2
  ·have hq:=q2 _ e3
   have hp:=e2 _ e3
   obtain⟨g1,g2,g3,g4⟩:=ZZ e3
   exact⟨p,e1,by rw [q1,hq,←hp],g1,g2⟩
 ·exact⟨_,p1 hx,r1 hx,Nat.zero_le _,by intro a ha; simp at ha⟩
theorem QA {n:Nat} (x:List Att) (a:Att) (hx:x.length≤1000000):∀(k i:Nat) (f:Bool),i≤x.length→x.length-i<k→(f=true∨a∈x.drop i)→yU n x a k f (i:Int)=some true
 |0,i,_,_,h,_=>by omega
 | k + 1,i,f,hi,hk,hf=>by
  rw [yU]
  by_cases hc:i<x.length
  ·rw [if_pos (by rw [decide_eq_true_eq]; omega),ye hc,Option.bind_some,ifb,Option.bind_some,w1 (by omega)]
   refine QA x a hx k (i+1) _ (by omega) (by omega) ?_
   rcases hf with hf|hf
   ·left; rw [hf]; rfl
   ·rw [List.drop_eq_getElem_cons hc]at hf
    rcases List.mem_cons.1 hf with hf|hf
    ·left; rw [←hf]; simp
    ·exact .inr hf
  ·rw [if_neg (by rw [decide_eq_true_eq]; omega)]
   rcases hf with hf|hf
   ·rw [hf]
   ·rw [List.drop_eq_nil_of_le (by omega)]at hf; simp at hf
theorem J5 {n:Nat} (l:List (List Att)) (j:Nat) (hj:j<l.length) (hx:l[j].length≤1000000) (hn:2000000≤n):∀(k i:Nat),i≤l[j].length→l[j].length-i<k→yS n l[j] ⟨l⟩ (j:Int) k (i:Int)=some (.nxt ())
 |0,i,_,h=>by omega
 | k+1,i,hi,hk=>by
  rw [yS]
  by_cases hc:i<l[j].length
  ·have e:=QA (n:=n) l[j] (l[j])[i] hx n 0 false (by omega) (by omega) (.inr (by rw [List.drop_zero]; exact List.getElem_mem hc))
   rw [show((0:Nat):Int)=0 from rfl]at e
   rw [if_pos (by rw [decide_eq_true_eq]; omega),ye hc,Option.bind_some]
   simp only [ye hj,Option.bind_some]
   rw [e,Option.bind_some,if_neg (by simp),w1 (by omega)]
   exact J5 l j hj hx hn k (i+1) (by omega) (by omega)
  ·rw [if_neg (by rw [decide_eq_true_eq]; omega)]
theorem QC {n:Nat} (l:List (List Att)) (hx:∀r∈l,r.length≤1000000) (hl:l.length≤1000000) (hn:2000000≤n):∀(k i:Nat),i≤l.length→l.length-i<k→yT n ⟨l⟩ ⟨l⟩ k (i:Int)=some (.nxt ())
 |0,i,_,h=>by omega
 | k+1,i,hi,hk=>by
  rw [yT]
  by_cases hc:i<l.length
  ·have h1:=hx _ (List.getElem_mem hc)
   have e:=J5 (n:=n) l i hc h1 hn n 0 (by omega) (by omega)
   rw [show((0:Nat):Int)=0 from rfl]at e
   rw [if_pos (by rw [decide_eq_true_eq]; show(i:Int)<(l.length:Int); omega)]
   simp only [ye hc,Option.bind_some]
   rw [if_neg (by simp),e]
   simp only [ym]
   rw [w1 (by omega)]
   exact QC l hx hl hn k (i+1) (by omega) (by omega)
  ·rw [if_neg (by rw [decide_eq_true_eq]; show ¬(i:Int)<(l.length:Int); omega)]
theorem Ui {n:Nat} {l:List (List Att)} (h:okN l) (hn:2000000≤n):w3 n ⟨l⟩ ⟨l⟩=some true:=by
 unfold w3
 have h1:=h.1
 have e:=QC (n:=n) l (fun r hr=>by have:=(h.2 r hr).2.1; omega) (by omega) hn n 0 (by omega) (by omega)
 rw [show((0:Nat):Int)=0 from rfl]at e
 rw [if_neg (by simp),e]; rfl
theorem QI {n:Nat} (l:List Anc) (h:∀a∈l,pV a) (hl:l.length≤64) (hn:2000000≤n):∀(k i:Nat),i≤l.length→l.length-i<k→yz n l l k (i:Int)=some (.nxt ())
 |0,i,_,h=>by omega
 | k+1,i,hi,hk=>by
  rw [yz]
  by_cases hc:i<l.length
  ·rw [if_pos (by rw [decide_eq_true_eq]; omega)]
   simp only [ye hc,Option.bind_some]
   rw [if_neg (by simp),Ui (h _ (List.getElem_mem hc)).1 hn,Option.bind_some,Option.bind_some,if_neg (by simp),w1 (by omega)]
   exact QI l h hl hn k (i+1) (by omega) (by omega)
  ·rw [if_neg (by rw [decide_eq_true_eq]; omega)]
theorem KK {n:Nat} {l:List Anc} (h:∀a∈l,pV a) (hl:l.length≤64) (hn:2000000≤n):wm n l l=some true:=by
 unfold wm
 have e:=QI (n:=n) l h hl hn n 0 (by omega) (by omega)
 rw [show((0:Nat):Int)=0 from rfl]at e
 rw [if_neg (by simp),e]; rfl
def VX (m j:Nat):Bool:=(List.range 5).all fun r:Nat=>match vu (m+1000) ((5*j+r:Nat):Int)with|some s=>decide (s.length=32)|none=>false
theorem sd0 (m:Nat):VX m 0=true:=by kernel_rfl
theorem sd1 (m:Nat):VX m 1=true:=by kernel_rfl
theorem sd2 (m:Nat):VX m 2=true:=by kernel_rfl
theorem sd3 (m:Nat):VX m 3=true:=by kernel_rfl
theorem sd4 (m:Nat):VX m 4=true:=by kernel_rfl
theorem sd5 (m:Nat):VX m 5=true:=by kernel_rfl
theorem sd6 (m:Nat):VX m 6=true:=by kernel_rfl
theorem sd7 (m:Nat):VX m 7=true:=by kernel_rfl
theorem sd8 (m:Nat):VX m 8=true:=by kernel_rfl
theorem sd9 (m:Nat):VX m 9=true:=by kernel_rfl
theorem l7 (m:Nat):∀j,j<10→VX m j=true
 |0,_=>sd0 m|1,_=>sd1 m|2,_=>sd2 m|3,_=>sd3 m|4,_=>sd4 m|5,_=>sd5 m|6,_=>sd6 m|7,_=>sd7 m|8,_=>sd8 m|9,_=>sd9 m
 |j+10,h=>by omega
theorem c9 (m:Nat):wV (m+1000)=some true:=by kernel_rfl
theorem PS {n:Nat} {r:Int} (hn:1000≤n) (h0:0≤r) (h1:r<50):∃s,vu n r=some s∧s.length=32:=by
 obtain⟨m,rfl⟩:∃m,n=m+1000:=⟨n-1000,by omega⟩
 have h:=List.all_eq_true.1 (l7 m (r.toNat/5) (by omega)) (r.toNat%5) (by rw [List.mem_range]; omega)
 have e:((5*(r.toNat/5)+r.toNat%5:Nat):Int)=r:=by omega
 rw [e]at h
 cases hs:vu (m+1000) r with
 |none=>rw [hs]at h; cases h
 |some s=>rw [hs]at h; exact⟨s,rfl,by simpa using h⟩
theorem cB {n:Nat} {d:zi} (hn:1000≤n) (hd:vq d):∃k d',u1 n d=some (k,d')∧vq d':=by
 unfold u1
 obtain⟨r,d1,e1,a1,b1,k1⟩:=jx (n:=n) (k:=50) (by decide) (by decide) hd
 obtain⟨s,e2,l2⟩:=PS (n:=n) hn a1 b1
 obtain⟨x,e3⟩:=U4 (s:=s) (i:=0) (j:=16) (by omega) (by omega) (by omega)
 obtain⟨y,e4⟩:=U4 (s:=s) (i:=16) (j:=(s.length:Nat)) (by omega) (by omega) (by omega)
 obtain⟨q,d2,e5,a5,b5,k5⟩:=jx (n:=n) (k:=9) (by decide) (by decide) k1
 rw [e1,Option.bind_some]; simp only []
 rw [e2,Option.bind_some,e3,Option.bind_some,e4,Option.bind_some,e5]
 exact⟨_,_,rfl,k5⟩
def bdN (B:Nat) (l:List (List Att)):Bool:=decide (l.length≤B)&&l.all fun r=>decide (r.length≤B)&&r.all fun a=>decide (a.yA.length≤B)&&decide (a.xo.length≤B)
theorem cu {B:Nat} {l:List (List Att)} (h:bdN B l=true):BdN B l:=by
 simp only [bdN,Bool.and_eq_true,decide_eq_true_eq,List.all_eq_true]at h
 exact⟨h.1,fun r hr=>⟨(h.2 r hr).1,fun a ha=>(h.2 r hr).2 a ha⟩⟩
theorem Jx {n:Nat} {r:Int} (hn:1000≤n) (h0:0≤r) (h1:r<16):∃x,wd n r=some x∧BdN 252 x.zl:=by
 obtain⟨m,rfl⟩:∃m,n=m+1000:=⟨n-1000,by omega⟩
 have h:=List.all_eq_true.1 (show((List.range 16).all fun r:Nat=>match wd (m+1000) (r:Int)with|some x=>bdN 252 x.zl|none=>false)=true by kernel_rfl) r.toNat (by rw [List.mem_range]; omega)
 rw [show((r.toNat:Nat):Int)=r by omega]at h
 cases hs:wd (m+1000) r with
 |none=>rw [hs]at h; cases h
 |some x=>rw [hs]at h; exact⟨x,rfl,cu h⟩
theorem Ph {n:Nat} {d:zi} (hd:vq d):∃a d',w4 n d=some (a,d')∧BdA 252 a∧vq d':=by
 unfold w4
 obtain⟨r,d1,e1,a1,b1,k1⟩:=jx (n:=n) (k:=12) (by decide) (by decide) hd
 rw [e1,Option.bind_some]; simp only []
 obtain⟨m,rfl⟩:∃m:Nat,r=(m:Int):=⟨r.toNat,by omega⟩
 have hm:m<12:=by omega
 match m,hm with
 |0,_|1,_|2,_|3,_|4,_|5,_|6,_|7,_|8,_|9,_|10,_|11,_=>exact⟨_,_,rfl,⟨by decide,by decide⟩,k1⟩
 |j+12,h=>omega
theorem JB {n:Nat}:∀(j k:Nat) (acc:List Att) (L:List Int) (At:Int),j<k→acc.length+j≤100→(∀a∈acc,BdA 252 a)→vq ⟨L,At⟩ →
  ∃acc' L' At',xx n k acc (j:Int) L At=some (acc',L',At')∧acc'.length≤acc.length+j∧(∀a∈acc',BdA 252 a)∧vq ⟨L',At'⟩
 |j,0,_,_,_,h,_,_,_=>by omega
 | 0,k+1,acc,L,At,_,_,ha,hd=>by
  rw [xx,if_neg (by decide)]
  exact⟨_,_,_,rfl,by omega,ha,hd⟩
 | j + 1,k+1,acc,L,At,hk,hl,ha,hd=>by
  rw [xx,if_pos (by rw [decide_eq_true_eq]; omega)]
  obtain⟨a,d1,e1,b1,k1⟩:=Ph (n:=n) hd
  have ew:IntKind.wrap .i64 (((j+1:Nat):Int)-1)=(j:Int):=by rw [xT (by omega)]; omega
  have key:∃c,(if((List.length acc:Int)==0)=true then(some true)else((zX acc 0).bind fun x2478=>some (!(x2478.yA==a.yA))))=some c:=by
   refine xX (fun _=>⟨_,rfl⟩) fun h=> ?_
   obtain⟨x,hx⟩:=Pb (s:=acc) (i:=0) (by omega) (by rw [beq_iff_eq]at h; omega)
   rw [hx]; exact⟨_,rfl⟩
  obtain⟨c,hc⟩:=key
  rw [e1,Option.bind_some]; simp only []
  rw [hc,Option.bind_some,ew]
  cases c with
  | true=>
   rw [if_pos rfl,wq (by rw [List.length_singleton]; omega),Option.bind_some,Option.bind_some]
   obtain ⟨acc',L',At',g1,g2,g3,g4⟩:=JB (n:=n) j k (acc ++ [a]) d1.f_L d1.yN (by omega) (by rw [List.length_append,List.length_singleton]; omega) (by
    intro y hy; rcases List.mem_append.1 hy with h|h
    ·exact ha y h
    ·rw [List.mem_singleton]at h; subst h; exact b1) k1
   exact⟨acc',L',At',g1,by rw [List.length_append,List.length_singleton]at g2; omega,g3,g4⟩
  | false=>
   rw [if_neg (by simp),Option.bind_some]
   obtain⟨acc',L',At',g1,g2,g3,g4⟩:=JB (n:=n) j k acc d1.f_L d1.yN (by omega) (by omega) ha k1
   exact⟨acc',L',At',g1,by omega,g3,g4⟩
theorem B6 {n:Nat} (hn:1000≤n):∀(j k:Nat) (acc:List (List Att)) (L:List Int) (At:Int),j<k→acc.length+j≤100→(∀r∈acc,BdR 252 r)→vq ⟨L,At⟩ →
  ∃acc' L' At',xu n k (j:Int) L At acc=some (L',At',acc')∧acc'.length≤acc.length+j∧(∀r∈acc',BdR 252 r)∧vq ⟨L',At'⟩
 |j,0,_,_,_,h,_,_,_=>by omega
 | 0,k+1,acc,L,At,_,_,ha,hd=>by
  rw [xu,if_neg (by decide)]
  exact⟨_,_,_,rfl,by omega,ha,hd⟩
 | j+1,k+1,acc,L,At,hk,hl,ha,hd=>by
  rw [xu,if_pos (by rw [decide_eq_true_eq]; omega)]
  obtain⟨r,d1,e1,a1,b1,k1⟩:=jx (n:=n) (k:=5) (by decide) (by decide) hd
  have ew:IntKind.wrap .i64 (((j+1:Nat):Int)-1)=(j:Int):=by rw [xT (by omega)]; omega
  have ec:∃q:Nat,q≤2∧IntKind.wrap .i64 ((1:Int)+IntKind.wrap .i64 (Int.tdiv r 4))=(q:Int):=by
   obtain⟨m,rfl⟩:∃m:Nat,r=(m:Int):=⟨r.toNat,by omega⟩
   have hm:m<5:=by omega
   match m,hm with
   |0,_|1,_|2,_|3,_=>exact⟨1,by omega,rfl⟩
   |4,_=>exact⟨2,by omega,rfl⟩
   |j+5,h=>omega
  obtain⟨q,hq,eq⟩:=ec
  rw [e1,Option.bind_some]; simp only []
  rw [eq]
  obtain⟨att,L2,At2,g1,g2,g3,g4⟩:=JB (n:=n) q n [] d1.f_L d1.yN (by omega) (by simp; omega) (by simp) k1
  rw [g1,Option.bind_some]; simp only []
  rw [wq (by rw [List.length_singleton]; omega),Option.bind_some,ew]
  obtain ⟨acc',L',At',p1,p2,p3,p4⟩:=B6 hn j k (acc ++ [att]) L2 At2 (by omega) (by rw [List.length_append,List.length_singleton]; omega) (by
   intro y hy; rcases List.mem_append.1 hy with h|h
   ·exact ha y h
   ·rw [List.mem_singleton]at h; subst h; exact⟨by simp only [List.length_nil]at g2; omega,g3⟩) g4
  exact⟨acc',L',At',p1,by rw [List.length_append,List.length_singleton]at p2; omega,p3,p4⟩
theorem PJ {n:Nat} {d:zi} (hn:1000≤n) (hd:vq d):∃x d',vx n d=some (x,d')∧BdN 252 x.zl∧vq d':=by
 unfold vx
 obtain⟨r,d1,e1,a1,b1,k1⟩:=jx (n:=n) (k:=4) (by decide) (by decide) hd
 obtain⟨m,rfl⟩:∃m:Nat,r=(m:Int):=⟨r.toNat,by omega⟩
 obtain⟨acc',L',At',p1,p2,p3,p4⟩:=B6 (n:=n) hn m n [] d1.f_L d1.yN (by omega) (by simp; omega) (by simp) k1
 rw [e1,Option.bind_some]; simp only []
 rw [p1]
 exact⟨_,_,rfl,⟨by show acc'.length≤_; simp only [List.length_nil]at p2; omega,p3⟩,p4⟩
theorem JU {n:Nat} (r:List Att) (hr:r.length≤8):∀(k i:Nat),i≤r.length→r.length-i<k→yy n r k (i:Int)=some (.ret false)∨(yy n r k (i:Int)=some (.nxt ())∧∀a∈r.drop i,BdA 200 a)
 |0,i,_,h=>by omega
 | k + 1,i,hi,hk=>by
  rw [yy]
  by_cases hc:i<r.length
  ·rw [if_pos (by rw [decide_eq_true_eq]; omega),ye hc,Option.bind_some,ifb,Option.bind_some]
   by_cases h:(decide ((List.length r[i].yA:Int)>200)||decide ((List.length r[i].xo:Int)>200))=true
   ·rw [if_pos h]; exact .inl rfl
   ·rw [if_neg h,w1 (by omega)]
    rw [Bool.not_eq_true,Bool.or_eq_false_iff,decide_eq_false_iff_not,decide_eq_false_iff_not]at h
    rcases JU (n:=n) r hr k (i+1) (by omega) (by omega)with h1|⟨h1,h2⟩
    ·exact .inl h1
    ·refine .inr ⟨h1,fun a ha=> ?_⟩
     rw [List.drop_eq_getElem_cons hc]at ha
     rcases List.mem_cons.1 ha with rfl|ha
     ·exact⟨by omega,by omega⟩
     ·exact h2 a ha
  ·rw [if_neg (by rw [decide_eq_true_eq]; omega),List.drop_eq_nil_of_le (by omega)]
   exact .inr ⟨rfl,by simp⟩
theorem Q9 {n:Nat} (l:List (List Att)) (hl:l.length≤12) (hn:1000≤n):∀(k i:Nat),i≤l.length→l.length-i<k→yv n ⟨l⟩ k (i:Int)=some (.ret false)∨(yv n ⟨l⟩ k (i:Int)=some (.nxt ())∧∀r∈l.drop i,BdR 200 r)
 |0,i,_,h=>by omega
 | k + 1,i,hi,hk=>by
  rw [yv]
  by_cases hc:i<l.length
  ·rw [if_pos (by rw [decide_eq_true_eq]; show(i:Int)<(l.length:Int); omega)]
   simp only [ye hc,Option.bind_some]
   by_cases h:l[i].length>8
   ·rw [if_pos (by rw [decide_eq_true_eq]; omega)]; exact .inl rfl
   ·rw [if_neg (by rw [decide_eq_true_eq]; omega)]
    rcases JU (n:=n) l[i] (by omega) n 0 (by omega) (by omega)with h1|⟨h1,h2⟩
    ·rw [show((0:Nat):Int)=0 from rfl]at h1
     rw [h1]; exact .inl rfl
    ·rw [show((0:Nat):Int)=0 from rfl]at h1
     rw [List.drop_zero]at h2
     rw [h1]
     simp only [ym]
     rw [w1 (by omega)]
     rcases Q9 (n:=n) l hl hn k (i+1) (by omega) (by omega)with h3|⟨h3,h4⟩
     ·exact .inl h3
     ·refine .inr ⟨h3,fun a ha=> ?_⟩
      rw [List.drop_eq_getElem_cons hc]at ha
      rcases List.mem_cons.1 ha with rfl|ha
      ·exact⟨by omega,h2⟩
      ·exact h4 a ha
  ·rw [if_neg (by rw [decide_eq_true_eq]; show ¬(i:Int)<(l.length:Int); omega),List.drop_eq_nil_of_le (by omega)]
   exact .inr ⟨rfl,by simp⟩
theorem DC {n:Nat} (l:List (List Att)) (hn:1000≤n):∃b,w7 n ⟨l⟩=some b∧(b=true→BdN 252 l):=by
 unfold w7
 by_cases h:l.length>12
 ·rw [if_pos (by rw [decide_eq_true_eq]; show(l.length:Int)>12; omega)]; exact⟨false,rfl,fun h=>by cases h⟩
 ·rw [if_neg (by rw [decide_eq_true_eq]; show ¬(l.length:Int)>12; omega)]
  rcases Q9 (n:=n) l (by omega) hn n 0 (by omega) (by omega)with h1|⟨h1,h2⟩
  ·rw [show((0:Nat):Int)=0 from rfl]at h1
   rw [h1]; exact⟨false,rfl,fun h=>by cases h⟩
  ·rw [show((0:Nat):Int)=0 from rfl]at h1
   rw [List.drop_zero]at h2
   rw [h1]; exact⟨true,rfl,fun _=>⟨by omega,fun r hr=>(h2 r hr).mono (by omega)⟩⟩
theorem BX {n:Nat} (l:List Anc) (hl:l.length≤9223372036854775807) (hn:1000≤n):∀(k i:Nat),i≤l.length→l.length-i<k→xr n l k (i:Int)=some (.ret false)∨(xr n l k (i:Int)=some (.nxt ())∧BdL 252 (l.drop i))
 |0,i,_,h=>by omega
 | k + 1,i,hi,hk=>by
  rw [xr]
  by_cases hc:i<l.length
  ·obtain ⟨b,hb1,hb2⟩:=DC (n:=n) l[i].zS.zl hn
   rw [if_pos (by rw [decide_eq_true_eq]; omega)]
   simp only [ye hc,Option.bind_some,hb1]
   rw [Pp,Option.bind_some]
   by_cases h:(!b||(decide ((List.length l[i].zJ.xM:Int)>100)||decide ((List.length l[i].zJ.zR:Int)>100)))=true
   ·rw [if_pos h]; exact .inl rfl
   ·rw [if_neg h,w1 (by omega)]
    rw [Bool.not_eq_true,Bool.or_eq_false_iff]at h
    rcases BX (n:=n) l hl hn k (i+1) (by omega) (by omega)with h3|⟨h3,h4⟩
    ·exact .inl h3
    ·refine .inr ⟨h3,fun a ha=> ?_⟩
     rw [List.drop_eq_getElem_cons hc]at ha
     rcases List.mem_cons.1 ha with rfl|ha
     ·exact hb2 (by simpa using h.1)
     ·exact h4 a ha
  ·rw [if_neg (by rw [decide_eq_true_eq]; omega),List.drop_eq_nil_of_le (by omega)]
   exact .inr ⟨rfl,by intro a ha; simp at ha⟩
theorem Pw {n:Nat} (l:List Anc) (hl:l.length≤9223372036854775807) (hn:l.length+1000≤n):∃b,uH n l=some b∧(b=true→BdL 252 l):=by
 unfold uH
 rcases BX (n:=n) l hl (by omega) n 0 (by omega) (by omega)with h1|⟨h1,h2⟩
 ·rw [show((0:Nat):Int)=0 from rfl]at h1
  rw [h1]; exact⟨false,rfl,fun h=>by cases h⟩
 ·rw [show((0:Nat):Int)=0 from rfl]at h1
  rw [List.drop_zero]at h2
  rw [h1]; exact⟨_,rfl,fun _=>h2⟩
theorem Vc {n:Nat} (hn:1000≤n):∀(j k:Nat) (acc:List Anc) (L:List Int) (At:Int),j<k→acc.length+j≤100→BdL 252 acc→vq ⟨L,At⟩ →
  ∃acc' L' At',yi n k acc (j:Int) L At=some (acc',L',At')∧acc'.length≤acc.length+j∧BdL 252 acc'∧vq ⟨L',At'⟩
 |j,0,_,_,_,h,_,_,_=>by omega
 | 0,k+1,acc,L,At,_,_,ha,hd=>by
  rw [yi,if_neg (by decide)]
  exact⟨_,_,_,rfl,by omega,ha,hd⟩
 | j+1,k+1,acc,L,At,hk,hl,ha,hd=>by
  rw [yi,if_pos (by rw [decide_eq_true_eq]; omega)]
  obtain⟨r,d1,e1,a1,b1,k1⟩:=jx (n:=n) (k:=16) (by decide) (by decide) hd
  obtain⟨x,e2,b2⟩:=Jx (n:=n) hn a1 b1
  obtain⟨ky,d2,e3,k3⟩:=cB (n:=n) hn k1
  have ew:IntKind.wrap .i64 (((j+1:Nat):Int)-1)=(j:Int):=by rw [xT (by omega)]; omega
  rw [e1,Option.bind_some]; simp only []
  rw [e2,Option.bind_some,e3,Option.bind_some]; simp only []
  rw [wq (by rw [List.length_singleton]; omega),Option.bind_some,ew]
  obtain ⟨acc',L',At',p1,p2,p3,p4⟩:=Vc hn j k (acc ++ [⟨x,ky⟩]) d2.f_L d2.yN (by omega) (by rw [List.length_append,List.length_singleton]; omega) (by
   intro y hy; rcases List.mem_append.1 hy with h|h
   ·exact ha y h
   ·rw [List.mem_singleton]at h; subst h; exact b2) k3
  exact⟨acc',L',At',p1,by rw [List.length_append,List.length_singleton]at p2; omega,p3,p4⟩
theorem Zt {n:Nat} (hn:200000000≤n) (r8:Bs×Int) (r13 r14:Bs×zi) (k i:Nat) (b:Bs) (hi:i<3) (hl:zX ([r8.1,r13.1,r14.1]:List Bs) (i:Int)=some b) (hb:b.length≤900000):
  zW n r8 r13 r14 (k+1) (i:Int)=zW n r8 r13 r14 k ((i+1:Nat):Int):=by
 obtain⟨r,e1,e2,e3,e4⟩:=Px hb hn
 have hs:=KK (n:=n) (l:=r.1) e4 e3 (by omega)
 rw [zW,if_pos (by rw [decide_eq_true_eq]; show(i:Int)<3; omega),hl]
 simp only [Option.bind_some]
 rw [e1,Option.bind_some,e2,Option.bind_some,if_neg (by simp),hs]
 simp only [Option.bind_some]
 rw [if_neg (by simp),w1 (by omega)]
theorem Js {n:Nat} (l:List Int) (x:List Anc) (hl:l.length≤9223372036854775807) (hx:x.length≤9223372036854775807) (hn:200000000≤n) (hn2:x.length+1000≤n) (aw:wV n=some true):wn n l x=some true:=by
 unfold wn
 obtain⟨b,hb1,hb2⟩:=Pw (n:=n) x hx hn2
 rw [hb1,Option.bind_some]
 by_cases c0:(!b)=true
 ·rw [if_pos c0,aw]; rfl
 ·rw [if_neg c0]
  have hbx:=hb2 (by simpa using c0)
  have hd:vq ⟨l,0⟩:=⟨by simp,by simp,hl⟩
  rw [show jT n l=some ⟨l,0⟩from rfl,Option.bind_some]
  obtain⟨r4,d4,e4,a4,b4,k4⟩:=jx (n:=n) (k:=5) (by decide) (by decide) hd
  obtain⟨m,rfl⟩:∃m:Nat,r4=(m:Int):=⟨r4.toNat,by omega⟩
  obtain⟨ac,L5,At5,e5,b5,c5,k5⟩:=Vc (n:=n) (by omega) m n [] d4.f_L d4.yN (by omega) (by simp; omega) (by intro a ha; simp at ha) k4
  simp only [List.length_nil]at b5
  obtain⟨r6,d6,e6,a6,b6,k6⟩:=jx (n:=n) (k:=8) (by decide) (by decide) k5
  rw [e4,Option.bind_some]; simp only []
  rw [e5,Option.bind_some]; simp only []
  rw [e6,Option.bind_some]; simp only []
  have key:∃y L At,(if(r6==1)=true then((vx n d6).bind fun r77=>
    (zr n 12 r77.2).bind fun r78=>
    (q7 64 ac ([(zd.mk r77.1 (zo.mk (IntKind.wrap .i64 (r78.1-1)) ([]:List UInt8) ([]:List UInt8)))]:List zd)).bind fun x79=>
    some (x79,r78.2.f_L,r78.2.yN))else(some (ac,d6.f_L,d6.yN)))=some (y,L,At)∧BdL 252 y∧vq ⟨L,At⟩:=by
   by_cases c1:(r6==1)=true
   ·obtain⟨nm,d7,e7,b7,k7⟩:=PJ (n:=n) (by omega) k6
    obtain⟨r8,d8,e8,a8,b8,k8⟩:=jx (n:=n) (k:=12) (by decide) (by decide) k7
    rw [if_pos c1,e7,Option.bind_some]; simp only []
    rw [e8,Option.bind_some]; simp only []
    rw [wq (by rw [List.length_singleton]; omega)]
    refine⟨_,_,_,rfl, ?_,k8⟩
    intro y hy; rcases List.mem_append.1 hy with h|h
    ·exact c5 y h
    ·rw [List.mem_singleton]at h; subst h; exact b7
   ·rw [if_neg c1]; exact⟨_,_,_,rfl,c5,k6⟩
  obtain⟨y,L,At,e9,b9,k9⟩:=key
  rw [e9,Option.bind_some]; simp only []
  rw [Kg b9 (by omega) (by omega),Option.bind_some,Ku b9 (by omega) (by omega),Option.bind_some,Kg hbx (by omega) (by omega),Option.bind_some,Ku hbx (by omega) (by omega),Option.bind_some]
  rw [if_neg (by simp),if_neg (by simp),if_neg (by simp),Option.bind_some,if_neg (by simp)]
  have el:=DI y
  obtain⟨s13,d13,h13,l13,k13⟩:=US (n:=n) (a:=(qW y).1) (by omega) k9
  obtain⟨s14,d14,h14,l14,k14⟩:=Up (n:=n) hn n (qW y).1 d13 (by omega) (by omega) k13
  rw [h13,Option.bind_some]; simp only []
  rw [h14,Option.bind_some]
  have hl1:zW n (qW y) (s13,d13) (s14,d14) n 0=some (.nxt ()):=by
   obtain⟨m,rfl⟩:∃m,n=m+4:=⟨n-4,by omega⟩
   have t0:=Zt hn (qW y) (s13,d13) (s14,d14) (m+3) 0 (qW y).1 (by omega) rfl (by omega)
   have t1:=Zt hn (qW y) (s13,d13) (s14,d14) (m+2) 1 s13 (by omega) rfl (by omega)
   have t2:=Zt hn (qW y) (s13,d13) (s14,d14) (m+1) 2 s14 (by omega) rfl (by omega)
   rw [show((0:Nat):Int)=0 from rfl]at t0
   rw [show m+3+1=m+4 from rfl]at t0
   rw [show m+2+1=m+3 from rfl,show((1:Nat):Int)=((0+1:Nat):Int)from rfl]at t1
   rw [show m+1+1=m+2 from rfl,show((2:Nat):Int)=((1+1:Nat):Int)from rfl]at t2
   rw [t0,t1,t2,zW,if_neg]
   rw [decide_eq_true_eq]; show ¬(((2+1:Nat):Int)<3); omega
  rw [hl1]
  simp only [ym]
  rw [aw]; rfl
theorem Q5 (l:List Int) (x:List Anc) (hl:l.length≤9223372036854775807) (hx:x.length≤9223372036854775807):wn (x.length+199999000+1000) l x=some true:=
 Js l x hl hx (by omega) (by omega) (c9 _)
end Go.Abs
end
