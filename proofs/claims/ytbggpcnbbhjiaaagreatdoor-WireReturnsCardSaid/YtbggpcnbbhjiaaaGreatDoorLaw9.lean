/- The typed Lean form of WireReturns gives true for every list of at most 9223372036854775807 numbers. -/
import Derived.Test.YtbggpcnbbhjiaaaGreatDoorLaw8
set_option linter.unusedVariables false
set_option linter.unusedSimpArgs false
set_option linter.unnecessarySimpa false
section
set_option maxRecDepth 100000
namespace Go.Abs
open Go Go.Proofs
theorem GF {n t:Nat} {b:Bool} {p:Nat×Bs} {L:List (Nat×Bs)} (hp:p.1=t) (hL:∀q∈L,q.1≠t):yq n (t:Int) ⟨(optE b p++L).map elm,false⟩=some (if b=true then elm p else E0,b,⟨L.map elm,false⟩):=by
 unfold yq
 cases b with
 | true=>
  have e:(optE true p++L).map elm=elm p::L.map elm:=rfl
  have k0:z6 (elm p::L.map elm) 0=some (elm p):=by simp [z6]
  have ht:(elm p).zT=(t:Int):=by show((p.1:Nat):Int)=_; rw [hp]
  rw [e]
  dsimp only
  rw [if_neg (by rw [beq_iff_eq,List.length_cons]; omega),k0,Option.bind_some,Option.bind_some,ht,if_neg (by simp),ZO]
  rfl
 | false=>
  have e:(optE false p++L)=L:=rfl
  rw [e]
  match L,hL with
  | [],_=>rfl
  | q::r,hL=>
   have k0:z6 ((q::r).map elm) 0=some (elm q):=by simp [z6]
   have ht:((elm q).zT !=(t:Int))=true:=by
    have:=hL q (by simp)
    rw [bne_iff_ne]; show((q.1:Nat):Int)≠_; omega
   dsimp only
   rw [if_neg (by rw [beq_iff_eq,List.length_map,List.length_cons]; omega),k0,Option.bind_some,Option.bind_some,ht,if_pos rfl,if_neg (by simp)]
theorem B9 {n t:Nat} {b:Bool} {L:List (Nat×Bs)} (hL:∀q∈L,q.1≠t):wf n (t:Int) ⟨(optE b (t,[255])++L).map elm,false⟩=some (b,⟨L.map elm,false⟩):=by
 unfold wf
 rw [GF (p:=(t,[255])) rfl hL,Option.bind_some]
 cases b with
 |true=>rfl
 |false=>rfl
theorem dQ {b:Bool} {p:Nat×Bs} {L:List (Nat×Bs)} {t:Nat} (h1:p.1≠t) (h2:∀q∈L,q.1≠t):∀q∈optE b p++L,q.1≠t:=by
 intro q hq
 rcases List.mem_append.1 hq with h|h
 ·unfold optE at h
  split at h
  ·rw [List.mem_singleton]at h; subst h; exact h1
  ·simp at h
 ·exact h2 q h
theorem DD {p:Nat×Bs} {L:List (Nat×Bs)} {t:Nat} (h1:p.1≠t) (h2:∀q∈L,q.1≠t):∀q∈p::L,q.1≠t:=by
 intro q hq
 rcases List.mem_cons.1 hq with h|h
 ·subst h; exact h1
 ·exact h2 q h
theorem n11 {q:Qry} {t:Nat} (h:t≠168):∀x∈q11 q,x.1≠t:=dQ (fun e=>h e.symm) (by simp)
theorem n10 {q:Qry} {t:Nat} (h:t≠168∧t≠135):∀x∈q10 q,x.1≠t:=dQ (fun e=>h.2 e.symm) (n11 h.1)
theorem n9 {q:Qry} {t:Nat} (h:(t≠168∧t≠135)∧t≠2):∀x∈q9 q,x.1≠t:=DD (fun e=>h.2 e.symm) (n10 h.1)
theorem n8 {q:Qry} {t:Nat} (h:((t≠168∧t≠135)∧t≠2)∧t≠166):∀x∈q8 q,x.1≠t:=dQ (fun e=>h.2 e.symm) (n9 h.1)
theorem n7 {q:Qry} {t:Nat} (h:(((t≠168∧t≠135)∧t≠2)∧t≠166)∧t≠133):∀x∈q7 q,x.1≠t:=dQ (fun e=>h.2 e.symm) (n8 h.1)
theorem n6 {q:Qry} {t:Nat} (h:((((t≠168∧t≠135)∧t≠2)∧t≠166)∧t≠133)∧t≠132):∀x∈q6 q,x.1≠t:=dQ (fun e=>h.2 e.symm) (n7 h.1)
theorem n5 {q:Qry} {t:Nat} (h:(((((t≠168∧t≠135)∧t≠2)∧t≠166)∧t≠133)∧t≠132)∧t≠131):∀x∈q5 q,x.1≠t:=dQ (fun e=>h.2 e.symm) (n6 h.1)
theorem n4 {q:Qry} {t:Nat} (h:((((((t≠168∧t≠135)∧t≠2)∧t≠166)∧t≠133)∧t≠132)∧t≠131)∧t≠162):∀x∈q4 q,x.1≠t:=dQ (fun e=>h.2 e.symm) (n5 h.1)
theorem n3 {q:Qry} {fl:Bs} {t:Nat} (h:(((((((t≠168∧t≠135)∧t≠2)∧t≠166)∧t≠133)∧t≠132)∧t≠131)∧t≠162)∧t≠129):∀x∈q3 fl q,x.1≠t:=dQ (fun e=>h.2 e.symm) (n4 h.1)
theorem Y7 {n:Nat} {l0:List El} {l:List Anc} (hn:200000000≤n) (ho:∀a∈l,YX a) (hl:l.length≤10):vp n (wraps (l.map ancE)) ⟨l0,false⟩=some (l.map gE,⟨l0,false⟩):=by
 have hw:=Zj ho
 have hp:∀p∈l.map ancE,POk p:=by
  intro p hp; obtain⟨a,ha,rfl⟩:=List.mem_map.1 hp; exact Bp (ho a ha)
 unfold vp wy
 rw [qS (by omega) (by omega),vb hp,Option.bind_some,Option.bind_some]
 dsimp only
 have h:=V2 (M:=0) (n:=n) hn l0 n l [] ho (by omega) (by simp only [List.length_nil]; omega)
 rw [show((0:Int) !=0)=false from rfl,h,Option.bind_some]
 rfl
theorem mI {n g:Nat} {c fl:Bs} {q:Qry} (hn:200000000≤n) (hf:Ba n q) (hg:g=23∨g=24) (hd:uO n (g:Int) c=some (q.qq,0)) (hu:uH n fl=some (q.wa,0)):
  ug n ⟨(bf (g,c) fl q).map elm,false⟩=some (jA q,⟨[],false⟩):=by
 obtain⟨⟨f1,f2,f3,⟨f4,f5,f6⟩,f7,f8,f9⟩,⟨b1,b2,b3,b4⟩,f10⟩:=hf
 have m3:=pF f7
 have m4:=Uo (by omega) (by omega) f8 b3
 have m4':(252+4338)*q.zK.length≤73440:=by omega
 unfold ug
 rw [show(bf (g,c) fl q).map elm=elm (g,c)::(q2 fl q).map elm from rfl,ZO,Option.bind_some]
 dsimp only
 rw [show(elm (g,c)).zT=(g:Int)from rfl,show(elm (g,c)).zq=c from rfl,hd,Option.bind_some,WM,Option.bind_some]
 rw [show(false||((q.qq,(0:Int)).2 !=0))=false from rfl,show(128:Int)=((128:Nat):Int)from rfl]
 unfold q2
 rw [GF (by rfl) (n3 (by decide)),Option.bind_some]
 have s1:(if(!(q.zQ== []))=true then((yr n (if(!(q.zQ== []))=true then elm (128,(polE q.zQ).2)else E0).zq).bind fun r12=>
   (zM n r12.2 ⟨(q3 fl q).map elm,false⟩).bind fun r13=>some (r13.f_l,r13.zX,r12.1))else(some ((q3 fl q).map elm,false,([]:List UInt8))))=some ((q3 fl q).map elm,false,q.zQ):=by
  cases hb:(!(q.zQ== []))with
  | true=>
   have hs:(xS q.zQ).isSome=true:=by
    rcases f1 with f1|f1
    ·rw [f1]at hb; exact absurd hb (by decide)
    ·exact f1
   obtain⟨l,hl⟩:=Option.isSome_iff_exists.1 hs
   have hpe:(polE q.zQ).2=qf l:=by unfold polE; rw [hl]; rfl
   rw [if_pos rfl,if_pos rfl,show(elm (128,(polE q.zQ).2)).zq=(polE q.zQ).2 from rfl,hpe,gj hl (by omega),Option.bind_some,WM,Option.bind_some]
   rfl
  | false=>
   have:q.zQ= []:=by simpa using hb
   rw [if_neg (by simp),this]
 dsimp only at s1 ⊢
 rw [s1,Option.bind_some]
 dsimp only
 rw [show(129:Int)=((129:Nat):Int)from rfl]
 unfold q3
 rw [GF (by rfl) (n4 (by decide)),Option.bind_some]
 have s2:(if(q.wa !=0)=true then((uH n (if(q.wa !=0)=true then elm (129,fl)else E0).zq).bind fun r22=>
   (zM n r22.2 ⟨(q4 q).map elm,false⟩).bind fun r23=>some (r23.f_l,r23.zX,r22.1))else(some ((q4 q).map elm,false,(0:Int))))=some ((q4 q).map elm,false,q.wa):=by
  cases hb:(q.wa !=0)with
  | true=>
   rw [if_pos rfl,if_pos rfl,show(elm (129,fl)).zq=fl from rfl,hu,Option.bind_some,WM,Option.bind_some]
   rfl
  | false=>
   have:q.wa=0:=by simpa using hb
   rw [if_neg (by simp),this]
 dsimp only at s2 ⊢
 rw [s2,Option.bind_some]
 dsimp only
 rw [show(162:Int)=((162:Nat):Int)from rfl]
 unfold q4
 rw [GF (by rfl) (n5 (by decide)),Option.bind_some]
 have s3:(if(!q.zl.isEmpty)=true then((xN n (if(!q.zl.isEmpty)=true then elm (162,wraps (q.zl.map polE))else E0).zq ⟨(q5 q).map elm,false⟩).bind fun r31=>
   some (r31.2.f_l,r31.2.zX,r31.1))else(some ((q5 q).map elm,false,([]:List (List UInt8)))))=some ((q5 q).map elm,false,q.zl):=by
  cases hp:q.zl with
  |nil=>rfl
  | cons s r=>
   rw [show(!(s::r).isEmpty)=true from rfl,if_pos rfl,if_pos rfl,←hp,show(elm (162,wraps (q.zl.map polE))).zq=wraps (q.zl.map polE)from rfl,ZB (by omega) f7 (by omega),Option.bind_some]
 dsimp only at s3 ⊢
 rw [s3,Option.bind_some]
 dsimp only
 rw [show(131:Int)=((131:Nat):Int)from rfl,show q5 q=optE q.uL (131,[255])++q6 q from rfl,B9 (n6 (by decide)),Option.bind_some]
 dsimp only
 rw [show(132:Int)=((132:Nat):Int)from rfl,show q6 q=optE q.ue (132,[255])++q7 q from rfl,B9 (n7 (by decide)),Option.bind_some]
 dsimp only
 rw [show(133:Int)=((133:Nat):Int)from rfl,show q7 q=optE q.br (133,[255])++q8 q from rfl,B9 (n8 (by decide)),Option.bind_some]
 dsimp only
 rw [show(166:Int)=((166:Nat):Int)from rfl]
 unfold q8
 rw [GF (by rfl) (n9 (by decide)),Option.bind_some]
 have s4:(if(!q.zK.isEmpty)=true then((vA n (if(!q.zK.isEmpty)=true then elm (166,wraps (q.zK.map uK))else E0).zq).bind fun r43=>
   (zM n r43.2 ⟨(q9 q).map elm,false⟩).bind fun r44=>some (r44.f_l,r44.zX,r43.1))else(some ((q9 q).map elm,false,([]:List zc))))=some ((q9 q).map elm,false,q.zK.map bA):=by
  cases hp:q.zK with
  |nil=>rfl
  | cons s r=>
   rw [show(!(s::r).isEmpty)=true from rfl,if_pos rfl,if_pos rfl,←hp,show(elm (166,wraps (q.zK.map uK))).zq=wraps (q.zK.map uK)from rfl,fk (B:=252) (by omega) hn f8 b3 (by rw [hp]; simp) f5 (by omega),Option.bind_some,WM,Option.bind_some]
   rfl
 dsimp only at s4 ⊢
 rw [s4,Option.bind_some]
 dsimp only
 rw [show(2:Int)=((2:Nat):Int)from rfl,show(q9 q).map elm=elm (numE 2 q.xl)::(q10 q).map elm from rfl,Xl (by omega) (sm8 f3),Option.bind_some]
 dsimp only
 rw [show(135:Int)=((135:Nat):Int)from rfl,show q10 q=optE q.qk (135,[255])++q11 q from rfl,B9 (n11 (by decide)),Option.bind_some]
 dsimp only
 rw [show(168:Int)=((168:Nat):Int)from rfl]
 unfold q11
 rw [GF (by rfl) (by simp),Option.bind_some]
 cases hp:q.zz with
 | nil=>
  rw [show(!([]:List Anc).isEmpty)=false from rfl,if_neg (by simp)]
  unfold jA
  rw [hp]
  rfl
 | cons s r=>
  rw [show(!(s::r).isEmpty)=true from rfl,if_pos rfl,if_pos rfl,←hp,show(elm (168,wraps (q.zz.map ancE))).zq=wraps (q.zz.map ancE)from rfl]
  dsimp only
  rw [Y7 hn f9 (by omega),Option.bind_some]
  rfl
theorem Pa (g:Gen):uK (bA g)=uK g:=by unfold uK bA; simp only [Uk]
theorem Q8 {B:Nat} {l:List (List Att)} (h:BdN B l):BdN B (ZJ l):=by
 refine⟨by rw [List.length_map]; exact h.1,fun r hr=> ?_⟩
 obtain⟨x,hx,rfl⟩:=List.mem_map.1 hr
 have p:=dZ x
 exact⟨by rw [p.length_eq]; exact(h.2 x hx).1,fun a ha=>(h.2 x hx).2 a (p.mem_iff.1 ha)⟩
theorem DH (l:List Gen):(l.map bA).map uK=l.map uK:=by
 rw [List.map_map]; exact List.map_congr_left fun g _=>Pa g
theorem Dg (l:List Anc):(l.map gE).map ancE=l.map ancE:=by
 rw [List.map_map]; exact List.map_congr_left fun a _=>Gq a
theorem Gf {α β:Type} (f:α→β) (l:List α):(l.map f).isEmpty=l.isEmpty:=by cases l<;>rfl
theorem GS (tm:Nat×Bs) (fl:Bs) (q:Qry):bf tm fl (jA q)=bf tm fl q:=by
 have h11:q11 (jA q)=q11 q:=by
  unfold q11
  rw [show(jA q).zz=q.zz.map gE from rfl,Dg,Gf]
 have h10:q10 (jA q)=q10 q:=by unfold q10; rw [h11]; rfl
 have h9:q9 (jA q)=q9 q:=by unfold q9; rw [h10]; rfl
 have h8:q8 (jA q)=q8 q:=by
  unfold q8
  rw [h9,show(jA q).zK=q.zK.map bA from rfl,DH,Gf]
 have h7:q7 (jA q)=q7 q:=by unfold q7; rw [h8]; rfl
 have h6:q6 (jA q)=q6 q:=by unfold q6; rw [h7]; rfl
 have h5:q5 (jA q)=q5 q:=by unfold q5; rw [h6]; rfl
 have h4:q4 (jA q)=q4 q:=by unfold q4; rw [h5]; rfl
 have h3:q3 fl (jA q)=q3 fl q:=by unfold q3; rw [h4]; rfl
 have h2:q2 fl (jA q)=q2 fl q:=by unfold q2; rw [h3]; rfl
 unfold bf
 rw [h2]
theorem Ph {n:Nat} {q:Qry} (hn:200000000≤n) (h:Ba n q):Ba n (jA q):=by
 obtain⟨⟨f1,f2,f3,⟨f4,f5,f6⟩,f7,f8,f9⟩,⟨b1,b2,b3,b4⟩,f10⟩:=h
 refine⟨⟨f1,f2,f3,⟨f4,by show(q.zK.map bA).length≤_; rw [List.length_map]; exact f5,by show(q.zz.map gE).length≤_; rw [List.length_map]; exact f6⟩,f7, ?_, ?_⟩,⟨b1,b2, ?_, ?_⟩,by show(q.zz.map gE).length≤_; rw [List.length_map]; exact f10⟩
 ·intro g hg
  obtain⟨x,hx,rfl⟩:=List.mem_map.1 (show g∈q.zK.map bA from hg)
  exact Ul (f8 x hx) (b3 x hx).2 (by omega) (by omega)
 ·intro g hg
  obtain⟨x,hx,rfl⟩:=List.mem_map.1 (show g∈q.zz.map gE from hg)
  exact UZ (f9 x hx)
 ·intro g hg
  obtain⟨x,hx,rfl⟩:=List.mem_map.1 (show g∈q.zK.map bA from hg)
  exact⟨(b3 x hx).1,Q8 (b3 x hx).2⟩
 ·intro g hg
  obtain⟨x,hx,rfl⟩:=List.mem_map.1 (show g∈q.zz.map gE from hg)
  exact Q8 (b4 x hx)
theorem gI {P:Nat×Bs→Prop} {b:Bool} {p:Nat×Bs} {L:List (Nat×Bs)} (h1:b=true→P p) (h2:∀x∈L,P x):∀x∈optE b p++L,P x:=by
 intro x hx
 rcases List.mem_append.1 hx with h|h
 ·unfold optE at h
  split at h
  ·rename_i hb; rw [List.mem_singleton]at h; subst h; exact h1 hb
  ·simp at h
 ·exact h2 x h
theorem all_cons {P:Nat×Bs→Prop} {p:Nat×Bs} {L:List (Nat×Bs)} (h1:P p) (h2:∀x∈L,P x):∀x∈p::L,P x:=by
 intro x hx
 rcases List.mem_cons.1 hx with h|h
 ·subst h; exact h1
 ·exact h2 x h
theorem ZZ {t:Nat} {c:Bs} (h1:t≤255) (h2:t%32≠31) (h3:t/32%2=0) (hc:c.length≤131072):POk (t,c)∧Wf 6 (t,c):=⟨⟨h1,h2,hc⟩,Wf.leaf h3⟩
theorem Df {n g:Nat} {c fl:Bs} {q:Qry} (hn:200000000≤n) (hf:Ba n q) (hg:g=23∨g=24) (hc:c.length≤20) (hfl:fl.length≤4):∀p∈bf (g,c) fl q,POk p∧Wf 6 p:=by
 obtain⟨⟨f1,f2,f3,⟨f4,f5,f6⟩,f7,f8,f9⟩,⟨b1,b2,b3,b4⟩,f10⟩:=hf
 have m3:=pF f7
 have m4:=Uo (by omega) (by omega) f8 b3
 have m4':(252+4338)*q.zK.length≤73440:=by omega
 have m5:=Zj f9
 unfold bf q2 q3 q4 q5 q6 q7 q8 q9 q10 q11
 refine all_cons (by rcases hg with rfl|rfl<;>exact ZZ (by omega) (by omega) (by omega) (by omega))<|gI (fun h=> ?_)<|gI (fun _=>ZZ (by omega) (by omega) (by omega) (by omega))<|gI (fun _=> ?_)<|gI (fun _=>ZZ (by omega) (by omega) (by omega) (by simp)) <|
  gI (fun _=>ZZ (by omega) (by omega) (by omega) (by simp))<|gI (fun _=>ZZ (by omega) (by omega) (by omega) (by simp))<|gI (fun _=> ?_)<|all_cons (ZZ (by omega) (by omega) (by omega) (by simp))<|gI (fun _=>ZZ (by omega) (by omega) (by omega) (by simp))<|gI (fun _=> ?_) (by simp)
 ·have hs:(xS q.zQ).isSome=true:=by
   rcases f1 with f1|f1
   ·rw [f1]at h; exact absurd h (by decide)
   ·exact f1
  have:=J7 _ hs
  exact ZZ (by omega) (by omega) (by omega) (by omega)
 ·refine⟨⟨by dsimp only; decide,by dsimp only; decide,by dsimp only; omega⟩,(Wf.node (t:=162) (k:=1) (l:=q.zl.map polE) fun x hx=> ?_).mono (by omega)⟩
  obtain⟨s,hs,rfl⟩:=List.mem_map.1 hx
  exact⟨Jv (List.all_eq_true.1 f7 s hs),Wf.leaf (t:=6) (by decide)⟩
 ·refine⟨⟨by dsimp only; decide,by dsimp only; decide,by dsimp only; omega⟩,Wf.node (t:=166) (k:=5) (l:=q.zK.map uK) fun x hx=> ?_⟩
  obtain⟨s,hs,rfl⟩:=List.mem_map.1 hx
  obtain⟨a1,_,a3⟩:=Xe (B:=252) (f8 s hs) (b3 s hs) (by omega) (by omega)
  exact⟨a1,a3⟩
 ·refine⟨⟨by dsimp only; decide,by dsimp only; decide,by dsimp only; omega⟩,Wf.node (t:=168) (k:=5) (l:=q.zz.map ancE) fun x hx=> ?_⟩
  obtain⟨s,hs,rfl⟩:=List.mem_map.1 hx
  exact⟨Bp (f9 s hs),eR (f9 s hs)⟩
theorem hG {n:Nat} {q:Qry} {b:Bs} (hn:200000000≤n) (hb:BdQ 252 q) (hi:q.zz.length≤6) (ht:q.qq∈Ve) (hv:xt n q=some 0):
  ∃b,yv n q=some (b,0)∧vC n b=some (jA q,0)∧yv n (jA q)=some (b,0):=by
 obtain⟨hq,hv2⟩:=Q2 (B:=252) (by omega) (by omega) hb hv
 have hf:Ba n q:=⟨hq,hb,hi⟩
 have hf2:=Ph hn hf
 obtain⟨g,c,hg,hc,t1,t2⟩:=PM (n:=n) (by omega) ht
 obtain⟨fl,hfl,u1,u2⟩:=PS (n:=n) (by omega) hq.2.1.1 hq.2.1.2
 obtain⟨e1,e2⟩:=lF hn hf hv hg hc t1 hfl u1
 obtain⟨e3,_⟩:=lF (q:=jA q) hn hf2 hv2 hg hc t1 hfl u1
 rw [GS]at e3
 refine⟨_,e1, ?_,e3⟩
 have hall:=Df hn hf hg hc hfl
 have hp:∀p∈bf (g,c) fl q,POk p:=fun p hp=>(hall p hp).1
 have pk:POk (48,wraps (bf (g,c) fl q)):=⟨by dsimp only; decide,by dsimp only; decide,e2⟩
 have hck:jm n (tWrap 48 (wraps (bf (g,c) fl q))).1=some 0:=QW (n:=n) (p:=(48,wraps (bf (g,c) fl q))) (by omega) pk (Wf.node (t:=48) (k:=6) hall) (by omega)
 have hl:=yd 48 (wraps (bf (g,c) fl q))
 unfold vC vV
 rw [hck,Option.bind_some,if_neg (by decide),Xa (by omega) (by omega),pN pk.1 pk.2.1 e2,Option.bind_some,if_neg (by simp),Dc (by dsimp only; omega) (by dsimp only; omega),Option.bind_some]
 dsimp only
 rw [vb hp]
 have hfl0:(((0:Int) !=0)||((((48:Nat):Int)) !=48))=false:=rfl
 dsimp only at hfl0 ⊢
 rw [hfl0,mI hn hf hg t2 u2,Option.bind_some]
 dsimp only
 rw [if_neg (by decide),e3,Option.bind_some,ifb,Option.bind_some,if_neg (by simp),Option.bind_some]
theorem QM {n:Nat} (l:List (List Att)) (j:Nat) (hj:j<l.length) (hx:l[j].length≤1000000) (hn:2000000≤n):∀(k i:Nat),i≤l[j].length→l[j].length-i<k→yE n l[j] ⟨ZJ l⟩ (j:Int) k (i:Int)=some (.nxt ())
 |0,i,_,h=>by omega
 | k+1,i,hi,hk=>by
  have hj2:j<(ZJ l).length:=by rw [List.length_map]; exact hj
  have e0:(ZJ l)[j]=jH l[j]:=by simp
  have hp:=dZ l[j]
  rw [yE]
  by_cases hc:i<l[j].length
  ·have e:=Qp (n:=n) (jH l[j]) (l[j])[i] (by rw [hp.length_eq]; exact hx) n 0 false (by omega) (by rw [hp.length_eq]; omega) (.inr (by rw [List.drop_zero]; exact hp.mem_iff.2 (List.getElem_mem hc)))
   rw [show((0:Nat):Int)=0 from rfl]at e
   rw [if_pos (by rw [decide_eq_true_eq]; omega),yf hc,Option.bind_some]
   simp only [yf hj2,Option.bind_some]
   rw [e0,e,Option.bind_some,if_neg (by simp),w1 (by omega)]
   exact QM l j hj hx hn k (i+1) (by omega) (by omega)
  ·rw [if_neg (by rw [decide_eq_true_eq]; omega)]
theorem QN {n:Nat} (l:List (List Att)) (hx:∀r∈l,r.length≤1000000) (hl:l.length≤1000000) (hn:2000000≤n):∀(k i:Nat),i≤l.length→l.length-i<k→yH n ⟨l⟩ ⟨ZJ l⟩ k (i:Int)=some (.nxt ())
 |0,i,_,h=>by omega
 | k+1,i,hi,hk=>by
  rw [yH]
  by_cases hc:i<l.length
  ·have h1:=hx _ (List.getElem_mem hc)
   have hj2:i<(ZJ l).length:=by rw [List.length_map]; exact hc
   have e0:(ZJ l)[i]=jH l[i]:=by simp
   have e:=QM (n:=n) l i hc h1 hn n 0 (by omega) (by omega)
   rw [show((0:Nat):Int)=0 from rfl]at e
   rw [if_pos (by rw [decide_eq_true_eq]; show(i:Int)<(l.length:Int); omega)]
   simp only [yf hc,yf hj2,Option.bind_some]
   rw [if_neg (by rw [e0,(dZ l[i]).length_eq]; simp),e]
   simp only [xJ]
   rw [w1 (by omega)]
   exact QN l hx hl hn k (i+1) (by omega) (by omega)
  ·rw [if_neg (by rw [decide_eq_true_eq]; show ¬(i:Int)<(l.length:Int); omega)]
theorem XT {n B:Nat} {l:List (List Att)} (h:BdN B l) (hB:B≤1000000) (hn:2000000≤n):yM n ⟨l⟩ ⟨ZJ l⟩=some true:=by
 unfold yM
 have h1:=h.1
 have e:=QN (n:=n) l (fun r hr=>by have:=(h.2 r hr).1; omega) (by omega) hn n 0 (by omega) (by omega)
 rw [show((0:Nat):Int)=0 from rfl]at e
 rw [if_neg (by show ¬((l.length:Int) !=((ZJ l).length:Int))=true; rw [List.length_map]; simp),e]; rfl
theorem Jc {n B:Nat} (l:List Anc) (h:BdL B l) (hB:B≤1000000) (hl:l.length≤64) (hn:2000000≤n):∀(k i:Nat),i≤l.length→l.length-i<k→yp n l (l.map gE) k (i:Int)=some (.nxt ())
 |0,i,_,h=>by omega
 | k+1,i,hi,hk=>by
  rw [yp]
  by_cases hc:i<l.length
  ·have hj2:i<(l.map gE).length:=by rw [List.length_map]; exact hc
   have e0:(l.map gE)[i]=gE l[i]:=by simp
   rw [if_pos (by rw [decide_eq_true_eq]; omega)]
   simp only [yf hc,yf hj2,Option.bind_some,e0]
   have hs:yM n ⟨l[i].zy.zo⟩ ⟨(gE l[i]).zy.zo⟩=some true:=XT (h _ (List.getElem_mem hc)) hB hn
   rw [show(gE l[i]).zE=l[i].zE from rfl,if_neg (by simp),hs,Option.bind_some,Option.bind_some,if_neg (by simp),w1 (by omega)]
   exact Jc l h hB hl hn k (i+1) (by omega) (by omega)
  ·rw [if_neg (by rw [decide_eq_true_eq]; omega)]
theorem K0 {n B:Nat} {l:List Anc} (h:BdL B l) (hB:B≤1000000) (hl:l.length≤64) (hn:2000000≤n):we n l (l.map gE)=some true:=by
 unfold we
 have e:=Jc (n:=n) l h hB hl hn n 0 (by omega) (by omega)
 rw [show((0:Nat):Int)=0 from rfl]at e
 rw [if_neg (by rw [List.length_map]; simp),e]; rfl
theorem U5 {n B:Nat} (l:List Gen) (h:∀g∈l,BdG B g) (hB:B≤1000000) (hl:l.length≤64) (hn:2000000≤n):∀(k i:Nat),i≤l.length→l.length-i<k→yl n l (l.map bA) k (i:Int)=some (.nxt ())
 |0,i,_,h=>by omega
 | k+1,i,hi,hk=>by
  rw [yl]
  by_cases hc:i<l.length
  ·have hj2:i<(l.map bA).length:=by rw [List.length_map]; exact hc
   have e0:(l.map bA)[i]=bA l[i]:=by simp
   rw [if_pos (by rw [decide_eq_true_eq]; omega)]
   simp only [yf hc,yf hj2,Option.bind_some,e0]
   have hs:yM n ⟨l[i].zy.zo⟩ ⟨(bA l[i]).zy.zo⟩=some true:=XT (h _ (List.getElem_mem hc)).2 hB hn
   rw [show(bA l[i]).zV=l[i].zV from rfl,if_neg (by simp),show(bA l[i]).xE=l[i].xE from rfl,if_neg (by simp),hs,Option.bind_some,Option.bind_some,if_neg (by simp),w1 (by omega)]
   exact U5 l h hB hl hn k (i+1) (by omega) (by omega)
  ·rw [if_neg (by rw [decide_eq_true_eq]; omega)]
theorem KN {n B:Nat} {l:List Gen} (h:∀g∈l,BdG B g) (hB:B≤1000000) (hl:l.length≤64) (hn:2000000≤n):xT n l (l.map bA)=some true:=by
 unfold xT
 have e:=U5 (n:=n) l h hB hl hn n 0 (by omega) (by omega)
 rw [show((0:Nat):Int)=0 from rfl]at e
 rw [if_neg (by rw [List.length_map]; simp),e]; rfl
theorem Gs {n:Nat} {q:Qry} (hn:200000000≤n) (hf:Ba n q):wv n q (jA q)=some true:=by
 obtain⟨⟨f1,f2,f3,⟨f4,f5,f6⟩,f7,f8,f9⟩,⟨b1,b2,b3,b4⟩,f10⟩:=hf
 have hs:xH n q.zl q.zl=some true:=by
  unfold xH
  have e:=Jo (n:=n) q.zl (by omega) n 0 (by omega) (by omega)
  rw [show((0:Nat):Int)=0 from rfl]at e
  rw [if_neg (by simp),e]; rfl
 unfold wv
 rw [show(jA q).qq=q.qq from rfl,show(jA q).zQ=q.zQ from rfl,show(jA q).wa=q.wa from rfl,show(jA q).zl=q.zl from rfl,show(jA q).uL=q.uL from rfl,show(jA q).ue=q.ue from rfl,show(jA q).br=q.br from rfl,
  show(jA q).xl=q.xl from rfl,show(jA q).qk=q.qk from rfl,show(jA q).zK=q.zK.map bA from rfl,show(jA q).zz=q.zz.map gE from rfl]
 rw [if_pos (by simp),if_pos (by simp),if_pos (by simp),hs,Option.bind_some,if_pos rfl,if_pos (by simp),if_pos (by simp),if_pos (by simp),KN b3 (by omega) (by omega) (by omega),Option.bind_some,if_pos rfl,if_pos (by simp),if_pos (by simp),K0 b4 (by omega) (by omega) (by omega)]
 rfl
theorem KY {n:Nat} {x:Int}:∃s,wE n x=some s∧s.length=1:=⟨_,rfl,rfl⟩
theorem Ji {n:Nat} {x:Int}:∃s,wh n x=some s∧s.length=4:=⟨_,rfl,rfl⟩
theorem BN {n:Nat} {p:Bs} {a b:Int} (hn:2000≤n) (hp:p.length=16):∀(j k:Nat) (v:Bs),j≤15→j<k→v.length=16→∃r,yU n 15 a b p k v ((15-j:Nat):Int)=some r∧r.length=16
 |j,0,_,_,h,_=>by omega
 | 0,k+1,v,_,_,hv=>by
  rw [yU,if_neg (by decide)]
  exact⟨_,rfl,hv⟩
 | j+1,k+1,v,hj,hk,hv=>by
  rw [yU,if_pos (by rw [decide_eq_true_eq]; omega)]
  obtain⟨x1,e1,l1⟩:=Ji (n:=n) (x:=a)
  obtain⟨x2,e2,l2⟩:=KY (n:=n) (x:=b)
  obtain⟨x3,e3,l3⟩:=KY (n:=n) (x:=((15-(j+1):Nat):Int))
  rw [e1,Option.bind_some,e2,Option.bind_some,e3,Option.bind_some]
  obtain ⟨w,ew,lw⟩:=Xi (n:=n) (a:= [[67],p,x1,x2,x3,v]) hn (by simp) (by
   simp only [List.mem_cons,List.not_mem_nil,or_false,forall_eq_or_imp,forall_eq]
   exact⟨by decide,by omega,by omega,by omega,by omega,by omega⟩)
  rw [ew,Option.bind_some,wt (by omega),show((15-(j+1):Nat):Int)+1=((15-j:Nat):Int)by omega]
  exact BN hn hp j k w (by omega) (by omega) lw
theorem Po {n:Nat} {p s:Bs} {a:Int} (hn:2000≤n) (hp:p.length=16) (hs:s.length=32):∀(j k:Nat) (v:Bs),j≤35→j<k→v.length=16*(35-j)→∃r,yk n s a p k v ((35-j:Nat):Int)=some r∧r.length=560
 |j,0,_,_,h,_=>by omega
 | 0,k+1,v,_,_,hv=>by
  rw [yk,if_neg (by decide)]
  exact⟨_,rfl,hv⟩
 | j + 1,k+1,v,hj,hk,hv=>by
  rw [yk,if_pos (by rw [decide_eq_true_eq]; omega)]
  obtain⟨x1,e1,l1⟩:=Ji (n:=n) (x:=a)
  obtain⟨x2,e2,l2⟩:=KY (n:=n) (x:=((35-(j+1):Nat):Int))
  have hsec:∃w,w8 n s a ((35-(j+1):Nat):Int)=some w∧w.length=16:=by
   unfold w8
   obtain ⟨w,ew,lw⟩:=Xi (n:=n) (a:= [[83],s,x1,x2]) hn (by simp) (by
    simp only [List.mem_cons,List.not_mem_nil,or_false,forall_eq_or_imp,forall_eq]
    exact⟨by decide,by omega,by omega,by omega⟩)
   rw [e1,Option.bind_some,e2,Option.bind_some,ew]
   exact⟨_,rfl,lw⟩
  obtain⟨w,ew,lw⟩:=hsec
  obtain⟨u,eu,lu⟩:=BN (n:=n) (a:=a) (b:=((35-(j+1):Nat):Int)) hn hp 15 n w (by omega) (by omega) lw
  have hw:vN n p a ((35-(j+1):Nat):Int) 0 15 w=some u:=by
   unfold vN
   rw [show(0:Int)=((15-15:Nat):Int)by rfl,eu]; rfl
  rw [ew,Option.bind_some,hw,Option.bind_some,show dt v u=some (v++u)from if_pos (by omega),Option.bind_some,wt (by omega),show((35-(j+1):Nat):Int)+1=((35-j:Nat):Int)by omega]
  exact Po hn hp hs j k (v++u) (by omega) (by omega) (by rw [List.length_append]; omega)
theorem cZ {n:Nat} {p s:Bs} (hn:2000≤n) (hp:p.length=16) (hs:s.length=32):∃r,w6 n p s 0=some (r,0)∧r.length=16:=by
 unfold w6 uB
 rw [if_neg (by rw [hp]; decide),Option.bind_some,if_neg (by rw [hs]; decide),if_neg (by decide),Option.bind_some,if_neg (by decide),Option.bind_some,if_neg (by decide)]
 obtain⟨y,ey,ly⟩:=Po (n:=n) (a:=0) hn hp hs 35 n [] (by omega) (by omega) rfl
 obtain⟨x1,e1,l1⟩:=Ji (n:=n) (x:=0)
 rw [show yk n s 0 p n [] 0=some y from ey,Option.bind_some,e1,Option.bind_some]
 obtain ⟨w,ew,lw⟩:=Xi (n:=n) (a:= [[76],p,x1,y]) hn (by simp) (by
  simp only [List.mem_cons,List.not_mem_nil,or_false,forall_eq_or_imp,forall_eq]
  exact⟨by decide,by omega,by omega,by omega⟩)
 rw [ew]
 exact⟨_,rfl,lw⟩
theorem PK {n:Nat} {s:Bs} (hn:2000≤n) (hs:s.length=32):∃p r,wz n s 0=some (⟨s,p,[[r]]⟩,0):=by
 unfold wz
 rw [if_neg (by rw [hs]; decide),if_neg (by decide),Option.bind_some,if_neg (by decide)]
 obtain ⟨p,ep,lp⟩:=Xi (n:=n) (a:= [[73],s]) hn (by simp) (by
  simp only [List.mem_cons,List.not_mem_nil,or_false,forall_eq_or_imp,forall_eq]
  exact⟨by decide,by omega⟩)
 obtain⟨r,er,lr⟩:=cZ (n:=n) hn lp hs
 obtain⟨m,rfl⟩:∃m,n=m+2:=⟨n-2,by omega⟩
 rw [ep,Option.bind_some]
 rw [yD,show JP .i64 1 0=some 1 by rfl,Option.bind_some,if_pos (by decide),er,Option.bind_some,yZ (by show(0+1)*16≤_; omega),Option.bind_some,
  show IntKind.wrap .i64 ((0:Int)+1)=1 by rfl,yD,show JP .i64 1 0=some 1 by rfl,Option.bind_some,if_neg (by decide),Option.bind_some,yZ (by show(0+1)*24≤_; omega),Option.bind_some,
  xr,if_neg (by decide),Option.bind_some]
 exact⟨p,r,rfl⟩
theorem DG {n:Nat} {r:Int} (hn:2000≤n):∃s,xz n r=some s∧s.length=32:=by
 unfold xz
 obtain⟨x1,e1,l1⟩:=Ji (n:=n) (x:=r)
 obtain ⟨w,ew,lw⟩:=DJ (n:=n) (a:= [[115,101,101,100],x1]) hn (by simp) (by
  simp only [List.mem_cons,List.not_mem_nil,or_false,forall_eq_or_imp,forall_eq]
  exact⟨by decide,by omega⟩)
 rw [e1,Option.bind_some,ew]
 exact⟨_,rfl,lw⟩
theorem DP {n:Nat} {k:Int} (h0:0≤k) (h1:k<4):∃x,uF n k=some x∧0≤x∧x<16:=by
 have:k=0∨k=1∨k=2∨k=3:=by omega
 rcases this with h|h|h|h<;>subst h<;>exact⟨_,rfl,by decide⟩
theorem WP {n:Nat} {k:Int} (hn:2000≤n) (h0:0≤k) (h1:k<4):∃a,z8 n k=some a∧BdN 252 a.zy.zo:=by
 unfold z8
 obtain⟨x,ex,x0,x1⟩:=DP (n:=n) h0 h1
 obtain⟨y,ey,ly⟩:=Jj (n:=n) (r:=x) (by omega) x0 x1
 have hp:∃z,vd n k=some z:=by
  unfold vd jb jh
  obtain⟨s,es,ls⟩:=DG (n:=n) (r:=IntKind.wrap .i64 ((1000:Int)+(Int.tmod k 8))) hn
  obtain⟨p,r,eg⟩:=PK (n:=n) hn ls
  rw [es,Option.bind_some,eg]
  exact⟨_,rfl⟩
 obtain⟨z,ez⟩:=hp
 rw [ex,Option.bind_some,ey,Option.bind_some,ez]
 exact⟨_,rfl,ly⟩
def DL (m:Nat) (g:Int×Bs):Bool:=match yy (m+1000) ⟨g.1,g.2,⟨[]⟩⟩ false with|some _=>decide (g.2.length≤252)|none=>false
def ct:List Bs:= [([97,110,110,64,101,120,97,109,112,108,101,46,111,114,103]:List UInt8),([65,78,78,64,101,120,97,109,112,108,101,46,111,114,103]:List UInt8),([97,110,110,64,69,120,97,109,112,108,101,46,79,82,71]:List UInt8),([98,46,99,64,109,97,105,108,46,101,120,97,109,112,108,101,46,111,114,103]:List UInt8),([120,64,111,114,103]:List UInt8),([97,39,98,64,97,46,98]:List UInt8)]
def hY:List Bs:= [([101,120,97,109,112,108,101,46,111,114,103]:List UInt8),([119,119,119,46,101,120,97,109,112,108,101,46,111,114,103]:List UInt8),([87,87,87,46,69,120,97,109,112,108,101,46,111,114,103]:List UInt8),([42,46,101,120,97,109,112,108,101,46,111,114,103]:List UInt8),([97,46,98]:List UInt8),([111,114,103]:List UInt8),([109,121,101,120,97,109,112,108,101,46,111,114,103]:List UInt8)]
def ips:List Bs:= [([10,0,0,1]:List UInt8),([10,1,2,3]:List UInt8),([192,168,1,7]:List UInt8),([32,1,13,184,0,0,0,0,0,0,0,0,0,0,0,1]:List UInt8)]
theorem GW (m:Nat):(ct.all fun s=>DL m (1,s))=true:=by kernel_rfl
theorem DB (m:Nat):(hY.all fun s=>DL m (2,s))=true:=by kernel_rfl
theorem PV (m:Nat):(ips.all fun s=>DL m (7,s))=true:=by kernel_rfl
def JM (n:Nat) (g:Gen):Prop:=BdG 252 g∧∃e,yy n g false=some e
theorem V3 {n:Nat} {kd r:Int} {l:List Bs} (hn:1000≤n) (h:∀m,(l.all fun s=>DL m (kd,s))=true) (h0:0≤r) (h1:r<(l.length:Int)):∃x,z6 l r=some x∧JM n ⟨kd,x,⟨[]⟩⟩:=by
 obtain⟨x,ex⟩:=ul (s:=l) (i:=r) h0 h1
 have hx:x∈l:=by
  unfold z6 at ex
  rw [if_pos h0]at ex
  exact List.mem_of_getElem? ex
 obtain⟨m,rfl⟩:∃m,n=m+1000:=⟨n-1000,by omega⟩
 have hb:=List.all_eq_true.1 (h m) x hx
 unfold DL at hb
 cases he:yy (m+1000) ⟨kd,x,⟨[]⟩⟩ false with
 |none=>simp only [he]at hb; cases hb
 | some e=>
  simp only [he,decide_eq_true_eq]at hb
  exact⟨x,ex,⟨hb,⟨by simp,by simp⟩⟩,e,he⟩
theorem D9 {n:Nat} {l:List (List Att)} (hn:1000≤n) (h:BdN 252 l):JM n ⟨4,[],⟨l⟩⟩:=by
 refine⟨⟨by simp,h⟩, ?_⟩
 unfold yy kG
 simp only []
 rw [if_neg (by decide),if_neg (by decide),if_pos (by decide),Option.bind_some,if_neg (by decide),if_pos (by decide),if_neg (by decide),W3 h (by omega) (by omega)]
 exact⟨_,rfl⟩
theorem Zl {n:Nat} {d:zh} (hn:2000≤n) (hd:xZ d):∃g d',yg n d=some (g,d')∧JM n g∧xZ d':=by
 unfold yg
 obtain⟨r,d1,e1,a1,b1,k1⟩:=xb (n:=n) (k:=4) (by decide) (by decide) hd
 rw [e1,Option.bind_some]; simp only []
 by_cases c0:(r==0)=true
 ·rw [if_pos c0]
  obtain⟨r2,d2,e2,a2,b2,k2⟩:=xb (n:=n) (k:=6) (by decide) (by decide) k1
  obtain⟨x,ex,hx⟩:=V3 (n:=n) (kd:=1) (by omega) GW a2 (show r2<((6:Nat):Int)from b2)
  rw [e2,Option.bind_some]; simp only []
  unfold ct at ex; rw [ex]
  exact⟨_,_,rfl,hx,k2⟩
 ·rw [if_neg c0]
  by_cases c1:(r==1)=true
  ·rw [if_pos c1]
   obtain⟨r2,d2,e2,a2,b2,k2⟩:=xb (n:=n) (k:=7) (by decide) (by decide) k1
   obtain⟨x,ex,hx⟩:=V3 (n:=n) (kd:=2) (by omega) DB a2 (show r2<((7:Nat):Int)from b2)
   rw [e2,Option.bind_some]; simp only []
   unfold hY at ex; rw [ex]
   exact⟨_,_,rfl,hx,k2⟩
  ·rw [if_neg c1]
   by_cases c2:(r==2)=true
   ·rw [if_pos c2]
    obtain⟨r2,d2,e2,a2,b2,k2⟩:=xb (n:=n) (k:=4) (by decide) (by decide) k1
    obtain⟨x,ex,hx⟩:=V3 (n:=n) (kd:=7) (by omega) PV a2 (show r2<((4:Nat):Int)from b2)
    rw [e2,Option.bind_some]; simp only []
    unfold ips at ex; rw [ex]
    exact⟨_,_,rfl,hx,k2⟩
   ·rw [if_neg c2]
    obtain⟨x,d2,e2,b2,k2⟩:=Vx (n:=n) (by omega) k1
    rw [e2]
    exact⟨_,_,rfl,D9 (by omega) b2,k2⟩
theorem Y8 {n:Nat} {v:List Bs} {x:Bs} (hv:v.length≤100):∀(j k:Nat) (b:Bool),j≤v.length→j<k→∃r,yY n v x k b ((v.length-j:Nat):Int)=some r
 |j,0,_,_,h=>by omega
 | 0,k+1,b,_,_=>by
  rw [yY,if_neg (by rw [decide_eq_true_eq]; omega)]
  exact⟨_,rfl⟩
 | j+1,k+1,b,hj,hk=>by
  rw [yY,if_pos (by rw [decide_eq_true_eq]; omega)]
  obtain⟨y,ey⟩:=ul (s:=v) (i:=((v.length-(j+1):Nat):Int)) (by omega) (by omega)
  rw [ey,Option.bind_some,wt (by omega),show((v.length-(j+1):Nat):Int)+1=((v.length-j:Nat):Int)by omega]
  cases b with
  |true=>rw [if_pos rfl,Option.bind_some]; exact Y8 hv j k _ (by omega) (by omega)
  |false=>rw [if_neg (by decide),Option.bind_some]; exact Y8 hv j k _ (by omega) (by omega)
theorem Y6 {n:Nat} {a:List Bs} (hn:200≤n) (ha:a.length≤50) (hs:∀s∈a,s.length≤100):∀(j k:Nat) (v:List Bs),j≤a.length→j<k→v.length≤a.length-j→(∀s∈v,s.length≤100) →
  ∃r,yX n a k v ((a.length-j:Nat):Int)=some r∧r.length≤a.length∧∀s∈r,s.length≤100
 |j,0,_,_,h,_,_=>by omega
 | 0,k+1,v,_,_,hv,hw=>by
  rw [yX,if_neg (by rw [decide_eq_true_eq]; omega)]
  exact⟨_,rfl,by omega,hw⟩
 | j+1,k+1,v,hj,hk,hv,hw=>by
  rw [yX,if_pos (by rw [decide_eq_true_eq]; omega)]
  obtain⟨y,ey⟩:=ul (s:=a) (i:=((a.length-(j+1):Nat):Int)) (by omega) (by omega)
  have ly:y.length≤100:=by
   unfold z6 at ey
   rw [if_pos (by omega)]at ey
   exact hs y (List.mem_of_getElem? ey)
  obtain⟨b,eb⟩:=Y8 (n:=n) (v:=v) (x:=y) (by omega) v.length n false (by omega) (by omega)
  rw [show((v.length-v.length:Nat):Int)=0 by omega]at eb
  rw [ey,Option.bind_some,eb,Option.bind_some]
  rw [wt (x:=((a.length-(j+1):Nat):Int)+1) (by omega),show((a.length-(j+1):Nat):Int)+1=((a.length-j:Nat):Int)by omega]
  cases b with
  | true=>
   rw [if_neg (by decide),Option.bind_some]
   exact Y6 hn ha hs j k v (by omega) (by omega) (by omega) hw
  | false=>
   rw [if_pos (by decide),yZ (by rw [List.length_singleton]; omega),Option.bind_some,Option.bind_some]
   refine Y6 hn ha hs j k (v ++ [y]) (by omega) (by omega) (by rw [List.length_append,List.length_singleton]; omega) fun s h=> ?_
   rcases List.mem_append.1 h with h|h
   ·exact hw s h
   ·rw [List.mem_singleton]at h; subst h; exact ly
theorem PI {n:Nat} {a:List Bs} (hn:200≤n) (ha:a.length≤50) (hs:∀s∈a,s.length≤100):∃r,vM n a=some r∧r.length≤a.length∧∀s∈r,s.length≤100:=by
 unfold vM
 obtain⟨r,e,h1,h2⟩:=Y6 hn ha hs a.length n [] (by omega) (by omega) (by simp) (by simp)
 rw [show((a.length-a.length:Nat):Int)=0 by omega]at e
 rw [e]
 exact⟨r,rfl,h1,h2⟩
theorem Ds {n:Nat} {d:zh} (hn:10≤n) (hd:xZ d):∃ps d',yL n 3 d=some (ps,d')∧ps.length≤3∧(∀s∈ps,s.length≤100)∧xZ d':=by
 unfold yL
 obtain⟨r,d',h1,h2,h3,h4⟩:=xb (n:=n) (k:=4) (by decide) (by decide) hd
 rw [show IntKind.wrap .i64 ((3:Int)+1)=4 from rfl,h1,Option.bind_some]
 obtain⟨ps,L',At',e1,e2,e3,e4⟩:=KD (n:=n) r.toNat n [] d'.f_L d'.zO (by omega) (by simp; omega) (by simp) h4
 rw [show((r.toNat:Nat):Int)=r by omega]at e1
 simp only []
 rw [e1]
 exact⟨ps,_,rfl,by simp at e2; omega,e3,e4⟩
def qn9 (n:Nat) (r9:Int×zh):Option (List Int×Int×Bs×Int×List Gen×List Anc):=(if(r9.1==1)=true then(some (r9.2.f_L,r9.2.zO,([49,46,51,46,54,46,49,46,53,46,53,46,55,46,51,46,49]:List UInt8),0,([]:List zc),([]:List ze)))else(if(r9.1==2)=true then(some (r9.2.f_L,r9.2.zO,([]:List UInt8),1,([]:List zc),([]:List ze)))else(if(r9.1==3)=true then((yg n r9.2).bind fun r32=>
 some (r32.2.f_L,r32.2.zO,([]:List UInt8),0,([(zc.mk r32.1.zV r32.1.xE (zu.mk r32.1.zy.zo))]:List zc),([]:List ze)))else(if(r9.1==4)=true then((zj n 4 r9.2).bind fun r33=>
 (z8 n r33.1).bind fun r34=>
 some (r33.2.f_L,r33.2.zO,([]:List UInt8),0,([]:List zc),([(ze.mk (zu.mk r34.zy.zo) (zv.mk r34.zE.zA r34.zE.xL r34.zE.zY))]:List ze)))else(if(r9.1==5)=true then((zj n 4 r9.2).bind fun r35=>
 (z8 n r35.1).bind fun r36=>
 (zj n 4 r35.2).bind fun r37=>
 (z8 n r37.1).bind fun r38=>
 some (r37.2.f_L,r37.2.zO,([]:List UInt8),0,([]:List zc),([(ze.mk (zu.mk r36.zy.zo) (zv.mk r36.zE.zA r36.zE.xL r36.zE.zY)),(ze.mk (zu.mk r38.zy.zo) (zv.mk r38.zE.zA r38.zE.xL r38.zE.zY))]:List ze)))else(some (r9.2.f_L,r9.2.zO,([]:List UInt8),0,([]:List zc),([]:List ze))))))))
theorem cn {n:Nat} {k:Int} {d:zh} (hn:2000≤n) (hd:xZ d):∃L At pu us nm an,qn9 n (k,d)=some (L,At,pu,us,nm,an)∧xZ ⟨L,At⟩∧pu.length≤100∧(nm.length≤1∧∀g∈nm,JM n g)∧an.length≤2∧∀a∈an,BdN 252 a.zy.zo:=by
 unfold qn9
 simp only []
 by_cases c1:(k==1)=true
 ·rw [if_pos c1]; exact⟨_,_,_,_,_,_,rfl,hd,by decide,⟨by simp,by simp⟩,by simp,by simp⟩
 rw [if_neg c1]
 by_cases c2:(k==2)=true
 ·rw [if_pos c2]; exact⟨_,_,_,_,_,_,rfl,hd,by decide,⟨by simp,by simp⟩,by simp,by simp⟩
 rw [if_neg c2]
 by_cases c3:(k==3)=true
 ·rw [if_pos c3]
  obtain⟨g,d2,e2,g2,k2⟩:=Zl (n:=n) hn hd
  rw [e2]
  exact⟨_,_,_,_,_,_,rfl,k2,by decide,⟨by simp,by simpa using g2⟩,by simp,by simp⟩
 rw [if_neg c3]
 by_cases c4:(k==4)=true
 ·rw [if_pos c4]
  obtain⟨r,d2,e2,a2,b2,k2⟩:=xb (n:=n) (k:=4) (by decide) (by decide) hd
  obtain⟨x,ex,hx⟩:=WP (n:=n) hn a2 b2
  rw [e2,Option.bind_some]; simp only []; rw [ex]
  exact⟨_,_,_,_,_,_,rfl,k2,by decide,⟨by simp,by simp⟩,by simp,by simpa using hx⟩
 rw [if_neg c4]
 by_cases c5:(k==5)=true
 ·rw [if_pos c5]
  obtain⟨r,d2,e2,a2,b2,k2⟩:=xb (n:=n) (k:=4) (by decide) (by decide) hd
  obtain⟨x,ex,hx⟩:=WP (n:=n) hn a2 b2
  obtain⟨r3,d3,e3,a3,b3,k3⟩:=xb (n:=n) (k:=4) (by decide) (by decide) k2
  obtain⟨y,ey,hy⟩:=WP (n:=n) hn a3 b3
  rw [e2,Option.bind_some]; simp only []; rw [ex,Option.bind_some,e3,Option.bind_some]; simp only []; rw [ey]
  exact⟨_,_,_,_,_,_,rfl,k3,by decide,⟨by simp,by simp⟩,by simp,by simpa using ⟨hx,hy⟩⟩
 rw [if_neg c5]
 exact⟨_,_,_,_,_,_,rfl,hd,by decide,⟨by simp,by simp⟩,by simp,by simp⟩
theorem Pe {n:Nat} {d:zh} (hn:2000≤n) (hd:xZ d):∃t pu us ps b1 b2 b3 nm ml b4 an d',vw n d=some (t,pu,us,ps,b1,b2,b3,nm,ml,b4,an,d')∧xZ d'∧pu.length≤100∧(ps.length≤3∧∀s∈ps,s.length≤100)∧(nm.length≤1∧∀g∈nm,JM n g)∧an.length≤2∧∀a∈an,BdN 252 a.zy.zo:=by
 unfold vw
 obtain⟨r1,d1,e1,_,_,k1⟩:=xb (n:=n) (k:=4) (by decide) (by decide) hd
 obtain⟨r2,d2,e2,_,_,k2⟩:=xb (n:=n) (k:=6) (by decide) (by decide) k1
 obtain⟨r3,d3,e3,_,_,k3⟩:=xb (n:=n) (k:=6) (by decide) (by decide) k2
 obtain⟨r4,d4,e4,_,_,k4⟩:=xb (n:=n) (k:=6) (by decide) (by decide) k3
 obtain⟨r5,d5,e5,_,_,k5⟩:=xb (n:=n) (k:=3) (by decide) (by decide) k4
 obtain⟨r6,d6,e6,_,_,k6⟩:=xb (n:=n) (k:=4) (by decide) (by decide) k5
 rw [e1,Option.bind_some,e2,Option.bind_some,e3,Option.bind_some,e4,Option.bind_some,e5,Option.bind_some,e6,Option.bind_some]
 simp only []
 by_cases c:(r6==1)=true
 ·rw [if_pos c]
  obtain⟨ps,d7,e7,p7,q7,k7⟩:=Ds (n:=n) (by omega) k6
  obtain⟨ps',e8,p8,q8⟩:=PI (n:=n) (by omega) (show ps.length≤50 by omega) q7
  obtain⟨r9,d9,e9,_,_,k9⟩:=xb (n:=n) (k:=8) (by decide) (by decide) k7
  obtain⟨L,At,pu,us,nm,an,e,h1,h2,h3,h4,h5⟩:=cn (n:=n) (k:=r9) hn k9
  unfold qn9 at e
  rw [e7,Option.bind_some]; simp only []; rw [e8,Option.bind_some,e9,Option.bind_some,e]
  exact⟨_,_,_,_,_,_,_,_,_,_,_,_,rfl,h1,h2,⟨by omega,q8⟩,h3,h4,h5⟩
 ·rw [if_neg c]
  obtain⟨r9,d9,e9,_,_,k9⟩:=xb (n:=n) (k:=8) (by decide) (by decide) k6
  obtain⟨L,At,pu,us,nm,an,e,h1,h2,h3,h4,h5⟩:=cn (n:=n) (k:=r9) hn k9
  unfold qn9 at e
  rw [e9,Option.bind_some,e]
  exact⟨_,_,_,_,_,_,_,_,_,_,_,_,rfl,h1,h2,⟨by simp,by simp⟩,h3,h4,h5⟩
def qn4 (n:Nat) (r4:Int×zh) (nm:List Gen):Option (List Int×Int×List Gen):=(if(decide (r4.1>0))=true then((yg n r4.2).bind fun r24=>
 (kW 48 nm ([(zc.mk r24.1.zV r24.1.xE (zu.mk r24.1.zy.zo))]:List zc)).bind fun x25=>
 if(decide ((IntKind.wrap .i64 (r4.1-1))>0))=true then((yg n r24.2).bind fun r28=>
 (u4 48 x25 ([(zc.mk r28.1.zV r28.1.xE (zu.mk r28.1.zy.zo))]:List zc)).bind fun x29=>
 if(decide ((IntKind.wrap .i64 ((IntKind.wrap .i64 (r4.1-1))-1))>0))=true then(none)else(some (r28.2.f_L,r28.2.zO,x29)))else(some (r24.2.f_L,r24.2.zO,x25)))else(some (r4.2.f_L,r4.2.zO,nm)))
theorem Jm {α:Type} {b:Nat} {l:List α} {x:α} (h:(l.length+1)*b≤140737488355328):kW b l [x]=some (l ++ [x]):=if_pos ⟨by simp,by simpa using h⟩
theorem cU {n:Nat} {k:Int} {d:zh} {nm:List Gen} (hn:2000≤n) (hd:xZ d) (h0:0≤k) (h1:k<3) (hm:nm.length≤1) (hg:∀g∈nm,JM n g):∃L At r,qn4 n (k,d) nm=some (L,At,r)∧xZ ⟨L,At⟩∧r.length≤3∧∀g∈r,JM n g:=by
 unfold qn4
 simp only []
 have hk:k=0∨k=1∨k=2:=by omega
 rcases hk with rfl|rfl|rfl
 ·rw [if_neg (by rw [decide_eq_true_eq]; decide)]; exact⟨_,_,_,rfl,hd,by omega,hg⟩
 ·rw [if_pos (by rw [decide_eq_true_eq]; decide)]
  obtain⟨g,d2,e2,g2,k2⟩:=Zl (n:=n) hn hd
  rw [e2,Option.bind_some]; simp only []
  rw [Jm (by omega),Option.bind_some,if_neg (by rw [decide_eq_true_eq]; decide)]
  refine⟨_,_,_,rfl,k2,by rw [List.length_append,List.length_singleton]; omega,fun x hx=> ?_⟩
  rcases List.mem_append.1 hx with h|h
  ·exact hg x h
  ·rw [List.mem_singleton]at h; subst h; exact g2
 ·rw [if_pos (by rw [decide_eq_true_eq]; decide)]
  obtain⟨g,d2,e2,g2,k2⟩:=Zl (n:=n) hn hd
  obtain⟨g',d3,e3,g3,k3⟩:=Zl (n:=n) hn k2
  rw [e2,Option.bind_some]; simp only []
  rw [Jm (by omega),Option.bind_some,if_pos (by rw [decide_eq_true_eq]; decide),e3,Option.bind_some]; simp only []
  rw [yZ (by simp only [List.length_append,List.length_singleton]; omega),Option.bind_some,if_neg (by rw [decide_eq_true_eq]; decide)]
  refine⟨_,_,_,rfl,k3,by simp only [List.length_append,List.length_singleton]; omega,fun x hx=> ?_⟩
  rcases List.mem_append.1 hx with h|h
  ·rcases List.mem_append.1 h with h|h
   ·exact hg x h
   ·rw [List.mem_singleton]at h; subst h; exact g2
  ·rw [List.mem_singleton]at h; subst h; exact g3
def cV (n:Nat) (r34:Int×zh) (an:List Anc):Option (List Int×Int×List Anc):=(if(decide (r34.1>0))=true then((xC n r34.2).bind fun r61=>
 (wi n r61.2).bind fun r62=>
 (kW 64 an ([(ze.mk r61.1 r62.1)]:List ze)).bind fun x63=>
 if(decide ((IntKind.wrap .i64 (r34.1-1))>0))=true then((xC n r62.2).bind fun r67=>
 (wi n r67.2).bind fun r68=>
 (u4 64 x63 ([(ze.mk r67.1 r68.1)]:List ze)).bind fun x69=>
 if(decide ((IntKind.wrap .i64 ((IntKind.wrap .i64 (r34.1-1))-1))>0))=true then(none)else(some (r68.2.f_L,r68.2.zO,x69)))else(some (r62.2.f_L,r62.2.zO,x63)))else(some (r34.2.f_L,r34.2.zO,an)))
theorem PP {n:Nat} {k:Int} {d:zh} {nm:List Anc} (hn:2000≤n) (hd:xZ d) (h0:0≤k) (h1:k<3) (hm:nm.length≤2) (hg:∀a∈nm,BdN 252 a.zy.zo):∃L At r,cV n (k,d) nm=some (L,At,r)∧xZ ⟨L,At⟩∧r.length≤4∧∀a∈r,BdN 252 a.zy.zo:=by
 unfold cV
 simp only []
 have hk:k=0∨k=1∨k=2:=by omega
 rcases hk with rfl|rfl|rfl
 ·rw [if_neg (by rw [decide_eq_true_eq]; decide)]; exact⟨_,_,_,rfl,hd,by omega,hg⟩
 ·rw [if_pos (by rw [decide_eq_true_eq]; decide)]
  obtain⟨g,d2,e2,g2,k2⟩:=Vx (n:=n) (by omega) hd
  obtain⟨y,d3,e3,k3⟩:=Km (n:=n) (by omega) k2
  rw [e2,Option.bind_some]; simp only []
  rw [e3,Option.bind_some]; simp only []
  rw [Jm (by omega),Option.bind_some,if_neg (by rw [decide_eq_true_eq]; decide)]
  refine⟨_,_,_,rfl,k3,by rw [List.length_append,List.length_singleton]; omega,fun x hx=> ?_⟩
  rcases List.mem_append.1 hx with h|h
  ·exact hg x h
  ·rw [List.mem_singleton]at h; subst h; exact g2
 ·rw [if_pos (by rw [decide_eq_true_eq]; decide)]
  obtain⟨g,d2,e2,g2,k2⟩:=Vx (n:=n) (by omega) hd
  obtain⟨y,d3,e3,k3⟩:=Km (n:=n) (by omega) k2
  obtain⟨g',d4,e4,g4,k4⟩:=Vx (n:=n) (by omega) k3
  obtain⟨y',d5,e5,k5⟩:=Km (n:=n) (by omega) k4
  rw [e2,Option.bind_some]; simp only []
  rw [e3,Option.bind_some]; simp only []
  rw [Jm (by omega),Option.bind_some,if_pos (by rw [decide_eq_true_eq]; decide),e4,Option.bind_some]; simp only []
  rw [e5,Option.bind_some]; simp only []
  rw [yZ (by simp only [List.length_append,List.length_singleton]; omega),Option.bind_some,if_neg (by rw [decide_eq_true_eq]; decide)]
  refine⟨_,_,_,rfl,k5,by simp only [List.length_append,List.length_singleton]; omega,fun x hx=> ?_⟩
  rcases List.mem_append.1 hx with h|h
  ·rcases List.mem_append.1 h with h|h
   ·exact hg x h
   ·rw [List.mem_singleton]at h; subst h; exact g2
  ·rw [List.mem_singleton]at h; subst h; exact g4
def eM (r76:Int×zh) (pu:Bs) (ps:List Bs) (ml:Int):Option (Bs×List Bs×Int):=(if(r76.1==1)=true then(some (pu,ps,0))else(if(r76.1==2)=true then(some (([51,46,49]:List UInt8),ps,ml))else(if(r76.1==3)=true then((u4 16 ps ([([49,46,50,46,51]:List UInt8),([49,46,50,46,51]:List UInt8)]:List (List UInt8))).bind fun x84=>
 some (pu,x84,ml))else(some (pu,ps,ml)))))
theorem PN {r:Int×zh} {pu:Bs} {ps:List Bs} {ml:Int} (h1:pu.length≤100) (h2:ps.length≤3) (h3:∀s∈ps,s.length≤100):∃a b c,eM r pu ps ml=some (a,b,c)∧a.length≤100∧b.length≤5∧∀s∈b,s.length≤100:=by
 unfold eM
 by_cases c1:(r.1==1)=true
 ·rw [if_pos c1]; exact⟨_,_,_,rfl,h1,by omega,h3⟩
 rw [if_neg c1]
 by_cases c2:(r.1==2)=true
 ·rw [if_pos c2]; exact⟨_,_,_,rfl,by decide,by omega,h3⟩
 rw [if_neg c2]
 by_cases c3:(r.1==3)=true
 ·rw [if_pos c3,yZ (by simp only [List.length_cons,List.length_nil]; omega)]
  refine⟨_,_,_,rfl,h1,by simp only [List.length_append,List.length_cons,List.length_nil]; omega,fun s hs=> ?_⟩
  rcases List.mem_append.1 hs with h|h
  ·exact h3 s h
  ·simp only [List.mem_cons,List.not_mem_nil,or_false,or_self]at h; subst h; decide
 rw [if_neg c3]
 exact⟨_,_,_,rfl,h1,by omega,h3⟩
theorem Bm {n B:Nat} (hB:B≤100000) (hn:B+1000≤n) (q:Qry) (hb:∀s∈q.zl,s.length≤B) (hl:q.zl.length≤100):∀(k i:Nat) (m:List (Bs×Bool)),i≤q.zl.length→q.zl.length-i<k→∃c,yc n q k (i:Int) m=some c
 |0,i,m,_,h=>by omega
 | k+1,i,m,hi,hk=>by
  rw [yc]
  by_cases hc:i<q.zl.length
  ·have hx:=hb _ (List.getElem_mem hc)
   rw [if_pos (by rw [decide_eq_true_eq]; omega),yf hc,Option.bind_some,gM (by omega) (by omega),Option.bind_some]
   refine jI (fun _=>⟨_,rfl⟩) fun _=> ?_
   rw [w1 (by omega)]
   exact Bm hB hn q hb hl k (i+1) _ (by omega) (by omega)
  ·rw [if_neg (by rw [decide_eq_true_eq]; omega)]; exact⟨_,rfl⟩
theorem BL {n:Nat} (q:Qry) (ho:∀g∈q.zK,JM n g) (hl:q.zK.length≤100):∀(k i:Nat),i≤q.zK.length→q.zK.length-i<k→∃c,yo n q k (i:Int)=some c
 |0,i,_,h=>by omega
 | k+1,i,hi,hk=>by
  rw [yo]
  by_cases hc:i<q.zK.length
  ·obtain⟨_,e,he⟩:=ho _ (List.getElem_mem hc)
   rw [if_pos (by rw [decide_eq_true_eq]; omega),yf hc,Option.bind_some,show yy n ⟨q.zK[i].zV,q.zK[i].xE,⟨q.zK[i].zy.zo⟩⟩ false=some e from he,Option.bind_some]
   refine jI (fun _=>⟨_,rfl⟩) fun _=> ?_
   rw [w1 (by omega)]
   exact BL q ho hl k (i+1) (by omega) (by omega)
  ·rw [if_neg (by rw [decide_eq_true_eq]; omega)]; exact⟨_,rfl⟩
theorem B5 {n B:Nat} (hB:B≤100000) (hn:B+1000≤n) (q:Qry) (hb:∀a∈q.zz,BdN B a.zy.zo) (hl:q.zz.length≤64):∀(k i:Nat),i≤q.zz.length→q.zz.length-i<k→∃c,yn n q k (i:Int)=some c
 |0,i,_,h=>by omega
 | k+1,i,hi,hk=>by
  rw [yn]
  by_cases hc:i<q.zz.length
  ·rw [if_pos (by rw [decide_eq_true_eq]; omega),yf hc,Option.bind_some,W3 (hb _ (List.getElem_mem hc)) (by omega) (by omega),Option.bind_some]
   refine jI (fun _=>⟨_,rfl⟩) fun _=>jI (fun _=>⟨_,rfl⟩) fun _=> ?_
   rw [Do,Option.bind_some]
   refine jI (fun _=>⟨_,rfl⟩) fun _=> ?_
   rw [w1 (by omega)]
   exact B5 hB hn q hb hl k (i+1) (by omega) (by omega)
  ·rw [if_neg (by rw [decide_eq_true_eq]; omega)]; exact⟨_,rfl⟩
theorem eo {n:Nat} {q:Qry} (hn:2000≤n) (hp:q.zQ.length≤100) (h1:q.zl.length≤5) (h2:∀s∈q.zl,s.length≤100) (h3:q.zK.length≤3) (h4:∀g∈q.zK,JM n g) (h5:q.zz.length≤4) (h6:∀a∈q.zz,BdN 252 a.zy.zo):∃e,xt n q=some e:=by
 unfold xt
 rw [ifb,Option.bind_some]
 refine jI (fun _=>⟨_,rfl⟩) fun _=>kL (jI (fun _=> ?_) fun _=>⟨_,rfl⟩) fun y _=>jI (fun _=>⟨_,rfl⟩) fun _=> ?_
 ·rw [gM (by omega) (by omega)]; exact⟨_,rfl⟩
 rw [mf,Option.bind_some]
 refine jI (fun _=>⟨_,rfl⟩) fun _=> ?_
 rw [cO,Option.bind_some]
 refine jI (fun _=>⟨_,rfl⟩) fun _=> ?_
 refine Kk (Bm (B:=100) (by omega) (by omega) q h2 (by omega) n 0 [] (by omega) (by omega)) (fun _ _=>⟨_,rfl⟩) fun m _=>jI (fun _=>⟨_,rfl⟩) fun _=> ?_
 refine Kk (BL q h4 (by omega) n 0 (by omega) (by omega)) (fun _ _=>⟨_,rfl⟩) fun _ _=> ?_
 exact Kk (B5 (B:=252) (by omega) (by omega) q h6 (by omega) n 0 (by omega) (by omega)) (fun _ _=>⟨_,rfl⟩) fun _ _=>⟨_,rfl⟩
theorem D6 {n:Nat} {d:zh} (hd:xZ d):∃t d',uc n d=some (t,d')∧t∈Ve∧xZ d':=by
 unfold uc
 obtain⟨r,d1,e1,a1,b1,k1⟩:=xb (n:=n) (k:=7) (by decide) (by decide) hd
 obtain⟨x,ex⟩:=ul (s:=Ve) (i:=r) a1 (show r<((7:Nat):Int)from b1)
 have hx:x∈Ve:=by
  have ex:=ex
  unfold z6 at ex
  rw [if_pos a1]at ex
  exact List.mem_of_getElem? ex
 unfold Ve at ex
 rw [e1,Option.bind_some]; simp only []; rw [ex]
 exact⟨_,_,rfl,hx,k1⟩
theorem DN {n:Nat} {d:zh} (hn:2000≤n) (hd:xZ d):∃q d',vz n d=some (q,d')∧BdQ 252 q∧q.zz.length≤6∧q.qq∈Ve∧(∃e,xt n q=some e)∧xZ d':=by
 unfold vz
 obtain⟨t,pu,us,ps,b1,b2,b3,nm,ml,b4,an,d1,e1,k1,hpu,⟨hps,hpl⟩,⟨hnm,hng⟩,han,hab⟩:=Pe (n:=n) hn hd
 obtain⟨tm,d2,e2,htm,k2⟩:=D6 (n:=n) k1
 obtain⟨r3,d3,e3,_,_,k3⟩:=xb (n:=n) (k:=512) (by decide) (by decide) k2
 obtain⟨r4,d4,e4,a4,b4',k4⟩:=xb (n:=n) (k:=3) (by decide) (by decide) k3
 obtain⟨L5,At5,nm',e5,k5,hnm',hng'⟩:=cU (n:=n) (nm:=nm) hn k4 a4 b4' hnm hng
 obtain⟨r6,d6,e6,a6,b6,k6⟩:=xb (n:=n) (k:=3) (by decide) (by decide) k5
 obtain⟨L7,At7,an',e7,k7,han',hab'⟩:=PP (n:=n) (nm:=an) hn k6 a6 b6 han hab
 obtain⟨r8,d8,e8,a8,b8,k8⟩:=xb (n:=n) (k:=24) (by decide) (by decide) k7
 obtain⟨pu',ps',ml',e9,h1,h2,h3⟩:=PN (r:=(r8,d8)) (pu:=pu) (ps:=ps) (ml:=ml) hpu hps hpl
 unfold qn4 at e5
 unfold cV at e7
 unfold eM at e9
 rw [e1,Option.bind_some]; dsimp only
 rw [e2,Option.bind_some]; dsimp only
 rw [e3,Option.bind_some]; dsimp only
 rw [e4,Option.bind_some]
 rw [show(if decide ((r4,d4).1>0)=true then _ else _)=some (L5,At5,nm')from e5,Option.bind_some]; dsimp only
 rw [e6,Option.bind_some]
 rw [show(if decide ((r6,d6).1>0)=true then _ else _)=some (L7,At7,an')from e7,Option.bind_some]; dsimp only
 rw [e8,Option.bind_some]
 rw [show(if((r8,d8).1==1)=true then _ else _)=some (pu',ps',ml')from e9,Option.bind_some]
 refine⟨_,_,rfl,⟨by show pu'.length≤252; omega,fun s hs=>by have:=h3 s hs; omega,fun g hg=>(hng' g hg).1,hab'⟩,by show an'.length≤6; omega,htm, ?_,k8⟩
 exact eo hn h1 h2 h3 hnm' hng' han' hab'
theorem Q7 {n:Nat} (hn:200000000≤n) (l:List Int) (hl:l.length≤9223372036854775807):wP n l=some true:=by
  have hd:xZ ⟨l,0⟩:=⟨by simp,by simp,hl⟩
  have aw:xx n=some true:=by
    obtain⟨m,rfl⟩:∃m,n=m+1000:=⟨n-1000,by omega⟩
    exact eK m
  unfold wP
  obtain⟨q,d1,e1,hb,hi,ht,⟨e,hv⟩,k1⟩:=DN (n:=n) (by omega) hd
  obtain⟨f,d2,e2,g1,g2,g3,k2⟩:=D8 (n:=n) (by omega) k1
  rw [show jr n l=some ⟨l,0⟩from rfl,Option.bind_some,e1,Option.bind_some]; dsimp only
  rw [e2,Option.bind_some]; dsimp only
  have hF:((yw n f).bind fun r18=>
     if(r18.2==0)=true then((xM n r18.1).bind fun r19=>
     (yw n (zp.mk r19.1.xF r19.1.zW (z7.mk r19.1.zr.xa r19.1.zr.zZ r19.1.zr.zl))).bind fun r20=>
     (if(r19.2 !=0)=true then(some true)else(if(r20.2 !=0)=true then(some true)else(if(!(r20.1==r18.1))=true then(some true)else((xe n f (zp.mk r19.1.xF r19.1.zW (z7.mk r19.1.zr.xa r19.1.zr.zZ r19.1.zr.zl))).bind fun r21=>
     some (!r21))))).bind fun y23=>
     if y23=true then(some false)else((xx n).bind fun r24=>
     some r24))else((xx n).bind fun r25=>
     some r25))=some true:=by
    have hf:Fit n 200 f:=⟨by omega,by omega,by omega,fun s hs=>by have:=g3 s hs; omega,by omega⟩
    rw [eG hf,Option.bind_some,aw]
    by_cases c:(p6 f).2=0
    · have ef:p6 f=((p6 f).1,0):=by rw [←c]
      rw [if_pos (by rw [c]; rfl),Gj hn ef,Option.bind_some]; dsimp only
      rw [show yw n ⟨f.xF,f.zW,⟨f.zr.xa,f.zr.zZ,f.zr.zl⟩⟩=some (p6 f)from eG hf,Option.bind_some,
        show xe n f ⟨f.xF,f.zW,⟨f.zr.xa,f.zr.zZ,f.zr.zl⟩⟩=some true from Gt (by omega) (by omega) (by omega)]
      rw [if_neg (by simp),if_neg (by rw [c]; simp),if_neg (by simp),Option.bind_some,Option.bind_some,if_neg (by simp),Option.bind_some]
    · rw [if_neg (by simpa using c),Option.bind_some]
  by_cases c:e=0
  · subst c
    obtain⟨b,c1,c2,c3⟩:=hG (b:= []) hn hb hi ht hv
    have hq:=(Q2 (B:=252) (by omega) (by omega) hb hv).1
    have c4:=Gs hn ⟨hq,hb,hi⟩
    rw [c1,Option.bind_some]; dsimp only
    rw [if_pos (show((0:Int)==0)=true by decide),c2,Option.bind_some]; dsimp only
    rw [c3,Option.bind_some,if_neg (by decide),if_neg (by simp),if_neg (by simp),c4,Option.bind_some,Option.bind_some,if_neg (by simp)]
    simp only [xJ]
    exact hF
  · have c1:yv n q=some ([],e):=by
      unfold yv
      rw [hv,Option.bind_some,if_pos (by simpa using c)]
    rw [c1,Option.bind_some]; dsimp only
    rw [if_neg (by simpa using c)]
    simp only [xJ]
    exact hF
end Go.Abs
end
