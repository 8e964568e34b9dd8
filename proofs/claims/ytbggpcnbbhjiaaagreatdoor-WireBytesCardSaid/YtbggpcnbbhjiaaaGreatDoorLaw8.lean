/- The typed Lean form of WireBytes gives true for every string. No condition. -/
import Derived.Test.YtbggpcnbbhjiaaaGreatDoorLaw7
set_option linter.unusedVariables false
set_option linter.unusedSimpArgs false
set_option linter.unnecessarySimpa false
section
set_option maxRecDepth 100000
namespace Go.Abs
open Go Go.Proofs IntKind
abbrev Dt:=yd
theorem ch5 {a b c d e:Bool} {o:Option Bool}:(if a=true then some true else(if b=true then some true else(if c=true then some true else(if d=true then some true else(if e=true then some true else o)))))=if(a||(b||(c||(d||e))))=true then some true else o:=by
 cases a<;>cases b<;>cases c<;>cases d<;>cases e<;>rfl
theorem ch6 {a b c d e f:Bool}:(if a=true then some true else(if b=true then some true else(if c=true then some true else(if d=true then some true else(if e=true then some true else some f)))))=some (a||(b||(c||(d||(e||f))))):=by
 cases a<;>cases b<;>cases c<;>cases d<;>cases e<;>rfl
theorem lw {n:Nat} {D:Dt}:∀(k:Nat) (v w:Int),qc n D k v w=yW n D k v w
 |0,_,_=>rfl
 | k+1,v,w=>by
  rw [qc,yW]
  simp only [eK,lw k]
theorem mO {n:Nat} {D:Dt} (hy:0≤D.kZ) (hm:D.qo≤12):∀(j k:Nat) (v:Int),j≤12→j<k→∃x,yW n D k v ((13-j:Nat):Int)=some x
 |j,0,_,_,h=>O0
 | 0,k+1,v,_,_=>by
  rw [yW,L3 O4]; exact⟨_,rfl⟩
 | j+1,k+1,v,hj,hk=>by
  rw [yW]
  refine yn (fun _=> ?_) fun _=>⟨_,rfl⟩
  rw [QP hy _ O0 O0,L0,w1 O0,show 13-(j+1)+1=13-j by omega]
  exact mO hy hm j k _ O0 O0
theorem cN {n:Nat} {D:Dt} (hn:20≤n):∃r,uG n D=some r∧we n D=some r∧(D.qo<0∨D.pp<0∨D.pf<0∨D.qS<0∨D.qW<0→r=(0,12)):=by
 unfold uG we
 simp only [eK,fd,lw]
 rw [ch6,ch5,ch5]
 by_cases c1:(decide (D.kZ<1950)||(decide (D.kZ>9999)||(decide (D.qo<1)||(decide (D.qo>12)||decide (D.pp<1)))))=true
 ·rw [L4 c1,L4 c1]; exact⟨_,rfl,rfl,fun _=>rfl⟩
 ·rw [L3 c1,L3 c1]
  simp only [Bool.or_eq_true,L2,not_or]at c1
  obtain⟨m,hm⟩:∃m:Nat,D.qo=(m:Int):=⟨D.qo.toNat,O0⟩
  have hd:=QP (n:=n) (y:=D.kZ) O0 m O0 O0
  rw [hm,hd]
  simp only [L0]
  by_cases c2:decide (D.pp>(ml (lpY D.kZ) m:Nat))=true
  ·simp only [L4 c2,L0,if_true]; exact⟨_,rfl,rfl,fun _=>rfl⟩
  ·simp only [L3 c2,L0]
   by_cases c3:(decide (D.pf<0)||(decide (D.pf>23)||(decide (D.qS<0)||(decide (D.qS>59)||(decide (D.qW<0)||decide (D.qW>59))))))=true
   ·simp only [L4 c3]; exact⟨_,rfl,rfl,fun _=>rfl⟩
   ·simp only [L3 c3]
    rw [XN O0 O0,L0]
    simp only [Bool.or_eq_true,L2,not_or]at c3
    obtain⟨x,hx⟩:=mO (n:=n) (D:=D) O0 O0 12 n (wrap .i64 (wrap .i64 (bef D.kZ+D.pp)-1)) O0 O0
    rw [show((13-12:Nat):Int)=1 from rfl]at hx
    rw [hx,L0]
    exact⟨_,rfl,rfl,fun h=>O0⟩
theorem zeg {n:Nat} {c0 c1 c2 c3 c4 c5 c6 c7 c8 c9 c10 c11 c12:UInt8}:yE n 23 [c0,c1,c2,c3,c4,c5,c6,c7,c8,c9,c10,c11,c12]=(some (((c12.toNat:Nat):Int) !=90)).bind fun y7=>if y7=true then(some (0,12))else((yG n [c0,c1]).bind fun r9=>z8 ((if(decide (r9<0))=true then(some true)else(some false)).bind fun y23=>if y23=true then(some (.ret (0,12)))else((some (decide (r9≥50))).bind fun y25=>if y25=true then(some (.nxt (wrap .i64 (r9+1900))))else(some (.nxt (wrap .i64 (r9+2000)))))) (fun r=>some r) (fun y19=>(ko n y19 [c2,c3,c4,c5,c6,c7,c8,c9,c10,c11,c12]).bind fun r27=>(uG n r27).bind fun r28=>some (r28.1,r28.2))):=O7
theorem zek {n:Nat} {y:Int} {c2 c3 c4 c5 c6 c7 c8 c9 c10 c11 c12:UInt8}:ko n y [c2,c3,c4,c5,c6,c7,c8,c9,c10,c11,c12]=(yG n [c2,c3]).bind fun r6=>(yG n [c4,c5]).bind fun r7=>(yG n [c6,c7]).bind fun r8=>(yG n [c8,c9]).bind fun r9=>(yG n [c10,c11]).bind fun r10=>some (yd.mk y r6 r7 r8 r9 r10):=O7
theorem zeW {n:Nat} {c0 c1 c2 c3 c4 c5 c6 c7 c8 c9 c10 c11 c12:UInt8}:zN n 23 [c0,c1,c2,c3,c4,c5,c6,c7,c8,c9,c10,c11,c12]=((if(((c12.toNat:Nat):Int) !=90)=true then(some true)else((zH n [c0,c1,c2,c3,c4,c5,c6,c7,c8,c9,c10,c11]).bind fun r8=>some (decide (r8<0))))).bind fun y10=>if y10=true then(some (0,12))else((zH n [c0,c1]).bind fun r12=>z8 ((some false).bind fun y26=>if y26=true then(some (.ret (0,12)))else((some (decide (r12≥50))).bind fun y28=>if y28=true then(some (.nxt (wrap .i64 (r12+1900))))else(some (.nxt (wrap .i64 (r12+2000)))))) (fun r=>some r) (fun y22=>(zH n [c2,c3]).bind fun r34=>(zH n [c4,c5]).bind fun r35=>(zH n [c6,c7]).bind fun r36=>(zH n [c8,c9]).bind fun r37=>(zH n [c10,c11]).bind fun r38=>(we n (yd.mk y22 r34 r35 r36 r37 r38)).bind fun r39=>some (r39.1,r39.2))):=O7
theorem zdU {n:Nat} (hn:40≤n) {c0 c1 c2 c3 c4 c5 c6 c7 c8 c9 c10 c11 c12:UInt8}:∃r,yE n 23 [c0,c1,c2,c3,c4,c5,c6,c7,c8,c9,c10,c11,c12]=some r∧zN n 23 [c0,c1,c2,c3,c4,c5,c6,c7,c8,c9,c10,c11,c12]=some r:=by
 rw [zeg,zeW]
 rw [(qz (n:=n) (s:= [c0,c1]) O2 O0).1,(qz (n:=n) (s:= [c0,c1]) O2 O0).2]
 rw [(qz (n:=n) (s:= [c0,c1,c2,c3,c4,c5,c6,c7,c8,c9,c10,c11]) O2 O0).2]
 rw [(qz (n:=n) (s:= [c2,c3]) O2 O0).2]
 rw [(qz (n:=n) (s:= [c4,c5]) O2 O0).2]
 rw [(qz (n:=n) (s:= [c6,c7]) O2 O0).2]
 rw [(qz (n:=n) (s:= [c8,c9]) O2 O0).2]
 rw [(qz (n:=n) (s:= [c10,c11]) O2 O0).2]
 by_cases z:(((c12.toNat:Nat):Int) !=90)=true
 ·rw [z]; exact⟨_,rfl,rfl⟩
 rw [Bool.not_eq_true]at z
 rw [z]
 simp only [L0]
 rw [L3 (show ¬(false=true)by decide),L3 (show ¬(false=true)by decide)]
 have key:∀Y:Int,∃r,((ko n Y [c2,c3,c4,c5,c6,c7,c8,c9,c10,c11,c12]).bind fun r27=>(uG n r27).bind fun r28=>some (r28.1,r28.2))=some r∧((we n (yd.mk Y (qk [c2,c3]) (qk [c4,c5]) (qk [c6,c7]) (qk [c8,c9]) (qk [c10,c11]))).bind fun r39=>some (r39.1,r39.2))=some r∧(([c0,c1,c2,c3,c4,c5,c6,c7,c8,c9,c10,c11]).any ndg=true→([c0,c1]).any ndg=false→r=(0,12)):=by
  intro Y
  rw [zek,(qz (n:=n) (s:= [c2,c3]) O2 O0).1,(qz (n:=n) (s:= [c4,c5]) O2 O0).1,(qz (n:=n) (s:= [c6,c7]) O2 O0).1,(qz (n:=n) (s:= [c8,c9]) O2 O0).1,(qz (n:=n) (s:= [c10,c11]) O2 O0).1]
  simp only [L0]
  obtain⟨r,h1,h2,h3⟩:=cN (n:=n) (D:=yd.mk Y (qk [c2,c3]) (qk [c4,c5]) (qk [c6,c7]) (qk [c8,c9]) (qk [c10,c11])) O0
  rw [h1,h2]
  refine⟨r,rfl,rfl,fun hw hy=>h3 ?_⟩
  have hs:([c0,c1,c2,c3,c4,c5,c6,c7,c8,c9,c10,c11]).any ndg=(([c0,c1]).any ndg||(([c2,c3]).any ndg||(([c4,c5]).any ndg||(([c6,c7]).any ndg||(([c8,c9]).any ndg||([c10,c11]).any ndg))))):=by
   simp only [List.any_cons,List.any_nil,Bool.or_false,Bool.or_assoc]
  rw [hs,hy,Bool.false_or]at hw
  simp only [Bool.or_eq_true]at hw
  rcases hw with h|h|h|h|h
  ·exact .inl (by show qk _<0; rw [qV h]; decide)
  ·exact .inr (.inl (by show qk _<0; rw [qV h]; decide))
  ·exact .inr (.inr (.inl (by show qk _<0; rw [qV h]; decide)))
  ·exact .inr (.inr (.inr (.inl (by show qk _<0; rw [qV h]; decide))))
  ·exact .inr (.inr (.inr (.inr ((by show qk _<0; rw [qV h]; decide)))))
 cases hy:([c0,c1]).any ndg with
 | true=>
  have hw:([c0,c1,c2,c3,c4,c5,c6,c7,c8,c9,c10,c11]).any ndg=true:=by
   have hs:([c0,c1,c2,c3,c4,c5,c6,c7,c8,c9,c10,c11]).any ndg=(([c0,c1]).any ndg||([c2,c3,c4,c5,c6,c7,c8,c9,c10,c11]).any ndg):=by simp only [List.any_cons,List.any_nil,Bool.or_false,Bool.or_assoc]
   rw [hs,hy,Bool.true_or]
  rw [qV hy,qV hw]; exact⟨_,rfl,rfl⟩
 | false=>
  obtain⟨y0,y1⟩:=KE hy
  cases hw:([c0,c1,c2,c3,c4,c5,c6,c7,c8,c9,c10,c11]).any ndg with
  | true=>
   rw [qV hw]
   have e:decide (qk [c0,c1]<0)=false:=by rw [decide_eq_false_iff_not]; omega
   rw [e]
   by_cases h50:decide (qk [c0,c1]≥50)=true
   ·obtain⟨r,h1,_,h3⟩:=key (wrap .i64 (qk [c0,c1]+1900))
    rw [h3 hw hy]at h1
    rw [h50]; exact⟨_,h1,rfl⟩
   ·obtain⟨r,h1,_,h3⟩:=key (wrap .i64 (qk [c0,c1]+2000))
    rw [h3 hw hy]at h1
    rw [Bool.not_eq_true]at h50
    rw [h50]; exact⟨_,h1,rfl⟩
  | false=>
   obtain⟨w0,_⟩:=KE hw
   have e:decide (qk [c0,c1]<0)=false:=by rw [decide_eq_false_iff_not]; omega
   have e2:decide (qk [c0,c1,c2,c3,c4,c5,c6,c7,c8,c9,c10,c11]<0)=false:=by rw [decide_eq_false_iff_not]; omega
   rw [e,e2]
   by_cases h50:decide (qk [c0,c1]≥50)=true
   ·obtain⟨r,h1,h2,_⟩:=key (wrap .i64 (qk [c0,c1]+1900))
    rw [h50]; exact⟨r,h1,h2⟩
   ·obtain⟨r,h1,h2,_⟩:=key (wrap .i64 (qk [c0,c1]+2000))
    rw [Bool.not_eq_true]at h50
    rw [h50]; exact⟨r,h1,h2⟩
theorem zeG {n:Nat} {c0 c1 c2 c3 c4 c5 c6 c7 c8 c9 c10 c11 c12 c13 c14:UInt8}:yE n 24 [c0,c1,c2,c3,c4,c5,c6,c7,c8,c9,c10,c11,c12,c13,c14]=(some (((c14.toNat:Nat):Int) !=90)).bind fun y7=>if y7=true then(some (0,12))else((yG n [c0,c1,c2,c3]).bind fun r9=>z8 ((if(decide (r9<0))=true then(some true)else(some (decide (r9<2050)))).bind fun y23=>if y23=true then(some (.ret (0,12)))else((some false).bind fun y25=>if y25=true then(some (.nxt (wrap .i64 (r9+1900))))else(some (.nxt r9)))) (fun r=>some r) (fun y19=>(ko n y19 [c4,c5,c6,c7,c8,c9,c10,c11,c12,c13,c14]).bind fun r27=>(uG n r27).bind fun r28=>some (r28.1,r28.2))):=O7
theorem zdW {n:Nat} {y:Int} {c4 c5 c6 c7 c8 c9 c10 c11 c12 c13 c14:UInt8}:ko n y [c4,c5,c6,c7,c8,c9,c10,c11,c12,c13,c14]=(yG n [c4,c5]).bind fun r6=>(yG n [c6,c7]).bind fun r7=>(yG n [c8,c9]).bind fun r8=>(yG n [c10,c11]).bind fun r9=>(yG n [c12,c13]).bind fun r10=>some (yd.mk y r6 r7 r8 r9 r10):=O7
theorem zeY {n:Nat} {c0 c1 c2 c3 c4 c5 c6 c7 c8 c9 c10 c11 c12 c13 c14:UInt8}:zN n 24 [c0,c1,c2,c3,c4,c5,c6,c7,c8,c9,c10,c11,c12,c13,c14]=((if(((c14.toNat:Nat):Int) !=90)=true then(some true)else((zH n [c0,c1,c2,c3,c4,c5,c6,c7,c8,c9,c10,c11,c12,c13]).bind fun r8=>some (decide (r8<0))))).bind fun y10=>if y10=true then(some (0,12))else((zH n [c0,c1,c2,c3]).bind fun r12=>z8 ((some (decide (r12<2050))).bind fun y26=>if y26=true then(some (.ret (0,12)))else((some false).bind fun y28=>if y28=true then(some (.nxt (wrap .i64 (r12+1900))))else(some (.nxt r12)))) (fun r=>some r) (fun y22=>(zH n [c4,c5]).bind fun r34=>(zH n [c6,c7]).bind fun r35=>(zH n [c8,c9]).bind fun r36=>(zH n [c10,c11]).bind fun r37=>(zH n [c12,c13]).bind fun r38=>(we n (yd.mk y22 r34 r35 r36 r37 r38)).bind fun r39=>some (r39.1,r39.2))):=O7
theorem zd0 {n:Nat} (hn:40≤n) {c0 c1 c2 c3 c4 c5 c6 c7 c8 c9 c10 c11 c12 c13 c14:UInt8}:∃r,yE n 24 [c0,c1,c2,c3,c4,c5,c6,c7,c8,c9,c10,c11,c12,c13,c14]=some r∧zN n 24 [c0,c1,c2,c3,c4,c5,c6,c7,c8,c9,c10,c11,c12,c13,c14]=some r:=by
 rw [zeG,zeY]
 rw [(qz (n:=n) (s:= [c0,c1,c2,c3]) O2 O0).1,(qz (n:=n) (s:= [c0,c1,c2,c3]) O2 O0).2]
 rw [(qz (n:=n) (s:= [c0,c1,c2,c3,c4,c5,c6,c7,c8,c9,c10,c11,c12,c13]) O2 O0).2]
 rw [(qz (n:=n) (s:= [c4,c5]) O2 O0).2]
 rw [(qz (n:=n) (s:= [c6,c7]) O2 O0).2]
 rw [(qz (n:=n) (s:= [c8,c9]) O2 O0).2]
 rw [(qz (n:=n) (s:= [c10,c11]) O2 O0).2]
 rw [(qz (n:=n) (s:= [c12,c13]) O2 O0).2]
 by_cases z:(((c14.toNat:Nat):Int) !=90)=true
 ·rw [z]; exact⟨_,rfl,rfl⟩
 rw [Bool.not_eq_true]at z
 rw [z]
 simp only [L0]
 rw [L3 (show ¬(false=true)by decide),L3 (show ¬(false=true)by decide)]
 have key:∀Y:Int,∃r,((ko n Y [c4,c5,c6,c7,c8,c9,c10,c11,c12,c13,c14]).bind fun r27=>(uG n r27).bind fun r28=>some (r28.1,r28.2))=some r∧((we n (yd.mk Y (qk [c4,c5]) (qk [c6,c7]) (qk [c8,c9]) (qk [c10,c11]) (qk [c12,c13]))).bind fun r39=>some (r39.1,r39.2))=some r∧(([c0,c1,c2,c3,c4,c5,c6,c7,c8,c9,c10,c11,c12,c13]).any ndg=true→([c0,c1,c2,c3]).any ndg=false→r=(0,12)):=by
  intro Y
  rw [zdW,(qz (n:=n) (s:= [c4,c5]) O2 O0).1,(qz (n:=n) (s:= [c6,c7]) O2 O0).1,(qz (n:=n) (s:= [c8,c9]) O2 O0).1,(qz (n:=n) (s:= [c10,c11]) O2 O0).1,(qz (n:=n) (s:= [c12,c13]) O2 O0).1]
  simp only [L0]
  obtain⟨r,h1,h2,h3⟩:=cN (n:=n) (D:=yd.mk Y (qk [c4,c5]) (qk [c6,c7]) (qk [c8,c9]) (qk [c10,c11]) (qk [c12,c13])) O0
  rw [h1,h2]
  refine⟨r,rfl,rfl,fun hw hy=>h3 ?_⟩
  have hs:([c0,c1,c2,c3,c4,c5,c6,c7,c8,c9,c10,c11,c12,c13]).any ndg=(([c0,c1,c2,c3]).any ndg||(([c4,c5]).any ndg||(([c6,c7]).any ndg||(([c8,c9]).any ndg||(([c10,c11]).any ndg||([c12,c13]).any ndg))))):=by
   simp only [List.any_cons,List.any_nil,Bool.or_false,Bool.or_assoc]
  rw [hs,hy,Bool.false_or]at hw
  simp only [Bool.or_eq_true]at hw
  rcases hw with h|h|h|h|h
  ·exact .inl (by show qk _<0; rw [qV h]; decide)
  ·exact .inr (.inl (by show qk _<0; rw [qV h]; decide))
  ·exact .inr (.inr (.inl (by show qk _<0; rw [qV h]; decide)))
  ·exact .inr (.inr (.inr (.inl (by show qk _<0; rw [qV h]; decide))))
  ·exact .inr (.inr (.inr (.inr ((by show qk _<0; rw [qV h]; decide)))))
 cases hy:([c0,c1,c2,c3]).any ndg with
 | true=>
  have hw:([c0,c1,c2,c3,c4,c5,c6,c7,c8,c9,c10,c11,c12,c13]).any ndg=true:=by
   have hs:([c0,c1,c2,c3,c4,c5,c6,c7,c8,c9,c10,c11,c12,c13]).any ndg=(([c0,c1,c2,c3]).any ndg||([c4,c5,c6,c7,c8,c9,c10,c11,c12,c13]).any ndg):=by simp only [List.any_cons,List.any_nil,Bool.or_false,Bool.or_assoc]
   rw [hs,hy,Bool.true_or]
  rw [qV hy,qV hw]; exact⟨_,rfl,rfl⟩
 | false=>
  obtain⟨y0,y1⟩:=KE hy
  cases hw:([c0,c1,c2,c3,c4,c5,c6,c7,c8,c9,c10,c11,c12,c13]).any ndg with
  | true=>
   rw [qV hw]
   have e:decide (qk [c0,c1,c2,c3]<0)=false:=by rw [decide_eq_false_iff_not]; omega
   rw [e]
   by_cases h50:decide (qk [c0,c1,c2,c3]<2050)=true
   ·rw [h50]; exact⟨_,rfl,rfl⟩
   ·obtain⟨r,h1,_,h3⟩:=key (qk [c0,c1,c2,c3])
    rw [h3 hw hy]at h1
    rw [Bool.not_eq_true]at h50
    rw [h50]; exact⟨_,h1,rfl⟩
  | false=>
   obtain⟨w0,_⟩:=KE hw
   have e:decide (qk [c0,c1,c2,c3]<0)=false:=by rw [decide_eq_false_iff_not]; omega
   have e2:decide (qk [c0,c1,c2,c3,c4,c5,c6,c7,c8,c9,c10,c11,c12,c13]<0)=false:=by rw [decide_eq_false_iff_not]; omega
   rw [e,e2]
   by_cases h50:decide (qk [c0,c1,c2,c3]<2050)=true
   ·rw [h50]; exact⟨_,rfl,rfl⟩
   ·obtain⟨r,h1,h2,_⟩:=key (qk [c0,c1,c2,c3])
    rw [Bool.not_eq_true]at h50
    rw [h50]; exact⟨r,h1,h2⟩
theorem JQ {n:Nat} {g:Int} {c:Bs} (hn:40≤n) (hc:c.length≤9223372036854775807):∃r,yE n g c=some r∧zN n g c=some r:=by
 by_cases h23:g=23
 ·subst h23
  by_cases hl:c.length=13
  ·match c,hl with
   | [c0,c1,c2,c3,c4,c5,c6,c7,c8,c9,c10,c11,c12],_=>exact zdU hn
  ·have e:((List.length c:Int) !=13)=true:=by rw [bne_iff_ne]; omega
   refine⟨(0,12), ?_, ?_⟩
   ·unfold yE
    show((if((List.length c:Int) !=13)=true then(some true)else _).bind _)=_
    rw [L4 e]; rfl
   ·unfold zN
    show((if((List.length c:Int) !=13)=true then(some true)else _).bind _)=_
    rw [L4 e]; rfl
 by_cases h24:g=24
 ·subst h24
  by_cases hl:c.length=15
  ·match c,hl with
   | [c0,c1,c2,c3,c4,c5,c6,c7,c8,c9,c10,c11,c12,c13,c14],_=>exact zd0 hn
  ·have e:((List.length c:Int) !=15)=true:=by rw [bne_iff_ne]; omega
   refine⟨(0,12), ?_, ?_⟩
   ·unfold yE
    show((if((List.length c:Int) !=15)=true then(some true)else _).bind _)=_
    rw [L4 e]; rfl
   ·unfold zN
    show((if((List.length c:Int) !=15)=true then(some true)else _).bind _)=_
    rw [L4 e]; rfl
 refine⟨(0,5), ?_, ?_⟩
 ·unfold yE
  rw [L3 (O9 h23),L3 (O9 h24)]; rfl
 ·unfold zN
  rw [L4 (O9 h23),L0,L4 (O9 h24)]
theorem nX {n t:Nat} {b:Bool} {p:Nat×Bs} {L:List (Nat×Bs)} (hp:p.1=t) (hL:∀q∈L,q.1≠t):yS n (t:Int) ⟨(optE b p++L).map elm,false⟩=some (if b=true then elm p else E0,b,⟨L.map elm,false⟩):=by
 unfold yS
 cases b with
 | true=>
  have e:(optE true p++L).map elm=elm p::L.map elm:=rfl
  have k0:zV (elm p::L.map elm) 0=some (elm p):=by simp [zV]
  have ht:(elm p).zA=(t:Int):=by show((p.1:Nat):Int)=_; rw [hp]
  rw [e]
  dsimp only
  rw [L3 (by rw [beq_iff_eq,L7]; omega),k0,L0,L0,ht,L3 O2,XR]
  rfl
 | false=>
  have e:(optE false p++L)=L:=rfl
  rw [e]
  match L,hL with
  | [],_=>rfl
  | q::r,hL=>
   have k0:zV ((q::r).map elm) 0=some (elm q):=by simp [zV]
   have ht:((elm q).zA !=(t:Int))=true:=by
    have:=hL q O2
    rw [bne_iff_ne]; show((q.1:Nat):Int)≠_; omega
   dsimp only
   rw [L3 (by rw [beq_iff_eq,L8,L7]; omega),k0,L0,L0,ht,L4 rfl,L3 O2]
theorem mg {n t:Nat} {b:Bool} {L:List (Nat×Bs)} (hL:∀q∈L,q.1≠t):vg n (t:Int) ⟨(optE b (t,[255])++L).map elm,false⟩=some (b,⟨L.map elm,false⟩):=by
 unfold vg
 rw [nX (p:=(t,[255])) rfl hL,L0]
 cases b with
 |true=>rfl
 |false=>rfl
theorem XQ {b:Bool} {p:Nat×Bs} {L:List (Nat×Bs)} {t:Nat} (h1:p.1≠t) (h2:∀q∈L,q.1≠t):∀q∈optE b p++L,q.1≠t:=by
 intro q hq
 rcases Ll.1 hq with h|h
 ·unfold optE at h
  split at h
  ·rw [Lk]at h; subst h; exact h1
  ·simp at h
 ·exact h2 q h
theorem oU {p:Nat×Bs} {L:List (Nat×Bs)} {t:Nat} (h1:p.1≠t) (h2:∀q∈L,q.1≠t):∀q∈p::L,q.1≠t:=by
 intro q hq
 rcases Lm.1 hq with h|h
 ·subst h; exact h1
 ·exact h2 q h
theorem n11 {q:Qry} {t:Nat} (h:t≠168):∀x∈q11 q,x.1≠t:=XQ (fun e=>h e.symm) O2
theorem n10 {q:Qry} {t:Nat} (h:t≠168∧t≠135):∀x∈q10 q,x.1≠t:=XQ (fun e=>h.2 e.symm) (n11 h.1)
theorem n9 {q:Qry} {t:Nat} (h:(t≠168∧t≠135)∧t≠2):∀x∈q9 q,x.1≠t:=oU (fun e=>h.2 e.symm) (n10 h.1)
theorem n8 {q:Qry} {t:Nat} (h:((t≠168∧t≠135)∧t≠2)∧t≠166):∀x∈q8 q,x.1≠t:=XQ (fun e=>h.2 e.symm) (n9 h.1)
theorem n7 {q:Qry} {t:Nat} (h:(((t≠168∧t≠135)∧t≠2)∧t≠166)∧t≠133):∀x∈q7 q,x.1≠t:=XQ (fun e=>h.2 e.symm) (n8 h.1)
theorem n6 {q:Qry} {t:Nat} (h:((((t≠168∧t≠135)∧t≠2)∧t≠166)∧t≠133)∧t≠132):∀x∈q6 q,x.1≠t:=XQ (fun e=>h.2 e.symm) (n7 h.1)
theorem n5 {q:Qry} {t:Nat} (h:(((((t≠168∧t≠135)∧t≠2)∧t≠166)∧t≠133)∧t≠132)∧t≠131):∀x∈q5 q,x.1≠t:=XQ (fun e=>h.2 e.symm) (n6 h.1)
theorem n4 {q:Qry} {t:Nat} (h:((((((t≠168∧t≠135)∧t≠2)∧t≠166)∧t≠133)∧t≠132)∧t≠131)∧t≠162):∀x∈q4 q,x.1≠t:=XQ (fun e=>h.2 e.symm) (n5 h.1)
theorem n3 {q:Qry} {fl:Bs} {t:Nat} (h:(((((((t≠168∧t≠135)∧t≠2)∧t≠166)∧t≠133)∧t≠132)∧t≠131)∧t≠162)∧t≠129):∀x∈q3 fl q,x.1≠t:=XQ (fun e=>h.2 e.symm) (n4 h.1)
theorem ru (g:Gen):vU (dn g)=vU g:=by unfold vU dn; simp only [Bu]
theorem KT {B:Nat} {l:List (List Att)} (h:BdN B l):BdN B (WX l):=by
 refine⟨by rw [L8]; exact h.1,fun r hr=> ?_⟩
 obtain⟨x,hx,rfl⟩:=Le.1 hr
 have p:=XL x
 exact⟨by rw [p.length_eq]; exact(h.2 x hx).1,fun a ha=>(h.2 x hx).2 a (p.mem_iff.1 ha)⟩
theorem sn (l:List Gen):(l.map dn).map vU=l.map vU:=by
 rw [List.map_map]; exact List.map_congr_left fun g _=>ru g
theorem Pk (l:List Anc):(l.map dZ).map ancE=l.map ancE:=by
 rw [List.map_map]; exact List.map_congr_left fun a _=>Gx a
theorem mI {α β:Type} (f:α→β) (l:List α):(l.map f).isEmpty=l.isEmpty:=by cases l<;>rfl
theorem oe (tm:Nat×Bs) (fl:Bs) (q:Qry):contQ tm fl (kJ q)=contQ tm fl q:=by
 have h11:q11 (kJ q)=q11 q:=by
  unfold q11
  rw [show(kJ q).zf=q.zf.map dZ from rfl,Pk,mI]
 have h10:q10 (kJ q)=q10 q:=by unfold q10; rw [h11]; rfl
 have h9:q9 (kJ q)=q9 q:=by unfold q9; rw [h10]; rfl
 have h8:q8 (kJ q)=q8 q:=by
  unfold q8
  rw [h9,show(kJ q).zw=q.zw.map dn from rfl,sn,mI]
 have h7:q7 (kJ q)=q7 q:=by unfold q7; rw [h8]; rfl
 have h6:q6 (kJ q)=q6 q:=by unfold q6; rw [h7]; rfl
 have h5:q5 (kJ q)=q5 q:=by unfold q5; rw [h6]; rfl
 have h4:q4 (kJ q)=q4 q:=by unfold q4; rw [h5]; rfl
 have h3:q3 fl (kJ q)=q3 fl q:=by unfold q3; rw [h4]; rfl
 have h2:q2 fl (kJ q)=q2 fl q:=by unfold q2; rw [h3]; rfl
 unfold contQ
 rw [h2]
theorem YQ {P:Nat×Bs→Prop} {b:Bool} {p:Nat×Bs} {L:List (Nat×Bs)} (h1:b=true→P p) (h2:∀x∈L,P x):∀x∈optE b p++L,P x:=by
 intro x hx
 rcases Ll.1 hx with h|h
 ·unfold optE at h
  split at h
  ·rename_i hb; rw [Lk]at h; subst h; exact h1 hb
  ·simp at h
 ·exact h2 x h
theorem all_cons {P:Nat×Bs→Prop} {p:Nat×Bs} {L:List (Nat×Bs)} (h1:P p) (h2:∀x∈L,P x):∀x∈p::L,P x:=by
 intro x hx
 rcases Lm.1 hx with h|h
 ·subst h; exact h1
 ·exact h2 x h
theorem VY {t:Nat} {c:Bs} (h1:t≤255) (h2:t%32≠31) (h3:t/32%2=0) (hc:c.length≤131072):POk (t,c)∧Wf 6 (t,c):=⟨⟨h1,h2,hc⟩,Wf.leaf h3⟩
theorem PP {n:Nat} (l:List (List Att)) (j:Nat) (hj:j<l.length) (hx:l[j].length≤1000000) (hn:2000000≤n):∀(k i:Nat),i≤l[j].length→l[j].length-i<k→xi n l[j] ⟨WX l⟩ (j:Int) k (i:Int)=some (.nxt ())
 |0,i,_,h=>O0
 | k+1,i,hi,hk=>by
  have hj2:j<(WX l).length:=by rw [L8]; exact hj
  have e0:(WX l)[j]=gf l[j]:=O2
  have hp:=XL l[j]
  rw [xi]
  by_cases hc:i<l[j].length
  ·have e:=KN (n:=n) (gf l[j]) (l[j])[i] (by rw [hp.length_eq]; exact hx) n 0 false O0 (by rw [hp.length_eq]; omega) (.inr (by rw [Lf]; exact hp.mem_iff.2 (Li hc)))
   rw [show((0:Nat):Int)=0 from rfl]at e
   rw [L4 O4,zE hc,L0]
   simp only [zE hj2,L0]
   rw [e0,e,L0,L3 O2,w1 O0]
   exact PP l j hj hx hn k (i+1) O0 O0
  ·rw [L3 O4]
theorem D9 {n:Nat} (l:List (List Att)) (hx:∀r∈l,r.length≤1000000) (hl:l.length≤1000000) (hn:2000000≤n):∀(k i:Nat),i≤l.length→l.length-i<k→xl n ⟨l⟩ ⟨WX l⟩ k (i:Int)=some (.nxt ())
 |0,i,_,h=>O0
 | k+1,i,hi,hk=>by
  rw [xl]
  by_cases hc:i<l.length
  ·have h1:=hx _ (Li hc)
   have hj2:i<(WX l).length:=by rw [L8]; exact hc
   have e0:(WX l)[i]=gf l[i]:=O2
   have e:=PP (n:=n) l i hc h1 hn n 0 O0 O0
   rw [show((0:Nat):Int)=0 from rfl]at e
   rw [L4 (by rw [L2]; show(i:Int)<(l.length:Int); omega)]
   simp only [zE hc,zE hj2,L0]
   rw [L3 (by rw [e0,(XL l[i]).length_eq]; simp),e]
   simp only [z8]
   rw [w1 O0]
   exact D9 l hx hl hn k (i+1) O0 O0
  ·rw [L3 (by rw [L2]; show ¬(i:Int)<(l.length:Int); omega)]
theorem JE {n B:Nat} {l:List (List Att)} (h:BdN B l) (hB:B≤1000000) (hn:2000000≤n):xo n ⟨l⟩ ⟨WX l⟩=some true:=by
 unfold xo
 have h1:=h.1
 have e:=D9 (n:=n) l (fun r hr=>by have:=(h.2 r hr).1; omega) O0 hn n 0 O0 O0
 rw [show((0:Nat):Int)=0 from rfl]at e
 rw [L3 (by show ¬((l.length:Int) !=((WX l).length:Int))=true; rw [L8]; simp),e]; rfl
theorem GH {n B:Nat} (l:List Anc) (h:BdL B l) (hB:B≤1000000) (hl:l.length≤64) (hn:2000000≤n):∀(k i:Nat),i≤l.length→l.length-i<k→yJ n l (l.map dZ) k (i:Int)=some (.nxt ())
 |0,i,_,h=>O0
 | k+1,i,hi,hk=>by
  rw [yJ]
  by_cases hc:i<l.length
  ·have hj2:i<(l.map dZ).length:=by rw [L8]; exact hc
   have e0:(l.map dZ)[i]=dZ l[i]:=O2
   rw [L4 O4]
   simp only [zE hc,zE hj2,L0,e0]
   have hs:xo n ⟨l[i].zo.zg⟩ ⟨(dZ l[i]).zo.zg⟩=some true:=JE (h _ (Li hc)) hB hn
   rw [show(dZ l[i]).zK=l[i].zK from rfl,L3 O2,hs,L0,L0,L3 O2,w1 O0]
   exact GH l h hB hl hn k (i+1) O0 O0
  ·rw [L3 O4]
theorem fS {n B:Nat} {l:List Anc} (h:BdL B l) (hB:B≤1000000) (hl:l.length≤64) (hn:2000000≤n):xM n l (l.map dZ)=some true:=by
 unfold xM
 have e:=GH (n:=n) l h hB hl hn n 0 O0 O0
 rw [show((0:Nat):Int)=0 from rfl]at e
 rw [L3 (by rw [L8]; simp),e]; rfl
theorem GI {n B:Nat} (l:List Gen) (h:∀g∈l,BdG B g) (hB:B≤1000000) (hl:l.length≤64) (hn:2000000≤n):∀(k i:Nat),i≤l.length→l.length-i<k→xK n l (l.map dn) k (i:Int)=some (.nxt ())
 |0,i,_,h=>O0
 | k+1,i,hi,hk=>by
  rw [xK]
  by_cases hc:i<l.length
  ·have hj2:i<(l.map dn).length:=by rw [L8]; exact hc
   have e0:(l.map dn)[i]=dn l[i]:=O2
   rw [L4 O4]
   simp only [zE hc,zE hj2,L0,e0]
   have hs:xo n ⟨l[i].zo.zg⟩ ⟨(dn l[i]).zo.zg⟩=some true:=JE (h _ (Li hc)).2 hB hn
   rw [show(dn l[i]).zG=l[i].zG from rfl,L3 O2,show(dn l[i]).yy=l[i].yy from rfl,L3 O2,hs,L0,L0,L3 O2,w1 O0]
   exact GI l h hB hl hn k (i+1) O0 O0
  ·rw [L3 O4]
theorem fZ {n B:Nat} {l:List Gen} (h:∀g∈l,BdG B g) (hB:B≤1000000) (hl:l.length≤64) (hn:2000000≤n):uX n l (l.map dn)=some true:=by
 unfold uX
 have e:=GI (n:=n) l h hB hl hn n 0 O0 O0
 rw [show((0:Nat):Int)=0 from rfl]at e
 rw [L3 (by rw [L8]; simp),e]; rfl
def zaZ:Gen:=⟨0,[],⟨[]⟩⟩
def fin (g:Gen):Gen×Int:=if ju g≠0 then(zaZ,ju g)else(g,0)
def dG (D:Bs→Bs×Int) (e:El):Gen×Int:=
 if e.zA=129∨e.zA=130∨e.zA=135 then fin ⟨e.zA-128,e.zc,⟨[]⟩⟩
 else if e.zA=164 then(if(bS D e.zc).2≠0 then(zaZ,(bS D e.zc).2)else fin ⟨4,[],⟨(bS D e.zc).1⟩⟩)
 else(zaZ,5)
theorem zc2 (t:Int):(if(t==129)=true then(some (t==129))else(if(t==130)=true then(some (t==130))else(some (t==135))))=some (decide (t=129∨t=130∨t=135)):=by
 by_cases h1:t=129
 ·subst h1; rfl
 by_cases h2:t=130
 ·subst h2; rfl
 by_cases h3:t=135
 ·subst h3; rfl
 rw [L3 (O9 h1),L3 (O9 h2)]
 congr 1
 simp [h1,h2,h3]
theorem zb2 {n M:Nat} {D:Bs→Bs×Int} (hD:∀c:Bs,c.length≤M→yq n c=some (D c)) (hDl:∀c:Bs,c.length≤M→(D c).1.length≤M+252) (hM:M≤900000) (hn:2000000≤n) {e:El} (he:e.zc.length≤M):bw n e false=some (dG D e):=by
 unfold bw dG
 rw [zc2,L0]
 by_cases h:e.zA=129∨e.zA=130∨e.zA=135
 ·rw [L4 h,L4 (by rw [L2]; exact h)]
  simp only [z8]
  rw [yv O0,Dy (B:=M) hn ⟨by show e.zc.length≤M; omega,by show([]:List (List Att)).length≤M; simp,O2⟩ O0 O0,L0]
  unfold fin
  by_cases c:ju ⟨e.zA-128,e.zc,⟨[]⟩⟩=0
  ·rw [L3 (by rw [c]; simp),L3 (O9 c)]
  ·rw [L4 (O9 c),L4 c]; rfl
 ·rw [L3 h,L3 (by rw [L2]; exact h)]
  by_cases h4:e.zA=164
  ·rw [L4 (O9 h4),L4 h4,mQ hD hDl hM O0 he,L0]
   by_cases c:(bS D e.zc).2=0
   ·rw [L3 (by rw [c]; simp),L3 (O9 c)]
    simp only [z8]
    rw [Dy (B:=252) hn ⟨O2,Xf⟩ O0 O0,L0]
    unfold fin
    by_cases c:ju ⟨4,[],⟨(bS D e.zc).1⟩⟩=0
    ·rw [L3 (by rw [c]; simp),L3 (O9 c)]
    ·rw [L4 (O9 c),L4 c]; rfl
   ·rw [L4 (O9 c),L4 c]; rfl
  ·rw [L3 (O9 h4),L3 h4]; rfl
theorem zb4 {n M:Nat} {D:Bs→Bs×Int} (hD:∀c:Bs,c.length≤M→zx n c=some (D c)) (hDl:∀c:Bs,c.length≤M→(D c).1.length≤M+252) (hM:M≤900000) (hn:2000000≤n) {e:El} (he:e.zc.length≤M):uH n e false=some (dG D e):=by
 unfold uH dG
 rw [zc2,L0]
 by_cases h:e.zA=129∨e.zA=130∨e.zA=135
 ·rw [L4 h,L4 (by rw [L2]; exact h)]
  simp only [z8]
  rw [yv O0,Kx (B:=M) hn ⟨by show e.zc.length≤M; omega,by show([]:List (List Att)).length≤M; simp,O2⟩ O0 O0,L0]
  unfold fin
  by_cases c:ju ⟨e.zA-128,e.zc,⟨[]⟩⟩=0
  ·rw [L3 (by rw [c]; simp),L3 (O9 c)]
  ·rw [L4 (O9 c),L4 c]; rfl
 ·rw [L3 h,L3 (by rw [L2]; exact h)]
  by_cases h4:e.zA=164
  ·rw [L4 (O9 h4),L4 h4,rO hD hDl hM O0 he,L0]
   by_cases c:(bS D e.zc).2=0
   ·rw [L3 (by rw [c]; simp),L3 (O9 c)]
    simp only [z8]
    rw [Kx (B:=252) hn ⟨O2,Xf⟩ O0 O0,L0]
    unfold fin
    by_cases c:ju ⟨4,[],⟨(bS D e.zc).1⟩⟩=0
    ·rw [L3 (by rw [c]; simp),L3 (O9 c)]
    ·rw [L4 (O9 c),L4 c]; rfl
   ·rw [L4 (O9 c),L4 c]; rfl
  ·rw [L3 (O9 h4),L3 h4]; rfl
theorem nC {D:Bs→Bs×Int} {e:El} (h:(dG D e).2=0):ju (dG D e).1=0∧BdN 252 (dG D e).1.zo.zg:=by
 unfold dG fin at h ⊢
 split at h
 ·rename_i h1
  rw [L4 h1]
  split at h
  ·rename_i h2; exact absurd h h2
  ·rename_i h2; rw [L3 h2]
   exact⟨by simpa using h2,by show([]:List (List Att)).length≤252; simp,O2⟩
 ·rename_i h1
  rw [L3 h1]
  split at h
  ·rename_i h3
   rw [L4 h3]
   split at h
   ·rename_i h2; exact absurd h h2
   ·rename_i h2; rw [L3 h2]
    split at h
    ·rename_i h4; exact absurd h h4
    ·rename_i h4; rw [L3 h4]
     exact⟨by simpa using h4,Xf⟩
  ·exact absurd h O1
theorem Pe {n B:Nat} {D:Bs→Bs×Int} (hBk:∀s l,y4 s=some l→D (qg l)=(s,0)) {g:Gen} (hn:200000000≤n) (h:okG n g) (hb:BdG B g) (hB:B≤60000):dG D (elm (vU g))=(dn g,0):=by
 have hs:ju (dn g)=0:=by
  have h1:=Qc h hb.2 O0 O0
  exact zc5 (B:=B) O0 ⟨hb.1,KT hb.2⟩ hB h1
 unfold dG fin
 rcases Y7 h hb.2 O0 O0 with⟨h1,h2,h3⟩|⟨h1,h2⟩
 ·have e:vU g=(164,(tWrap (y8 g.zo.zg).1 (y8 g.zo.zg).2).1):=by unfold vU; rw [L4 h1]
  have es:dn g=⟨4,[],⟨WX g.zo.zg⟩⟩:=by unfold dn; rw [h1,h2]
  have et:(elm (164,(tWrap (y8 g.zo.zg).1 (y8 g.zo.zg).2).1)).zA=164:=rfl
  have ec:(elm (164,(tWrap (y8 g.zo.zg).1 (y8 g.zo.zg).2).1)).zc=(tWrap (y8 g.zo.zg).1 (y8 g.zo.zg).2).1:=rfl
  rw [e,et,ec,L3 O1,L4 rfl,YP hBk h3,L3 O2]
  rw [es]at hs ⊢
  rw [L3 (by rw [hs]; simp)]
 ·have hk:¬g.zG=4:=O0
  have e:vU g=((128+g.zG).toNat,g.yy):=by unfold vU; rw [L3 hk]
  have et:(elm ((128+g.zG).toNat,g.yy)).zA=128+g.zG:=by show(((128+g.zG).toNat:Nat):Int)=_; omega
  have ec:(elm ((128+g.zG).toNat,g.yy)).zc=g.yy:=rfl
  have es:dn g=⟨g.zG,g.yy,⟨[]⟩⟩:=by unfold dn; rw [h2]; rfl
  rw [e,et,ec,L4 O0,show 128+g.zG-128=g.zG by omega]
  rw [es]at hs ⊢
  rw [L3 (by rw [hs]; simp)]
def Y9 (D:Bs→Bs×Int):List El→List Gen→Ctl (List Gen×Int) (List Gen)
 | [],acc=> .nxt acc
 |e::l,acc=>if(dG D e).2≠0 then .ret ([],(dG D e).2)else Y9 D l (acc ++ [(dG D e).1])
def YU (D:Bs→Bs×Int) (c:Bs):List Gen×Int:=
 if(tList c).2≠0 then([],(tList c).2)else if(tList c).1.length=0 then([],7)else if 16<(tList c).1.length then([],2)
 else match Y9 D (tList c).1 []with| .ret r=>r| .nxt l=>(l,0)
theorem Pd {n M:Nat} {D:Bs→Bs×Int} (hD:∀c:Bs,c.length≤M→yq n c=some (D c)) (hDl:∀c:Bs,c.length≤M→(D c).1.length≤M+252) (hM:M≤900000) (hn:2000000≤n) (T:List El×Int) (hT:Bd M T.1) (hl:T.1.length≤16):∀(k i:Nat) (acc:List Gen),i≤T.1.length→T.1.length-i<k→acc.length≤i →
  wQ n T k acc (i:Int)=some (Y9 D (T.1.drop i) acc)
 |0,_,_,_,h,_=>O0
 | k + 1,i,acc,hi,hk,ha=>by
  rw [wQ]
  by_cases hc:i<T.1.length
  ·rw [L4 O4,zE hc,L0,zb2 hD hDl hM hn (hT.2 _ (Li hc)),L0,L9 hc,Y9]
   by_cases h:(dG D T.1[i]).2=0
   ·rw [L3 (by rw [h]; simp),L3 (O9 h),yU (by rw [L6]; omega),L0,w1 O0]
    exact Pd hD hDl hM hn T hT hl k (i+1) _ O0 O0 (by rw [L5,L6]; omega)
   ·rw [L4 (O9 h),L4 h]
  ·rw [L3 O4,La O0]; rfl
theorem PH {n M:Nat} {D:Bs→Bs×Int} (hD:∀c:Bs,c.length≤M→zx n c=some (D c)) (hDl:∀c:Bs,c.length≤M→(D c).1.length≤M+252) (hM:M≤900000) (hn:2000000≤n) (T:List El×Int) (hT:Bd M T.1) (hl:T.1.length≤16):∀(k i:Nat) (acc:List Gen),i≤T.1.length→T.1.length-i<k→acc.length≤i →
  wo n T k acc (i:Int)=some (Y9 D (T.1.drop i) acc)
 |0,_,_,_,h,_=>O0
 | k + 1,i,acc,hi,hk,ha=>by
  rw [wo]
  by_cases hc:i<T.1.length
  ·rw [L4 O4,zE hc,L0,zb4 hD hDl hM hn (hT.2 _ (Li hc)),L0,L9 hc,Y9]
   by_cases h:(dG D T.1[i]).2=0
   ·rw [L3 (by rw [h]; simp),L3 (O9 h),yU (by rw [L6]; omega),L0,w1 O0]
    exact PH hD hDl hM hn T hT hl k (i+1) _ O0 O0 (by rw [L5,L6]; omega)
   ·rw [L4 (O9 h),L4 h]
  ·rw [L3 O4,La O0]; rfl
theorem zcE {n M:Nat} {D:Bs→Bs×Int} (hD:∀c:Bs,c.length≤M→yq n c=some (D c)) (hDl:∀c:Bs,c.length≤M→(D c).1.length≤M+252) (hM:M≤900000) (hn:2000000≤n) {c:Bs} (hc:c.length≤M):uh n c=some (YU D c):=by
 unfold uh gx YU
 have hT:=wg c (M:=M) hc
 rw [kW O0 O0,L0]
 by_cases h1:(tList c).2=0
 ·rw [L3 (by rw [h1]; simp),L3 (show ¬(tList c).2≠0 by simpa using h1)]
  by_cases h2:(tList c).1.length=0
  ·rw [L4 O8,L0,L4 O1,L4 (show(tList c).1.length=0 from h2)]
  ·rw [L3 O8,L3 (show ¬(tList c).1.length=0 from h2)]
   by_cases h3:16<(tList c).1.length
   ·rw [L4 O4,L0,L4 O1,L4 (show 16<(tList c).1.length from h3)]
   ·have e:=Pd hD hDl hM hn (tList c) hT O0 n 0 [] O0 O0 O2
    rw [show((0:Nat):Int)=0 from rfl,Lf]at e
    rw [L3 O4,L0,L3 O1,L3 (show ¬16<(tList c).1.length from h3),e]
    cases Y9 D (tList c).1 []<;>rfl
 ·rw [L4 (O9 h1),L4 (show(tList c).2≠0 from h1)]
theorem zaD {n M:Nat} {D:Bs→Bs×Int} (hD:∀c:Bs,c.length≤M→zx n c=some (D c)) (hDl:∀c:Bs,c.length≤M→(D c).1.length≤M+252) (hM:M≤900000) (hn:2000000≤n) {c:Bs} (hc:c.length≤M):w6 n c=some (YU D c):=by
 unfold w6 YU
 have hT:=wg c (M:=M) hc
 rw [Yi O0 O0,L0]
 by_cases h1:(tList c).2=0
 ·rw [L3 (by rw [h1]; simp),L3 (show ¬(tList c).2≠0 by simpa using h1)]
  by_cases h2:(tList c).1.length=0
  ·rw [L4 O8,L4 (show(tList c).1.length=0 from h2)]
  ·rw [L3 O8,L3 (show ¬(tList c).1.length=0 from h2)]
   by_cases h3:16<(tList c).1.length
   ·rw [L4 O4,L4 (show 16<(tList c).1.length from h3)]
   ·have e:=PH hD hDl hM hn (tList c) hT O0 n 0 [] O0 O0 O2
    rw [show((0:Nat):Int)=0 from rfl,Lf]at e
    rw [L3 O4,L3 (show ¬16<(tList c).1.length from h3),e]
    cases Y9 D (tList c).1 []<;>rfl
 ·rw [L4 (O9 h1),L4 (show(tList c).2≠0 from h1)]
theorem cK {D:Bs→Bs×Int}:∀(l:List El) (acc:List Gen),(∀g∈acc,ju g=0∧BdN 252 g.zo.zg)→(∀r,Y9 D l acc= .ret r→r.1= [])∧∀out,Y9 D l acc= .nxt out→out.length=acc.length+l.length∧∀g∈out,ju g=0∧BdN 252 g.zo.zg
 | [],acc,h=>⟨fun r hr=>(by cases hr),fun out ho=>(by cases ho; exact⟨O2,h⟩)⟩
 | e ::l,acc,h=>by
  rw [Y9]
  by_cases c:(dG D e).2=0
  ·rw [L3 (O9 c)]
   obtain ⟨h1,h2⟩:=cK l (acc ++ [(dG D e).1]) (by
    intro g hg; rcases Ll.1 hg with hg|hg
    ·exact h g hg
    ·rw [Lk]at hg; subst hg; exact nC c)
   refine⟨h1,fun out ho=> ?_⟩
   obtain⟨h3,h4⟩:=h2 out ho
   exact⟨by rw [h3,L5,L6,L7]; omega,h4⟩
  ·rw [L4 c]; exact⟨fun r hr=>(by cases hr; rfl),fun out ho=>(by cases ho)⟩
theorem KJ {D:Bs→Bs×Int} {c:Bs}:(YU D c).1.length≤16∧∀g∈(YU D c).1,ju g=0∧BdN 252 g.zo.zg:=by
 unfold YU
 split
 ·exact⟨O2,O2⟩
 split
 ·exact⟨O2,O2⟩
 split
 ·exact⟨O2,O2⟩
 rename_i h
 obtain⟨h1,h2⟩:=cK (D:=D) (tList c).1 [] O2
 cases hg:Y9 D (tList c).1 []with
 |ret r=>have:=h1 r hg; obtain⟨a,b⟩:=r; simp only at this; subst this; exact⟨O2,O2⟩
 |nxt out=>obtain⟨h3,h4⟩:=h2 out hg; exact⟨by show out.length≤16; rw [h3,Lj]; omega,h4⟩
theorem Bk {n B:Nat} {D:Bs→Bs×Int} (hBk:∀s l,y4 s=some l→D (qg l)=(s,0)) (hn:200000000≤n) (hB:B≤60000):∀(l acc:List Gen),(∀g∈l,okG n g∧BdG B g)→Y9 D ((l.map vU).map elm) acc= .nxt (acc++l.map dn)
 | [],acc,_=>by simp [Y9]
 | g::l,acc,h=>by
  obtain⟨h1,h2⟩:=h g O2
  rw [Lb,Lb,Y9,Pe hBk hn h1 h2 hB,L3 O2,Bk hBk hn hB l _ (fun x hx=>h x (by simp [hx])),Lb,Ln,List.singleton_append]
theorem GW {n B:Nat} {D:Bs→Bs×Int} (hBk:∀s l,y4 s=some l→D (qg l)=(s,0)) (hn:200000000≤n) (hB:B≤60000) {l:List Gen} (h:∀g∈l,okG n g∧BdG B g) (h0:l≠ []) (hl:l.length≤16):YU D (wraps (l.map vU))=(l.map dn,0):=by
 have hp:0<l.length:=List.length_pos_iff.2 h0
 have hq:∀p∈l.map vU,POk p:=by
  intro p hp; obtain⟨g,hg,rfl⟩:=Le.1 hp; exact(XS (h g hg).1 (h g hg).2 hB O0).1
 unfold YU
 rw [yV hq,L3 O2]
 dsimp only
 rw [L3 (by rw [L8,L8]; omega),L3 (by rw [L8,L8]; omega),Bk hBk hn hB l [] h]
 rfl
theorem fm {k:IntKind} {a b:Int} (h:0≤b):∃x,Wr k a b=some x:=⟨_,L3 O0⟩
theorem DA {k:IntKind} {a b:Int} (h:0≤b):∃x,Je k a b=some x:=⟨_,L3 O0⟩
theorem ez (x:Int):0≤wrap .u64 x:=by
 have h:wrap .u64 x=x%2^64:=rfl
 rw [h]; exact Int.emod_nonneg _ O1
theorem zcO {b:Bs} {i:Int} (h0:0≤i) (h1:i<8*(b.length:Int)) (hb:b.length≤1000000):∃x,yw b (wrap .i64 (Int.tdiv i 8))=some x:=by
 rw [Int.tdiv_eq_ediv_of_nonneg h0,yv O0]
 exact jK O0 O0
theorem oM {n:Nat} {b:Bs} {i:Int} (h0:0≤i) (h1:i<8*(b.length:Int)) (hb:b.length≤1000000):∃r,Zc n b i=some r:=by
 unfold Zc
 exact yM (zcO h0 h1 hb) fun x _=>yM (fm (ez _)) fun y _=>⟨_,rfl⟩
theorem sL {n:Nat} {b:Bs} {u:Int} (hb:b.length≤1000000):∃r,ge n b u=some r:=by
 unfold ge
 refine yn (fun _=>⟨_,rfl⟩) fun _=>yM (yn (fun h=> ?_) fun _=>⟨_,rfl⟩) fun y _=>⟨_,rfl⟩
 have hl:0<b.length:=by
  cases b with
  |nil=>exact absurd h O1
  |cons x r=>simp
 rw [yv O0]
 exact yM (jK O0 O0) fun x _=>yM (DA (ez _)) fun y _=>⟨_,rfl⟩
theorem zbm {n:Nat} {c:Bs} (hc:c.length≤1000000):∃b u e,kc n c=some (b,u,e)∧b.length≤1000000∧(e=0→0≤u∧u≤7):=by
 unfold kc
 match c,hc with
 | [],_=>exact⟨[],0,7,rfl,O2,fun h=>absurd h O1⟩
 | x::r,hc=>
  have hl:(x::r).length=r.length+1:=rfl
  have e0:yw (x::r) 0=some ((x.toNat:Nat):Int):=rfl
  have hx:=WV x
  have hs:ssl (x::r) 1 (List.length (x::r))=some r:=by
   unfold ssl
   rw [L4 ⟨O0,by rw [hl]; omega,O0⟩]
   simp
  rw [L3 O2,e0,hs]
  simp only [L0]
  by_cases h7:decide (((x.toNat:Nat):Int)>7)=true
  ·rw [L4 h7]; exact⟨[],0,7,rfl,O2,fun h=>absurd h O1⟩
  ·rw [L3 h7]
   rw [L2]at h7
   obtain⟨s,hsp⟩:=sL (n:=n) (b:=r) (u:=wrap .i64 ((x.toNat:Nat):Int)) (by rw [hl]at hc; omega)
   rw [hsp]
   simp only [L0]
   rw [yv O0]
   cases s
   ·exact⟨[],0,7,rfl,O2,fun h=>absurd h O1⟩
   ·exact⟨r,_,0,rfl,by rw [hl]at hc; omega,fun _=>O0⟩
theorem zbn {n:Nat} {c:Bs} (hc:c.length≤1000000):∃b u e,ww n c=some (b,u,e)∧b.length≤1000000∧(e=0→0≤u∧u≤7):=by
 unfold ww
 match c,hc with
 | [],_=>exact⟨[],0,7,rfl,O2,fun h=>absurd h O1⟩
 | x ::r,hc=>
  have hl:(x::r).length=r.length+1:=rfl
  have e0:yw (x::r) 0=some ((x.toNat:Nat):Int):=rfl
  have hx:=WV x
  have hs:ssl (x::r) 1 (List.length (x::r))=some r:=by
   unfold ssl
   rw [L4 ⟨O0,by rw [hl]; omega,O0⟩]
   simp
  rw [L3 (by rw [beq_iff_eq,hl]; omega),e0,hs]
  simp only [L0]
  by_cases h7:decide (((x.toNat:Nat):Int)>7)=true
  ·rw [L4 h7]; exact⟨[],0,7,rfl,O2,fun h=>absurd h O1⟩
  ·rw [L3 h7]
   rw [L2]at h7
   have key:∃y,(if(decide (((x.toNat:Nat):Int)>0))=true then(if((List.length (x::r):Int)==1)=true then(some true)else((yw (x::r) (wrap .i64 ((List.length (x::r):Int)-1))).bind fun x3=>
     (Je .i64 1 ((x.toNat:Nat):Int)).bind fun x5=>(nL (wrap .i64 x3) x5).bind fun x6=>some (x6 !=0)))else(some false))=some y:=by
    refine yn (fun _=>yn (fun _=>⟨_,rfl⟩) fun _=> ?_) fun _=>⟨_,rfl⟩
    rw [yv O0]
    refine yM (jK O0 O0) fun x3 _=>yM (DA O0) fun x5 h5=>yM (mW ?_) fun x6 _=>⟨_,rfl⟩
    have h8:x.toNat=0∨x.toNat=1∨x.toNat=2∨x.toNat=3∨x.toNat=4∨x.toNat=5∨x.toNat=6∨x.toNat=7:=O0
    rcases h8 with h|h|h|h|h|h|h|h<;>rw [h]at h5<;>(injection h5 with h5; rw [←h5]; decide)
   obtain⟨y,hy⟩:=key
   rw [hy]
   simp only [L0]
   rw [yv O0]
   cases y
   ·exact⟨r,_,0,rfl,by rw [hl]at hc; omega,fun _=>O0⟩
   ·exact⟨[],0,7,rfl,O2,fun h=>absurd h O1⟩
theorem rW {n:Nat} {b:Bs} {u e:Int} (hb:b.length≤1000000) (hu:0≤u∧u≤7) (hm:8*(b.length:Int)-u≤16):∀(j k:Nat) (v:Int),j≤16→j<k→∃r,ku n (b,u,e) k v ((16-j:Nat):Int)=some r
 |j,0,_,_,h=>O0
 | j,k+1,v,hj,hk=>by
  rw [ku]
  dsimp only
  rw [yv (x:=8*(b.length:Int)) O0,yv (x:=8*(b.length:Int)-u) O0]
  refine yn (fun h=> ?_) fun _=>⟨_,rfl⟩
  rw [L2]at h
  match j,hj,hk,h with
  |0,_,_,h=>omega
  | j+1,hj,hk,h=>
   refine yM (yM (oM O0 O0 hb) fun y _=>yn (fun _=>yM (DA (ez _)) fun z _=>⟨_,rfl⟩) fun _=>⟨_,rfl⟩) fun w _=> ?_
   rw [w1 O0,show 16-(j+1)+1=16-j by omega]
   exact rW hb hu hm j k w O0 O0
theorem sS {n:Nat} {b:Bs} {u e:Int} (hb:b.length≤1000000) (hu:0≤u∧u≤7) (hm:8*(b.length:Int)-u≤16):∀(j k:Nat) (v:Int),j≤16→j<k→∃r,vK n (b,u,e) k v ((16-j:Nat):Int)=some r
 |j,0,_,_,h=>O0
 | j,k+1,v,hj,hk=>by
  rw [vK]
  dsimp only
  rw [yv (x:=8*(b.length:Int)) O0,yv (x:=8*(b.length:Int)-u) O0]
  refine yn (fun h=> ?_) fun _=>⟨_,rfl⟩
  rw [L2]at h
  match j,hj,hk,h with
  |0,_,_,h=>omega
  | j+1,hj,hk,h=>
   have hm8:Int.tmod ((16-(j+1):Nat):Int) 8=((16-(j+1))%8:Nat):=by rw [Int.tmod_eq_emod_of_nonneg O0]; omega
   refine yM (yM (zcO O0 O0 hb) fun y _=>yM (fm (by rw [hm8,yv O0]; omega)) fun x _=>yn (fun _=>yM (DA O0) fun z _=>⟨_,rfl⟩) fun _=>⟨_,rfl⟩) fun w _=> ?_
   rw [w1 O0,show 16-(j+1)+1=16-j by omega]
   exact sS hb hu hm j k w O0 O0
theorem oh {n:Nat} {c:Bs} (hn:100≤n) (hc:c.length≤1000000):∃x e,u9 n c=some (x,e):=by
 unfold u9
 obtain⟨b,u,e,h1,h2,h3⟩:=zbm (n:=n) hc
 rw [h1,L0]
 dsimp only
 by_cases he:e=0
 ·obtain ⟨u0,u1⟩:=h3 he
  rw [L3 (by rw [he]; decide),yv (x:=8*(b.length:Int)) O0,yv (x:=8*(b.length:Int)-u) O0]
  obtain ⟨y,hy⟩:∃y,(if(decide ((8*(b.length:Int)-u)>0))=true then((Zc n b (wrap .i64 ((8*(b.length:Int)-u)-1))).bind fun r2=>some (!r2))else(some false))=some y:=by
   refine yn (fun h=> ?_) fun _=>⟨_,rfl⟩
   rw [L2]at h
   rw [yv O0]
   exact yM (oM O0 O0 h2) fun x _=>⟨_,rfl⟩
  rw [hy,L0]
  cases y with
  |true=>exact⟨_,_,rfl⟩
  | false=>
   rw [L3 O1]
   by_cases h16:decide (8*(b.length:Int)-u>16)=true
   ·rw [L4 h16]; exact⟨_,_,rfl⟩
   ·rw [L3 h16]
    rw [L2]at h16
    obtain⟨r,hr⟩:=rW (n:=n) (e:=e) h2 ⟨u0,u1⟩ O0 16 n 0 O0 O0
    rw [show((16-16:Nat):Int)=0 from rfl]at hr
    rw [hr]; exact⟨_,_,rfl⟩
 ·rw [L4 (O9 he)]; exact⟨_,_,rfl⟩
theorem od {n:Nat} {c:Bs} (hn:100≤n) (hc:c.length≤1000000):∃x e,xe n c=some (x,e):=by
 unfold xe
 obtain⟨b,u,e,h1,h2,h3⟩:=zbn (n:=n) hc
 rw [h1,L0]
 dsimp only
 by_cases he:e=0
 ·obtain ⟨u0,u1⟩:=h3 he
  rw [L3 (by rw [he]; decide),yv (x:=8*(b.length:Int)) O0,yv (x:=8*(b.length:Int)-u) O0]
  obtain ⟨y,hy⟩:∃y,(if(decide ((8*(b.length:Int)-u)>0))=true then((yw b (wrap .i64 ((b.length:Int)-1))).bind fun x2=>(Wr .u8 x2 u).bind fun x3=>some ((Int.tmod x3 2)==0))else(some false))=some y:=by
   refine yn (fun h=> ?_) fun _=>⟨_,rfl⟩
   rw [L2]at h
   rw [yv O0]
   exact yM (jK O0 O0) fun x _=>yM (fm u0) fun x3 _=>⟨_,rfl⟩
  rw [hy,L0]
  cases y with
  |true=>exact⟨_,_,rfl⟩
  | false=>
   rw [L3 O1]
   by_cases h16:decide (8*(b.length:Int)-u>16)=true
   ·rw [L4 h16]; exact⟨_,_,rfl⟩
   ·rw [L3 h16]
    rw [L2]at h16
    obtain⟨r,hr⟩:=sS (n:=n) (e:=e) h2 ⟨u0,u1⟩ O0 16 n 0 O0 O0
    rw [show((16-16:Nat):Int)=0 from rfl]at hr
    rw [hr]; exact⟨_,_,rfl⟩
 ·rw [L4 (O9 he)]; exact⟨_,_,rfl⟩
def oF (m:Nat) (v:Nat):Bool:=match kG (m+1000) (v:Int),vD (m+1000) (v:Int)with
 |some (c,e),some (c',e')=>decide (e=0)&&decide (c.length≤4)&&(c'==c&&decide (e'=0))&&(u9 (m+1000) c==some ((v:Int),0)&&xe (m+1000) c==some ((v:Int),0))
 |_,_=>false
theorem zdb (m:Nat):((List.range 128).all fun v=>oF m v)=true:=O7
theorem zcb (m:Nat):((List.range 128).all fun v=>oF m (v+128))=true:=O7
theorem zbD (m:Nat):((List.range 128).all fun v=>oF m (v+256))=true:=O7
theorem zdJ (m:Nat):((List.range 128).all fun v=>oF m (v+384))=true:=O7
theorem Pq {n:Nat} (hn:1000≤n) {u:Int} (h0:0≤u) (h1:u≤511):∃c:Bs,c.length≤4∧kG n u=some (c,0)∧vD n u=some (c,0)∧u9 n c=some (u,0)∧xe n c=some (u,0):=by
 obtain⟨m,rfl⟩:∃m,n=m+1000:=⟨n-1000,O0⟩
 obtain⟨v,rfl⟩:∃v:Nat,u=(v:Int):=⟨u.toNat,O0⟩
 have h:oF m v=true:=by
  by_cases a:v<128
  ·exact Ld.1 (zdb m) v O3
  by_cases b:v<256
  ·have:=Ld.1 (zcb m) (v-128) O3
   rwa [show v-128+128=v by omega]at this
  by_cases c:v<384
  ·have:=Ld.1 (zbD m) (v-256) O3
   rwa [show v-256+256=v by omega]at this
  ·have:=Ld.1 (zdJ m) (v-384) O3
   rwa [show v-384+384=v by omega]at this
 unfold oF at h
 split at h
 ·rename_i c e c' e' h1 h2
  simp only [Lc,L2,beq_iff_eq]at h
  obtain⟨⟨⟨rfl,h4⟩,rfl,rfl⟩,h5,h6⟩:=h
  exact⟨_,h4,h1,h2,h5,h6⟩
 ·cases h
theorem WD {α:Type} {M L:List α} {i:Nat} {p:α} (h:M.drop i=p::L):∃hi:i<M.length,M[i]=p∧M.drop (i+1)=L:=by
 have hi:i<M.length:=by
  rcases Nat.lt_or_ge i M.length with h'|h'
  ·exact h'
  ·rw [La h']at h; cases h
 rw [L9 hi]at h
 injection h with h1 h2
 exact⟨hi,h1,h2⟩
theorem Qd {M:List (Nat×Bs)} {i:Nat} (hi:i<M.length):zV (M.map elm) (i:Int)=some (elm M[i]):=by
 rw [zE (by rw [L8]; exact hi)]; simp
theorem Z9 {M L:List (Nat×Bs)} {i:Nat} {b:Bool} {p:Nat×Bs} (h:M.drop i=optE b p++L):M.drop (i+b.toNat)=L:=by
 cases b with
 |true=>exact(WD h).2.2
 |false=>exact h
theorem ne {n t i:Nat} {b:Bool} {p:Nat×Bs} {L M:List (Nat×Bs)} (hl:M.length≤1000) (h:M.drop i=optE b p++L) (hp:p.1=t) (hL:∀q∈L,q.1≠t):
  zO n (t:Int) ⟨M.map elm,(i:Int),false⟩=some (if b=true then elm p else E0,b,⟨M.map elm,((i+b.toNat:Nat):Int),false⟩):=by
 unfold zO
 dsimp only
 rw [L3 (show ¬(false=true)by decide),L8]
 cases b with
 | true=>
  obtain⟨hi,hx,_⟩:=WD h
  have ht:(elm p).zA=(t:Int):=by show((p.1:Nat):Int)=_; rw [hp]
  rw [L3 O4,Qd hi,hx,L0,ht,L0,L3 O2,w1 O0,yv O0,show((i+1:Nat):Int)-1=(i:Int)by omega,Qd hi,hx]
  rfl
 | false=>
  match L,h,hL with
  | [],h,_=>
   have hi:M.length≤i:=by
    have:=congrArg List.length h
    rw [List.length_drop]at this
    have e:(optE false p ++ []).length=0:=rfl
    omega
   rw [L4 O4]; rfl
  | q::r,h,hL=>
   obtain⟨hi,hx,_⟩:=WD (show M.drop i=q::r from h)
   have ht:((elm q).zA !=(t:Int))=true:=by
    have:=hL q O2
    rw [bne_iff_ne]; show((q.1:Nat):Int)≠_; omega
   rw [L3 O4,Qd hi,hx,L0,L0,ht,L4 rfl]; rfl
theorem Ds {n t i:Nat} {b:Bool} {L M:List (Nat×Bs)} (hl:M.length≤1000) (h:M.drop i=optE b (t,[255])++L) (hL:∀q∈L,q.1≠t):
  yL n (t:Int) ⟨M.map elm,(i:Int),false⟩=some (b,⟨M.map elm,((i+b.toNat:Nat):Int),false⟩):=by
 unfold yL
 rw [ne (p:=(t,[255])) hl h rfl hL,L0]
theorem nP {tm:Nat×Bs} {fl:Bs} {q:Qry}:(contQ tm fl q).length≤12:=by
 have h:∀(b:Bool) (p:Nat×Bs),(optE b p).length≤1:=fun b p=>by cases b<;>simp [optE]
 unfold contQ q2 q3 q4 q5 q6 q7 q8 q9 q10 q11
 have h1:=h (!(q.zB== [])) (128,(polE q.zB).2)
 have h2:=h (q.yk !=0) (129,fl)
 have h3:=h (!q.ze.isEmpty) (162,wraps (q.ze.map polE))
 have h4:=h q.wr (131,[255])
 have h5:=h q.xI (132,[255])
 have h6:=h q.jy (133,[255])
 have h7:=h (!q.zw.isEmpty) (166,wraps (q.zw.map vU))
 have h8:=h q.uA (135,[255])
 have h9:=h (!q.zf.isEmpty) (168,wraps (q.zf.map ancE))
 simp only [L7,L5,Lj]
 omega
theorem zdF {n g:Nat} {c fl b:Bs} {q:Qry} (hn:200000000≤n) (hf:QOk n q∧BdQ 252 q) (hd:zN n (g:Int) c=some (q.uB,0)) (hu:xe n fl=some (q.yk,0))
  (hw:xg n b=some (⟨48,wraps (contQ (g,c) fl q),b⟩,0)) (hp:∀p∈contQ (g,c) fl q,POk p) (hcl:(wraps (contQ (g,c) fl q)).length≤131072) (he:yp n (kJ q)=some (b,0)):
  yK n b=some (kJ q,0):=by
 obtain⟨⟨f1,f2,f3,⟨f4,f5,f6⟩,f7,f8,f9⟩,⟨b1,b2,b3,b4⟩⟩:=hf
 have m3:=Zs f7
 have m4:=VD O0 O0 f8 b3
 have m4':(252+4338)*q.zw.length≤73440:=O0
 have m5:=dD f9
 unfold yK
 rw [hw,L0]
 dsimp only
 rw [L3 O1,K9 O6 O6,L0]
 dsimp only
 rw [yV hp]
 dsimp only
 have hfl0:(((48:Int) !=48)||((0:Int) !=0))=false:=rfl
 rw [hfl0]
 have hml:(contQ (g,c) fl q).length≤1000:=by have:=nP (tm:=(g,c)) (fl:=fl) (q:=q); omega
 have d0:(contQ (g,c) fl q).drop 0=(g,c)::q2 fl q:=rfl
 have d1:(contQ (g,c) fl q).drop 1=q2 fl q:=rfl
 generalize contQ (g,c) fl q=M at hp hml d0 d1
 have st:(if(decide ((List.length (M.map elm):Int)>0))=true then((zV (M.map elm) 0).bind fun x13=>(zV (M.map elm) 0).bind fun x14=>(zN n x13.zA x14.zc).bind fun r15=>
   (if false=true then(some true)else(some (r15.2 !=0))).bind fun y17=>some ((1:Int),y17,r15.1))else(some ((0:Int),false,(0:Int))))=some (1,false,q.uB):=by
  obtain⟨h0,hx,_⟩:=WD d0
  have e0:=Qd h0
  rw [hx,show((0:Nat):Int)=0 from rfl]at e0
  rw [L4 (by rw [L2,L8]; omega),e0,L0,L0,show(elm (g,c)).zA=(g:Int)from rfl,show(elm (g,c)).zc=c from rfl,hd,L0]
  rfl
 rw [st,L0]
 dsimp only
 unfold q2 at d1
 rw [show(128:Int)=((128:Nat):Int)from rfl,show(1:Int)=((1:Nat):Int)from rfl,ne (t:=128) hml d1 rfl (n3 O1),L0]
 have d2:=Z9 d1
 generalize 1+(!(q.zB== [])).toNat=i2 at d2
 dsimp only
 have s1:(if(!(q.zB== []))=true then((zx n (if(!(q.zB== []))=true then elm (128,(polE q.zB).2)else E0).zc).bind fun r26=>
   (if false=true then(some true)else(some (r26.2 !=0))).bind fun y28=>some (y28,r26.1))else(some (false,([]:List UInt8))))=some (false,q.zB):=by
  cases hb:(!(q.zB== []))with
  | true=>
   have hs:(y4 q.zB).isSome=true:=by
    rcases f1 with f1|f1
    ·rw [f1]at hb; exact absurd hb O1
    ·exact f1
   obtain⟨l,hl⟩:=Option.isSome_iff_exists.1 hs
   have hpe:(polE q.zB).2=qg l:=by unfold polE; rw [hl]; rfl
   rw [L4 rfl,L4 rfl,show(elm (128,(polE q.zB).2)).zc=(polE q.zB).2 from rfl,hpe,pS hl O0 O0,L0]
   rfl
  | false=>
   have:q.zB= []:=by simpa using hb
   rw [L3 O2,this]
 rw [s1,L0]
 dsimp only
 unfold q3 at d2
 rw [show(129:Int)=((129:Nat):Int)from rfl,ne (t:=129) hml d2 rfl (n4 O1),L0]
 have d3:=Z9 d2
 generalize i2+(q.yk !=0).toNat=i3 at d3
 dsimp only
 have s2:(if(q.yk !=0)=true then((xe n (if(q.yk !=0)=true then elm (129,fl)else E0).zc).bind fun r37=>
   (if false=true then(some true)else(some (r37.2 !=0))).bind fun y39=>some (y39,r37.1))else(some (false,(0:Int))))=some (false,q.yk):=by
  cases hb:(q.yk !=0)with
  | true=>
   rw [L4 rfl,L4 rfl,show(elm (129,fl)).zc=fl from rfl,hu,L0]
   rfl
  | false=>
   have:q.yk=0:=by simpa using hb
   rw [L3 O2,this]
 rw [s2,L0]
 dsimp only
 unfold q4 at d3
 rw [show(162:Int)=((162:Nat):Int)from rfl,ne (t:=162) hml d3 rfl (n5 O1),L0]
 have d4:=Z9 d3
 generalize i3+(!q.ze.isEmpty).toNat=i4 at d4
 dsimp only
 have s3:(if(!q.ze.isEmpty)=true then((z1 n (if(!q.ze.isEmpty)=true then elm (162,wraps (q.ze.map polE))else E0) ⟨M.map elm,(i4:Int),false⟩).bind fun r48=>
   some (r48.2.f_l,r48.2.bI,r48.2.jP,r48.1))else(some (M.map elm,(i4:Int),false,([]:List (List UInt8)))))=some (M.map elm,(i4:Int),false,q.ze):=by
  cases hp:q.ze with
  |nil=>rfl
  | cons s r=>
   rw [show(!(s::r).isEmpty)=true from rfl,L4 rfl,L4 rfl,←hp,Vq O0 f7 O0 rfl,L0]
 rw [s3,L0]
 dsimp only
 rw [show(131:Int)=((131:Nat):Int)from rfl,Ds hml (show M.drop i4=optE q.wr (131,[255])++q6 q from d4) (n6 O1),L0]
 have d5:M.drop (i4+q.wr.toNat)=q6 q:=Z9 (show M.drop i4=optE q.wr (131,[255])++q6 q from d4)
 generalize i4+q.wr.toNat=i5 at d5
 dsimp only
 rw [show(132:Int)=((132:Nat):Int)from rfl,Ds hml (show M.drop i5=optE q.xI (132,[255])++q7 q from d5) (n7 O1),L0]
 have d6:M.drop (i5+q.xI.toNat)=q7 q:=Z9 (show M.drop i5=optE q.xI (132,[255])++q7 q from d5)
 generalize i5+q.xI.toNat=i6 at d6
 dsimp only
 rw [show(133:Int)=((133:Nat):Int)from rfl,Ds hml (show M.drop i6=optE q.jy (133,[255])++q8 q from d6) (n8 O1),L0]
 have d7:M.drop (i6+q.jy.toNat)=q8 q:=Z9 (show M.drop i6=optE q.jy (133,[255])++q8 q from d6)
 generalize i6+q.jy.toNat=i7 at d7
 dsimp only
 unfold q8 at d7
 rw [show(166:Int)=((166:Nat):Int)from rfl,ne (t:=166) hml d7 rfl (n9 O1),L0]
 have d8:=Z9 d7
 generalize i7+(!q.zw.isEmpty).toNat=i8 at d8
 dsimp only
 have s4:(if(!q.zw.isEmpty)=true then((w6 n (if(!q.zw.isEmpty)=true then elm (166,wraps (q.zw.map vU))else E0).zc).bind fun r60=>
   (if false=true then(some true)else(some (r60.2 !=0))).bind fun y62=>some (y62,r60.1))else(some (false,([]:List zd))))=some (false,q.zw.map dn):=by
  cases hp:q.zw with
  |nil=>rfl
  | cons s r=>
   obtain⟨hD,hO,hBk⟩:=De (n:=n) (M:=900000) O0 hn
   rw [show(!(s::r).isEmpty)=true from rfl,L4 rfl,L4 rfl,←hp,show(elm (166,wraps (q.zw.map vU))).zc=wraps (q.zw.map vU)from rfl,zaD hD hO O0 O0 O0,GW (B:=252) hBk hn O0 (fun g hg=>⟨f8 g hg,b3 g hg⟩) (by rw [hp]; simp) f5,L0]
   rfl
 rw [s4,L0]
 dsimp only
 have d9:M.drop i8=numE 2 q.yj::q10 q:=d8
 obtain⟨h9,hx9,d10⟩:=WD d9
 rw [show(2:Int)=((2:Nat):Int)from rfl,DU O0 (by rw [L8]; omega) (sm8 f3) (by rw [List.getElem?_map,List.getElem?_eq_getElem h9,hx9]; rfl),L0]
 dsimp only
 rw [show(135:Int)=((135:Nat):Int)from rfl,Ds hml (show M.drop (i8+1)=optE q.uA (135,[255])++q11 q from d10) (n11 O1),L0]
 have d11:M.drop (i8+1+q.uA.toNat)=q11 q:=Z9 (show M.drop (i8+1)=optE q.uA (135,[255])++q11 q from d10)
 generalize i8+1+q.uA.toNat=i11 at d11
 dsimp only
 unfold q11 at d11
 rw [show(168:Int)=((168:Nat):Int)from rfl,ne (t:=168) hml d11 rfl O2,L0]
 generalize i11+(!q.zf.isEmpty).toNat=i12
 dsimp only
 have s5:(if(!q.zf.isEmpty)=true then((xL n (if(!q.zf.isEmpty)=true then elm (168,wraps (q.zf.map ancE))else E0).zc).bind fun r76=>
   (if false=true then(some true)else(some (r76.2 !=0))).bind fun y78=>(yH n r76.1 ⟨M.map elm,(i12:Int),y78⟩).bind fun r79=>
   some (r79.2.f_l,r79.2.bI,r79.2.jP,r79.1))else(some (M.map elm,(i12:Int),false,([]:List zj))))=some (M.map elm,(i12:Int),false,q.zf.map dZ):=by
  cases hp:q.zf with
  |nil=>rfl
  | cons s r=>
   have hq:∀p∈q.zf.map ancE,POk p:=by
    intro p hp; obtain⟨a,ha,rfl⟩:=Le.1 hp; exact Uh (f9 a ha)
   have e:=Jc (n:=n) hn q.zf f9 O0 n 0 [] O0 O0 O2
   rw [show((0:Nat):Int)=0 from rfl,Lf,Lg]at e
   rw [show(!(s::r).isEmpty)=true from rfl,L4 rfl,L4 rfl,←hp,show(elm (168,wraps (q.zf.map ancE))).zc=wraps (q.zf.map ancE)from rfl,Yi O0 O0,yV hq,L0]
   unfold yH
   rw [show(if false=true then(some true)else(some (((q.zf.map ancE).map elm,(0:Int)).2 !=0)))=some false from rfl,L0]
   dsimp only
   rw [e]
   rfl
 rw [s5,L0]
 dsimp only
 rw [show yp n ⟨q.uB,q.zB,q.yk,q.ze,q.wr,q.xI,q.jy,q.zw.map dn,q.yj,q.uA,q.zf.map dZ⟩=some (b,0)from he,L0]
 dsimp only
 rw [L3 (show ¬(false=true)by decide),L3 O1,show(!(b==b))=false by simp,L0,L3 O1]
 rfl
end Go.Abs
end
