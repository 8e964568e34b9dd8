/- The typed Lean form of WireDecodesQueries gives true for every list of at most 9223372036854775807 numbers. -/
import Derived.Test.YtbggpcnbbhjiaaaGreatDoorLaw7
set_option linter.unusedVariables false
set_option linter.unusedSimpArgs false
set_option linter.unnecessarySimpa false
section
set_option maxRecDepth 100000
namespace Go.Abs
open Go Go.Proofs IntKind
abbrev Dt:=yg
theorem ch5 {a b c d e:Bool} {o:Option Bool}:(if a=true then some true else(if b=true then some true else(if c=true then some true else(if d=true then some true else(if e=true then some true else o)))))=if(a||(b||(c||(d||e))))=true then some true else o:=by
 cases a<;>cases b<;>cases c<;>cases d<;>cases e<;>rfl
theorem ch6 {a b c d e f:Bool}:(if a=true then some true else(if b=true then some true else(if c=true then some true else(if d=true then some true else(if e=true then some true else some f)))))=some (a||(b||(c||(d||(e||f))))):=by
 cases a<;>cases b<;>cases c<;>cases d<;>cases e<;>rfl
theorem mX {n:Nat} {D:Dt}:∀(k:Nat) (v w:Int),qq n D k v w=yU n D k v w
 |0,_,_=>rfl
 | k+1,v,w=>by
  rw [qq,yU]
  simp only [lc,mX k]
theorem ol {n:Nat} {D:Dt} (hy:0≤D.bw) (hm:D.qF≤12):∀(j k:Nat) (v:Int),j≤12→j<k→∃x,yU n D k v ((13-j:Nat):Int)=some x
 |j,0,_,_,h=>O0
 | 0,k+1,v,_,_=>by
  rw [yU,L4 O4]; exact⟨_,rfl⟩
 | j+1,k+1,v,hj,hk=>by
  rw [yU]
  refine yq (fun _=> ?_) fun _=>⟨_,rfl⟩
  rw [KL hy _ O0 O0,L0,w1 O0,show 13-(j+1)+1=13-j by omega]
  exact ol hy hm j k _ O0 O0
theorem fJ {n:Nat} {D:Dt} (hn:20≤n):∃r,uT n D=some r∧xX n D=some r∧(D.qF<0∨D.pT<0∨D.pL<0∨D.ko<0∨D.kr<0→r=(0,12)):=by
 unfold uT xX
 simp only [lc,lJ,mX]
 rw [ch6,ch5,ch5]
 by_cases c1:(decide (D.bw<1950)||(decide (D.bw>9999)||(decide (D.qF<1)||(decide (D.qF>12)||decide (D.pT<1)))))=true
 ·rw [L6 c1,L6 c1]; exact⟨_,rfl,rfl,fun _=>rfl⟩
 ·rw [L4 c1,L4 c1]
  simp only [Bool.or_eq_true,L3,not_or]at c1
  obtain⟨m,hm⟩:∃m:Nat,D.qF=(m:Int):=⟨D.qF.toNat,O0⟩
  have hd:=KL (n:=n) (y:=D.bw) O0 m O0 O0
  rw [hm,hd]
  simp only [L0]
  by_cases c2:decide (D.pT>(ml (lpY D.bw) m:Nat))=true
  ·simp only [L6 c2,L0,if_true]; exact⟨_,rfl,rfl,fun _=>rfl⟩
  ·simp only [L4 c2,L0]
   by_cases c3:(decide (D.pL<0)||(decide (D.pL>23)||(decide (D.ko<0)||(decide (D.ko>59)||(decide (D.kr<0)||decide (D.kr>59))))))=true
   ·simp only [L6 c3]; exact⟨_,rfl,rfl,fun _=>rfl⟩
   ·simp only [L4 c3]
    rw [WJ O0 O0,L0]
    simp only [Bool.or_eq_true,L3,not_or]at c3
    obtain⟨x,hx⟩:=ol (n:=n) (D:=D) O0 O0 12 n (wrap .i64 (wrap .i64 (bef D.bw+D.pT)-1)) O0 O0
    rw [show((13-12:Nat):Int)=1 from rfl]at hx
    rw [hx,L0]
    exact⟨_,rfl,rfl,fun h=>O0⟩
theorem zfQ {n:Nat} {c0 c1 c2 c3 c4 c5 c6 c7 c8 c9 c10 c11 c12:UInt8}:yG n 23 [c0,c1,c2,c3,c4,c5,c6,c7,c8,c9,c10,c11,c12]=(some (((c12.toNat:Nat):Int) !=90)).bind fun y7=>if y7=true then(some (0,12))else((yI n [c0,c1]).bind fun r9=>yb ((if(decide (r9<0))=true then(some true)else(some false)).bind fun y23=>if y23=true then(some (.ret (0,12)))else((some (decide (r9≥50))).bind fun y25=>if y25=true then(some (.nxt (wrap .i64 (r9+1900))))else(some (.nxt (wrap .i64 (r9+2000)))))) (fun r=>some r) (fun y19=>(kZ n y19 [c2,c3,c4,c5,c6,c7,c8,c9,c10,c11,c12]).bind fun r27=>(uT n r27).bind fun r28=>some (r28.1,r28.2))):=O8
theorem zfU {n:Nat} {y:Int} {c2 c3 c4 c5 c6 c7 c8 c9 c10 c11 c12:UInt8}:kZ n y [c2,c3,c4,c5,c6,c7,c8,c9,c10,c11,c12]=(yI n [c2,c3]).bind fun r6=>(yI n [c4,c5]).bind fun r7=>(yI n [c6,c7]).bind fun r8=>(yI n [c8,c9]).bind fun r9=>(yI n [c10,c11]).bind fun r10=>some (yg.mk y r6 r7 r8 r9 r10):=O8
theorem zgw {n:Nat} {c0 c1 c2 c3 c4 c5 c6 c7 c8 c9 c10 c11 c12:UInt8}:zT n 23 [c0,c1,c2,c3,c4,c5,c6,c7,c8,c9,c10,c11,c12]=((if(((c12.toNat:Nat):Int) !=90)=true then(some true)else((zH n [c0,c1,c2,c3,c4,c5,c6,c7,c8,c9,c10,c11]).bind fun r8=>some (decide (r8<0))))).bind fun y10=>if y10=true then(some (0,12))else((zH n [c0,c1]).bind fun r12=>yb ((some false).bind fun y26=>if y26=true then(some (.ret (0,12)))else((some (decide (r12≥50))).bind fun y28=>if y28=true then(some (.nxt (wrap .i64 (r12+1900))))else(some (.nxt (wrap .i64 (r12+2000)))))) (fun r=>some r) (fun y22=>(zH n [c2,c3]).bind fun r34=>(zH n [c4,c5]).bind fun r35=>(zH n [c6,c7]).bind fun r36=>(zH n [c8,c9]).bind fun r37=>(zH n [c10,c11]).bind fun r38=>(xX n (yg.mk y22 r34 r35 r36 r37 r38)).bind fun r39=>some (r39.1,r39.2))):=O8
theorem zft {n:Nat} (hn:40≤n) {c0 c1 c2 c3 c4 c5 c6 c7 c8 c9 c10 c11 c12:UInt8}:∃r,yG n 23 [c0,c1,c2,c3,c4,c5,c6,c7,c8,c9,c10,c11,c12]=some r∧zT n 23 [c0,c1,c2,c3,c4,c5,c6,c7,c8,c9,c10,c11,c12]=some r:=by
 rw [zfQ,zgw]
 rw [(qS (n:=n) (s:= [c0,c1]) O2 O0).1,(qS (n:=n) (s:= [c0,c1]) O2 O0).2]
 rw [(qS (n:=n) (s:= [c0,c1,c2,c3,c4,c5,c6,c7,c8,c9,c10,c11]) O2 O0).2]
 rw [(qS (n:=n) (s:= [c2,c3]) O2 O0).2]
 rw [(qS (n:=n) (s:= [c4,c5]) O2 O0).2]
 rw [(qS (n:=n) (s:= [c6,c7]) O2 O0).2]
 rw [(qS (n:=n) (s:= [c8,c9]) O2 O0).2]
 rw [(qS (n:=n) (s:= [c10,c11]) O2 O0).2]
 by_cases z:(((c12.toNat:Nat):Int) !=90)=true
 ·rw [z]; exact⟨_,rfl,rfl⟩
 rw [Bool.not_eq_true]at z
 rw [z]
 simp only [L0]
 rw [L4 (show ¬(false=true)by decide),L4 (show ¬(false=true)by decide)]
 have key:∀Y:Int,∃r,((kZ n Y [c2,c3,c4,c5,c6,c7,c8,c9,c10,c11,c12]).bind fun r27=>(uT n r27).bind fun r28=>some (r28.1,r28.2))=some r∧((xX n (yg.mk Y (qD [c2,c3]) (qD [c4,c5]) (qD [c6,c7]) (qD [c8,c9]) (qD [c10,c11]))).bind fun r39=>some (r39.1,r39.2))=some r∧(([c0,c1,c2,c3,c4,c5,c6,c7,c8,c9,c10,c11]).any ndg=true→([c0,c1]).any ndg=false→r=(0,12)):=by
  intro Y
  rw [zfU,(qS (n:=n) (s:= [c2,c3]) O2 O0).1,(qS (n:=n) (s:= [c4,c5]) O2 O0).1,(qS (n:=n) (s:= [c6,c7]) O2 O0).1,(qS (n:=n) (s:= [c8,c9]) O2 O0).1,(qS (n:=n) (s:= [c10,c11]) O2 O0).1]
  simp only [L0]
  obtain⟨r,h1,h2,h3⟩:=fJ (n:=n) (D:=yg.mk Y (qD [c2,c3]) (qD [c4,c5]) (qD [c6,c7]) (qD [c8,c9]) (qD [c10,c11])) O0
  rw [h1,h2]
  refine⟨r,rfl,rfl,fun hw hy=>h3 ?_⟩
  have hs:([c0,c1,c2,c3,c4,c5,c6,c7,c8,c9,c10,c11]).any ndg=(([c0,c1]).any ndg||(([c2,c3]).any ndg||(([c4,c5]).any ndg||(([c6,c7]).any ndg||(([c8,c9]).any ndg||([c10,c11]).any ndg))))):=by
   simp only [List.any_cons,List.any_nil,Bool.or_false,Bool.or_assoc]
  rw [hs,hy,Bool.false_or]at hw
  simp only [Bool.or_eq_true]at hw
  rcases hw with h|h|h|h|h
  ·exact .inl (by show qD _<0; rw [kq h]; decide)
  ·exact .inr (.inl (by show qD _<0; rw [kq h]; decide))
  ·exact .inr (.inr (.inl (by show qD _<0; rw [kq h]; decide)))
  ·exact .inr (.inr (.inr (.inl (by show qD _<0; rw [kq h]; decide))))
  ·exact .inr (.inr (.inr (.inr ((by show qD _<0; rw [kq h]; decide)))))
 cases hy:([c0,c1]).any ndg with
 | true=>
  have hw:([c0,c1,c2,c3,c4,c5,c6,c7,c8,c9,c10,c11]).any ndg=true:=by
   have hs:([c0,c1,c2,c3,c4,c5,c6,c7,c8,c9,c10,c11]).any ndg=(([c0,c1]).any ndg||([c2,c3,c4,c5,c6,c7,c8,c9,c10,c11]).any ndg):=by simp only [List.any_cons,List.any_nil,Bool.or_false,Bool.or_assoc]
   rw [hs,hy,Bool.true_or]
  rw [kq hy,kq hw]; exact⟨_,rfl,rfl⟩
 | false=>
  obtain⟨y0,y1⟩:=BL hy
  cases hw:([c0,c1,c2,c3,c4,c5,c6,c7,c8,c9,c10,c11]).any ndg with
  | true=>
   rw [kq hw]
   have e:decide (qD [c0,c1]<0)=false:=by rw [decide_eq_false_iff_not]; omega
   rw [e]
   by_cases h50:decide (qD [c0,c1]≥50)=true
   ·obtain⟨r,h1,_,h3⟩:=key (wrap .i64 (qD [c0,c1]+1900))
    rw [h3 hw hy]at h1
    rw [h50]; exact⟨_,h1,rfl⟩
   ·obtain⟨r,h1,_,h3⟩:=key (wrap .i64 (qD [c0,c1]+2000))
    rw [h3 hw hy]at h1
    rw [Bool.not_eq_true]at h50
    rw [h50]; exact⟨_,h1,rfl⟩
  | false=>
   obtain⟨w0,_⟩:=BL hw
   have e:decide (qD [c0,c1]<0)=false:=by rw [decide_eq_false_iff_not]; omega
   have e2:decide (qD [c0,c1,c2,c3,c4,c5,c6,c7,c8,c9,c10,c11]<0)=false:=by rw [decide_eq_false_iff_not]; omega
   rw [e,e2]
   by_cases h50:decide (qD [c0,c1]≥50)=true
   ·obtain⟨r,h1,h2,_⟩:=key (wrap .i64 (qD [c0,c1]+1900))
    rw [h50]; exact⟨r,h1,h2⟩
   ·obtain⟨r,h1,h2,_⟩:=key (wrap .i64 (qD [c0,c1]+2000))
    rw [Bool.not_eq_true]at h50
    rw [h50]; exact⟨r,h1,h2⟩
theorem zgg {n:Nat} {c0 c1 c2 c3 c4 c5 c6 c7 c8 c9 c10 c11 c12 c13 c14:UInt8}:yG n 24 [c0,c1,c2,c3,c4,c5,c6,c7,c8,c9,c10,c11,c12,c13,c14]=(some (((c14.toNat:Nat):Int) !=90)).bind fun y7=>if y7=true then(some (0,12))else((yI n [c0,c1,c2,c3]).bind fun r9=>yb ((if(decide (r9<0))=true then(some true)else(some (decide (r9<2050)))).bind fun y23=>if y23=true then(some (.ret (0,12)))else((some false).bind fun y25=>if y25=true then(some (.nxt (wrap .i64 (r9+1900))))else(some (.nxt r9)))) (fun r=>some r) (fun y19=>(kZ n y19 [c4,c5,c6,c7,c8,c9,c10,c11,c12,c13,c14]).bind fun r27=>(uT n r27).bind fun r28=>some (r28.1,r28.2))):=O8
theorem zfv {n:Nat} {y:Int} {c4 c5 c6 c7 c8 c9 c10 c11 c12 c13 c14:UInt8}:kZ n y [c4,c5,c6,c7,c8,c9,c10,c11,c12,c13,c14]=(yI n [c4,c5]).bind fun r6=>(yI n [c6,c7]).bind fun r7=>(yI n [c8,c9]).bind fun r8=>(yI n [c10,c11]).bind fun r9=>(yI n [c12,c13]).bind fun r10=>some (yg.mk y r6 r7 r8 r9 r10):=O8
theorem zgy {n:Nat} {c0 c1 c2 c3 c4 c5 c6 c7 c8 c9 c10 c11 c12 c13 c14:UInt8}:zT n 24 [c0,c1,c2,c3,c4,c5,c6,c7,c8,c9,c10,c11,c12,c13,c14]=((if(((c14.toNat:Nat):Int) !=90)=true then(some true)else((zH n [c0,c1,c2,c3,c4,c5,c6,c7,c8,c9,c10,c11,c12,c13]).bind fun r8=>some (decide (r8<0))))).bind fun y10=>if y10=true then(some (0,12))else((zH n [c0,c1,c2,c3]).bind fun r12=>yb ((some (decide (r12<2050))).bind fun y26=>if y26=true then(some (.ret (0,12)))else((some false).bind fun y28=>if y28=true then(some (.nxt (wrap .i64 (r12+1900))))else(some (.nxt r12)))) (fun r=>some r) (fun y22=>(zH n [c4,c5]).bind fun r34=>(zH n [c6,c7]).bind fun r35=>(zH n [c8,c9]).bind fun r36=>(zH n [c10,c11]).bind fun r37=>(zH n [c12,c13]).bind fun r38=>(xX n (yg.mk y22 r34 r35 r36 r37 r38)).bind fun r39=>some (r39.1,r39.2))):=O8
theorem zfz {n:Nat} (hn:40≤n) {c0 c1 c2 c3 c4 c5 c6 c7 c8 c9 c10 c11 c12 c13 c14:UInt8}:∃r,yG n 24 [c0,c1,c2,c3,c4,c5,c6,c7,c8,c9,c10,c11,c12,c13,c14]=some r∧zT n 24 [c0,c1,c2,c3,c4,c5,c6,c7,c8,c9,c10,c11,c12,c13,c14]=some r:=by
 rw [zgg,zgy]
 rw [(qS (n:=n) (s:= [c0,c1,c2,c3]) O2 O0).1,(qS (n:=n) (s:= [c0,c1,c2,c3]) O2 O0).2]
 rw [(qS (n:=n) (s:= [c0,c1,c2,c3,c4,c5,c6,c7,c8,c9,c10,c11,c12,c13]) O2 O0).2]
 rw [(qS (n:=n) (s:= [c4,c5]) O2 O0).2]
 rw [(qS (n:=n) (s:= [c6,c7]) O2 O0).2]
 rw [(qS (n:=n) (s:= [c8,c9]) O2 O0).2]
 rw [(qS (n:=n) (s:= [c10,c11]) O2 O0).2]
 rw [(qS (n:=n) (s:= [c12,c13]) O2 O0).2]
 by_cases z:(((c14.toNat:Nat):Int) !=90)=true
 ·rw [z]; exact⟨_,rfl,rfl⟩
 rw [Bool.not_eq_true]at z
 rw [z]
 simp only [L0]
 rw [L4 (show ¬(false=true)by decide),L4 (show ¬(false=true)by decide)]
 have key:∀Y:Int,∃r,((kZ n Y [c4,c5,c6,c7,c8,c9,c10,c11,c12,c13,c14]).bind fun r27=>(uT n r27).bind fun r28=>some (r28.1,r28.2))=some r∧((xX n (yg.mk Y (qD [c4,c5]) (qD [c6,c7]) (qD [c8,c9]) (qD [c10,c11]) (qD [c12,c13]))).bind fun r39=>some (r39.1,r39.2))=some r∧(([c0,c1,c2,c3,c4,c5,c6,c7,c8,c9,c10,c11,c12,c13]).any ndg=true→([c0,c1,c2,c3]).any ndg=false→r=(0,12)):=by
  intro Y
  rw [zfv,(qS (n:=n) (s:= [c4,c5]) O2 O0).1,(qS (n:=n) (s:= [c6,c7]) O2 O0).1,(qS (n:=n) (s:= [c8,c9]) O2 O0).1,(qS (n:=n) (s:= [c10,c11]) O2 O0).1,(qS (n:=n) (s:= [c12,c13]) O2 O0).1]
  simp only [L0]
  obtain⟨r,h1,h2,h3⟩:=fJ (n:=n) (D:=yg.mk Y (qD [c4,c5]) (qD [c6,c7]) (qD [c8,c9]) (qD [c10,c11]) (qD [c12,c13])) O0
  rw [h1,h2]
  refine⟨r,rfl,rfl,fun hw hy=>h3 ?_⟩
  have hs:([c0,c1,c2,c3,c4,c5,c6,c7,c8,c9,c10,c11,c12,c13]).any ndg=(([c0,c1,c2,c3]).any ndg||(([c4,c5]).any ndg||(([c6,c7]).any ndg||(([c8,c9]).any ndg||(([c10,c11]).any ndg||([c12,c13]).any ndg))))):=by
   simp only [List.any_cons,List.any_nil,Bool.or_false,Bool.or_assoc]
  rw [hs,hy,Bool.false_or]at hw
  simp only [Bool.or_eq_true]at hw
  rcases hw with h|h|h|h|h
  ·exact .inl (by show qD _<0; rw [kq h]; decide)
  ·exact .inr (.inl (by show qD _<0; rw [kq h]; decide))
  ·exact .inr (.inr (.inl (by show qD _<0; rw [kq h]; decide)))
  ·exact .inr (.inr (.inr (.inl (by show qD _<0; rw [kq h]; decide))))
  ·exact .inr (.inr (.inr (.inr ((by show qD _<0; rw [kq h]; decide)))))
 cases hy:([c0,c1,c2,c3]).any ndg with
 | true=>
  have hw:([c0,c1,c2,c3,c4,c5,c6,c7,c8,c9,c10,c11,c12,c13]).any ndg=true:=by
   have hs:([c0,c1,c2,c3,c4,c5,c6,c7,c8,c9,c10,c11,c12,c13]).any ndg=(([c0,c1,c2,c3]).any ndg||([c4,c5,c6,c7,c8,c9,c10,c11,c12,c13]).any ndg):=by simp only [List.any_cons,List.any_nil,Bool.or_false,Bool.or_assoc]
   rw [hs,hy,Bool.true_or]
  rw [kq hy,kq hw]; exact⟨_,rfl,rfl⟩
 | false=>
  obtain⟨y0,y1⟩:=BL hy
  cases hw:([c0,c1,c2,c3,c4,c5,c6,c7,c8,c9,c10,c11,c12,c13]).any ndg with
  | true=>
   rw [kq hw]
   have e:decide (qD [c0,c1,c2,c3]<0)=false:=by rw [decide_eq_false_iff_not]; omega
   rw [e]
   by_cases h50:decide (qD [c0,c1,c2,c3]<2050)=true
   ·rw [h50]; exact⟨_,rfl,rfl⟩
   ·obtain⟨r,h1,_,h3⟩:=key (qD [c0,c1,c2,c3])
    rw [h3 hw hy]at h1
    rw [Bool.not_eq_true]at h50
    rw [h50]; exact⟨_,h1,rfl⟩
  | false=>
   obtain⟨w0,_⟩:=BL hw
   have e:decide (qD [c0,c1,c2,c3]<0)=false:=by rw [decide_eq_false_iff_not]; omega
   have e2:decide (qD [c0,c1,c2,c3,c4,c5,c6,c7,c8,c9,c10,c11,c12,c13]<0)=false:=by rw [decide_eq_false_iff_not]; omega
   rw [e,e2]
   by_cases h50:decide (qD [c0,c1,c2,c3]<2050)=true
   ·rw [h50]; exact⟨_,rfl,rfl⟩
   ·obtain⟨r,h1,h2,_⟩:=key (qD [c0,c1,c2,c3])
    rw [Bool.not_eq_true]at h50
    rw [h50]; exact⟨r,h1,h2⟩
theorem QN {n:Nat} {g:Int} {c:Bs} (hn:40≤n) (hc:c.length≤9223372036854775807):∃r,yG n g c=some r∧zT n g c=some r:=by
 by_cases h23:g=23
 ·subst h23
  by_cases hl:c.length=13
  ·match c,hl with
   | [c0,c1,c2,c3,c4,c5,c6,c7,c8,c9,c10,c11,c12],_=>exact zft hn
  ·have e:((List.length c:Int) !=13)=true:=by rw [bne_iff_ne]; omega
   refine⟨(0,12), ?_, ?_⟩
   ·unfold yG
    show((if((List.length c:Int) !=13)=true then(some true)else _).bind _)=_
    rw [L6 e]; rfl
   ·unfold zT
    show((if((List.length c:Int) !=13)=true then(some true)else _).bind _)=_
    rw [L6 e]; rfl
 by_cases h24:g=24
 ·subst h24
  by_cases hl:c.length=15
  ·match c,hl with
   | [c0,c1,c2,c3,c4,c5,c6,c7,c8,c9,c10,c11,c12,c13,c14],_=>exact zfz hn
  ·have e:((List.length c:Int) !=15)=true:=by rw [bne_iff_ne]; omega
   refine⟨(0,12), ?_, ?_⟩
   ·unfold yG
    show((if((List.length c:Int) !=15)=true then(some true)else _).bind _)=_
    rw [L6 e]; rfl
   ·unfold zT
    show((if((List.length c:Int) !=15)=true then(some true)else _).bind _)=_
    rw [L6 e]; rfl
 refine⟨(0,5), ?_, ?_⟩
 ·unfold yG
  rw [L4 (Oa h23),L4 (Oa h24)]; rfl
 ·unfold zT
  rw [L6 (Oa h23),L0,L6 (Oa h24)]
theorem rB {n t:Nat} {b:Bool} {p:Nat×Bs} {L:List (Nat×Bs)} (hp:p.1=t) (hL:∀q∈L,q.1≠t):yR n (t:Int) ⟨(optE b p++L).map elm,false⟩=some (if b=true then elm p else E0,b,⟨L.map elm,false⟩):=by
 unfold yR
 cases b with
 | true=>
  have e:(optE true p++L).map elm=elm p::L.map elm:=rfl
  have k0:zM (elm p::L.map elm) 0=some (elm p):=by simp [zM]
  have ht:(elm p).zF=(t:Int):=by show((p.1:Nat):Int)=_; rw [hp]
  rw [e]
  dsimp only
  rw [L4 (by rw [beq_iff_eq,La]; omega),k0,L0,L0,ht,L4 O2,Ul]
  rfl
 | false=>
  have e:(optE false p++L)=L:=rfl
  rw [e]
  match L,hL with
  | [],_=>rfl
  | q::r,hL=>
   have k0:zM ((q::r).map elm) 0=some (elm q):=by simp [zM]
   have ht:((elm q).zF !=(t:Int))=true:=by
    have:=hL q O2
    rw [bne_iff_ne]; show((q.1:Nat):Int)≠_; omega
   dsimp only
   rw [L4 (by rw [beq_iff_eq,Lb,La]; omega),k0,L0,L0,ht,L6 rfl,L4 O2]
theorem nL {n t:Nat} {b:Bool} {L:List (Nat×Bs)} (hL:∀q∈L,q.1≠t):vd n (t:Int) ⟨(optE b (t,[255])++L).map elm,false⟩=some (b,⟨L.map elm,false⟩):=by
 unfold vd
 rw [rB (p:=(t,[255])) rfl hL,L0]
 cases b with
 |true=>rfl
 |false=>rfl
theorem WN {b:Bool} {p:Nat×Bs} {L:List (Nat×Bs)} {t:Nat} (h1:p.1≠t) (h2:∀q∈L,q.1≠t):∀q∈optE b p++L,q.1≠t:=by
 intro q hq
 rcases Lo.1 hq with h|h
 ·unfold optE at h
  split at h
  ·rw [Ln]at h; subst h; exact h1
  ·simp at h
 ·exact h2 q h
theorem sC {p:Nat×Bs} {L:List (Nat×Bs)} {t:Nat} (h1:p.1≠t) (h2:∀q∈L,q.1≠t):∀q∈p::L,q.1≠t:=by
 intro q hq
 rcases Lp.1 hq with h|h
 ·subst h; exact h1
 ·exact h2 q h
theorem n11 {q:Qry} {t:Nat} (h:t≠168):∀x∈q11 q,x.1≠t:=WN (fun e=>h e.symm) O2
theorem n10 {q:Qry} {t:Nat} (h:t≠168∧t≠135):∀x∈q10 q,x.1≠t:=WN (fun e=>h.2 e.symm) (n11 h.1)
theorem n9 {q:Qry} {t:Nat} (h:(t≠168∧t≠135)∧t≠2):∀x∈q9 q,x.1≠t:=sC (fun e=>h.2 e.symm) (n10 h.1)
theorem n8 {q:Qry} {t:Nat} (h:((t≠168∧t≠135)∧t≠2)∧t≠166):∀x∈q8 q,x.1≠t:=WN (fun e=>h.2 e.symm) (n9 h.1)
theorem n7 {q:Qry} {t:Nat} (h:(((t≠168∧t≠135)∧t≠2)∧t≠166)∧t≠133):∀x∈q7 q,x.1≠t:=WN (fun e=>h.2 e.symm) (n8 h.1)
theorem n6 {q:Qry} {t:Nat} (h:((((t≠168∧t≠135)∧t≠2)∧t≠166)∧t≠133)∧t≠132):∀x∈q6 q,x.1≠t:=WN (fun e=>h.2 e.symm) (n7 h.1)
theorem n5 {q:Qry} {t:Nat} (h:(((((t≠168∧t≠135)∧t≠2)∧t≠166)∧t≠133)∧t≠132)∧t≠131):∀x∈q5 q,x.1≠t:=WN (fun e=>h.2 e.symm) (n6 h.1)
theorem n4 {q:Qry} {t:Nat} (h:((((((t≠168∧t≠135)∧t≠2)∧t≠166)∧t≠133)∧t≠132)∧t≠131)∧t≠162):∀x∈q4 q,x.1≠t:=WN (fun e=>h.2 e.symm) (n5 h.1)
theorem n3 {q:Qry} {fl:Bs} {t:Nat} (h:(((((((t≠168∧t≠135)∧t≠2)∧t≠166)∧t≠133)∧t≠132)∧t≠131)∧t≠162)∧t≠129):∀x∈q3 fl q,x.1≠t:=WN (fun e=>h.2 e.symm) (n4 h.1)
theorem sY (g:Gen):v8 (dX g)=v8 g:=by unfold v8 dX; simp only [GG]
theorem B5 {B:Nat} {l:List (List Att)} (h:BdN B l):BdN B (VS l):=by
 refine⟨by rw [Lb]; exact h.1,fun r hr=> ?_⟩
 obtain⟨x,hx,rfl⟩:=Lh.1 hr
 have p:=WH x
 exact⟨by rw [p.length_eq]; exact(h.2 x hx).1,fun a ha=>(h.2 x hx).2 a (p.mem_iff.1 ha)⟩
theorem t7 (l:List Gen):(l.map dX).map v8=l.map v8:=by
 rw [List.map_map]; exact List.map_congr_left fun g _=>sY g
theorem cG (l:List Anc):(l.map Yw).map ancE=l.map ancE:=by
 rw [List.map_map]; exact List.map_congr_left fun a _=>ry a
theorem oe {α β:Type} (f:α→β) (l:List α):(l.map f).isEmpty=l.isEmpty:=by cases l<;>rfl
theorem rM (tm:Nat×Bs) (fl:Bs) (q:Qry):contQ tm fl (bo q)=contQ tm fl q:=by
 have h11:q11 (bo q)=q11 q:=by
  unfold q11
  rw [show(bo q).zg=q.zg.map Yw from rfl,cG,oe]
 have h10:q10 (bo q)=q10 q:=by unfold q10; rw [h11]; rfl
 have h9:q9 (bo q)=q9 q:=by unfold q9; rw [h10]; rfl
 have h8:q8 (bo q)=q8 q:=by
  unfold q8
  rw [h9,show(bo q).zy=q.zy.map dX from rfl,t7,oe]
 have h7:q7 (bo q)=q7 q:=by unfold q7; rw [h8]; rfl
 have h6:q6 (bo q)=q6 q:=by unfold q6; rw [h7]; rfl
 have h5:q5 (bo q)=q5 q:=by unfold q5; rw [h6]; rfl
 have h4:q4 (bo q)=q4 q:=by unfold q4; rw [h5]; rfl
 have h3:q3 fl (bo q)=q3 fl q:=by unfold q3; rw [h4]; rfl
 have h2:q2 fl (bo q)=q2 fl q:=by unfold q2; rw [h3]; rfl
 unfold contQ
 rw [h2]
theorem Xo {P:Nat×Bs→Prop} {b:Bool} {p:Nat×Bs} {L:List (Nat×Bs)} (h1:b=true→P p) (h2:∀x∈L,P x):∀x∈optE b p++L,P x:=by
 intro x hx
 rcases Lo.1 hx with h|h
 ·unfold optE at h
  split at h
  ·rename_i hb; rw [Ln]at h; subst h; exact h1 hb
  ·simp at h
 ·exact h2 x h
theorem all_cons {P:Nat×Bs→Prop} {p:Nat×Bs} {L:List (Nat×Bs)} (h1:P p) (h2:∀x∈L,P x):∀x∈p::L,P x:=by
 intro x hx
 rcases Lp.1 hx with h|h
 ·subst h; exact h1
 ·exact h2 x h
theorem UU {t:Nat} {c:Bs} (h1:t≤255) (h2:t%32≠31) (h3:t/32%2=0) (hc:c.length≤131072):POk (t,c)∧Wf 6 (t,c):=⟨⟨h1,h2,hc⟩,Wf.leaf h3⟩
theorem eL {n:Nat} (l:List (List Att)) (j:Nat) (hj:j<l.length) (hx:l[j].length≤1000000) (hn:2000000≤n):∀(k i:Nat),i≤l[j].length→l[j].length-i<k→wI n l[j] ⟨VS l⟩ (j:Int) k (i:Int)=some (.nxt ())
 |0,i,_,h=>O0
 | k+1,i,hi,hk=>by
  have hj2:j<(VS l).length:=by rw [Lb]; exact hj
  have e0:(VS l)[j]=gA l[j]:=O2
  have hp:=WH l[j]
  rw [wI]
  by_cases hc:i<l[j].length
  ·have e:=ce (n:=n) (gA l[j]) (l[j])[i] (by rw [hp.length_eq]; exact hx) n 0 false O0 (by rw [hp.length_eq]; omega) (.inr (by rw [Li]; exact hp.mem_iff.2 (Ll hc)))
   rw [show((0:Nat):Int)=0 from rfl]at e
   rw [L6 O4,zQ hc,L0]
   simp only [zQ hj2,L0]
   rw [e0,e,L0,L4 O2,w1 O0]
   exact eL l j hj hx hn k (i+1) O0 O0
  ·rw [L4 O4]
theorem cq {n:Nat} (l:List (List Att)) (hx:∀r∈l,r.length≤1000000) (hl:l.length≤1000000) (hn:2000000≤n):∀(k i:Nat),i≤l.length→l.length-i<k→wK n ⟨l⟩ ⟨VS l⟩ k (i:Int)=some (.nxt ())
 |0,i,_,h=>O0
 | k+1,i,hi,hk=>by
  rw [wK]
  by_cases hc:i<l.length
  ·have h1:=hx _ (Ll hc)
   have hj2:i<(VS l).length:=by rw [Lb]; exact hc
   have e0:(VS l)[i]=gA l[i]:=O2
   have e:=eL (n:=n) l i hc h1 hn n 0 O0 O0
   rw [show((0:Nat):Int)=0 from rfl]at e
   rw [L6 (by rw [L3]; show(i:Int)<(l.length:Int); omega)]
   simp only [zQ hc,zQ hj2,L0]
   rw [L4 (by rw [e0,(WH l[i]).length_eq]; simp),e]
   simp only [yb]
   rw [w1 O0]
   exact cq l hx hl hn k (i+1) O0 O0
  ·rw [L4 (by rw [L3]; show ¬(i:Int)<(l.length:Int); omega)]
theorem QA {n B:Nat} {l:List (List Att)} (h:BdN B l) (hB:B≤1000000) (hn:2000000≤n):wG n ⟨l⟩ ⟨VS l⟩=some true:=by
 unfold wG
 have h1:=h.1
 have e:=cq (n:=n) l (fun r hr=>by have:=(h.2 r hr).1; omega) O0 hn n 0 O0 O0
 rw [show((0:Nat):Int)=0 from rfl]at e
 rw [L4 (by show ¬((l.length:Int) !=((VS l).length:Int))=true; rw [Lb]; simp),e]; rfl
theorem DR {n B:Nat} (l:List Anc) (h:BdL B l) (hB:B≤1000000) (hl:l.length≤64) (hn:2000000≤n):∀(k i:Nat),i≤l.length→l.length-i<k→xN n l (l.map Yw) k (i:Int)=some (.nxt ())
 |0,i,_,h=>O0
 | k+1,i,hi,hk=>by
  rw [xN]
  by_cases hc:i<l.length
  ·have hj2:i<(l.map Yw).length:=by rw [Lb]; exact hc
   have e0:(l.map Yw)[i]=Yw l[i]:=O2
   rw [L6 O4]
   simp only [zQ hc,zQ hj2,L0,e0]
   have hs:wG n ⟨l[i].zt.zh⟩ ⟨(Yw l[i]).zt.zh⟩=some true:=QA (h _ (Ll hc)) hB hn
   rw [show(Yw l[i]).zP=l[i].zP from rfl,L4 O2,hs,L0,L0,L4 O2,w1 O0]
   exact DR l h hB hl hn k (i+1) O0 O0
  ·rw [L4 O4]
theorem mA {n B:Nat} {l:List Anc} (h:BdL B l) (hB:B≤1000000) (hl:l.length≤64) (hn:2000000≤n):ju n l (l.map Yw)=some true:=by
 unfold ju
 have e:=DR (n:=n) l h hB hl hn n 0 O0 O0
 rw [show((0:Nat):Int)=0 from rfl]at e
 rw [L4 (by rw [Lb]; simp),e]; rfl
theorem DS {n B:Nat} (l:List Gen) (h:∀g∈l,BdG B g) (hB:B≤1000000) (hl:l.length≤64) (hn:2000000≤n):∀(k i:Nat),i≤l.length→l.length-i<k→xE n l (l.map dX) k (i:Int)=some (.nxt ())
 |0,i,_,h=>O0
 | k+1,i,hi,hk=>by
  rw [xE]
  by_cases hc:i<l.length
  ·have hj2:i<(l.map dX).length:=by rw [Lb]; exact hc
   have e0:(l.map dX)[i]=dX l[i]:=O2
   rw [L6 O4]
   simp only [zQ hc,zQ hj2,L0,e0]
   have hs:wG n ⟨l[i].zt.zh⟩ ⟨(dX l[i]).zt.zh⟩=some true:=QA (h _ (Ll hc)).2 hB hn
   rw [show(dX l[i]).zG=l[i].zG from rfl,L4 O2,show(dX l[i]).yl=l[i].yl from rfl,L4 O2,hs,L0,L0,L4 O2,w1 O0]
   exact DS l h hB hl hn k (i+1) O0 O0
  ·rw [L4 O4]
theorem mH {n B:Nat} {l:List Gen} (h:∀g∈l,BdG B g) (hB:B≤1000000) (hl:l.length≤64) (hn:2000000≤n):jl n l (l.map dX)=some true:=by
 unfold jl
 have e:=DS (n:=n) l h hB hl hn n 0 O0 O0
 rw [show((0:Nat):Int)=0 from rfl]at e
 rw [L4 (by rw [Lb]; simp),e]; rfl
def zcA:Gen:=⟨0,[],⟨[]⟩⟩
def fin (g:Gen):Gen×Int:=if jK g≠0 then(zcA,jK g)else(g,0)
def pm (D:Bs→Bs×Int) (e:El):Gen×Int:=
 if e.zF=129∨e.zF=130∨e.zF=135 then fin ⟨e.zF-128,e.zd,⟨[]⟩⟩
 else if e.zF=164 then(if(gm D e.zd).2≠0 then(zcA,(gm D e.zd).2)else fin ⟨4,[],⟨(gm D e.zd).1⟩⟩)
 else(zcA,5)
theorem zeB (t:Int):(if(t==129)=true then(some (t==129))else(if(t==130)=true then(some (t==130))else(some (t==135))))=some (decide (t=129∨t=130∨t=135)):=by
 by_cases h1:t=129
 ·subst h1; rfl
 by_cases h2:t=130
 ·subst h2; rfl
 by_cases h3:t=135
 ·subst h3; rfl
 rw [L4 (Oa h1),L4 (Oa h2)]
 congr 1
 simp [h1,h2,h3]
theorem zdF {n M:Nat} {D:Bs→Bs×Int} (hD:∀c:Bs,c.length≤M→yw n c=some (D c)) (hDl:∀c:Bs,c.length≤M→(D c).1.length≤M+252) (hM:M≤900000) (hn:2000000≤n) {e:El} (he:e.zd.length≤M):bU n e false=some (pm D e):=by
 unfold bU pm
 rw [zeB,L0]
 by_cases h:e.zF=129∨e.zF=130∨e.zF=135
 ·rw [L6 h,L6 (by rw [L3]; exact h)]
  simp only [yb]
  rw [z6 O0,PD (B:=M) hn ⟨by show e.zd.length≤M; omega,by show([]:List (List Att)).length≤M; simp,O2⟩ O0 O0,L0]
  unfold fin
  by_cases c:jK ⟨e.zF-128,e.zd,⟨[]⟩⟩=0
  ·rw [L4 (by rw [c]; simp),L4 (Oa c)]
  ·rw [L6 (Oa c),L6 c]; rfl
 ·rw [L4 h,L4 (by rw [L3]; exact h)]
  by_cases h4:e.zF=164
  ·rw [L6 (Oa h4),L6 h4,oo hD hDl hM O0 he,L0]
   by_cases c:(gm D e.zd).2=0
   ·rw [L4 (by rw [c]; simp),L4 (Oa c)]
    simp only [yb]
    rw [PD (B:=252) hn ⟨O2,XN⟩ O0 O0,L0]
    unfold fin
    by_cases c:jK ⟨4,[],⟨(gm D e.zd).1⟩⟩=0
    ·rw [L4 (by rw [c]; simp),L4 (Oa c)]
    ·rw [L6 (Oa c),L6 c]; rfl
   ·rw [L6 (Oa c),L6 c]; rfl
  ·rw [L4 (Oa h4),L4 h4]; rfl
theorem zdH {n M:Nat} {D:Bs→Bs×Int} (hD:∀c:Bs,c.length≤M→zE n c=some (D c)) (hDl:∀c:Bs,c.length≤M→(D c).1.length≤M+252) (hM:M≤900000) (hn:2000000≤n) {e:El} (he:e.zd.length≤M):uV n e false=some (pm D e):=by
 unfold uV pm
 rw [zeB,L0]
 by_cases h:e.zF=129∨e.zF=130∨e.zF=135
 ·rw [L6 h,L6 (by rw [L3]; exact h)]
  simp only [yb]
  rw [z6 O0,BC (B:=M) hn ⟨by show e.zd.length≤M; omega,by show([]:List (List Att)).length≤M; simp,O2⟩ O0 O0,L0]
  unfold fin
  by_cases c:jK ⟨e.zF-128,e.zd,⟨[]⟩⟩=0
  ·rw [L4 (by rw [c]; simp),L4 (Oa c)]
  ·rw [L6 (Oa c),L6 c]; rfl
 ·rw [L4 h,L4 (by rw [L3]; exact h)]
  by_cases h4:e.zF=164
  ·rw [L6 (Oa h4),L6 h4,tr hD hDl hM O0 he,L0]
   by_cases c:(gm D e.zd).2=0
   ·rw [L4 (by rw [c]; simp),L4 (Oa c)]
    simp only [yb]
    rw [BC (B:=252) hn ⟨O2,XN⟩ O0 O0,L0]
    unfold fin
    by_cases c:jK ⟨4,[],⟨(gm D e.zd).1⟩⟩=0
    ·rw [L4 (by rw [c]; simp),L4 (Oa c)]
    ·rw [L6 (Oa c),L6 c]; rfl
   ·rw [L6 (Oa c),L6 c]; rfl
  ·rw [L4 (Oa h4),L4 h4]; rfl
theorem oZ {D:Bs→Bs×Int} {e:El} (h:(pm D e).2=0):jK (pm D e).1=0∧BdN 252 (pm D e).1.zt.zh:=by
 unfold pm fin at h ⊢
 split at h
 ·rename_i h1
  rw [L6 h1]
  split at h
  ·rename_i h2; exact absurd h h2
  ·rename_i h2; rw [L4 h2]
   exact⟨by simpa using h2,by show([]:List (List Att)).length≤252; simp,O2⟩
 ·rename_i h1
  rw [L4 h1]
  split at h
  ·rename_i h3
   rw [L6 h3]
   split at h
   ·rename_i h2; exact absurd h h2
   ·rename_i h2; rw [L4 h2]
    split at h
    ·rename_i h4; exact absurd h h4
    ·rename_i h4; rw [L4 h4]
     exact⟨by simpa using h4,XN⟩
  ·exact absurd h O1
theorem cA {n B:Nat} {D:Bs→Bs×Int} (hBk:∀s l,xG s=some l→D (qA l)=(s,0)) {g:Gen} (hn:200000000≤n) (h:okG n g) (hb:BdG B g) (hB:B≤60000):pm D (elm (v8 g))=(dX g,0):=by
 have hs:jK (dX g)=0:=by
  have h1:=Q6 h hb.2 O0 O0
  exact zeE (B:=B) O0 ⟨hb.1,B5 hb.2⟩ hB h1
 unfold pm fin
 rcases XE h hb.2 O0 O0 with⟨h1,h2,h3⟩|⟨h1,h2⟩
 ·have e:v8 g=(164,(tWrap (xd g.zt.zh).1 (xd g.zt.zh).2).1):=by unfold v8; rw [L6 h1]
  have es:dX g=⟨4,[],⟨VS g.zt.zh⟩⟩:=by unfold dX; rw [h1,h2]
  have et:(elm (164,(tWrap (xd g.zt.zh).1 (xd g.zt.zh).2).1)).zF=164:=rfl
  have ec:(elm (164,(tWrap (xd g.zt.zh).1 (xd g.zt.zh).2).1)).zd=(tWrap (xd g.zt.zh).1 (xd g.zt.zh).2).1:=rfl
  rw [e,et,ec,L4 O1,L6 rfl,Xn hBk h3,L4 O2]
  rw [es]at hs ⊢
  rw [L4 (by rw [hs]; simp)]
 ·have hk:¬g.zG=4:=O0
  have e:v8 g=((128+g.zG).toNat,g.yl):=by unfold v8; rw [L4 hk]
  have et:(elm ((128+g.zG).toNat,g.yl)).zF=128+g.zG:=by show(((128+g.zG).toNat:Nat):Int)=_; omega
  have ec:(elm ((128+g.zG).toNat,g.yl)).zd=g.yl:=rfl
  have es:dX g=⟨g.zG,g.yl,⟨[]⟩⟩:=by unfold dX; rw [h2]; rfl
  rw [e,et,ec,L6 O0,show 128+g.zG-128=g.zG by omega]
  rw [es]at hs ⊢
  rw [L4 (by rw [hs]; simp)]
def XH (D:Bs→Bs×Int):List El→List Gen→Ctl (List Gen×Int) (List Gen)
 | [],acc=> .nxt acc
 |e::l,acc=>if(pm D e).2≠0 then .ret ([],(pm D e).2)else XH D l (acc ++ [(pm D e).1])
def Xs (D:Bs→Bs×Int) (c:Bs):List Gen×Int:=
 if(tList c).2≠0 then([],(tList c).2)else if(tList c).1.length=0 then([],7)else if 16<(tList c).1.length then([],2)
 else match XH D (tList c).1 []with| .ret r=>r| .nxt l=>(l,0)
theorem cz {n M:Nat} {D:Bs→Bs×Int} (hD:∀c:Bs,c.length≤M→yw n c=some (D c)) (hDl:∀c:Bs,c.length≤M→(D c).1.length≤M+252) (hM:M≤900000) (hn:2000000≤n) (T:List El×Int) (hT:Bd M T.1) (hl:T.1.length≤16):∀(k i:Nat) (acc:List Gen),i≤T.1.length→T.1.length-i<k→acc.length≤i →
  wS n T k acc (i:Int)=some (XH D (T.1.drop i) acc)
 |0,_,_,_,h,_=>O0
 | k + 1,i,acc,hi,hk,ha=>by
  rw [wS]
  by_cases hc:i<T.1.length
  ·rw [L6 O4,zQ hc,L0,zdF hD hDl hM hn (hT.2 _ (Ll hc)),L0,Lc hc,XH]
   by_cases h:(pm D T.1[i]).2=0
   ·rw [L4 (by rw [h]; simp),L4 (Oa h),yx (by rw [L9]; omega),L0,w1 O0]
    exact cz hD hDl hM hn T hT hl k (i+1) _ O0 O0 (by rw [L8,L9]; omega)
   ·rw [L6 (Oa h),L6 h]
  ·rw [L4 O4,Ld O0]; rfl
theorem eC {n M:Nat} {D:Bs→Bs×Int} (hD:∀c:Bs,c.length≤M→zE n c=some (D c)) (hDl:∀c:Bs,c.length≤M→(D c).1.length≤M+252) (hM:M≤900000) (hn:2000000≤n) (T:List El×Int) (hT:Bd M T.1) (hl:T.1.length≤16):∀(k i:Nat) (acc:List Gen),i≤T.1.length→T.1.length-i<k→acc.length≤i →
  we n T k acc (i:Int)=some (XH D (T.1.drop i) acc)
 |0,_,_,_,h,_=>O0
 | k + 1,i,acc,hi,hk,ha=>by
  rw [we]
  by_cases hc:i<T.1.length
  ·rw [L6 O4,zQ hc,L0,zdH hD hDl hM hn (hT.2 _ (Ll hc)),L0,Lc hc,XH]
   by_cases h:(pm D T.1[i]).2=0
   ·rw [L4 (by rw [h]; simp),L4 (Oa h),yx (by rw [L9]; omega),L0,w1 O0]
    exact eC hD hDl hM hn T hT hl k (i+1) _ O0 O0 (by rw [L8,L9]; omega)
   ·rw [L6 (Oa h),L6 h]
  ·rw [L4 O4,Ld O0]; rfl
theorem zee {n M:Nat} {D:Bs→Bs×Int} (hD:∀c:Bs,c.length≤M→yw n c=some (D c)) (hDl:∀c:Bs,c.length≤M→(D c).1.length≤M+252) (hM:M≤900000) (hn:2000000≤n) {c:Bs} (hc:c.length≤M):ur n c=some (Xs D c):=by
 unfold ur gQ Xs
 have hT:=uR c (M:=M) hc
 rw [gd O0 O0,L0]
 by_cases h1:(tList c).2=0
 ·rw [L4 (by rw [h1]; simp),L4 (show ¬(tList c).2≠0 by simpa using h1)]
  by_cases h2:(tList c).1.length=0
  ·rw [L6 O9,L0,L6 O1,L6 (show(tList c).1.length=0 from h2)]
  ·rw [L4 O9,L4 (show ¬(tList c).1.length=0 from h2)]
   by_cases h3:16<(tList c).1.length
   ·rw [L6 O4,L0,L6 O1,L6 (show 16<(tList c).1.length from h3)]
   ·have e:=cz hD hDl hM hn (tList c) hT O0 n 0 [] O0 O0 O2
    rw [show((0:Nat):Int)=0 from rfl,Li]at e
    rw [L4 O4,L0,L4 O1,L4 (show ¬16<(tList c).1.length from h3),e]
    cases XH D (tList c).1 []<;>rfl
 ·rw [L6 (Oa h1),L6 (show(tList c).2≠0 from h1)]
theorem zb8 {n M:Nat} {D:Bs→Bs×Int} (hD:∀c:Bs,c.length≤M→zE n c=some (D c)) (hDl:∀c:Bs,c.length≤M→(D c).1.length≤M+252) (hM:M≤900000) (hn:2000000≤n) {c:Bs} (hc:c.length≤M):w7 n c=some (Xs D c):=by
 unfold w7 Xs
 have hT:=uR c (M:=M) hc
 rw [YQ O0 O0,L0]
 by_cases h1:(tList c).2=0
 ·rw [L4 (by rw [h1]; simp),L4 (show ¬(tList c).2≠0 by simpa using h1)]
  by_cases h2:(tList c).1.length=0
  ·rw [L6 O9,L6 (show(tList c).1.length=0 from h2)]
  ·rw [L4 O9,L4 (show ¬(tList c).1.length=0 from h2)]
   by_cases h3:16<(tList c).1.length
   ·rw [L6 O4,L6 (show 16<(tList c).1.length from h3)]
   ·have e:=eC hD hDl hM hn (tList c) hT O0 n 0 [] O0 O0 O2
    rw [show((0:Nat):Int)=0 from rfl,Li]at e
    rw [L4 O4,L4 (show ¬16<(tList c).1.length from h3),e]
    cases XH D (tList c).1 []<;>rfl
 ·rw [L6 (Oa h1),L6 (show(tList c).2≠0 from h1)]
theorem fH {D:Bs→Bs×Int}:∀(l:List El) (acc:List Gen),(∀g∈acc,jK g=0∧BdN 252 g.zt.zh)→(∀r,XH D l acc= .ret r→r.1= [])∧∀out,XH D l acc= .nxt out→out.length=acc.length+l.length∧∀g∈out,jK g=0∧BdN 252 g.zt.zh
 | [],acc,h=>⟨fun r hr=>(by cases hr),fun out ho=>(by cases ho; exact⟨O2,h⟩)⟩
 | e ::l,acc,h=>by
  rw [XH]
  by_cases c:(pm D e).2=0
  ·rw [L4 (Oa c)]
   obtain ⟨h1,h2⟩:=fH l (acc ++ [(pm D e).1]) (by
    intro g hg; rcases Lo.1 hg with hg|hg
    ·exact h g hg
    ·rw [Ln]at hg; subst hg; exact oZ c)
   refine⟨h1,fun out ho=> ?_⟩
   obtain⟨h3,h4⟩:=h2 out ho
   exact⟨by rw [h3,L8,L9,La]; omega,h4⟩
  ·rw [L6 c]; exact⟨fun r hr=>(by cases hr; rfl),fun out ho=>(by cases ho)⟩
theorem BS {D:Bs→Bs×Int} {c:Bs}:(Xs D c).1.length≤16∧∀g∈(Xs D c).1,jK g=0∧BdN 252 g.zt.zh:=by
 unfold Xs
 split
 ·exact⟨O2,O2⟩
 split
 ·exact⟨O2,O2⟩
 split
 ·exact⟨O2,O2⟩
 rename_i h
 obtain⟨h1,h2⟩:=fH (D:=D) (tList c).1 [] O2
 cases hg:XH D (tList c).1 []with
 |ret r=>have:=h1 r hg; obtain⟨a,b⟩:=r; simp only at this; subst this; exact⟨O2,O2⟩
 |nxt out=>obtain⟨h3,h4⟩:=h2 out hg; exact⟨by show out.length≤16; rw [h3,Lm]; omega,h4⟩
theorem Gw {n B:Nat} {D:Bs→Bs×Int} (hBk:∀s l,xG s=some l→D (qA l)=(s,0)) (hn:200000000≤n) (hB:B≤60000):∀(l acc:List Gen),(∀g∈l,okG n g∧BdG B g)→XH D ((l.map v8).map elm) acc= .nxt (acc++l.map dX)
 | [],acc,_=>by simp [XH]
 | g::l,acc,h=>by
  obtain⟨h1,h2⟩:=h g O2
  rw [Le,Le,XH,cA hBk hn h1 h2 hB,L4 O2,Gw hBk hn hB l _ (fun x hx=>h x (by simp [hx])),Le,Lq,List.singleton_append]
theorem D4 {n B:Nat} {D:Bs→Bs×Int} (hBk:∀s l,xG s=some l→D (qA l)=(s,0)) (hn:200000000≤n) (hB:B≤60000) {l:List Gen} (h:∀g∈l,okG n g∧BdG B g) (h0:l≠ []) (hl:l.length≤16):Xs D (wraps (l.map v8))=(l.map dX,0):=by
 have hp:0<l.length:=List.length_pos_iff.2 h0
 have hq:∀p∈l.map v8,POk p:=by
  intro p hp; obtain⟨g,hg,rfl⟩:=Lh.1 hp; exact(WO (h g hg).1 (h g hg).2 hB O0).1
 unfold Xs
 rw [wV hq,L4 O2]
 dsimp only
 rw [L4 (by rw [Lb,Lb]; omega),L4 (by rw [Lb,Lb]; omega),Gw hBk hn hB l [] h]
 rfl
theorem lQ {k:IntKind} {a b:Int} (h:0≤b):∃x,WA k a b=some x:=⟨_,L4 O0⟩
theorem PE {k:IntKind} {a b:Int} (h:0≤b):∃x,Uy k a b=some x:=⟨_,L4 O0⟩
theorem fW (x:Int):0≤wrap .u64 x:=by
 have h:wrap .u64 x=x%2^64:=rfl
 rw [h]; exact Int.emod_nonneg _ O1
theorem zeo {b:Bs} {i:Int} (h0:0≤i) (h1:i<8*(b.length:Int)) (hb:b.length≤1000000):∃x,yr b (wrap .i64 (Int.tdiv i 8))=some x:=by
 rw [Int.tdiv_eq_ediv_of_nonneg h0,z6 O0]
 exact u9 O0 O0
theorem sq {n:Nat} {b:Bs} {i:Int} (h0:0≤i) (h1:i<8*(b.length:Int)) (hb:b.length≤1000000):∃r,ZJ n b i=some r:=by
 unfold ZJ
 exact yF (zeo h0 h1 hb) fun x _=>yF (lQ (fW _)) fun y _=>⟨_,rfl⟩
theorem zat {n:Nat} {b:Bs} {u:Int} (hb:b.length≤1000000):∃r,gy n b u=some r:=by
 unfold gy
 refine yq (fun _=>⟨_,rfl⟩) fun _=>yF (yq (fun h=> ?_) fun _=>⟨_,rfl⟩) fun y _=>⟨_,rfl⟩
 have hl:0<b.length:=by
  cases b with
  |nil=>exact absurd h O1
  |cons x r=>simp
 rw [z6 O0]
 exact yF (u9 O0 O0) fun x _=>yF (PE (fW _)) fun y _=>⟨_,rfl⟩
theorem zcW {n:Nat} {c:Bs} (hc:c.length≤1000000):∃b u e,kD n c=some (b,u,e)∧b.length≤1000000∧(e=0→0≤u∧u≤7):=by
 unfold kD
 match c,hc with
 | [],_=>exact⟨[],0,7,rfl,O2,fun h=>absurd h O1⟩
 | x::r,hc=>
  have hl:(x::r).length=r.length+1:=rfl
  have e0:yr (x::r) 0=some ((x.toNat:Nat):Int):=rfl
  have hx:=W6 x
  have hs:ssl (x::r) 1 (List.length (x::r))=some r:=by
   unfold ssl
   rw [L6 ⟨O0,by rw [hl]; omega,O0⟩]
   simp
  rw [L4 O2,e0,hs]
  simp only [L0]
  by_cases h7:decide (((x.toNat:Nat):Int)>7)=true
  ·rw [L6 h7]; exact⟨[],0,7,rfl,O2,fun h=>absurd h O1⟩
  ·rw [L4 h7]
   rw [L3]at h7
   obtain⟨s,hsp⟩:=zat (n:=n) (b:=r) (u:=wrap .i64 ((x.toNat:Nat):Int)) (by rw [hl]at hc; omega)
   rw [hsp]
   simp only [L0]
   rw [z6 O0]
   cases s
   ·exact⟨[],0,7,rfl,O2,fun h=>absurd h O1⟩
   ·exact⟨r,_,0,rfl,by rw [hl]at hc; omega,fun _=>O0⟩
theorem zcX {n:Nat} {c:Bs} (hc:c.length≤1000000):∃b u e,wn n c=some (b,u,e)∧b.length≤1000000∧(e=0→0≤u∧u≤7):=by
 unfold wn
 match c,hc with
 | [],_=>exact⟨[],0,7,rfl,O2,fun h=>absurd h O1⟩
 | x ::r,hc=>
  have hl:(x::r).length=r.length+1:=rfl
  have e0:yr (x::r) 0=some ((x.toNat:Nat):Int):=rfl
  have hx:=W6 x
  have hs:ssl (x::r) 1 (List.length (x::r))=some r:=by
   unfold ssl
   rw [L6 ⟨O0,by rw [hl]; omega,O0⟩]
   simp
  rw [L4 (by rw [beq_iff_eq,hl]; omega),e0,hs]
  simp only [L0]
  by_cases h7:decide (((x.toNat:Nat):Int)>7)=true
  ·rw [L6 h7]; exact⟨[],0,7,rfl,O2,fun h=>absurd h O1⟩
  ·rw [L4 h7]
   rw [L3]at h7
   have key:∃y,(if(decide (((x.toNat:Nat):Int)>0))=true then(if((List.length (x::r):Int)==1)=true then(some true)else((yr (x::r) (wrap .i64 ((List.length (x::r):Int)-1))).bind fun x3=>
     (Uy .i64 1 ((x.toNat:Nat):Int)).bind fun x5=>(PC (wrap .i64 x3) x5).bind fun x6=>some (x6 !=0)))else(some false))=some y:=by
    refine yq (fun _=>yq (fun _=>⟨_,rfl⟩) fun _=> ?_) fun _=>⟨_,rfl⟩
    rw [z6 O0]
    refine yF (u9 O0 O0) fun x3 _=>yF (PE O0) fun x5 h5=>yF (ow ?_) fun x6 _=>⟨_,rfl⟩
    have h8:x.toNat=0∨x.toNat=1∨x.toNat=2∨x.toNat=3∨x.toNat=4∨x.toNat=5∨x.toNat=6∨x.toNat=7:=O0
    rcases h8 with h|h|h|h|h|h|h|h<;>rw [h]at h5<;>(injection h5 with h5; rw [←h5]; decide)
   obtain⟨y,hy⟩:=key
   rw [hy]
   simp only [L0]
   rw [z6 O0]
   cases y
   ·exact⟨r,_,0,rfl,by rw [hl]at hc; omega,fun _=>O0⟩
   ·exact⟨[],0,7,rfl,O2,fun h=>absurd h O1⟩
theorem tE {n:Nat} {b:Bs} {u e:Int} (hb:b.length≤1000000) (hu:0≤u∧u≤7) (hm:8*(b.length:Int)-u≤16):∀(j k:Nat) (v:Int),j≤16→j<k→∃r,be n (b,u,e) k v ((16-j:Nat):Int)=some r
 |j,0,_,_,h=>O0
 | j,k+1,v,hj,hk=>by
  rw [be]
  dsimp only
  rw [z6 (x:=8*(b.length:Int)) O0,z6 (x:=8*(b.length:Int)-u) O0]
  refine yq (fun h=> ?_) fun _=>⟨_,rfl⟩
  rw [L3]at h
  match j,hj,hk,h with
  |0,_,_,h=>omega
  | j+1,hj,hk,h=>
   refine yF (yF (sq O0 O0 hb) fun y _=>yq (fun _=>yF (PE (fW _)) fun z _=>⟨_,rfl⟩) fun _=>⟨_,rfl⟩) fun w _=> ?_
   rw [w1 O0,show 16-(j+1)+1=16-j by omega]
   exact tE hb hu hm j k w O0 O0
theorem zay {n:Nat} {b:Bs} {u e:Int} (hb:b.length≤1000000) (hu:0≤u∧u≤7) (hm:8*(b.length:Int)-u≤16):∀(j k:Nat) (v:Int),j≤16→j<k→∃r,vR n (b,u,e) k v ((16-j:Nat):Int)=some r
 |j,0,_,_,h=>O0
 | j,k+1,v,hj,hk=>by
  rw [vR]
  dsimp only
  rw [z6 (x:=8*(b.length:Int)) O0,z6 (x:=8*(b.length:Int)-u) O0]
  refine yq (fun h=> ?_) fun _=>⟨_,rfl⟩
  rw [L3]at h
  match j,hj,hk,h with
  |0,_,_,h=>omega
  | j+1,hj,hk,h=>
   have hm8:Int.tmod ((16-(j+1):Nat):Int) 8=((16-(j+1))%8:Nat):=by rw [Int.tmod_eq_emod_of_nonneg O0]; omega
   refine yF (yF (zeo O0 O0 hb) fun y _=>yF (lQ (by rw [hm8,z6 O0]; omega)) fun x _=>yq (fun _=>yF (PE O0) fun z _=>⟨_,rfl⟩) fun _=>⟨_,rfl⟩) fun w _=> ?_
   rw [w1 O0,show 16-(j+1)+1=16-j by omega]
   exact zay hb hu hm j k w O0 O0
theorem rO {n:Nat} {c:Bs} (hn:100≤n) (hc:c.length≤1000000):∃x e,jp n c=some (x,e):=by
 unfold jp
 obtain⟨b,u,e,h1,h2,h3⟩:=zcW (n:=n) hc
 rw [h1,L0]
 dsimp only
 by_cases he:e=0
 ·obtain ⟨u0,u1⟩:=h3 he
  rw [L4 (by rw [he]; decide),z6 (x:=8*(b.length:Int)) O0,z6 (x:=8*(b.length:Int)-u) O0]
  obtain ⟨y,hy⟩:∃y,(if(decide ((8*(b.length:Int)-u)>0))=true then((ZJ n b (wrap .i64 ((8*(b.length:Int)-u)-1))).bind fun r2=>some (!r2))else(some false))=some y:=by
   refine yq (fun h=> ?_) fun _=>⟨_,rfl⟩
   rw [L3]at h
   rw [z6 O0]
   exact yF (sq O0 O0 h2) fun x _=>⟨_,rfl⟩
  rw [hy,L0]
  cases y with
  |true=>exact⟨_,_,rfl⟩
  | false=>
   rw [L4 O1]
   by_cases h16:decide (8*(b.length:Int)-u>16)=true
   ·rw [L6 h16]; exact⟨_,_,rfl⟩
   ·rw [L4 h16]
    rw [L3]at h16
    obtain⟨r,hr⟩:=tE (n:=n) (e:=e) h2 ⟨u0,u1⟩ O0 16 n 0 O0 O0
    rw [show((16-16:Nat):Int)=0 from rfl]at hr
    rw [hr]; exact⟨_,_,rfl⟩
 ·rw [L6 (Oa he)]; exact⟨_,_,rfl⟩
theorem rL {n:Nat} {c:Bs} (hn:100≤n) (hc:c.length≤1000000):∃x e,y6 n c=some (x,e):=by
 unfold y6
 obtain⟨b,u,e,h1,h2,h3⟩:=zcX (n:=n) hc
 rw [h1,L0]
 dsimp only
 by_cases he:e=0
 ·obtain ⟨u0,u1⟩:=h3 he
  rw [L4 (by rw [he]; decide),z6 (x:=8*(b.length:Int)) O0,z6 (x:=8*(b.length:Int)-u) O0]
  obtain ⟨y,hy⟩:∃y,(if(decide ((8*(b.length:Int)-u)>0))=true then((yr b (wrap .i64 ((b.length:Int)-1))).bind fun x2=>(WA .u8 x2 u).bind fun x3=>some ((Int.tmod x3 2)==0))else(some false))=some y:=by
   refine yq (fun h=> ?_) fun _=>⟨_,rfl⟩
   rw [L3]at h
   rw [z6 O0]
   exact yF (u9 O0 O0) fun x _=>yF (lQ u0) fun x3 _=>⟨_,rfl⟩
  rw [hy,L0]
  cases y with
  |true=>exact⟨_,_,rfl⟩
  | false=>
   rw [L4 O1]
   by_cases h16:decide (8*(b.length:Int)-u>16)=true
   ·rw [L6 h16]; exact⟨_,_,rfl⟩
   ·rw [L4 h16]
    rw [L3]at h16
    obtain⟨r,hr⟩:=zay (n:=n) (e:=e) h2 ⟨u0,u1⟩ O0 16 n 0 O0 O0
    rw [show((16-16:Nat):Int)=0 from rfl]at hr
    rw [hr]; exact⟨_,_,rfl⟩
 ·rw [L6 (Oa he)]; exact⟨_,_,rfl⟩
def se (m:Nat) (v:Nat):Bool:=match bj (m+1000) (v:Int),vK (m+1000) (v:Int)with
 |some (c,e),some (c',e')=>decide (e=0)&&decide (c.length≤4)&&(c'==c&&decide (e'=0))&&(jp (m+1000) c==some ((v:Int),0)&&y6 (m+1000) c==some ((v:Int),0))
 |_,_=>false
theorem zeK (m:Nat):((List.range 128).all fun v=>se m v)=true:=O8
theorem zdN (m:Nat):((List.range 128).all fun v=>se m (v+128))=true:=O8
theorem zdf (m:Nat):((List.range 128).all fun v=>se m (v+256))=true:=O8
theorem zfi (m:Nat):((List.range 128).all fun v=>se m (v+384))=true:=O8
theorem cO {n:Nat} (hn:1000≤n) {u:Int} (h0:0≤u) (h1:u≤511):∃c:Bs,c.length≤4∧bj n u=some (c,0)∧vK n u=some (c,0)∧jp n c=some (u,0)∧y6 n c=some (u,0):=by
 obtain⟨m,rfl⟩:∃m,n=m+1000:=⟨n-1000,O0⟩
 obtain⟨v,rfl⟩:∃v:Nat,u=(v:Int):=⟨u.toNat,O0⟩
 have h:se m v=true:=by
  by_cases a:v<128
  ·exact Lg.1 (zeK m) v O3
  by_cases b:v<256
  ·have:=Lg.1 (zdN m) (v-128) O3
   rwa [show v-128+128=v by omega]at this
  by_cases c:v<384
  ·have:=Lg.1 (zdf m) (v-256) O3
   rwa [show v-256+256=v by omega]at this
  ·have:=Lg.1 (zfi m) (v-384) O3
   rwa [show v-384+384=v by omega]at this
 unfold se at h
 split at h
 ·rename_i c e c' e' h1 h2
  simp only [Lf,L3,beq_iff_eq]at h
  obtain⟨⟨⟨rfl,h4⟩,rfl,rfl⟩,h5,h6⟩:=h
  exact⟨_,h4,h1,h2,h5,h6⟩
 ·cases h
theorem Vt {α:Type} {M L:List α} {i:Nat} {p:α} (h:M.drop i=p::L):∃hi:i<M.length,M[i]=p∧M.drop (i+1)=L:=by
 have hi:i<M.length:=by
  rcases Nat.lt_or_ge i M.length with h'|h'
  ·exact h'
  ·rw [Ld h']at h; cases h
 rw [Lc hi]at h
 injection h with h1 h2
 exact⟨hi,h1,h2⟩
theorem Q8 {M:List (Nat×Bs)} {i:Nat} (hi:i<M.length):zM (M.map elm) (i:Int)=some (elm M[i]):=by
 rw [zQ (by rw [Lb]; exact hi)]; simp
theorem YG {M L:List (Nat×Bs)} {i:Nat} {b:Bool} {p:Nat×Bs} (h:M.drop i=optE b p++L):M.drop (i+b.toNat)=L:=by
 cases b with
 |true=>exact(Vt h).2.2
 |false=>exact h
theorem oH {n t i:Nat} {b:Bool} {p:Nat×Bs} {L M:List (Nat×Bs)} (hl:M.length≤1000) (h:M.drop i=optE b p++L) (hp:p.1=t) (hL:∀q∈L,q.1≠t):
  zU n (t:Int) ⟨M.map elm,(i:Int),false⟩=some (if b=true then elm p else E0,b,⟨M.map elm,((i+b.toNat:Nat):Int),false⟩):=by
 unfold zU
 dsimp only
 rw [L4 (show ¬(false=true)by decide),Lb]
 cases b with
 | true=>
  obtain⟨hi,hx,_⟩:=Vt h
  have ht:(elm p).zF=(t:Int):=by show((p.1:Nat):Int)=_; rw [hp]
  rw [L4 O4,Q8 hi,hx,L0,ht,L0,L4 O2,w1 O0,z6 O0,show((i+1:Nat):Int)-1=(i:Int)by omega,Q8 hi,hx]
  rfl
 | false=>
  match L,h,hL with
  | [],h,_=>
   have hi:M.length≤i:=by
    have:=congrArg List.length h
    rw [List.length_drop]at this
    have e:(optE false p ++ []).length=0:=rfl
    omega
   rw [L6 O4]; rfl
  | q::r,h,hL=>
   obtain⟨hi,hx,_⟩:=Vt (show M.drop i=q::r from h)
   have ht:((elm q).zF !=(t:Int))=true:=by
    have:=hL q O2
    rw [bne_iff_ne]; show((q.1:Nat):Int)≠_; omega
   rw [L4 O4,Q8 hi,hx,L0,L0,ht,L6 rfl]; rfl
theorem Pw {n t i:Nat} {b:Bool} {L M:List (Nat×Bs)} (hl:M.length≤1000) (h:M.drop i=optE b (t,[255])++L) (hL:∀q∈L,q.1≠t):
  yL n (t:Int) ⟨M.map elm,(i:Int),false⟩=some (b,⟨M.map elm,((i+b.toNat:Nat):Int),false⟩):=by
 unfold yL
 rw [oH (p:=(t,[255])) hl h rfl hL,L0]
theorem ro {tm:Nat×Bs} {fl:Bs} {q:Qry}:(contQ tm fl q).length≤12:=by
 have h:∀(b:Bool) (p:Nat×Bs),(optE b p).length≤1:=fun b p=>by cases b<;>simp [optE]
 unfold contQ q2 q3 q4 q5 q6 q7 q8 q9 q10 q11
 have h1:=h (!(q.zC== [])) (128,(polE q.zC).2)
 have h2:=h (q.yk !=0) (129,fl)
 have h3:=h (!q.zi.isEmpty) (162,wraps (q.zi.map polE))
 have h4:=h q.xI (131,[255])
 have h5:=h q.xb (132,[255])
 have h6:=h q.jt (133,[255])
 have h7:=h (!q.zy.isEmpty) (166,wraps (q.zy.map v8))
 have h8:=h q.uc (135,[255])
 have h9:=h (!q.zg.isEmpty) (168,wraps (q.zg.map ancE))
 simp only [La,L8,Lm]
 omega
theorem zff {n g:Nat} {c fl b:Bs} {q:Qry} (hn:200000000≤n) (hf:QOk n q∧BdQ 252 q) (hd:zT n (g:Int) c=some (q.uu,0)) (hu:y6 n fl=some (q.yk,0))
  (hw:vY n b=some (⟨48,wraps (contQ (g,c) fl q),b⟩,0)) (hp:∀p∈contQ (g,c) fl q,POk p) (hcl:(wraps (contQ (g,c) fl q)).length≤131072) (he:yh n (bo q)=some (b,0)):
  yK n b=some (bo q,0):=by
 obtain⟨⟨f1,f2,f3,⟨f4,f5,f6⟩,f7,f8,f9⟩,⟨b1,b2,b3,b4⟩⟩:=hf
 have m3:=Vx f7
 have m4:=UH O0 O0 f8 b3
 have m4':(252+4338)*q.zy.length≤73440:=O0
 have m5:=Ym f9
 unfold yK
 rw [hw,L0]
 dsimp only
 rw [L4 O1,nH O7 O7,L0]
 dsimp only
 rw [wV hp]
 dsimp only
 have hfl0:(((48:Int) !=48)||((0:Int) !=0))=false:=rfl
 rw [hfl0]
 have hml:(contQ (g,c) fl q).length≤1000:=by have:=ro (tm:=(g,c)) (fl:=fl) (q:=q); omega
 have d0:(contQ (g,c) fl q).drop 0=(g,c)::q2 fl q:=rfl
 have d1:(contQ (g,c) fl q).drop 1=q2 fl q:=rfl
 generalize contQ (g,c) fl q=M at hp hml d0 d1
 have st:(if(decide ((List.length (M.map elm):Int)>0))=true then((zM (M.map elm) 0).bind fun x13=>(zM (M.map elm) 0).bind fun x14=>(zT n x13.zF x14.zd).bind fun r15=>
   (if false=true then(some true)else(some (r15.2 !=0))).bind fun y17=>some ((1:Int),y17,r15.1))else(some ((0:Int),false,(0:Int))))=some (1,false,q.uu):=by
  obtain⟨h0,hx,_⟩:=Vt d0
  have e0:=Q8 h0
  rw [hx,show((0:Nat):Int)=0 from rfl]at e0
  rw [L6 (by rw [L3,Lb]; omega),e0,L0,L0,show(elm (g,c)).zF=(g:Int)from rfl,show(elm (g,c)).zd=c from rfl,hd,L0]
  rfl
 rw [st,L0]
 dsimp only
 unfold q2 at d1
 rw [show(128:Int)=((128:Nat):Int)from rfl,show(1:Int)=((1:Nat):Int)from rfl,oH (t:=128) hml d1 rfl (n3 O1),L0]
 have d2:=YG d1
 generalize 1+(!(q.zC== [])).toNat=i2 at d2
 dsimp only
 have s1:(if(!(q.zC== []))=true then((zE n (if(!(q.zC== []))=true then elm (128,(polE q.zC).2)else E0).zd).bind fun r26=>
   (if false=true then(some true)else(some (r26.2 !=0))).bind fun y28=>some (y28,r26.1))else(some (false,([]:List UInt8))))=some (false,q.zC):=by
  cases hb:(!(q.zC== []))with
  | true=>
   have hs:(xG q.zC).isSome=true:=by
    rcases f1 with f1|f1
    ·rw [f1]at hb; exact absurd hb O1
    ·exact f1
   obtain⟨l,hl⟩:=Option.isSome_iff_exists.1 hs
   have hpe:(polE q.zC).2=qA l:=by unfold polE; rw [hl]; rfl
   rw [L6 rfl,L6 rfl,show(elm (128,(polE q.zC).2)).zd=(polE q.zC).2 from rfl,hpe,Zv hl O0 O0,L0]
   rfl
  | false=>
   have:q.zC= []:=by simpa using hb
   rw [L4 O2,this]
 rw [s1,L0]
 dsimp only
 unfold q3 at d2
 rw [show(129:Int)=((129:Nat):Int)from rfl,oH (t:=129) hml d2 rfl (n4 O1),L0]
 have d3:=YG d2
 generalize i2+(q.yk !=0).toNat=i3 at d3
 dsimp only
 have s2:(if(q.yk !=0)=true then((y6 n (if(q.yk !=0)=true then elm (129,fl)else E0).zd).bind fun r37=>
   (if false=true then(some true)else(some (r37.2 !=0))).bind fun y39=>some (y39,r37.1))else(some (false,(0:Int))))=some (false,q.yk):=by
  cases hb:(q.yk !=0)with
  | true=>
   rw [L6 rfl,L6 rfl,show(elm (129,fl)).zd=fl from rfl,hu,L0]
   rfl
  | false=>
   have:q.yk=0:=by simpa using hb
   rw [L4 O2,this]
 rw [s2,L0]
 dsimp only
 unfold q4 at d3
 rw [show(162:Int)=((162:Nat):Int)from rfl,oH (t:=162) hml d3 rfl (n5 O1),L0]
 have d4:=YG d3
 generalize i3+(!q.zi.isEmpty).toNat=i4 at d4
 dsimp only
 have s3:(if(!q.zi.isEmpty)=true then((yB n (if(!q.zi.isEmpty)=true then elm (162,wraps (q.zi.map polE))else E0) ⟨M.map elm,(i4:Int),false⟩).bind fun r48=>
   some (r48.2.f_l,r48.2.dh,r48.2.gV,r48.1))else(some (M.map elm,(i4:Int),false,([]:List (List UInt8)))))=some (M.map elm,(i4:Int),false,q.zi):=by
  cases hp:q.zi with
  |nil=>rfl
  | cons s r=>
   rw [show(!(s::r).isEmpty)=true from rfl,L6 rfl,L6 rfl,←hp,Bp O0 f7 O0 rfl,L0]
 rw [s3,L0]
 dsimp only
 rw [show(131:Int)=((131:Nat):Int)from rfl,Pw hml (show M.drop i4=optE q.xI (131,[255])++q6 q from d4) (n6 O1),L0]
 have d5:M.drop (i4+q.xI.toNat)=q6 q:=YG (show M.drop i4=optE q.xI (131,[255])++q6 q from d4)
 generalize i4+q.xI.toNat=i5 at d5
 dsimp only
 rw [show(132:Int)=((132:Nat):Int)from rfl,Pw hml (show M.drop i5=optE q.xb (132,[255])++q7 q from d5) (n7 O1),L0]
 have d6:M.drop (i5+q.xb.toNat)=q7 q:=YG (show M.drop i5=optE q.xb (132,[255])++q7 q from d5)
 generalize i5+q.xb.toNat=i6 at d6
 dsimp only
 rw [show(133:Int)=((133:Nat):Int)from rfl,Pw hml (show M.drop i6=optE q.jt (133,[255])++q8 q from d6) (n8 O1),L0]
 have d7:M.drop (i6+q.jt.toNat)=q8 q:=YG (show M.drop i6=optE q.jt (133,[255])++q8 q from d6)
 generalize i6+q.jt.toNat=i7 at d7
 dsimp only
 unfold q8 at d7
 rw [show(166:Int)=((166:Nat):Int)from rfl,oH (t:=166) hml d7 rfl (n9 O1),L0]
 have d8:=YG d7
 generalize i7+(!q.zy.isEmpty).toNat=i8 at d8
 dsimp only
 have s4:(if(!q.zy.isEmpty)=true then((w7 n (if(!q.zy.isEmpty)=true then elm (166,wraps (q.zy.map v8))else E0).zd).bind fun r60=>
   (if false=true then(some true)else(some (r60.2 !=0))).bind fun y62=>some (y62,r60.1))else(some (false,([]:List zc))))=some (false,q.zy.map dX):=by
  cases hp:q.zy with
  |nil=>rfl
  | cons s r=>
   obtain⟨hD,hO,hBk⟩:=Pi (n:=n) (M:=900000) O0 hn
   rw [show(!(s::r).isEmpty)=true from rfl,L6 rfl,L6 rfl,←hp,show(elm (166,wraps (q.zy.map v8))).zd=wraps (q.zy.map v8)from rfl,zb8 hD hO O0 O0 O0,D4 (B:=252) hBk hn O0 (fun g hg=>⟨f8 g hg,b3 g hg⟩) (by rw [hp]; simp) f5,L0]
   rfl
 rw [s4,L0]
 dsimp only
 have d9:M.drop i8=Bu 2 q.ye::q10 q:=d8
 obtain⟨h9,hx9,d10⟩:=Vt d9
 rw [show(2:Int)=((2:Nat):Int)from rfl,zdm O0 (by rw [Lb]; omega) (sm8 f3) (by rw [List.getElem?_map,List.getElem?_eq_getElem h9,hx9]; rfl),L0]
 dsimp only
 rw [show(135:Int)=((135:Nat):Int)from rfl,Pw hml (show M.drop (i8+1)=optE q.uc (135,[255])++q11 q from d10) (n11 O1),L0]
 have d11:M.drop (i8+1+q.uc.toNat)=q11 q:=YG (show M.drop (i8+1)=optE q.uc (135,[255])++q11 q from d10)
 generalize i8+1+q.uc.toNat=i11 at d11
 dsimp only
 unfold q11 at d11
 rw [show(168:Int)=((168:Nat):Int)from rfl,oH (t:=168) hml d11 rfl O2,L0]
 generalize i11+(!q.zg.isEmpty).toNat=i12
 dsimp only
 have s5:(if(!q.zg.isEmpty)=true then((xj n (if(!q.zg.isEmpty)=true then elm (168,wraps (q.zg.map ancE))else E0).zd).bind fun r76=>
   (if false=true then(some true)else(some (r76.2 !=0))).bind fun y78=>(xL n r76.1 ⟨M.map elm,(i12:Int),y78⟩).bind fun r79=>
   some (r79.2.f_l,r79.2.dh,r79.2.gV,r79.1))else(some (M.map elm,(i12:Int),false,([]:List ze))))=some (M.map elm,(i12:Int),false,q.zg.map Yw):=by
  cases hp:q.zg with
  |nil=>rfl
  | cons s r=>
   have hq:∀p∈q.zg.map ancE,POk p:=by
    intro p hp; obtain⟨a,ha,rfl⟩:=Lh.1 hp; exact Pg (f9 a ha)
   have e:=Gs (n:=n) hn q.zg f9 O0 n 0 [] O0 O0 O2
   rw [show((0:Nat):Int)=0 from rfl,Li,Lj]at e
   rw [show(!(s::r).isEmpty)=true from rfl,L6 rfl,L6 rfl,←hp,show(elm (168,wraps (q.zg.map ancE))).zd=wraps (q.zg.map ancE)from rfl,YQ O0 O0,wV hq,L0]
   unfold xL
   rw [show(if false=true then(some true)else(some (((q.zg.map ancE).map elm,(0:Int)).2 !=0)))=some false from rfl,L0]
   dsimp only
   rw [e]
   rfl
 rw [s5,L0]
 dsimp only
 rw [show yh n ⟨q.uu,q.zC,q.yk,q.zi,q.xI,q.xb,q.jt,q.zy.map dX,q.ye,q.uc,q.zg.map Yw⟩=some (b,0)from he,L0]
 dsimp only
 rw [L4 (show ¬(false=true)by decide),L4 O1,show(!(b==b))=false by simp,L0,L4 O1]
 rfl
end Go.Abs
end
