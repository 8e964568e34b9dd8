/- The typed Lean form of WireDecodesQueries gives true for every list of at most 9223372036854775807 numbers. -/
import Derived.Test.YtbggpcnbbhjiaaaGreatDoorLaw8
set_option linter.unusedVariables false
set_option linter.unusedSimpArgs false
set_option linter.unnecessarySimpa false
section
set_option maxRecDepth 100000
namespace Go.Abs
open Go Go.Proofs IntKind
def UQ (X W:Bs):Bs×Int:=if 131072<X.length∨131072<W.length then([],2)else((tWrap 48 W).1,0)
def base (g:Nat) (c fl:Bs) (q:Qry):Bs:=(tWrap g c).1++wraps (optE (!(q.zC== [])) (128,(polE q.zC).2))++wraps (optE (q.yk !=0) (129,fl))++wraps (optE (!q.zi.isEmpty) (162,wraps (q.zi.map polE)))++(wraps (optE q.xI (131,[255]))++wraps (optE q.xb (132,[255]))++wraps (optE q.jt (133,[255]))) ++
 wraps (optE (!q.zy.isEmpty) (166,wraps (q.zy.map v8)))++((tWrap 2 [o8 q.ye.toNat]).1++wraps (optE q.uc (135,[255])))
theorem lK {n:Nat} {b:Bs} {e:Int} (he:e≠0) (hb:b.length≤1000000000) (hn:20≤n):xw n ⟨b,e⟩=some ([],2,⟨b,e⟩):=by
 unfold xw
 rw [show(48:Int)=((48:Nat):Int)from rfl,Vm O0 O0 (by intro x hx; rw [Ln]at hx; rw [hx]; show b.length≤_; omega) O3 O2,L0]
 dsimp only
 rw [L6 (Oa he)]; rfl
theorem zcw {n B t:Nat} {l:List Anc} {b:Bs} (h1:t≤255) (h2:t%32≠31) (ho:∀a∈l,Uv a) (hbl:BdL B l) (hB:B≤1000000) (hn:B+200≤n) (hl:l.length≤64) (hb:b.length≤1000000):qX n (t:Int) l ⟨b,0⟩=some ⟨b++(tWrap t (wraps (l.map ancE))).1,(tWrap t (wraps (l.map ancE))).2⟩:=by
 unfold qX
 have e1:=eO (n:=n) l ho hbl hB O0 O0 n 0 [] O0 O0 O2
 rw [show((0:Nat):Int)=0 from rfl,Li,Lj]at e1
 rw [show Xa n ⟨[],0⟩=some ⟨[],0⟩from rfl,L0]
 simp only []
 rw [e1,L0]
 have hw:=Ym ho
 simp only []
 rw [B0 O3,Lk,L0,PZ h1 h2 O0 O0]; rfl
theorem tn {n g:Nat} {c fl:Bs} {q:Qry} (hn:200000000≤n) (hf:QOk n q∧BdQ 252 q) (hv:vC n q=some 0) (hg:g=23∨g=24) (hc:c.length≤20) (ht:ud n q.uu=some ((tWrap g c).1,0)) (hfl:fl.length≤4) (hu:bj n q.yk=some (fl,0)):
  yj n q=some (UQ (wraps (q.zg.map ancE)) (wraps (contQ (g,c) fl q)))∧(base g c fl q).length≤80020:=by
 obtain⟨⟨f1,f2,f3,⟨f4,f5,f6⟩,f7,f8,f9⟩,⟨b1,b2,b3,b4⟩⟩:=hf
 have m1:=yc g c
 have m3:=Vx f7
 have m4:=UH O0 O0 f8 b3
 have m5:=Ym f9
 have m4':(252+4338)*q.zy.length≤73440:=O0
 have mp:(!(q.zC== []))=true→(polE q.zC).2.length≤55:=fun h=>by
  rcases f1 with f1|f1
  ·rw [f1]at h; exact absurd h O1
  ·exact fu _ f1
 have mp2:(wraps (optE (!(q.zC== [])) (128,(polE q.zC).2))).length≤60:=by
  cases hb:(!(q.zC== []))with
  |true=>have:=mp hb; have:=ge true (128,(polE q.zC).2); dsimp only at this; omega
  |false=>rw [VY]; simp
 have mu:=ge (q.yk !=0) (129,fl)
 have mo:=ge (!q.zi.isEmpty) (162,wraps (q.zi.map polE))
 have me:=ge q.xI (131,[255])
 have mm:=ge q.xb (132,[255])
 have ma:=ge q.jt (133,[255])
 have mn:=ge (!q.zy.isEmpty) (166,wraps (q.zy.map v8))
 have ms:=ge q.uc (135,[255])
 have mi:=ge (!q.zg.isEmpty) (168,wraps (q.zg.map ancE))
 have ml:=yc 2 [o8 q.ye.toNat]
 simp only [L9]at mu mo me mm ma mn ms mi ml
 have ew:wraps (contQ (g,c) fl q)=(tWrap g c).1++wraps (optE (!(q.zC== [])) (128,(polE q.zC).2))++wraps (optE (q.yk !=0) (129,fl))++wraps (optE (!q.zi.isEmpty) (162,wraps (q.zi.map polE)))++wraps (optE q.xI (131,[255]))++wraps (optE q.xb (132,[255]))++wraps (optE q.jt (133,[255])) ++
   wraps (optE (!q.zy.isEmpty) (166,wraps (q.zy.map v8)))++(tWrap 2 [o8 q.ye.toNat]).1++wraps (optE q.uc (135,[255]))++wraps (optE (!q.zg.isEmpty) (168,wraps (q.zg.map ancE))):=by
  unfold contQ q2 q3 q4 q5 q6 q7 q8 q9 q10 q11
  simp only [gz,DI,Lq,Bu]
  rw [show wraps []= []from rfl,Lk]
 have hbase:(base g c fl q).length≤80020:=by
  unfold base; simp only [L8]; omega
 refine⟨?_,hbase⟩
 unfold yj
 rw [hv,L0,L4 O1,ht,L0,B0 (by simp only [Lm]; omega),L0,Lj]
 generalize hX0:(tWrap g c).1=X0 at m1 ew
 have s1:(if(!(q.zC==([]:List UInt8)))=true then((ba n q.zC).bind fun r11=>
   (ym n ([]:List UInt8) r11.2 ⟨X0,0⟩).bind fun r12=>(zZ n 128 r11.1 r12).bind fun r13=>some (r13.f_b,r13.f_e))else(some (X0,(0:Int))))=some (X0++wraps (optE (!(q.zC== [])) (128,(polE q.zC).2)),0):=by
  cases hb:(!(q.zC== []))with
  | true=>
   have hs:(xG q.zC).isSome=true:=by
    rcases f1 with f1|f1
    ·rw [f1]at hb; exact absurd hb O1
    ·exact f1
   obtain⟨l,hl⟩:=Option.isSome_iff_exists.1 hs
   have hpe:(polE q.zC).2=qA l:=by unfold polE; rw [hl]; rfl
   have hlo:=dJ (bB hl)
   rw [L6 rfl,J2 O0 O0 hl,L0,B0 (by simp only [Lm]; omega),L0,Lk,show(128:Int)=((128:Nat):Int)from rfl,fp O0 O0 O7 O0 O0,L0,dD,hpe]
  |false=>rw [L4 O2,VY,Lk]
 rw [s1,L0]
 generalize hX1:X0++wraps (optE (!(q.zC== [])) (128,(polE q.zC).2))=X1 at ew
 have l1:X1.length≤200:=by rw [←hX1,L8]; omega
 have s2:(if(q.yk !=0)=true then((bj n q.yk).bind fun r21=>
   (ym n ([]:List UInt8) r21.2 ⟨X1,0⟩).bind fun r22=>(zZ n 129 r21.1 r22).bind fun r23=>some (r23.f_b,r23.f_e))else(some (X1,(0:Int))))=some (X1++wraps (optE (q.yk !=0) (129,fl)),0):=by
  cases hb:(q.yk !=0)with
  | true=>
   rw [L6 rfl,hu,L0,B0 (by simp only [Lm]; omega),L0,Lk,show(129:Int)=((129:Nat):Int)from rfl,fp O0 O0 O7 O0 O0,L0,dD]
  |false=>rw [L4 O2,VY,Lk]
 dsimp only
 rw [s2,L0]
 generalize hX2:X1++wraps (optE (q.yk !=0) (129,fl))=X2 at ew
 have l2:X2.length≤300:=by rw [←hX2,L8]; omega
 have s3:(if(decide ((List.length q.zi:Int)>0))=true then((j0 n 162 q.zi ⟨X2,0⟩).bind fun r29=>
   some (r29.f_b,r29.f_e))else(some (X2,(0:Int))))=some (X2++wraps (optE (!q.zi.isEmpty) (162,wraps (q.zi.map polE))),0):=by
  cases hp:q.zi with
  |nil=>rw [L4 O1]; simp [optE,wraps]
  | cons s r=>
   rw [L6 (by rw [L3,La]; omega),←hp,show(162:Int)=((162:Nat):Int)from rfl,ze8 (B:=252) O0 O0 O0 O0 O0 f7 b2 O0,L0,hp,show(!(s::r).isEmpty)=true from rfl,dD]
 dsimp only
 rw [s3,L0]
 generalize hX3:X2++wraps (optE (!q.zi.isEmpty) (162,wraps (q.zi.map polE)))=X3 at ew
 have l3:X3.length≤1000:=by rw [←hX3,L8]; omega
 dsimp only
 rw [show(131:Int)=((131:Nat):Int)from rfl,nc O0 O0 O0 O0,L0]
 generalize hX4:X3++wraps (optE q.xI (131,[255]))=X4 at ew
 have l4:X4.length≤1010:=by rw [←hX4,L8]; omega
 rw [show(132:Int)=((132:Nat):Int)from rfl,nc O0 O0 O0 O0,L0]
 generalize hX5:X4++wraps (optE q.xb (132,[255]))=X5 at ew
 have l5:X5.length≤1020:=by rw [←hX5,L8]; omega
 rw [show(133:Int)=((133:Nat):Int)from rfl,nc O0 O0 O0 O0,L0]
 generalize hX6:X5++wraps (optE q.jt (133,[255]))=X6 at ew
 have l6:X6.length≤1030:=by rw [←hX6,L8]; omega
 have s7:(if(decide ((List.length q.zy:Int)>0))=true then((kn n q.zy).bind fun r40=>
   (ym n ([]:List UInt8) r40.2 ⟨X6,0⟩).bind fun r41=>(zZ n 166 r40.1 r41).bind fun r42=>some (r42.f_b,r42.f_e))else(some (X6,(0:Int))))=some (X6++wraps (optE (!q.zy.isEmpty) (166,wraps (q.zy.map v8))),0):=by
  cases hp:q.zy with
  |nil=>rw [L4 O1]; simp [optE,wraps]
  | cons s r=>
   rw [L6 (by rw [L3,La]; omega),←hp,zdL (B:=252) O0 O0 f8 b3 (by rw [hp]; simp) f5,L0,B0 (by simp only [Lm]; omega),L0,Lk,show(166:Int)=((166:Nat):Int)from rfl,fp O0 O0 O7 O0 O0,L0,hp,show(!(s::r).isEmpty)=true from rfl,dD]
 dsimp only
 rw [s7,L0]
 generalize hX7:X6++wraps (optE (!q.zy.isEmpty) (166,wraps (q.zy.map v8)))=X7 at ew
 have l7:X7.length≤80000:=by rw [←hX7,L8]; omega
 dsimp only
 rw [zaa (t:=2) (sm8 f3) O0 O0 O0 O0,L0]
 generalize hX8:X7++(tWrap 2 [o8 q.ye.toNat]).1=X8 at ew
 have l8:X8.length≤80010:=by rw [←hX8,L8]; omega
 rw [show(135:Int)=((135:Nat):Int)from rfl,nc O0 O0 O0 O0,L0]
 generalize hX9:X8++wraps (optE q.uc (135,[255]))=X9 at ew
 have l9:X9.length≤80020:=by rw [←hX9,L8]; omega
 cases hp:q.zg with
 | nil=>
  have e0:X9=wraps (contQ (g,c) fl q):=by rw [ew,hp]; simp [optE,wraps]
  have hx:¬(131072<(wraps (([]:List Anc).map ancE)).length∨131072<(wraps (contQ (g,c) fl q)).length):=by
   rw [←e0]; simp [wraps]; omega
  rw [L4 O1,eA O0 O0,L0,L4 O0,←e0,UQ,e0,L4 hx]
 | cons s r=>
  have e0:X9++(tWrap 168 (wraps (q.zg.map ancE))).1=wraps (contQ (g,c) fl q):=by
   rw [ew]
   rw [show(!q.zg.isEmpty)=true by rw [hp]; rfl,dD]
  have tl:=yc 168 (wraps (q.zg.map ancE))
  rw [L6 (by rw [L3,La]; omega),←hp,show(168:Int)=((168:Nat):Int)from rfl,zcw (B:=252) O0 O0 f9 b4 O0 O0 O0 O0,L0,e0]
  unfold UQ
  by_cases hX:131072<(wraps (q.zg.map ancE)).length
  ·rw [L6 (.inl hX),show(tWrap 168 (wraps (q.zg.map ancE))).2=6 by unfold tWrap; rw [L4 O0],lK O1 (by rw [←e0,L8]; omega) O0,L0]
  ·rw [bA O0]
   dsimp only
   rw [eA (by rw [←e0,L8]; omega) O0,L0]
   by_cases hW:131072<(wraps (contQ (g,c) fl q)).length
   ·rw [L6 hW,L6 (show(131072<(wraps (q.zg.map ancE)).length∨131072<(wraps (contQ (g,c) fl q)).length)from .inr hW)]
   ·rw [L4 hW,L4 (show ¬(131072<(wraps (q.zg.map ancE)).length∨131072<(wraps (contQ (g,c) fl q)).length)by omega)]
theorem zcP {n g:Nat} {c fl:Bs} {q:Qry} (hn:200000000≤n) (hf:QOk n q∧BdQ 252 q) (hv:jX n q=some 0) (hg:g=23∨g=24) (hc:c.length≤20) (ht:w8 n q.uu=some ((tWrap g c).1,0)) (hfl:fl.length≤4) (hu:vK n q.yk=some (fl,0)) (hbase:(base g c fl q).length≤80020):
    yh n q=some (UQ (wraps (q.zg.map ancE)) (wraps (contQ (g,c) fl q))):=by
  obtain⟨⟨f1,f2,f3,⟨f4,f5,f6⟩,f7,f8,f9⟩,⟨b1,b2,b3,b4⟩⟩:=hf
  have ew:wraps (contQ (g,c) fl q)=(tWrap g c).1++wraps (optE (!(q.zC== [])) (128,(polE q.zC).2))++wraps (optE (q.yk !=0) (129,fl))++wraps (optE (!q.zi.isEmpty) (162,wraps (q.zi.map polE)))++(wraps (optE q.xI (131,[255]))++wraps (optE q.xb (132,[255]))++wraps (optE q.jt (133,[255]))) ++
      wraps (optE (!q.zy.isEmpty) (166,wraps (q.zy.map v8)))++((tWrap 2 [o8 q.ye.toNat]).1++wraps (optE q.uc (135,[255])))++wraps (optE (!q.zg.isEmpty) (168,wraps (q.zg.map ancE))):=by
    unfold contQ q2 q3 q4 q5 q6 q7 q8 q9 q10 q11
    simp only [gz,DI,Lq,Bu]
    rw [show wraps []= []from rfl,Lk]
  have m5:=Ym f9
  have hl2:=hbase
  unfold base at hl2
  simp only [L8]at hl2
  unfold yh
  rw [hv,L0,L4 O1,ht,L0]
  dsimp only
  generalize (tWrap g c).1=X0 at hl2 ew
  have s1:(if(!(q.zC==([]:List UInt8)))=true then((vm n q.zC).bind fun r9=>
     (zD n 128 ([r9.1]:List (List UInt8))).bind fun r10=>(um X0 r10).bind fun x11=>some x11)else(some X0))=some (X0++wraps (optE (!(q.zC== [])) (128,(polE q.zC).2))):=by
    cases hb:(!(q.zC== []))with
    | true=>
      have hs:(xG q.zC).isSome=true:=by
        rcases f1 with f1|f1
        · rw [f1]at hb; exact absurd hb O1
        · exact f1
      obtain⟨l,hl⟩:=Option.isSome_iff_exists.1 hs
      have hpe:(polE q.zC).2=qA l:=by unfold polE; rw [hl]; rfl
      have hlo:=dJ (bB hl)
      have hw:=yc 128 (qA l)
      rw [L6 rfl,Jz O0 O0 hl,L0]
      dsimp only
      rw [show(128:Int)=((128:Nat):Int)from rfl,Vz O0 O0 O0 O0,L0,yd O0,L0,dD,hpe]
    |false=>rw [L4 O2,VY,Lk]
  rw [s1,L0]
  generalize hX1:X0++wraps (optE (!(q.zC== [])) (128,(polE q.zC).2))=X1 at ew
  have l1:X1.length≤131072:=by rw [←hX1,L8]; omega
  have s2:(if(q.yk !=0)=true then((vK n q.yk).bind fun r18=>
     (zD n 129 ([r18.1]:List (List UInt8))).bind fun r19=>(um X1 r19).bind fun x20=>some x20)else(some X1))=some (X1++wraps (optE (q.yk !=0) (129,fl))):=by
    cases hb:(q.yk !=0)with
    | true=>
      have hw:=yc 129 fl
      rw [L6 rfl,hu,L0]
      dsimp only
      rw [show(129:Int)=((129:Nat):Int)from rfl,Vz O0 O0 O0 O0,L0,yd O0,L0,dD]
    |false=>rw [L4 O2,VY,Lk]
  rw [s2,L0]
  generalize hX2:X1++wraps (optE (q.yk !=0) (129,fl))=X2 at ew
  have l2:X2.length≤131072:=by rw [←hX2,L8,←hX1,L8]; omega
  have m3:=Vx f7
  have m3':(wraps (q.zi.map polE)).length≤1000:=O0
  have s3:(if(decide ((List.length q.zi:Int)>0))=true then((qd n q.zi).bind fun r27=>
     (zD n 162 ([r27]:List (List UInt8))).bind fun r28=>(um X2 r28).bind fun x29=>some x29)else(some X2))=some (X2++wraps (optE (!q.zi.isEmpty) (162,wraps (q.zi.map polE)))):=by
    cases hp:q.zi with
    |nil=>rw [L4 O1]; simp [optE,wraps]
    | cons s r=>
      have e:=eF (n:=n) (B:=252) O0 O0 q.zi O0 f7 b2 n 0 [] O0 O0 O3
      rw [show((0:Nat):Int)=0 from rfl,Li,Lj]at e
      have hw:=yc 162 (wraps (q.zi.map polE))
      have eo:qd n q.zi=some (wraps (q.zi.map polE)):=by unfold qd; rw [e]; rfl
      rw [L6 (by rw [L3,La]; omega),←hp,eo,L0,show(162:Int)=((162:Nat):Int)from rfl,Vz O0 O0 O0 O0,L0,yd O0,L0,hp,show(!(s::r).isEmpty)=true from rfl,dD]
  rw [s3,L0]
  generalize hX3:X2++wraps (optE (!q.zi.isEmpty) (162,wraps (q.zi.map polE)))=X3 at ew
  have l3:X3.length≤131072:=by rw [←hX3,L8,←hX2,L8,←hX1,L8]; omega
  have o1:=ge q.xI (131,[255])
  have o2:=ge q.xb (132,[255])
  have o3:=ge q.jt (133,[255])
  have o4:=ge q.uc (135,[255])
  simp only [L9]at o1 o2 o3 o4
  rw [show(131:Int)=((131:Nat):Int)from rfl,ne O0 O0 O0,L0,show(132:Int)=((132:Nat):Int)from rfl,ne O0 O0 O0,L0,yd O0,L0,show(133:Int)=((133:Nat):Int)from rfl,ne O0 O0 O0,L0,
    yd (by rw [L8]; omega),L0,yd (by simp only [L8]; omega),L0]
  generalize hX6:X3++(wraps (optE q.xI (131,[255]))++wraps (optE q.xb (132,[255]))++wraps (optE q.jt (133,[255])))=X6 at ew
  have l6:X6.length≤131090:=by rw [←hX6]; simp only [L8]; omega
  have m4:=UH (n:=n) (B:=252) O0 O0 f8 b3
  have m4':(wraps (q.zy.map v8)).length≤73440:=O0
  have m4w:=yc 166 (wraps (q.zy.map v8))
  have s7:(if(decide ((List.length q.zy:Int)>0))=true then((uB n q.zy).bind fun r43=>
     (xi n 166 ([r43.1]:List (List UInt8))).bind fun r44=>
     if(r44.2 !=0)=true then(some (.ret (([]:List UInt8),(2:Int))))else((um X6 r44.1).bind fun x45=>some (.nxt x45)))else(some (.nxt X6)))=some (.nxt (X6++wraps (optE (!q.zy.isEmpty) (166,wraps (q.zy.map v8)))):Ctl (List UInt8×Int) (List UInt8)):=by
    cases hp:q.zy with
    |nil=>rw [L4 O1]; simp [optE,wraps]
    | cons s r=>
      rw [L6 (by rw [L3,La]; omega),←hp,zcS (B:=252) O0 O0 f8 b3 (by rw [hp]; simp) f5,L0]
      dsimp only
      rw [show(166:Int)=((166:Nat):Int)from rfl,XL O0 O0 (by simp only [List.flatten_cons,List.flatten_nil,Lk]; omega) O3 O2,L0]
      simp only [List.flatten_cons,List.flatten_nil,Lk]
      rw [bA O0]
      dsimp only
      rw [L4 (show ¬(((0:Int) !=0)=true)by decide),yd O0,L0,hp,show(!(s::r).isEmpty)=true from rfl,dD]
  rw [s7]
  simp only [yb]
  generalize hX7:X6++wraps (optE (!q.zy.isEmpty) (166,wraps (q.zy.map v8)))=X7 at ew
  have mno:=ge (!q.zy.isEmpty) (166,wraps (q.zy.map v8))
  have l7:X7.length≤300000:=by rw [←hX7,L8]; dsimp only at mno; omega
  have ml:=yc 2 [o8 q.ye.toNat]
  simp only [L9]at ml
  rw [zfb (sm8 f3) O0,L0,show(135:Int)=((135:Nat):Int)from rfl,ne O0 O0 O0,L0,yd O0,L0,yd (by rw [L8]; omega),L0]
  generalize hX9:X7++((tWrap 2 [o8 q.ye.toNat]).1++wraps (optE q.uc (135,[255])))=X9 at ew
  have l9:X9.length≤80020:=by rw [←hX9,←hX7,←hX6,←hX3,←hX2,←hX1]; simp only [L8]; omega
  have hwr:∀X:Bs,X.length≤1000000→jr n X=some (if 131072<X.length then([],2)else((tWrap 48 X).1,0)):=by
    intro X hX
    unfold jr
    rw [show(48:Int)=((48:Nat):Int)from rfl,XL O0 O0 (by simp only [List.flatten_cons,List.flatten_nil,Lk]; omega) O3 O2,L0]
    simp only [List.flatten_cons,List.flatten_nil,Lk]
    by_cases h:131072<X.length
    · rw [L6 h,show(tWrap 48 X).2=6 by unfold tWrap; rw [L4 O0],L6 O1]
    · rw [bA O0,L4 (show ¬(((0:Int) !=0)=true)by decide),L4 h]
  cases hp:q.zg with
  | nil=>
    have e0:X9=wraps (contQ (g,c) fl q):=by rw [ew,hp]; simp [optE,wraps]
    have hx:¬(131072<(wraps (([]:List Anc).map ancE)).length∨131072<(wraps (contQ (g,c) fl q)).length):=by
      rw [←e0]; simp [wraps]; omega
    rw [L4 O1,hwr _ O0,L0,UQ,L4 hx,L4 O0,e0]
  | cons s r=>
    have e0:X9++(tWrap 168 (wraps (q.zg.map ancE))).1=wraps (contQ (g,c) fl q):=by
      rw [ew]
      rw [show(!q.zg.isEmpty)=true by rw [hp]; rfl,dD]
    have e:=D0 (n:=n) (B:=252) q f9 b4 O0 O0 O0 n 0 [] O0 O0 O2
    rw [show((0:Nat):Int)=0 from rfl,Li,Lj]at e
    have tl:=yc 168 (wraps (q.zg.map ancE))
    rw [L6 (by rw [L3,La]; omega),←hp,e,L0,show(168:Int)=((168:Nat):Int)from rfl,XL O0 O0 (by simp only [List.flatten_cons,List.flatten_nil,Lk]; omega) O3 O2,L0]
    simp only [List.flatten_cons,List.flatten_nil,Lk]
    unfold UQ
    by_cases hX:131072<(wraps (q.zg.map ancE)).length
    · rw [show(tWrap 168 (wraps (q.zg.map ancE))).2=6 by unfold tWrap; rw [L4 O0],L6 O1,L6 (show(131072<(wraps (q.zg.map ancE)).length∨131072<(wraps (contQ (g,c) fl q)).length)from .inl hX)]
    · have h168:(tWrap 168 (wraps (q.zg.map ancE))).2=0:=by rw [bA O0]
      rw [h168,L4 O1,yd O0,L0,e0,hwr _ (by rw [←e0,L8]; omega),L0]
      by_cases hW:131072<(wraps (contQ (g,c) fl q)).length
      · rw [L6 hW,L6 (show(131072<(wraps (q.zg.map ancE)).length∨131072<(wraps (contQ (g,c) fl q)).length)from .inr hW)]
      · rw [L4 hW,L4 (show ¬(131072<(wraps (q.zg.map ancE)).length∨131072<(wraps (contQ (g,c) fl q)).length)by omega)]
structure QS2 (B:Nat) (q:Qry):Prop where
 b:B≤60000
 pu:q.zC.length≤B
 pl:∀s∈q.zi,s.length≤B
 nm:∀g∈q.zy,BdG B g
 is:∀a∈q.zg,BdN B a.zt.zh
theorem Ds {n B:Nat} {q:Qry} (hn:2000000≤n) (h:QS2 B q):∃e,vC n q=some e∧jX n q=some e:=by
 obtain⟨hB,hpu,hpl,hnm,his⟩:=h
 unfold vC jX
 rw [ifb,L0,L0]
 by_cases c0:(decide (q.uu<0)||decide (q.uu>254033452799))=true
 ·rw [L6 c0,L6 c0]; exact⟨_,rfl,rfl⟩
 rw [L4 c0,L4 c0,Vl O0 O0,Z0 O0 O0]
 have hy:∃y,(if(!(q.zC==([]:List UInt8)))=true then((some (xG q.zC).isSome).bind fun r12=>some (!r12))else(some false))=some y:=yq (fun _=>⟨_,rfl⟩) fun _=>⟨_,rfl⟩
 obtain⟨y,hy⟩:=hy
 rw [hy,L0,L0]
 cases y with
 |true=>rw [L6 rfl,L6 rfl]; exact⟨_,rfl,rfl⟩
 | false=>
  rw [L4 (show ¬(false=true)by decide),L4 (show ¬(false=true)by decide),zaY,L0,L0]
  by_cases c1:(decide (q.yk<0)||(decide (q.yk>511)||(decide (q.ye<1)||decide (q.ye>8))))=true
  ·rw [L6 c1,L6 c1]; exact⟨_,rfl,rfl⟩
  rw [L4 c1,L4 c1,tA,L0,L0]
  by_cases c2:(decide ((List.length q.zi:Int)>8)||(decide ((List.length q.zy:Int)>16)||decide ((List.length q.zg:Int)>64)))=true
  ·rw [L6 c2,L6 c2]; exact⟨_,rfl,rfl⟩
  rw [L4 c2,L4 c2]
  have c2':=c2
  simp only [Bool.or_eq_true,L3,not_or]at c2'
  have hl1:q.zi.length≤1000:=O0
  have hl2:q.zy.length≤1000:=O0
  have hl3:q.zg.length≤1000:=O0
  have a1:=zcb (n:=n) (B:=B) O0 O0 q hpl hl1 n 0 [] O0 O0
  have a2:=zb1 (n:=n) (B:=B) O0 O0 q hpl hl1 n 0 O0 O0
  have a3:=zbT (n:=n) (B:=B) O0 hn q hnm hl2 n 0 O0 O0
  have a4:=zbP (n:=n) (B:=B) O0 hn q hnm hl2 n 0 O0 O0
  have a5:=zbQ (n:=n) (B:=B) O0 O0 q his hl3 n 0 O0 O0
  have a6:=zbZ (n:=n) (B:=B) O0 O0 q his hl3 n 0 O0 O0
  obtain⟨o,ho,hr,_⟩:=fQ (n:=n) (a:=q.zi) O0 hl1 n 0 [] [] O0 O0 O2 ⟨rfl,O2,O2⟩
  rw [show((0:Nat):Int)=0 from rfl,Li]at a1 a2 a3 a4 a5 a6
  rw [show((0:Nat):Int)=0 from rfl]at ho
  rw [Li]at hr
  have hs:bX n q.zi=some o:=by unfold bX; rw [ho]; rfl
  rw [a1,a2,a3,a4,a5,a6,hs]
  have hfl:=tX q.zi []
  by_cases c3:q.zi.all isV=true
  ·rw [L6 c3,L6 c3]
   simp only [yb,L0]
   rw [hr.len]at *
   simp only [Lm,Nat.zero_add]at hfl
   by_cases c4:o.length<q.zi.length
   ·rw [L6 O4,L6 (by rw [bne_iff_ne]; omega)]; exact⟨_,rfl,rfl⟩
   ·rw [L4 O4,L4 (by rw [bne_iff_ne]; omega)]
    unfold lM
    by_cases c5:Y6 jK q.zy=0
    ·rw [L6 c5]
     simp only []
     by_cases c6:Y6 J0 q.zg=0
     ·rw [L6 c6]; exact⟨_,rfl,rfl⟩
     ·rw [L4 c6]; exact⟨_,rfl,rfl⟩
    ·rw [L4 c5]; exact⟨_,rfl,rfl⟩
  ·rw [L4 c3,L4 c3]; exact⟨_,rfl,rfl⟩
theorem Kb {n:Nat} {q:Qry} (hn:200000000≤n) (h:QS2 252 q):∃x,yj n q=some x∧yh n q=some x∧x.1.length≤131100 ∧
  (x.2=0→QOk n q∧BdQ 252 q∧∃(g:Nat) (c fl:Bs),(g=23∨g=24)∧c.length≤20∧fl.length≤4∧ud n q.uu=some ((tWrap g c).1,0)∧jp n fl=some (q.yk,0)∧y6 n fl=some (q.yk,0) ∧
   (wraps (q.zg.map ancE)).length≤131072∧(wraps (contQ (g,c) fl q)).length≤131072∧x.1=(tWrap 48 (wraps (contQ (g,c) fl q))).1):=by
 obtain⟨e,v1,v2⟩:=Ds (n:=n) O0 h
 by_cases c:e=0
 ·subst c
  have hb:BdQ 252 q:=⟨h.pu,h.pl,h.nm,h.is⟩
  obtain⟨hq,_⟩:=P6 (B:=252) O0 O0 hb v1
  obtain⟨ht0,ht1⟩:=cT v1
  obtain⟨g,tc,hg,hc,t1,t2⟩:=DJ (n:=n) O0 ht0 ht1
  obtain⟨fl,hfl,u1,u2,u3,u4⟩:=cO (n:=n) O0 hq.2.1.1 hq.2.1.2
  obtain⟨e1,e2⟩:=tn hn ⟨hq,hb⟩ v1 hg hc t1 hfl u1
  refine⟨_,e1,zcP hn ⟨hq,hb⟩ v2 hg hc t2 hfl u2 e2, ?_,fun hx=>⟨hq,hb,g,tc,fl,hg,hc,hfl,t1,u3,u4, ?_⟩⟩
  ·unfold UQ
   split
   ·exact Nat.zero_le _
   ·have:=yc 48 (wraps (contQ (g,tc) fl q))
    show(tWrap 48 (wraps (contQ (g,tc) fl q))).1.length≤_
    omega
  unfold UQ at hx ⊢
  split at hx
  ·exact absurd hx O1
  ·rename_i hd
   rw [L4 hd]
   exact⟨O0,O0,rfl⟩
 ·refine ⟨([],e), ?_, ?_,Nat.zero_le _,fun hx=>absurd hx c⟩
  ·unfold yj
   rw [v1,L0,L6 (Oa c)]
  ·unfold yh
   rw [v2,L0,L6 (Oa c)]
theorem Vj {n M:Nat} {t:Int} {f:Bool} {l:List El} (h:Bd M l):∃e ok r f',yR n t ⟨l,f⟩=some (e,ok,⟨r,f'⟩)∧e.zd.length≤M∧Bd M r:=by
 unfold yR
 match l,h with
 | [],h=>exact⟨E0,false,[],f,rfl,by show([]:Bs).length≤M; simp,h⟩
 | x::r,h=>
  have k0:zM (x::r) 0=some x:=by simp [zM]
  dsimp only
  rw [L4 (by rw [beq_iff_eq,La]; omega),k0,L0,L0]
  by_cases c:(x.zF !=t)=true
  ·rw [c,L6 rfl]; exact⟨E0,false,_,f,rfl,by show([]:Bs).length≤M; simp,h⟩
  ·rw [Bool.not_eq_true]at c
   rw [c,L4 O1]
   obtain⟨e,r',f',h1,h2,h3,_,_⟩:=KQ (n:=n) (f:=f) h
   rw [h1,L0]
   exact⟨e,true,r',f',rfl,h2,h3⟩
theorem U8 {n M:Nat} {t:Int} {f:Bool} {l:List El} (h:Bd M l):∃b r f',vd n t ⟨l,f⟩=some (b,⟨r,f'⟩)∧Bd M r:=by
 unfold vd
 obtain⟨e,ok,r,f',h1,h2,h3⟩:=Vj (n:=n) (t:=t) (f:=f) h
 rw [h1,L0]
 dsimp only
 cases ok with
 |false=>exact⟨_,_,_,rfl,h3⟩
 | true=>
  rw [L4 O1]
  obtain ⟨x,y,hb⟩:∃x y,Zj n e.zd=some (x,y):=by
   unfold Zj
   by_cases c1:(e.zd==([0]:List UInt8))=true
   ·rw [L6 c1]; exact⟨_,_,rfl⟩
   rw [L4 c1]
   by_cases c2:(e.zd==([255]:List UInt8))=true
   ·rw [L6 c2]; exact⟨_,_,rfl⟩
   ·rw [L4 c2]; exact⟨_,_,rfl⟩
  rw [hb,L0,Yn,L0]
  exact⟨_,_,_,rfl,h3⟩
theorem GW {n M:Nat} {c:Bs} {l:List El} {f:Bool} (hM:M≤900000) (hn:200000000≤n) (hc:c.length≤M):∃an f',u7 n c ⟨l,f⟩=some (an,⟨l,f'⟩)∧BdL 252 an:=by
 unfold u7 uY
 have hT:=uR c (M:=M) hc
 have hl:=hT.1
 rw [gd O0 O0,L0,L0]
 dsimp only
 obtain⟨an,f',fi',h1,h2⟩:=Dk hM hn l n [] f (tList c).1 ((tList c).2 !=0) hT.2 O0 O3 (by intro a ha; simp at ha)
 rw [h1,L0,ifb,L0]
 exact⟨an,_,rfl,h2⟩
theorem mC {n M:Nat} {l:List El} {f:Bool} (hM:M≤900000) (hn:200000000≤n) (h:Bd M l):∃q r,jE n ⟨l,f⟩=some (q,r)∧QS2 252 q∧∀e0 L,l=e0::L→∃z,yG n e0.zF e0.zd=some (q.uu,z):=by
 unfold jE
 obtain⟨hD,hO,hBk⟩:=PT (n:=n) (M:=M) hM hn
 obtain⟨e1,l1,f1,k1,c1,d1,_,_⟩:=KQ (n:=n) (f:=f) h
 obtain⟨tm,k2,_⟩:=QN (n:=n) (g:=e1.zF) (c:=e1.zd) O0 O0
 have h0:∀e0 L,l=e0::L→∃z,yG n e0.zF e0.zd=some (tm.1,z):=by
  intro e0 L hL
  subst hL
  rw [Ul]at k1
  injection k1 with k1; injection k1 with k1 _
  subst k1
  exact⟨tm.2,k2⟩
 rw [k1,L0]; dsimp only
 rw [k2,L0,Yn,L0]; dsimp only
 obtain⟨e2,o2,l2,f2,k3,c2,d2⟩:=Vj (n:=n) (t:=128) (f:=f1||tm.2 !=0) d1
 rw [k3,L0]; dsimp only
 obtain ⟨l3,f3,pu,k4,d3,hpu⟩:∃l3 f3 pu,(if o2=true then((yw n e2.zd).bind fun r12=>(zR n r12.2 ⟨l2,f2⟩).bind fun r13=>some (r13.f_l,r13.yp,r12.1))else(some (l2,f2,([]:List UInt8))))=some (l3,f3,pu)∧Bd M l3∧pu.length≤252:=by
  cases o2 with
  |false=>exact⟨_,_,_,rfl,d2,O2⟩
  | true=>
   obtain⟨s,e,h1,h2⟩:=Qp (n:=n) (b:=e2.zd) O0 O0
   rw [L6 rfl,h1,L0,Yn,L0]; exact⟨_,_,_,rfl,d2,h2⟩
 rw [k4,L0]; dsimp only
 obtain⟨e4,o4,l4,f4,k5,c4,d4⟩:=Vj (n:=n) (t:=129) (f:=f3) d3
 rw [k5,L0]; dsimp only
 obtain ⟨l5,f5,us,k6,d5⟩:∃l5 f5 us,(if o4=true then((jp n e4.zd).bind fun r22=>(zR n r22.2 ⟨l4,f4⟩).bind fun r23=>some (r23.f_l,r23.yp,r22.1))else(some (l4,f4,0)))=some (l5,f5,us)∧Bd M l5:=by
  cases o4 with
  |false=>exact⟨_,_,_,rfl,d4⟩
  | true=>
   obtain⟨x,e,h1⟩:=rO (n:=n) (c:=e4.zd) O0 O0
   rw [L6 rfl,h1,L0,Yn,L0]; exact⟨_,_,_,rfl,d4⟩
 rw [k6,L0]; dsimp only
 obtain⟨e6,o6,l6,f6,k7,c6,d6⟩:=Vj (n:=n) (t:=162) (f:=f5) d5
 rw [k7,L0]; dsimp only
 obtain ⟨l7,f7,ps,k8,d7,hps⟩:∃l7 f7 ps,(if o6=true then((ve n e6.zd ⟨l6,f6⟩).bind fun r31=>some (r31.2.f_l,r31.2.yp,r31.1))else(some (l6,f6,([]:List (List UInt8)))))=some (l7,f7,ps)∧Bd M l7∧∀s∈ps,s.length≤252:=by
  cases o6 with
  |false=>exact⟨_,_,_,rfl,d6,O2⟩
  | true=>
   obtain⟨ps,f',h1,_,h2⟩:=BU (n:=n) (M:=M) (c:=e6.zd) (l:=l6) (f:=f6) O0 O0 c6
   rw [L6 rfl,h1,L0]; exact⟨_,_,_,rfl,d6,h2⟩
 rw [k8,L0]; dsimp only
 obtain⟨x1,l8,f8,k9,d8⟩:=U8 (n:=n) (t:=131) (f:=f7) d7
 rw [k9,L0]; dsimp only
 obtain⟨x2,l9,f9,k10,d9⟩:=U8 (n:=n) (t:=132) (f:=f8) d8
 rw [k10,L0]; dsimp only
 obtain⟨x3,l10,f10,k11,d10⟩:=U8 (n:=n) (t:=133) (f:=f9) d9
 rw [k11,L0]; dsimp only
 obtain⟨e11,o11,l11,f11,k12,c11,d11⟩:=Vj (n:=n) (t:=166) (f:=f10) d10
 rw [k12,L0]; dsimp only
 obtain ⟨l12,f12,nm,k13,d12,hnm⟩:∃l12 f12 nm,(if o11=true then((ur n e11.zd).bind fun r43=>(zR n r43.2 ⟨l11,f11⟩).bind fun r44=>some (r44.f_l,r44.yp,r43.1))else(some (l11,f11,([]:List zc))))=some (l12,f12,nm)∧Bd M l12∧∀g∈nm,BdG 252 g:=by
  cases o11 with
  |false=>exact⟨_,_,_,rfl,d11,O2⟩
  | true=>
   rw [L6 rfl,zee hD hO hM O0 c11,L0,Yn,L0]
   refine⟨_,_,_,rfl,d11,fun g hg=> ?_⟩
   obtain⟨g1,g2⟩:=BS.2 g hg
   exact⟨by have:=nU g1; omega,g2⟩
 rw [k13,L0]; dsimp only
 obtain⟨x4,l13,f13,k14,d13,_⟩:=cK (n:=n) (t:=2) (f:=f12) O0 d12
 rw [k14,L0]; dsimp only
 obtain⟨x5,l14,f14,k15,d14⟩:=U8 (n:=n) (t:=135) (f:=f13) d13
 rw [k15,L0]; dsimp only
 obtain⟨e15,o15,l15,f15,k16,c15,d15⟩:=Vj (n:=n) (t:=168) (f:=f14) d14
 rw [k16,L0]; dsimp only
 cases o15 with
 |false=>exact⟨_,_,rfl,⟨O0,hpu,hps,hnm,by intro a ha; simp at ha⟩,h0⟩
 | true=>
  obtain⟨an,f',h1,h2⟩:=GW (n:=n) (l:=l15) (f:=f15) hM hn c15
  rw [L6 rfl,h1,L0]
  exact⟨_,_,rfl,⟨O0,hpu,hps,hnm,h2⟩,h0⟩
theorem zaN {n:Nat} {D:Dt} {r:Int×Int} (h:uT n D=some r) (h2:r.2≠0):r.1=0:=by
 unfold uT at h
 obtain⟨y3,_,h⟩:=Option.bind_eq_some_iff.1 h
 cases y3 with
 |true=>injection h with h; rw [←h]
 | false=>
  rw [L4 O1]at h
  obtain⟨y5,_,h⟩:=Option.bind_eq_some_iff.1 h
  cases y5 with
  |true=>injection h with h; rw [←h]
  | false=>
   rw [L4 O1]at h
   obtain⟨a,_,h⟩:=Option.bind_eq_some_iff.1 h
   obtain⟨b,_,h⟩:=Option.bind_eq_some_iff.1 h
   injection h with h
   rw [←h]at h2
   exact absurd rfl h2
theorem zbh {n:Nat} {g:Int} {c:Bs} {r:Int×Int} (h:yG n g c=some r) (h2:r.2≠0):r.1=0:=by
 unfold yG at h
 obtain⟨o,ho,hr,h⟩:=zbg h
 cases o with
 | ret z=>
  have:=hr z rfl
  injection this with this
  subst this
  by_cases c1:(g==23)=true
  ·rw [L6 c1]at ho; injection ho with ho; cases ho
  rw [L4 c1]at ho
  by_cases c2:(g==24)=true
  ·rw [L6 c2]at ho; injection ho with ho; cases ho
  rw [L4 c2]at ho
  injection ho with ho; injection ho with ho; rw [←ho]
 | nxt y=>
  have h:=h y rfl
  obtain⟨y7,_,h⟩:=Option.bind_eq_some_iff.1 h
  cases y7 with
  |true=>injection h with h; rw [←h]
  | false=>
   rw [L4 O1]at h
   obtain⟨x8,_,h⟩:=Option.bind_eq_some_iff.1 h
   obtain⟨r9,_,h⟩:=Option.bind_eq_some_iff.1 h
   obtain⟨o,ho,hr,h⟩:=zbg h
   cases o with
   | ret z=>
    have:=hr z rfl
    injection this with this
    subst this
    obtain⟨y23,_,ho⟩:=Option.bind_eq_some_iff.1 ho
    cases y23 with
    |true=>injection ho with ho; injection ho with ho; rw [←ho]
    | false=>
     rw [L4 O1]at ho
     obtain⟨y25,_,ho⟩:=Option.bind_eq_some_iff.1 ho
     cases y25 with
     |true=>injection ho with ho; cases ho
     | false=>
      rw [L4 O1]at ho
      split at ho<;>(injection ho with ho; cases ho)
   | nxt w=>
    have h:=h w rfl
    obtain⟨_,_,h⟩:=Option.bind_eq_some_iff.1 h
    obtain⟨_,_,h⟩:=Option.bind_eq_some_iff.1 h
    obtain⟨r28,h28,h⟩:=Option.bind_eq_some_iff.1 h
    injection h with h
    rw [←h]at h2 ⊢
    exact zaN h28 h2
theorem oF {n g:Nat} {c:Bs} {t z:Int} (hn:10000≤n) (hg:g=23∨g=24) (hc:c.length≤20) (he:ud n t=some ((tWrap g c).1,0)) (hd:yG n (g:Int) c=some (t,z)):yG n (g:Int) c=some (t,0)∧zT n (g:Int) c=some (t,0):=by
 have hz:z=0:=by
  by_cases h:z=0
  ·exact h
  ·have ht:t=0:=zbh hd h
   obtain⟨g',c',hg',hc',e1,e2⟩:=zbB (n:=n) O0 (t:=0) O1
   rw [ht,e1]at he
   injection he with he; injection he with he _
   have hw:=congrArg vE he
   rw [XD (by rcases hg' with h|h<;>omega) (by rcases hg' with h|h<;>omega) O0,XD (by rcases hg with h|h<;>omega) (by rcases hg with h|h<;>omega) O0]at hw
   injection hw with hw _
   injection hw with h1 h2 _
   have hgg:g'=g:=O0
   subst hgg h2
   rw [e2,ht]at hd
   injection hd with hd; injection hd with _ hd
   exact hd.symm
 subst hz
 obtain⟨r,h1,h2⟩:=QN (n:=n) (g:=(g:Int)) (c:=c) O0 O0
 rw [hd]at h1
 injection h1 with h1
 rw [←h1]at h2
 exact⟨hd,h2⟩
theorem oL {n M:Nat} {t:Int} {l:List El} {i:Nat} {bad:Bool} (hM:M≤1000000) (hb:Bd M l) (hi:i≤l.length):∃e ok j bad',zU n t ⟨l,(i:Int),bad⟩=some (e,ok,⟨l,((j:Nat):Int),bad'⟩)∧e.zd.length≤M∧j≤l.length:=by
 have hl:=hb.1
 unfold zU
 dsimp only
 cases bad with
 |true=>exact⟨E0,false,i,true,rfl,by show([]:Bs).length≤M; simp,hi⟩
 | false=>
  rw [L4 (show ¬(false=true)by decide)]
  by_cases hc:i<l.length
  ·rw [L4 O4,zQ hc,L0,L0]
   by_cases c:(l[i].zF !=t)=true
   ·rw [c,L6 rfl]; exact⟨E0,false,i,false,rfl,by show([]:Bs).length≤M; simp,hi⟩
   ·rw [Bool.not_eq_true]at c
    rw [c,L4 O1,w1 O0,z6 O0,show((i+1:Nat):Int)-1=(i:Int)by omega,zQ hc]
    exact⟨_,true,i+1,false,rfl,hb.2 _ (Ll hc),O0⟩
  ·rw [L6 O4]
   exact⟨E0,false,i,false,rfl,by show([]:Bs).length≤M; simp,hi⟩
theorem od {n M:Nat} {t:Int} {l:List El} {i:Nat} {bad:Bool} (hM:M≤1000000) (hb:Bd M l) (hi:i≤l.length):∃x j bad',yL n t ⟨l,(i:Int),bad⟩=some (x,⟨l,((j:Nat):Int),bad'⟩)∧j≤l.length:=by
 obtain⟨e,ok,j,bad',h1,_,h2⟩:=oL (n:=n) (t:=t) (bad:=bad) hM hb hi
 unfold yL
 rw [h1]; exact⟨_,_,_,rfl,h2⟩
theorem cX {n M:Nat} (hn:42*M+100≤n) (hM:M≤1000000) (el:List zb×Int) (hb:Bd M el.1):∀(k i:Nat) (ps:List Bs) (bad:Bool),i≤el.1.length→el.1.length-i<k→ps.length+(el.1.length-i)≤M→(∀s∈ps,s.length≤252) →
  ∃ps' bad',yo n el k ps (i:Int) bad=some (ps',bad')∧∀s∈ps',s.length≤252
 |0,_,_,_,_,h,_,_=>O0
 | k + 1,i,ps,bad,hi,hk,h1,h2=>by
  have hl:=hb.1
  rw [yo]
  by_cases hc:i<el.1.length
  ·have hcl:=hb.2 _ (Ll hc)
   obtain⟨s,x,hs,hsl⟩:=V4 (n:=n) (b:=el.1[i].zd) O0 O0
   rw [L6 O4,zQ hc,L0,hs,L0,ifb,L0,yx (by rw [L9]; omega),L0,w1 O0]
   exact cX hn hM el hb k (i+1) _ _ O0 O0 (by rw [L8,L9]; omega) (by
    intro y hy; rcases Lo.1 hy with hy|hy
    ·exact h2 y hy
    ·rw [Ln]at hy; subst hy; exact hsl)
  ·rw [L4 O4]
   exact⟨_,_,rfl,h2⟩
theorem zdO {n M:Nat} {e:El} {l:List El} {i:Int} {bad:Bool} (hn:42*M+100≤n) (hM:M≤1000000) (hc:e.zd.length≤M):∃ps bad',yB n e ⟨l,i,bad⟩=some (ps,⟨l,i,bad'⟩)∧∀s∈ps,s.length≤252:=by
 unfold yB
 rw [YQ O0 O0,L0,ifb,L0]
 have hb:=uR e.zd hc
 have hl:=hb.1
 obtain⟨ps,bad',h1,h3⟩:=cX (n:=n) hn hM (tList e.zd) hb n 0 [] (bad||((tList e.zd).2 !=0)) O0 O0 O3 O2
 rw [show((0:Nat):Int)=0 from rfl]at h1
 dsimp only
 rw [h1]
 exact⟨_,_,rfl,h3⟩
def Q0:Qry:=⟨0,[],0,[],false,false,false,[],0,false,[]⟩
theorem zaF {n M:Nat} {b:Bs} {x:El} (hM:M≤900000) (hn:200000000≤n) (hw:vY n b=some (x,0)) (hx:x.zd.length≤M):∃q bad y,QS2 252 q∧yh n q=some y ∧
  yK n b=some (if(bad||(y.2 !=0|| !(y.1==b)))=true then(Q0,7)else(q,0))∧∀e0 L,(tList x.zd).1=e0::L→∃z,zT n e0.zF e0.zd=some (q.uu,z):=by
 unfold yK
 rw [hw,L0]
 dsimp only
 rw [L4 O1,nH O0 O0,L0]
 dsimp only
 have hT:=uR x.zd (M:=M) hx
 generalize ((x.zF !=48)||((tList x.zd).2 !=0))=f0
 generalize (tList x.zd).1=l at hT
 have hl:=hT.1
 obtain⟨hD,hO,hBk⟩:=Pi (n:=n) (M:=M) hM hn
 obtain ⟨a1,f1,tm,k1,ha1,h0⟩:∃(a1:Nat) (f1:Bool) (tm:Int),(if(decide ((List.length l:Int)>0))=true then((zM l 0).bind fun x13=>(zM l 0).bind fun x14=>(zT n x13.zF x14.zd).bind fun r15=>
   (if f0=true then(some true)else(some (r15.2 !=0))).bind fun y17=>some ((1:Int),y17,r15.1))else(some ((0:Int),f0,(0:Int))))=some ((a1:Int),f1,tm)∧a1≤l.length∧∀e0 L,l=e0::L→∃z,zT n e0.zF e0.zd=some (tm,z):=by
  match l,hT with
  | [],_=>exact⟨0,f0,0,rfl,O2,fun e0 L h=>by cases h⟩
  | e::r,hT=>
   have k0:zM (e::r) 0=some e:=by simp [zM]
   have hc:=hT.2 e O2
   obtain⟨v,_,hv⟩:=QN (n:=n) (g:=e.zF) (c:=e.zd) O0 O0
   rw [L6 (by rw [L3,La]; omega),k0,L0,L0,hv,L0,ifb,L0]
   exact⟨1,_,v.1,rfl,O2,fun e0 L h=>by injection h with h _; subst h; exact⟨v.2,hv⟩⟩
 rw [k1,L0]; dsimp only
 obtain⟨e2,o2,a2,f2,k2,c2,ha2⟩:=oL (n:=n) (t:=128) (bad:=f1) O0 hT ha1
 rw [k2,L0]; dsimp only
 obtain ⟨f3,pu,k3,hpu⟩:∃f3 pu,(if o2=true then((zE n e2.zd).bind fun r26=>(if f2=true then(some true)else(some (r26.2 !=0))).bind fun y28=>some (y28,r26.1))else(some (f2,([]:List UInt8))))=some (f3,pu)∧pu.length≤252:=by
  cases o2 with
  |false=>exact⟨_,_,rfl,O2⟩
  | true=>
   obtain⟨s,e,h1,h2⟩:=V4 (n:=n) (b:=e2.zd) O0 O0
   rw [L6 rfl,h1,L0,ifb,L0]; exact⟨_,_,rfl,h2⟩
 rw [k3,L0]; dsimp only
 obtain⟨e4,o4,a4,f4,k4,c4,ha4⟩:=oL (n:=n) (t:=129) (bad:=f3) O0 hT ha2
 rw [k4,L0]; dsimp only
 obtain ⟨f5,us,k5⟩:∃f5 us,(if o4=true then((y6 n e4.zd).bind fun r37=>(if f4=true then(some true)else(some (r37.2 !=0))).bind fun y39=>some (y39,r37.1))else(some (f4,0)))=some (f5,us):=by
  cases o4 with
  |false=>exact⟨_,_,rfl⟩
  | true=>
   obtain⟨s,e,h1⟩:=rL (n:=n) (c:=e4.zd) O0 O0
   rw [L6 rfl,h1,L0,ifb,L0]; exact⟨_,_,rfl⟩
 rw [k5,L0]; dsimp only
 obtain⟨e6,o6,a6,f6,k6,c6,ha6⟩:=oL (n:=n) (t:=162) (bad:=f5) O0 hT ha4
 rw [k6,L0]; dsimp only
 obtain ⟨f7,ps,k7,hps⟩:∃f7 ps,(if o6=true then((yB n e6 ⟨l,(a6:Int),f6⟩).bind fun r48=>some (r48.2.f_l,r48.2.dh,r48.2.gV,r48.1))else(some (l,(a6:Int),f6,([]:List (List UInt8)))))=some (l,(a6:Int),f7,ps)∧∀s∈ps,s.length≤252:=by
  cases o6 with
  |false=>exact⟨_,_,rfl,O2⟩
  | true=>
   obtain⟨ps,bd,h1,h2⟩:=zdO (n:=n) (M:=M) (e:=e6) (l:=l) (i:=(a6:Int)) (bad:=f6) O0 O0 c6
   rw [L6 rfl,h1,L0]; exact⟨_,_,rfl,h2⟩
 rw [k7,L0]; dsimp only
 obtain⟨x1,a8,f8,k8,ha8⟩:=od (n:=n) (t:=131) (bad:=f7) O0 hT ha6
 rw [k8,L0]; dsimp only
 obtain⟨x2,a9,f9,k9,ha9⟩:=od (n:=n) (t:=132) (bad:=f8) O0 hT ha8
 rw [k9,L0]; dsimp only
 obtain⟨x3,a10,f10,k10,ha10⟩:=od (n:=n) (t:=133) (bad:=f9) O0 hT ha9
 rw [k10,L0]; dsimp only
 obtain⟨e11,o11,a11,f11,k11,c11,ha11⟩:=oL (n:=n) (t:=166) (bad:=f10) O0 hT ha10
 rw [k11,L0]; dsimp only
 obtain ⟨f12,nm,k12,hnm⟩:∃f12 nm,(if o11=true then((w7 n e11.zd).bind fun r60=>(if f11=true then(some true)else(some (r60.2 !=0))).bind fun y62=>some (y62,r60.1))else(some (f11,([]:List zc))))=some (f12,nm)∧∀g∈nm,BdG 252 g:=by
  cases o11 with
  |false=>exact⟨_,_,rfl,O2⟩
  | true=>
   rw [L6 rfl,zb8 hD hO hM O0 c11,L0,ifb,L0]
   refine⟨_,_,rfl,fun g hg=> ?_⟩
   obtain⟨g1,g2⟩:=BS.2 g hg
   exact⟨by have:=nU g1; omega,g2⟩
 rw [k12,L0]; dsimp only
 obtain⟨x4,a13,f13,k13,ha13⟩:=rF (n:=n) (t:=2) (bad:=f12) O0 O0 hT ha11
 rw [k13,L0]; dsimp only
 obtain⟨x5,a14,f14,k14,ha14⟩:=od (n:=n) (t:=135) (bad:=f13) O0 hT ha13
 rw [k14,L0]; dsimp only
 obtain⟨e15,o15,a15,f15,k15,c15,ha15⟩:=oL (n:=n) (t:=168) (bad:=f14) O0 hT ha14
 rw [k15,L0]; dsimp only
 obtain ⟨f16,an,k16,han⟩:∃f16 an,(if o15=true then((xj n e15.zd).bind fun r76=>(if f15=true then(some true)else(some (r76.2 !=0))).bind fun y78=>(xL n r76.1 ⟨l,(a15:Int),y78⟩).bind fun r79=>
   some (r79.2.f_l,r79.2.dh,r79.2.gV,r79.1))else(some (l,(a15:Int),f15,([]:List ze))))=some (l,(a15:Int),f16,an)∧BdL 252 an:=by
  cases o15 with
  |false=>exact⟨_,_,rfl,by intro a ha; simp at ha⟩
  | true=>
   have hA:=uR e15.zd (M:=M) c15
   obtain⟨an,bd,h1,h2⟩:=Di hM hn (tList e15.zd).1 hA n 0 [] (f15||(tList e15.zd).2 !=0) O0 (by have:=hA.1; omega) O2 (by intro a ha; simp at ha)
   rw [show((0:Nat):Int)=0 from rfl]at h1
   rw [L6 rfl,YQ O0 O0,L0,ifb,L0]
   unfold xL
   dsimp only
   rw [h1]; exact⟨_,_,rfl,h2⟩
 rw [k16,L0]; dsimp only
 have hq:QS2 252 (⟨tm,pu,us,ps,x1,x2,x3,nm,x4,x5,an⟩:Qry):=⟨O0,hpu,hps,hnm,han⟩
 obtain⟨y,_,hy,_⟩:=Kb hn hq
 refine⟨_,f16,y,hq,hy, ?_,h0⟩
 rw [hy,L0,tA,L0]
 by_cases c:(f16||(y.2 !=0|| !(y.1==b)))=true
 ·rw [L6 c,L6 c]; rfl
 ·rw [L4 c,L4 c]
theorem DO {n:Nat} {q:Qry} (hn:200000000≤n) (h:QOk n q∧BdQ 252 q):QOk n (bo q)∧BdQ 252 (bo q):=by
 obtain⟨⟨f1,f2,f3,⟨f4,f5,f6⟩,f7,f8,f9⟩,⟨b1,b2,b3,b4⟩⟩:=h
 refine⟨⟨f1,f2,f3,⟨f4,by show(q.zy.map dX).length≤_; rw [Lb]; exact f5,by show(q.zg.map Yw).length≤_; rw [Lb]; exact f6⟩,f7, ?_, ?_⟩,⟨b1,b2, ?_, ?_⟩⟩
 ·intro g hg
  obtain⟨x,hx,rfl⟩:=Lh.1 (show g∈q.zy.map dX from hg)
  exact Q6 (f8 x hx) (b3 x hx).2 O0 O0
 ·intro g hg
  obtain⟨x,hx,rfl⟩:=Lh.1 (show g∈q.zg.map Yw from hg)
  exact DX (f9 x hx)
 ·intro g hg
  obtain⟨x,hx,rfl⟩:=Lh.1 (show g∈q.zy.map dX from hg)
  exact⟨(b3 x hx).1,B5 (b3 x hx).2⟩
 ·intro g hg
  obtain⟨x,hx,rfl⟩:=Lh.1 (show g∈q.zg.map Yw from hg)
  exact B5 (b4 x hx)
theorem si {n g:Nat} {c fl:Bs} {q:Qry} (hn:200000000≤n) (hf:QOk n q∧BdQ 252 q) (hg:g=23∨g=24) (hc:c.length≤20) (hfl:fl.length≤4) (hX:(wraps (q.zg.map ancE)).length≤131072):∀p∈contQ (g,c) fl q,POk p∧Wf 6 p:=by
 obtain⟨⟨f1,f2,f3,⟨f4,f5,f6⟩,f7,f8,f9⟩,⟨b1,b2,b3,b4⟩⟩:=hf
 have m3:=Vx f7
 have m4:=UH O0 O0 f8 b3
 have m4':(252+4338)*q.zy.length≤73440:=O0
 have m5:=Ym f9
 unfold contQ q2 q3 q4 q5 q6 q7 q8 q9 q10 q11
 refine all_cons (by rcases hg with rfl|rfl<;>exact UU O0 O0 O0 O0)<|Xo (fun h=> ?_)<|Xo (fun _=>UU O0 O0 O0 O0)<|Xo (fun _=> ?_)<|Xo (fun _=>UU O0 O0 O0 O2) <|
  Xo (fun _=>UU O0 O0 O0 O2)<|Xo (fun _=>UU O0 O0 O0 O2)<|Xo (fun _=> ?_)<|all_cons (UU O0 O0 O0 O2)<|Xo (fun _=>UU O0 O0 O0 O2)<|Xo (fun _=> ?_) O2
 ·have hs:(xG q.zC).isSome=true:=by
   rcases f1 with f1|f1
   ·rw [f1]at h; exact absurd h O1
   ·exact f1
  have:=fu _ hs
  exact UU O0 O0 O0 O0
 ·refine⟨⟨by dsimp only; decide,by dsimp only; decide,O7⟩,(Wf.node (t:=162) (k:=1) (l:=q.zi.map polE) fun x hx=> ?_).mono O0⟩
  obtain⟨s,hs,rfl⟩:=Lh.1 hx
  exact⟨PN (Lg.1 f7 s hs),Wf.leaf (t:=6) O1⟩
 ·refine⟨⟨by dsimp only; decide,by dsimp only; decide,O7⟩,Wf.node (t:=166) (k:=5) (l:=q.zy.map v8) fun x hx=> ?_⟩
  obtain⟨s,hs,rfl⟩:=Lh.1 hx
  obtain⟨a1,_,a3⟩:=WO (B:=252) (f8 s hs) (b3 s hs) O0 O0
  exact⟨a1,a3⟩
 ·refine⟨⟨by dsimp only; decide,by dsimp only; decide,O7⟩,Wf.node (t:=168) (k:=5) (l:=q.zg.map ancE) fun x hx=> ?_⟩
  obtain⟨s,hs,rfl⟩:=Lh.1 hx
  exact⟨Pg (f9 s hs),zci (f9 s hs)⟩
theorem Jr {n:Nat} {l0:List El} {l:List Anc} (hn:200000000≤n) (ho:∀a∈l,Uv a) (hl:l.length≤64):u7 n (wraps (l.map ancE)) ⟨l0,false⟩=some (l.map Yw,⟨l0,false⟩):=by
 have hw:=Ym ho
 have hp:∀p∈l.map ancE,POk p:=by
  intro p hp; obtain⟨a,ha,rfl⟩:=Lh.1 hp; exact Pg (ho a ha)
 unfold u7 uY
 rw [gd O0 O0,wV hp,L0,L0]
 dsimp only
 have h:=B9 (M:=0) (n:=n) hn l0 n l [] ho O0 (by simp only [Lm]; omega)
 rw [show((0:Int) !=0)=false from rfl,h,L0]
 rfl
theorem zc1 {n g:Nat} {c fl:Bs} {q:Qry} (hn:200000000≤n) (hf:QOk n q∧BdQ 252 q) (hg:g=23∨g=24) (hd:yG n (g:Int) c=some (q.uu,0)) (hu:jp n fl=some (q.yk,0)):
  jE n ⟨(contQ (g,c) fl q).map elm,false⟩=some (bo q,⟨[],false⟩):=by
 obtain⟨⟨f1,f2,f3,⟨f4,f5,f6⟩,f7,f8,f9⟩,⟨b1,b2,b3,b4⟩⟩:=hf
 have m3:=Vx f7
 have m4:=UH O0 O0 f8 b3
 have m4':(252+4338)*q.zy.length≤73440:=O0
 unfold jE
 rw [show(contQ (g,c) fl q).map elm=elm (g,c)::(q2 fl q).map elm from rfl,Ul,L0]
 dsimp only
 rw [show(elm (g,c)).zF=(g:Int)from rfl,show(elm (g,c)).zd=c from rfl,hd,L0,Yn,L0]
 rw [show(false||((q.uu,(0:Int)).2 !=0))=false from rfl,show(128:Int)=((128:Nat):Int)from rfl]
 unfold q2
 rw [rB (by rfl) (n3 O1),L0]
 have s1:(if(!(q.zC== []))=true then((yw n (if(!(q.zC== []))=true then elm (128,(polE q.zC).2)else E0).zd).bind fun r12=>
   (zR n r12.2 ⟨(q3 fl q).map elm,false⟩).bind fun r13=>some (r13.f_l,r13.yp,r12.1))else(some ((q3 fl q).map elm,false,([]:List UInt8))))=some ((q3 fl q).map elm,false,q.zC):=by
  cases hb:(!(q.zC== []))with
  | true=>
   have hs:(xG q.zC).isSome=true:=by
    rcases f1 with f1|f1
    ·rw [f1]at hb; exact absurd hb O1
    ·exact f1
   obtain⟨l,hl⟩:=Option.isSome_iff_exists.1 hs
   have hpe:(polE q.zC).2=qA l:=by unfold polE; rw [hl]; rfl
   rw [L6 rfl,L6 rfl,show(elm (128,(polE q.zC).2)).zd=(polE q.zC).2 from rfl,hpe,Y8 hl O0,L0,Yn,L0]
   rfl
  | false=>
   have:q.zC= []:=by simpa using hb
   rw [L4 O2,this]
 dsimp only at s1 ⊢
 rw [s1,L0]
 dsimp only
 rw [show(129:Int)=((129:Nat):Int)from rfl]
 unfold q3
 rw [rB (by rfl) (n4 O1),L0]
 have s2:(if(q.yk !=0)=true then((jp n (if(q.yk !=0)=true then elm (129,fl)else E0).zd).bind fun r22=>
   (zR n r22.2 ⟨(q4 q).map elm,false⟩).bind fun r23=>some (r23.f_l,r23.yp,r22.1))else(some ((q4 q).map elm,false,(0:Int))))=some ((q4 q).map elm,false,q.yk):=by
  cases hb:(q.yk !=0)with
  | true=>
   rw [L6 rfl,L6 rfl,show(elm (129,fl)).zd=fl from rfl,hu,L0,Yn,L0]
   rfl
  | false=>
   have:q.yk=0:=by simpa using hb
   rw [L4 O2,this]
 dsimp only at s2 ⊢
 rw [s2,L0]
 dsimp only
 rw [show(162:Int)=((162:Nat):Int)from rfl]
 unfold q4
 rw [rB (by rfl) (n5 O1),L0]
 have s3:(if(!q.zi.isEmpty)=true then((ve n (if(!q.zi.isEmpty)=true then elm (162,wraps (q.zi.map polE))else E0).zd ⟨(q5 q).map elm,false⟩).bind fun r31=>
   some (r31.2.f_l,r31.2.yp,r31.1))else(some ((q5 q).map elm,false,([]:List (List UInt8)))))=some ((q5 q).map elm,false,q.zi):=by
  cases hp:q.zi with
  |nil=>rfl
  | cons s r=>
   rw [show(!(s::r).isEmpty)=true from rfl,L6 rfl,L6 rfl,←hp,show(elm (162,wraps (q.zi.map polE))).zd=wraps (q.zi.map polE)from rfl,Bt O0 f7 O0,L0]
 dsimp only at s3 ⊢
 rw [s3,L0]
 dsimp only
 rw [show(131:Int)=((131:Nat):Int)from rfl,show q5 q=optE q.xI (131,[255])++q6 q from rfl,nL (n6 O1),L0]
 dsimp only
 rw [show(132:Int)=((132:Nat):Int)from rfl,show q6 q=optE q.xb (132,[255])++q7 q from rfl,nL (n7 O1),L0]
 dsimp only
 rw [show(133:Int)=((133:Nat):Int)from rfl,show q7 q=optE q.jt (133,[255])++q8 q from rfl,nL (n8 O1),L0]
 dsimp only
 rw [show(166:Int)=((166:Nat):Int)from rfl]
 unfold q8
 rw [rB (by rfl) (n9 O1),L0]
 have s4:(if(!q.zy.isEmpty)=true then((ur n (if(!q.zy.isEmpty)=true then elm (166,wraps (q.zy.map v8))else E0).zd).bind fun r43=>
   (zR n r43.2 ⟨(q9 q).map elm,false⟩).bind fun r44=>some (r44.f_l,r44.yp,r43.1))else(some ((q9 q).map elm,false,([]:List zc))))=some ((q9 q).map elm,false,q.zy.map dX):=by
  cases hp:q.zy with
  |nil=>rfl
  | cons s r=>
   rw [show(!(s::r).isEmpty)=true from rfl,L6 rfl,L6 rfl,←hp,show(elm (166,wraps (q.zy.map v8))).zd=wraps (q.zy.map v8)from rfl,zdW (B:=252) O0 hn f8 b3 (by rw [hp]; simp) f5 O0,L0,Yn,L0]
   rfl
 dsimp only at s4 ⊢
 rw [s4,L0]
 dsimp only
 rw [show(2:Int)=((2:Nat):Int)from rfl,show(q9 q).map elm=elm (Bu 2 q.ye)::(q10 q).map elm from rfl,zbK O0 (sm8 f3),L0]
 dsimp only
 rw [show(135:Int)=((135:Nat):Int)from rfl,show q10 q=optE q.uc (135,[255])++q11 q from rfl,nL (n11 O1),L0]
 dsimp only
 rw [show(168:Int)=((168:Nat):Int)from rfl]
 unfold q11
 rw [rB (by rfl) O2,L0]
 cases hp:q.zg with
 | nil=>
  rw [show(!([]:List Anc).isEmpty)=false from rfl,L4 O2]
  unfold bo
  rw [hp]
  rfl
 | cons s r=>
  rw [show(!(s::r).isEmpty)=true from rfl,L6 rfl,L6 rfl,←hp,show(elm (168,wraps (q.zg.map ancE))).zd=wraps (q.zg.map ancE)from rfl]
  dsimp only
  rw [Jr hn f9 O0,L0]
  rfl
theorem tH {n:Nat} {q:Qry} (hn:200000000≤n) (f4:q.zi.length≤8) (f5:q.zy.length≤16) (f6:q.zg.length≤64) (b3:∀g∈q.zy,BdG 252 g) (b4:∀a∈q.zg,BdN 252 a.zt.zh):wg n q (bo q)=some true:=by
 have hs:bD n q.zi q.zi=some true:=by
  unfold bD
  have e:=nl (n:=n) q.zi O0 n 0 O0 O0
  rw [show((0:Nat):Int)=0 from rfl]at e
  rw [L4 O2,e]; rfl
 unfold wg
 rw [show(bo q).uu=q.uu from rfl,show(bo q).zC=q.zC from rfl,show(bo q).yk=q.yk from rfl,show(bo q).zi=q.zi from rfl,show(bo q).xI=q.xI from rfl,show(bo q).xb=q.xb from rfl,show(bo q).jt=q.jt from rfl,
  show(bo q).ye=q.ye from rfl,show(bo q).uc=q.uc from rfl,show(bo q).zy=q.zy.map dX from rfl,show(bo q).zg=q.zg.map Yw from rfl]
 rw [L6 O2,L6 O2,L6 O2,hs,L0,L6 rfl,L6 O2,L6 O2,L6 O2,mH b3 O0 O0 O0,L0,L6 rfl,L6 O2,L6 O2,mA b4 O0 O0 O0]
 rfl
theorem sT {n:Nat} {b:Bs} {q:Qry} (hn:200000000≤n) (hq:QS2 252 q) (he:yj n q=some (b,0)):yh n q=some (b,0)∧(QOk n q∧BdQ 252 q)∧∃(g:Nat) (c fl:Bs),(g=23∨g=24)∧c.length≤20∧ud n q.uu=some ((tWrap g c).1,0)∧jp n fl=some (q.yk,0)∧y6 n fl=some (q.yk,0) ∧
  (wraps (contQ (g,c) fl q)).length≤131072∧(∀p∈contQ (g,c) fl q,POk p)∧vE b=(⟨48,wraps (contQ (g,c) fl q),b⟩,0):=by
 obtain⟨x,e1,e2,_,e3⟩:=Kb hn hq
 rw [he]at e1
 injection e1 with e1
 subst e1
 obtain⟨h1,h2,g,c,fl,hg,hc,hfl,t1,u3,u4,hX,hW,hb⟩:=e3 rfl
 have hok:=si hn ⟨h1,h2⟩ hg hc hfl hX
 refine⟨e2,⟨h1,h2⟩,g,c,fl,hg,hc,t1,u3,u4,hW,fun p hp=>(hok p hp).1, ?_⟩
 have:=XD (t:=48) (c:=wraps (contQ (g,c) fl q)) O0 O0 hW
 dsimp only at hb
 rw [hb,this]; rfl
theorem zbf {n:Nat} {b:Bs} {q:Qry} (hn:200000000≤n) (hq:QS2 252 q) (he:yj n q=some (b,0)):yj n (bo q)=some (b,0):=by
 obtain⟨e,v1,v2⟩:=Ds (n:=n) O0 hq
 by_cases c:e=0
 ·subst c
  have hb:BdQ 252 q:=⟨hq.pu,hq.pl,hq.nm,hq.is⟩
  obtain⟨hk,hv2⟩:=P6 (B:=252) O0 O0 hb v1
  obtain⟨ht0,ht1⟩:=cT v1
  obtain⟨g,tc,hg,hc,t1,t2⟩:=DJ (n:=n) O0 ht0 ht1
  obtain⟨fl,hfl,u1,u2,u3,u4⟩:=cO (n:=n) O0 hk.2.1.1 hk.2.1.2
  obtain⟨e1,_⟩:=tn hn ⟨hk,hb⟩ v1 hg hc t1 hfl u1
  obtain⟨e3,_⟩:=tn (q:=bo q) hn (DO hn ⟨hk,hb⟩) hv2 hg hc t1 hfl u1
  rw [rM,show(bo q).zg.map ancE=q.zg.map ancE from cG _,←e1]at e3
  rw [e3,he]
 ·have:yj n q=some ([],e):=by
   unfold yj
   rw [v1,L0,L6 (Oa c)]
  rw [he]at this
  injection this with this; injection this with _ this
  exact absurd this.symm c
theorem zag {n:Nat} (hn:200000000≤n):wg n Q0 Q0=some true:=
 tH (q:=Q0) hn O1 O1 O1 (by intro g hg; simp [Q0]at hg) (by intro g hg; simp [Q0]at hg)
theorem o7 {n:Nat} {b:Bs} (hn:200000000≤n) (hb:b.length≤900000):∃r,ji n b=some r∧yK n b=some r∧wg n r.1 r.1=some true:=by
 obtain⟨e,c1,c2,c3⟩:=zav (n:=n) (b:=b) O0 O0
 by_cases he:e=0
 ·subst he
  have ho:=c3 rfl
  have hw:vY n b=some ((vE b).1,0):=by
   unfold vY
   rw [c2,L0,L4 O1,Ji O0 O0,L0,ho]
  have hcl:(vE b).1.zd.length≤900000:=by have:=Q7 b; omega
  obtain⟨qR,bad,y,sR,eR,dR,tR⟩:=zaF (M:=900000) O0 hn hw hcl
  have hT:=uR (vE b).1.zd (M:=900000) hcl
  obtain⟨qP,r,rP,sP,tP⟩:=mC (f:=((tList (vE b).1.zd).2 !=0)||((vE b).1.zF !=48)) O0 hn hT
  obtain⟨xP,eP,_,_⟩:=Kb hn sP
  obtain⟨yP,eP2,eR2,_⟩:=Kb hn sR
  rw [eR]at eR2; injection eR2 with eR2; subst eR2
  have hP:ji n b=some (if(r.yp||(xP.2 !=0|| !(xP.1==b)))=true then(Q0,7)else(qP,0)):=by
   unfold ji qI
   rw [c1,L0,L4 O1,Q9 O0 O0,L0,L4 (by rw [ho]; decide),zcj O0 O0,L0,rP,L0]
   dsimp only
   cases hf:r.yp with
   |true=>rfl
   | false=>
    rw [L4 O1,show yj n ⟨qP.uu,qP.zC,qP.yk,qP.zi,qP.xI,qP.xb,qP.jt,qP.zy,qP.ye,qP.uc,qP.zg⟩=some xP from eP,L0,ifb,L0,Bool.false_or]
    by_cases cc:(xP.2 !=0|| !(xP.1==b))=true
    ·rw [L6 cc,L6 cc]; rfl
    ·rw [L4 cc,L4 cc]; rfl
  have key:∀v:Qry,QS2 252 v→yj n v=some (b,0)→(∃z,∀e0 L,(tList (vE b).1.zd).1=e0::L→yG n e0.zF e0.zd=some (v.uu,z))→qP=bo v∧r.yp=false∧yK n b=some (bo v,0)∧yj n (bo v)=some (b,0)∧(QOk n v∧BdQ 252 v):=by
   intro v hv hev ⟨z,hz⟩
   obtain⟨h1,h2,g,c,fl,hg,hc,t1,u3,u4,hW,hp,hone⟩:=sT hn hv hev
   have hx:(vE b).1=⟨48,wraps (contQ (g,c) fl v),b⟩:=by rw [hone]
   have hcont:(vE b).1.zd=wraps (contQ (g,c) fl v):=by rw [hx]
   have htl:tList (vE b).1.zd=((contQ (g,c) fl v).map elm,0):=by rw [hcont,wV hp]
   have hz0:=hz (elm (g,c)) ((q2 fl v).map elm) (by rw [htl]; rfl)
   obtain⟨d1,d2⟩:=oF (n:=n) (g:=g) (c:=c) (t:=v.uu) (z:=z) O0 hg hc t1 hz0
   have hr:=zc1 hn h2 hg d1 u3
   have hfl:(((tList (vE b).1.zd).2 !=0)||((vE b).1.zF !=48))=false:=by rw [htl,hx]; rfl
   rw [hfl,htl]at rP
   dsimp only at rP
   rw [hr]at rP
   injection rP with rP
   injection rP with rq rr
   have hes:=zbf hn hv hev
   have hq2:QS2 252 (bo v):=by
    have:=(DO hn h2).2
    exact⟨O0,this.1,this.2.1,this.2.2.1,this.2.2.2⟩
   have heR:=(sT hn hq2 hes).1
   refine⟨rq.symm,by rw [←rr],zff hn h2 d2 u4 (by rw [hw,hx]) hp hW heR,hes,h2⟩
  by_cases hA:(r.yp||(xP.2 !=0|| !(xP.1==b)))=true
  ·by_cases hB:(bad||(y.2 !=0|| !(y.1==b)))=true
   ·rw [L6 hA]at hP
    rw [L6 hB]at dR
    exact⟨_,hP,dR,zag hn⟩
   ·exfalso
    simp only [Bool.or_eq_true,not_or,Bool.not_eq_true,bne_eq_false_iff_eq,Bool.not_eq_false',beq_iff_eq]at hB
    obtain⟨_,y2,y1⟩:=hB
    have hev:yj n qR=some (b,0):=by rw [eP2,←y1,←y2]
    obtain ⟨k1,k2,_,k4,_⟩:=key qR sR hev (by
     cases hl:(tList (vE b).1.zd).1 with
     |nil=>exact⟨0,fun e0 L h=>by cases h⟩
     | cons e0 L=>
      obtain⟨z,hz⟩:=tR e0 L hl
      have hce:=hT.2 e0 (by rw [hl]; simp)
      obtain⟨w,w1',w2⟩:=QN (n:=n) (g:=e0.zF) (c:=e0.zd) O0 O0
      rw [hz]at w2; injection w2 with w2; subst w2
      exact⟨z,fun e1 L1 h=>by injection h with h _; subst h; exact w1'⟩)
    rw [←k1,eP]at k4
    injection k4 with k4
    rw [k2,k4]at hA
    simp at hA
  ·have hA':=hA
   simp only [Bool.or_eq_true,not_or,Bool.not_eq_true,bne_eq_false_iff_eq,Bool.not_eq_false',beq_iff_eq]at hA'
   obtain⟨_,x2,x1⟩:=hA'
   have hev:yj n qP=some (b,0):=by rw [eP,←x1,←x2]
   obtain ⟨k1,_,k3,_,k5⟩:=key qP sP hev (by
    cases hl:(tList (vE b).1.zd).1 with
    |nil=>exact⟨0,fun e0 L h=>by cases h⟩
    | cons e0 L=>
     obtain⟨z,hz⟩:=tP e0 L hl
     exact⟨z,fun e1 L1 h=>by injection h with h _; subst h; exact hz⟩)
   rw [L4 hA]at hP
   rw [←k1]at k3
   refine⟨_,hP,k3, ?_⟩
   have:=tH (q:=qP) hn k5.1.2.2.2.1.1 k5.1.2.2.2.1.2.1 k5.1.2.2.2.1.2.2 k5.2.2.2.1 k5.2.2.2.2
   rw [←k1]at this
   exact this
 ·refine ⟨(Q0,e), ?_, ?_,zag hn⟩
  ·unfold ji qI
   rw [c1,L0,L6 (Oa he)]; rfl
  ·unfold yK vY
   rw [c2,L0,L6 (Oa he),L0]
   dsimp only
   rw [L6 (Oa he)]; rfl
theorem zbE {n:Nat} {d:zf} (hd:wu d):∃t d',gr n d=some (t,d')∧wu d':=by
 unfold gr
 obtain⟨r,d1,e1,a1,b1,k1⟩:=wP (n:=n) (k:=7) O1 O1 hd
 obtain⟨x,ex⟩:=gI (s:=oa) (i:=r) a1 (show r<((7:Nat):Int)from b1)
 unfold oa at ex
 rw [e1,L0]; simp only []; rw [ex]
 exact⟨_,_,rfl,k1⟩
theorem re {n:Nat} {d:zf} (hn:2000≤n) (hd:wu d):∃q d',kH n d=some (q,d')∧wu d'∧QS2 252 q:=by
 unfold kH
 obtain⟨t,pu,us,ps,b1,b2,b3,nm,ml,b4,an,d1,e1,k1,hpu,⟨hps,hpl⟩,⟨hnm,hng⟩,han,hab⟩:=tO (n:=n) hn hd
 obtain⟨tm,d2,e2,k2⟩:=zbE (n:=n) k1
 obtain⟨r3,d3,e3,_,_,k3⟩:=wP (n:=n) (k:=512) O1 O1 k2
 obtain⟨r4,d4,e4,a4,b4',k4⟩:=wP (n:=n) (k:=3) O1 O1 k3
 obtain⟨L5,At5,nm',e5,k5,hnm',hng'⟩:=zcJ (n:=n) (nm:=nm) hn k4 a4 b4' hnm hng
 obtain⟨r6,d6,e6,a6,b6,k6⟩:=wP (n:=n) (k:=3) O1 O1 k5
 obtain⟨L7,At7,an',e7,k7,han',hab'⟩:=za8 (n:=n) (nm:=an) hn k6 a6 b6 han hab
 obtain⟨r8,d8,e8,a8,b8,k8⟩:=wP (n:=n) (k:=24) O1 O1 k7
 obtain⟨pu',ps',ml',e9,h1,h2,h3⟩:=zbt (r:=(r8,d8)) (pu:=pu) (ps:=ps) (ml:=ml) hpu hps hpl
 unfold qn4 at e5
 unfold zcB at e7
 unfold zcu at e9
 rw [e1,L0]; dsimp only
 rw [e2,L0]; dsimp only
 rw [e3,L0]; dsimp only
 rw [e4,L0]
 rw [show(if decide ((r4,d4).1>0)=true then _ else _)=some (L5,At5,nm')from e5,L0]; dsimp only
 rw [e6,L0]
 rw [show(if decide ((r6,d6).1>0)=true then _ else _)=some (L7,At7,an')from e7,L0]; dsimp only
 rw [e8,L0]
 rw [show(if((r8,d8).1==1)=true then _ else _)=some (pu',ps',ml')from e9,L0]
 exact⟨_,_,rfl,k8,O0,by show pu'.length≤252; omega,fun s hs=>by have:=h3 s hs; omega,fun g hg=>⟨by have:=(hng' g hg).1; omega,(hng' g hg).2.mono O0⟩,hab'⟩
theorem VT {n:Nat} (hn:200000000≤n) (r3:Bs×Int) (r4 r5:Bs×zf) (k i:Nat) (b:Bs) (hi:i<3) (hl:zM ([r3.1,r4.1,r5.1]:List Bs) (i:Int)=some b) (hb:b.length≤900000):
  z1 n r3 r4 r5 (k+1) (i:Int)=z1 n r3 r4 r5 k ((i+1:Nat):Int):=by
 obtain⟨r,e1,e2,e3⟩:=o7 hn hb
 rw [z1,L6 (by rw [L3]; show(i:Int)<3; omega),hl]
 simp only [L0]
 rw [e1,L0,e2,L0,L4 O2]
 rw [show wg n ⟨r.1.uu,r.1.zC,r.1.yk,r.1.zi,r.1.xI,r.1.xb,r.1.jt,r.1.zy,r.1.ye,r.1.uc,r.1.zg⟩ ⟨r.1.uu,r.1.zC,r.1.yk,r.1.zi,r.1.xI,r.1.xb,r.1.jt,r.1.zy,r.1.ye,r.1.uc,r.1.zg⟩=some true from e3]
 simp only [L0]
 rw [L4 O2,w1 O0]
theorem Pj {n:Nat} (hn:200000000≤n) (l:List Int) (hl:l.length≤9223372036854775807) (aw:kJ n=some true):vD n l=some true:=by
 have hd:wu ⟨l,0⟩:=⟨O2,O2,hl⟩
 unfold vD
 obtain⟨p,d1,e1,k1,hp⟩:=re (n:=n) O0 hd
 obtain⟨x,_,x2,xl,_⟩:=Kb hn hp
 obtain⟨s2,d2,h2,l2,k2⟩:=DD (n:=n) (a:=x.1) O0 k1
 obtain⟨s3,d3,h3,l3,_⟩:=Dy (n:=n) hn n x.1 d2 O0 O0 k2
 rw [show pJ n l=some ⟨l,0⟩from rfl,L0,e1,L0]
 dsimp only
 rw [x2,L0,h2,L0]
 dsimp only
 rw [h3,L0]
 have hl1:z1 n x (s2,d2) (s3,d3) n 0=some (.nxt ()):=by
  obtain⟨m,rfl⟩:∃m,n=m+4:=⟨n-4,O0⟩
  have t0:=VT hn x (s2,d2) (s3,d3) (m+3) 0 x.1 O0 rfl O0
  have t1:=VT hn x (s2,d2) (s3,d3) (m+2) 1 s2 O0 rfl O0
  have t2:=VT hn x (s2,d2) (s3,d3) (m+1) 2 s3 O0 rfl O0
  rw [show((0:Nat):Int)=0 from rfl]at t0
  rw [show m+3+1=m+4 from rfl]at t0
  rw [show m+2+1=m+3 from rfl,show((1:Nat):Int)=((0+1:Nat):Int)from rfl]at t1
  rw [show m+1+1=m+2 from rfl,show((2:Nat):Int)=((1+1:Nat):Int)from rfl]at t2
  rw [t0,t1,t2,z1,L4]
  rw [L3]; show ¬(((2+1:Nat):Int)<3); omega
 rw [hl1]
 simp only [yb]
 rw [aw]; rfl
theorem fC (l:List Int) (hl:l.length≤9223372036854775807):vD (199999000+1000) l=some true:=
 Pj O0 l hl (zcK _)
end Go.Abs
end
