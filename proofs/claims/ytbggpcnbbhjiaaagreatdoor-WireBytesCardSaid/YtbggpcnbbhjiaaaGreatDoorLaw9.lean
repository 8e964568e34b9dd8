/- The typed Lean form of WireBytes gives true for every string. No condition. -/
import Derived.Test.YtbggpcnbbhjiaaaGreatDoorLaw8
set_option linter.unusedVariables false
set_option linter.unusedSimpArgs false
set_option linter.unnecessarySimpa false
section
set_option maxRecDepth 100000
namespace Go.Abs
open Go Go.Proofs IntKind
def VQ (X W:Bs):Bs×Int:=if 131072<X.length∨131072<W.length then([],2)else((tWrap 48 W).1,0)
def base (g:Nat) (c fl:Bs) (q:Qry):Bs:=(tWrap g c).1++wraps (optE (!(q.zB== [])) (128,(polE q.zB).2))++wraps (optE (q.yk !=0) (129,fl))++wraps (optE (!q.ze.isEmpty) (162,wraps (q.ze.map polE)))++(wraps (optE q.wr (131,[255]))++wraps (optE q.xI (132,[255]))++wraps (optE q.jy (133,[255]))) ++
 wraps (optE (!q.zw.isEmpty) (166,wraps (q.zw.map vU)))++((tWrap 2 [o8 q.yj.toNat]).1++wraps (optE q.uA (135,[255])))
theorem fe {n:Nat} {b:Bs} {e:Int} (he:e≠0) (hb:b.length≤1000000000) (hn:20≤n):xE n ⟨b,e⟩=some ([],2,⟨b,e⟩):=by
 unfold xE
 rw [show(48:Int)=((48:Nat):Int)from rfl,Ww O0 O0 (by intro x hx; rw [Lk]at hx; rw [hx]; show b.length≤_; omega) O3 O2,L0]
 dsimp only
 rw [L4 (O9 he)]; rfl
theorem zaW {n B t:Nat} {l:List Anc} {b:Bs} (h1:t≤255) (h2:t%32≠31) (ho:∀a∈l,Zf a) (hbl:BdL B l) (hB:B≤1000000) (hn:B+200≤n) (hl:l.length≤64) (hb:b.length≤1000000):qE n (t:Int) l ⟨b,0⟩=some ⟨b++(tWrap t (wraps (l.map ancE))).1,(tWrap t (wraps (l.map ancE))).2⟩:=by
 unfold qE
 have e1:=PT (n:=n) l ho hbl hB O0 O0 n 0 [] O0 O0 O2
 rw [show((0:Nat):Int)=0 from rfl,Lf,Lg]at e1
 rw [show YE n ⟨[],0⟩=some ⟨[],0⟩from rfl,L0]
 simp only []
 rw [e1,L0]
 have hw:=dD ho
 simp only []
 rw [Qq O3,Lh,L0,KH h1 h2 O0 O0]; rfl
theorem rL {n g:Nat} {c fl:Bs} {q:Qry} (hn:200000000≤n) (hf:QOk n q∧BdQ 252 q) (hv:vz n q=some 0) (hg:g=23∨g=24) (hc:c.length≤20) (ht:vW n q.uB=some ((tWrap g c).1,0)) (hfl:fl.length≤4) (hu:kG n q.yk=some (fl,0)):
  yg n q=some (VQ (wraps (q.zf.map ancE)) (wraps (contQ (g,c) fl q)))∧(base g c fl q).length≤80020:=by
 obtain⟨⟨f1,f2,f3,⟨f4,f5,f6⟩,f7,f8,f9⟩,⟨b1,b2,b3,b4⟩⟩:=hf
 have m1:=zU g c
 have m3:=Zs f7
 have m4:=VD O0 O0 f8 b3
 have m5:=dD f9
 have m4':(252+4338)*q.zw.length≤73440:=O0
 have mp:(!(q.zB== []))=true→(polE q.zB).2.length≤55:=fun h=>by
  rcases f1 with f1|f1
  ·rw [f1]at h; exact absurd h O1
  ·exact cw _ f1
 have mp2:(wraps (optE (!(q.zB== [])) (128,(polE q.zB).2))).length≤60:=by
  cases hb:(!(q.zB== []))with
  |true=>have:=mp hb; have:=bK true (128,(polE q.zB).2); dsimp only at this; omega
  |false=>rw [W3]; simp
 have mu:=bK (q.yk !=0) (129,fl)
 have mo:=bK (!q.ze.isEmpty) (162,wraps (q.ze.map polE))
 have me:=bK q.wr (131,[255])
 have mm:=bK q.xI (132,[255])
 have ma:=bK q.jy (133,[255])
 have mn:=bK (!q.zw.isEmpty) (166,wraps (q.zw.map vU))
 have ms:=bK q.uA (135,[255])
 have mi:=bK (!q.zf.isEmpty) (168,wraps (q.zf.map ancE))
 have ml:=zU 2 [o8 q.yj.toNat]
 simp only [L6]at mu mo me mm ma mn ms mi ml
 have ew:wraps (contQ (g,c) fl q)=(tWrap g c).1++wraps (optE (!(q.zB== [])) (128,(polE q.zB).2))++wraps (optE (q.yk !=0) (129,fl))++wraps (optE (!q.ze.isEmpty) (162,wraps (q.ze.map polE)))++wraps (optE q.wr (131,[255]))++wraps (optE q.xI (132,[255]))++wraps (optE q.jy (133,[255])) ++
   wraps (optE (!q.zw.isEmpty) (166,wraps (q.zw.map vU)))++(tWrap 2 [o8 q.yj.toNat]).1++wraps (optE q.uA (135,[255]))++wraps (optE (!q.zf.isEmpty) (168,wraps (q.zf.map ancE))):=by
  unfold contQ q2 q3 q4 q5 q6 q7 q8 q9 q10 q11
  simp only [ji,Gw,Ln,numE]
  rw [show wraps []= []from rfl,Lh]
 have hbase:(base g c fl q).length≤80020:=by
  unfold base; simp only [L5]; omega
 refine⟨?_,hbase⟩
 unfold yg
 rw [hv,L0,L3 O1,ht,L0,Qq (by simp only [Lj]; omega),L0,Lg]
 generalize hX0:(tWrap g c).1=X0 at m1 ew
 have s1:(if(!(q.zB==([]:List UInt8)))=true then((kp n q.zB).bind fun r11=>
   (yh n ([]:List UInt8) r11.2 ⟨X0,0⟩).bind fun r12=>(z6 n 128 r11.1 r12).bind fun r13=>some (r13.f_b,r13.f_e))else(some (X0,(0:Int))))=some (X0++wraps (optE (!(q.zB== [])) (128,(polE q.zB).2)),0):=by
  cases hb:(!(q.zB== []))with
  | true=>
   have hs:(y4 q.zB).isSome=true:=by
    rcases f1 with f1|f1
    ·rw [f1]at hb; exact absurd hb O1
    ·exact f1
   obtain⟨l,hl⟩:=Option.isSome_iff_exists.1 hs
   have hpe:(polE q.zB).2=qg l:=by unfold polE; rw [hl]; rfl
   have hlo:=gZ (bf hl)
   rw [L4 rfl,U7 O0 O0 hl,L0,Qq (by simp only [Lj]; omega),L0,Lh,show(128:Int)=((128:Nat):Int)from rfl,ct O0 O0 O6 O0 O0,L0,gX,hpe]
  |false=>rw [L3 O2,W3,Lh]
 rw [s1,L0]
 generalize hX1:X0++wraps (optE (!(q.zB== [])) (128,(polE q.zB).2))=X1 at ew
 have l1:X1.length≤200:=by rw [←hX1,L5]; omega
 have s2:(if(q.yk !=0)=true then((kG n q.yk).bind fun r21=>
   (yh n ([]:List UInt8) r21.2 ⟨X1,0⟩).bind fun r22=>(z6 n 129 r21.1 r22).bind fun r23=>some (r23.f_b,r23.f_e))else(some (X1,(0:Int))))=some (X1++wraps (optE (q.yk !=0) (129,fl)),0):=by
  cases hb:(q.yk !=0)with
  | true=>
   rw [L4 rfl,hu,L0,Qq (by simp only [Lj]; omega),L0,Lh,show(129:Int)=((129:Nat):Int)from rfl,ct O0 O0 O6 O0 O0,L0,gX]
  |false=>rw [L3 O2,W3,Lh]
 dsimp only
 rw [s2,L0]
 generalize hX2:X1++wraps (optE (q.yk !=0) (129,fl))=X2 at ew
 have l2:X2.length≤300:=by rw [←hX2,L5]; omega
 have s3:(if(decide ((List.length q.ze:Int)>0))=true then((ug n 162 q.ze ⟨X2,0⟩).bind fun r29=>
   some (r29.f_b,r29.f_e))else(some (X2,(0:Int))))=some (X2++wraps (optE (!q.ze.isEmpty) (162,wraps (q.ze.map polE))),0):=by
  cases hp:q.ze with
  |nil=>rw [L3 O1]; simp [optE,wraps]
  | cons s r=>
   rw [L4 (by rw [L2,L7]; omega),←hp,show(162:Int)=((162:Nat):Int)from rfl,zdy (B:=252) O0 O0 O0 O0 O0 f7 b2 O0,L0,hp,show(!(s::r).isEmpty)=true from rfl,gX]
 dsimp only
 rw [s3,L0]
 generalize hX3:X2++wraps (optE (!q.ze.isEmpty) (162,wraps (q.ze.map polE)))=X3 at ew
 have l3:X3.length≤1000:=by rw [←hX3,L5]; omega
 dsimp only
 rw [show(131:Int)=((131:Nat):Int)from rfl,lE O0 O0 O0 O0,L0]
 generalize hX4:X3++wraps (optE q.wr (131,[255]))=X4 at ew
 have l4:X4.length≤1010:=by rw [←hX4,L5]; omega
 rw [show(132:Int)=((132:Nat):Int)from rfl,lE O0 O0 O0 O0,L0]
 generalize hX5:X4++wraps (optE q.xI (132,[255]))=X5 at ew
 have l5:X5.length≤1020:=by rw [←hX5,L5]; omega
 rw [show(133:Int)=((133:Nat):Int)from rfl,lE O0 O0 O0 O0,L0]
 generalize hX6:X5++wraps (optE q.jy (133,[255]))=X6 at ew
 have l6:X6.length≤1030:=by rw [←hX6,L5]; omega
 have s7:(if(decide ((List.length q.zw:Int)>0))=true then((qQ n q.zw).bind fun r40=>
   (yh n ([]:List UInt8) r40.2 ⟨X6,0⟩).bind fun r41=>(z6 n 166 r40.1 r41).bind fun r42=>some (r42.f_b,r42.f_e))else(some (X6,(0:Int))))=some (X6++wraps (optE (!q.zw.isEmpty) (166,wraps (q.zw.map vU))),0):=by
  cases hp:q.zw with
  |nil=>rw [L3 O1]; simp [optE,wraps]
  | cons s r=>
   rw [L4 (by rw [L2,L7]; omega),←hp,zb9 (B:=252) O0 O0 f8 b3 (by rw [hp]; simp) f5,L0,Qq (by simp only [Lj]; omega),L0,Lh,show(166:Int)=((166:Nat):Int)from rfl,ct O0 O0 O6 O0 O0,L0,hp,show(!(s::r).isEmpty)=true from rfl,gX]
 dsimp only
 rw [s7,L0]
 generalize hX7:X6++wraps (optE (!q.zw.isEmpty) (166,wraps (q.zw.map vU)))=X7 at ew
 have l7:X7.length≤80000:=by rw [←hX7,L5]; omega
 dsimp only
 rw [J9 (t:=2) (sm8 f3) O0 O0 O0 O0,L0]
 generalize hX8:X7++(tWrap 2 [o8 q.yj.toNat]).1=X8 at ew
 have l8:X8.length≤80010:=by rw [←hX8,L5]; omega
 rw [show(135:Int)=((135:Nat):Int)from rfl,lE O0 O0 O0 O0,L0]
 generalize hX9:X8++wraps (optE q.uA (135,[255]))=X9 at ew
 have l9:X9.length≤80020:=by rw [←hX9,L5]; omega
 cases hp:q.zf with
 | nil=>
  have e0:X9=wraps (contQ (g,c) fl q):=by rw [ew,hp]; simp [optE,wraps]
  have hx:¬(131072<(wraps (([]:List Anc).map ancE)).length∨131072<(wraps (contQ (g,c) fl q)).length):=by
   rw [←e0]; simp [wraps]; omega
  rw [L3 O1,JV O0 O0,L0,L3 O0,←e0,VQ,e0,L3 hx]
 | cons s r=>
  have e0:X9++(tWrap 168 (wraps (q.zf.map ancE))).1=wraps (contQ (g,c) fl q):=by
   rw [ew]
   rw [show(!q.zf.isEmpty)=true by rw [hp]; rfl,gX]
  have tl:=zU 168 (wraps (q.zf.map ancE))
  rw [L4 (by rw [L2,L7]; omega),←hp,show(168:Int)=((168:Nat):Int)from rfl,zaW (B:=252) O0 O0 f9 b4 O0 O0 O0 O0,L0,e0]
  unfold VQ
  by_cases hX:131072<(wraps (q.zf.map ancE)).length
  ·rw [L4 (.inl hX),show(tWrap 168 (wraps (q.zf.map ancE))).2=6 by unfold tWrap; rw [L3 O0],fe O1 (by rw [←e0,L5]; omega) O0,L0]
  ·rw [be O0]
   dsimp only
   rw [JV (by rw [←e0,L5]; omega) O0,L0]
   by_cases hW:131072<(wraps (contQ (g,c) fl q)).length
   ·rw [L4 hW,L4 (show(131072<(wraps (q.zf.map ancE)).length∨131072<(wraps (contQ (g,c) fl q)).length)from .inr hW)]
   ·rw [L3 hW,L3 (show ¬(131072<(wraps (q.zf.map ancE)).length∨131072<(wraps (contQ (g,c) fl q)).length)by omega)]
theorem zbf {n g:Nat} {c fl:Bs} {q:Qry} (hn:200000000≤n) (hf:QOk n q∧BdQ 252 q) (hv:jI n q=some 0) (hg:g=23∨g=24) (hc:c.length≤20) (ht:w7 n q.uB=some ((tWrap g c).1,0)) (hfl:fl.length≤4) (hu:vD n q.yk=some (fl,0)) (hbase:(base g c fl q).length≤80020):
    yp n q=some (VQ (wraps (q.zf.map ancE)) (wraps (contQ (g,c) fl q))):=by
  obtain⟨⟨f1,f2,f3,⟨f4,f5,f6⟩,f7,f8,f9⟩,⟨b1,b2,b3,b4⟩⟩:=hf
  have ew:wraps (contQ (g,c) fl q)=(tWrap g c).1++wraps (optE (!(q.zB== [])) (128,(polE q.zB).2))++wraps (optE (q.yk !=0) (129,fl))++wraps (optE (!q.ze.isEmpty) (162,wraps (q.ze.map polE)))++(wraps (optE q.wr (131,[255]))++wraps (optE q.xI (132,[255]))++wraps (optE q.jy (133,[255]))) ++
      wraps (optE (!q.zw.isEmpty) (166,wraps (q.zw.map vU)))++((tWrap 2 [o8 q.yj.toNat]).1++wraps (optE q.uA (135,[255])))++wraps (optE (!q.zf.isEmpty) (168,wraps (q.zf.map ancE))):=by
    unfold contQ q2 q3 q4 q5 q6 q7 q8 q9 q10 q11
    simp only [ji,Gw,Ln,numE]
    rw [show wraps []= []from rfl,Lh]
  have m5:=dD f9
  have hl2:=hbase
  unfold base at hl2
  simp only [L5]at hl2
  unfold yp
  rw [hv,L0,L3 O1,ht,L0]
  dsimp only
  generalize (tWrap g c).1=X0 at hl2 ew
  have s1:(if(!(q.zB==([]:List UInt8)))=true then((vp n q.zB).bind fun r9=>
     (zD n 128 ([r9.1]:List (List UInt8))).bind fun r10=>(jw X0 r10).bind fun x11=>some x11)else(some X0))=some (X0++wraps (optE (!(q.zB== [])) (128,(polE q.zB).2))):=by
    cases hb:(!(q.zB== []))with
    | true=>
      have hs:(y4 q.zB).isSome=true:=by
        rcases f1 with f1|f1
        · rw [f1]at hb; exact absurd hb O1
        · exact f1
      obtain⟨l,hl⟩:=Option.isSome_iff_exists.1 hs
      have hpe:(polE q.zB).2=qg l:=by unfold polE; rw [hl]; rfl
      have hlo:=gZ (bf hl)
      have hw:=zU 128 (qg l)
      rw [L4 rfl,UD O0 O0 hl,L0]
      dsimp only
      rw [show(128:Int)=((128:Nat):Int)from rfl,Xh O0 O0 O0 O0,L0,yo O0,L0,gX,hpe]
    |false=>rw [L3 O2,W3,Lh]
  rw [s1,L0]
  generalize hX1:X0++wraps (optE (!(q.zB== [])) (128,(polE q.zB).2))=X1 at ew
  have l1:X1.length≤131072:=by rw [←hX1,L5]; omega
  have s2:(if(q.yk !=0)=true then((vD n q.yk).bind fun r18=>
     (zD n 129 ([r18.1]:List (List UInt8))).bind fun r19=>(jw X1 r19).bind fun x20=>some x20)else(some X1))=some (X1++wraps (optE (q.yk !=0) (129,fl))):=by
    cases hb:(q.yk !=0)with
    | true=>
      have hw:=zU 129 fl
      rw [L4 rfl,hu,L0]
      dsimp only
      rw [show(129:Int)=((129:Nat):Int)from rfl,Xh O0 O0 O0 O0,L0,yo O0,L0,gX]
    |false=>rw [L3 O2,W3,Lh]
  rw [s2,L0]
  generalize hX2:X1++wraps (optE (q.yk !=0) (129,fl))=X2 at ew
  have l2:X2.length≤131072:=by rw [←hX2,L5,←hX1,L5]; omega
  have m3:=Zs f7
  have m3':(wraps (q.ze.map polE)).length≤1000:=O0
  have s3:(if(decide ((List.length q.ze:Int)>0))=true then((vb n q.ze).bind fun r27=>
     (zD n 162 ([r27]:List (List UInt8))).bind fun r28=>(jw X2 r28).bind fun x29=>some x29)else(some X2))=some (X2++wraps (optE (!q.ze.isEmpty) (162,wraps (q.ze.map polE)))):=by
    cases hp:q.ze with
    |nil=>rw [L3 O1]; simp [optE,wraps]
    | cons s r=>
      have e:=Bf (n:=n) (B:=252) O0 O0 q.ze O0 f7 b2 n 0 [] O0 O0 O3
      rw [show((0:Nat):Int)=0 from rfl,Lf,Lg]at e
      have hw:=zU 162 (wraps (q.ze.map polE))
      have eo:vb n q.ze=some (wraps (q.ze.map polE)):=by unfold vb; rw [e]; rfl
      rw [L4 (by rw [L2,L7]; omega),←hp,eo,L0,show(162:Int)=((162:Nat):Int)from rfl,Xh O0 O0 O0 O0,L0,yo O0,L0,hp,show(!(s::r).isEmpty)=true from rfl,gX]
  rw [s3,L0]
  generalize hX3:X2++wraps (optE (!q.ze.isEmpty) (162,wraps (q.ze.map polE)))=X3 at ew
  have l3:X3.length≤131072:=by rw [←hX3,L5,←hX2,L5,←hX1,L5]; omega
  have o1:=bK q.wr (131,[255])
  have o2:=bK q.xI (132,[255])
  have o3:=bK q.jy (133,[255])
  have o4:=bK q.uA (135,[255])
  simp only [L6]at o1 o2 o3 o4
  rw [show(131:Int)=((131:Nat):Int)from rfl,lI O0 O0 O0,L0,show(132:Int)=((132:Nat):Int)from rfl,lI O0 O0 O0,L0,yo O0,L0,show(133:Int)=((133:Nat):Int)from rfl,lI O0 O0 O0,L0,
    yo (by rw [L5]; omega),L0,yo (by simp only [L5]; omega),L0]
  generalize hX6:X3++(wraps (optE q.wr (131,[255]))++wraps (optE q.xI (132,[255]))++wraps (optE q.jy (133,[255])))=X6 at ew
  have l6:X6.length≤131090:=by rw [←hX6]; simp only [L5]; omega
  have m4:=VD (n:=n) (B:=252) O0 O0 f8 b3
  have m4':(wraps (q.zw.map vU)).length≤73440:=O0
  have m4w:=zU 166 (wraps (q.zw.map vU))
  have s7:(if(decide ((List.length q.zw:Int)>0))=true then((uq n q.zw).bind fun r43=>
     (yZ n 166 ([r43.1]:List (List UInt8))).bind fun r44=>
     if(r44.2 !=0)=true then(some (.ret (([]:List UInt8),(2:Int))))else((jw X6 r44.1).bind fun x45=>some (.nxt x45)))else(some (.nxt X6)))=some (.nxt (X6++wraps (optE (!q.zw.isEmpty) (166,wraps (q.zw.map vU)))):Ctl (List UInt8×Int) (List UInt8)):=by
    cases hp:q.zw with
    |nil=>rw [L3 O1]; simp [optE,wraps]
    | cons s r=>
      rw [L4 (by rw [L2,L7]; omega),←hp,zbi (B:=252) O0 O0 f8 b3 (by rw [hp]; simp) f5,L0]
      dsimp only
      rw [show(166:Int)=((166:Nat):Int)from rfl,Xc O0 O0 (by simp only [List.flatten_cons,List.flatten_nil,Lh]; omega) O3 O2,L0]
      simp only [List.flatten_cons,List.flatten_nil,Lh]
      rw [be O0]
      dsimp only
      rw [L3 (show ¬(((0:Int) !=0)=true)by decide),yo O0,L0,hp,show(!(s::r).isEmpty)=true from rfl,gX]
  rw [s7]
  simp only [z8]
  generalize hX7:X6++wraps (optE (!q.zw.isEmpty) (166,wraps (q.zw.map vU)))=X7 at ew
  have mno:=bK (!q.zw.isEmpty) (166,wraps (q.zw.map vU))
  have l7:X7.length≤300000:=by rw [←hX7,L5]; dsimp only at mno; omega
  have ml:=zU 2 [o8 q.yj.toNat]
  simp only [L6]at ml
  rw [mV (sm8 f3) O0,L0,show(135:Int)=((135:Nat):Int)from rfl,lI O0 O0 O0,L0,yo O0,L0,yo (by rw [L5]; omega),L0]
  generalize hX9:X7++((tWrap 2 [o8 q.yj.toNat]).1++wraps (optE q.uA (135,[255])))=X9 at ew
  have l9:X9.length≤80020:=by rw [←hX9,←hX7,←hX6,←hX3,←hX2,←hX1]; simp only [L5]; omega
  have hwr:∀X:Bs,X.length≤1000000→xC n X=some (if 131072<X.length then([],2)else((tWrap 48 X).1,0)):=by
    intro X hX
    unfold xC
    rw [show(48:Int)=((48:Nat):Int)from rfl,Xc O0 O0 (by simp only [List.flatten_cons,List.flatten_nil,Lh]; omega) O3 O2,L0]
    simp only [List.flatten_cons,List.flatten_nil,Lh]
    by_cases h:131072<X.length
    · rw [L4 h,show(tWrap 48 X).2=6 by unfold tWrap; rw [L3 O0],L4 O1]
    · rw [be O0,L3 (show ¬(((0:Int) !=0)=true)by decide),L3 h]
  cases hp:q.zf with
  | nil=>
    have e0:X9=wraps (contQ (g,c) fl q):=by rw [ew,hp]; simp [optE,wraps]
    have hx:¬(131072<(wraps (([]:List Anc).map ancE)).length∨131072<(wraps (contQ (g,c) fl q)).length):=by
      rw [←e0]; simp [wraps]; omega
    rw [L3 O1,hwr _ O0,L0,VQ,L3 hx,L3 O0,e0]
  | cons s r=>
    have e0:X9++(tWrap 168 (wraps (q.zf.map ancE))).1=wraps (contQ (g,c) fl q):=by
      rw [ew]
      rw [show(!q.zf.isEmpty)=true by rw [hp]; rfl,gX]
    have e:=GS (n:=n) (B:=252) q f9 b4 O0 O0 O0 n 0 [] O0 O0 O2
    rw [show((0:Nat):Int)=0 from rfl,Lf,Lg]at e
    have tl:=zU 168 (wraps (q.zf.map ancE))
    rw [L4 (by rw [L2,L7]; omega),←hp,e,L0,show(168:Int)=((168:Nat):Int)from rfl,Xc O0 O0 (by simp only [List.flatten_cons,List.flatten_nil,Lh]; omega) O3 O2,L0]
    simp only [List.flatten_cons,List.flatten_nil,Lh]
    unfold VQ
    by_cases hX:131072<(wraps (q.zf.map ancE)).length
    · rw [show(tWrap 168 (wraps (q.zf.map ancE))).2=6 by unfold tWrap; rw [L3 O0],L4 O1,L4 (show(131072<(wraps (q.zf.map ancE)).length∨131072<(wraps (contQ (g,c) fl q)).length)from .inl hX)]
    · have h168:(tWrap 168 (wraps (q.zf.map ancE))).2=0:=by rw [be O0]
      rw [h168,L3 O1,yo O0,L0,e0,hwr _ (by rw [←e0,L5]; omega),L0]
      by_cases hW:131072<(wraps (contQ (g,c) fl q)).length
      · rw [L4 hW,L4 (show(131072<(wraps (q.zf.map ancE)).length∨131072<(wraps (contQ (g,c) fl q)).length)from .inr hW)]
      · rw [L3 hW,L3 (show ¬(131072<(wraps (q.zf.map ancE)).length∨131072<(wraps (contQ (g,c) fl q)).length)by omega)]
structure QS2 (B:Nat) (q:Qry):Prop where
 b:B≤60000
 pu:q.zB.length≤B
 pl:∀s∈q.ze,s.length≤B
 nm:∀g∈q.zw,BdG B g
 is:∀a∈q.zf,BdN B a.zo.zg
theorem Gi {n B:Nat} {q:Qry} (hn:2000000≤n) (h:QS2 B q):∃e,vz n q=some e∧jI n q=some e:=by
 obtain⟨hB,hpu,hpl,hnm,his⟩:=h
 unfold vz jI
 rw [ifb,L0,L0]
 by_cases c0:(decide (q.uB<0)||decide (q.uB>254033452799))=true
 ·rw [L4 c0,L4 c0]; exact⟨_,rfl,rfl⟩
 rw [L3 c0,L3 c0,Y5 O0 O0,gU O0 O0]
 have hy:∃y,(if(!(q.zB==([]:List UInt8)))=true then((some (y4 q.zB).isSome).bind fun r12=>some (!r12))else(some false))=some y:=yn (fun _=>⟨_,rfl⟩) fun _=>⟨_,rfl⟩
 obtain⟨y,hy⟩:=hy
 rw [hy,L0,L0]
 cases y with
 |true=>rw [L4 rfl,L4 rfl]; exact⟨_,rfl,rfl⟩
 | false=>
  rw [L3 (show ¬(false=true)by decide),L3 (show ¬(false=true)by decide),tp,L0,L0]
  by_cases c1:(decide (q.yk<0)||(decide (q.yk>511)||(decide (q.yj<1)||decide (q.yj>8))))=true
  ·rw [L4 c1,L4 c1]; exact⟨_,rfl,rfl⟩
  rw [L3 c1,L3 c1,nO,L0,L0]
  by_cases c2:(decide ((List.length q.ze:Int)>8)||(decide ((List.length q.zw:Int)>16)||decide ((List.length q.zf:Int)>64)))=true
  ·rw [L4 c2,L4 c2]; exact⟨_,rfl,rfl⟩
  rw [L3 c2,L3 c2]
  have c2':=c2
  simp only [Bool.or_eq_true,L2,not_or]at c2'
  have hl1:q.ze.length≤1000:=O0
  have hl2:q.zw.length≤1000:=O0
  have hl3:q.zf.length≤1000:=O0
  have a1:=zaG (n:=n) (B:=B) O0 O0 q hpl hl1 n 0 [] O0 O0
  have a2:=zaw (n:=n) (B:=B) O0 O0 q hpl hl1 n 0 O0 O0
  have a3:=zao (n:=n) (B:=B) O0 hn q hnm hl2 n 0 O0 O0
  have a4:=zak (n:=n) (B:=B) O0 hn q hnm hl2 n 0 O0 O0
  have a5:=zal (n:=n) (B:=B) O0 O0 q his hl3 n 0 O0 O0
  have a6:=zau (n:=n) (B:=B) O0 O0 q his hl3 n 0 O0 O0
  obtain⟨o,ho,hr,_⟩:=cZ (n:=n) (a:=q.ze) O0 hl1 n 0 [] [] O0 O0 O2 ⟨rfl,O2,O2⟩
  rw [show((0:Nat):Int)=0 from rfl,Lf]at a1 a2 a3 a4 a5 a6
  rw [show((0:Nat):Int)=0 from rfl]at ho
  rw [Lf]at hr
  have hs:bG n q.ze=some o:=by unfold bG; rw [ho]; rfl
  rw [a1,a2,a3,a4,a5,a6,hs]
  have hfl:=sj q.ze []
  by_cases c3:q.ze.all isV=true
  ·rw [L4 c3,L4 c3]
   simp only [z8,L0]
   rw [hr.len]at *
   simp only [Lj,Nat.zero_add]at hfl
   by_cases c4:o.length<q.ze.length
   ·rw [L4 O4,L4 (by rw [bne_iff_ne]; omega)]; exact⟨_,rfl,rfl⟩
   ·rw [L3 O4,L3 (by rw [bne_iff_ne]; omega)]
    unfold fg
    by_cases c5:Yy ju q.zw=0
    ·rw [L4 c5]
     simp only []
     by_cases c6:Yy bo q.zf=0
     ·rw [L4 c6]; exact⟨_,rfl,rfl⟩
     ·rw [L3 c6]; exact⟨_,rfl,rfl⟩
    ·rw [L3 c5]; exact⟨_,rfl,rfl⟩
  ·rw [L3 c3,L3 c3]; exact⟨_,rfl,rfl⟩
theorem KD {n:Nat} {q:Qry} (hn:200000000≤n) (h:QS2 252 q):∃x,yg n q=some x∧yp n q=some x∧x.1.length≤131100 ∧
  (x.2=0→QOk n q∧BdQ 252 q∧∃(g:Nat) (c fl:Bs),(g=23∨g=24)∧c.length≤20∧fl.length≤4∧vW n q.uB=some ((tWrap g c).1,0)∧u9 n fl=some (q.yk,0)∧xe n fl=some (q.yk,0) ∧
   (wraps (q.zf.map ancE)).length≤131072∧(wraps (contQ (g,c) fl q)).length≤131072∧x.1=(tWrap 48 (wraps (contQ (g,c) fl q))).1):=by
 obtain⟨e,v1,v2⟩:=Gi (n:=n) O0 h
 by_cases c:e=0
 ·subst c
  have hb:BdQ 252 q:=⟨h.pu,h.pl,h.nm,h.is⟩
  obtain⟨hq,_⟩:=DY (B:=252) O0 O0 hb v1
  obtain⟨ht0,ht1⟩:=Pv v1
  obtain⟨g,tc,hg,hc,t1,t2⟩:=Gz (n:=n) O0 ht0 ht1
  obtain⟨fl,hfl,u1,u2,u3,u4⟩:=Pq (n:=n) O0 hq.2.1.1 hq.2.1.2
  obtain⟨e1,e2⟩:=rL hn ⟨hq,hb⟩ v1 hg hc t1 hfl u1
  refine⟨_,e1,zbf hn ⟨hq,hb⟩ v2 hg hc t2 hfl u2 e2, ?_,fun hx=>⟨hq,hb,g,tc,fl,hg,hc,hfl,t1,u3,u4, ?_⟩⟩
  ·unfold VQ
   split
   ·exact Nat.zero_le _
   ·have:=zU 48 (wraps (contQ (g,tc) fl q))
    show(tWrap 48 (wraps (contQ (g,tc) fl q))).1.length≤_
    omega
  unfold VQ at hx ⊢
  split at hx
  ·exact absurd hx O1
  ·rename_i hd
   rw [L3 hd]
   exact⟨O0,O0,rfl⟩
 ·refine ⟨([],e), ?_, ?_,Nat.zero_le _,fun hx=>absurd hx c⟩
  ·unfold yg
   rw [v1,L0,L4 (O9 c)]
  ·unfold yp
   rw [v2,L0,L4 (O9 c)]
theorem Wt {n M:Nat} {t:Int} {f:Bool} {l:List El} (h:Bd M l):∃e ok r f',yS n t ⟨l,f⟩=some (e,ok,⟨r,f'⟩)∧e.zc.length≤M∧Bd M r:=by
 unfold yS
 match l,h with
 | [],h=>exact⟨E0,false,[],f,rfl,by show([]:Bs).length≤M; simp,h⟩
 | x::r,h=>
  have k0:zV (x::r) 0=some x:=by simp [zV]
  dsimp only
  rw [L3 (by rw [beq_iff_eq,L7]; omega),k0,L0,L0]
  by_cases c:(x.zA !=t)=true
  ·rw [c,L4 rfl]; exact⟨E0,false,_,f,rfl,by show([]:Bs).length≤M; simp,h⟩
  ·rw [Bool.not_eq_true]at c
   rw [c,L3 O1]
   obtain⟨e,r',f',h1,h2,h3,_,_⟩:=WR (n:=n) (f:=f) h
   rw [h1,L0]
   exact⟨e,true,r',f',rfl,h2,h3⟩
theorem Uc {n M:Nat} {t:Int} {f:Bool} {l:List El} (h:Bd M l):∃b r f',vg n t ⟨l,f⟩=some (b,⟨r,f'⟩)∧Bd M r:=by
 unfold vg
 obtain⟨e,ok,r,f',h1,h2,h3⟩:=Wt (n:=n) (t:=t) (f:=f) h
 rw [h1,L0]
 dsimp only
 cases ok with
 |false=>exact⟨_,_,_,rfl,h3⟩
 | true=>
  rw [L3 O1]
  obtain ⟨x,y,hb⟩:∃x y,pH n e.zc=some (x,y):=by
   unfold pH
   by_cases c1:(e.zc==([0]:List UInt8))=true
   ·rw [L4 c1]; exact⟨_,_,rfl⟩
   rw [L3 c1]
   by_cases c2:(e.zc==([255]:List UInt8))=true
   ·rw [L4 c2]; exact⟨_,_,rfl⟩
   ·rw [L3 c2]; exact⟨_,_,rfl⟩
  rw [hb,L0,ZP,L0]
  exact⟨_,_,_,rfl,h3⟩
theorem BL {n M:Nat} {c:Bs} {l:List El} {f:Bool} (hM:M≤900000) (hn:200000000≤n) (hc:c.length≤M):∃an f',wU n c ⟨l,f⟩=some (an,⟨l,f'⟩)∧BdL 252 an:=by
 unfold wU v6
 have hT:=wg c (M:=M) hc
 have hl:=hT.1
 rw [kW O0 O0,L0,L0]
 dsimp only
 obtain⟨an,f',fi',h1,h2⟩:=Qk hM hn l n [] f (tList c).1 ((tList c).2 !=0) hT.2 O0 O3 (by intro a ha; simp at ha)
 rw [h1,L0,ifb,L0]
 exact⟨an,_,rfl,h2⟩
theorem fU {n M:Nat} {l:List El} {f:Bool} (hM:M≤900000) (hn:200000000≤n) (h:Bd M l):∃q r,jn n ⟨l,f⟩=some (q,r)∧QS2 252 q∧∀e0 L,l=e0::L→∃z,yE n e0.zA e0.zc=some (q.uB,z):=by
 unfold jn
 obtain⟨hD,hO,hBk⟩:=DL (n:=n) (M:=M) hM hn
 obtain⟨e1,l1,f1,k1,c1,d1,_,_⟩:=WR (n:=n) (f:=f) h
 obtain⟨tm,k2,_⟩:=JQ (n:=n) (g:=e1.zA) (c:=e1.zc) O0 O0
 have h0:∀e0 L,l=e0::L→∃z,yE n e0.zA e0.zc=some (tm.1,z):=by
  intro e0 L hL
  subst hL
  rw [XR]at k1
  injection k1 with k1; injection k1 with k1 _
  subst k1
  exact⟨tm.2,k2⟩
 rw [k1,L0]; dsimp only
 rw [k2,L0,ZP,L0]; dsimp only
 obtain⟨e2,o2,l2,f2,k3,c2,d2⟩:=Wt (n:=n) (t:=128) (f:=f1||tm.2 !=0) d1
 rw [k3,L0]; dsimp only
 obtain ⟨l3,f3,pu,k4,d3,hpu⟩:∃l3 f3 pu,(if o2=true then((yq n e2.zc).bind fun r12=>(zL n r12.2 ⟨l2,f2⟩).bind fun r13=>some (r13.f_l,r13.z7,r12.1))else(some (l2,f2,([]:List UInt8))))=some (l3,f3,pu)∧Bd M l3∧pu.length≤252:=by
  cases o2 with
  |false=>exact⟨_,_,_,rfl,d2,O2⟩
  | true=>
   obtain⟨s,e,h1,h2⟩:=Ju (n:=n) (b:=e2.zc) O0 O0
   rw [L4 rfl,h1,L0,ZP,L0]; exact⟨_,_,_,rfl,d2,h2⟩
 rw [k4,L0]; dsimp only
 obtain⟨e4,o4,l4,f4,k5,c4,d4⟩:=Wt (n:=n) (t:=129) (f:=f3) d3
 rw [k5,L0]; dsimp only
 obtain ⟨l5,f5,us,k6,d5⟩:∃l5 f5 us,(if o4=true then((u9 n e4.zc).bind fun r22=>(zL n r22.2 ⟨l4,f4⟩).bind fun r23=>some (r23.f_l,r23.z7,r22.1))else(some (l4,f4,0)))=some (l5,f5,us)∧Bd M l5:=by
  cases o4 with
  |false=>exact⟨_,_,_,rfl,d4⟩
  | true=>
   obtain⟨x,e,h1⟩:=oh (n:=n) (c:=e4.zc) O0 O0
   rw [L4 rfl,h1,L0,ZP,L0]; exact⟨_,_,_,rfl,d4⟩
 rw [k6,L0]; dsimp only
 obtain⟨e6,o6,l6,f6,k7,c6,d6⟩:=Wt (n:=n) (t:=162) (f:=f5) d5
 rw [k7,L0]; dsimp only
 obtain ⟨l7,f7,ps,k8,d7,hps⟩:∃l7 f7 ps,(if o6=true then((vi n e6.zc ⟨l6,f6⟩).bind fun r31=>some (r31.2.f_l,r31.2.z7,r31.1))else(some (l6,f6,([]:List (List UInt8)))))=some (l7,f7,ps)∧Bd M l7∧∀s∈ps,s.length≤252:=by
  cases o6 with
  |false=>exact⟨_,_,_,rfl,d6,O2⟩
  | true=>
   obtain⟨ps,f',h1,_,h2⟩:=VE (n:=n) (M:=M) (c:=e6.zc) (l:=l6) (f:=f6) O0 O0 c6
   rw [L4 rfl,h1,L0]; exact⟨_,_,_,rfl,d6,h2⟩
 rw [k8,L0]; dsimp only
 obtain⟨x1,l8,f8,k9,d8⟩:=Uc (n:=n) (t:=131) (f:=f7) d7
 rw [k9,L0]; dsimp only
 obtain⟨x2,l9,f9,k10,d9⟩:=Uc (n:=n) (t:=132) (f:=f8) d8
 rw [k10,L0]; dsimp only
 obtain⟨x3,l10,f10,k11,d10⟩:=Uc (n:=n) (t:=133) (f:=f9) d9
 rw [k11,L0]; dsimp only
 obtain⟨e11,o11,l11,f11,k12,c11,d11⟩:=Wt (n:=n) (t:=166) (f:=f10) d10
 rw [k12,L0]; dsimp only
 obtain ⟨l12,f12,nm,k13,d12,hnm⟩:∃l12 f12 nm,(if o11=true then((uh n e11.zc).bind fun r43=>(zL n r43.2 ⟨l11,f11⟩).bind fun r44=>some (r44.f_l,r44.z7,r43.1))else(some (l11,f11,([]:List zd))))=some (l12,f12,nm)∧Bd M l12∧∀g∈nm,BdG 252 g:=by
  cases o11 with
  |false=>exact⟨_,_,_,rfl,d11,O2⟩
  | true=>
   rw [L4 rfl,zcE hD hO hM O0 c11,L0,ZP,L0]
   refine⟨_,_,_,rfl,d11,fun g hg=> ?_⟩
   obtain⟨g1,g2⟩:=KJ.2 g hg
   exact⟨by have:=mA g1; omega,g2⟩
 rw [k13,L0]; dsimp only
 obtain⟨x4,l13,f13,k14,d13,_⟩:=Yf (n:=n) (t:=2) (f:=f12) O0 d12
 rw [k14,L0]; dsimp only
 obtain⟨x5,l14,f14,k15,d14⟩:=Uc (n:=n) (t:=135) (f:=f13) d13
 rw [k15,L0]; dsimp only
 obtain⟨e15,o15,l15,f15,k16,c15,d15⟩:=Wt (n:=n) (t:=168) (f:=f14) d14
 rw [k16,L0]; dsimp only
 cases o15 with
 |false=>exact⟨_,_,rfl,⟨O0,hpu,hps,hnm,by intro a ha; simp at ha⟩,h0⟩
 | true=>
  obtain⟨an,f',h1,h2⟩:=BL (n:=n) (l:=l15) (f:=f15) hM hn c15
  rw [L4 rfl,h1,L0]
  exact⟨_,_,rfl,⟨O0,hpu,hps,hnm,h2⟩,h0⟩
theorem ta {n:Nat} {D:Dt} {r:Int×Int} (h:uG n D=some r) (h2:r.2≠0):r.1=0:=by
 unfold uG at h
 obtain⟨y3,_,h⟩:=Option.bind_eq_some_iff.1 h
 cases y3 with
 |true=>injection h with h; rw [←h]
 | false=>
  rw [L3 O1]at h
  obtain⟨y5,_,h⟩:=Option.bind_eq_some_iff.1 h
  cases y5 with
  |true=>injection h with h; rw [←h]
  | false=>
   rw [L3 O1]at h
   obtain⟨a,_,h⟩:=Option.bind_eq_some_iff.1 h
   obtain⟨b,_,h⟩:=Option.bind_eq_some_iff.1 h
   injection h with h
   rw [←h]at h2
   exact absurd rfl h2
theorem tK {n:Nat} {g:Int} {c:Bs} {r:Int×Int} (h:yE n g c=some r) (h2:r.2≠0):r.1=0:=by
 unfold yE at h
 obtain⟨o,ho,hr,h⟩:=tJ h
 cases o with
 | ret z=>
  have:=hr z rfl
  injection this with this
  subst this
  by_cases c1:(g==23)=true
  ·rw [L4 c1]at ho; injection ho with ho; cases ho
  rw [L3 c1]at ho
  by_cases c2:(g==24)=true
  ·rw [L4 c2]at ho; injection ho with ho; cases ho
  rw [L3 c2]at ho
  injection ho with ho; injection ho with ho; rw [←ho]
 | nxt y=>
  have h:=h y rfl
  obtain⟨y7,_,h⟩:=Option.bind_eq_some_iff.1 h
  cases y7 with
  |true=>injection h with h; rw [←h]
  | false=>
   rw [L3 O1]at h
   obtain⟨x8,_,h⟩:=Option.bind_eq_some_iff.1 h
   obtain⟨r9,_,h⟩:=Option.bind_eq_some_iff.1 h
   obtain⟨o,ho,hr,h⟩:=tJ h
   cases o with
   | ret z=>
    have:=hr z rfl
    injection this with this
    subst this
    obtain⟨y23,_,ho⟩:=Option.bind_eq_some_iff.1 ho
    cases y23 with
    |true=>injection ho with ho; injection ho with ho; rw [←ho]
    | false=>
     rw [L3 O1]at ho
     obtain⟨y25,_,ho⟩:=Option.bind_eq_some_iff.1 ho
     cases y25 with
     |true=>injection ho with ho; cases ho
     | false=>
      rw [L3 O1]at ho
      split at ho<;>(injection ho with ho; cases ho)
   | nxt w=>
    have h:=h w rfl
    obtain⟨_,_,h⟩:=Option.bind_eq_some_iff.1 h
    obtain⟨_,_,h⟩:=Option.bind_eq_some_iff.1 h
    obtain⟨r28,h28,h⟩:=Option.bind_eq_some_iff.1 h
    injection h with h
    rw [←h]at h2 ⊢
    exact ta h28 h2
theorem nc {n g:Nat} {c:Bs} {t z:Int} (hn:10000≤n) (hg:g=23∨g=24) (hc:c.length≤20) (he:vW n t=some ((tWrap g c).1,0)) (hd:yE n (g:Int) c=some (t,z)):yE n (g:Int) c=some (t,0)∧zN n (g:Int) c=some (t,0):=by
 have hz:z=0:=by
  by_cases h:z=0
  ·exact h
  ·have ht:t=0:=tK hd h
   obtain⟨g',c',hg',hc',e1,e2⟩:=t8 (n:=n) O0 (t:=0) O1
   rw [ht,e1]at he
   injection he with he; injection he with he _
   have hw:=congrArg va he
   rw [pZ (by rcases hg' with h|h<;>omega) (by rcases hg' with h|h<;>omega) O0,pZ (by rcases hg with h|h<;>omega) (by rcases hg with h|h<;>omega) O0]at hw
   injection hw with hw _
   injection hw with h1 h2 _
   have hgg:g'=g:=O0
   subst hgg h2
   rw [e2,ht]at hd
   injection hd with hd; injection hd with _ hd
   exact hd.symm
 subst hz
 obtain⟨r,h1,h2⟩:=JQ (n:=n) (g:=(g:Int)) (c:=c) O0 O0
 rw [hd]at h1
 injection h1 with h1
 rw [←h1]at h2
 exact⟨hd,h2⟩
theorem nl {n M:Nat} {t:Int} {l:List El} {i:Nat} {bad:Bool} (hM:M≤1000000) (hb:Bd M l) (hi:i≤l.length):∃e ok j bad',zO n t ⟨l,(i:Int),bad⟩=some (e,ok,⟨l,((j:Nat):Int),bad'⟩)∧e.zc.length≤M∧j≤l.length:=by
 have hl:=hb.1
 unfold zO
 dsimp only
 cases bad with
 |true=>exact⟨E0,false,i,true,rfl,by show([]:Bs).length≤M; simp,hi⟩
 | false=>
  rw [L3 (show ¬(false=true)by decide)]
  by_cases hc:i<l.length
  ·rw [L3 O4,zE hc,L0,L0]
   by_cases c:(l[i].zA !=t)=true
   ·rw [c,L4 rfl]; exact⟨E0,false,i,false,rfl,by show([]:Bs).length≤M; simp,hi⟩
   ·rw [Bool.not_eq_true]at c
    rw [c,L3 O1,w1 O0,yv O0,show((i+1:Nat):Int)-1=(i:Int)by omega,zE hc]
    exact⟨_,true,i+1,false,rfl,hb.2 _ (Li hc),O0⟩
  ·rw [L4 O4]
   exact⟨E0,false,i,false,rfl,by show([]:Bs).length≤M; simp,hi⟩
theorem mG {n M:Nat} {t:Int} {l:List El} {i:Nat} {bad:Bool} (hM:M≤1000000) (hb:Bd M l) (hi:i≤l.length):∃x j bad',yL n t ⟨l,(i:Int),bad⟩=some (x,⟨l,((j:Nat):Int),bad'⟩)∧j≤l.length:=by
 obtain⟨e,ok,j,bad',h1,_,h2⟩:=nl (n:=n) (t:=t) (bad:=bad) hM hb hi
 unfold yL
 rw [h1]; exact⟨_,_,_,rfl,h2⟩
theorem Pz {n M:Nat} (hn:42*M+100≤n) (hM:M≤1000000) (el:List za×Int) (hb:Bd M el.1):∀(k i:Nat) (ps:List Bs) (bad:Bool),i≤el.1.length→el.1.length-i<k→ps.length+(el.1.length-i)≤M→(∀s∈ps,s.length≤252) →
  ∃ps' bad',zZ n el k ps (i:Int) bad=some (ps',bad')∧∀s∈ps',s.length≤252
 |0,_,_,_,_,h,_,_=>O0
 | k + 1,i,ps,bad,hi,hk,h1,h2=>by
  have hl:=hb.1
  rw [zZ]
  by_cases hc:i<el.1.length
  ·have hcl:=hb.2 _ (Li hc)
   obtain⟨s,x,hs,hsl⟩:=W7 (n:=n) (b:=el.1[i].zc) O0 O0
   rw [L4 O4,zE hc,L0,hs,L0,ifb,L0,yU (by rw [L6]; omega),L0,w1 O0]
   exact Pz hn hM el hb k (i+1) _ _ O0 O0 (by rw [L5,L6]; omega) (by
    intro y hy; rcases Ll.1 hy with hy|hy
    ·exact h2 y hy
    ·rw [Lk]at hy; subst hy; exact hsl)
  ·rw [L3 O4]
   exact⟨_,_,rfl,h2⟩
theorem zcc {n M:Nat} {e:El} {l:List El} {i:Int} {bad:Bool} (hn:42*M+100≤n) (hM:M≤1000000) (hc:e.zc.length≤M):∃ps bad',z1 n e ⟨l,i,bad⟩=some (ps,⟨l,i,bad'⟩)∧∀s∈ps,s.length≤252:=by
 unfold z1
 rw [Yi O0 O0,L0,ifb,L0]
 have hb:=wg e.zc hc
 have hl:=hb.1
 obtain⟨ps,bad',h1,h3⟩:=Pz (n:=n) hn hM (tList e.zc) hb n 0 [] (bad||((tList e.zc).2 !=0)) O0 O0 O3 O2
 rw [show((0:Nat):Int)=0 from rfl]at h1
 dsimp only
 rw [h1]
 exact⟨_,_,rfl,h3⟩
def Q0:Qry:=⟨0,[],0,[],false,false,false,[],0,false,[]⟩
theorem sX {n M:Nat} {b:Bs} {x:El} (hM:M≤900000) (hn:200000000≤n) (hw:xg n b=some (x,0)) (hx:x.zc.length≤M):∃q bad y,QS2 252 q∧yp n q=some y ∧
  yK n b=some (if(bad||(y.2 !=0|| !(y.1==b)))=true then(Q0,7)else(q,0))∧∀e0 L,(tList x.zc).1=e0::L→∃z,zN n e0.zA e0.zc=some (q.uB,z):=by
 unfold yK
 rw [hw,L0]
 dsimp only
 rw [L3 O1,K9 O0 O0,L0]
 dsimp only
 have hT:=wg x.zc (M:=M) hx
 generalize ((x.zA !=48)||((tList x.zc).2 !=0))=f0
 generalize (tList x.zc).1=l at hT
 have hl:=hT.1
 obtain⟨hD,hO,hBk⟩:=De (n:=n) (M:=M) hM hn
 obtain ⟨a1,f1,tm,k1,ha1,h0⟩:∃(a1:Nat) (f1:Bool) (tm:Int),(if(decide ((List.length l:Int)>0))=true then((zV l 0).bind fun x13=>(zV l 0).bind fun x14=>(zN n x13.zA x14.zc).bind fun r15=>
   (if f0=true then(some true)else(some (r15.2 !=0))).bind fun y17=>some ((1:Int),y17,r15.1))else(some ((0:Int),f0,(0:Int))))=some ((a1:Int),f1,tm)∧a1≤l.length∧∀e0 L,l=e0::L→∃z,zN n e0.zA e0.zc=some (tm,z):=by
  match l,hT with
  | [],_=>exact⟨0,f0,0,rfl,O2,fun e0 L h=>by cases h⟩
  | e::r,hT=>
   have k0:zV (e::r) 0=some e:=by simp [zV]
   have hc:=hT.2 e O2
   obtain⟨v,_,hv⟩:=JQ (n:=n) (g:=e.zA) (c:=e.zc) O0 O0
   rw [L4 (by rw [L2,L7]; omega),k0,L0,L0,hv,L0,ifb,L0]
   exact⟨1,_,v.1,rfl,O2,fun e0 L h=>by injection h with h _; subst h; exact⟨v.2,hv⟩⟩
 rw [k1,L0]; dsimp only
 obtain⟨e2,o2,a2,f2,k2,c2,ha2⟩:=nl (n:=n) (t:=128) (bad:=f1) O0 hT ha1
 rw [k2,L0]; dsimp only
 obtain ⟨f3,pu,k3,hpu⟩:∃f3 pu,(if o2=true then((zx n e2.zc).bind fun r26=>(if f2=true then(some true)else(some (r26.2 !=0))).bind fun y28=>some (y28,r26.1))else(some (f2,([]:List UInt8))))=some (f3,pu)∧pu.length≤252:=by
  cases o2 with
  |false=>exact⟨_,_,rfl,O2⟩
  | true=>
   obtain⟨s,e,h1,h2⟩:=W7 (n:=n) (b:=e2.zc) O0 O0
   rw [L4 rfl,h1,L0,ifb,L0]; exact⟨_,_,rfl,h2⟩
 rw [k3,L0]; dsimp only
 obtain⟨e4,o4,a4,f4,k4,c4,ha4⟩:=nl (n:=n) (t:=129) (bad:=f3) O0 hT ha2
 rw [k4,L0]; dsimp only
 obtain ⟨f5,us,k5⟩:∃f5 us,(if o4=true then((xe n e4.zc).bind fun r37=>(if f4=true then(some true)else(some (r37.2 !=0))).bind fun y39=>some (y39,r37.1))else(some (f4,0)))=some (f5,us):=by
  cases o4 with
  |false=>exact⟨_,_,rfl⟩
  | true=>
   obtain⟨s,e,h1⟩:=od (n:=n) (c:=e4.zc) O0 O0
   rw [L4 rfl,h1,L0,ifb,L0]; exact⟨_,_,rfl⟩
 rw [k5,L0]; dsimp only
 obtain⟨e6,o6,a6,f6,k6,c6,ha6⟩:=nl (n:=n) (t:=162) (bad:=f5) O0 hT ha4
 rw [k6,L0]; dsimp only
 obtain ⟨f7,ps,k7,hps⟩:∃f7 ps,(if o6=true then((z1 n e6 ⟨l,(a6:Int),f6⟩).bind fun r48=>some (r48.2.f_l,r48.2.bI,r48.2.jP,r48.1))else(some (l,(a6:Int),f6,([]:List (List UInt8)))))=some (l,(a6:Int),f7,ps)∧∀s∈ps,s.length≤252:=by
  cases o6 with
  |false=>exact⟨_,_,rfl,O2⟩
  | true=>
   obtain⟨ps,bd,h1,h2⟩:=zcc (n:=n) (M:=M) (e:=e6) (l:=l) (i:=(a6:Int)) (bad:=f6) O0 O0 c6
   rw [L4 rfl,h1,L0]; exact⟨_,_,rfl,h2⟩
 rw [k7,L0]; dsimp only
 obtain⟨x1,a8,f8,k8,ha8⟩:=mG (n:=n) (t:=131) (bad:=f7) O0 hT ha6
 rw [k8,L0]; dsimp only
 obtain⟨x2,a9,f9,k9,ha9⟩:=mG (n:=n) (t:=132) (bad:=f8) O0 hT ha8
 rw [k9,L0]; dsimp only
 obtain⟨x3,a10,f10,k10,ha10⟩:=mG (n:=n) (t:=133) (bad:=f9) O0 hT ha9
 rw [k10,L0]; dsimp only
 obtain⟨e11,o11,a11,f11,k11,c11,ha11⟩:=nl (n:=n) (t:=166) (bad:=f10) O0 hT ha10
 rw [k11,L0]; dsimp only
 obtain ⟨f12,nm,k12,hnm⟩:∃f12 nm,(if o11=true then((w6 n e11.zc).bind fun r60=>(if f11=true then(some true)else(some (r60.2 !=0))).bind fun y62=>some (y62,r60.1))else(some (f11,([]:List zd))))=some (f12,nm)∧∀g∈nm,BdG 252 g:=by
  cases o11 with
  |false=>exact⟨_,_,rfl,O2⟩
  | true=>
   rw [L4 rfl,zaD hD hO hM O0 c11,L0,ifb,L0]
   refine⟨_,_,rfl,fun g hg=> ?_⟩
   obtain⟨g1,g2⟩:=KJ.2 g hg
   exact⟨by have:=mA g1; omega,g2⟩
 rw [k12,L0]; dsimp only
 obtain⟨x4,a13,f13,k13,ha13⟩:=WL (n:=n) (t:=2) (bad:=f12) O0 O0 hT ha11
 rw [k13,L0]; dsimp only
 obtain⟨x5,a14,f14,k14,ha14⟩:=mG (n:=n) (t:=135) (bad:=f13) O0 hT ha13
 rw [k14,L0]; dsimp only
 obtain⟨e15,o15,a15,f15,k15,c15,ha15⟩:=nl (n:=n) (t:=168) (bad:=f14) O0 hT ha14
 rw [k15,L0]; dsimp only
 obtain ⟨f16,an,k16,han⟩:∃f16 an,(if o15=true then((xL n e15.zc).bind fun r76=>(if f15=true then(some true)else(some (r76.2 !=0))).bind fun y78=>(yH n r76.1 ⟨l,(a15:Int),y78⟩).bind fun r79=>
   some (r79.2.f_l,r79.2.bI,r79.2.jP,r79.1))else(some (l,(a15:Int),f15,([]:List zj))))=some (l,(a15:Int),f16,an)∧BdL 252 an:=by
  cases o15 with
  |false=>exact⟨_,_,rfl,by intro a ha; simp at ha⟩
  | true=>
   have hA:=wg e15.zc (M:=M) c15
   obtain⟨an,bd,h1,h2⟩:=Qj hM hn (tList e15.zc).1 hA n 0 [] (f15||(tList e15.zc).2 !=0) O0 (by have:=hA.1; omega) O2 (by intro a ha; simp at ha)
   rw [show((0:Nat):Int)=0 from rfl]at h1
   rw [L4 rfl,Yi O0 O0,L0,ifb,L0]
   unfold yH
   dsimp only
   rw [h1]; exact⟨_,_,rfl,h2⟩
 rw [k16,L0]; dsimp only
 have hq:QS2 252 (⟨tm,pu,us,ps,x1,x2,x3,nm,x4,x5,an⟩:Qry):=⟨O0,hpu,hps,hnm,han⟩
 obtain⟨y,_,hy,_⟩:=KD hn hq
 refine⟨_,f16,y,hq,hy, ?_,h0⟩
 rw [hy,L0,nO,L0]
 by_cases c:(f16||(y.2 !=0|| !(y.1==b)))=true
 ·rw [L4 c,L4 c]; rfl
 ·rw [L3 c,L3 c]
theorem GE {n:Nat} {q:Qry} (hn:200000000≤n) (h:QOk n q∧BdQ 252 q):QOk n (kJ q)∧BdQ 252 (kJ q):=by
 obtain⟨⟨f1,f2,f3,⟨f4,f5,f6⟩,f7,f8,f9⟩,⟨b1,b2,b3,b4⟩⟩:=h
 refine⟨⟨f1,f2,f3,⟨f4,by show(q.zw.map dn).length≤_; rw [L8]; exact f5,by show(q.zf.map dZ).length≤_; rw [L8]; exact f6⟩,f7, ?_, ?_⟩,⟨b1,b2, ?_, ?_⟩⟩
 ·intro g hg
  obtain⟨x,hx,rfl⟩:=Le.1 (show g∈q.zw.map dn from hg)
  exact Qc (f8 x hx) (b3 x hx).2 O0 O0
 ·intro g hg
  obtain⟨x,hx,rfl⟩:=Le.1 (show g∈q.zf.map dZ from hg)
  exact QU (f9 x hx)
 ·intro g hg
  obtain⟨x,hx,rfl⟩:=Le.1 (show g∈q.zw.map dn from hg)
  exact⟨(b3 x hx).1,KT (b3 x hx).2⟩
 ·intro g hg
  obtain⟨x,hx,rfl⟩:=Le.1 (show g∈q.zf.map dZ from hg)
  exact KT (b4 x hx)
theorem oH {n g:Nat} {c fl:Bs} {q:Qry} (hn:200000000≤n) (hf:QOk n q∧BdQ 252 q) (hg:g=23∨g=24) (hc:c.length≤20) (hfl:fl.length≤4) (hX:(wraps (q.zf.map ancE)).length≤131072):∀p∈contQ (g,c) fl q,POk p∧Wf 6 p:=by
 obtain⟨⟨f1,f2,f3,⟨f4,f5,f6⟩,f7,f8,f9⟩,⟨b1,b2,b3,b4⟩⟩:=hf
 have m3:=Zs f7
 have m4:=VD O0 O0 f8 b3
 have m4':(252+4338)*q.zw.length≤73440:=O0
 have m5:=dD f9
 unfold contQ q2 q3 q4 q5 q6 q7 q8 q9 q10 q11
 refine all_cons (by rcases hg with rfl|rfl<;>exact VY O0 O0 O0 O0)<|YQ (fun h=> ?_)<|YQ (fun _=>VY O0 O0 O0 O0)<|YQ (fun _=> ?_)<|YQ (fun _=>VY O0 O0 O0 O2) <|
  YQ (fun _=>VY O0 O0 O0 O2)<|YQ (fun _=>VY O0 O0 O0 O2)<|YQ (fun _=> ?_)<|all_cons (VY O0 O0 O0 O2)<|YQ (fun _=>VY O0 O0 O0 O2)<|YQ (fun _=> ?_) O2
 ·have hs:(y4 q.zB).isSome=true:=by
   rcases f1 with f1|f1
   ·rw [f1]at h; exact absurd h O1
   ·exact f1
  have:=cw _ hs
  exact VY O0 O0 O0 O0
 ·refine⟨⟨by dsimp only; decide,by dsimp only; decide,O6⟩,(Wf.node (t:=162) (k:=1) (l:=q.ze.map polE) fun x hx=> ?_).mono O0⟩
  obtain⟨s,hs,rfl⟩:=Le.1 hx
  exact⟨KB (Ld.1 f7 s hs),Wf.leaf (t:=6) O1⟩
 ·refine⟨⟨by dsimp only; decide,by dsimp only; decide,O6⟩,Wf.node (t:=166) (k:=5) (l:=q.zw.map vU) fun x hx=> ?_⟩
  obtain⟨s,hs,rfl⟩:=Le.1 hx
  obtain⟨a1,_,a3⟩:=XS (B:=252) (f8 s hs) (b3 s hs) O0 O0
  exact⟨a1,a3⟩
 ·refine⟨⟨by dsimp only; decide,by dsimp only; decide,O6⟩,Wf.node (t:=168) (k:=5) (l:=q.zf.map ancE) fun x hx=> ?_⟩
  obtain⟨s,hs,rfl⟩:=Le.1 hx
  exact⟨Uh (f9 s hs),zaM (f9 s hs)⟩
theorem Uv {n:Nat} {l0:List El} {l:List Anc} (hn:200000000≤n) (ho:∀a∈l,Zf a) (hl:l.length≤64):wU n (wraps (l.map ancE)) ⟨l0,false⟩=some (l.map dZ,⟨l0,false⟩):=by
 have hw:=dD ho
 have hp:∀p∈l.map ancE,POk p:=by
  intro p hp; obtain⟨a,ha,rfl⟩:=Le.1 hp; exact Uh (ho a ha)
 unfold wU v6
 rw [kW O0 O0,yV hp,L0,L0]
 dsimp only
 have h:=U4 (M:=0) (n:=n) hn l0 n l [] ho O0 (by simp only [Lj]; omega)
 rw [show((0:Int) !=0)=false from rfl,h,L0]
 rfl
theorem zbq {n g:Nat} {c fl:Bs} {q:Qry} (hn:200000000≤n) (hf:QOk n q∧BdQ 252 q) (hg:g=23∨g=24) (hd:yE n (g:Int) c=some (q.uB,0)) (hu:u9 n fl=some (q.yk,0)):
  jn n ⟨(contQ (g,c) fl q).map elm,false⟩=some (kJ q,⟨[],false⟩):=by
 obtain⟨⟨f1,f2,f3,⟨f4,f5,f6⟩,f7,f8,f9⟩,⟨b1,b2,b3,b4⟩⟩:=hf
 have m3:=Zs f7
 have m4:=VD O0 O0 f8 b3
 have m4':(252+4338)*q.zw.length≤73440:=O0
 unfold jn
 rw [show(contQ (g,c) fl q).map elm=elm (g,c)::(q2 fl q).map elm from rfl,XR,L0]
 dsimp only
 rw [show(elm (g,c)).zA=(g:Int)from rfl,show(elm (g,c)).zc=c from rfl,hd,L0,ZP,L0]
 rw [show(false||((q.uB,(0:Int)).2 !=0))=false from rfl,show(128:Int)=((128:Nat):Int)from rfl]
 unfold q2
 rw [nX (by rfl) (n3 O1),L0]
 have s1:(if(!(q.zB== []))=true then((yq n (if(!(q.zB== []))=true then elm (128,(polE q.zB).2)else E0).zc).bind fun r12=>
   (zL n r12.2 ⟨(q3 fl q).map elm,false⟩).bind fun r13=>some (r13.f_l,r13.z7,r12.1))else(some ((q3 fl q).map elm,false,([]:List UInt8))))=some ((q3 fl q).map elm,false,q.zB):=by
  cases hb:(!(q.zB== []))with
  | true=>
   have hs:(y4 q.zB).isSome=true:=by
    rcases f1 with f1|f1
    ·rw [f1]at hb; exact absurd hb O1
    ·exact f1
   obtain⟨l,hl⟩:=Option.isSome_iff_exists.1 hs
   have hpe:(polE q.zB).2=qg l:=by unfold polE; rw [hl]; rfl
   rw [L4 rfl,L4 rfl,show(elm (128,(polE q.zB).2)).zc=(polE q.zB).2 from rfl,hpe,YA hl O0,L0,ZP,L0]
   rfl
  | false=>
   have:q.zB= []:=by simpa using hb
   rw [L3 O2,this]
 dsimp only at s1 ⊢
 rw [s1,L0]
 dsimp only
 rw [show(129:Int)=((129:Nat):Int)from rfl]
 unfold q3
 rw [nX (by rfl) (n4 O1),L0]
 have s2:(if(q.yk !=0)=true then((u9 n (if(q.yk !=0)=true then elm (129,fl)else E0).zc).bind fun r22=>
   (zL n r22.2 ⟨(q4 q).map elm,false⟩).bind fun r23=>some (r23.f_l,r23.z7,r22.1))else(some ((q4 q).map elm,false,(0:Int))))=some ((q4 q).map elm,false,q.yk):=by
  cases hb:(q.yk !=0)with
  | true=>
   rw [L4 rfl,L4 rfl,show(elm (129,fl)).zc=fl from rfl,hu,L0,ZP,L0]
   rfl
  | false=>
   have:q.yk=0:=by simpa using hb
   rw [L3 O2,this]
 dsimp only at s2 ⊢
 rw [s2,L0]
 dsimp only
 rw [show(162:Int)=((162:Nat):Int)from rfl]
 unfold q4
 rw [nX (by rfl) (n5 O1),L0]
 have s3:(if(!q.ze.isEmpty)=true then((vi n (if(!q.ze.isEmpty)=true then elm (162,wraps (q.ze.map polE))else E0).zc ⟨(q5 q).map elm,false⟩).bind fun r31=>
   some (r31.2.f_l,r31.2.z7,r31.1))else(some ((q5 q).map elm,false,([]:List (List UInt8)))))=some ((q5 q).map elm,false,q.ze):=by
  cases hp:q.ze with
  |nil=>rfl
  | cons s r=>
   rw [show(!(s::r).isEmpty)=true from rfl,L4 rfl,L4 rfl,←hp,show(elm (162,wraps (q.ze.map polE))).zc=wraps (q.ze.map polE)from rfl,Vs O0 f7 O0,L0]
 dsimp only at s3 ⊢
 rw [s3,L0]
 dsimp only
 rw [show(131:Int)=((131:Nat):Int)from rfl,show q5 q=optE q.wr (131,[255])++q6 q from rfl,mg (n6 O1),L0]
 dsimp only
 rw [show(132:Int)=((132:Nat):Int)from rfl,show q6 q=optE q.xI (132,[255])++q7 q from rfl,mg (n7 O1),L0]
 dsimp only
 rw [show(133:Int)=((133:Nat):Int)from rfl,show q7 q=optE q.jy (133,[255])++q8 q from rfl,mg (n8 O1),L0]
 dsimp only
 rw [show(166:Int)=((166:Nat):Int)from rfl]
 unfold q8
 rw [nX (by rfl) (n9 O1),L0]
 have s4:(if(!q.zw.isEmpty)=true then((uh n (if(!q.zw.isEmpty)=true then elm (166,wraps (q.zw.map vU))else E0).zc).bind fun r43=>
   (zL n r43.2 ⟨(q9 q).map elm,false⟩).bind fun r44=>some (r44.f_l,r44.z7,r43.1))else(some ((q9 q).map elm,false,([]:List zd))))=some ((q9 q).map elm,false,q.zw.map dn):=by
  cases hp:q.zw with
  |nil=>rfl
  | cons s r=>
   rw [show(!(s::r).isEmpty)=true from rfl,L4 rfl,L4 rfl,←hp,show(elm (166,wraps (q.zw.map vU))).zc=wraps (q.zw.map vU)from rfl,zcl (B:=252) O0 hn f8 b3 (by rw [hp]; simp) f5 O0,L0,ZP,L0]
   rfl
 dsimp only at s4 ⊢
 rw [s4,L0]
 dsimp only
 rw [show(2:Int)=((2:Nat):Int)from rfl,show(q9 q).map elm=elm (numE 2 q.yj)::(q10 q).map elm from rfl,Qg O0 (sm8 f3),L0]
 dsimp only
 rw [show(135:Int)=((135:Nat):Int)from rfl,show q10 q=optE q.uA (135,[255])++q11 q from rfl,mg (n11 O1),L0]
 dsimp only
 rw [show(168:Int)=((168:Nat):Int)from rfl]
 unfold q11
 rw [nX (by rfl) O2,L0]
 cases hp:q.zf with
 | nil=>
  rw [show(!([]:List Anc).isEmpty)=false from rfl,L3 O2]
  unfold kJ
  rw [hp]
  rfl
 | cons s r=>
  rw [show(!(s::r).isEmpty)=true from rfl,L4 rfl,L4 rfl,←hp,show(elm (168,wraps (q.zf.map ancE))).zc=wraps (q.zf.map ancE)from rfl]
  dsimp only
  rw [Uv hn f9 O0,L0]
  rfl
theorem r4 {n:Nat} {q:Qry} (hn:200000000≤n) (f4:q.ze.length≤8) (f5:q.zw.length≤16) (f6:q.zf.length≤64) (b3:∀g∈q.zw,BdG 252 g) (b4:∀a∈q.zf,BdN 252 a.zo.zg):vl n q (kJ q)=some true:=by
 have hs:uj n q.ze q.ze=some true:=by
  unfold uj
  have e:=Dl (n:=n) q.ze O0 n 0 O0 O0
  rw [show((0:Nat):Int)=0 from rfl]at e
  rw [L3 O2,e]; rfl
 unfold vl
 rw [show(kJ q).uB=q.uB from rfl,show(kJ q).zB=q.zB from rfl,show(kJ q).yk=q.yk from rfl,show(kJ q).ze=q.ze from rfl,show(kJ q).wr=q.wr from rfl,show(kJ q).xI=q.xI from rfl,show(kJ q).jy=q.jy from rfl,
  show(kJ q).yj=q.yj from rfl,show(kJ q).uA=q.uA from rfl,show(kJ q).zw=q.zw.map dn from rfl,show(kJ q).zf=q.zf.map dZ from rfl]
 rw [L4 O2,L4 O2,L4 O2,hs,L0,L4 rfl,L4 O2,L4 O2,L4 O2,fZ b3 O0 O0 O0,L0,L4 rfl,L4 O2,L4 O2,fS b4 O0 O0 O0]
 rfl
theorem rk {n:Nat} {b:Bs} {q:Qry} (hn:200000000≤n) (hq:QS2 252 q) (he:yg n q=some (b,0)):yp n q=some (b,0)∧(QOk n q∧BdQ 252 q)∧∃(g:Nat) (c fl:Bs),(g=23∨g=24)∧c.length≤20∧vW n q.uB=some ((tWrap g c).1,0)∧u9 n fl=some (q.yk,0)∧xe n fl=some (q.yk,0) ∧
  (wraps (contQ (g,c) fl q)).length≤131072∧(∀p∈contQ (g,c) fl q,POk p)∧va b=(⟨48,wraps (contQ (g,c) fl q),b⟩,0):=by
 obtain⟨x,e1,e2,_,e3⟩:=KD hn hq
 rw [he]at e1
 injection e1 with e1
 subst e1
 obtain⟨h1,h2,g,c,fl,hg,hc,hfl,t1,u3,u4,hX,hW,hb⟩:=e3 rfl
 have hok:=oH hn ⟨h1,h2⟩ hg hc hfl hX
 refine⟨e2,⟨h1,h2⟩,g,c,fl,hg,hc,t1,u3,u4,hW,fun p hp=>(hok p hp).1, ?_⟩
 have:=pZ (t:=48) (c:=wraps (contQ (g,c) fl q)) O0 O0 hW
 dsimp only at hb
 rw [hb,this]; rfl
theorem tI {n:Nat} {b:Bs} {q:Qry} (hn:200000000≤n) (hq:QS2 252 q) (he:yg n q=some (b,0)):yg n (kJ q)=some (b,0):=by
 obtain⟨e,v1,v2⟩:=Gi (n:=n) O0 hq
 by_cases c:e=0
 ·subst c
  have hb:BdQ 252 q:=⟨hq.pu,hq.pl,hq.nm,hq.is⟩
  obtain⟨hk,hv2⟩:=DY (B:=252) O0 O0 hb v1
  obtain⟨ht0,ht1⟩:=Pv v1
  obtain⟨g,tc,hg,hc,t1,t2⟩:=Gz (n:=n) O0 ht0 ht1
  obtain⟨fl,hfl,u1,u2,u3,u4⟩:=Pq (n:=n) O0 hk.2.1.1 hk.2.1.2
  obtain⟨e1,_⟩:=rL hn ⟨hk,hb⟩ v1 hg hc t1 hfl u1
  obtain⟨e3,_⟩:=rL (q:=kJ q) hn (GE hn ⟨hk,hb⟩) hv2 hg hc t1 hfl u1
  rw [oe,show(kJ q).zf.map ancE=q.zf.map ancE from Pk _,←e1]at e3
  rw [e3,he]
 ·have:yg n q=some ([],e):=by
   unfold yg
   rw [v1,L0,L4 (O9 c)]
  rw [he]at this
  injection this with this; injection this with _ this
  exact absurd this.symm c
theorem sw {n:Nat} (hn:200000000≤n):vl n Q0 Q0=some true:=
 r4 (q:=Q0) hn O1 O1 O1 (by intro g hg; simp [Q0]at hg) (by intro g hg; simp [Q0]at hg)
theorem nF {n:Nat} {b:Bs} (hn:200000000≤n) (hb:b.length≤900000):∃r,uV n b=some r∧yK n b=some r∧vl n r.1 r.1=some true:=by
 obtain⟨e,c1,c2,c3⟩:=BK (n:=n) (b:=b) O0 O0
 by_cases he:e=0
 ·subst he
  have ho:=c3 rfl
  have hw:xg n b=some ((va b).1,0):=by
   unfold xg
   rw [c2,L0,L3 O1,W0 O0 O0,L0,ho]
  have hcl:(va b).1.zc.length≤900000:=by have:=YW b; omega
  obtain⟨qR,bad,y,sR,eR,dR,tR⟩:=sX (M:=900000) O0 hn hw hcl
  have hT:=wg (va b).1.zc (M:=900000) hcl
  obtain⟨qP,r,rP,sP,tP⟩:=fU (f:=((tList (va b).1.zc).2 !=0)||((va b).1.zA !=48)) O0 hn hT
  obtain⟨xP,eP,_,_⟩:=KD hn sP
  obtain⟨yP,eP2,eR2,_⟩:=KD hn sR
  rw [eR]at eR2; injection eR2 with eR2; subst eR2
  have hP:uV n b=some (if(r.z7||(xP.2 !=0|| !(xP.1==b)))=true then(Q0,7)else(qP,0)):=by
   unfold uV qq
   rw [c1,L0,L3 O1,Ve O0 O0,L0,L3 (by rw [ho]; decide),eF O0 O0,L0,rP,L0]
   dsimp only
   cases hf:r.z7 with
   |true=>rfl
   | false=>
    rw [L3 O1,show yg n ⟨qP.uB,qP.zB,qP.yk,qP.ze,qP.wr,qP.xI,qP.jy,qP.zw,qP.yj,qP.uA,qP.zf⟩=some xP from eP,L0,ifb,L0,Bool.false_or]
    by_cases cc:(xP.2 !=0|| !(xP.1==b))=true
    ·rw [L4 cc,L4 cc]; rfl
    ·rw [L3 cc,L3 cc]; rfl
  have key:∀v:Qry,QS2 252 v→yg n v=some (b,0)→(∃z,∀e0 L,(tList (va b).1.zc).1=e0::L→yE n e0.zA e0.zc=some (v.uB,z))→qP=kJ v∧r.z7=false∧yK n b=some (kJ v,0)∧yg n (kJ v)=some (b,0)∧(QOk n v∧BdQ 252 v):=by
   intro v hv hev ⟨z,hz⟩
   obtain⟨h1,h2,g,c,fl,hg,hc,t1,u3,u4,hW,hp,hone⟩:=rk hn hv hev
   have hx:(va b).1=⟨48,wraps (contQ (g,c) fl v),b⟩:=by rw [hone]
   have hcont:(va b).1.zc=wraps (contQ (g,c) fl v):=by rw [hx]
   have htl:tList (va b).1.zc=((contQ (g,c) fl v).map elm,0):=by rw [hcont,yV hp]
   have hz0:=hz (elm (g,c)) ((q2 fl v).map elm) (by rw [htl]; rfl)
   obtain⟨d1,d2⟩:=nc (n:=n) (g:=g) (c:=c) (t:=v.uB) (z:=z) O0 hg hc t1 hz0
   have hr:=zbq hn h2 hg d1 u3
   have hfl:(((tList (va b).1.zc).2 !=0)||((va b).1.zA !=48))=false:=by rw [htl,hx]; rfl
   rw [hfl,htl]at rP
   dsimp only at rP
   rw [hr]at rP
   injection rP with rP
   injection rP with rq rr
   have hes:=tI hn hv hev
   have hq2:QS2 252 (kJ v):=by
    have:=(GE hn h2).2
    exact⟨O0,this.1,this.2.1,this.2.2.1,this.2.2.2⟩
   have heR:=(rk hn hq2 hes).1
   refine⟨rq.symm,by rw [←rr],zdF hn h2 d2 u4 (by rw [hw,hx]) hp hW heR,hes,h2⟩
  by_cases hA:(r.z7||(xP.2 !=0|| !(xP.1==b)))=true
  ·by_cases hB:(bad||(y.2 !=0|| !(y.1==b)))=true
   ·rw [L4 hA]at hP
    rw [L4 hB]at dR
    exact⟨_,hP,dR,sw hn⟩
   ·exfalso
    simp only [Bool.or_eq_true,not_or,Bool.not_eq_true,bne_eq_false_iff_eq,Bool.not_eq_false',beq_iff_eq]at hB
    obtain⟨_,y2,y1⟩:=hB
    have hev:yg n qR=some (b,0):=by rw [eP2,←y1,←y2]
    obtain ⟨k1,k2,_,k4,_⟩:=key qR sR hev (by
     cases hl:(tList (va b).1.zc).1 with
     |nil=>exact⟨0,fun e0 L h=>by cases h⟩
     | cons e0 L=>
      obtain⟨z,hz⟩:=tR e0 L hl
      have hce:=hT.2 e0 (by rw [hl]; simp)
      obtain⟨w,w1',w2⟩:=JQ (n:=n) (g:=e0.zA) (c:=e0.zc) O0 O0
      rw [hz]at w2; injection w2 with w2; subst w2
      exact⟨z,fun e1 L1 h=>by injection h with h _; subst h; exact w1'⟩)
    rw [←k1,eP]at k4
    injection k4 with k4
    rw [k2,k4]at hA
    simp at hA
  ·have hA':=hA
   simp only [Bool.or_eq_true,not_or,Bool.not_eq_true,bne_eq_false_iff_eq,Bool.not_eq_false',beq_iff_eq]at hA'
   obtain⟨_,x2,x1⟩:=hA'
   have hev:yg n qP=some (b,0):=by rw [eP,←x1,←x2]
   obtain ⟨k1,_,k3,_,k5⟩:=key qP sP hev (by
    cases hl:(tList (va b).1.zc).1 with
    |nil=>exact⟨0,fun e0 L h=>by cases h⟩
    | cons e0 L=>
     obtain⟨z,hz⟩:=tP e0 L hl
     exact⟨z,fun e1 L1 h=>by injection h with h _; subst h; exact hz⟩)
   rw [L3 hA]at hP
   rw [←k1]at k3
   refine⟨_,hP,k3, ?_⟩
   have:=r4 (q:=qP) hn k5.1.2.2.2.1.1 k5.1.2.2.2.1.2.1 k5.1.2.2.2.1.2.2 k5.2.2.2.1 k5.2.2.2.2
   rw [←k1]at this
   exact this
 ·refine ⟨(Q0,e), ?_, ?_,sw hn⟩
  ·unfold uV qq
   rw [c1,L0,L4 (O9 he)]; rfl
  ·unfold yK xg
   rw [c2,L0,L4 (O9 he),L0]
   dsimp only
   rw [L4 (O9 he)]; rfl
theorem fk {n:Nat} (hn:200000000≤n) (b:Bs) (aw:jA n=some true):jF n b=some true:=by
 unfold jF
 by_cases hl:b.length≤500
 ·obtain⟨r,e1,e2,e3⟩:=nF hn (b:=b) O0
  obtain⟨a,f1,f2,f3,f4⟩:=tC (n:=n) (b:=b) O0 hn
  obtain⟨c,g1,g2,g3,g4⟩:=zbh (n:=n) (b:=b) O0 hn
  rw [L3 O4,e1,e2,f1,f2,g1,g2]
  simp only [L0]
  rw [L4 O2,e3]
  simp only [L0]
  rw [L4 trivial,L4 O2,fb f4 f3 O0]
  simp only [L0]
  rw [L4 trivial,L4 O2,ov (f:=⟨c.1.xj,c.1.zM,⟨c.1.zi.yB,c.1.zi.zT,c.1.zi.ze⟩⟩) g3 g4 O0]
  simp only [L0]
  rw [L4 trivial,aw]; rfl
 ·rw [L4 O4,aw]; rfl
theorem nG (b:Bs):jF (199999000+1000) b=some true:=fk O0 b (za8 _)
end Go.Abs
end
