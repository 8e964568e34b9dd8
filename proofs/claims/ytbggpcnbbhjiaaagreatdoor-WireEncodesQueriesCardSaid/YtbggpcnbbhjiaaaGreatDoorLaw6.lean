/- The typed Lean form of WireEncodesQueries gives true for every list of at most 9223372036854775807 numbers and every raw query of at most as many issuers. -/
import Derived.Test.YtbggpcnbbhjiaaaGreatDoorLaw5
set_option linter.unusedVariables false
set_option linter.unusedSimpArgs false
set_option linter.unnecessarySimpa false
section
set_option maxRecDepth 100000
namespace Go.Abs
open Go Go.Proofs
def optE (b:Bool) (p:Nat×Bs):List (Nat×Bs):=if b=true then [p]else []
def q11 (q:Qry):List (Nat×Bs):=optE (!q.zn.isEmpty) (168,wraps (q.zn.map ancE)) ++ []
def q10 (q:Qry):List (Nat×Bs):=optE q.bz (135,[255])++q11 q
def q9 (q:Qry):List (Nat×Bs):=lL 2 q.yU::q10 q
def q8 (q:Qry):List (Nat×Bs):=optE (!q.zD.isEmpty) (166,wraps (q.zD.map j2))++q9 q
def q7 (q:Qry):List (Nat×Bs):=optE q.g9 (133,[255])++q8 q
def q6 (q:Qry):List (Nat×Bs):=optE q.jG (132,[255])++q7 q
def q5 (q:Qry):List (Nat×Bs):=optE q.qj (131,[255])++q6 q
def q4 (q:Qry):List (Nat×Bs):=optE (!q.zo.isEmpty) (162,wraps (q.zo.map polE))++q5 q
def q3 (fl:Bs) (q:Qry):List (Nat×Bs):=optE (q.wb !=0) (129,fl)++q4 q
def q2 (fl:Bs) (q:Qry):List (Nat×Bs):=optE (!(q.zM== [])) (128,(polE q.zM).2)++q3 fl q
def ZS (tm:Nat×Bs) (fl:Bs) (q:Qry):List (Nat×Bs):=tm::q2 fl q
theorem Jw (a b:List (Nat×Bs)):wraps (a++b)=wraps a++wraps b:=by simp [wraps, -List.length_flatten]
theorem j5 (b:Bool) (p:Nat×Bs):(wraps (optE b p)).length≤p.2.length+5:=by
 unfold optE
 have:=ym p.1 p.2
 split
 ·simp only [wraps,Ld,List.map_nil,List.flatten_cons,List.flatten_nil,Lj]; exact this
 ·simp [wraps]
theorem ke (p:Nat×Bs):wraps (optE true p)=(tWrap p.1 p.2).1:=by simp [optE,wraps]
theorem Yb (p:Nat×Bs):wraps (optE false p)= []:=by simp [optE,wraps]
theorem Jk {n t:Nat} {X c:Bs} (h1:t≤255) (h2:t%32≠31) (hc:c.length≤131072) (hX:X.length≤1000000) (hn:20≤n):zQ n (t:Int) c ⟨X,0⟩=some ⟨X++(tWrap t c).1,0⟩:=by
 rw [Gy h1 h2 (by omega) hn,j3 hc]
theorem B4 {n t:Nat} {X:Bs} {b:Bool} (h1:t≤255) (h2:t%32≠31) (hX:X.length≤1000000) (hn:20≤n):wd n (t:Int) b ⟨X,0⟩=some ⟨X++wraps (optE b (t,[255])),0⟩:=by
 unfold wd qW
 cases b with
 |true=>rw [L4 rfl,L4 rfl,L0,Jk h1 h2 (by simp) hX hn,ke]; rfl
 |false=>rw [L3 (by simp),Yb,Lj]
theorem nV {n B t:Nat} {a:List Bs} {b:Bs} (h1:t≤255) (h2:t%32≠31) (hB:B≤100000000) (hn:a.length+B+40≤n) (ha:a.length≤2000) (hs:a.all (fun s=>(vA s).isSome)=true) (hl:∀s∈a,s.length≤B) (hb:b.length≤1000000):vv n (t:Int) a ⟨b,0⟩=some ⟨b++(tWrap t (wraps (a.map polE))).1,0⟩:=by
 unfold vv
 have e1:=KQ (n:=n) hB (by omega) a (by omega) hs hl n 0 [] (by omega) (by omega) (by simp; omega)
 rw [show((0:Nat):Int)=0 from rfl,Lh,Li]at e1
 rw [show pd n ⟨[],0⟩=some ⟨[],0⟩from rfl,L0]
 simp only []
 rw [e1,L0]
 have hl:=UV hs
 simp only []
 rw [Uu (by simp; omega),Lj,L0,Jk h1 h2 (by omega) hb (by omega)]; rfl
theorem Kd {n B:Nat} (l:List Anc) (ho:∀a∈l,W7 a) (hb:BdL B l) (hB:B≤1000000) (hn:B+100≤n) (hl:l.length≤64):∀(k i:Nat) (b:Bs),i≤l.length→l.length-i<k→b.length≤4403*i→xx n l k (i:Int) b 0=some (b++wraps ((l.drop i).map ancE),0)
 |0,i,_,_,h,_=>by omega
 | k+1,i,b,hi,hk,hbl=>by
  rw [xx]
  by_cases hc:i<l.length
  ·have hx:=Lk hc
   have k3:=(WX (ho _ hx)).2
   have t1:=ym (ancE l[i]).1 (ancE l[i]).2
   have e2:(ancE l[i]).2=wraps (Uz l[i]):=rfl
   rw [←e2]at k3
   have he:wY n ⟨⟨l[i].zr.zk⟩,⟨l[i].zw.zA,l[i].zw.wm,l[i].zw.zT⟩⟩ ⟨b,0⟩=some ⟨b++(tWrap (ancE l[i]).1 (ancE l[i]).2).1,0⟩:=rh (a:=l[i]) (ho _ hx) (hb _ hx) hB hn (by omega)
   rw [L4 (by rw [L1]; omega),z2 hc,L0,he,L0,w1 (by omega)]
   simp only []
   rw [Kd l ho hb hB hn hl k (i+1) _ (by omega) (by omega) (by rw [L6]; omega),Lb hc,Ld,qm,Lp]
  ·rw [L3 (by rw [L1]; omega),Lc (by omega)]
   simp [wraps]
theorem oj {n B t:Nat} {l:List Anc} {b:Bs} (h1:t≤255) (h2:t%32≠31) (ho:∀a∈l,W7 a) (hbl:BdL B l) (hB:B≤1000000) (hn:B+200≤n) (hl:l.length≤10) (hb:b.length≤1000000):vV n (t:Int) l ⟨b,0⟩=some ⟨b++(tWrap t (wraps (l.map ancE))).1,0⟩:=by
 unfold vV
 have e1:=Kd (n:=n) l ho hbl hB (by omega) (by omega) n 0 [] (by omega) (by omega) (by simp)
 rw [show((0:Nat):Int)=0 from rfl,Lh,Li]at e1
 rw [show bP n ⟨[],0⟩=some ⟨[],0⟩from rfl,L0]
 simp only []
 rw [e1,L0]
 have hw:=Xy ho
 simp only []
 rw [Uu (by simp; omega),Lj,L0,Jk h1 h2 (by omega) hb (by omega)]; rfl
theorem Q8 {n B:Nat} (hB:B≤60000) (hn:B+1000≤n) {l:List Gen} (ho:∀g∈l,okG n g) (hb:∀g∈l,BdG B g):(wraps (l.map j2)).length≤(B+4338)*l.length:=by
 have:=Y8 (m:=B+4333) (l.map j2) (fun p hp=>by obtain⟨g,hg,rfl⟩:=Lg.1 hp; exact(WF (ho g hg) (hb g hg) hB hn).2.1)
 rw [La]at this; exact this
theorem PX (s:Bs) (h:(vA s).isSome=true):(polE s).2.length≤55:=by
 obtain⟨l,he⟩:=Option.isSome_iff_exists.1 h
 unfold polE; rw [he]; exact gn (kf he)
def hZ (n:Nat) (q:Qry):Prop:=QOk n q∧BdQ 252 q∧q.zn.length≤6
theorem sm8 {x:Int} (h:1≤x∧x≤8):sm x=true:=by simp only [sm,Le,L1]; omega
theorem rT {n g:Nat} {c fl:Bs} {q:Qry} (hn:200000000≤n) (hf:hZ n q) (hv:wh n q=some 0) (hg:g=23∨g=24) (hc:c.length≤20) (ht:jM n q.qT=some ((tWrap g c).1,0)) (hfl:fl.length≤4) (hu:uK n q.wb=some (fl,0)):
  xJ n q=some ((tWrap 48 (wraps (ZS (g,c) fl q))).1,0)∧(wraps (ZS (g,c) fl q)).length≤131072:=by
 obtain⟨⟨f1,f2,f3,⟨f4,f5,f6⟩,f7,f8,f9⟩,⟨b1,b2,b3,b4⟩,f10⟩:=hf
 have m1:=ym g c
 have m3:=UV f7
 have m4:=Q8 (by omega) (by omega) f8 b3
 have m5:=Xy f9
 have m4':(252+4338)*q.zD.length≤73440:=by omega
 have mp:(!(q.zM== []))=true→(polE q.zM).2.length≤55:=fun h=>by
  rcases f1 with f1|f1
  ·rw [f1]at h; exact absurd h (by decide)
  ·exact PX _ f1
 have mp2:(wraps (optE (!(q.zM== [])) (128,(polE q.zM).2))).length≤60:=by
  cases hb:(!(q.zM== []))with
  |true=>have:=mp hb; have:=j5 true (128,(polE q.zM).2); dsimp only at this; omega
  |false=>rw [Yb]; simp
 have mu:=j5 (q.wb !=0) (129,fl)
 have mo:=j5 (!q.zo.isEmpty) (162,wraps (q.zo.map polE))
 have me:=j5 q.qj (131,[255])
 have mm:=j5 q.jG (132,[255])
 have ma:=j5 q.g9 (133,[255])
 have mn:=j5 (!q.zD.isEmpty) (166,wraps (q.zD.map j2))
 have ms:=j5 q.bz (135,[255])
 have mi:=j5 (!q.zn.isEmpty) (168,wraps (q.zn.map ancE))
 have ml:=ym 2 [o8 q.yU.toNat]
 simp only [L8]at mu mo me mm ma mn ms mi ml
 have ew:wraps (ZS (g,c) fl q)=(tWrap g c).1++wraps (optE (!(q.zM== [])) (128,(polE q.zM).2))++wraps (optE (q.wb !=0) (129,fl))++wraps (optE (!q.zo.isEmpty) (162,wraps (q.zo.map polE)))++wraps (optE q.qj (131,[255]))++wraps (optE q.jG (132,[255]))++wraps (optE q.g9 (133,[255])) ++
   wraps (optE (!q.zD.isEmpty) (166,wraps (q.zD.map j2)))++(tWrap 2 [o8 q.yU.toNat]).1++wraps (optE q.bz (135,[255]))++wraps (optE (!q.zn.isEmpty) (168,wraps (q.zn.map ancE))):=by
  unfold ZS q2 q3 q4 q5 q6 q7 q8 q9 q10 q11
  simp only [qm,Jw,Lp,lL]
  rw [show wraps []= []from rfl,Lj]
 have hlen:(wraps (ZS (g,c) fl q)).length≤131072:=by
  rw [ew]; simp only [L6]; omega
 refine⟨?_,hlen⟩
 unfold xJ
 rw [hv,L0,L3 (by decide),ht,L0,Uu (by simp only [Ll]; omega),L0,Li]
 generalize hX0:(tWrap g c).1=X0 at m1 ew
 have s1:(if(!(q.zM==([]:List UInt8)))=true then((uX n q.zM).bind fun r11=>
   (zU n ([]:List UInt8) r11.2 ⟨X0,0⟩).bind fun r12=>(zQ n 128 r11.1 r12).bind fun r13=>some (r13.f_b,r13.f_e))else(some (X0,(0:Int))))=some (X0++wraps (optE (!(q.zM== [])) (128,(polE q.zM).2)),0):=by
  cases hb:(!(q.zM== []))with
  | true=>
   have hs:(vA q.zM).isSome=true:=by
    rcases f1 with f1|f1
    ·rw [f1]at hb; exact absurd hb (by decide)
    ·exact f1
   obtain⟨l,hl⟩:=Option.isSome_iff_exists.1 hs
   have hpe:(polE q.zM).2=pz l:=by unfold polE; rw [hl]; rfl
   have hlo:=gn (kf hl)
   rw [L4 rfl,XS (by omega) (by omega) hl,L0,Uu (by simp only [Ll]; omega),L0,Lj,show(128:Int)=((128:Nat):Int)from rfl,Jk (by omega) (by omega) (by dsimp only; omega) (by omega) (by omega),L0,ke,hpe]
  |false=>rw [L3 (by simp),Yb,Lj]
 rw [s1,L0]
 generalize hX1:X0++wraps (optE (!(q.zM== [])) (128,(polE q.zM).2))=X1 at ew
 have l1:X1.length≤200:=by rw [←hX1,L6]; omega
 have s2:(if(q.wb !=0)=true then((uK n q.wb).bind fun r21=>
   (zU n ([]:List UInt8) r21.2 ⟨X1,0⟩).bind fun r22=>(zQ n 129 r21.1 r22).bind fun r23=>some (r23.f_b,r23.f_e))else(some (X1,(0:Int))))=some (X1++wraps (optE (q.wb !=0) (129,fl)),0):=by
  cases hb:(q.wb !=0)with
  | true=>
   rw [L4 rfl,hu,L0,Uu (by simp only [Ll]; omega),L0,Lj,show(129:Int)=((129:Nat):Int)from rfl,Jk (by omega) (by omega) (by dsimp only; omega) (by omega) (by omega),L0,ke]
  |false=>rw [L3 (by simp),Yb,Lj]
 dsimp only
 rw [s2,L0]
 generalize hX2:X1++wraps (optE (q.wb !=0) (129,fl))=X2 at ew
 have l2:X2.length≤300:=by rw [←hX2,L6]; omega
 have s3:(if(decide ((List.length q.zo:Int)>0))=true then((vv n 162 q.zo ⟨X2,0⟩).bind fun r29=>
   some (r29.f_b,r29.f_e))else(some (X2,(0:Int))))=some (X2++wraps (optE (!q.zo.isEmpty) (162,wraps (q.zo.map polE))),0):=by
  cases hp:q.zo with
  |nil=>rw [L3 (by decide)]; simp [optE,wraps]
  | cons s r=>
   rw [L4 (by rw [L1,L9]; omega),←hp,show(162:Int)=((162:Nat):Int)from rfl,nV (B:=252) (by omega) (by omega) (by omega) (by omega) (by omega) f7 b2 (by omega),L0,hp,show(!(s::r).isEmpty)=true from rfl,ke]
 dsimp only
 rw [s3,L0]
 generalize hX3:X2++wraps (optE (!q.zo.isEmpty) (162,wraps (q.zo.map polE)))=X3 at ew
 have l3:X3.length≤1000:=by rw [←hX3,L6]; omega
 dsimp only
 rw [show(131:Int)=((131:Nat):Int)from rfl,B4 (by omega) (by omega) (by omega) (by omega),L0]
 generalize hX4:X3++wraps (optE q.qj (131,[255]))=X4 at ew
 have l4:X4.length≤1010:=by rw [←hX4,L6]; omega
 rw [show(132:Int)=((132:Nat):Int)from rfl,B4 (by omega) (by omega) (by omega) (by omega),L0]
 generalize hX5:X4++wraps (optE q.jG (132,[255]))=X5 at ew
 have l5:X5.length≤1020:=by rw [←hX5,L6]; omega
 rw [show(133:Int)=((133:Nat):Int)from rfl,B4 (by omega) (by omega) (by omega) (by omega),L0]
 generalize hX6:X5++wraps (optE q.g9 (133,[255]))=X6 at ew
 have l6:X6.length≤1030:=by rw [←hX6,L6]; omega
 have s7:(if(decide ((List.length q.zD:Int)>0))=true then((uv n q.zD).bind fun r40=>
   (zU n ([]:List UInt8) r40.2 ⟨X6,0⟩).bind fun r41=>(zQ n 166 r40.1 r41).bind fun r42=>some (r42.f_b,r42.f_e))else(some (X6,(0:Int))))=some (X6++wraps (optE (!q.zD.isEmpty) (166,wraps (q.zD.map j2))),0):=by
  cases hp:q.zD with
  |nil=>rw [L3 (by decide)]; simp [optE,wraps]
  | cons s r=>
   rw [L4 (by rw [L1,L9]; omega),←hp,oa (B:=252) (by omega) (by omega) f8 b3 (by rw [hp]; simp) f5,L0,Uu (by simp only [Ll]; omega),L0,Lj,show(166:Int)=((166:Nat):Int)from rfl,Jk (by omega) (by omega) (by dsimp only; omega) (by omega) (by omega),L0,hp,show(!(s::r).isEmpty)=true from rfl,ke]
 dsimp only
 rw [s7,L0]
 generalize hX7:X6++wraps (optE (!q.zD.isEmpty) (166,wraps (q.zD.map j2)))=X7 at ew
 have l7:X7.length≤80000:=by rw [←hX7,L6]; omega
 dsimp only
 rw [Pm (t:=2) (sm8 f3) (by omega) (by omega) (by omega) (by omega),L0]
 generalize hX8:X7++(tWrap 2 [o8 q.yU.toNat]).1=X8 at ew
 have l8:X8.length≤80010:=by rw [←hX8,L6]; omega
 rw [show(135:Int)=((135:Nat):Int)from rfl,B4 (by omega) (by omega) (by omega) (by omega),L0]
 generalize hX9:X8++wraps (optE q.bz (135,[255]))=X9 at ew
 have l9:X9.length≤80020:=by rw [←hX9,L6]; omega
 cases hp:q.zn with
 | nil=>
  have e0:X9=wraps (ZS (g,c) fl q):=by rw [ew,hp]; simp [optE,wraps]
  rw [L3 (by decide),Qt (by omega) (by omega),L0,L3 (by omega),←e0]
 | cons s r=>
  have e0:X9++(tWrap 168 (wraps (q.zn.map ancE))).1=wraps (ZS (g,c) fl q):=by
   rw [ew]
   rw [show(!q.zn.isEmpty)=true by rw [hp]; rfl,ke]
  rw [L4 (by rw [L1,L9]; omega),←hp,show(168:Int)=((168:Nat):Int)from rfl,oj (B:=252) (by omega) (by omega) f9 b4 (by omega) (by omega) (by omega) (by omega),L0,e0,Qt (by omega) (by omega),L0,L3 (by omega)]
theorem Ua {α:Type} {l:List α} {o:Nat} (x:α) (h:o<l.length):∃r,pT l o x=some r∧r.length=l.length:=⟨_,L4 h,List.length_set ..⟩
theorem gD {n:Nat} {i:Int} (h:0≤i∧i<n):qh n i=some i.toNat:=L4 h
theorem Wh {α:Type} {l:List α} {o:Nat} (h:o<l.length):∃x,l[o]? =some x:=⟨_,List.getElem?_eq_getElem h⟩
theorem Pi {n:Nat} {a:Bs} (ha:a.length=64):∀(j k:Nat) (v:List Int),j≤16→j<k→v.length=64→∃r,xa n a k ((16-j:Nat):Int) v=some r∧r.length=64
 |j,0,_,_,h,_=>by omega
 | 0,k+1,v,_,_,hv=>by
  rw [xa,L3 (by decide)]
  exact⟨_,rfl,hv⟩
 | j+1,k+1,v,hj,hk,hv=>by
  rw [xa,L4 (by rw [L1]; omega)]
  rw [xf (x:=(4:Int)*((16-(j+1):Nat):Int)) (by omega),xf (x:=(4:Int)*((16-(j+1):Nat):Int)+1) (by omega),xf (x:=(4:Int)*((16-(j+1):Nat):Int)+2) (by omega),xf (x:=(4:Int)*((16-(j+1):Nat):Int)+3) (by omega)]
  obtain⟨x1,e1⟩:=Xc (s:=a) (i:=(4:Int)*((16-(j+1):Nat):Int)) (by omega) (by omega)
  obtain⟨x2,e2⟩:=Xc (s:=a) (i:=(4:Int)*((16-(j+1):Nat):Int)+1) (by omega) (by omega)
  obtain⟨x3,e3⟩:=Xc (s:=a) (i:=(4:Int)*((16-(j+1):Nat):Int)+2) (by omega) (by omega)
  obtain⟨x4,e4⟩:=Xc (s:=a) (i:=(4:Int)*((16-(j+1):Nat):Int)+3) (by omega) (by omega)
  rw [e1,L0,e2,L0,e3,L0,e4,L0,gD (by omega),L0]
  obtain⟨w,ew,lw⟩:=Ua (l:=v) (o:=0+((16-(j+1):Nat):Int).toNat*1) (ior .u32 (ior .u32 (ior .u32 (IntKind.wrap .u32 ((IntKind.wrap .u32 x1)*16777216)) (IntKind.wrap .u32 ((IntKind.wrap .u32 x2)*65536))) (IntKind.wrap .u32 ((IntKind.wrap .u32 x3)*256))) (IntKind.wrap .u32 x4)) (by omega)
  rw [ew,L0,xf (by omega),show((16-(j+1):Nat):Int)+1=((16-j:Nat):Int)by omega]
  exact Pi ha j k w (by omega) (by omega) (by omega)
theorem PP {n:Nat}:∀(j k:Nat) (v:List Int),j≤48→j<k→v.length=64→∃r,xb n k ((64-j:Nat):Int) v=some r∧r.length=64
 |j,0,_,_,h,_=>by omega
 | 0,k+1,v,_,_,hv=>by
  rw [xb,L3 (by decide)]
  exact⟨_,rfl,hv⟩
 | j+1,k+1,v,hj,hk,hv=>by
  rw [xb,L4 (by rw [L1]; omega)]
  rw [xf (x:=((64-(j+1):Nat):Int)-15) (by omega),xf (x:=((64-(j+1):Nat):Int)-2) (by omega),xf (x:=((64-(j+1):Nat):Int)-16) (by omega),xf (x:=((64-(j+1):Nat):Int)-7) (by omega)]
  rw [gD (i:=((64-(j+1):Nat):Int)-15) (by omega),L0]
  obtain⟨x1,e1⟩:=Wh (l:=v) (o:=0+(((64-(j+1):Nat):Int)-15).toNat*1) (by omega)
  rw [e1,L0,gD (i:=((64-(j+1):Nat):Int)-2) (by omega),L0]
  obtain⟨x2,e2⟩:=Wh (l:=v) (o:=0+(((64-(j+1):Nat):Int)-2).toNat*1) (by omega)
  rw [e2,L0,gD (i:=((64-(j+1):Nat):Int)-16) (by omega),L0]
  obtain⟨x3,e3⟩:=Wh (l:=v) (o:=0+(((64-(j+1):Nat):Int)-16).toNat*1) (by omega)
  rw [e3,L0,gD (i:=((64-(j+1):Nat):Int)-7) (by omega),L0]
  obtain⟨x4,e4⟩:=Wh (l:=v) (o:=0+(((64-(j+1):Nat):Int)-7).toNat*1) (by omega)
  rw [e4,L0,gD (i:=((64-(j+1):Nat):Int)) (by omega),L0]
  generalize IntKind.wrap .u32 ((IntKind.wrap .u32 _)+_)=z
  obtain⟨w,ew,lw⟩:=Ua (l:=v) (o:=0+((64-(j+1):Nat):Int).toNat*1) z (by omega)
  rw [ew,L0,xf (by omega),show((64-(j+1):Nat):Int)+1=((64-j:Nat):Int)by omega]
  exact PP j k w (by omega) (by omega) (by omega)
theorem PZ {n:Nat} {y:List Int} (hy:y.length=64):∀(j k:Nat) (a b c d e f g h:Int),j≤64→j<k→∃r,yZ n y k a b c d e f g h ((64-j:Nat):Int)=some r
 |j,0,_,_,_,_,_,_,_,_,_,h=>by omega
 | 0,k+1,_,_,_,_,_,_,_,_,_,_=>by
  rw [yZ,L3 (by decide)]
  exact⟨_,rfl⟩
 | j+1,k+1,_,_,_,_,_,_,_,_,hj,hk=>by
  rw [yZ,L4 (by rw [L1]; omega)]
  refine Qe (qz (by omega) ?_) fun x1 _=> ?_
  ·show _<(64:Int); omega
  rw [gD (i:=((64-(j+1):Nat):Int)) (by omega),L0]
  obtain⟨x2,e2⟩:=Wh (l:=y) (o:=0+((64-(j+1):Nat):Int).toNat*1) (by omega)
  rw [e2,L0,xf (x:=((64-(j+1):Nat):Int)+1) (by omega),show((64-(j+1):Nat):Int)+1=((64-j:Nat):Int)by omega]
  exact PZ hy j k _ _ _ _ _ _ _ _ (by omega) (by omega)
theorem Pz {n:Nat} {s:List Int} {a:Bs} (hn:100≤n) (hs:s.length=8) (ha:a.length=64):∃r,ud n s a=some r∧r.length=8:=by
 unfold ud
 obtain⟨y,ey,ly⟩:=Pi (n:=n) ha 16 n (List.replicate 64 0) (by omega) (by omega) (by rw [List.length_replicate])
 obtain⟨z,ez,lz⟩:=PP (n:=n) 48 n y (by omega) (by omega) ly
 rw [show(0:Int)=((16-16:Nat):Int)by rfl]
 rw [show((List.replicate 64 ((16-16:Nat):Int)):List Int)=List.replicate 64 0 by rfl,ey,L0]
 rw [show(16:Int)=((64-48:Nat):Int)by rfl,ez,L0]
 obtain⟨x0,e0⟩:=qz (s:=s) (i:=0) (by omega) (by omega)
 obtain⟨x1,e1⟩:=qz (s:=s) (i:=1) (by omega) (by omega)
 obtain⟨x2,e2⟩:=qz (s:=s) (i:=2) (by omega) (by omega)
 obtain⟨x3,e3⟩:=qz (s:=s) (i:=3) (by omega) (by omega)
 obtain⟨x4,e4⟩:=qz (s:=s) (i:=4) (by omega) (by omega)
 obtain⟨x5,e5⟩:=qz (s:=s) (i:=5) (by omega) (by omega)
 obtain⟨x6,e6⟩:=qz (s:=s) (i:=6) (by omega) (by omega)
 obtain⟨x7,e7⟩:=qz (s:=s) (i:=7) (by omega) (by omega)
 rw [show((16-16:Nat):Int)=0 by rfl,e0,L0,e1,L0,e2,L0,e3,L0,e4,L0,e5,L0,e6,L0,e7,L0]
 obtain⟨w,ew⟩:=PZ (n:=n) lz 64 n x0 x1 x2 x3 x4 x5 x6 x7 (by omega) (by omega)
 rw [show(0:Int)=((64-64:Nat):Int)by rfl,ew,L0]
 exact⟨_,rfl,rfl⟩
theorem Gz {n:Nat} {a:List Bs} (ha:a.length≤100) (hs:∀x∈a,x.length≤1000):∀(j k:Nat) (v:Bs),j≤a.length→j<k→v.length≤1000*(a.length-j)→∃r,xA n a k v ((a.length-j:Nat):Int)=some r∧r.length≤100000
 |j,0,_,_,h,_=>by omega
 | 0,k+1,v,_,_,hv=>by
  rw [xA,L3 (by simp)]
  exact⟨_,rfl,by omega⟩
 | j+1,k+1,v,hj,hk,hv=>by
  rw [xA,L4 (by rw [L1]; omega)]
  obtain⟨x,ex⟩:=qz (s:=a) (i:=((a.length-(j+1):Nat):Int)) (by omega) (by omega)
  have lx:x.length≤1000:=by
   unfold z1 at ex
   rw [L4 (by omega)]at ex
   exact hs x (List.mem_of_getElem? ex)
  rw [ex,L0,show uw v x=some (v++x)from L4 (by omega),L0,xf (by omega),show((a.length-(j+1):Nat):Int)+1=((a.length-j:Nat):Int)by omega]
  exact Gz ha hs j k (v++x) (by omega) (by omega) (by rw [L6]; omega)
theorem BV {n m:Nat} {y:Bs} (hy:y.length≤100000) (hm:9≤m∧m≤100):∀(j k:Nat) (v:List Int),j≤8→j<k→v.length=m→∃r,xD n y m k ((8-j:Nat):Int) v=some r∧r.length=m
 |j,0,_,_,h,_=>by omega
 | 0,k+1,v,_,_,hv=>by
  rw [xD,L3 (by decide)]
  exact⟨_,rfl,hv⟩
 | j+1,k+1,v,hj,hk,hv=>by
  rw [xD,L4 (by rw [L1]; omega)]
  rw [xf (x:=(8:Int)*(y.length:Int)) (by omega),xf (x:=(8:Int)*((8-(j+1):Nat):Int)) (by omega),xf (x:=(m:Int)-1) (by omega),xf (x:=(m:Int)-1-((8-(j+1):Nat):Int)) (by omega)]
  rw [show ∀a b:Int,0≤b→YI .i64 a b=some (a.fdiv (2^(min b.toNat IntKind.i64.bits)))from fun a b h=>L3 (by omega)]
  ·rw [L0,gD (i:=(m:Int)-1-((8-(j+1):Nat):Int)) (by omega),L0]
   generalize IntKind.wrap .u8 _=z
   obtain⟨w,ew,lw⟩:=Ua (l:=v) (o:=((m:Int)-1-((8-(j+1):Nat):Int)).toNat*1) z (by omega)
   rw [ew,L0,xf (by omega),show((8-(j+1):Nat):Int)+1=((8-j:Nat):Int)by omega]
   exact BV hy hm j k w (by omega) (by omega) (by omega)
  ·omega
theorem Gd {n:Nat} {x:Bs} {q:Nat} (hn:100≤n) (hx:x.length=64*q) (hq:q≤10000):∀(j k:Nat) (v:List Int),j≤q→j<k→v.length=8→∃r,xB n x k v ((64*(q-j):Nat):Int)=some r∧r.length=8
 |j,0,_,_,h,_=>by omega
 | 0,k+1,v,_,_,hv=>by
  rw [xB,L3 (by rw [L1]; omega)]
  exact⟨_,rfl,hv⟩
 | j+1,k+1,v,hj,hk,hv=>by
  rw [xB,L4 (by rw [L1]; omega)]
  rw [xf (x:=((64*(q-(j+1)):Nat):Int)+64) (by omega),show ssl x ((64*(q-(j+1)):Nat):Int) (((64*(q-(j+1)):Nat):Int)+64)=some _ from L4 ⟨by omega,by omega,by omega⟩,L0]
  obtain⟨w,ew,lw⟩:=Pz (n:=n) (s:=v) (a:=((x.take ((((64*(q-(j+1)):Nat):Int)+64).toNat)).drop (((64*(q-(j+1)):Nat):Int).toNat))) hn hv (by rw [List.length_drop,List.length_take]; omega)
  rw [ew,L0,show((64*(q-(j+1)):Nat):Int)+64=((64*(q-j):Nat):Int)by omega]
  exact Gd hn hx hq j k w (by omega) (by omega) lw
theorem Gu {n:Nat} {y:List Int} (hy:y.length=8):∀(j k:Nat) (v:List Int),j≤8→j<k→v.length=4*(8-j)→∃r,xE n y k v ((8-j:Nat):Int)=some r∧r.length=32
 |j,0,_,_,h,_=>by omega
 | 0,k+1,v,_,_,hv=>by
  rw [xE,L3 (by rw [hy]; decide)]
  exact⟨_,rfl,hv⟩
 | j+1,k+1,v,hj,hk,hv=>by
  rw [xE,L4 (by rw [L1]; omega)]
  obtain⟨x,ex⟩:=qz (s:=y) (i:=((8-(j+1):Nat):Int)) (by omega) (by omega)
  rw [ex,L0,w8 (by show(_+4)*_≤_; omega),L0,xf (by omega),show((8-(j+1):Nat):Int)+1=((8-j:Nat):Int)by omega]
  exact Gu hy j k _ (by omega) (by omega) (by rw [L6]; show _+4=_; omega)
theorem Po {n:Nat} {a:List Bs} (hn:2000≤n) (ha:a.length≤100) (hs:∀x∈a,x.length≤1000):∃s,vX n a=some s∧s.length=32:=by
 unfold vX
 obtain⟨y,ey,ly⟩:=Gz (n:=n) ha hs a.length n [] (by omega) (by omega) (by simp)
 rw [show(0:Int)=((a.length-a.length:Nat):Int)by omega,ey,L0,show((a.length-a.length:Nat):Int)=0 by omega]
 have key:∃p:Nat,p<64∧(y.length+(9+p))%64=0∧(if((IntKind.wrap .i64 ((64:Int)-(Int.tmod (IntKind.wrap .i64 ((List.length y:Int)+9)) 64)))==64)=true then(some 0)else(some (IntKind.wrap .i64 ((64:Int)-(Int.tmod (IntKind.wrap .i64 ((List.length y:Int)+9)) 64)))))=some (p:Int):=by
  rw [xf (x:=(List.length y:Int)+9) (by omega),show Int.tmod ((List.length y:Int)+9) 64=(((y.length+9)%64:Nat):Int)from(Int.ofNat_tmod (y.length+9) 64).symm,xf (by omega)]
  by_cases h0:(y.length+9)%64=0
  ·exact⟨0,by omega,by omega,by rw [L4 (by rw [beq_iff_eq]; omega)]; rfl⟩
  ·exact⟨64-(y.length+9)%64,by omega,by omega,by rw [L3 (by rw [beq_iff_eq]; omega)]; congr 1; omega⟩
 obtain⟨p,hp,hq,ep⟩:=key
 rw [ep,L0,xf (x:=(9:Int)+(p:Int)) (by omega),show Wa 1 ((9:Int)+(p:Int)) ((9:Int)+(p:Int))=some (9+p)from(L4 ⟨by omega,by omega,by omega,by omega⟩).trans (congrArg some (by omega)),L0,gD (by omega),L0]
 obtain⟨w,ew,lw⟩:=Ua (l:=List.replicate (9+p) (0:Int)) (o:=(0:Int).toNat*1) 128 (by rw [List.length_replicate]; show 0<_; omega)
 rw [List.length_replicate]at lw
 rw [ew,L0]
 obtain⟨z,ez,lz⟩:=BV (n:=n) (m:=9+p) ly (by omega) 8 n w (by omega) (by omega) lw
 rw [show(0:Int)=((8-8:Nat):Int)by rfl,ez,L0,show Wz (9+p) z=some (b2s (z.take (9+p)))from L4 (by omega),L0]
 have lb:(b2s (z.take (9+p))).length=9+p:=by unfold b2s; rw [La,List.length_take]; omega
 rw [show uw y (b2s (z.take (9+p)))=some (y++b2s (z.take (9+p)))from L4 (by omega),L0]
 obtain⟨u,eu,lu⟩:=Gd (n:=n) (x:=y++b2s (z.take (9+p))) (q:=(y.length+(9+p))/64) (by omega) (by rw [L6,lb]; omega) (by omega) ((y.length+(9+p))/64) n ([1779033703,3144134277,1013904242,2773480762,1359893119,2600822924,528734635,1541459225]:List Int) (by omega) (by omega) rfl
 rw [show((8-8:Nat):Int)=((64*((y.length+(9+p))/64-(y.length+(9+p))/64):Nat):Int)by omega,eu,L0]
 rw [show JI 1 32=some ()by rfl,L0]
 obtain⟨t,et,lt⟩:=Gu (n:=n) lu 8 n [] (by omega) (by omega) rfl
 rw [show((64*((y.length+(9+p))/64-(y.length+(9+p))/64):Nat):Int)=((8-8:Nat):Int)by omega,et,L0]
 exact⟨_,rfl,by unfold b2s; rw [La]; exact lt⟩
theorem V3 {n:Nat} {a:List Bs} (hn:2000≤n) (ha:a.length≤100) (hs:∀x∈a,x.length≤1000):∃s,xj n a=some s∧s.length=16:=by
 unfold xj
 obtain⟨s,e,l⟩:=Po hn ha hs
 rw [e,L0,show ssl s 0 16=some ((s.take 16).drop 0)from L4 ⟨by omega,by omega,by omega⟩]
 exact⟨_,rfl,by rw [List.length_drop,List.length_take]; omega⟩
theorem Ba {n:Nat} {x:Int}:∃s,xg n x=some s∧s.length=1:=⟨_,rfl,rfl⟩
theorem Qg {n:Nat} {x:Int}:∃s,wX n x=some s∧s.length=4:=⟨_,rfl,rfl⟩
theorem Gl {n:Nat} {p:Bs} {a b:Int} (hn:2000≤n) (hp:p.length=16):∀(j k:Nat) (v:Bs),j≤15→j<k→v.length=16→∃r,xl n 15 a b p k v ((15-j:Nat):Int)=some r∧r.length=16
 |j,0,_,_,h,_=>by omega
 | 0,k+1,v,_,_,hv=>by
  rw [xl,L3 (by decide)]
  exact⟨_,rfl,hv⟩
 | j+1,k+1,v,hj,hk,hv=>by
  rw [xl,L4 (by rw [L1]; omega)]
  obtain⟨x1,e1,l1⟩:=Qg (n:=n) (x:=a)
  obtain⟨x2,e2,l2⟩:=Ba (n:=n) (x:=b)
  obtain⟨x3,e3,l3⟩:=Ba (n:=n) (x:=((15-(j+1):Nat):Int))
  rw [e1,L0,e2,L0,e3,L0]
  obtain ⟨w,ew,lw⟩:=V3 (n:=n) (a:= [[67],p,x1,x2,x3,v]) hn (by simp) (by
   simp only [Lo,List.not_mem_nil,or_false,forall_eq_or_imp,forall_eq]
   exact⟨by decide,by omega,by omega,by omega,by omega,by omega⟩)
  rw [ew,L0,xf (by omega),show((15-(j+1):Nat):Int)+1=((15-j:Nat):Int)by omega]
  exact Gl hn hp j k w (by omega) (by omega) lw
theorem ce {n:Nat} {p s:Bs} {a:Int} (hn:2000≤n) (hp:p.length=16) (hs:s.length=32):∀(j k:Nat) (v:Bs),j≤35→j<k→v.length=16*(35-j)→∃r,yA n s a p k v ((35-j:Nat):Int)=some r∧r.length=560
 |j,0,_,_,h,_=>by omega
 | 0,k+1,v,_,_,hv=>by
  rw [yA,L3 (by decide)]
  exact⟨_,rfl,hv⟩
 | j + 1,k+1,v,hj,hk,hv=>by
  rw [yA,L4 (by rw [L1]; omega)]
  obtain⟨x1,e1,l1⟩:=Qg (n:=n) (x:=a)
  obtain⟨x2,e2,l2⟩:=Ba (n:=n) (x:=((35-(j+1):Nat):Int))
  have hsec:∃w,vO n s a ((35-(j+1):Nat):Int)=some w∧w.length=16:=by
   unfold vO
   obtain ⟨w,ew,lw⟩:=V3 (n:=n) (a:= [[83],s,x1,x2]) hn (by simp) (by
    simp only [Lo,List.not_mem_nil,or_false,forall_eq_or_imp,forall_eq]
    exact⟨by decide,by omega,by omega,by omega⟩)
   rw [e1,L0,e2,L0,ew]
   exact⟨_,rfl,lw⟩
  obtain⟨w,ew,lw⟩:=hsec
  obtain⟨u,eu,lu⟩:=Gl (n:=n) (a:=a) (b:=((35-(j+1):Nat):Int)) hn hp 15 n w (by omega) (by omega) lw
  have hw:uD n p a ((35-(j+1):Nat):Int) 0 15 w=some u:=by
   unfold uD
   rw [show(0:Int)=((15-15:Nat):Int)by rfl,eu]; rfl
  rw [ew,L0,hw,L0,show uw v u=some (v++u)from L4 (by omega),L0,xf (by omega),show((35-(j+1):Nat):Int)+1=((35-j:Nat):Int)by omega]
  exact ce hn hp hs j k (v++u) (by omega) (by omega) (by rw [L6]; omega)
theorem fT {n:Nat} {p s:Bs} (hn:2000≤n) (hp:p.length=16) (hs:s.length=32):∃r,vY n p s 0=some (r,0)∧r.length=16:=by
 unfold vY jF
 rw [L3 (by rw [hp]; decide),L0,L3 (by rw [hs]; decide),L3 (by decide),L0,L3 (by decide),L0,L3 (by decide)]
 obtain⟨y,ey,ly⟩:=ce (n:=n) (a:=0) hn hp hs 35 n [] (by omega) (by omega) rfl
 obtain⟨x1,e1,l1⟩:=Qg (n:=n) (x:=0)
 rw [show yA n s 0 p n [] 0=some y from ey,L0,e1,L0]
 obtain ⟨w,ew,lw⟩:=V3 (n:=n) (a:= [[76],p,x1,y]) hn (by simp) (by
  simp only [Lo,List.not_mem_nil,or_false,forall_eq_or_imp,forall_eq]
  exact⟨by decide,by omega,by omega,by omega⟩)
 rw [ew]
 exact⟨_,rfl,lw⟩
theorem eU {n:Nat} {s:Bs} (hn:2000≤n) (hs:s.length=32):∃p r,vm n s 0=some (⟨s,p,[[r]]⟩,0):=by
 unfold vm
 rw [L3 (by rw [hs]; decide),L3 (by decide),L0,L3 (by decide)]
 obtain ⟨p,ep,lp⟩:=V3 (n:=n) (a:= [[73],s]) hn (by simp) (by
  simp only [Lo,List.not_mem_nil,or_false,forall_eq_or_imp,forall_eq]
  exact⟨by decide,by omega⟩)
 obtain⟨r,er,lr⟩:=fT (n:=n) hn lp hs
 obtain⟨m,rfl⟩:∃m,n=m+2:=⟨n-2,by omega⟩
 rw [ep,L0]
 rw [yY,show QX .i64 1 0=some 1 by rfl,L0,L4 (by decide),er,L0,w8 (by show(0+1)*16≤_; omega),L0,
  show IntKind.wrap .i64 ((0:Int)+1)=1 by rfl,yY,show QX .i64 1 0=some 1 by rfl,L0,L3 (by decide),L0,w8 (by show(0+1)*24≤_; omega),L0,
  xW,L3 (by decide),L0]
 exact⟨p,r,rfl⟩
theorem Px {n:Nat} {r:Int} (hn:2000≤n):∃s,wc n r=some s∧s.length=32:=by
 unfold wc
 obtain⟨x1,e1,l1⟩:=Qg (n:=n) (x:=r)
 obtain ⟨w,ew,lw⟩:=Po (n:=n) (a:= [[115,101,101,100],x1]) hn (by simp) (by
  simp only [Lo,List.not_mem_nil,or_false,forall_eq_or_imp,forall_eq]
  exact⟨by decide,by omega⟩)
 rw [e1,L0,ew]
 exact⟨_,rfl,lw⟩
theorem Py {n:Nat} {k:Int} (h0:0≤k) (h1:k<4):∃x,jB n k=some x∧0≤x∧x<16:=by
 have:k=0∨k=1∨k=2∨k=3:=by omega
 rcases this with h|h|h|h<;>subst h<;>exact⟨_,rfl,by decide⟩
theorem Vi {n:Nat} {k:Int} (hn:2000≤n) (h0:0≤k) (h1:k<4):∃a,z6 n k=some a∧BdN 252 a.zr.zk:=by
 unfold z6
 obtain⟨x,ex,x0,x1⟩:=Py (n:=n) h0 h1
 obtain⟨y,ey,ly⟩:=Qi (n:=n) (r:=x) (by omega) x0 x1
 have hp:∃z,vR n k=some z:=by
  unfold vR j4 qe
  obtain⟨s,es,ls⟩:=Px (n:=n) (r:=IntKind.wrap .i64 ((1000:Int)+(Int.tmod k 8))) hn
  obtain⟨p,r,eg⟩:=eU (n:=n) hn ls
  rw [es,L0,eg]
  exact⟨_,rfl⟩
 obtain⟨z,ez⟩:=hp
 rw [ex,L0,ey,L0,ez]
 exact⟨_,rfl,ly⟩
def fD:List Bs:= [([97,110,110,64,101,120,97,109,112,108,101,46,111,114,103]:List UInt8),([65,78,78,64,101,120,97,109,112,108,101,46,111,114,103]:List UInt8),([97,110,110,64,69,120,97,109,112,108,101,46,79,82,71]:List UInt8),([98,46,99,64,109,97,105,108,46,101,120,97,109,112,108,101,46,111,114,103]:List UInt8),([120,64,111,114,103]:List UInt8),([97,39,98,64,97,46,98]:List UInt8)]
def og:List Bs:= [([101,120,97,109,112,108,101,46,111,114,103]:List UInt8),([119,119,119,46,101,120,97,109,112,108,101,46,111,114,103]:List UInt8),([87,87,87,46,69,120,97,109,112,108,101,46,111,114,103]:List UInt8),([42,46,101,120,97,109,112,108,101,46,111,114,103]:List UInt8),([97,46,98]:List UInt8),([111,114,103]:List UInt8),([109,121,101,120,97,109,112,108,101,46,111,114,103]:List UInt8)]
def ips:List Bs:= [([10,0,0,1]:List UInt8),([10,1,2,3]:List UInt8),([192,168,1,7]:List UInt8),([32,1,13,184,0,0,0,0,0,0,0,0,0,0,0,1]:List UInt8)]
def K4 (n:Nat) (g:Gen):Prop:=BdG 252 g
theorem Uy {n:Nat} {kd r:Int} {l:List Bs} (h:(l.all fun s=>decide (s.length≤252))=true) (h0:0≤r) (h1:r<(l.length:Int)):∃x,z1 l r=some x∧K4 n ⟨kd,x,⟨[]⟩⟩:=by
 obtain⟨x,ex⟩:=qz (s:=l) (i:=r) h0 h1
 have hx:x∈l:=by
  unfold z1 at ex
  rw [L4 h0]at ex
  exact List.mem_of_getElem? ex
 exact⟨x,ex,of_decide_eq_true (Lf.1 h x hx),by simp,by simp⟩
theorem PL {n:Nat} {l:List (List Att)} (h:BdN 252 l):K4 n ⟨4,[],⟨l⟩⟩:=⟨by simp,h⟩
theorem Ya {n:Nat} {d:zh} (hn:2000≤n) (hd:vE d):∃g d',yl n d=some (g,d')∧K4 n g∧vE d':=by
 unfold yl
 obtain⟨r,d1,e1,a1,b1,k1⟩:=vi (n:=n) (k:=4) (by decide) (by decide) hd
 rw [e1,L0]; simp only []
 by_cases c0:(r==0)=true
 ·rw [L4 c0]
  obtain⟨r2,d2,e2,a2,b2,k2⟩:=vi (n:=n) (k:=6) (by decide) (by decide) k1
  obtain⟨x,ex,hx⟩:=Uy (n:=n) (kd:=1) (l:=fD) (by decide) a2 (show r2<((6:Nat):Int)from b2)
  rw [e2,L0]; simp only []
  unfold fD at ex; rw [ex]
  exact⟨_,_,rfl,hx,k2⟩
 ·rw [L3 c0]
  by_cases c1:(r==1)=true
  ·rw [L4 c1]
   obtain⟨r2,d2,e2,a2,b2,k2⟩:=vi (n:=n) (k:=7) (by decide) (by decide) k1
   obtain⟨x,ex,hx⟩:=Uy (n:=n) (kd:=2) (l:=og) (by decide) a2 (show r2<((7:Nat):Int)from b2)
   rw [e2,L0]; simp only []
   unfold og at ex; rw [ex]
   exact⟨_,_,rfl,hx,k2⟩
  ·rw [L3 c1]
   by_cases c2:(r==2)=true
   ·rw [L4 c2]
    obtain⟨r2,d2,e2,a2,b2,k2⟩:=vi (n:=n) (k:=4) (by decide) (by decide) k1
    obtain⟨x,ex,hx⟩:=Uy (n:=n) (kd:=7) (l:=ips) (by decide) a2 (show r2<((4:Nat):Int)from b2)
    rw [e2,L0]; simp only []
    unfold ips at ex; rw [ex]
    exact⟨_,_,rfl,hx,k2⟩
   ·rw [L3 c2]
    obtain⟨x,d2,e2,b2,k2⟩:=V4 (n:=n) (by omega) k1
    rw [e2]
    exact⟨_,_,rfl,PL b2,k2⟩
end Go.Abs
end
