/- WireEncodesQueries returns true for every list of numbers and every raw query, and leaves both as they were. Conditions: those of the given card alone. -/
import Derived.Test.YtbggpcnbbhjiaaaGreatDoorMain1
set_option linter.unusedVariables false
set_option linter.unusedSimpArgs false
set_option linter.unnecessarySimpa false
section
set_option maxRecDepth 100000
namespace Go.Proofs.YtbggpcnbbhjiaaaGreatDoor
open Go.ChangeShapes Go.WideShapes Go.ChangeAt Go.RowKit Go.Abs
theorem own:ownKnob Tryz.prog.godebug=none:=by kernel_rfl
theorem GT:laidOutB Tryz.prog=true:=by kernel_rfl
noncomputable def WL (g:Nat):Option Nat:=(((begin Tryz.prog (fun _ _=>0) default).world.heap[g]?).bind Obj.row?).map fun x=>x.1.size
theorem XA {W:World} (h:W.ShapedOpen Tryz.prog) {g n:Nat} (hg:Nat.blt g Tryz.prog.globals.size=true) (hk:WL g=some n):∃C el fz,W.heap[g]? =some (.cells C el fz)∧C.size=n:=by
 unfold WL at hk
 obtain⟨⟨z,t⟩,h1,h2⟩:=Option.map_eq_some_iff.1 hk
 obtain⟨cs,h3,h4,_⟩:=h.1 g z t (by simpa using hg) h1
 exact⟨cs,t,_,h3,by rw [h4]; exact h2⟩
theorem oi:WL 0=some 12:=by kernel_rfl
theorem oD:WL 1=some 1:=by kernel_rfl
theorem m9:WL 2=some 20:=by kernel_rfl
theorem Qm {W:World} {name:String} {g e n:Nat} {k:IntKind} {t:TypeId} {cs:Array Value} {fuel:Nat} {p:List MemPlace} {tab:List Int}
  (hn:Tryz.prog.globalNamed name=some g) (hu:Tryz.prog.underlying t=some (.array n e)) (he:Tryz.prog.underlying e=some (.int k)) (hc:Tryz.prog.cellsOf e=1) (hlen:tab.length=n)
  (hv:W.var? Tryz.prog name=some cs) {enc:TypeId×Value→Unit} {base:Nat} {sp:Nat→Bool} {held:Bool}
  (hd:DataW.trod enc Tryz.prog W base sp held fuel t cs.toList=some (.agg (tab.map fun x=> .lit (.int k x)),p)) (r:Nat) (hr:r<n):W.cell? ⟨g,r,none⟩=some (.int k (tab.getD r 0)):=by
 obtain⟨xs,m,_,ex,_,hl,hel⟩:=DataW.trod_array hu hd
 have hE:=hel r hr
 rw [hc,Nat.mul_one,List.getElem?_eq_getElem (by omega)]at hE
 obtain⟨z,e1,e2,_⟩:=DataW.trod_int he hE
 have e3:(xs.map (·.1))=tab.map fun n=> .lit (.int k n):=(DataW.agg.inj (Prod.mk.inj ex).1).symm
 have e4:(xs.map (·.1))[r]? =(tab.map fun n=>(DataW.lit (.int k n):DataW Unit))[r]? :=by rw [e3]
 rw [List.getElem?_map,List.getElem?_map,List.getElem?_eq_getElem (by omega:r<xs.length),List.getElem?_eq_getElem (by omega:r<tab.length),e2]at e4
 have hz:z=tab.getD r 0:=by
  simp only [Option.map_some,Option.some.injEq,DataW.lit.injEq,Lit.int.injEq,true_and]at e4
  rw [e4,List.getD,List.getElem?_eq_getElem (by omega:r<tab.length)]; rfl
 rw [World.var?_cell hn hv r,←hz]
 have:cs.toList[r]? =some (.int k z):=by
  have h0:((cs.toList.drop r).take 1)[0]? =some (.int k z):=by rw [e1]; rfl
  simpa using h0
 simpa using this
theorem BJ {W:World} (h:laidMetH Tryz.prog Rows.wireEncodesQueriesRow.laid W):(∀r,r<12→W.cell? ⟨0,r,none⟩=some (.int .i64 (UQ.getD r 0)))∧(∀r,r<20→W.cell? ⟨2,r,none⟩=some (.int .u64 (Kn.getD r 0))):=by
 rw [MakeChecks.laidMetH_plain _ _ _ (by kernel_rfl)]at h
 obtain⟨ps,⟨_,_,_,_,_,_,_,_,_,_,⟨_,_,_,_,_,_,_,_,_,_,⟨g2,t2,cs2,fuel2,p2,q2,hg2,ht2,hv2,hd2,⟨_,_,_,_,_,_,_,_,_,_,⟨g,t,cs,fuel,p,q,hg,ht,hv,hd,_,_⟩,_⟩,_⟩,_⟩,_⟩,_,_⟩:=h
 refine⟨?_, ?_⟩
 ·obtain rfl := Option.some.inj ((show Tryz.prog.globalNamed "certpath/date.lengths" = some 0 by kernel_rfl).symm.trans hg)
  obtain rfl:=Option.some.inj ((show(Tryz.prog.globals[0]?).map (·.type)=some 240 by kernel_rfl).symm.trans ht)
  exact Qm (tab:=UQ) (by kernel_rfl) (show Tryz.prog.underlying 240=some (.array 12 3)by kernel_rfl) (show Tryz.prog.underlying 3=some (.int .i64)by kernel_rfl) (by kernel_rfl) (by kernel_rfl) hv hd
 ·obtain rfl := Option.some.inj ((show Tryz.prog.globalNamed "internal/strconv.uint64pow10" = some 2 by kernel_rfl).symm.trans hg2)
  obtain rfl:=Option.some.inj ((show(Tryz.prog.globals[2]?).map (·.type)=some 288 by kernel_rfl).symm.trans ht2)
  exact Qm (tab:=Kn) (by kernel_rfl) (show Tryz.prog.underlying 288=some (.array 20 192)by kernel_rfl) (show Tryz.prog.underlying 192=some (.int .u64)by kernel_rfl) (by kernel_rfl) (by kernel_rfl) hv2 hd2
def JC (W:World) (b o:Nat):Option Att:=match W.cell? ⟨b,o,none⟩,W.cell? ⟨b,o+1,none⟩,W.cell? ⟨b,o+2,none⟩with
 |some (.string s),some (.int .i64 k),some (.string v)=>some ⟨s.data.toList,k,v.data.toList⟩
 |_,_,_=>none
def Yg {α:Type} (f:Nat→Nat→Option α) (sz:Nat):Value→Option (List α)
 | .slice none 0 0=>some []
 | .slice (some a) len cap=>if(a.spot=none∧len≤cap)∨(len=0∧cap=0)then(List.range len).mapM fun i=>f a.block (a.off+i*sz)else none
 |_=>none
def Z3 (W:World) (v:Value):Option (List Att):=Yg (JC W) 3 v
def XG (W:World) (v:Value):Option (List (List Att)):=Yg (fun b o=>(W.cell? ⟨b,o,none⟩).bind (Z3 W)) 1 v
def plain (W:World) (b i:Nat):Option V:=match W.cell? ⟨b,i,none⟩with
 |some (.int k n)=>some (.int k n)
 |some (.string s)=>some (.str s.data.toList)
 | some v=>match XG W v with
  |some (x::l)=>some (.sl 1 ((x::l).map fun r=> [.sl 3 (r.map zb.cells) .none]) .none)
  |_=>(Z3 W v).map fun r=> .sl 3 (r.map zb.cells) .none
 |_=>none
def gh (W:World):Gh:=⟨plain W,fun _=>none,fun _ _=>none,fun _=>0⟩
theorem UD {α β:Type} {f:α→Option β}:∀ {l:List α} {r:List β},l.mapM f=some r→r.length=l.length∧∀(i:Nat) (x:α) (y:β),l[i]? =some x→r[i]? =some y→f x=some y
 | [],r,h=>by simp at h; subst h; simp
 | a ::l,r,h=>by
  rw [List.mapM_cons]at h
  cases ha:f a with
  |none=>rw [ha]at h; cases h
  | some y=>
   rw [ha]at h
   cases hl:l.mapM f with
   |none=>rw [hl]at h; cases h
   | some r'=>
    rw [hl]at h
    obtain rfl:y::r'=r:=by injection h
    obtain⟨h1,h2⟩:=UD hl
    refine⟨by simp [h1],fun i x z hx hz=> ?_⟩
    match i with
    |0=>simp at hx hz; subst hx hz; exact ha
    |i+1=>exact h2 i x z (by simpa using hx) (by simpa using hz)
theorem kT {α:Type} {f:Nat→Nat→Option α} {sz:Nat} {v:Value} {l:List α} (h:Yg f sz v=some l):
  (v= .slice none 0 0∧l= [])∨(∃a,v= .slice (some a) 0 0∧l= [])∨∃b o cap,v= .slice (some ⟨b,o,none⟩) l.length cap∧l.length≤cap∧∀(i:Nat) (x:α),l[i]? =some x→f b (o+i*sz)=some x:=by
 unfold Yg at h
 split at h
 ·injection h with h; exact .inl ⟨rfl,h.symm⟩
 ·rename_i a len cap
  split at h
  ·rename_i hc
   obtain⟨h1,h2⟩:=UD h
   rw [List.length_range]at h1
   subst h1
   rcases hc with⟨hs,hl⟩|⟨hl,hcp⟩
   ·right; right
    obtain⟨b,o,sp⟩:=a
    simp only at hs; subst hs
    refine⟨b,o,cap,rfl,hl,fun i x hx=> ?_⟩
    have hi:i<l.length:=(List.getElem?_eq_some_iff.1 hx).1
    exact h2 i i x (by simp [hi]) hx
   ·right; left
    have:l= []:=List.eq_nil_of_length_eq_zero hl
    subst this; subst hcp
    exact⟨a,rfl,rfl⟩
  ·cases h
 ·cases h
theorem Qo {W:World} {b o:Nat} {a:Att} (h:JC W b o=some a) (j:Nat) (v:V) (hv:(zb.cells a)[j]? =some v):plain W b (o+j)=some v:=by
 unfold JC at h
 split at h
 ·rename_i s k z h0 h1 h2
  injection h with h; subst h
  match j with
  |0=>simp [zb.cells]at hv; subst hv; simp [plain,h0]
  |1=>simp [zb.cells]at hv; subst hv; simp [plain,h1]
  |2=>simp [zb.cells]at hv; subst hv; simp [plain,h2]
  |j+3=>simp [zb.cells]at hv
 ·cases h
theorem eR {W:World} {v:Value} {r:List Att} (h:Z3 W v=some r):VR (gh W) (.sl 3 (r.map zb.cells) .none) v:=by
 rcases kT h with⟨rfl,rfl⟩|⟨a,rfl,rfl⟩|⟨b,o,cap,rfl,hl,hx⟩
 ·exact .slnil _ _
 ·exact .slz _ _
 ·have hv:VR (gh W) (.sl 3 (r.map zb.cells) .none) (.slice (some ⟨b,o,none⟩) (r.map zb.cells).length cap):=by
   refine .sl ?_ trivial (by rw [List.length_map]; exact hl)
   intro i e he
   rw [List.getElem?_map]at he
   obtain⟨x,hx1,rfl⟩:=Option.map_eq_some_iff.1 he
   exact⟨rfl,fun j v hv=> .of (Qo (hx i x hx1) j v hv)⟩
  rw [List.length_map]at hv
  exact hv
theorem Gj {W:World} {b i:Nat} {v:Value} {r:List Att} (hc:W.cell? ⟨b,i,none⟩=some v) (h:Z3 W v=some r):(gh W).Im b i (.sl 3 (r.map zb.cells) .none):=by
 refine .of ?_
 have hn:∀x l,XG W v≠some (x::l):=by
  intro x l hn
  rcases kT hn with⟨_,hl⟩|⟨a,_,hl⟩|⟨b',o',cap',rfl,hl,hx⟩
  ·cases hl
  ·cases hl
  ·rcases kT h with⟨hv,_⟩|⟨a,hv,_⟩|⟨b2,o2,cap2,hv,hl2,hx2⟩
   ·cases hv
   ·cases hv
   ·injection hv with h1 h2 h3
    injection h1 with h1; injection h1 with h1 h4
    subst h1 h4
    have hlen:0<r.length:=by rw [←h2]; simp
    have y1:=hx 0 x rfl
    have y2:=hx2 0 r[0] (List.getElem?_eq_getElem hlen)
    simp only [Nat.zero_mul,Nat.add_zero]at y1 y2
    unfold JC at y2
    split at y2
    ·rename_i s k z h0 _ _
     rw [h0]at y1
     cases y1
    ·cases y2
 have hs:∃b l c,v= .slice b l c:=by
  rcases kT h with⟨rfl,_⟩|⟨a,rfl,_⟩|⟨b2,o2,cap2,rfl,_,_⟩<;>exact⟨_,_,_,rfl⟩
 obtain⟨b',l',c',rfl⟩:=hs
 show plain W b i=_
 unfold plain
 rw [hc]
 simp only []
 rw [h]; rfl
theorem cY {W:World} {v:Value} {l:List (List Att)} (h:XG W v=some l):VR (gh W) (.sl 1 (l.map fun r=> [.sl 3 (r.map zb.cells) .none]) .none) v:=by
 rcases kT h with⟨rfl,rfl⟩|⟨a,rfl,rfl⟩|⟨b,o,cap,rfl,hl,hx⟩
 ·exact .slnil _ _
 ·exact .slz _ _
 ·have hv:VR (gh W) (.sl 1 (l.map fun r=> [.sl 3 (r.map zb.cells) .none]) .none) (.slice (some ⟨b,o,none⟩) (l.map fun r=> [V.sl 3 (r.map zb.cells) .none]).length cap):=by
   refine .sl ?_ trivial (by rw [List.length_map]; exact hl)
   intro i e he
   rw [List.getElem?_map]at he
   obtain⟨x,hx1,rfl⟩:=Option.map_eq_some_iff.1 he
   refine⟨rfl,fun j v hv=> ?_⟩
   match j,hv with
   | 0,hv=>
    simp at hv; subst hv
    obtain⟨c,h1,h2⟩:=Option.bind_eq_some_iff.1 (hx i x hx1)
    exact Gj h1 h2
   |j+1,hv=>simp at hv
  rw [List.length_map]at hv
  exact hv
theorem BS {W:World} {b i:Nat} {v:Value} {l:List (List Att)} (hc:W.cell? ⟨b,i,none⟩=some v) (h:XG W v=some l):(gh W).Im b i (.sl 1 (l.map fun r=> [.sl 3 (r.map zb.cells) .none]) .none):=by
 match l,h with
 | [],h=>
  have ha:Z3 W v=some []:=by
   rcases kT h with⟨rfl,_⟩|⟨a,rfl,_⟩|⟨b2,o2,cap2,rfl,hl,_⟩
   ·rfl
   ·simp [Z3,Yg]
   ·simp [Z3,Yg]
  obtain⟨u,h1,h2⟩:=Gj hc ha
  refine⟨u,h1, ?_⟩
  rcases h2 with rfl|⟨x,y,rfl,_⟩
  ·exact .inr ⟨3,1,rfl,rfl⟩
  ·exact .inr ⟨x,1,rfl,rfl⟩
 | x::l,h=>
  refine .of ?_
  have hs:∃b l c,v= .slice b l c:=by
   rcases kT h with⟨rfl,_⟩|⟨a,rfl,_⟩|⟨b2,o2,cap2,rfl,_,_⟩<;>exact⟨_,_,_,rfl⟩
  obtain⟨b',l',c',rfl⟩:=hs
  show plain W b i=_
  unfold plain
  rw [hc]
  simp only []
  rw [h]
theorem fS {mx:Int} {W:World} (hs:W.ShapedOpen Tryz.prog) (h0:∀r,r<12→W.cell? ⟨0,r,none⟩=some (.int .i64 (UQ.getD r 0))) (h1:W.cell? ⟨1,0,none⟩=some (.int .i64 mx)) (h2:∀r,r<20→W.cell? ⟨2,r,none⟩=some (.int .u64 (Kn.getD r 0))):
    Rel (gl0 mx) ⟨W,fun _=>False,plain W⟩ (gh W) ⟨[],[]⟩ W where
  below:=V2.refl W _ _
  vars:=fun id cells hc=>by simp at hc
  varlt:=fun id b hi=>by simp at hi
  sc:=fun id cells hc=>by simp at hc
  disj:=fun i j b ci cj hi=>by simp at hi
  imm := fun b i v hv=>by
    simp only [gh,plain]at hv
    split at hv
    · rename_i k n hc
      injection hv with hv; subst hv
      exact⟨rfl,_,hc, .int _ _⟩
    · rename_i s hc
      injection hv with hv; subst hv
      exact⟨rfl,_,hc, .str _⟩
    · rename_i c _ _ hc
      split at hv
      · rename_i x l hn
        injection hv with hv; subst hv
        exact⟨rfl,_,hc,cY hn⟩
      · obtain⟨r,hr,rfl⟩:=Option.map_eq_some_iff.1 hv
        exact⟨rfl,_,hc,eR hr⟩
    · cases hv
  fam:=fun t p b e lim ht=>by simp at ht
  famdisj:=fun t t' p p' b e l e' l' ht=>by simp at ht
  glob :=fun g i v hv=>by
    match g,hv with
    | 0, hv=>
      have hl:i<12:=by
        have:=zJ hv
        simpa [gl0,UQ] using this
      have e1:(gl0 mx 0)[i]? =some (vI .i64 (UQ.getD i 0)):=by
        simp only [gl0,List.getElem?_map,List.getD]
        rw [List.getElem?_eq_getElem (show i<UQ.length from hl)]; rfl
      rw [e1]at hv; injection hv with hv; subst hv
      simp [gh,plain,h0 i hl,vI]
    | 1,hv=>
      match i,hv with
      |0,hv=>simp [gl0]at hv; subst hv; simp [gh,plain,h1]
      |i+1,hv=>simp [gl0]at hv
    | 2, hv=>
      have hl:i<20:=by
        have:=zJ hv
        simpa [gl0,Kn] using this
      have e1:(gl0 mx 2)[i]? =some (vI .u64 (Kn.getD i 0)):=by
        simp only [gl0,List.getElem?_map,List.getD]
        rw [List.getElem?_eq_getElem (show i<Kn.length from hl)]; rfl
      rw [e1]at hv; injection hv with hv; subst hv
      simp [gh,plain,h2 i hl,vI]
    |g+3,hv=>simp [gl0]at hv
  gfix:=fun g hn=>by
    have key:∃C el fz,W.heap[g]? =some (.cells C el fz)∧C.size=(gl0 mx g).length:=by
     match g,hn with
     |0,_=>obtain⟨C,el,fz,k1,k2⟩:=XA hs (by kernel_rfl) oi; exact⟨C,el,fz,k1,by rw [k2]; rfl⟩
     |1,_=>obtain⟨C,el,fz,k1,k2⟩:=XA hs (by kernel_rfl) oD; exact⟨C,el,fz,k1,by rw [k2]; rfl⟩
     |2,_=>obtain⟨C,el,fz,k1,k2⟩:=XA hs (by kernel_rfl) m9; exact⟨C,el,fz,k1,by rw [k2]; rfl⟩
     |g+3,hn=>exact absurd rfl hn
    obtain⟨C,el,fz,k1,k2⟩:=key
    exact⟨fun h=>h.elim (fun h=>by have:=jS k1; exact absurd this (Nat.not_lt.2 h)) id,C,el,fz,k1,k2⟩
  old:=fun b i _=>rfl
theorem eX {l:List Int} {q:Qry} {W:World} {mx:Int} (hl:l.length≤9223372036854775807) (hfl:q.zn.length≤9223372036854775807) (hs:W.ShapedOpen Tryz.prog) (h0:∀r,r<12→W.cell? ⟨0,r,none⟩=some (.int .i64 (UQ.getD r 0))) (h1:W.cell? ⟨1,0,none⟩=some (.int .i64 mx)) (h2:∀r,r<20→W.cell? ⟨2,r,none⟩=some (.int .u64 (Kn.getD r 0)))
  {c c2:Value} (hc:VR (gh W) (.sl 1 (l.map (cI .i64)) .none) c) (hc2:VR (gh W) (.agg (zl.cells q)) c2):Calls Tryz.prog 3 #[c,c2] W fun e W'=>e= .returned (.bool true)∧Below W.heap.size W W':=by
 have:=(kR (mx:=mx) (Q2 l q hl hfl)).2 ⟨W,fun _=>False,plain W⟩ (gh W) W #[c,c2] (fS hs h0 h1 h2) ⟨rfl,fun i v x hv hx=>by
  match i with
  |0=>simp at hv hx; subst hv hx; exact hc
  |1=>simp at hv hx; subst hv hx; exact hc2
  |i+2=>simp at hv⟩ (by simp [V.scs,V.sc,zl.cells])
 refine this.mono ?_
 rintro e W' ⟨r,c',st',G',rfl,⟨rfl,rfl⟩,hvr,_,hrel,_,_⟩
 cases hvr
 exact⟨rfl,hrel.below.os,hrel.below.tape,hrel.below.output,hrel.below.size,fun k hk=>hrel.below.heap k hk (fun h=>h)⟩
end Go.Proofs.YtbggpcnbbhjiaaaGreatDoor
end
section
set_option maxRecDepth 100000
namespace Go.Proofs.YtbggpcnbbhjiaaaGreatDoor
open Go.ChangeShapes Go.WideShapes Go.ChangeAt Go.RowKit Go.Abs Go.Deep
theorem co3:Tryz.prog.cellsOf 3=1:=by kernel_rfl
theorem co4:Tryz.prog.cellsOf 4=1:=by kernel_rfl
theorem oW:Tryz.prog.cellsOf 23=1:=by kernel_rfl
theorem rF:Tryz.prog.cellsOf 24=1:=by kernel_rfl
theorem rA:Tryz.prog.cellsOf 25=1:=by kernel_rfl
theorem rp:Tryz.prog.cellsOf 27=11:=by kernel_rfl
theorem rO:Tryz.prog.cellsOf 59=3:=by kernel_rfl
theorem co9:Tryz.prog.cellsOf 9=1:=by kernel_rfl
theorem nY:Tryz.prog.cellsOf 55=1:=by kernel_rfl
theorem nZ:Tryz.prog.cellsOf 57=1:=by kernel_rfl
theorem rx:Tryz.prog.cellsOf 65=3:=by kernel_rfl
theorem ri:Tryz.prog.cellsOf 68=4:=by kernel_rfl
theorem lV:Tryz.prog.cellsOf 140=3:=by kernel_rfl
theorem mj:Tryz.prog.cellsOf 141=1:=by kernel_rfl
def Kp (W:World) (b o:Nat):Option Anc:=match W.cell? ⟨b,o,none⟩,W.cell? ⟨b,o+1,none⟩,W.cell? ⟨b,o+2,none⟩,W.cell? ⟨b,o+3,none⟩with
 |some c,some (.int .i64 k),some (.string s),some (.string r)=>(XG W c).map fun l=>⟨⟨l⟩,⟨k,s.data.toList,r.data.toList⟩⟩
 |_,_,_,_=>none
theorem Kc {W:World} {b o:Nat} {a:Anc} (h:Kp W b o=some a) (j:Nat) (v:V) (hv:(ze.cells a)[j]? =some v):(gh W).Im b (o+j) v:=by
 unfold Kp at h
 split at h
 ·rename_i c k s r h0 h1 h2 h3
  obtain⟨l,hl,rfl⟩:=Option.map_eq_some_iff.1 h
  match j with
  | 0=>
   simp only [ze.cells,List.getElem?_cons_zero,Option.some.injEq]at hv; subst hv
   exact BS h0 hl
  |1=>simp [ze.cells]at hv; subst hv; exact .of (by simp [gh,plain,h1])
  |2=>simp [ze.cells]at hv; subst hv; exact .of (by simp [gh,plain,h2])
  |3=>simp [ze.cells]at hv; subst hv; exact .of (by simp [gh,plain,h3])
  |j+4=>simp [ze.cells]at hv
 ·cases h
def Ke (W:World) (b o:Nat):Option Gen:=match W.cell? ⟨b,o,none⟩,W.cell? ⟨b,o+1,none⟩,W.cell? ⟨b,o+2,none⟩with
 |some (.int .i64 k),some (.string s),some c=>(XG W c).map fun l=>⟨k,s.data.toList,⟨l⟩⟩
 |_,_,_=>none
theorem Ka {W:World} {b o:Nat} {a:Gen} (h:Ke W b o=some a) (j:Nat) (v:V) (hv:(zc.cells a)[j]? =some v):(gh W).Im b (o+j) v:=by
 unfold Ke at h
 split at h
 ·rename_i k s c h0 h1 h2
  obtain⟨l,hl,rfl⟩:=Option.map_eq_some_iff.1 h
  match j with
  |0=>simp [zc.cells]at hv; subst hv; exact .of (by simp [gh,plain,h0])
  |1=>simp [zc.cells]at hv; subst hv; exact .of (by simp [gh,plain,h1])
  | 2=>
   simp only [zc.cells,List.getElem?_cons_zero,List.getElem?_cons_succ,Option.some.injEq]at hv; subst hv
   exact BS h2 hl
  |j+3=>simp [zc.cells]at hv
 ·cases h
theorem JF {W:World} {α:Type} {f:Nat→Nat→Option α} {g:α→List V} {sz:Nat} (hg:∀a,(g a).length=sz) (hf:∀b o a,f b o=some a→∀(j:Nat) (v:V),(g a)[j]? =some v→(gh W).Im b (o+j) v) {v:Value} {l:List α} (h:Yg f sz v=some l):VR (gh W) (.sl sz (l.map g) .none) v:=by
 rcases kT h with⟨rfl,rfl⟩|⟨a,rfl,rfl⟩|⟨b,o,cap,rfl,hl,hx⟩
 ·exact .slnil _ _
 ·exact .slz _ _
 ·have hv:VR (gh W) (.sl sz (l.map g) .none) (.slice (some ⟨b,o,none⟩) (l.map g).length cap):=by
   refine .sl ?_ trivial (by rw [List.length_map]; exact hl)
   intro i e he
   rw [List.getElem?_map]at he
   obtain⟨x,hx1,rfl⟩:=Option.map_eq_some_iff.1 he
   exact⟨hg x,fun j v hv=>hf _ _ _ (hx i x hx1) j v hv⟩
  rw [List.length_map]at hv
  exact hv
theorem GR {α β:Type} {f:α→Option β}:∀ {l:List α},(∀x∈l,∃y,f x=some y)→∃r,l.mapM f=some r
 | [],_=>⟨[],by simp⟩
 | a::l,h=>by
  obtain⟨y,hy⟩:=h a (by simp)
  obtain⟨r,hr⟩:=GR (l:=l) fun x hx=>h x (by simp [hx])
  exact⟨y::r,by rw [List.mapM_cons,hy,hr]; rfl⟩
theorem VI {W:World} {base n:Nat} {a:Addr} {cs:List Value} (h:W.cells? base a n=some cs) (hn:0<n):a.spot=none∧cs.length=n∧∀i,i<n→W.cell? ⟨a.block,a.off+i,none⟩=cs[i]? :=by
 obtain⟨_,h1,h2⟩:=World.cells?_some h
 have hs:a.spot=none:=by
  have:=h2 0 hn
  rw [List.getElem?_eq_getElem (by omega),show a.add 0=a from rfl]at this
  unfold World.cell? at this
  split at this
  ·cases hq:a.spot with
   |none=>rfl
   |some x=>rw [hq]at this; simp at this
  ·cases this
 refine⟨hs,h1,fun i hi=> ?_⟩
 obtain⟨b,o,sp⟩:=a
 simp only at hs; subst hs
 rw [←h2 i hi,add_plain]
section
variable {H:Type} {enc:TypeId×Value→H}
theorem ZW {W:World} {α:Type} {f:Nat→Nat→Option α} {sz fuel:Nat} {t e:TypeId} {v:Value} {x:DataW H×List MemPlace} (ht:Tryz.prog.underlying t=some (.slice e)) (hc:Tryz.prog.cellsOf e=sz) (hsz:0<sz)
  (hf:∀(b o n:Nat) (cs:List Value) (y:DataW H×List MemPlace),cs.length=sz→(∀i,i<sz→W.cell? ⟨b,o+i,none⟩=cs[i]?)→DataW.trod enc Tryz.prog W 0 (fun _=>true) true n e cs=some y→∃z,f b o=some z)
  (h0:DataW.trod enc Tryz.prog W 0 (fun _=>true) true fuel t [v]=some x):∃l,Yg f sz v=some l∧l.length≤maxLen:=by
 rcases open_slice ht h0 with⟨hcs,_⟩|⟨a,len,cap,m,n,D,Pl,hcs,_,hl,hm,hmm,_,hx⟩
 ·obtain rfl:=(List.cons.inj hcs).1
  exact⟨[],rfl,Nat.zero_le _⟩
 ·obtain rfl:=(List.cons.inj hcs).1
  simp only [if_true]at hmm
  subst hmm
  rw [hc]at hx
  have key:((a.spot=none∧len≤m)∨(len=0∧m=0))∧∀i,i<len→∃y,f a.block (a.off+i*sz)=some y:=by
   by_cases h:m=0
   ·exact⟨.inr ⟨by omega,h⟩,fun i hi=>by omega⟩
   ·obtain⟨cs0,g0,_⟩:=hx 0 (by omega)
    rw [Nat.zero_mul,show a.add 0=a from rfl]at g0
    have hs:=(VI g0 hsz).1
    refine⟨.inl ⟨hs,hl⟩,fun i hi=> ?_⟩
    obtain⟨cs',g1,g2⟩:=hx i (by omega)
    obtain⟨b,o,sp⟩:=a
    simp only at hs; subst hs
    rw [add_plain]at g1
    obtain⟨_,g3,g4⟩:=VI g1 hsz
    exact hf b (o+i*sz) n cs' _ g3 g4 g2
  obtain⟨r,hr⟩:=GR (f:=fun i=>f a.block (a.off+i*sz)) (l:=List.range len) fun i hi=>key.2 i (List.mem_range.1 hi)
  have hlen:=(UD hr).1
  rw [List.length_range]at hlen
  refine⟨r, ?_,by omega⟩
  unfold Yg
  simp only []
  rw [if_pos key.1,hr]
theorem Df {W:World} {fuel:Nat} {v:Value} {x:DataW H×List MemPlace} (h0:DataW.trod enc Tryz.prog W 0 (fun _=>true) true fuel 141 [v]=some x):∃l,Z3 W v=some l:=by
 obtain ⟨l,hl,_⟩:=ZW (f:=JC W) Tryz.underlying141 lV (by decide) (fun b o n cs y hlen hcell ht=>by
  match cs,hlen with
  | [c0,c1,c2],_=>
   obtain⟨y0,y1,y2,m,_,_,k0,k1,k2⟩:=trod_struct3 Tryz.underlying140 ht
   simp only [co3,co9]at k0 k1 k2
   obtain⟨s,e0,_⟩:=DataW.trod_string Tryz.underlying9 k0
   obtain⟨k,e1,_⟩:=DataW.trod_int Tryz.underlying3 k1
   obtain⟨z,e2,_⟩:=DataW.trod_string Tryz.underlying9 k2
   obtain rfl:c0= .string s:=(List.cons.inj e0).1
   obtain rfl:c1= .int .i64 k:=(List.cons.inj e1).1
   obtain rfl:c2= .string z:=(List.cons.inj e2).1
   have h0:=hcell 0 (by omega)
   have h1:=hcell 1 (by omega)
   have h2:=hcell 2 (by omega)
   simp only [Nat.add_zero,List.getElem?_cons_zero,List.getElem?_cons_succ]at h0 h1 h2
   exact⟨_,by unfold JC; rw [h0,h1,h2]⟩) h0
 exact⟨l,hl⟩
theorem Jb {W:World} {fuel:Nat} {v:Value} {x:DataW H×List MemPlace} (h0:DataW.trod enc Tryz.prog W 0 (fun _=>true) true fuel 55 [v]=some x):∃l,XG W v=some l:=by
 obtain ⟨l,hl,_⟩:=ZW (f:=fun b o=>(W.cell? ⟨b,o,none⟩).bind (Z3 W)) Tryz.underlying55 mj (by decide) (fun b o n cs y hlen hcell ht=>by
  match cs,hlen with
  | [c0],_=>
   obtain⟨r,hr⟩:=Df ht
   have h0:=hcell 0 (by omega)
   simp only [Nat.add_zero,List.getElem?_cons_zero]at h0
   exact⟨r,by rw [h0,Option.bind_some,hr]⟩) h0
 exact⟨l,hl⟩
theorem vN {W:World} {t:TypeId} {fs:Array Field} {fuel:Nat} {cs:List Value} {x:DataW H×List MemPlace} (ht:Tryz.prog.underlying t=some (.struct fs)) (h:DataW.trod enc Tryz.prog W 0 (fun _=>true) true fuel t cs=some x) (i:Nat) (f:Field) (hf:fs[i]? =some f):
  ∃n y,DataW.trod enc Tryz.prog W 0 (fun _=>true) true n f.type ((cs.drop f.offset).take (Tryz.prog.cellsOf f.type))=some y:=by
 obtain⟨xs,n,_,_,_,hl,hx⟩:=DataW.trod_struct ht h
 have hi:i<xs.length:=by
  have:=(Array.getElem?_eq_some_iff.1 hf).1; omega
 exact⟨n,xs[i],by rw [hx i f hf,List.getElem?_eq_getElem hi]⟩
theorem Dv {W:World} {fuel:Nat} {v:Value} {x:DataW H×List MemPlace} (h0:DataW.trod enc Tryz.prog W 0 (fun _=>true) true fuel 25 [v]=some x):∃l:List Anc,l.length≤9223372036854775807∧VR (gh W) (.sl 4 (l.map ze.cells) .none) v:=by
 obtain ⟨l,hl,hlen⟩:=ZW (f:=Kp W) Tryz.underlying25 ri (by decide) (fun b o n cs y hlen hcell ht=>by
  match cs,hlen with
  | [c0,c1,c2,c3],_=>
   obtain ⟨n0, y0, k0⟩ := vN Tryz.underlying68 ht 0 (Field.mk "Name" 57 0 false "" "" 0) rfl
   obtain ⟨n1, y1, k1⟩ := vN Tryz.underlying68 ht 1 (Field.mk "Key" 65 1 false "" "" 24) rfl
   simp only [nZ,rx]at k0 k1
   obtain ⟨m0, z0, q0⟩ := vN Tryz.underlying57 k0 0 (Field.mk "RDNs" 55 0 false "" "" 0) rfl
   simp only [nY]at q0
   obtain⟨nm,hnm⟩:=Jb q0
   obtain⟨y2,y3,y4,m,_,_,q1,q2,q3⟩:=trod_struct3 Tryz.underlying65 k1
   simp only [co3,co9]at q1 q2 q3
   obtain⟨k,e1,_⟩:=DataW.trod_int Tryz.underlying3 q1
   obtain⟨s,e2,_⟩:=DataW.trod_string Tryz.underlying9 q2
   obtain⟨z,e3,_⟩:=DataW.trod_string Tryz.underlying9 q3
   obtain rfl:c1= .int .i64 k:=(List.cons.inj e1).1
   obtain rfl:c2= .string s:=(List.cons.inj e2).1
   obtain rfl:c3= .string z:=(List.cons.inj e3).1
   have h0:=hcell 0 (by omega)
   have h1:=hcell 1 (by omega)
   have h2:=hcell 2 (by omega)
   have h3:=hcell 3 (by omega)
   simp only [Nat.add_zero,List.getElem?_cons_zero,List.getElem?_cons_succ]at h0 h1 h2 h3
   exact⟨_,by unfold Kp; rw [h0,h1,h2,h3]; simp only []; rw [hnm]; rfl⟩) h0
 exact⟨l,by simpa [maxLen] using hlen,JF (f:=Kp W) (g:=ze.cells) (sz:=4) (fun _=>rfl) (fun _ _ _ h=>Kc h) hl⟩
theorem hD {W:World} {α:Type} {c:α→V} {l:List α} {b o cap:Nat} (hcap:l.length≤cap) (h:∀(i:Nat) (x:α),l[i]? =some x→plain W b (o+i)=some (c x)):VR (gh W) (.sl 1 (l.map fun x=> [c x]) .none) (.slice (some ⟨b,o,none⟩) l.length cap):=by
 have hv:VR (gh W) (.sl 1 (l.map fun x=> [c x]) .none) (.slice (some ⟨b,o,none⟩) (l.map fun x=> [c x]).length cap):=by
  refine .sl ?_ trivial (by rw [List.length_map]; exact hcap)
  intro i e he
  rw [List.getElem?_map]at he
  obtain⟨x,hx1,rfl⟩:=Option.map_eq_some_iff.1 he
  refine⟨rfl, ?_⟩
  intro j v hv
  match j,hv with
  | 0,hv=>
   simp at hv; subst hv
   have:=h i x hx1
   exact .of (by simpa [gh] using this)
  |j+1,hv=>simp at hv
 rw [List.length_map]at hv
 exact hv
theorem GY {W:World} {base fuel:Nat} {v:Value} {x:DataW H×List MemPlace}
  (hok:Cell.okWide Tryz.prog W .any base 22 v) (h0:DataW.trod enc Tryz.prog W 0 (fun _=>true) true fuel 22 [v]=some x):
  ∃l:List Int,l.length≤9223372036854775807∧VR (gh W) (.sl 1 (l.map (cI .i64)) .none) v:=by
 rcases open_ints Tryz.underlying22 Tryz.underlying3 (by kernel_rfl) h0 with⟨hcs,hx⟩|⟨a,len,cap,zs,hcs,_,hl,hm,hz,hx,hcell,hwz⟩
 ·obtain rfl:=(List.cons.inj hcs).1
  exact⟨[],by simp, .slnil _ _⟩
 ·obtain rfl:=(List.cons.inj hcs).1
  simp only [Cell.okWide,Cell.ok,Tryz.underlying22]at hok
  have hspot:a.spot=none:=hok.2.2.2.1
  have hcap:(cap:Int)≤9223372036854775807:=hok.2.1
  obtain⟨b,o,sp⟩:=a
  subst hspot
  simp only [if_true]at hz
  have hlen:(zs.take len).length=len:=by simp; omega
  refine⟨zs.take len,by omega, ?_⟩
  have:=hD (W:=W) (c:=fun n=> .int .i64 n) (l:=zs.take len) (b:=b) (o:=o) (cap:=cap) (by omega) (by
   intro i n hn
   have hi:i<len:=by
    have:=(List.getElem?_eq_some_iff.1 hn).1; omega
   have hzi:zs.getD i 0=n:=by
    rw [List.getElem?_take,if_pos hi]at hn; simp [List.getD,hn]
   have hc:=hcell i (by omega)
   rw [add_plain,hzi]at hc
   simp [plain,hc])
  rw [hlen]at this
  exact this
theorem DK {W:World} {fuel:Nat} {v:Value} {x:DataW H×List MemPlace} (h0:DataW.trod enc Tryz.prog W 0 (fun _=>true) true fuel 24 [v]=some x):∃l:List Gen,VR (gh W) (.sl 3 (l.map zc.cells) .none) v:=by
 obtain ⟨l,hl,hlen⟩:=ZW (f:=Ke W) Tryz.underlying24 rO (by decide) (fun b o n cs y hlen hcell ht=>by
  match cs,hlen with
  | [c0,c1,c2],_=>
   obtain⟨y0,y1,y2,m,_,_,k0,k1,k2⟩:=trod_struct3 Tryz.underlying59 ht
   simp only [co3,co9,nZ]at k0 k1 k2
   obtain ⟨m0, z0, q0⟩ := vN Tryz.underlying57 k2 0 (Field.mk "RDNs" 55 0 false "" "" 0) rfl
   simp only [nY]at q0
   obtain⟨nm,hnm⟩:=Jb q0
   obtain⟨k,e0,_⟩:=DataW.trod_int Tryz.underlying3 k0
   obtain⟨s,e1,_⟩:=DataW.trod_string Tryz.underlying9 k1
   obtain rfl:c0= .int .i64 k:=(List.cons.inj e0).1
   obtain rfl:c1= .string s:=(List.cons.inj e1).1
   have h0:=hcell 0 (by omega)
   have h1:=hcell 1 (by omega)
   have h2:=hcell 2 (by omega)
   simp only [Nat.add_zero,List.getElem?_cons_zero,List.getElem?_cons_succ]at h0 h1 h2
   exact⟨_,by unfold Ke; rw [h0,h1,h2]; simp only []; rw [hnm]; rfl⟩) h0
 exact⟨l,JF (f:=Ke W) (g:=zc.cells) (sz:=3) (fun _=>rfl) (fun _ _ _ h=>Ka h) hl⟩
def QP (W:World) (b o:Nat):Option Bs:=match W.cell? ⟨b,o,none⟩with
 |some (.string s)=>some s.data.toList
 |_=>none
theorem QO {W:World} {b o:Nat} {a:Bs} (h:QP W b o=some a) (j:Nat) (v:V) (hv:(cS a)[j]? =some v):(gh W).Im b (o+j) v:=by
 unfold QP at h
 split at h
 ·rename_i s h0
  injection h with h; subst h
  match j with
  |0=>simp [cS]at hv; subst hv; exact .of (by simp [gh,plain,h0])
  |j+1=>simp [cS]at hv
 ·cases h
theorem Dg {W:World} {fuel:Nat} {v:Value} {x:DataW H×List MemPlace} (h0:DataW.trod enc Tryz.prog W 0 (fun _=>true) true fuel 23 [v]=some x):∃l:List Bs,VR (gh W) (.sl 1 (l.map cS) .none) v:=by
 obtain ⟨l,hl,hlen⟩:=ZW (f:=QP W) Tryz.underlying23 co9 (by decide) (fun b o n cs y hlen hcell ht=>by
  match cs,hlen with
  | [c0],_=>
   obtain⟨s,e0,_⟩:=DataW.trod_string Tryz.underlying9 ht
   obtain rfl:c0= .string s:=(List.cons.inj e0).1
   have h0:=hcell 0 (by omega)
   simp only [Nat.add_zero,List.getElem?_cons_zero]at h0
   exact⟨_,by unfold QP; rw [h0]⟩) h0
 exact⟨l,JF (f:=QP W) (g:=cS) (sz:=1) (fun _=>rfl) (fun _ _ _ h=>QO h) hl⟩
theorem JJ {W:World} {base:Nat} {v:Value} {d:DataW H} {p:List MemPlace} (hok:Value.okWide Tryz.prog W .any base 27 v) (h0:DataW.Trod enc Tryz.prog W 0 (fun _=>true) true 27 v d p):∃q:Qry,q.zn.length≤9223372036854775807∧VR (gh W) (.agg (zl.cells q)) v:=by
 obtain⟨fuel,hf⟩:=h0
 simp only [Value.okWide,Tryz.underlying27]at hok
 obtain⟨cs,rfl,hsz,_⟩:=hok
 rw [rp]at hsz
 obtain⟨l,hcs⟩:∃l,cs=⟨l⟩:=⟨cs.toList,rfl⟩
 subst hcs
 match l,hsz with
 | [c0,c1,c2,c3,c4,c5,c6,c7,c8,c9,c10],_=>
  obtain ⟨_, _, k0⟩ := vN Tryz.underlying27 hf 0 (Field.mk "Time" 3 0 false "" "" 0) rfl
  obtain ⟨_, _, k1⟩ := vN Tryz.underlying27 hf 1 (Field.mk "Purpose" 9 1 false "" "" 8) rfl
  obtain ⟨_, _, k2⟩ := vN Tryz.underlying27 hf 2 (Field.mk "Usage" 3 2 false "" "" 24) rfl
  obtain ⟨_, _, k3⟩ := vN Tryz.underlying27 hf 3 (Field.mk "Policies" 23 3 false "" "" 32) rfl
  obtain ⟨_, _, k4⟩ := vN Tryz.underlying27 hf 4 (Field.mk "Explicit" 4 4 false "" "" 56) rfl
  obtain ⟨_, _, k5⟩ := vN Tryz.underlying27 hf 5 (Field.mk "NoMapping" 4 5 false "" "" 57) rfl
  obtain ⟨_, _, k6⟩ := vN Tryz.underlying27 hf 6 (Field.mk "NoAny" 4 6 false "" "" 58) rfl
  obtain ⟨_, _, k7⟩ := vN Tryz.underlying27 hf 7 (Field.mk "Names" 24 7 false "" "" 64) rfl
  obtain ⟨_, _, k8⟩ := vN Tryz.underlying27 hf 8 (Field.mk "MaxLength" 3 8 false "" "" 88) rfl
  obtain ⟨_, _, k9⟩ := vN Tryz.underlying27 hf 9 (Field.mk "Status" 4 9 false "" "" 96) rfl
  obtain ⟨_, _, k10⟩ := vN Tryz.underlying27 hf 10 (Field.mk "Issuers" 25 10 false "" "" 104) rfl
  simp only [co3,co4,co9,oW,rF,rA]at k0 k1 k2 k3 k4 k5 k6 k7 k8 k9 k10
  obtain⟨a0,e0,_⟩:=DataW.trod_int Tryz.underlying3 k0
  obtain⟨a1,e1,_⟩:=DataW.trod_string Tryz.underlying9 k1
  obtain⟨a2,e2,_⟩:=DataW.trod_int Tryz.underlying3 k2
  obtain⟨a3,v3⟩:=Dg k3
  obtain⟨a4,e4,_⟩:=DataW.trod_bool Tryz.underlying4 k4
  obtain⟨a5,e5,_⟩:=DataW.trod_bool Tryz.underlying4 k5
  obtain⟨a6,e6,_⟩:=DataW.trod_bool Tryz.underlying4 k6
  obtain⟨a7,v7⟩:=DK k7
  obtain⟨a8,e8,_⟩:=DataW.trod_int Tryz.underlying3 k8
  obtain⟨a9,e9,_⟩:=DataW.trod_bool Tryz.underlying4 k9
  obtain⟨a10,l10,v10⟩:=Dv k10
  obtain rfl:c0= .int .i64 a0:=(List.cons.inj e0).1
  obtain rfl:c1= .string a1:=(List.cons.inj e1).1
  obtain rfl:c2= .int .i64 a2:=(List.cons.inj e2).1
  obtain rfl:c4= .bool a4:=(List.cons.inj e4).1
  obtain rfl:c5= .bool a5:=(List.cons.inj e5).1
  obtain rfl:c6= .bool a6:=(List.cons.inj e6).1
  obtain rfl:c8= .int .i64 a8:=(List.cons.inj e8).1
  obtain rfl:c9= .bool a9:=(List.cons.inj e9).1
  refine⟨⟨a0,a1.data.toList,a2,a3,a4,a5,a6,a7,a8,a9,a10⟩,l10, .agg rfl ?_⟩
  intro i v x hv hx
  match i with
  |0=>cases hv; cases hx; exact .int _ _
  |1=>cases hv; cases hx; exact .str _
  |2=>cases hv; cases hx; exact .int _ _
  |3=>cases hv; cases hx; exact v3
  |4=>cases hv; cases hx; exact .bool _
  |5=>cases hv; cases hx; exact .bool _
  |6=>cases hv; cases hx; exact .bool _
  |7=>cases hv; cases hx; exact v7
  |8=>cases hv; cases hx; exact .int _ _
  |9=>cases hv; cases hx; exact .bool _
  |10=>cases hv; cases hx; exact v10
  |i+11=>cases hv
end
end Go.Proofs.YtbggpcnbbhjiaaaGreatDoor
end
