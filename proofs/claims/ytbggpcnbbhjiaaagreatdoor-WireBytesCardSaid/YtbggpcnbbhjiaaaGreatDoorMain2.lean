/- WireBytes returns true for every string, and leaves it as it was. Conditions: those of the given card alone. -/
import Derived.Test.YtbggpcnbbhjiaaaGreatDoorMain1
set_option linter.unusedVariables false
set_option linter.unusedSimpArgs false
set_option linter.unnecessarySimpa false
section
set_option maxRecDepth 100000
namespace Go.Proofs.YtbggpcnbbhjiaaaGreatDoor
open Go.ChangeShapes Go.WideShapes Go.ChangeAt Go.RowKit Go.Abs
theorem own:ownKnob Tryz.prog.godebug=none:=by kernel_rfl
theorem tO:laidOutB Tryz.prog=true:=by kernel_rfl
noncomputable def Qf (g:Nat):Option Nat:=(((begin Tryz.prog (fun _ _=>0) default).world.heap[g]?).bind Obj.row?).map fun x=>x.1.size
theorem Ji {W:World} (h:W.ShapedOpen Tryz.prog) {g n:Nat} (hg:Nat.blt g Tryz.prog.globals.size=true) (hk:Qf g=some n):∃C el fz,W.heap[g]? =some (.cells C el fz)∧C.size=n:=by
 unfold Qf at hk
 obtain⟨⟨z,t⟩,h1,h2⟩:=Option.map_eq_some_iff.1 hk
 obtain⟨cs,h3,h4,_⟩:=h.1 g z t (by simpa using hg) h1
 exact⟨cs,t,_,h3,by rw [h4]; exact h2⟩
theorem zdf:Qf 0=some 12:=by kernel_rfl
theorem zcR:Qf 1=some 1:=by kernel_rfl
theorem zdx:Qf 2=some 20:=by kernel_rfl
theorem Pj {W:World} {name:String} {g e n:Nat} {k:IntKind} {t:TypeId} {cs:Array Value} {fuel:Nat} {p:List MemPlace} {tab:List Int}
  (hn:Tryz.prog.globalNamed name=some g) (hu:Tryz.prog.underlying t=some (.array n e)) (he:Tryz.prog.underlying e=some (.int k)) (hc:Tryz.prog.cellsOf e=1) (hlen:tab.length=n)
  (hv:W.var? Tryz.prog name=some cs) {enc:TypeId×Value→Unit} {base:Nat} {sp:Nat→Bool} {held:Bool}
  (hd:DataW.trod enc Tryz.prog W base sp held fuel t cs.toList=some (.agg (tab.map fun x=> .lit (.int k x)),p)) (r:Nat) (hr:r<n):W.cell? ⟨g,r,none⟩=some (.int k (tab.getD r 0)):=by
 obtain⟨xs,m,_,ex,_,hl,hel⟩:=DataW.trod_array hu hd
 have hE:=hel r hr
 rw [hc,Nat.mul_one,List.getElem?_eq_getElem (by omega)]at hE
 obtain⟨z,e1,e2,_⟩:=DataW.trod_int he hE
 have e3:(xs.map (·.1))=tab.map fun n=> .lit (.int k n):=(DataW.agg.inj (Prod.mk.inj ex).1).symm
 have e4:(xs.map (·.1))[r]? =(tab.map fun n=>(DataW.lit (.int k n):DataW Unit))[r]? :=by rw [e3]
 rw [List.getElem?_map,List.getElem?_map,List.getElem?_eq_getElem (by omega:r<xs.length),List.getElem?_eq_getElem (by omega:r<tab.length),e2]at e4
 have hz:z=tab.getD r 0:=by
  simp only [Option.map_some,Option.some.injEq,DataW.lit.injEq,Lit.int.injEq,true_and]at e4
  rw [e4,List.getD,List.getElem?_eq_getElem (by omega:r<tab.length)]; rfl
 rw [World.var?_cell hn hv r,←hz]
 have:cs.toList[r]? =some (.int k z):=by
  have h0:((cs.toList.drop r).take 1)[0]? =some (.int k z):=by rw [e1]; rfl
  simpa using h0
 simpa using this
theorem eu {W:World} (h:laidMetH Tryz.prog Rows.wireBytesRow.laid W):(∀r,r<12→W.cell? ⟨0,r,none⟩=some (.int .i64 (BA.getD r 0)))∧(∀r,r<20→W.cell? ⟨2,r,none⟩=some (.int .u64 (BS.getD r 0))):=by
 rw [MakeChecks.laidMetH_plain _ _ _ (by kernel_rfl)]at h
 obtain⟨ps,⟨_,_,_,_,_,_,_,_,_,_,⟨_,_,_,_,_,_,_,_,_,_,⟨g2,t2,cs2,fuel2,p2,q2,hg2,ht2,hv2,hd2,⟨_,_,_,_,_,_,_,_,_,_,⟨g,t,cs,fuel,p,q,hg,ht,hv,hd,_,_⟩,_⟩,_⟩,_⟩,_⟩,_,_⟩:=h
 refine⟨?_, ?_⟩
 ·obtain rfl := Option.some.inj ((show Tryz.prog.globalNamed "certpath/date.lengths" = some 0 by kernel_rfl).symm.trans hg)
  obtain rfl:=Option.some.inj ((show(Tryz.prog.globals[0]?).map (·.type)=some 240 by kernel_rfl).symm.trans ht)
  exact Pj (tab:=BA) (by kernel_rfl) (show Tryz.prog.underlying 240=some (.array 12 3)by kernel_rfl) (show Tryz.prog.underlying 3=some (.int .i64)by kernel_rfl) (by kernel_rfl) (by kernel_rfl) hv hd
 ·obtain rfl := Option.some.inj ((show Tryz.prog.globalNamed "internal/strconv.uint64pow10" = some 2 by kernel_rfl).symm.trans hg2)
  obtain rfl:=Option.some.inj ((show(Tryz.prog.globals[2]?).map (·.type)=some 288 by kernel_rfl).symm.trans ht2)
  exact Pj (tab:=BS) (by kernel_rfl) (show Tryz.prog.underlying 288=some (.array 20 192)by kernel_rfl) (show Tryz.prog.underlying 192=some (.int .u64)by kernel_rfl) (by kernel_rfl) (by kernel_rfl) hv2 hd2
def plain (W:World) (b i:Nat):Option V:=match W.cell? ⟨b,i,none⟩with
 |some (.int k n)=>some (.int k n)
 |_=>none
def gh (W:World):Gh:=⟨plain W,fun _=>none,fun _ _=>none,fun _=>0⟩
theorem zbs {mx:Int} {W:World} (hs:W.ShapedOpen Tryz.prog) (h0:∀r,r<12→W.cell? ⟨0,r,none⟩=some (.int .i64 (BA.getD r 0))) (h1:W.cell? ⟨1,0,none⟩=some (.int .i64 mx)) (h2:∀r,r<20→W.cell? ⟨2,r,none⟩=some (.int .u64 (BS.getD r 0))):
    Rel (gl0 mx) ⟨W,fun _=>False,plain W⟩ (gh W) ⟨[],[]⟩ W where
  below:=Kq.refl W _ _
  vars:=fun id cells hc=>by simp at hc
  varlt:=fun id b hi=>by simp at hi
  sc:=fun id cells hc=>by simp at hc
  disj:=fun i j b ci cj hi=>by simp at hi
  imm :=fun b i v hv=>by
    simp only [gh,plain]at hv
    split at hv
    · rename_i k n hc
      injection hv with hv; subst hv
      exact⟨rfl,_,hc, .int _ _⟩
    · cases hv
  fam:=fun t p b e lim ht=>by simp at ht
  famdisj:=fun t t' p p' b e l e' l' ht=>by simp at ht
  glob :=fun g i v hv=>by
    match g,hv with
    | 0, hv=>
      have hl:i<12:=by
        have:=zR hv
        simpa [gl0,BA] using this
      have e1:(gl0 mx 0)[i]? =some (vI .i64 (BA.getD i 0)):=by
        simp only [gl0,List.getElem?_map,List.getD]
        rw [List.getElem?_eq_getElem (show i<BA.length from hl)]; rfl
      rw [e1]at hv; injection hv with hv; subst hv
      simp [gh,plain,h0 i hl,vI]
    | 1,hv=>
      match i,hv with
      |0,hv=>simp [gl0]at hv; subst hv; simp [gh,plain,h1]
      |i+1,hv=>simp [gl0]at hv
    | 2, hv=>
      have hl:i<20:=by
        have:=zR hv
        simpa [gl0,BS] using this
      have e1:(gl0 mx 2)[i]? =some (vI .u64 (BS.getD i 0)):=by
        simp only [gl0,List.getElem?_map,List.getD]
        rw [List.getElem?_eq_getElem (show i<BS.length from hl)]; rfl
      rw [e1]at hv; injection hv with hv; subst hv
      simp [gh,plain,h2 i hl,vI]
    |g+3,hv=>simp [gl0]at hv
  gfix:=fun g hn=>by
    have key:∃C el fz,W.heap[g]? =some (.cells C el fz)∧C.size=(gl0 mx g).length:=by
     match g,hn with
     |0,_=>obtain⟨C,el,fz,k1,k2⟩:=Ji hs (by kernel_rfl) zdf; exact⟨C,el,fz,k1,by rw [k2]; rfl⟩
     |1,_=>obtain⟨C,el,fz,k1,k2⟩:=Ji hs (by kernel_rfl) zcR; exact⟨C,el,fz,k1,by rw [k2]; rfl⟩
     |2,_=>obtain⟨C,el,fz,k1,k2⟩:=Ji hs (by kernel_rfl) zdx; exact⟨C,el,fz,k1,by rw [k2]; rfl⟩
     |g+3,hn=>exact absurd rfl hn
    obtain⟨C,el,fz,k1,k2⟩:=key
    exact⟨fun h=>h.elim (fun h=>by have:=bj k1; exact absurd this (Nat.not_lt.2 h)) id,C,el,fz,k1,k2⟩
  old:=fun b i _=>rfl
theorem tu {l:Bs} {W:World} {mx:Int} (hs:W.ShapedOpen Tryz.prog) (h0:∀r,r<12→W.cell? ⟨0,r,none⟩=some (.int .i64 (BA.getD r 0))) (h1:W.cell? ⟨1,0,none⟩=some (.int .i64 mx)) (h2:∀r,r<20→W.cell? ⟨2,r,none⟩=some (.int .u64 (BS.getD r 0)))
  {c:Value} (hc:VR (gh W) (.str l) c):Calls Tryz.prog 9 #[c] W fun e W'=>e= .returned (.bool true)∧Below W.heap.size W W':=by
 have:=(Ye (mx:=mx) (nG l)).2 ⟨W,fun _=>False,plain W⟩ (gh W) W #[c] (zbs hs h0 h1 h2) ⟨rfl,fun i v x hv hx=>by
  match i with
  |0=>simp at hv hx; subst hv hx; exact hc
  |i+1=>simp at hv⟩ (by simp [V.scs,V.sc])
 refine this.mono ?_
 rintro e W' ⟨r,c',st',G',rfl,⟨rfl,rfl⟩,hvr,_,hrel,_,_⟩
 cases hvr
 exact⟨rfl,hrel.below.os,hrel.below.tape,hrel.below.output,hrel.below.size,fun k hk=>hrel.below.heap k hk (fun h=>h)⟩
end Go.Proofs.YtbggpcnbbhjiaaaGreatDoor
end
