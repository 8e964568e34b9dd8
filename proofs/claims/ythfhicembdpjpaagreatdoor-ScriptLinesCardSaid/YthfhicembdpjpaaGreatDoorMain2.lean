/- ScriptLines returns true for every list of numbers and leaves it as it was. Conditions: those of the given card alone. -/
import Derived.Test.YthfhicembdpjpaaGreatDoorLaw2
import Derived.Test.YthfhicembdpjpaaGreatDoorMain1
import Derived.Test.YthfhicembdpjpaaGreatDoorTied1
import Derived.Test.YthfhicembdpjpaaGreatDoorCards
import Derived.Test.YthfhicembdpjpaaGreatDoorChecked
set_option linter.all false
section
set_option maxRecDepth 100000
namespace Go.Proofs.YthfhicembdpjpaaGreatDoor
open Go.ChangeShapes Go.WideShapes Go.ChangeAt Go.RowKit Go.Abs
theorem own:ownKnob Tryz.prog.godebug=none:=O5
theorem DA:laidOutB Tryz.prog=true:=O5
noncomputable def Ys (g:Nat):Option Nat:=(((begin Tryz.prog (fun _ _=>0) default).world.heap[g]?).bind Obj.row?).map fun x=>x.1.size
theorem pX {W:World} (h:W.ShapedOpen Tryz.prog) {g n:Nat} (hg:Nat.blt g Tryz.prog.globals.size=true) (hk:Ys g=some n):∃C el fz,W.heap[g]? =some (.cells C el fz)∧C.size=n:=by
 unfold Ys at hk
 obtain⟨⟨z,t⟩,h1,h2⟩:=Option.map_eq_some_iff.1 hk
 obtain⟨cs,h3,h4,_⟩:=h.1 g z t (O7 hg) h1
 exact⟨cs,t,_,h3,by rw [h4]; exact h2⟩
theorem e6:Ys 0=some 1:=O5
theorem eM:Ys 1=some 12:=O5
theorem cO:Ys 4=some 1:=O5
theorem fA:Ys 5=some 1:=O5
theorem P5:Ys 6=some 20:=O5
theorem BZ {W:World} (h:W.ShapedOpen Tryz.prog):∃m,W.cell? ⟨0,0,none⟩=some (.int .i64 m):=
 cell_of_shapedOpen_int (t:=3) (zero:= #[.int .i64 0]) h (of_decide_eq_true O5) O5 rfl O5 O5 O5
theorem JN {W:World} {name:String} {g e n:Nat} {k:IntKind} {t:TypeId} {cs:Array Value} {fuel:Nat} {p:List MemPlace} {tab:List Int}
  (hn:Tryz.prog.globalNamed name=some g) (hu:Tryz.prog.underlying t=some (.array n e)) (he:Tryz.prog.underlying e=some (.int k)) (hc:Tryz.prog.cellsOf e=1) (hlen:tab.length=n)
  (hv:W.var? Tryz.prog name=some cs) {enc:TypeId×Value→Unit} {base:Nat} {sp:Nat→Bool} {held:Bool}
  (hd:DataW.trod enc Tryz.prog W base sp held fuel t cs.toList=some (.agg (tab.map fun x=> .lit (.int k x)),p)) (r:Nat) (hr:r<n):W.cell? ⟨g,r,none⟩=some (.int k (tab.getD r 0)):=by
 obtain⟨xs,m,_,ex,_,hl,hel⟩:=DataW.trod_array hu hd
 have hE:=hel r hr
 rw [hc,Nat.mul_one,List.getElem?_eq_getElem O0]at hE
 obtain⟨z,e1,e2,_⟩:=DataW.trod_int he hE
 have e3:(xs.map (·.1))=tab.map fun n=> .lit (.int k n):=(DataW.agg.inj (Prod.mk.inj ex).1).symm
 have e4:(xs.map (·.1))[r]? =(tab.map fun n=>(DataW.lit (.int k n):DataW Unit))[r]? :=by rw [e3]
 rw [List.getElem?_map,List.getElem?_map,List.getElem?_eq_getElem (by omega:r<xs.length),List.getElem?_eq_getElem (by omega:r<tab.length),e2]at e4
 have hz:z=tab.getD r 0:=by
  simp only [Option.map_some,Option.some.injEq,DataW.lit.injEq,Lit.int.injEq,true_and]at e4
  rw [e4,List.getD,List.getElem?_eq_getElem (by omega:r<tab.length)]; rfl
 rw [World.var?_cell hn hv r,←hz]
 have:cs.toList[r]? =some (.int k z):=by
  have h0:((cs.toList.drop r).take 1)[0]? =some (.int k z):=by rw [e1]; rfl
  simpa using h0
 simpa using this
theorem J2 {W:World} {name:String} {g fuel:Nat} {cs:Array Value} {p:List MemPlace} {s:List UInt8} (hn:Tryz.prog.globalNamed name=some g) (hv:W.var? Tryz.prog name=some cs)
  {enc : TypeId × Value → Unit} {base : Nat} {sp : Nat → Bool} (hd : DataW.trod enc Tryz.prog W base sp false fuel 91 cs.toList = some (.iface "*errors.errorString" (.ptr (.agg [.lit (.string s)])), p)) : ∃ t c, W.cell? ⟨g, 0, none⟩ = some (.iface t c) := by
 have hu : Tryz.prog.underlying 91 = some (.interface #[("Error", 94)]) := by kernel_rfl
 cases fuel with
 |zero=>simp [DataW.trod]at hd
 | succ fuel=>
  obtain⟨l⟩:=cs
  match l,hd,hv with
  | [],hd,hv=>simp [DataW.trod,hu]at hd
  |a::b::r,hd,hv=>simp [DataW.trod,hu]at hd
  | [x],hd,hv=>
   cases x with
   | iface u v=>
    exact⟨u,v,by rw [World.var?_cell hn hv 0]; rfl⟩
   |_=>simp [DataW.trod,hu]at hd
structure Laid (mx:MX) (W:World):Prop where
 m:W.cell? ⟨0,0,none⟩=some (.int .i64 mx.m)
 days:∀r,r<12→W.cell? ⟨1,r,none⟩=some (.int .i64 (DJ.getD r 0))
 pow:∀r,r<20→W.cell? ⟨6,r,none⟩=some (.int .u64 (Bf.getD r 0))
 e4:∃c,W.cell? ⟨4,0,none⟩=some (.iface mx.a c)
 e5:∃c,W.cell? ⟨5,0,none⟩=some (.iface mx.b c)
theorem QF {W:World} (hs:W.ShapedOpen Tryz.prog) (h:laidMetH Tryz.prog Rows.scriptLinesRow.laid W):∃mx,Laid mx W:=by
 rw [MakeChecks.laidMetH_plain _ _ _ O5]at h
 obtain⟨ps,⟨_,_,_,_,_,_,_,_,_,_,⟨_,_,_,_,_,_,_,_,_,_,⟨g4,t4,cs4,fuel4,p4,q4,hg4,ht4,hv4,hd4,⟨g5,t5,cs5,fuel5,p5,q5,hg5,ht5,hv5,hd5,⟨g2,t2,cs2,fuel2,p2,q2,hg2,ht2,hv2,hd2,⟨_,_,_,_,_,_,_,_,_,_,⟨_,_,_,_,_,_,_,_,_,_,⟨g,t,cs,fuel,p,q,hg,ht,hv,hd,_,_⟩,_⟩,_⟩,_⟩,_⟩,_⟩,_⟩,_⟩,_,_⟩:=h
 obtain⟨m,hm⟩:=BZ hs
 obtain rfl := Option.some.inj ((show Tryz.prog.globalNamed "strconv.ErrSyntax" = some 4 by kernel_rfl).symm.trans hg4)
 obtain rfl:=Option.some.inj ((show(Tryz.prog.globals[4]?).map (·.type)=some 91 by kernel_rfl).symm.trans ht4)
 obtain⟨a,c4,h4⟩:=J2 O5 hv4 hd4
 obtain rfl := Option.some.inj ((show Tryz.prog.globalNamed "strconv.ErrRange" = some 5 by kernel_rfl).symm.trans hg5)
 obtain rfl:=Option.some.inj ((show(Tryz.prog.globals[5]?).map (·.type)=some 91 by kernel_rfl).symm.trans ht5)
 obtain⟨b,c5,h5⟩:=J2 O5 hv5 hd5
 refine⟨⟨m,a,b⟩,hm, ?_, ?_,⟨c4,h4⟩,⟨c5,h5⟩⟩
 ·obtain rfl := Option.some.inj ((show Tryz.prog.globalNamed "certpath/date.lengths" = some 1 by kernel_rfl).symm.trans hg)
  obtain rfl:=Option.some.inj ((show(Tryz.prog.globals[1]?).map (·.type)=some 434 by kernel_rfl).symm.trans ht)
  exact JN (tab:=DJ) O5 (show Tryz.prog.underlying 434=some (.array 12 3)by kernel_rfl) (show Tryz.prog.underlying 3=some (.int .i64)by kernel_rfl) O5 O5 hv hd
 ·obtain rfl := Option.some.inj ((show Tryz.prog.globalNamed "internal/strconv.uint64pow10" = some 6 by kernel_rfl).symm.trans hg2)
  obtain rfl:=Option.some.inj ((show(Tryz.prog.globals[6]?).map (·.type)=some 456 by kernel_rfl).symm.trans ht2)
  exact JN (tab:=Bf) O5 (show Tryz.prog.underlying 456=some (.array 20 369)by kernel_rfl) (show Tryz.prog.underlying 369=some (.int .u64)by kernel_rfl) O5 O5 hv2 hd2
def plain (W:World) (b i:Nat):Option V:=match W.cell? ⟨b,i,none⟩with
 |some (.int k n)=>some (.int k n)
 |some (.iface t _)=>some (.iface t .junk)
 |_=>none
def gh (W:World):Gh:=⟨plain W,fun _=>none,fun _ _=>none,fun _=>0⟩
theorem J6 {W:World} {k:IntKind} {tab:List Int} {g i:Nat} {v:V} (h:∀r,r<tab.length→W.cell? ⟨g,r,none⟩=some (.int k (tab.getD r 0))) (hv:(tab.map (vI k))[i]? =some v):(gh W).imm g i=some v:=by
 rw [List.getElem?_map]at hv
 obtain⟨z,hz,rfl⟩:=Option.map_eq_some_iff.1 hv
 have:=h i (yj hz)
 rw [List.getD,hz]at this
 simp [gh,plain,this,vI]
theorem PO {mx:MX} {W:World} (hs:W.ShapedOpen Tryz.prog) (hL:Laid mx W):
    Rel (gl0 mx) ⟨W,fun _=>False,plain W⟩ (gh W) ⟨[],[]⟩ W where
  below:=XO.refl W _ _
  vars:=fun id cells hc=>by simp at hc
  varlt:=fun id b hi=>by simp at hi
  sc:=fun id cells hc=>by simp at hc
  disj:=fun i j b ci cj hi=>by simp at hi
  imm :=fun b i v hv=>by
    simp only [gh,plain]at hv
    split at hv
    · rename_i k n hc
      injection hv with hv; subst hv
      exact⟨rfl,_,hc, .int _ _⟩
    · rename_i t c hc
      injection hv with hv; subst hv
      exact⟨rfl,_,hc, .iface (.junk _)⟩
    · cases hv
  fam:=fun t p b e lim ht=>by simp at ht
  famdisj:=fun t t' p p' b e l e' l' ht=>by simp at ht
  glob :=fun g i v hv=>by
    have one:∀(x:V),[x][i]? =some v→i=0∧v=x:=by
      intro x h
      match i,h with
      |0,h=>exact⟨rfl,by simpa using h.symm⟩
      |i+1,h=>simp at h
    match g,hv with
    |0,hv=>obtain⟨rfl,rfl⟩:=one _ hv; simp [gh,plain,hL.m]
    |1,hv=>exact J6 (tab:=DJ) hL.days hv
    |4,hv=>obtain⟨rfl,rfl⟩:=one _ hv; obtain⟨c,hc⟩:=hL.e4; simp [gh,plain,hc]
    |5,hv=>obtain⟨rfl,rfl⟩:=one _ hv; obtain⟨c,hc⟩:=hL.e5; simp [gh,plain,hc]
    |6,hv=>exact J6 (tab:=Bf) hL.pow hv
    |2,hv=>simp [gl0]at hv
    |3,hv=>simp [gl0]at hv
    |g+7,hv=>simp [gl0]at hv
  gfix:=fun g hn=>by
    have key:∃C el fz,W.heap[g]? =some (.cells C el fz)∧C.size=(gl0 mx g).length:=by
     match g,hn with
     |0,_=>obtain⟨C,el,fz,k1,k2⟩:=pX hs O5 e6; exact⟨C,el,fz,k1,by rw [k2]; rfl⟩
     |1,_=>obtain⟨C,el,fz,k1,k2⟩:=pX hs O5 eM; exact⟨C,el,fz,k1,by rw [k2]; rfl⟩
     |4,_=>obtain⟨C,el,fz,k1,k2⟩:=pX hs O5 cO; exact⟨C,el,fz,k1,by rw [k2]; rfl⟩
     |5,_=>obtain⟨C,el,fz,k1,k2⟩:=pX hs O5 fA; exact⟨C,el,fz,k1,by rw [k2]; rfl⟩
     |6,_=>obtain⟨C,el,fz,k1,k2⟩:=pX hs O5 P5; exact⟨C,el,fz,k1,by rw [k2]; rfl⟩
     |2,hn=>exact absurd rfl hn
     |3,hn=>exact absurd rfl hn
     |g+7,hn=>exact absurd rfl hn
    obtain⟨C,el,fz,k1,k2⟩:=key
    exact⟨fun h=>h.elim (fun h=>by have:=qA k1; exact absurd this (Nat.not_lt.2 h)) id,C,el,fz,k1,k2⟩
  old:=fun b i _=>rfl
theorem Pd {W:World} {α:Type} {c:α→V} {l:List α} {b o cap:Nat} (hcap:l.length≤cap) (h:∀(i:Nat) (x:α),l[i]? =some x→plain W b (o+i)=some (c x)):VR (gh W) (.sl 1 (l.map fun x=> [c x]) .none) (.slice (some ⟨b,o,none⟩) l.length cap):=by
 have hv:VR (gh W) (.sl 1 (l.map fun x=> [c x]) .none) (.slice (some ⟨b,o,none⟩) (l.map fun x=> [c x]).length cap):=by
  refine .sl ?_ trivial (by rw [List.length_map]; exact hcap)
  intro i e he
  rw [List.getElem?_map]at he
  obtain⟨x,hx1,rfl⟩:=Option.map_eq_some_iff.1 he
  refine⟨rfl, ?_⟩
  intro j v hv
  match j,hv with
  | 0,hv=>
   simp at hv; subst hv
   have:=h i x hx1
   exact .of (by simpa [gh] using this)
  |j+1,hv=>simp at hv
 rw [List.length_map]at hv
 exact hv
section
open Go.Deep
variable {H:Type} {enc:TypeId×Value→H}
theorem BO {W:World} {base fuel:Nat} {v:Value} {x:DataW H×List MemPlace}
  (hok:Cell.okWide Tryz.prog W .any base 22 v) (h0:DataW.trod enc Tryz.prog W 0 (fun _=>true) true fuel 22 [v]=some x):
  ∃l:List Int,l.length≤9223372036854775807∧VR (gh W) (.sl 1 (l.map (cI .i64)) .none) v:=by
 rcases open_ints Tryz.underlying22 Tryz.underlying3 O5 h0 with⟨hcs,hx⟩|⟨a,len,cap,zs,hcs,_,hl,hm,hz,hx,hcell,hwz⟩
 ·obtain rfl:=(List.cons.inj hcs).1
  exact⟨[],O2, .slnil _ _⟩
 ·obtain rfl:=(List.cons.inj hcs).1
  simp only [Cell.okWide,Cell.ok,Tryz.underlying22]at hok
  have hspot:a.spot=none:=hok.2.2.2.1
  have hcap:(cap:Int)≤9223372036854775807:=hok.2.1
  obtain⟨b,o,sp⟩:=a
  subst hspot
  simp only [if_true]at hz
  have hlen:(zs.take len).length=len:=O3
  refine⟨zs.take len,O0, ?_⟩
  have:=Pd (W:=W) (c:=fun n=> .int .i64 n) (l:=zs.take len) (b:=b) (o:=o) (cap:=cap) O0 (by
   intro i n hn
   have hi:i<len:=by
    have:=(List.getElem?_eq_some_iff.1 hn).1; omega
   have hzi:zs.getD i 0=n:=by
    rw [List.getElem?_take,if_pos hi]at hn; simp [List.getD,hn]
   have hc:=hcell i O0
   rw [add_plain,hzi]at hc
   simp [plain,hc])
  rw [hlen]at this
  exact this
end
theorem Dk {l:List Int} {W:World} {mx:MX} (hl:l.length≤9223372036854775807) (hs:W.ShapedOpen Tryz.prog) (hL:Laid mx W) {c:Value} (hc:VR (gh W) (.sl 1 (l.map (cI .i64)) .none) c):Calls Tryz.prog 3 #[c] W fun e W'=>e= .returned (.bool true)∧Below W.heap.size W W':=by
 have:=(dc (mx:=mx) (BG (n:=2000000) (Nat.le_refl _) hl)).2 ⟨W,fun _=>False,plain W⟩ (gh W) W #[c] (PO hs hL) ⟨rfl,fun i v x hv hx=>by
  match i with
  |0=>simp at hv hx; subst hv hx; exact hc
  |i+1=>simp at hv⟩ (by simp [V.scs,V.sc])
 refine this.mono ?_
 rintro e W' ⟨r,c',st',G',rfl,⟨rfl,rfl⟩,hvr,_,hrel,_,_⟩
 cases hvr
 exact⟨rfl,hrel.below.os,hrel.below.tape,hrel.below.output,hrel.below.size,fun k hk=>hrel.below.heap k hk (fun h=>h)⟩
section
variable {H:Type} {enc:TypeId×Value→H}
theorem Ut {a:Assume} {C:Checked} {os:Os} {f:FuncId} {fn:Func} {s:ChangeSpec} {conds:List PathCond} {apart fresh handsOn again:Bool} {X:World→Array Value→Prop}
  (hX:∀(w w':World) (args:Array Value),w.heap=w'.heap→X w args→X w' args)
  (own:ownKnob C.prog.godebug=none) (started:os.Started) (noInit:C.prog.inits.idxOf? f=none) (hfn:C.prog.funcs[f]? =some fn)
  (witness:∃(w:World) (tape:Tape) (i:Input),w.os=os∧(w.forCall tape i).Shaped C.prog∧i.vars= []∧Input.okWide C.prog (w.forCall tape i) .any w.heap.size f i ∧
   ((s.pre enc C.prog fn conds apart (w.forCall tape i).memory i.args∧X (w.forCall tape i).memory i.args)∧sizedMet enc C.prog fn (OpenSpec.ofChange s) apart (w.forCall tape i).memory i.args)∧a.holds C.prog (lone (Frame.enter C.prog f i.args .normal) [] (w.forCall tape i)))
  (contract:∀(W:World) (base:Nat) (args:Array Value) (ds gs:List (DataW H)) (before:List MemPlace),
   (∀(j:Nat) t v,fn.params[j]? =some t→args[j]? =some v→Value.okWide C.prog W .any base t v) →
   DataW.Whole enc C.prog fn.params.toList s.vars apart W args.toList ds gs before →
   X W args→W.ShapedOpen C.prog →
   Calls C.prog f args W fun e W'=>∃v,e= .returned v∧s.post enc C.prog fn apart fresh handsOn again W args v W'):
  ReturnsInHanded a C os f .any (fun w args=>(s.pre enc C.prog fn conds apart w args∧X w args)∧sizedMet enc C.prog fn (OpenSpec.ofChange s) apart w args) (s.post enc C.prog fn apart fresh handsOn again):=by
 refine returnsInHanded_of_calls own started noInit witness ?_
 intro w tape i _ hsh _ hok hpre hholds
 obtain⟨_,_,_,fn',hfn',_,_,_,_,hval⟩:=hok
 have e:fn'=fn:=Option.some.inj (hfn'.symm.trans hfn)
 subst e
 obtain⟨⟨⟨ds,gs,before,hw,hc⟩,hx⟩,hz⟩:=hpre
 have hw':=DataW.Whole.of_heap (w':=w.forCall tape i) O6 hw
 refine(contract (w.forCall tape i) w.heap.size i.args ds gs before hval hw' (hX _ _ _ O6 hx) hsh).mono fun e W' ⟨v,he,hp⟩=> ?_
 subst he
 exact ChangeSpec.post_blind hp
end
set_option maxRecDepth 100000 in
theorem U4 (os:Os) (started:os.Started) (H:Type) (enc:TypeId×Value→H):
  ReturnsInHanded {} Tryz.checked os 3 .any (fun w args=>(Rows.scriptLinesSpec.pre enc Tryz.prog Tryz.f3 [] false w args∧laidMetH Tryz.prog Rows.scriptLinesRow.laid w)∧sizedMet enc Tryz.prog Tryz.f3 (OpenSpec.ofChange Rows.scriptLinesSpec) false w args)
   (Rows.scriptLinesSpec.post enc Tryz.prog Tryz.f3 false true false false):=by
 refine Ut (C:=Tryz.checked) (X:=fun w _=>laidMetH Tryz.prog Rows.scriptLinesRow.laid w) (fun _ _ _ hh h=>h.of_heap hh) own started O5 Tryz.func3
  (ChangeSpec.witness_shaped (enc:=enc) (C:=Tryz.checked) (os:=os) (X:=fun w _=>laidMetH Tryz.prog Rows.scriptLinesRow.laid w) false (World.laidAll Tryz.prog os Rows.scriptLinesRow.laid) #[.slice none 0 0] 8 (World.laidAll_os _ _ _)
   (World.shaped_of_ZipB O5 O5) O5 O5 O5
   (by rw [MakeChecks.laidMetH_plain _ _ _ O5]; exact laidMet_laidAll _ O5 O5)) ?_
 intro W base args ds gs before hval0 hW hL hsh
 have hval:∀(j:Nat) t v,Tryz.f3.params[j]? =some t→args[j]? =some v→Value.okWide Tryz.prog W .any base t v:=hval0
 have hW':=hW
 obtain⟨p,q,hA0,hV,rfl,_,_⟩:=hW
 have hA:DataW.TrodAll enc Tryz.prog W 0 (fun _=>true) true Tryz.f3.params.toList args.toList ds p:=hA0
 rw [Tryz.params3]at hA hval
 obtain⟨v0,d0,rfl,rfl,h0⟩:=trodAll_one hA
 obtain⟨rfl,rfl⟩:=trodVars_none hV
 have hv0:Value.okWide Tryz.prog W .any base 22 v0:=hval 0 22 v0 rfl rfl
 obtain⟨a0,len,cap,rfl⟩:=okWide_slice Tryz.underlying22 hv0
 have h0':=h0
 obtain⟨fuel,hf⟩:=h0'
 have hk0:Cell.okWide Tryz.prog W .any base 22 (.slice a0 len cap):=by
  simpa only [Value.okWide,Tryz.underlying22] using hv0
 obtain⟨l,hl,hvr⟩:=BO hk0 hf
 obtain⟨mx,hlaid⟩:=QF hsh hL
 simp only [List.append_nil]at hW'
 have hlt:∀x∈p,x.block<W.heap.size:=fun x hx=>by simpa using hW'.lt x hx
 refine(Dk hl hsh hlaid hvr).mono fun e W' ⟨he,hbelow⟩=> ?_
 subst he
 exact ⟨_,rfl,_,_,_,[],_,[],hW',trodAll_mk1 (shut_bool Tryz.underlying4 _),
  trodAll_mk1 (Below.trod DA O5 (of_decide_eq_true O5) h0 hbelow hlt),rfl,hbelow.frame _,fun h=>by cases h⟩
theorem XU:Rows.ScriptLinesSaid:=
 OpenClaim.holds_of_wide 3 Tryz.f3 rfl rfl rfl rfl rfl rfl rfl ⟨rfl,rfl,rfl,rfl,rfl⟩ rfl rfl rfl rfl rfl Kv Tryz.func3 Pg Df Dq
  (fun os started H enc _=>U4 os started H enc)
theorem BC (j:Nat) (t:TypeId) (ht:Tryz.f3.params[j]? =some t):Tryz.prog.wantsStandIn t=false:=by
 rw [Tryz.params3]at ht
 have hm:t∈ [22]:=by simpa using Array.mem_of_getElem? ht
 have hall:([22].all fun u=> !Tryz.prog.wantsStandIn u)=true:=O5
 exact(show Tryz.prog.wantsStandIn t=false by simpa using List.all_eq_true.1 hall t hm)
theorem scriptLines_card:Rows.ScriptLinesCardSaid:=
 Claim7.holds_tied_plain_at .later [] [.pinned, .data, .sentinel, .sentinel, .data, .data, .data, .data] true (true, "3701705cc2e2e191c8fa9f1e4b0902d9b220334329933c06957ff2267379d13a") true XU (fun _ h => by cases h) O5 (fun _ h => by cases h) Xl rfl ⟨rfl, rfl⟩ O5 rfl
  (fun f fn hf hfn=>by
   obtain rfl:f=3:=Option.some.inj (Kv.symm.trans hf)|>.symm
   obtain rfl:fn=Tryz.f3:=(Option.some.inj (Tryz.func3.symm.trans hfn)).symm
   exact⟨Gz,BC⟩)
  Da
end Go.Proofs.YthfhicembdpjpaaGreatDoor
end
