/- ValidateNames returns true for every four arguments. Conditions: those of the given card alone. -/
import Derived.Test.YtkabooclnoiclaaGreatDoorLawN2
import Derived.Test.YtkabooclnoiclaaGreatDoorLawN3
import Derived.Test.YtkabooclnoiclaaGreatDoorMainN1
set_option linter.unusedVariables false
set_option linter.unusedSimpArgs false
set_option linter.unnecessarySimpa false
section
namespace Go.K
open Go Go.Abs Go.Proofs
theorem lh (n m:Int) (x r:Bool) (a b:Int) (a0:0≤a) (a1:a<5) (b0:0≤b) (b1:b<5):yes (Zl (vnL n m x r a b) [] (vnH n m) (Ji 8))=true:=by
 obtain⟨k,rfl⟩:=Int.eq_ofNat_of_zero_le a0
 obtain⟨j,rfl⟩:=Int.eq_ofNat_of_zero_le b0
 have hj:j<5:=by omega
 have:k=0∨k=1∨k=2∨k=3∨k=4:=by omega
 cases x<;>cases r
 ·rcases this with rfl|rfl|rfl|rfl|rfl
  ·exact zZ (lQ n m) j hj
  ·exact zZ (ml n m) j hj
  ·exact zZ (mR n m) j hj
  ·exact zZ (lM n m) j hj
  ·exact zZ (mJ n m) j hj
 ·rcases this with rfl|rfl|rfl|rfl|rfl
  ·exact zZ (lT n m) j hj
  ·exact zZ (nk n m) j hj
  ·exact zZ (mA n m) j hj
  ·exact zZ (mf n m) j hj
  ·exact zZ (lg n m) j hj
 ·rcases this with rfl|rfl|rfl|rfl|rfl
  ·exact zZ (lF n m) j hj
  ·exact zZ (nE n m) j hj
  ·exact zZ (l6 n m) j hj
  ·exact zZ (lO n m) j hj
  ·exact zZ (lX n m) j hj
 ·rcases this with rfl|rfl|rfl|rfl|rfl
  ·exact zZ (lk n m) j hj
  ·exact zZ (l7 n m) j hj
  ·exact zZ (mh n m) j hj
  ·exact zZ (ly n m) j hj
  ·exact zZ (mc n m) j hj
theorem zag:Tryz.prog.funcs[7]? =some Tryz.f7:=Tryz.func7
theorem PX:Tryz.f7.body=some (ut 7):=by kernel_rfl
theorem Q4:Tryz.f7.ntmps=136:=by kernel_rfl
theorem mz:Tryz.f7.results= #[.tmp 8]:=by kernel_rfl
theorem Ps:xH Tryz.prog 136 (ut 7) (Uf XA 20 136 5 (ut 7) Zl):=xH.pre eP 20 136 5 (by kernel_rfl) (xH.of lc 300 136 _)
theorem vn_call (n m:Int) (x r:Bool):∃h',KCall Tryz.prog 7 [.int .i64 n, .int .i64 m, .bool x, .bool r] hE0 (.bool true) h':=by
 have ha:=gk n (k:=5) (by decide) (by decide)
 have hb:=gk m (k:=5) (by decide) (by decide)
 have hy:yes (GD n m x r Zl (Ji 8))=true:=by
  rw [sk]
  exact lh n m x r _ _ ha.1 ha.2 hb.1 hb.2
 obtain⟨h',e⟩:=JT hy
 have st:xH Tryz.prog Tryz.f7.ntmps (ut 7) (Uf XA 20 136 5 (ut 7) Zl):=by
  rw [Q4]; exact Ps
 have hl:([.int .i64 n, .int .i64 m, .bool x, .bool r]:List KV).length≤Tryz.f7.ntmps:=by
  rw [Q4]; exact Nat.le_of_ble_eq_true rfl
 unfold GD at e
 exact⟨h',xH.call WN Y0 zag PX hl mz st e⟩
end Go.K
end
section
set_option maxRecDepth 100000
namespace Go.Proofs.YtkabooclnoiclaaGreatDoor
open Go.ChangeShapes Go.WideShapes Go.ChangeAt Go.RowKit Go.Abs
theorem own:ownKnob Tryz.prog.godebug=none:=by kernel_rfl
theorem uB:laidOutB Tryz.prog=true:=by kernel_rfl
noncomputable def gK (g:Nat):Option Nat:=(((begin Tryz.prog (fun _ _=>0) default).world.heap[g]?).bind Obj.row?).map fun x=>x.1.size
theorem Zg {W:World} (h:W.ShapedOpen Tryz.prog) {g:Nat} (hg:Nat.blt g Tryz.prog.globals.size=true) (hk:(gK g).isSome=true):g<W.heap.size:=by
 unfold gK at hk
 rw [Option.isSome_map]at hk
 obtain⟨⟨z,t⟩,h1⟩:=Option.isSome_iff_exists.1 hk
 obtain⟨cs,h3,h4,_⟩:=h.1 g z t (by simpa using hg) h1
 exact Go.Abs.heap_lt h3
theorem UD:Tryz.prog.globals.size=3:=by kernel_rfl
theorem Z5 {W:World} (h:W.ShapedOpen Tryz.prog):3≤W.heap.size:=Zg h (g:=2) (by kernel_rfl) (by kernel_rfl)
def gh (W:World):K.Gh:=⟨fun id=>if id<3 then some (id,0)else none,fun _=>0⟩
theorem JL {W:World} (h:W.ShapedOpen Tryz.prog):K.KRel ⟨W,fun _=>False,fun _ _=>none⟩ (gh W) K.hE0 W where
 kept:=kO.refl W _ _
 blk:=fun id o e=>by
  have:K.hE0.get id=none:=K.N64k.get_empty _
  rw [this]at e; cases e
 lt :=fun id b k e=>by
  have e:(if id<3 then some (id,0)else none)=some (b,k):=e
  split at e
  ·simp only [Option.some.injEq,Prod.mk.injEq]at e
   obtain⟨rfl,rfl⟩:=e
   exact⟨Nat.lt_of_lt_of_le (by assumption) (Z5 h),Nat.lt_of_lt_of_le (by assumption) (by decide)⟩
  ·cases e
 sep:=fun i j oi oj b ki kj e1=>by
  have:K.hE0.get i=none:=K.N64k.get_empty _
  rw [this]at e1; cases e1
 top:=by decide
 res:=fun id o b k e=>by
  have:K.hE0.get id=none:=K.N64k.get_empty _
  rw [this]at e; cases e
theorem XN {f:FuncId} {args:List K.KV} {h':K.KH} {W:World} {c:Array Value} (hs:W.ShapedOpen Tryz.prog) (k:K.KCall Tryz.prog f args K.hE0 (.bool true) h') (hc:K.KRs (gh W) args c):
  Calls Tryz.prog f c W fun e W'=>e= .returned (.bool true)∧Below W.heap.size W W':=by
 have hg:K.Glob Tryz.prog (gh W):=fun g hg=>if_pos (by rw [UD]at hg; exact hg)
 have:=callsIn_wide.1 (k ⟨W,fun _=>False,fun _ _=>none⟩ (gh W) W c 0 hg (JL hs) hc)
 refine this.mono ?_
 rintro e W' ⟨c',G',rfl,_,hv,hrel⟩
 cases hv
 exact⟨rfl,hrel.kept.os,hrel.kept.tape,hrel.kept.output,hrel.kept.size,fun k hk=>hrel.kept.heap k hk (fun h=>h)⟩
section
variable {H:Type} {enc:TypeId×Value→H}
theorem uN {a:Assume} {C:Checked} {os:Os} {f:FuncId} {fn:Func} {s:ChangeSpec} {conds:List PathCond} {apart fresh handsOn again:Bool} {X:World→Array Value→Prop}
  (hX:∀(w w':World) (args:Array Value),w.heap=w'.heap→X w args→X w' args)
  (own:ownKnob C.prog.godebug=none) (started:os.Started) (noInit:C.prog.inits.idxOf? f=none) (hfn:C.prog.funcs[f]? =some fn)
  (witness:∃(w:World) (tape:Tape) (i:Input),w.os=os∧(w.forCall tape i).Shaped C.prog∧i.vars= []∧Input.okWide C.prog (w.forCall tape i) .any w.heap.size f i ∧
   ((s.pre enc C.prog fn conds apart (w.forCall tape i).memory i.args∧X (w.forCall tape i).memory i.args)∧sizedMet enc C.prog fn (OpenSpec.ofChange s) apart (w.forCall tape i).memory i.args)∧a.holds C.prog (lone (Frame.enter C.prog f i.args .normal) [] (w.forCall tape i)))
  (contract:∀(W:World) (base:Nat) (args:Array Value) (ds gs:List (DataW H)) (before:List MemPlace),
   (∀(j:Nat) t v,fn.params[j]? =some t→args[j]? =some v→Value.okWide C.prog W .any base t v) →
   DataW.Whole enc C.prog fn.params.toList s.vars apart W args.toList ds gs before →
   X W args→W.ShapedOpen C.prog →
   Calls C.prog f args W fun e W'=>∃v,e= .returned v∧s.post enc C.prog fn apart fresh handsOn again W args v W'):
  ReturnsInHanded a C os f .any (fun w args=>(s.pre enc C.prog fn conds apart w args∧X w args)∧sizedMet enc C.prog fn (OpenSpec.ofChange s) apart w args) (s.post enc C.prog fn apart fresh handsOn again):=by
 refine returnsInHanded_of_calls own started noInit witness ?_
 intro w tape i _ hsh _ hok hpre hholds
 obtain⟨_,_,_,fn',hfn',_,_,_,_,hval⟩:=hok
 have e:fn'=fn:=Option.some.inj (hfn'.symm.trans hfn)
 subst e
 obtain⟨⟨⟨ds,gs,before,hw,hc⟩,hx⟩,hz⟩:=hpre
 have hw':=DataW.Whole.of_heap (w':=w.forCall tape i) (by rfl) hw
 refine(contract (w.forCall tape i) w.heap.size i.args ds gs before hval hw' (hX _ _ _ (by rfl) hx) hsh).mono fun e W' ⟨v,he,hp⟩=> ?_
 subst he
 exact ChangeSpec.post_blind hp
end
theorem lifted (os:Os) (started:os.Started) (H:Type) (enc:TypeId×Value→H):
  ReturnsInHanded {} Tryz.checked os 7 .any (fun w args=>(Rows.validateNamesSpec.pre enc Tryz.prog Tryz.f7 [] false w args∧laidMetH Tryz.prog Rows.validateNamesRow.laid w)∧sizedMet enc Tryz.prog Tryz.f7 (OpenSpec.ofChange Rows.validateNamesSpec) false w args)
   (Rows.validateNamesSpec.post enc Tryz.prog Tryz.f7 false true false false):=by
 refine uN (C:=Tryz.checked) (X:=fun w _=>laidMetH Tryz.prog Rows.validateNamesRow.laid w) (fun _ _ _ hh h=>h.of_heap hh) own started (by kernel_rfl) Tryz.func7
  (ChangeSpec.witness_shaped (enc:=enc) (C:=Tryz.checked) (os:=os) (X:=fun w _=>laidMetH Tryz.prog Rows.validateNamesRow.laid w) false (World.laidAll Tryz.prog os Rows.validateNamesRow.laid) #[.int .i64 0, .int .i64 0, .bool false, .bool false] 8 (World.laidAll_os _ _ _)
   (World.shaped_of_ZipB (by kernel_rfl) (by kernel_rfl)) (by kernel_rfl) (by kernel_rfl) (by kernel_rfl)
   (by rw [MakeChecks.laidMetH_plain _ _ _ (by kernel_rfl)]; exact laidMet_laidAll _ (by kernel_rfl) (by kernel_rfl))) ?_
 intro W base args ds gs before hval0 hW hL hsh
 have hval:∀(j:Nat) t v,Tryz.f7.params[j]? =some t→args[j]? =some v→Value.okWide Tryz.prog W .any base t v:=hval0
 have hW':=hW
 obtain⟨p,q,hA0,hV,rfl,_,_⟩:=hW
 have hA:DataW.TrodAll enc Tryz.prog W 0 (fun _=>true) true Tryz.f7.params.toList args.toList ds p:=hA0
 rw [Tryz.params7]at hA hval
 obtain⟨v0,v1,v2,v3,d0,d1,d2,d3,p0,p1,p2,p3,rfl,rfl,rfl,h0,h1,h2,h3⟩:=trodAll_four hA
 obtain⟨rfl,rfl⟩:=trodVars_none hV
 have hv0:Value.okWide Tryz.prog W .any base 3 v0:=hval 0 3 v0 rfl rfl
 obtain⟨x0,rfl⟩:=okWide_int Tryz.underlying3 hv0
 have hv1:Value.okWide Tryz.prog W .any base 3 v1:=hval 1 3 v1 rfl rfl
 obtain⟨x1,rfl⟩:=okWide_int Tryz.underlying3 hv1
 have hv2:Value.okWide Tryz.prog W .any base 4 v2:=hval 2 4 v2 rfl rfl
 obtain⟨x2,rfl⟩:=okWide_bool Tryz.underlying4 hv2
 have hv3:Value.okWide Tryz.prog W .any base 4 v3:=hval 3 4 v3 rfl rfl
 obtain⟨x3,rfl⟩:=okWide_bool Tryz.underlying4 hv3
 simp only [List.append_nil]at hW'
 have hlt:∀x∈p0++p1++p2++p3,x.block<W.heap.size:=fun x hx=>by simpa using hW'.lt x (by simpa using hx)
 obtain⟨h',k⟩:=K.vn_call x0 x1 x2 x3
 have hk:K.KRs (gh W) [.int .i64 x0, .int .i64 x1, .bool x2, .bool x3] #[.int .i64 x0, .int .i64 x1, .bool x2, .bool x3]:=⟨rfl,fun i v x hv hx=>by
  match i with
  |0=>simp at hv hx; subst hv hx; exact .int _ _
  |1=>simp at hv hx; subst hv hx; exact .int _ _
  |2=>simp at hv hx; subst hv hx; exact .bool _
  |3=>simp at hv hx; subst hv hx; exact .bool _
  |i+4=>simp at hv⟩
 refine(XN hsh k hk).mono fun e W' ⟨he,hbelow⟩=> ?_
 subst he
 exact ⟨_,rfl,_,_,_,[],_,[],hW',trodAll_mk1 (shut_bool Tryz.underlying4 _),
  trodAll_mk4 (Below.trod uB (by kernel_rfl) (of_decide_eq_true (by kernel_rfl)) h0 hbelow (fun x hx=>hlt x (by simp [hx]))) (Below.trod uB (by kernel_rfl) (of_decide_eq_true (by kernel_rfl)) h1 hbelow (fun x hx=>hlt x (by simp [hx]))) (Below.trod uB (by kernel_rfl) (of_decide_eq_true (by kernel_rfl)) h2 hbelow (fun x hx=>hlt x (by simp [hx]))) (Below.trod uB (by kernel_rfl) (of_decide_eq_true (by kernel_rfl)) h3 hbelow (fun x hx=>hlt x (by simp [hx]))),rfl,hbelow.frame _,fun h=>by cases h⟩
theorem dY:Rows.ValidateNamesSaid:=
 OpenClaim.holds_of_wide 7 Tryz.f7 rfl rfl rfl rfl rfl rfl rfl ⟨rfl,rfl,rfl,rfl,rfl⟩ rfl rfl rfl rfl rfl bS Tryz.func7 UW XC X1
  (fun os started H enc _=>lifted os started H enc)
theorem dO (j:Nat) (t:TypeId) (ht:Tryz.f7.params[j]? =some t):Tryz.prog.wantsStandIn t=false:=by
 rw [Tryz.params7]at ht
 have hm:t∈ [3,3,4,4]:=by simpa using Array.mem_of_getElem? ht
 have hall:([3,3,4,4].all fun u=> !Tryz.prog.wantsStandIn u)=true:=by kernel_rfl
 exact(show Tryz.prog.wantsStandIn t=false by simpa using List.all_eq_true.1 hall t hm)
theorem validateNames_card:Rows.ValidateNamesCardSaid:=
 Claim7.holds_tied_plain_at .later [] [.data, .pinned] true (true, "0680b277a54e20f0acaf06b32ccc4dfde2bdcbed6d885f20e41ef5b5f85cd0f4") false dY (fun _ h => by cases h) (by kernel_rfl) (fun _ h => by cases h) validateNames_row_tie rfl ⟨rfl, rfl⟩ (by kernel_rfl) rfl
  (fun f fn hf hfn=>by
   obtain rfl:f=7:=Option.some.inj (bS.symm.trans hf)|>.symm
   obtain rfl:fn=Tryz.f7:=(Option.some.inj (Tryz.func7.symm.trans hfn)).symm
   exact⟨ZV,dO⟩)
  Xw
end Go.Proofs.YtkabooclnoiclaaGreatDoor
end
