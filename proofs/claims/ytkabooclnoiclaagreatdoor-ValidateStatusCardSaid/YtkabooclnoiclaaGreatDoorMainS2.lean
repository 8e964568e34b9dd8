/- ValidateStatus returns true for every three arguments. Conditions: those of the given card alone. -/
import Derived.Test.YtkabooclnoiclaaGreatDoorLawS2
import Derived.Test.YtkabooclnoiclaaGreatDoorMainS1
set_option linter.unusedVariables false
set_option linter.unusedSimpArgs false
set_option linter.unnecessarySimpa false
section
namespace Go.K
open Go Go.Abs Go.Proofs
theorem tS:Tryz.prog.funcs[6]? =some Tryz.f6:=Tryz.func6
theorem P3:Tryz.f6.body=some (ut 6):=by kernel_rfl
theorem J5:Tryz.f6.ntmps=137:=by kernel_rfl
theorem lW:Tryz.f6.results= #[.tmp 6]:=by kernel_rfl
theorem Dc:xH Tryz.prog 137 (ut 6) (Uf XA 20 137 2 (ut 6) Zz):=xH.pre eP 20 137 2 (by kernel_rfl) (xH.of ls 300 137 _)
theorem vs_call (n m:Int) (s:Bool):∃h',KCall Tryz.prog 6 [.int .i64 n, .int .i64 m, .bool s] hE0 (.bool true) h':=by
 have ha:=gk n (k:=4) (by decide) (by decide)
 have hb:=gk m (k:=4) (by decide) (by decide)
 have hy:yes (D0 n m s Zz (Ji 6))=true:=by
  rw [rx]
  exact md n m s _ _ ha.1 ha.2 hb.1 hb.2
 obtain⟨h',e⟩:=JT hy
 have st:xH Tryz.prog Tryz.f6.ntmps (ut 6) (Uf XA 20 137 2 (ut 6) Zz):=by
  rw [J5]; exact Dc
 have hl:([.int .i64 n, .int .i64 m, .bool s]:List KV).length≤Tryz.f6.ntmps:=by
  rw [J5]; exact Nat.le_of_ble_eq_true rfl
 unfold D0 at e
 exact⟨h',xH.call WN Y0 tS P3 hl lW st e⟩
end Go.K
end
section
set_option maxRecDepth 100000
namespace Go.Proofs.YtkabooclnoiclaaGreatDoor
open Go.ChangeShapes Go.WideShapes Go.ChangeAt Go.RowKit Go.Abs
theorem own:ownKnob Tryz.prog.godebug=none:=by kernel_rfl
theorem uB:laidOutB Tryz.prog=true:=by kernel_rfl
noncomputable def gK (g:Nat):Option Nat:=(((begin Tryz.prog (fun _ _=>0) default).world.heap[g]?).bind Obj.row?).map fun x=>x.1.size
theorem Zg {W:World} (h:W.ShapedOpen Tryz.prog) {g:Nat} (hg:Nat.blt g Tryz.prog.globals.size=true) (hk:(gK g).isSome=true):g<W.heap.size:=by
 unfold gK at hk
 rw [Option.isSome_map]at hk
 obtain⟨⟨z,t⟩,h1⟩:=Option.isSome_iff_exists.1 hk
 obtain⟨cs,h3,h4,_⟩:=h.1 g z t (by simpa using hg) h1
 exact Go.Abs.heap_lt h3
theorem UD:Tryz.prog.globals.size=3:=by kernel_rfl
theorem Z5 {W:World} (h:W.ShapedOpen Tryz.prog):3≤W.heap.size:=Zg h (g:=2) (by kernel_rfl) (by kernel_rfl)
def gh (W:World):K.Gh:=⟨fun id=>if id<3 then some (id,0)else none,fun _=>0⟩
theorem JL {W:World} (h:W.ShapedOpen Tryz.prog):K.KRel ⟨W,fun _=>False,fun _ _=>none⟩ (gh W) K.hE0 W where
 kept:=kO.refl W _ _
 blk:=fun id o e=>by
  have:K.hE0.get id=none:=K.N64k.get_empty _
  rw [this]at e; cases e
 lt :=fun id b k e=>by
  have e:(if id<3 then some (id,0)else none)=some (b,k):=e
  split at e
  ·simp only [Option.some.injEq,Prod.mk.injEq]at e
   obtain⟨rfl,rfl⟩:=e
   exact⟨Nat.lt_of_lt_of_le (by assumption) (Z5 h),Nat.lt_of_lt_of_le (by assumption) (by decide)⟩
  ·cases e
 sep:=fun i j oi oj b ki kj e1=>by
  have:K.hE0.get i=none:=K.N64k.get_empty _
  rw [this]at e1; cases e1
 top:=by decide
 res:=fun id o b k e=>by
  have:K.hE0.get id=none:=K.N64k.get_empty _
  rw [this]at e; cases e
theorem XN {f:FuncId} {args:List K.KV} {h':K.KH} {W:World} {c:Array Value} (hs:W.ShapedOpen Tryz.prog) (k:K.KCall Tryz.prog f args K.hE0 (.bool true) h') (hc:K.KRs (gh W) args c):
  Calls Tryz.prog f c W fun e W'=>e= .returned (.bool true)∧Below W.heap.size W W':=by
 have hg:K.Glob Tryz.prog (gh W):=fun g hg=>if_pos (by rw [UD]at hg; exact hg)
 have:=callsIn_wide.1 (k ⟨W,fun _=>False,fun _ _=>none⟩ (gh W) W c 0 hg (JL hs) hc)
 refine this.mono ?_
 rintro e W' ⟨c',G',rfl,_,hv,hrel⟩
 cases hv
 exact⟨rfl,hrel.kept.os,hrel.kept.tape,hrel.kept.output,hrel.kept.size,fun k hk=>hrel.kept.heap k hk (fun h=>h)⟩
section
variable {H:Type} {enc:TypeId×Value→H}
theorem uN {a:Assume} {C:Checked} {os:Os} {f:FuncId} {fn:Func} {s:ChangeSpec} {conds:List PathCond} {apart fresh handsOn again:Bool} {X:World→Array Value→Prop}
  (hX:∀(w w':World) (args:Array Value),w.heap=w'.heap→X w args→X w' args)
  (own:ownKnob C.prog.godebug=none) (started:os.Started) (noInit:C.prog.inits.idxOf? f=none) (hfn:C.prog.funcs[f]? =some fn)
  (witness:∃(w:World) (tape:Tape) (i:Input),w.os=os∧(w.forCall tape i).Shaped C.prog∧i.vars= []∧Input.okWide C.prog (w.forCall tape i) .any w.heap.size f i ∧
   ((s.pre enc C.prog fn conds apart (w.forCall tape i).memory i.args∧X (w.forCall tape i).memory i.args)∧sizedMet enc C.prog fn (OpenSpec.ofChange s) apart (w.forCall tape i).memory i.args)∧a.holds C.prog (lone (Frame.enter C.prog f i.args .normal) [] (w.forCall tape i)))
  (contract:∀(W:World) (base:Nat) (args:Array Value) (ds gs:List (DataW H)) (before:List MemPlace),
   (∀(j:Nat) t v,fn.params[j]? =some t→args[j]? =some v→Value.okWide C.prog W .any base t v) →
   DataW.Whole enc C.prog fn.params.toList s.vars apart W args.toList ds gs before →
   X W args→W.ShapedOpen C.prog →
   Calls C.prog f args W fun e W'=>∃v,e= .returned v∧s.post enc C.prog fn apart fresh handsOn again W args v W'):
  ReturnsInHanded a C os f .any (fun w args=>(s.pre enc C.prog fn conds apart w args∧X w args)∧sizedMet enc C.prog fn (OpenSpec.ofChange s) apart w args) (s.post enc C.prog fn apart fresh handsOn again):=by
 refine returnsInHanded_of_calls own started noInit witness ?_
 intro w tape i _ hsh _ hok hpre hholds
 obtain⟨_,_,_,fn',hfn',_,_,_,_,hval⟩:=hok
 have e:fn'=fn:=Option.some.inj (hfn'.symm.trans hfn)
 subst e
 obtain⟨⟨⟨ds,gs,before,hw,hc⟩,hx⟩,hz⟩:=hpre
 have hw':=DataW.Whole.of_heap (w':=w.forCall tape i) (by rfl) hw
 refine(contract (w.forCall tape i) w.heap.size i.args ds gs before hval hw' (hX _ _ _ (by rfl) hx) hsh).mono fun e W' ⟨v,he,hp⟩=> ?_
 subst he
 exact ChangeSpec.post_blind hp
end
theorem lifted (os:Os) (started:os.Started) (H:Type) (enc:TypeId×Value→H):
  ReturnsInHanded {} Tryz.checked os 6 .any (fun w args=>(Rows.validateStatusSpec.pre enc Tryz.prog Tryz.f6 [] false w args∧laidMetH Tryz.prog Rows.validateStatusRow.laid w)∧sizedMet enc Tryz.prog Tryz.f6 (OpenSpec.ofChange Rows.validateStatusSpec) false w args)
   (Rows.validateStatusSpec.post enc Tryz.prog Tryz.f6 false true false false):=by
 refine uN (C:=Tryz.checked) (X:=fun w _=>laidMetH Tryz.prog Rows.validateStatusRow.laid w) (fun _ _ _ hh h=>h.of_heap hh) own started (by kernel_rfl) Tryz.func6
  (ChangeSpec.witness_shaped (enc:=enc) (C:=Tryz.checked) (os:=os) (X:=fun w _=>laidMetH Tryz.prog Rows.validateStatusRow.laid w) false (World.laidAll Tryz.prog os Rows.validateStatusRow.laid) #[.int .i64 0, .int .i64 0, .bool false] 8 (World.laidAll_os _ _ _)
   (World.shaped_of_ZipB (by kernel_rfl) (by kernel_rfl)) (by kernel_rfl) (by kernel_rfl) (by kernel_rfl)
   (by rw [MakeChecks.laidMetH_plain _ _ _ (by kernel_rfl)]; exact laidMet_laidAll _ (by kernel_rfl) (by kernel_rfl))) ?_
 intro W base args ds gs before hval0 hW hL hsh
 have hval:∀(j:Nat) t v,Tryz.f6.params[j]? =some t→args[j]? =some v→Value.okWide Tryz.prog W .any base t v:=hval0
 have hW':=hW
 obtain⟨p,q,hA0,hV,rfl,_,_⟩:=hW
 have hA:DataW.TrodAll enc Tryz.prog W 0 (fun _=>true) true Tryz.f6.params.toList args.toList ds p:=hA0
 rw [Tryz.params6]at hA hval
 obtain⟨v0,v1,v2,d0,d1,d2,p0,p1,p2,rfl,rfl,rfl,h0,h1,h2⟩:=trodAll_three hA
 obtain⟨rfl,rfl⟩:=trodVars_none hV
 have hv0:Value.okWide Tryz.prog W .any base 3 v0:=hval 0 3 v0 rfl rfl
 obtain⟨x0,rfl⟩:=okWide_int Tryz.underlying3 hv0
 have hv1:Value.okWide Tryz.prog W .any base 3 v1:=hval 1 3 v1 rfl rfl
 obtain⟨x1,rfl⟩:=okWide_int Tryz.underlying3 hv1
 have hv2:Value.okWide Tryz.prog W .any base 4 v2:=hval 2 4 v2 rfl rfl
 obtain⟨x2,rfl⟩:=okWide_bool Tryz.underlying4 hv2
 simp only [List.append_nil]at hW'
 have hlt:∀x∈p0++p1++p2,x.block<W.heap.size:=fun x hx=>by simpa using hW'.lt x (by simpa using hx)
 obtain⟨h',k⟩:=K.vs_call x0 x1 x2
 have hk:K.KRs (gh W) [.int .i64 x0, .int .i64 x1, .bool x2] #[.int .i64 x0, .int .i64 x1, .bool x2]:=⟨rfl,fun i v x hv hx=>by
  match i with
  |0=>simp at hv hx; subst hv hx; exact .int _ _
  |1=>simp at hv hx; subst hv hx; exact .int _ _
  |2=>simp at hv hx; subst hv hx; exact .bool _
  |i+3=>simp at hv⟩
 refine(XN hsh k hk).mono fun e W' ⟨he,hbelow⟩=> ?_
 subst he
 exact ⟨_,rfl,_,_,_,[],_,[],hW',trodAll_mk1 (shut_bool Tryz.underlying4 _),
  trodAll_mk3 (Below.trod uB (by kernel_rfl) (of_decide_eq_true (by kernel_rfl)) h0 hbelow (fun x hx=>hlt x (by simp [hx]))) (Below.trod uB (by kernel_rfl) (of_decide_eq_true (by kernel_rfl)) h1 hbelow (fun x hx=>hlt x (by simp [hx]))) (Below.trod uB (by kernel_rfl) (of_decide_eq_true (by kernel_rfl)) h2 hbelow (fun x hx=>hlt x (by simp [hx]))),rfl,hbelow.frame _,fun h=>by cases h⟩
theorem dY:Rows.ValidateStatusSaid:=
 OpenClaim.holds_of_wide 6 Tryz.f6 rfl rfl rfl rfl rfl rfl rfl ⟨rfl,rfl,rfl,rfl,rfl⟩ rfl rfl rfl rfl rfl bS Tryz.func6 UW XC X1
  (fun os started H enc _=>lifted os started H enc)
theorem dO (j:Nat) (t:TypeId) (ht:Tryz.f6.params[j]? =some t):Tryz.prog.wantsStandIn t=false:=by
 rw [Tryz.params6]at ht
 have hm:t∈ [3,3,4]:=by simpa using Array.mem_of_getElem? ht
 have hall:([3,3,4].all fun u=> !Tryz.prog.wantsStandIn u)=true:=by kernel_rfl
 exact(show Tryz.prog.wantsStandIn t=false by simpa using List.all_eq_true.1 hall t hm)
theorem validateStatus_card:Rows.ValidateStatusCardSaid:=
 Claim7.holds_tied_plain_at .later [] [.data, .pinned] true (true, "0680b277a54e20f0acaf06b32ccc4dfde2bdcbed6d885f20e41ef5b5f85cd0f4") false dY (fun _ h => by cases h) (by kernel_rfl) (fun _ h => by cases h) validateStatus_row_tie rfl ⟨rfl, rfl⟩ (by kernel_rfl) rfl
  (fun f fn hf hfn=>by
   obtain rfl:f=6:=Option.some.inj (bS.symm.trans hf)|>.symm
   obtain rfl:fn=Tryz.f6:=(Option.some.inj (Tryz.func6.symm.trans hfn)).symm
   exact⟨ZV,dO⟩)
  Xw
end Go.Proofs.YtkabooclnoiclaaGreatDoor
end
