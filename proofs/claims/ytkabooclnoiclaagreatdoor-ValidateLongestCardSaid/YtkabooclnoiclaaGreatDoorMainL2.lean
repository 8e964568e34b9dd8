/- ValidateLongest returns true for every three arguments. Conditions: those of the given card alone. -/
import Derived.Test.YtkabooclnoiclaaGreatDoorLawL2
import Derived.Test.YtkabooclnoiclaaGreatDoorLawL3
import Derived.Test.YtkabooclnoiclaaGreatDoorMainL1
import Derived.Test.YtkabooclnoiclaaGreatDoorTie
import Derived.Test.YtkabooclnoiclaaGreatDoorCards
set_option linter.all false
section
namespace Go.K
open Go Go.Abs Go.Proofs
theorem J8 (n:Int) (m:Nat) (h0:0<m) (h1:m<1000000):∃j,j<m∧nx n (Int.ofNat m)=Int.ofNat j:=by
 have h:=Pc n (k:=Int.ofNat m) (by simp only [Int.ofNat_eq_natCast]; omega) (by simp only [Int.ofNat_eq_natCast]; omega)
 obtain⟨j,hj⟩:=Int.eq_ofNat_of_zero_le h.1
 refine⟨j, ?_,by rw [hj]; rfl⟩
 have:=h.2
 rw [hj]at this
 simp only [Int.ofNat_eq_natCast]at this
 omega
theorem oo (n k e a:Int):∀N,2≤N→N<6→∀b,b<N-1→∀c,c<5→yes (j7 (Vn n k e a (Int.ofNat N) (Int.ofNat (N-1)) (Int.ofNat b) (Int.ofNat c)) [] (vlH n k e) (pR 6))=true:=by
 intro N h0 h1 b hb c hc
 have:N=2∨N=3∨N=4∨N=5:=O0
 rcases this with rfl|rfl|rfl|rfl
 ·have:b=0:=O0
  subst this
  exact vp (lD n k e a) (lq n k e a) c hc
 ·have:b=0∨b=1:=O0
  rcases this with rfl|rfl
  ·exact vp (fQ n k e a) (fw n k e a) c hc
  ·exact vp (lK n k e a) (fO n k e a) c hc
 ·have:b=0∨b=1∨b=2:=O0
  rcases this with rfl|rfl|rfl
  ·exact vp (fM n k e a) (eP n k e a) c hc
  ·exact vp (fv n k e a) (f9 n k e a) c hc
  ·exact vp (fE n k e a) (lr n k e a) c hc
 ·have:b=0∨b=1∨b=2∨b=3:=O0
  rcases this with rfl|rfl|rfl|rfl
  ·exact vp (lz n k e a) (fp n k e a) c hc
  ·exact vp (hY n k e a) (eZ n k e a) c hc
  ·exact vp (fP n k e a) (fJ n k e a) c hc
  ·exact vp (lp n k e a) (fm n k e a) c hc
noncomputable def vlS:Sl→List KD→KH→QKE→QR:=Ys XA 20 108 2 (po 2 (jd 5)) j7
theorem oY (n k e a:Int) (N:Nat) (h0:2≤N) (h1:N<6):yes (vlS (Vi n k e a (Int.ofNat N)) [] (bo n hE0) (pR 6))=true:=by
 obtain⟨b,hb,hb'⟩:=J8 k (N-1) O0 O0
 obtain⟨c,hc,hc'⟩:=J8 e 5 O1 O1
 have e2:vlS (Vi n k e a (Int.ofNat N)) [] (bo n hE0) (pR 6)=j7 (Vn n k e a (Int.ofNat N) (Int.ofNat (N-1)) (nx k (Int.ofNat (N-1))) (nx e (Int.ofNat 5))) [] (vlH n k e) (pR 6):=by
  have:N=2∨N=3∨N=4∨N=5:=O0
  rcases this with rfl|rfl|rfl|rfl
  ·exact Po n k e a j7 (pR 6)
  ·exact P8 n k e a j7 (pR 6)
  ·exact DM n k e a j7 (pR 6)
  ·exact Dr n k e a j7 (pR 6)
 rw [e2,hb',hc']
 exact oo n k e a N h0 h1 b hb c hc
theorem zaS:Tryz.prog.funcs[5]? =some Tryz.f5:=Tryz.func5
theorem f6:Tryz.f5.body=some (jd 5):=O4
theorem Kw:Tryz.f5.ntmps=108:=O4
theorem oB:Tryz.f5.results= #[.tmp 6]:=O4
theorem P7:wy Tryz.prog 108 (jd 5) (Ys XL 20 108 2 (jd 5) vlS):=wy.pre mN 20 108 2 O4 (wy.pre rL 20 108 2 O4 (wy.of nz 300 108 _))
theorem vl_call (n k e:Int):∃h',KCall Tryz.prog 5 [.int .i64 n, .int .i64 k, .int .i64 e] hE0 (.bool true) h':=by
 obtain⟨j,hj,hj'⟩:=J8 n 4 O1 O1
 have hw:IntKind.wrap .i64 (2+nx n 4)=Int.ofNat (2+j):=by
  have:nx n 4=Int.ofNat j:=hj'
  rw [this]
  have:j=0∨j=1∨j=2∨j=3:=O0
  rcases this with rfl|rfl|rfl|rfl<;>decide
 have hy:yes (Ys XL 20 108 2 (jd 5) vlS (gU [.int .i64 n, .int .i64 k, .int .i64 e] 0 .none) [] hE0 (pR 6))=true:=by
  rw [oF,hw]
  exact oY n k e _ (2+j) O0 O0
 obtain⟨h',q⟩:=eH hy
 have st:wy Tryz.prog Tryz.f5.ntmps (jd 5) (Ys XL 20 108 2 (jd 5) vlS):=by
  rw [Kw]; exact P7
 have hl:([.int .i64 n, .int .i64 k, .int .i64 e]:List KV).length≤Tryz.f5.ntmps:=by
  rw [Kw]; exact iD rfl
 exact⟨h',wy.call QH Uf zaS f6 hl oB st q⟩
end Go.K
end
section
set_option maxRecDepth 100000
namespace Go.Proofs.YtkabooclnoiclaaGreatDoor
open Go.ChangeShapes Go.WideShapes Go.ChangeAt Go.RowKit Go.Abs
theorem own:ownKnob Tryz.prog.godebug=none:=O4
theorem WK:laidOutB Tryz.prog=true:=O4
noncomputable def K9 (g:Nat):Option Nat:=(((begin Tryz.prog (fun _ _=>0) default).world.heap[g]?).bind Obj.row?).map fun x=>x.1.size
theorem G4 {W:World} (h:W.ShapedOpen Tryz.prog) {g:Nat} (hg:Nat.blt g Tryz.prog.globals.size=true) (hk:(K9 g).isSome=true):g<W.heap.size:=by
 unfold K9 at hk
 rw [Option.isSome_map]at hk
 obtain⟨⟨z,t⟩,h1⟩:=Option.isSome_iff_exists.1 hk
 obtain⟨cs,h3,h4,_⟩:=h.1 g z t (O5 hg) h1
 exact Go.Abs.heap_lt h3
theorem nA:Tryz.prog.globals.size=3:=O4
theorem cn {W:World} (h:W.ShapedOpen Tryz.prog):3≤W.heap.size:=G4 h (g:=2) O4 O4
def gh (W:World):K.Gh:=⟨fun id=>if id<3 then some (id,0)else none,fun _=>0⟩
theorem o6 {W:World} (h:W.ShapedOpen Tryz.prog):K.KRel ⟨W,fun _=>False,fun _ _=>none⟩ (gh W) K.hE0 W where
 kept:=k9.refl W _ _
 blk:=fun id o e=>by
  have:K.hE0.get id=none:=K.N64k.get_empty _
  rw [this]at e; cases e
 lt :=fun id b k e=>by
  have e:(if id<3 then some (id,0)else none)=some (b,k):=e
  split at e
  ·simp only [Option.some.injEq,Prod.mk.injEq]at e
   obtain⟨rfl,rfl⟩:=e
   exact⟨Nat.lt_of_lt_of_le (by assumption) (cn h),Nat.lt_of_lt_of_le (by assumption) O1⟩
  ·cases e
 sep:=fun i j oi oj b ki kj e1=>by
  have:K.hE0.get i=none:=K.N64k.get_empty _
  rw [this]at e1; cases e1
 top:=O1
 res:=fun id o b k e=>by
  have:K.hE0.get id=none:=K.N64k.get_empty _
  rw [this]at e; cases e
theorem fA {f:FuncId} {args:List K.KV} {h':K.KH} {W:World} {c:Array Value} (hs:W.ShapedOpen Tryz.prog) (k:K.KCall Tryz.prog f args K.hE0 (.bool true) h') (hc:K.KRs (gh W) args c):
  Calls Tryz.prog f c W fun e W'=>e= .returned (.bool true)∧Below W.heap.size W W':=by
 have hg:K.Glob Tryz.prog (gh W):=fun g hg=>if_pos (by rw [nA]at hg; exact hg)
 have:=callsIn_wide.1 (k ⟨W,fun _=>False,fun _ _=>none⟩ (gh W) W c 0 hg (o6 hs) hc)
 refine this.mono ?_
 rintro e W' ⟨c',G',rfl,_,hv,hrel⟩
 cases hv
 exact⟨rfl,hrel.kept.os,hrel.kept.tape,hrel.kept.output,hrel.kept.size,fun k hk=>hrel.kept.heap k hk (fun h=>h)⟩
section
variable {H:Type} {enc:TypeId×Value→H}
theorem YO {a:Assume} {C:Checked} {os:Os} {f:FuncId} {fn:Func} {s:ChangeSpec} {conds:List PathCond} {apart fresh handsOn again:Bool} {X:World→Array Value→Prop}
  (hX:∀(w w':World) (args:Array Value),w.heap=w'.heap→X w args→X w' args)
  (own:ownKnob C.prog.godebug=none) (started:os.Started) (noInit:C.prog.inits.idxOf? f=none) (hfn:C.prog.funcs[f]? =some fn)
  (witness:∃(w:World) (tape:Tape) (i:Input),w.os=os∧(w.forCall tape i).Shaped C.prog∧i.vars= []∧Input.okWide C.prog (w.forCall tape i) .any w.heap.size f i ∧
   ((s.pre enc C.prog fn conds apart (w.forCall tape i).memory i.args∧X (w.forCall tape i).memory i.args)∧sizedMet enc C.prog fn (OpenSpec.ofChange s) apart (w.forCall tape i).memory i.args)∧a.holds C.prog (lone (Frame.enter C.prog f i.args .normal) [] (w.forCall tape i)))
  (contract:∀(W:World) (base:Nat) (args:Array Value) (ds gs:List (DataW H)) (before:List MemPlace),
   (∀(j:Nat) t v,fn.params[j]? =some t→args[j]? =some v→Value.okWide C.prog W .any base t v) →
   DataW.Whole enc C.prog fn.params.toList s.vars apart W args.toList ds gs before →
   X W args→W.ShapedOpen C.prog →
   Calls C.prog f args W fun e W'=>∃v,e= .returned v∧s.post enc C.prog fn apart fresh handsOn again W args v W'):
  ReturnsInHanded a C os f .any (fun w args=>(s.pre enc C.prog fn conds apart w args∧X w args)∧sizedMet enc C.prog fn (OpenSpec.ofChange s) apart w args) (s.post enc C.prog fn apart fresh handsOn again):=by
 refine returnsInHanded_of_calls own started noInit witness ?_
 intro w tape i _ hsh _ hok hpre hholds
 obtain⟨_,_,_,fn',hfn',_,_,_,_,hval⟩:=hok
 have e:fn'=fn:=Option.some.inj (hfn'.symm.trans hfn)
 subst e
 obtain⟨⟨⟨ds,gs,before,hw,hc⟩,hx⟩,hz⟩:=hpre
 have hw':=DataW.Whole.of_heap (w':=w.forCall tape i) (by rfl) hw
 refine(contract (w.forCall tape i) w.heap.size i.args ds gs before hval hw' (hX _ _ _ (by rfl) hx) hsh).mono fun e W' ⟨v,he,hp⟩=> ?_
 subst he
 exact ChangeSpec.post_blind hp
end
theorem lifted (os:Os) (started:os.Started) (H:Type) (enc:TypeId×Value→H):
  ReturnsInHanded {} Tryz.checked os 5 .any (fun w args=>(Rows.validateLongestSpec.pre enc Tryz.prog Tryz.f5 [] false w args∧laidMetH Tryz.prog Rows.validateLongestRow.laid w)∧sizedMet enc Tryz.prog Tryz.f5 (OpenSpec.ofChange Rows.validateLongestSpec) false w args)
   (Rows.validateLongestSpec.post enc Tryz.prog Tryz.f5 false true false false):=by
 refine YO (C:=Tryz.checked) (X:=fun w _=>laidMetH Tryz.prog Rows.validateLongestRow.laid w) (fun _ _ _ hh h=>h.of_heap hh) own started O4 Tryz.func5
  (ChangeSpec.witness_shaped (enc:=enc) (C:=Tryz.checked) (os:=os) (X:=fun w _=>laidMetH Tryz.prog Rows.validateLongestRow.laid w) false (World.laidAll Tryz.prog os Rows.validateLongestRow.laid) #[.int .i64 0, .int .i64 0, .int .i64 0] 8 (World.laidAll_os _ _ _)
   (World.shaped_of_ZipB O4 O4) O4 O4 O4
   (by rw [MakeChecks.laidMetH_plain _ _ _ O4]; exact laidMet_laidAll _ O4 O4)) ?_
 intro W base args ds gs before hval0 hW hL hsh
 have hval:∀(j:Nat) t v,Tryz.f5.params[j]? =some t→args[j]? =some v→Value.okWide Tryz.prog W .any base t v:=hval0
 have hW':=hW
 obtain⟨p,q,hA0,hV,rfl,_,_⟩:=hW
 have hA:DataW.TrodAll enc Tryz.prog W 0 (fun _=>true) true Tryz.f5.params.toList args.toList ds p:=hA0
 rw [Tryz.params5]at hA hval
 obtain⟨v0,v1,v2,d0,d1,d2,p0,p1,p2,rfl,rfl,rfl,h0,h1,h2⟩:=trodAll_three hA
 obtain⟨rfl,rfl⟩:=trodVars_none hV
 have hv0:Value.okWide Tryz.prog W .any base 3 v0:=hval 0 3 v0 rfl rfl
 obtain⟨x0,rfl⟩:=okWide_int Tryz.underlying3 hv0
 have hv1:Value.okWide Tryz.prog W .any base 3 v1:=hval 1 3 v1 rfl rfl
 obtain⟨x1,rfl⟩:=okWide_int Tryz.underlying3 hv1
 have hv2:Value.okWide Tryz.prog W .any base 3 v2:=hval 2 3 v2 rfl rfl
 obtain⟨x2,rfl⟩:=okWide_int Tryz.underlying3 hv2
 simp only [List.append_nil]at hW'
 have hlt:∀x∈p0++p1++p2,x.block<W.heap.size:=fun x hx=>by simpa using hW'.lt x (O5 hx)
 obtain⟨h',k⟩:=K.vl_call x0 x1 x2
 have hk:K.KRs (gh W) [.int .i64 x0, .int .i64 x1, .int .i64 x2] #[.int .i64 x0, .int .i64 x1, .int .i64 x2]:=⟨rfl,fun i v x hv hx=>by
  match i with
  |0=>simp at hv hx; subst hv hx; exact .int _ _
  |1=>simp at hv hx; subst hv hx; exact .int _ _
  |2=>simp at hv hx; subst hv hx; exact .int _ _
  |i+3=>simp at hv⟩
 refine(fA hsh k hk).mono fun e W' ⟨he,hbelow⟩=> ?_
 subst he
 exact ⟨_,rfl,_,_,_,[],_,[],hW',trodAll_mk1 (shut_bool Tryz.underlying4 _),
  trodAll_mk3 (Below.trod WK O4 (of_decide_eq_true O4) h0 hbelow (fun x hx=>hlt x (by simp [hx]))) (Below.trod WK O4 (of_decide_eq_true O4) h1 hbelow (fun x hx=>hlt x (by simp [hx]))) (Below.trod WK O4 (of_decide_eq_true O4) h2 hbelow (fun x hx=>hlt x (by simp [hx]))),rfl,hbelow.frame _,fun h=>by cases h⟩
theorem GA:Rows.ValidateLongestSaid:=
 OpenClaim.holds_of_wide 5 Tryz.f5 rfl rfl rfl rfl rfl rfl rfl ⟨rfl,rfl,rfl,rfl,rfl⟩ rfl rfl rfl rfl rfl QN Tryz.func5 nO fi fL
  (fun os started H enc _=>lifted os started H enc)
theorem Gr (j:Nat) (t:TypeId) (ht:Tryz.f5.params[j]? =some t):Tryz.prog.wantsStandIn t=false:=by
 rw [Tryz.params5]at ht
 have hm:t∈ [3,3,3]:=by simpa using Array.mem_of_getElem? ht
 have hall:([3,3,3].all fun u=> !Tryz.prog.wantsStandIn u)=true:=O4
 exact(show Tryz.prog.wantsStandIn t=false by simpa using List.all_eq_true.1 hall t hm)
theorem validateLongest_card:Rows.ValidateLongestCardSaid:=
 Claim7.holds_tied_plain_at .later [] [.data, .pinned] true (true, "0680b277a54e20f0acaf06b32ccc4dfde2bdcbed6d885f20e41ef5b5f85cd0f4") false GA (fun _ h => by cases h) O4 (fun _ h => by cases h) validateLongest_row_tie rfl ⟨rfl, rfl⟩ O4 rfl
  (fun f fn hf hfn=>by
   obtain rfl:f=5:=Option.some.inj (QN.symm.trans hf)|>.symm
   obtain rfl:fn=Tryz.f5:=(Option.some.inj (Tryz.func5.symm.trans hfn)).symm
   exact⟨PJ,Gr⟩)
  eV
end Go.Proofs.YtkabooclnoiclaaGreatDoor
end
