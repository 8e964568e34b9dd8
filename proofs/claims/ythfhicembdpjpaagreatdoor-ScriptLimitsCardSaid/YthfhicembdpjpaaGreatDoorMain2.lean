/- ScriptLimits returns true for every two numbers and leaves them as they were. Conditions: those of the given card alone. -/
import Derived.Test.YthfhicembdpjpaaGreatDoorLaw2
import Derived.Test.YthfhicembdpjpaaGreatDoorMain1
import Derived.Test.YthfhicembdpjpaaGreatDoorTied1
import Derived.Test.YthfhicembdpjpaaGreatDoorCards
set_option linter.unusedVariables false
set_option linter.unusedSimpArgs false
set_option linter.unnecessarySimpa false
section
set_option maxRecDepth 100000
namespace Go.Proofs.YthfhicembdpjpaaGreatDoor
open Go.ChangeShapes Go.WideShapes Go.ChangeAt Go.RowKit Go.Abs
theorem own : ownKnob Tryz.prog.godebug = none := by kernel_rfl
noncomputable def rowSize (g : Nat) : Option Nat := (((begin Tryz.prog (fun _ _ => 0) default).world.heap[g]?).bind Obj.row?).map fun x => x.1.size
theorem shape_size {W : World} (h : W.ShapedOpen Tryz.prog) {g n : Nat} (hg : Nat.blt g Tryz.prog.globals.size = true) (hk : rowSize g = some n) : ∃ C el fz, W.heap[g]? = some (.cells C el fz) ∧ C.size = n := by
 unfold rowSize at hk
 obtain ⟨⟨z, t⟩, h1, h2⟩ := Option.map_eq_some_iff.1 hk
 obtain ⟨cs, h3, h4, _⟩ := h.1 g z t (by simpa using hg) h1
 exact ⟨cs, t, _, h3, by rw [h4]; exact h2⟩
theorem size0 : rowSize 0 = some 1 := by kernel_rfl
theorem size1 : rowSize 1 = some 12 := by kernel_rfl
theorem size4 : rowSize 4 = some 1 := by kernel_rfl
theorem size5 : rowSize 5 = some 1 := by kernel_rfl
theorem size6 : rowSize 6 = some 20 := by kernel_rfl
theorem max_cell {W : World} (h : W.ShapedOpen Tryz.prog) : ∃ m, W.cell? ⟨0, 0, none⟩ = some (.int .i64 m) :=
 cell_of_shapedOpen_int (t := 3) (zero := #[.int .i64 0]) h (of_decide_eq_true (by kernel_rfl)) (by kernel_rfl) rfl (by kernel_rfl) (by kernel_rfl) (by kernel_rfl)
theorem tab_cell {W : World} {name : String} {g e n : Nat} {k : IntKind} {t : TypeId} {cs : Array Value} {fuel : Nat} {p : List MemPlace} {tab : List Int}
  (hn : Tryz.prog.globalNamed name = some g) (hu : Tryz.prog.underlying t = some (.array n e)) (he : Tryz.prog.underlying e = some (.int k)) (hc : Tryz.prog.cellsOf e = 1) (hlen : tab.length = n)
  (hv : W.var? Tryz.prog name = some cs) {enc : TypeId × Value → Unit} {base : Nat} {sp : Nat → Bool} {held : Bool}
  (hd : DataW.trod enc Tryz.prog W base sp held fuel t cs.toList = some (.agg (tab.map fun x => .lit (.int k x)), p)) (r : Nat) (hr : r < n) : W.cell? ⟨g, r, none⟩ = some (.int k (tab.getD r 0)) := by
 obtain ⟨xs, m, _, ex, _, hl, hel⟩ := DataW.trod_array hu hd
 have hE := hel r hr
 rw [hc, Nat.mul_one, List.getElem?_eq_getElem (by omega)] at hE
 obtain ⟨z, e1, e2, _⟩ := DataW.trod_int he hE
 have e3 : (xs.map (·.1)) = tab.map fun n => .lit (.int k n) := (DataW.agg.inj (Prod.mk.inj ex).1).symm
 have e4 : (xs.map (·.1))[r]? = (tab.map fun n => (DataW.lit (.int k n) : DataW Unit))[r]? := by rw [e3]
 rw [List.getElem?_map, List.getElem?_map, List.getElem?_eq_getElem (by omega : r < xs.length), List.getElem?_eq_getElem (by omega : r < tab.length), e2] at e4
 have hz : z = tab.getD r 0 := by
  simp only [Option.map_some, Option.some.injEq, DataW.lit.injEq, Lit.int.injEq, true_and] at e4
  rw [e4, List.getD, List.getElem?_eq_getElem (by omega : r < tab.length)]; rfl
 rw [World.var?_cell hn hv r, ← hz]
 have : cs.toList[r]? = some (.int k z) := by
  have h0 : ((cs.toList.drop r).take 1)[0]? = some (.int k z) := by rw [e1]; rfl
  simpa using h0
 simpa using this
theorem err_cell {W : World} {name : String} {g fuel : Nat} {cs : Array Value} {p : List MemPlace} {s : List UInt8} (hn : Tryz.prog.globalNamed name = some g) (hv : W.var? Tryz.prog name = some cs)
  {enc : TypeId × Value → Unit} {base : Nat} {sp : Nat → Bool} (hd : DataW.trod enc Tryz.prog W base sp false fuel 91 cs.toList = some (.iface "*errors.errorString" (.ptr (.agg [.lit (.string s)])), p)) : ∃ t c, W.cell? ⟨g, 0, none⟩ = some (.iface t c) := by
 have hu : Tryz.prog.underlying 91 = some (.interface #[("Error", 94)]) := by kernel_rfl
 cases fuel with
 | zero => simp [DataW.trod] at hd
 | succ fuel =>
  obtain ⟨l⟩ := cs
  match l, hd, hv with
  | [], hd, hv => simp [DataW.trod, hu] at hd
  | a :: b :: r, hd, hv => simp [DataW.trod, hu] at hd
  | [x], hd, hv =>
   cases x with
   | iface u v =>
    exact ⟨u, v, by rw [World.var?_cell hn hv 0]; rfl⟩
   | _ => simp [DataW.trod, hu] at hd
structure Laid (mx : MX) (W : World) : Prop where
 m : W.cell? ⟨0, 0, none⟩ = some (.int .i64 mx.m)
 days : ∀ r, r < 12 → W.cell? ⟨1, r, none⟩ = some (.int .i64 (tab0.getD r 0))
 pow : ∀ r, r < 20 → W.cell? ⟨6, r, none⟩ = some (.int .u64 (tab2.getD r 0))
 e4 : ∃ c, W.cell? ⟨4, 0, none⟩ = some (.iface mx.a c)
 e5 : ∃ c, W.cell? ⟨5, 0, none⟩ = some (.iface mx.b c)
theorem laid_cells {W : World} (hs : W.ShapedOpen Tryz.prog) (h : laidMetH Tryz.prog Rows.scriptLimitsRow.laid W) : ∃ mx, Laid mx W := by
 rw [MakeChecks.laidMetH_plain _ _ _ (by kernel_rfl)] at h
 obtain ⟨ps, ⟨_, _, _, _, _, _, _, _, _, _, ⟨_, _, _, _, _, _, _, _, _, _, ⟨g2, t2, cs2, fuel2, p2, q2, hg2, ht2, hv2, hd2, ⟨_, _, _, _, _, _, _, _, _, _, ⟨_, _, _, _, _, _, _, _, _, _, ⟨g, t, cs, fuel, p, q, hg, ht, hv, hd,
  ⟨g4, t4, cs4, fuel4, p4, q4, hg4, ht4, hv4, hd4, ⟨g5, t5, cs5, fuel5, p5, q5, hg5, ht5, hv5, hd5, _, _⟩, _⟩, _⟩, _⟩, _⟩, _⟩, _⟩, _⟩, _, _⟩ := h
 obtain ⟨m, hm⟩ := max_cell hs
 obtain rfl := Option.some.inj ((show Tryz.prog.globalNamed "strconv.ErrSyntax" = some 4 by kernel_rfl).symm.trans hg4)
 obtain rfl := Option.some.inj ((show (Tryz.prog.globals[4]?).map (·.type) = some 91 by kernel_rfl).symm.trans ht4)
 obtain ⟨a, c4, h4⟩ := err_cell (by kernel_rfl) hv4 hd4
 obtain rfl := Option.some.inj ((show Tryz.prog.globalNamed "strconv.ErrRange" = some 5 by kernel_rfl).symm.trans hg5)
 obtain rfl := Option.some.inj ((show (Tryz.prog.globals[5]?).map (·.type) = some 91 by kernel_rfl).symm.trans ht5)
 obtain ⟨b, c5, h5⟩ := err_cell (by kernel_rfl) hv5 hd5
 refine ⟨⟨m, a, b⟩, hm, ?_, ?_, ⟨c4, h4⟩, ⟨c5, h5⟩⟩
 ·obtain rfl := Option.some.inj ((show Tryz.prog.globalNamed "certpath/date.lengths" = some 1 by kernel_rfl).symm.trans hg)
  obtain rfl := Option.some.inj ((show (Tryz.prog.globals[1]?).map (·.type) = some 434 by kernel_rfl).symm.trans ht)
  exact tab_cell (tab := tab0) (by kernel_rfl) (show Tryz.prog.underlying 434 = some (.array 12 3) by kernel_rfl) (show Tryz.prog.underlying 3 = some (.int .i64) by kernel_rfl) (by kernel_rfl) (by kernel_rfl) hv hd
 ·obtain rfl := Option.some.inj ((show Tryz.prog.globalNamed "internal/strconv.uint64pow10" = some 6 by kernel_rfl).symm.trans hg2)
  obtain rfl := Option.some.inj ((show (Tryz.prog.globals[6]?).map (·.type) = some 456 by kernel_rfl).symm.trans ht2)
  exact tab_cell (tab := tab2) (by kernel_rfl) (show Tryz.prog.underlying 456 = some (.array 20 369) by kernel_rfl) (show Tryz.prog.underlying 369 = some (.int .u64) by kernel_rfl) (by kernel_rfl) (by kernel_rfl) hv2 hd2
def plain (W : World) (b i : Nat) : Option V := match W.cell? ⟨b, i, none⟩ with
 | some (.int k n) => some (.int k n)
 | some (.iface t _) => some (.iface t .junk)
 | _ => none
def gh (W : World) : Gh := ⟨plain W, fun _ => none, fun _ _ => none, fun _ => 0⟩
theorem tab_glob {W : World} {k : IntKind} {tab : List Int} {g i : Nat} {v : V} (h : ∀ r, r < tab.length → W.cell? ⟨g, r, none⟩ = some (.int k (tab.getD r 0))) (hv : (tab.map (vI k))[i]? = some v) : (gh W).imm g i = some v := by
 rw [List.getElem?_map] at hv
 obtain ⟨z, hz, rfl⟩ := Option.map_eq_some_iff.1 hv
 have := h i (lt_of_get hz)
 rw [List.getD, hz] at this
 simp [gh, plain, this, vI]
theorem gh_rel {mx : MX} {W : World} (hs : W.ShapedOpen Tryz.prog) (hL : Laid mx W) :
    Rel (gl0 mx) ⟨W, fun _ => False, plain W⟩ (gh W) ⟨[], []⟩ W where
  below := Kept.refl W _ _
  vars := fun id cells hc => by simp at hc
  varlt := fun id b hi => by simp at hi
  sc := fun id cells hc => by simp at hc
  disj := fun i j b ci cj hi => by simp at hi
  imm := fun b i v hv => by
    simp only [gh, plain] at hv
    split at hv
    · rename_i k n hc
      injection hv with hv; subst hv
      exact ⟨rfl, _, hc, .int _ _⟩
    · rename_i t c hc
      injection hv with hv; subst hv
      exact ⟨rfl, _, hc, .iface (.junk _)⟩
    · cases hv
  fam := fun t p b e lim ht => by simp at ht
  famdisj := fun t t' p p' b e l e' l' ht => by simp at ht
  glob := fun g i v hv => by
    have one : ∀ (x : V), [x][i]? = some v → i = 0 ∧ v = x := by
      intro x h
      match i, h with
      | 0, h => exact ⟨rfl, by simpa using h.symm⟩
      | i + 1, h => simp at h
    match g, hv with
    | 0, hv => obtain ⟨rfl, rfl⟩ := one _ hv; simp [gh, plain, hL.m]
    | 1, hv => exact tab_glob (tab := tab0) hL.days hv
    | 4, hv => obtain ⟨rfl, rfl⟩ := one _ hv; obtain ⟨c, hc⟩ := hL.e4; simp [gh, plain, hc]
    | 5, hv => obtain ⟨rfl, rfl⟩ := one _ hv; obtain ⟨c, hc⟩ := hL.e5; simp [gh, plain, hc]
    | 6, hv => exact tab_glob (tab := tab2) hL.pow hv
    | 2, hv => simp [gl0] at hv
    | 3, hv => simp [gl0] at hv
    | g + 7, hv => simp [gl0] at hv
  gfix := fun g hn => by
    have key : ∃ C el fz, W.heap[g]? = some (.cells C el fz) ∧ C.size = (gl0 mx g).length := by
     match g, hn with
     | 0, _ => obtain ⟨C, el, fz, k1, k2⟩ := shape_size hs (by kernel_rfl) size0; exact ⟨C, el, fz, k1, by rw [k2]; rfl⟩
     | 1, _ => obtain ⟨C, el, fz, k1, k2⟩ := shape_size hs (by kernel_rfl) size1; exact ⟨C, el, fz, k1, by rw [k2]; rfl⟩
     | 4, _ => obtain ⟨C, el, fz, k1, k2⟩ := shape_size hs (by kernel_rfl) size4; exact ⟨C, el, fz, k1, by rw [k2]; rfl⟩
     | 5, _ => obtain ⟨C, el, fz, k1, k2⟩ := shape_size hs (by kernel_rfl) size5; exact ⟨C, el, fz, k1, by rw [k2]; rfl⟩
     | 6, _ => obtain ⟨C, el, fz, k1, k2⟩ := shape_size hs (by kernel_rfl) size6; exact ⟨C, el, fz, k1, by rw [k2]; rfl⟩
     | 2, hn => exact absurd rfl hn
     | 3, hn => exact absurd rfl hn
     | g + 7, hn => exact absurd rfl hn
    obtain ⟨C, el, fz, k1, k2⟩ := key
    exact ⟨fun h => h.elim (fun h => by have := heap_lt k1; exact absurd this (Nat.not_lt.2 h)) id, C, el, fz, k1, k2⟩
  old := fun b i _ => rfl
theorem call_of {a b : Int} {W : World} {mx : MX} (hs : W.ShapedOpen Tryz.prog) (hL : Laid mx W) : Calls Tryz.prog 4 #[.int .i64 a, .int .i64 b] W fun e W' => e = .returned (.bool true) ∧ Below W.heap.size W W' := by
 obtain ⟨n, hlaw⟩ := limits_law a b
 have := (go_certpathlaw38_ScriptLimits_ok (mx := mx) hlaw).2 ⟨W, fun _ => False, plain W⟩ (gh W) W #[.int .i64 a, .int .i64 b] (gh_rel hs hL) ⟨rfl, fun i v x hv hx => by
  match i, hv, hx with
  | 0, hv, hx => cases hv; cases hx; exact .int _ _
  | 1, hv, hx => cases hv; cases hx; exact .int _ _
  | i + 2, hv, hx => simp at hv⟩ (by simp [V.scs, V.sc])
 refine this.mono ?_
 rintro e W' ⟨r, c', st', G', rfl, ⟨rfl, rfl⟩, hvr, _, hrel, _, _⟩
 cases hvr
 exact ⟨rfl, hrel.below.os, hrel.below.tape, hrel.below.output, hrel.below.size, fun k hk => hrel.below.heap k hk (fun h => h)⟩
section
variable {H : Type} {enc : TypeId × Value → H}
theorem handed_shaped {a : Assume} {C : Checked} {os : Os} {f : FuncId} {fn : Func} {s : ChangeSpec} {conds : List PathCond} {apart fresh handsOn again : Bool} {X : World → Array Value → Prop}
  (hX : ∀ (w w' : World) (args : Array Value), w.heap = w'.heap → X w args → X w' args)
  (own : ownKnob C.prog.godebug = none) (started : os.Started) (noInit : C.prog.inits.idxOf? f = none) (hfn : C.prog.funcs[f]? = some fn)
  (witness : ∃ (w : World) (tape : Tape) (i : Input), w.os = os ∧ (w.forCall tape i).Shaped C.prog ∧ i.vars = [] ∧ Input.okWide C.prog (w.forCall tape i) .any w.heap.size f i ∧
   ((s.pre enc C.prog fn conds apart (w.forCall tape i).memory i.args ∧ X (w.forCall tape i).memory i.args) ∧ sizedMet enc C.prog fn (OpenSpec.ofChange s) apart (w.forCall tape i).memory i.args) ∧ a.holds C.prog (lone (Frame.enter C.prog f i.args .normal) [] (w.forCall tape i)))
  (contract : ∀ (W : World) (base : Nat) (args : Array Value) (ds gs : List (DataW H)) (before : List MemPlace),
   (∀ (j : Nat) t v, fn.params[j]? = some t → args[j]? = some v → Value.okWide C.prog W .any base t v) →
   DataW.Whole enc C.prog fn.params.toList s.vars apart W args.toList ds gs before →
   X W args → W.ShapedOpen C.prog →
   Calls C.prog f args W fun e W' => ∃ v, e = .returned v ∧ s.post enc C.prog fn apart fresh handsOn again W args v W') :
  ReturnsInHanded a C os f .any (fun w args => (s.pre enc C.prog fn conds apart w args ∧ X w args) ∧ sizedMet enc C.prog fn (OpenSpec.ofChange s) apart w args) (s.post enc C.prog fn apart fresh handsOn again) := by
 refine returnsInHanded_of_calls own started noInit witness ?_
 intro w tape i _ hsh _ hok hpre hholds
 obtain ⟨_, _, _, fn', hfn', _, _, _, _, hval⟩ := hok
 have e : fn' = fn := Option.some.inj (hfn'.symm.trans hfn)
 subst e
 obtain ⟨⟨⟨ds, gs, before, hw, hc⟩, hx⟩, hz⟩ := hpre
 have hw' := DataW.Whole.of_heap (w' := w.forCall tape i) (by rfl) hw
 refine (contract (w.forCall tape i) w.heap.size i.args ds gs before hval hw' (hX _ _ _ (by rfl) hx) hsh).mono fun e W' ⟨v, he, hp⟩ => ?_
 subst he
 exact ChangeSpec.post_blind hp
end
theorem shut_int {H : Type} {enc : TypeId × Value → H} {W : World} {base : Nat} {sp : Nat → Bool} {held : Bool} {t : TypeId} {k : IntKind} {n : Int} {d : DataW H} {p : List MemPlace} (ht : Tryz.prog.underlying t = some (.int k)) (h : DataW.Trod enc Tryz.prog W base sp held t (.int k n) d p) (W' : World) (sp' : Nat → Bool) : DataW.Trod enc Tryz.prog W' base sp' held t (.int k n) d p := by
 obtain ⟨fuel, hf⟩ := h
 obtain ⟨z, e1, e2, e3⟩ := DataW.trod_int ht hf
 refine ⟨fuel, ?_⟩
 cases fuel with
 | zero => simp [DataW.trod] at hf
 | succ fuel => simpa only [DataW.trod, ht, Value.cells] using hf
set_option maxRecDepth 100000 in
theorem limits_lifted (os : Os) (started : os.Started) (H : Type) (enc : TypeId × Value → H) :
  ReturnsInHanded {} Tryz.checked os 4 .any (fun w args => (Rows.scriptLimitsSpec.pre enc Tryz.prog Tryz.f4 [] false w args ∧ laidMetH Tryz.prog Rows.scriptLimitsRow.laid w) ∧ sizedMet enc Tryz.prog Tryz.f4 (OpenSpec.ofChange Rows.scriptLimitsSpec) false w args)
   (Rows.scriptLimitsSpec.post enc Tryz.prog Tryz.f4 false true false false) := by
 refine handed_shaped (C := Tryz.checked) (X := fun w _ => laidMetH Tryz.prog Rows.scriptLimitsRow.laid w) (fun _ _ _ hh h => h.of_heap hh) own started (by kernel_rfl) Tryz.func4
  (ChangeSpec.witness_shaped (enc := enc) (C := Tryz.checked) (os := os) (X := fun w _ => laidMetH Tryz.prog Rows.scriptLimitsRow.laid w) false (World.laidAll Tryz.prog os Rows.scriptLimitsRow.laid) #[.int .i64 0, .int .i64 0] 8 (World.laidAll_os _ _ _)
   (World.shaped_of_ZipB (by kernel_rfl) (by kernel_rfl)) (by kernel_rfl) (by kernel_rfl) (by kernel_rfl)
   (by rw [MakeChecks.laidMetH_plain _ _ _ (by kernel_rfl)]; exact laidMet_laidAll _ (by kernel_rfl) (by kernel_rfl))) ?_
 intro W base args ds gs before hval0 hW hL hsh
 have hval : ∀ (j : Nat) t v, Tryz.f4.params[j]? = some t → args[j]? = some v → Value.okWide Tryz.prog W .any base t v := hval0
 have hW' := hW
 obtain ⟨p, q, hA0, hV, rfl, _, _⟩ := hW
 have hA : DataW.TrodAll enc Tryz.prog W 0 (fun _ => true) true Tryz.f4.params.toList args.toList ds p := hA0
 rw [Tryz.params4] at hA hval
 obtain ⟨v0, v1, d0, d1, p0, p1, rfl, rfl, rfl, h0, h1⟩ := trodAll_two hA
 obtain ⟨rfl, rfl⟩ := trodVars_none hV
 have hv0 : Value.okWide Tryz.prog W .any base 3 v0 := hval 0 3 v0 rfl rfl
 have hv1 : Value.okWide Tryz.prog W .any base 3 v1 := hval 1 3 v1 rfl rfl
 obtain ⟨a, rfl⟩ := okWide_int Tryz.underlying3 hv0
 obtain ⟨b, rfl⟩ := okWide_int Tryz.underlying3 hv1
 obtain ⟨mx, hl⟩ := laid_cells hsh hL
 refine (call_of hsh hl).mono fun e W' ⟨he, hbelow⟩ => ?_
 subst he
 exact ⟨_, rfl, _, _, _, [], _, [], hW', trodAll_mk1 (shut_bool Tryz.underlying4 _),
  trodAll_mk2 (shut_int Tryz.underlying3 h0 _ _) (shut_int Tryz.underlying3 h1 _ _), rfl, hbelow.frame _, fun h => by cases h⟩
theorem scriptLimits_holds : Rows.ScriptLimitsSaid :=
 OpenClaim.holds_of_wide 4 Tryz.f4 rfl rfl rfl rfl rfl rfl rfl ⟨rfl, rfl, rfl, rfl, rfl⟩ rfl rfl rfl rfl rfl fc_name Tryz.func4 fc_all fc_inst fc_wrap
  (fun os started H enc _ => limits_lifted os started H enc)
theorem stand_ins (j : Nat) (t : TypeId) (ht : Tryz.f4.params[j]? = some t) : Tryz.prog.wantsStandIn t = false := by
 rw [Tryz.params4] at ht
 have hm : t ∈ [3, 3] := by simpa using Array.mem_of_getElem? ht
 have hall : ([3, 3].all fun u => !Tryz.prog.wantsStandIn u) = true := by kernel_rfl
 exact (show Tryz.prog.wantsStandIn t = false by simpa using List.all_eq_true.1 hall t hm)
theorem scriptLimits_card : Rows.ScriptLimitsCardSaid :=
 Claim7.holds_tied_plain_at .later [] [.pinned, .data, .data, .data, .data, .data, .sentinel, .sentinel] true (true, "3701705cc2e2e191c8fa9f1e4b0902d9b220334329933c06957ff2267379d13a") true scriptLimits_holds (fun _ h => by cases h) (by kernel_rfl) (fun _ h => by cases h) scriptLimits_row_tie rfl ⟨rfl, rfl⟩ (by kernel_rfl) rfl
  (fun f fn hf hfn => by
   obtain rfl : f = 4 := Option.some.inj (fc_name.symm.trans hf) |>.symm
   obtain rfl : fn = Tryz.f4 := (Option.some.inj (Tryz.func4.symm.trans hfn)).symm
   exact ⟨fc_looks, stand_ins⟩)
  fc_goes
end Go.Proofs.YthfhicembdpjpaaGreatDoor
end
