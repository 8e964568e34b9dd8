/- The program's types in the abstract reading, its records as Lean structures, and the contracts of library functions. No condition beyond each statement's own. -/
import Derived.Test.YthfhicembdpjpaaGreatDoorT1
set_option linter.unusedVariables false
set_option linter.unusedSimpArgs false
set_option linter.unnecessarySimpa false
section
set_option maxRecDepth 100000
namespace Go.Abs
open Go Go.Proofs Go.RowKit Go.Shelf
set_option maxHeartbeats 1000000 in
theorem cc_fresh (b : Nat) (w : World) (h0 : w.cell? ⟨b, 0, none⟩ = some (.pointer none)) (hsh : w.shape? b = some (89, 2)) (hfz : w.frozen? ⟨b, 0, none⟩ = false) :
  Calls Tryz.prog 84 #[.pointer (some ⟨b, 0, none⟩)] w fun e w' => e = .returned (.tuple #[]) ∧ w' = w.setCell ⟨b, 0, none⟩ (.pointer (some ⟨b, 0, none⟩)) := by
 have X := Tryz.Builder_Extra_169
 obtain ⟨j, hj, hjs⟩ := Option.map_eq_some_iff.1 X.toX72.sizeBuilder
 have t89 := Tryz.underlying89; have a89 := Tryz.isAgg89; have z89 := Tryz.sizeOf89; have v89 := Tryz.zeroValue89; have u89 := run_underlying Tryz.underlying89
 have t87 := Tryz.underlying87; have a87 := Tryz.isAgg87; have z87 := Tryz.sizeOf87; have v87 := Tryz.zeroValue87; have u87 := run_underlying Tryz.underlying87
 have t4 := Tryz.underlying4; have u4 := run_underlying Tryz.underlying4
 have t257 := Tryz.underlying257; have u257 := run_underlying Tryz.underlying257
 go_enter Tryz.func84, Tryz.ntmps84
 go_wp2
 rw [Lib.run_to_unsafe w ⟨b, 0, none⟩ Tryz.underlying87 Tryz.underlying257 hj (by rw [hjs]; decide) hsh (Nat.zero_lt_succ 1)]
 simp only [Result.andThen]
 rw [Oper.upon_value]
 go_wp2
 rw [run_callFunc_extern Tryz.func181 (by kernel_rfl) (by kernel_rfl) (by kernel_rfl) (e := Extern.AbiNoEscape.same) (by kernel_rfl)]
 rw [Lib.run_noEscape]
 simp only [Result.andThen]
 rw [Oper.upon_value]
 go_wp2
 rw [Lib.run_from_unsafe w ⟨b, 0, none⟩ Tryz.underlying257 Tryz.underlying87 hj hsh X.toX72.liesBuilder]
 simp only [Result.andThen]
 rw [Oper.upon_value]
 go_wp2
 go_end0
 exact ⟨rfl, rfl⟩
set_option maxHeartbeats 1000000 in
theorem cc_used (b : Nat) (w : World) (h0 : w.cell? ⟨b, 0, none⟩ = some (.pointer (some ⟨b, 0, none⟩))) :
  Calls Tryz.prog 84 #[.pointer (some ⟨b, 0, none⟩)] w fun e w' => e = .returned (.tuple #[]) ∧ w' = w := by
 have X := Tryz.Builder_Extra_169
 obtain ⟨j, hj, _⟩ := Option.map_eq_some_iff.1 X.toX72.sizeBuilder
 have t89 := Tryz.underlying89; have a89 := Tryz.isAgg89; have z89 := Tryz.sizeOf89; have v89 := Tryz.zeroValue89; have u89 := run_underlying Tryz.underlying89
 have t87 := Tryz.underlying87; have a87 := Tryz.isAgg87; have z87 := Tryz.sizeOf87; have v87 := Tryz.zeroValue87; have u87 := run_underlying Tryz.underlying87
 have t4 := Tryz.underlying4; have u4 := run_underlying Tryz.underlying4
 go_enter Tryz.func84, Tryz.ntmps84
 go_wp2
 rw [Lib.run_neq_ptr_same w _ Tryz.underlying87 hj]
 go_wp2
 go_end0
 exact ⟨rfl, rfl⟩
set_option maxHeartbeats 2000000 in
theorem ws_spec : WsSpec Tryz.prog 34 89 5 := by
 intro b p v bs s w hp hbk hown hne hlen
 have X := Tryz.Builder_Extra_169
 obtain ⟨i0, hi, hz0, hz1, hz2⟩ := info_parts X.infoByte
 have t89 := Tryz.underlying89; have a89 := Tryz.isAgg89; have z89 := Tryz.sizeOf89; have v89 := Tryz.zeroValue89; have u89 := run_underlying Tryz.underlying89
 have t87 := Tryz.underlying87; have a87 := Tryz.isAgg87; have z87 := Tryz.sizeOf87; have v87 := Tryz.zeroValue87; have u87 := run_underlying Tryz.underlying87
 have t47 := Tryz.underlying47; have a47 := Tryz.isAgg47; have z47 := Tryz.sizeOf47; have v47 := Tryz.zeroValue47; have u47 := run_underlying Tryz.underlying47
 have t3 := Tryz.underlying3; have a3 := Tryz.isAgg3; have z3 := Tryz.sizeOf3; have v3 := Tryz.zeroValue3; have u3 := run_underlying Tryz.underlying3
 have t9 := Tryz.underlying9; have a9 := Tryz.isAgg9; have z9 := Tryz.sizeOf9; have v9 := Tryz.zeroValue9; have u9 := run_underlying Tryz.underlying9
 have t5 := Tryz.underlying5; have a5 := Tryz.isAgg5; have z5 := Tryz.sizeOf5; have v5 := Tryz.zeroValue5; have u5 := run_underlying Tryz.underlying5
 have e84 : ∀ args w, (callFunc 84 args).run Tryz.prog w = .ok (.enter 84 args) w := enters_of Tryz.func84 (by kernel_rfl) rfl
 have hb0 : b < w.heap.size := heap_lt hbk
 have hcc : Calls Tryz.prog 84 #[.pointer (some ⟨b, 0, none⟩)] w fun e w1 => e = .returned (.tuple #[]) ∧ w1.heap[b]? = some (.cells #[.pointer (some ⟨b, 0, none⟩), v] 89 (0, 0)) ∧ (∀ k, k ≠ b → w1.heap[k]? = w.heap[k]?) ∧ w1.heap.size = w.heap.size ∧
   w1.os = w.os ∧ w1.tape = w.tape ∧ w1.output = w.output := by
  rcases hp with rfl | rfl
  ·refine (cc_fresh b w (by rw [Lib.cell_of_heap hbk]; rfl) (by simp [World.shape?, hbk]) (Lib.frozen_of_heap hbk 0)).mono ?_
   rintro e w1 ⟨rfl, rfl⟩
   refine ⟨rfl, ?_, fun k hk => ?_, by simp [World.setCell], rfl, rfl, rfl⟩
   ·simp [World.setCell, Array.getElem?_modify, hbk]
   ·simp [World.setCell, Array.getElem?_modify, Ne.symm hk]
  ·refine (cc_used b w (by rw [Lib.cell_of_heap hbk]; rfl)).mono ?_
   rintro e w1 ⟨rfl, rfl⟩
   exact ⟨rfl, hbk, fun _ _ => rfl, rfl, rfl, rfl, rfl⟩
 go_enter Tryz.func34, Tryz.ntmps34
 go_wp2_with (go_at_fn 84; refine hcc.mono ?_)
 rintro e w1 ⟨rfl, hbk1, hoth, hsz, ho1, ht1, hp1⟩
 have c0 : w1.cell? ⟨b, 0, none⟩ = some (.pointer (some ⟨b, 0, none⟩)) := by rw [Lib.cell_of_heap hbk1]; rfl
 have c1 : w1.cell? ⟨b, 1, none⟩ = some v := by rw [Lib.cell_of_heap hbk1]; rfl
 have hown1 : w1.ownsRow 0 5 1 v bs.length bs := by
  refine ⟨hown.1, hown.2.imp id ?_⟩
  rintro ⟨g, cap, cur, rfl, k1, k2, k3⟩
  exact ⟨g, cap, cur, rfl, k1, by rw [hoth g (fun e => hne (by rw [e]; rfl))]; exact k2, k3⟩
 go_wp2_with (at_builtin; refine wpl_app _ rfl _ _ 47 9 rfl 5 i0 Tryz.underlying47 Tryz.underlying9 hi hz0 hz1 hz2 _ _ _ rfl hown1 s rfl ?c3 ?c4 ?_)
 case c3 => unfold maxLen; omega
 case c4 => omega
 intro v' w2 hown' hgrow hnil hat
 have hb1 : b < w1.heap.size := by rw [hsz]; exact hb0
 have hb2 : w2.heap[b]? = some (.cells #[.pointer (some ⟨b, 0, none⟩), v] 89 (0, 0)) := by
  rw [hgrow.block b hb1 (fun e => hne e.symm)]
  exact hbk1
 have d0 : w2.cell? ⟨b, 0, none⟩ = some (.pointer (some ⟨b, 0, none⟩)) := by rw [Lib.cell_of_heap hb2]; rfl
 have d1 : w2.cell? ⟨b, 1, none⟩ = some v := by rw [Lib.cell_of_heap hb2]; rfl
 have f1 : w2.frozen? ⟨b, 1, none⟩ = false := Lib.frozen_of_heap hb2 1
 have hvb : ∀ g, v'.ownBlock = some g → g ≠ b := by
  intro g hg e
  subst e
  rcases hat _ hg with h | h
  ·exact hne h
  ·omega
 obtain ⟨ao, n', cap, rfl⟩ : ∃ ao n' cap, v' = .slice ao n' cap := by
  rcases hown'.2 with ⟨hv, _⟩ | ⟨g, cap, cur, hv, _⟩
  ·exact ⟨_, _, _, hv⟩
  ·exact ⟨_, _, _, hv⟩
 go_wp2
 go_ret2
 refine ⟨rfl, .slice ao n' cap, ?_⟩
 have hset : ∀ k, k ≠ b → (w2.setCell ⟨b, 1, none⟩ (.slice ao n' cap)).heap[k]? = w2.heap[k]? := fun k hk => by simp [World.setCell, Array.getElem?_modify, Ne.symm hk]
 refine ⟨by simp [World.setCell, Array.getElem?_modify, hb2], ?_, fun e => by rw [Lib.strCells_length]; have := (hnil.1 e).2; simp_all, fun g hg => ⟨hvb g hg, (hat g hg).imp id (by first | exact id | (rw [hsz]; exact id))⟩, ?_, ?_, ?_, ?_, ?_⟩
 ·rw [Lib.strCells_length]
  refine ⟨hown'.1, hown'.2.imp id ?_⟩
  rintro ⟨g, cap', cur, hv, k1, k2, k3⟩
  exact ⟨g, cap', cur, hv, k1, by rw [hset g (hvb g (by rw [hv]; rfl))]; exact k2, k3⟩
 ·exact hgrow.os.trans ho1
 ·exact hgrow.tape.trans ht1
 ·exact hgrow.output.trans hp1
 ·have := hgrow.size; simp only [World.setCell, Array.size_modify]; omega
 ·intro k hk hkb hkv
  rw [hset k hkb, hgrow.block k (by omega) (fun e => hkv e.symm), hoth k hkb]
end Go.Abs
end
section
set_option maxRecDepth 100000
namespace Go.Abs
open Go Go.Proofs Go.Sort
open Go.RowKit (Below)
section
variable {P : Program} {gl : Nat → List V} {w0 : Base} {G : Gh} {st : St} {w : World}
theorem Rel.ofBelow (h : Rel gl w0 G st w) {w' : World} (hb : Below w.heap.size w w') : Rel gl w0 G st w' where
 below := h.below.step hb.os hb.tape hb.output hb.size (fun k hk _ => hb.block k hk)
 vars := fun id cells hc hn => by
  obtain ⟨b, o', h1, h2, h3, h4, h5⟩ := h.vars id cells hc hn
  exact ⟨b, o', h1, h2, by rw [hb.block b (heap_lt h3)]; exact h3, h4, h5⟩
 varlt := fun id b hi hb' => Nat.lt_of_lt_of_le (h.varlt id b hi hb') hb.size
 sc := h.sc
 disj := h.disj
 imm := fun b i v hv => by
  obtain ⟨hp, c, hc, hr⟩ := h.imm b i v hv
  exact ⟨hp, c, by rw [cell_congr (w := w) (hb.block b (cell_lt hc))]; exact hc, hr⟩
 fam := fun t p b e lim ht h1 => by
  obtain ⟨h2, C, el, h3, h4⟩ := h.fam t p b e lim ht h1
  exact ⟨h2, C, el, by rw [hb.block b (heap_lt h3)]; exact h3, h4⟩
 famdisj := h.famdisj
 glob := h.glob
 gfix := h.gfix
 old := h.old
theorem vrs2 {a b : V} {c : Array Value} (h : VRs G [a, b] c) : ∃ x y, c = #[x, y] ∧ VR G a x ∧ VR G b y := by
 obtain ⟨l⟩ := c
 match l, h with
 | [], h => exact absurd h.1 (by simp)
 | [x], h => exact absurd h.1 (by simp)
 | [x, y], h => exact ⟨x, y, rfl, h.2 0 a x rfl rfl, h.2 1 b y rfl rfl⟩
 | _ :: _ :: _ :: _, h => exact absurd h.1 (by simp)
theorem vrs1 {a : V} {c : Array Value} (h : VRs G [a] c) : ∃ x, c = #[x] ∧ VR G a x := by
 obtain ⟨l⟩ := c
 match l, h with
 | [], h => exact absurd h.1 (by simp)
 | [x], h => exact ⟨x, rfl, h.2 0 a x rfl rfl⟩
 | _ :: _ :: _, h => exact absurd h.1 (by simp)
theorem vr_str {s : List UInt8} {c : Value} (h : VR G (.str s) c) : c = .string ⟨s.toArray⟩ := by
 cases h
 rename_i s'
 obtain ⟨⟨l⟩⟩ := s'
 rfl
theorem ct_pure {f : FuncId} {args : List V} {st : St} {r : V} (hok : callOk P f = true) (h : ∀ (G : Gh) (w : World) (cargs : Array Value), VRs G args cargs → ∃ c, Calls P f cargs w (fun e w' => e = .returned c ∧ w' = w) ∧ VR G r c ∧ V.sc st r) : ACalls P gl f args st (Out r st) :=
 ⟨hok, fun w0 G w cargs hr hv hs => by
  obtain ⟨c, h1, h2, h3⟩ := h G w cargs hv
  refine h1.mono ?_
  rintro e w' ⟨rfl, rfl⟩
  exact ⟨r, c, st, G, rfl, ⟨rfl, rfl⟩, h2, h3, hr, .refl _ _, .refl _⟩⟩
end
variable {mx : MX}
def ct_IndexByte (n : Nat) (s : List UInt8) (c : Int) : Option Int := some (Lib.indexByte s c.toNat.toUInt8)
theorem ct_IndexByte_ok {n : Nat} {s : List UInt8} {c : Int} {r : Int} (h : ct_IndexByte n s c = some r) : ACalls Tryz.prog (gl0 mx) 312 [.str s, .int .u8 c] ⟨[], []⟩ (Out (.int .i64 r) ⟨[], []⟩) := by
 injection h with h; subst h
 refine ct_pure (by kernel_rfl) ?_
 intro G w cargs hv
 obtain ⟨x, y, rfl, h1, h2⟩ := vrs2 hv
 rw [vr_str h1]
 cases h2
 exact ⟨_, Tryz.strings_IndexByte _ c w, .int _ _, by simp [V.sc]⟩
def ct_Count (n : Nat) (s sep : List UInt8) : Option Int := match sep with
 | [c] => some (Lib.countByte s c)
 | _ => none
theorem ct_Count_ok {n : Nat} {s sep : List UInt8} {r : Int} (h : ct_Count n s sep = some r) : ACalls Tryz.prog (gl0 mx) 204 [.str s, .str sep] ⟨[], []⟩ (Out (.int .i64 r) ⟨[], []⟩) := by
 unfold ct_Count at h
 split at h
 ·rename_i c
  injection h with h; subst h
  refine ct_pure (by kernel_rfl) ?_
  intro G w cargs hv
  obtain ⟨x, y, rfl, h1, h2⟩ := vrs2 hv
  rw [vr_str h1, vr_str h2]
  exact ⟨_, Tryz.strings_Count_one _ c w, .int _ _, by simp [V.sc]⟩
 ·cases h
theorem maxLen {w0 : Base} {G : Gh} {st : St} {w : World} (h : Rel (gl0 mx) w0 G st w) : w.cell? ⟨0, 0, none⟩ = some (.int .i64 mx.m) := by
 obtain ⟨_, c, hc, hv⟩ := h.imm 0 0 (.int .i64 mx.m) (h.glob 0 0 _ rfl)
 cases hv; exact hc
def ct_Index (n : Nat) (s sep : List UInt8) : Option Int := if s.length < 4294967281 then some (Lib.index s sep) else none
theorem ct_Index_ok {n : Nat} {s sep : List UInt8} {r : Int} (h : ct_Index n s sep = some r) : ACalls Tryz.prog (gl0 mx) 205 [.str s, .str sep] ⟨[], []⟩ (Out (.int .i64 r) ⟨[], []⟩) := by
 unfold ct_Index at h
 split at h
 ·rename_i hl
  injection h with h; subst h
  refine ⟨by kernel_rfl, fun w0 G w cargs hr hv hs => ?_⟩
  obtain ⟨x, y, rfl, h1, h2⟩ := vrs2 hv
  rw [vr_str h1, vr_str h2]
  refine (Tryz.strings_Index ⟨s.toArray⟩ ⟨sep.toArray⟩ mx.m w (by show (s.toArray).size < 4294967281; simpa using hl) (maxLen hr)).mono ?_
  rintro e w' ⟨rfl, rfl⟩
  exact ⟨_, _, _, G, rfl, ⟨rfl, rfl⟩, .int _ _, by simp [V.sc], hr, .refl _ _, .refl _⟩
 ·cases h
def ct_lIndex (n : Nat) (s sep : List UInt8) : Option Int := if s.length < 4294967281 then some (Lib.index s sep) else none
theorem ct_lIndex_ok {n : Nat} {s sep : List UInt8} {r : Int} (h : ct_lIndex n s sep = some r) : ACalls Tryz.prog (gl0 mx) 89 [.str s, .str sep] ⟨[], []⟩ (Out (.int .i64 r) ⟨[], []⟩) := by
 unfold ct_lIndex at h
 split at h
 ·rename_i hl
  injection h with h; subst h
  refine ⟨by kernel_rfl, fun w0 G w cargs hr hv hs => ?_⟩
  obtain ⟨x, y, rfl, h1, h2⟩ := vrs2 hv
  rw [vr_str h1, vr_str h2]
  refine (Tryz.stringslite_Index ⟨s.toArray⟩ ⟨sep.toArray⟩ mx.m w (by show (s.toArray).size < 4294967281; simpa using hl) (maxLen hr)).mono ?_
  rintro e w' ⟨rfl, rfl⟩
  exact ⟨_, _, _, G, rfl, ⟨rfl, rfl⟩, .int _ _, by simp [V.sc], hr, .refl _ _, .refl _⟩
 ·cases h
theorem Rel.tab {gl : Nat → List V} {w0 : Base} {G : Gh} {st : St} {w : World} (h : Rel gl w0 G st w) {g : Nat} {k : IntKind} {zs : List Int} (hz : gl g = zs.map (vI k)) (hn : zs ≠ []) : ∃ el fz, w.heap[g]? = some (.cells (zs.map fun z => Value.int k z).toArray el fz) := by
 obtain ⟨h1, C, el, fz, h2, h3⟩ := h.gfix g (by rw [hz]; simpa using hn)
 have e2 : w.heap[g]? = w0.w.heap[g]? := h.below.heap g (Nat.lt_of_not_le fun h => h1 (.inl h)) (fun h => h1 (.inr h))
 rw [h2] at e2
 rw [hz, List.length_map] at h3
 refine ⟨el, fz, ?_⟩
 rw [e2]
 congr 2
 apply Array.ext
 ·simpa using h3
 ·intro i hi1 hi2
  have hi : i < zs.length := by rw [← h3]; exact hi1
  obtain ⟨_, c, hc, hv⟩ := h.imm g i (.int k zs[i]) (h.glob g i _ (by rw [hz, List.getElem?_map, List.getElem?_eq_getElem hi]; rfl))
  cases hv
  rw [cell_of_heap e2] at hc
  rw [Array.getElem?_eq_getElem hi1] at hc
  injection hc with hc
  rw [hc]; simp
theorem tabPow {w0 : Base} {G : Gh} {st : St} {w : World} (h : Rel (gl0 mx) w0 G st w) : Lib.TabIs Tryz.prog w "internal/strconv.uint64pow10" .u64 Lib.pow10Tab := by
 obtain ⟨el, fz, e⟩ := h.tab (g := 6) (k := .u64) (zs := tab2) rfl (by decide)
 have hg : Tryz.prog.globalNamed "internal/strconv.uint64pow10" = some 6 := by kernel_rfl
 unfold Lib.TabIs World.var?
 rw [hg]
 simp only [Option.bind_some, e]
 rw [show Lib.pow10Tab = tab2 by kernel_rfl]
def ct_Itoa (n : Nat) (i : Int) : Option (List UInt8) := if -9223372036854775808 ≤ i ∧ i ≤ 9223372036854775807 then some (Lib.itoa i) else none
theorem ct_Itoa_ok {n : Nat} {i : Int} {r : List UInt8} (h : ct_Itoa n i = some r) : ACalls Tryz.prog (gl0 mx) 172 [.int .i64 i] ⟨[], []⟩ (Out (.str r) ⟨[], []⟩) := by
 unfold ct_Itoa at h
 split at h
 ·rename_i hb
  injection h with h; subst h
  refine ⟨by kernel_rfl, fun w0 G w cargs hr hv hs => ?_⟩
  obtain ⟨x, rfl, h1⟩ := vrs1 hv
  cases h1
  refine (Tryz.strconv_Itoa i hb.1 hb.2 w (tabPow hr)).mono ?_
  rintro e w' ⟨rfl, k, os, rfl⟩
  have hbel : Below w.heap.size w (grow (w.drewN k) os) := ⟨rfl, rfl, rfl, by simp, fun j hj => heap_grow_old (w.drewN k) os hj⟩
  exact ⟨_, _, _, G, rfl, ⟨rfl, rfl⟩, .str ⟨(Lib.itoa i).toArray⟩, by simp [V.sc], hr.ofBelow hbel, .refl _ _, .refl _⟩
 ·cases h
theorem map_mk (l : List (List UInt8)) : (l.map fun x => (⟨x.toArray⟩ : ByteArray)).map (·.data.toList) = l := by
 induction l with
 | nil => rfl
 | cons x r ih => simp only [List.map_cons] at *; rw [ih]
def ct_Join (n : Nat) (l : List (List UInt8)) (sep : List UInt8) : Option (List UInt8) :=
 if (Lib.join l sep).length ≤ 140737488355328 ∧ l.length ≤ 140737488355328 then some (Lib.join l sep) else none
theorem join_any {w : World} {bk cap : Nat} (l : List (List UInt8)) (sep : List UInt8) (o : Nat) (hc : ∀ (j : Nat) x, l[j]? = some x → w.cell? ⟨bk, o + j, none⟩ = some (.string ⟨x.toArray⟩)) (hbk : bk < w.heap.size) (hcap : l.length ≤ cap)
  (h1 : (Lib.join l sep).length ≤ 140737488355328) (h2 : l.length ≤ 140737488355328) :
  Calls Tryz.prog 171 #[.slice (some ⟨bk, o, none⟩) l.length cap, .string ⟨sep.toArray⟩] w fun e w' => e = .returned (.string ⟨(Lib.join l sep).toArray⟩) ∧ Below w.heap.size w w' := by
 have := Tryz.strings_Join bk o cap (l.map fun x => ⟨x.toArray⟩) ⟨sep.toArray⟩ w (by
  intro j x hx
  rw [List.getElem?_map] at hx
  obtain ⟨y, hy, rfl⟩ := Option.map_eq_some_iff.1 hx
  exact hc j y hy) hbk (by simpa using h2) (by simpa using hcap) (by rw [map_mk]; simpa using h1)
 rw [map_mk, List.length_map] at this
 exact this
theorem ct_Join_ok {n : Nat} {l : List (List UInt8)} {sep r : List UInt8} (h : ct_Join n l sep = some r) : ACalls Tryz.prog (gl0 mx) 171 [.sl 1 (l.map cS) .none, .str sep] ⟨[], []⟩ (Out (.str r) ⟨[], []⟩) := by
 unfold ct_Join at h
 split at h
 ·rename_i hb
  injection h with h; subst h
  refine ⟨by kernel_rfl, ?_⟩
  intro w0 G w cargs hr hv _
  obtain ⟨x, y, rfl, h1, h2⟩ := vrs2 hv
  rw [vr_str h2]
  generalize hes : l.map cS = es at h1
  cases h1 with
  | sl hrow htok hcap =>
   rename_i b o cap
   subst hes
   have hcell : ∀ (j : Nat) x, l[j]? = some x → w.cell? ⟨b, o + j, none⟩ = some (.string ⟨x.toArray⟩) := by
    intro j x hx
    have h3 := (hrow j (cS x) (by rw [List.getElem?_map, hx]; rfl)).2 0 (.str x) rfl
    rw [Nat.mul_one] at h3
    obtain ⟨_, c, hc, hvr⟩ := hr.im h3
    rw [vr_str hvr] at hc
    exact hc
   rcases Nat.eq_zero_or_pos l.length with h0 | h0
   ·have hl : l = [] := List.eq_nil_of_length_eq_zero h0
    subst hl
    refine (Tryz.strings_Join_none (some ⟨b, o, none⟩) cap _ w).mono ?_
    rintro e w' ⟨rfl, rfl⟩
    exact ⟨_, _, _, G, rfl, ⟨rfl, rfl⟩, .str ⟨#[]⟩, by simp [V.sc], hr, .refl _ _, .refl _⟩
   ·have hbk : b < w.heap.size := cell_lt (hcell 0 _ (List.getElem?_eq_getElem h0))
    rw [List.length_map] at hcap ⊢
    refine (join_any l sep o hcell hbk hcap hb.1 hb.2).mono ?_
    rintro e w' ⟨rfl, hbel⟩
    exact ⟨_, _, _, G, rfl, ⟨rfl, rfl⟩, .str ⟨(Lib.join l sep).toArray⟩, by simp [V.sc], hr.ofBelow hbel, .refl _ _, .refl _⟩
  | slnil =>
   have hl : l = [] := by cases l with | nil => rfl | cons a r => simp at hes
   subst hl
   refine (Tryz.strings_Join_none none 0 _ w).mono ?_
   rintro e w' ⟨rfl, rfl⟩
   exact ⟨_, _, _, G, rfl, ⟨rfl, rfl⟩, .str ⟨#[]⟩, by simp [V.sc], hr, .refl _ _, .refl _⟩
  | slz _ a =>
   have hl : l = [] := by cases l with | nil => rfl | cons a r => simp at hes
   subst hl
   refine (Tryz.strings_Join_none (some a) 0 _ w).mono ?_
   rintro e w' ⟨rfl, rfl⟩
   exact ⟨_, _, _, G, rfl, ⟨rfl, rfl⟩, .str ⟨#[]⟩, by simp [V.sc], hr, .refl _ _, .refl _⟩
 ·cases h
def ct_Atoi (n : Nat) (s : List UInt8) : Option (Int × Option Unit) := if s.length ≤ 281474976710656 then (match Lib.atoiAll s with | .ok v => some (v, none) | Lib.NumEnd.syntax => some (0, some ()) | .range => some (Lib.atoiSat s, some ())) else none
theorem gErr {w0 : Base} {G : Gh} {st : St} {w : World} (h : Rel (gl0 mx) w0 G st w) {b t : Nat} (hb : gl0 mx b = [.iface t .junk]) : ∃ c, w.cell? ⟨b, 0, none⟩ = some (.iface t c) := by
 obtain ⟨_, c, hc, hv⟩ := h.imm b 0 (.iface t .junk) (h.glob b 0 _ (by rw [hb]; rfl))
 cases hv; exact ⟨_, hc⟩
theorem ct_Atoi_ok {n : Nat} {s : List UInt8} {r : Int × Option Unit} (h : ct_Atoi n s = some r) : ACalls Tryz.prog (gl0 mx) 206 [.str s] ⟨[], []⟩ (Out (.tuple [.int .i64 r.1, oer 405 r.2]) ⟨[], []⟩) := by
 have tup : ∀ (G : Gh) (i : Int) (o : Option Unit) (c : Value), VR G (oer 405 o) c → VR G (.tuple [.int .i64 i, oer 405 o]) (.tuple #[.int .i64 i, c]) := by
  intro G i o c hc
  refine .tuple rfl fun j v x hv hx => ?_
  match j, hv, hx with
  | 0, hv, hx => cases hv; cases hx; exact .int _ _
  | 1, hv, hx => cases hv; cases hx; exact hc
  | j + 2, hv, hx => simp at hv
 have tsc : ∀ (i : Int) (o : Option Unit), V.sc ⟨[], []⟩ (.tuple [.int .i64 i, oer 405 o]) := by
  intro i o; cases o <;> simp [V.sc, V.scs, oer]
 unfold ct_Atoi at h
 split at h
 ·rename_i hl
  have hsz : (⟨s.toArray⟩ : ByteArray).size ≤ 281474976710656 := by show s.toArray.size ≤ _; simpa using hl
  refine ⟨by kernel_rfl, fun w0 G w cargs hr hv hs => ?_⟩
  obtain ⟨x, rfl, h1⟩ := vrs1 hv
  rw [vr_str h1]
  split at h
  ·rename_i v hv
   injection h with h; subst h
   refine (Tryz.strconv_Atoi_ok ⟨s.toArray⟩ (by omega) v hv w).mono ?_
   rintro e w' ⟨rfl, hw⟩
   refine ⟨_, _, _, G, rfl, ⟨rfl, rfl⟩, tup G _ none _ .niliface, tsc _ _, ?_, .refl _ _, .refl _⟩
   rcases hw with rfl | ⟨t, rfl⟩
   ·exact hr
   ·exact hr.ofBelow (Lib.bytesWorld_below _ _ _)
  ·rename_i hv
   injection h with h; subst h
   obtain ⟨c, hc⟩ := gErr hr (b := 4) rfl
   refine (Tryz.strconv_Atoi_syntax ⟨s.toArray⟩ hsz hv _ w hc (.inr ⟨_, _, rfl⟩)).mono ?_
   rintro e w' ⟨N, rfl, _, _, hbel⟩
   exact ⟨_, _, _, G, rfl, ⟨rfl, rfl⟩, tup G _ (some ()) _ (.iface (.junk _)), tsc _ _, hr.ofBelow hbel, .refl _ _, .refl _⟩
  ·rename_i hv
   injection h with h; subst h
   obtain ⟨c, hc⟩ := gErr hr (b := 5) rfl
   refine (Tryz.strconv_Atoi_range ⟨s.toArray⟩ hsz hv _ w hc (.inr ⟨_, _, rfl⟩)).mono ?_
   rintro e w' ⟨N, rfl, _, _, hbel⟩
   exact ⟨_, _, _, G, rfl, ⟨rfl, rfl⟩, tup G _ (some ()) _ (.iface (.junk _)), tsc _ _, hr.ofBelow hbel, .refl _ _, .refl _⟩
 ·cases h
def ot1 (n : Nat) : Option Unit := if n ≤ 1 then some () else none
theorem sort_tiny (p : Option Addr) (n c : Nat) (h1 : n ≤ 1) (lf : Fn) (la lb : Array Value) (w : World) :
  Calls Tryz.prog 169 #[.iface 241 (.slice p n c), .func lf la lb] w fun e w' => e = .returned (.tuple #[]) ∧ ∃ os, w' = grow w os := by
 have hI : ∃ i, Tryz.prog.info? 241 = some i ∧ i.desc = .slice 248 := by
  have h : (Tryz.prog.info? 241).map (·.desc) = some (.slice 248) := by kernel_rfl
  obtain ⟨i, h1, h2⟩ := Option.map_eq_some_iff.1 h
  exact ⟨i, h1, h2⟩
 have hE : ∃ i, Tryz.prog.info? 248 = some i := by
  have h : (Tryz.prog.info? 248).isSome = true := by kernel_rfl
  exact Option.isSome_iff_exists.1 h
 obtain ⟨i, hi, hd⟩ := hI
 obtain ⟨ie, hie⟩ := hE
 have hf : ∃ f, Tryz.prog.funcs.findIdx? (·.name == "internal/reflectlite" ++ ".Swapper$" ++ toString (Lib.swapperK n ie 25)) = some f := by
  rcases Nat.eq_zero_or_pos n with h | h
  ·subst h
   have : (Tryz.prog.funcs.findIdx? (·.name == "internal/reflectlite" ++ ".Swapper$" ++ toString 1)).isSome = true := by kernel_rfl
   obtain ⟨f, hf⟩ := Option.isSome_iff_exists.1 this
   exact ⟨f, by simpa [Lib.swapperK] using hf⟩
  ·obtain rfl : n = 1 := by omega
   have : (Tryz.prog.funcs.findIdx? (·.name == "internal/reflectlite" ++ ".Swapper$" ++ toString 2)).isSome = true := by kernel_rfl
   obtain ⟨f, hf⟩ := Option.isSome_iff_exists.1 this
   exact ⟨f, by simpa [Lib.swapperK] using hf⟩
 obtain ⟨f, hf⟩ := hf
 exact Any.sort_Slice_tiny Tryz.laysGg6 241 248 i ie hi hd (by kernel_rfl) hie 25 (fun _ => by kernel_rfl) p n c h1 f hf lf la lb w
theorem ct_SortSliceS {α : Type} {c : α → List V} {l : List α} {sz : Nat} {tok : Tok} {t g : Nat} {fs cap : List V} {st : St} {u : Unit} (h : ot1 l.length = some u) (ht : t = 241 := by rfl) : ACalls Tryz.prog (gl0 mx) 169 [.iface t (.sl sz (l.map c) tok), .func (.func g) fs cap] st (Out (.tuple []) st) := by
 subst ht
 unfold ot1 at h
 split at h
 ·rename_i hl
  refine ⟨by kernel_rfl, fun w0 G w cargs hr hv _ => ?_⟩
  obtain ⟨x, y, rfl, h1, h2⟩ := vrs2 hv
  cases h1
  rename_i v h1
  cases h2
  rename_i c1 c2 _ _ _ _
  have htup : VR G (.tuple []) (.tuple #[]) := .tuple rfl (by simp)
  have fin : ∀ (p : Option Addr) (n k : Nat), n ≤ 1 → Calls Tryz.prog 169 #[.iface 241 (.slice p n k), .func (.func g) c1 c2] w fun e w' => ∃ r c st' G', e = .returned c ∧ Out (.tuple []) st r st' ∧ VR G' r c ∧ V.sc st' r ∧ Rel (gl0 mx) w0 G' st' w' ∧ Ext st G G' ∧ st.le st' := by
   intro p n k hn
   refine (sort_tiny p n k hn (.func g) c1 c2 w).mono ?_
   rintro e w' ⟨rfl, os, rfl⟩
   have hbel : Go.RowKit.Below w.heap.size w (grow w os) := ⟨rfl, rfl, rfl, by simp, fun j hj => heap_grow_old w os hj⟩
   exact ⟨_, _, _, G, rfl, ⟨rfl, rfl⟩, htup, by simp [V.sc, V.scs], hr.ofBelow hbel, .refl _ _, .refl _⟩
  have hlen : (l.map c).length ≤ 1 := by simpa using hl
  generalize hes : l.map c = es at h1 hlen
  cases h1 with
  | sl _ _ _ => exact fin _ _ _ hlen
  | slnil => exact fin _ _ _ (by simp)
  | slz _ a => exact fin _ _ _ (by simp)
 ·cases h
theorem bldT_ok : bldT Tryz.prog 89 := by
 have h : (Tryz.prog.info? 89).bind (·.zero) = some (.agg #[.pointer none, .slice none 0 0]) := by kernel_rfl
 obtain ⟨i, h1, h2⟩ := Option.bind_eq_some_iff.1 h
 exact ⟨i, h1, h2⟩
def ct_WS (s s' x : List UInt8) : Option (List UInt8) := if s = s' ∧ x ≠ [] ∧ s.length + x.length ≤ 140737488355328 then some (s ++ x) else none
theorem ct_WS_ok {s s' x r : List UInt8} (h : ct_WS s s' x = some r) : ACalls Tryz.prog (gl0 mx) 34 [.ptr 0 0, .str x] ⟨[[.bobj 0 1 89 s], [.bbuf 5 s']], []⟩ (Out (.tuple [.int .i64 x.length, .niliface]) ⟨[[.bobj 0 2 89 r], [], [.bbuf 5 r]], []⟩) := by
 unfold ct_WS at h
 split at h
 ·rename_i hc
  obtain ⟨rfl, hx, hl⟩ := hc
  injection h with h; subst h
  exact ws_A ws_spec (by kernel_rfl) hx hl
 ·cases h
def ct_Str (s s' : List UInt8) : Option (List UInt8) := if s = s' then some s else none
theorem ct_Str_ok {s s' r : List UInt8} (h : ct_Str s s' = some r) : ACalls Tryz.prog (gl0 mx) 36 [.ptr 0 0] ⟨[[.bobj 0 1 89 s], [.bbuf 5 s']], []⟩ (Out (.str r) ⟨[[], []], []⟩) := by
 unfold ct_Str at h
 split at h
 ·rename_i hc
  subst hc
  injection h with h; subst h
  exact str_A (ρ := Tryz.lays169_ren) Tryz.lays169 Tryz.Builder_Extra_169 (by kernel_rfl)
 ·cases h
end Go.Abs
end
