/- The program's types and functions in the abstract reading, its records as Lean structures, and the contracts of library functions. -/
import Derived.Test.YtbggpcnbbhjiaaaGreatDoorT2
set_option linter.unusedVariables false
set_option linter.unusedSimpArgs false
set_option linter.unnecessarySimpa false
section
set_option maxRecDepth 100000
namespace Go.Abs
open Go Go.Proofs Go.Sort
open Go.RowKit (Below)
section
variable {P : Program} {gl : Nat → List V} {w0 : Base} {G : Gh} {st : St} {w : World}
theorem Rel.ofBelow (h : Rel gl w0 G st w) {w' : World} (hb : Below w.heap.size w w') : Rel gl w0 G st w' where
 below := h.below.step hb.os hb.tape hb.output hb.size (fun k hk _ => hb.block k hk)
 vars := fun id cells hc hn => by
  obtain ⟨b, o', h1, h2, h3, h4, h5⟩ := h.vars id cells hc hn
  exact ⟨b, o', h1, h2, by rw [hb.block b (heap_lt h3)]; exact h3, h4, h5⟩
 varlt := fun id b hi hb' => Nat.lt_of_lt_of_le (h.varlt id b hi hb') hb.size
 sc := h.sc
 disj := h.disj
 imm := fun b i v hv => by
  obtain ⟨hp, c, hc, hr⟩ := h.imm b i v hv
  exact ⟨hp, c, by rw [cell_congr (w := w) (hb.block b (cell_lt hc))]; exact hc, hr⟩
 fam := fun t p b e lim ht h1 => by
  obtain ⟨h2, C, el, h3, h4⟩ := h.fam t p b e lim ht h1
  exact ⟨h2, C, el, by rw [hb.block b (heap_lt h3)]; exact h3, h4⟩
 famdisj := h.famdisj
 glob := h.glob
 gfix := h.gfix
 old := h.old
theorem vrs2 {a b : V} {c : Array Value} (h : VRs G [a, b] c) : ∃ x y, c = #[x, y] ∧ VR G a x ∧ VR G b y := by
 obtain ⟨l⟩ := c
 match l, h with
 | [], h => exact absurd h.1 (by simp)
 | [x], h => exact absurd h.1 (by simp)
 | [x, y], h => exact ⟨x, y, rfl, h.2 0 a x rfl rfl, h.2 1 b y rfl rfl⟩
 | _ :: _ :: _ :: _, h => exact absurd h.1 (by simp)
theorem vrs1 {a : V} {c : Array Value} (h : VRs G [a] c) : ∃ x, c = #[x] ∧ VR G a x := by
 obtain ⟨l⟩ := c
 match l, h with
 | [], h => exact absurd h.1 (by simp)
 | [x], h => exact ⟨x, rfl, h.2 0 a x rfl rfl⟩
 | _ :: _ :: _, h => exact absurd h.1 (by simp)
theorem vr_str {s : List UInt8} {c : Value} (h : VR G (.str s) c) : c = .string ⟨s.toArray⟩ := by
 cases h
 rename_i s'
 obtain ⟨⟨l⟩⟩ := s'
 rfl
theorem ct_pure {f : FuncId} {args : List V} {st : St} {r : V} (hok : callOk P f = true) (h : ∀ (G : Gh) (w : World) (cargs : Array Value), VRs G args cargs → ∃ c, Calls P f cargs w (fun e w' => e = .returned c ∧ w' = w) ∧ VR G r c ∧ V.sc st r) : ACalls P gl f args st (Out r st) :=
 ⟨hok, fun w0 G w cargs hr hv hs => by
  obtain ⟨c, h1, h2, h3⟩ := h G w cargs hv
  refine h1.mono ?_
  rintro e w' ⟨rfl, rfl⟩
  exact ⟨r, c, st, G, rfl, ⟨rfl, rfl⟩, h2, h3, hr, .refl _ _, .refl _⟩⟩
end
variable {mx : Int}
def ct_Count (n : Nat) (s sep : List UInt8) : Option Int := match sep with
 | [c] => some (Lib.countByte s c)
 | _ => none
theorem ct_Count_ok {n : Nat} {s sep : List UInt8} {r : Int} (h : ct_Count n s sep = some r) : ACalls Tryz.prog (gl0 mx) 262 [.str s, .str sep] ⟨[], []⟩ (Out (.int .i64 r) ⟨[], []⟩) := by
 unfold ct_Count at h
 split at h
 ·rename_i c
  injection h with h; subst h
  refine ct_pure (by kernel_rfl) ?_
  intro G w cargs hv
  obtain ⟨x, y, rfl, h1, h2⟩ := vrs2 hv
  rw [vr_str h1, vr_str h2]
  exact ⟨_, Tryz.strings_Count_one _ c w, .int _ _, by simp [V.sc]⟩
 ·cases h
theorem maxLen {w0 : Base} {G : Gh} {st : St} {w : World} (h : Rel (gl0 mx) w0 G st w) : w.cell? ⟨1, 0, none⟩ = some (.int .i64 mx) := by
 obtain ⟨_, c, hc, hv⟩ := h.imm 1 0 (.int .i64 mx) (h.glob 1 0 _ rfl)
 cases hv; exact hc
def ct_Index (n : Nat) (s sep : List UInt8) : Option Int := if s.length < 4294967281 then some (Lib.index s sep) else none
theorem ct_Index_ok {n : Nat} {s sep : List UInt8} {r : Int} (h : ct_Index n s sep = some r) : ACalls Tryz.prog (gl0 mx) 263 [.str s, .str sep] ⟨[], []⟩ (Out (.int .i64 r) ⟨[], []⟩) := by
 unfold ct_Index at h
 split at h
 ·rename_i hl
  injection h with h; subst h
  refine ⟨by kernel_rfl, fun w0 G w cargs hr hv hs => ?_⟩
  obtain ⟨x, y, rfl, h1, h2⟩ := vrs2 hv
  rw [vr_str h1, vr_str h2]
  refine (Tryz.strings_Index ⟨s.toArray⟩ ⟨sep.toArray⟩ mx w (by show (s.toArray).size < 4294967281; simpa using hl) (maxLen hr)).mono ?_
  rintro e w' ⟨rfl, rfl⟩
  exact ⟨_, _, _, G, rfl, ⟨rfl, rfl⟩, .int _ _, by simp [V.sc], hr, .refl _ _, .refl _⟩
 ·cases h
theorem Rel.tab {gl : Nat → List V} {w0 : Base} {G : Gh} {st : St} {w : World} (h : Rel gl w0 G st w) {g : Nat} {k : IntKind} {zs : List Int} (hz : gl g = zs.map (vI k)) (hn : zs ≠ []) : ∃ el fz, w.heap[g]? = some (.cells (zs.map fun z => Value.int k z).toArray el fz) := by
 obtain ⟨h1, C, el, fz, h2, h3⟩ := h.gfix g (by rw [hz]; simpa using hn)
 have e2 : w.heap[g]? = w0.w.heap[g]? := h.below.heap g (Nat.lt_of_not_le fun h => h1 (.inl h)) (fun h => h1 (.inr h))
 rw [h2] at e2
 rw [hz, List.length_map] at h3
 refine ⟨el, fz, ?_⟩
 rw [e2]
 congr 2
 apply Array.ext
 ·simpa using h3
 ·intro i hi1 hi2
  have hi : i < zs.length := by rw [← h3]; exact hi1
  obtain ⟨_, c, hc, hv⟩ := h.imm g i (.int k zs[i]) (h.glob g i _ (by rw [hz, List.getElem?_map, List.getElem?_eq_getElem hi]; rfl))
  cases hv
  rw [cell_of_heap e2] at hc
  rw [Array.getElem?_eq_getElem hi1] at hc
  injection hc with hc
  rw [hc]; simp
theorem tabPow {w0 : Base} {G : Gh} {st : St} {w : World} (h : Rel (gl0 mx) w0 G st w) : Lib.TabIs Tryz.prog w "internal/strconv.uint64pow10" .u64 Lib.pow10Tab := by
 obtain ⟨el, fz, e⟩ := h.tab (g := 2) (k := .u64) (zs := tab2) rfl (by decide)
 have hg : Tryz.prog.globalNamed "internal/strconv.uint64pow10" = some 2 := by kernel_rfl
 unfold Lib.TabIs World.var?
 rw [hg]
 simp only [Option.bind_some, e]
 rw [show Lib.pow10Tab = tab2 by kernel_rfl]
def ct_Itoa (n : Nat) (i : Int) : Option (List UInt8) := if -9223372036854775808 ≤ i ∧ i ≤ 9223372036854775807 then some (Lib.itoa i) else none
theorem ct_Itoa_ok {n : Nat} {i : Int} {r : List UInt8} (h : ct_Itoa n i = some r) : ACalls Tryz.prog (gl0 mx) 197 [.int .i64 i] ⟨[], []⟩ (Out (.str r) ⟨[], []⟩) := by
 unfold ct_Itoa at h
 split at h
 ·rename_i hb
  injection h with h; subst h
  refine ⟨by kernel_rfl, fun w0 G w cargs hr hv hs => ?_⟩
  obtain ⟨x, rfl, h1⟩ := vrs1 hv
  cases h1
  refine (Tryz.strconv_Itoa i hb.1 hb.2 w (tabPow hr)).mono ?_
  rintro e w' ⟨rfl, k, os, rfl⟩
  have hbel : Below w.heap.size w (grow (w.drewN k) os) := ⟨rfl, rfl, rfl, by simp, fun j hj => heap_grow_old (w.drewN k) os hj⟩
  exact ⟨_, _, _, G, rfl, ⟨rfl, rfl⟩, .str ⟨(Lib.itoa i).toArray⟩, by simp [V.sc], hr.ofBelow hbel, .refl _ _, .refl _⟩
 ·cases h
theorem map_mk (l : List (List UInt8)) : (l.map fun x => (⟨x.toArray⟩ : ByteArray)).map (·.data.toList) = l := by
 induction l with
 | nil => rfl
 | cons x r ih => simp only [List.map_cons] at *; rw [ih]
def ct_Join (n : Nat) (l : List (List UInt8)) (sep : List UInt8) : Option (List UInt8) :=
 if (Lib.join l sep).length ≤ 140737488355328 ∧ l.length ≤ 140737488355328 then some (Lib.join l sep) else none
theorem join_any {w : World} {bk cap : Nat} (l : List (List UInt8)) (sep : List UInt8) (o : Nat) (hc : ∀ (j : Nat) x, l[j]? = some x → w.cell? ⟨bk, o + j, none⟩ = some (.string ⟨x.toArray⟩)) (hbk : bk < w.heap.size) (hcap : l.length ≤ cap)
  (h1 : (Lib.join l sep).length ≤ 140737488355328) (h2 : l.length ≤ 140737488355328) :
  Calls Tryz.prog 174 #[.slice (some ⟨bk, o, none⟩) l.length cap, .string ⟨sep.toArray⟩] w fun e w' => e = .returned (.string ⟨(Lib.join l sep).toArray⟩) ∧ Below w.heap.size w w' := by
 have := Tryz.strings_Join bk o cap (l.map fun x => ⟨x.toArray⟩) ⟨sep.toArray⟩ w (by
  intro j x hx
  rw [List.getElem?_map] at hx
  obtain ⟨y, hy, rfl⟩ := Option.map_eq_some_iff.1 hx
  exact hc j y hy) hbk (by simpa using h2) (by simpa using hcap) (by rw [map_mk]; simpa using h1)
 rw [map_mk, List.length_map] at this
 exact this
theorem ct_Join_ok {n : Nat} {l : List (List UInt8)} {sep r : List UInt8} (h : ct_Join n l sep = some r) : ACalls Tryz.prog (gl0 mx) 174 [.sl 1 (l.map cS) .none, .str sep] ⟨[], []⟩ (Out (.str r) ⟨[], []⟩) := by
 unfold ct_Join at h
 split at h
 ·rename_i hb
  injection h with h; subst h
  refine ⟨by kernel_rfl, ?_⟩
  intro w0 G w cargs hr hv _
  obtain ⟨x, y, rfl, h1, h2⟩ := vrs2 hv
  rw [vr_str h2]
  generalize hes : l.map cS = es at h1
  cases h1 with
  | sl hrow htok hcap =>
   rename_i b o cap
   subst hes
   have hcell : ∀ (j : Nat) x, l[j]? = some x → w.cell? ⟨b, o + j, none⟩ = some (.string ⟨x.toArray⟩) := by
    intro j x hx
    have h3 := (hrow j (cS x) (by rw [List.getElem?_map, hx]; rfl)).2 0 (.str x) rfl
    rw [Nat.mul_one] at h3
    obtain ⟨_, c, hc, hvr⟩ := hr.imm _ _ _ h3
    rw [vr_str hvr] at hc
    exact hc
   rcases Nat.eq_zero_or_pos l.length with h0 | h0
   ·have hl : l = [] := List.eq_nil_of_length_eq_zero h0
    subst hl
    refine (Tryz.strings_Join_none (some ⟨b, o, none⟩) cap _ w).mono ?_
    rintro e w' ⟨rfl, rfl⟩
    exact ⟨_, _, _, G, rfl, ⟨rfl, rfl⟩, .str ⟨#[]⟩, by simp [V.sc], hr, .refl _ _, .refl _⟩
   ·have hbk : b < w.heap.size := cell_lt (hcell 0 _ (List.getElem?_eq_getElem h0))
    rw [List.length_map] at hcap ⊢
    refine (join_any l sep o hcell hbk hcap hb.1 hb.2).mono ?_
    rintro e w' ⟨rfl, hbel⟩
    exact ⟨_, _, _, G, rfl, ⟨rfl, rfl⟩, .str ⟨(Lib.join l sep).toArray⟩, by simp [V.sc], hr.ofBelow hbel, .refl _ _, .refl _⟩
  | slnil =>
   have hl : l = [] := by cases l with | nil => rfl | cons a r => simp at hes
   subst hl
   refine (Tryz.strings_Join_none none 0 _ w).mono ?_
   rintro e w' ⟨rfl, rfl⟩
   exact ⟨_, _, _, G, rfl, ⟨rfl, rfl⟩, .str ⟨#[]⟩, by simp [V.sc], hr, .refl _ _, .refl _⟩
 ·cases h
end Go.Abs
end
