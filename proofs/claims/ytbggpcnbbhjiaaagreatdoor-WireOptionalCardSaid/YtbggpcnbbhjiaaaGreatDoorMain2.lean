/- WireOptional returns true for every list of numbers and leaves it as it was. Conditions: those of the given card alone. -/
import Derived.Test.YtbggpcnbbhjiaaaGreatDoorMain1
set_option linter.unusedVariables false
set_option linter.unusedSimpArgs false
set_option linter.unnecessarySimpa false
section
namespace Go.Proofs.YtbggpcnbbhjiaaaGreatDoor
open Go.ChangeShapes Go.WideShapes Go.ChangeAt Go.RowKit Go.Abs
theorem own : ownKnob Tryz.prog.godebug = none := by kernel_rfl
theorem laidOut : laidOutB Tryz.prog = true := by kernel_rfl
theorem len_cell {W : World} (h : laidMetH Tryz.prog Rows.wireOptionalRow.laid W) (r : Nat) (hr : r < 12) : W.cell? ⟨0, r, none⟩ = some (.int .i64 (tab0.getD r 0)) := by
 rw [MakeChecks.laidMetH_plain _ _ _ (by kernel_rfl)] at h
 obtain ⟨ps, ⟨_, _, _, _, _, _, _, _, _, _, ⟨_, _, _, _, _, _, _, _, _, _, ⟨_, _, _, _, _, _, _, _, _, _, ⟨_, _, _, _, _, _, _, _, _, _, ⟨g, t, cs, fuel, p, q, hg, ht, hv, hd, _, _⟩, _⟩, _⟩, _⟩, _⟩, _, _⟩ := h
 obtain rfl := Option.some.inj ((show Tryz.prog.globalNamed "certpath/date.lengths" = some 0 by kernel_rfl).symm.trans hg)
 obtain rfl := Option.some.inj ((show (Tryz.prog.globals[0]?).map (·.type) = some 240 by kernel_rfl).symm.trans ht)
 obtain ⟨xs, m, _, ex, _, hl, hel⟩ := DataW.trod_array (show Tryz.prog.underlying 240 = some (.array 12 3) by kernel_rfl) hd
 have c3 : Tryz.prog.cellsOf 3 = 1 := by kernel_rfl
 have hE := hel r hr
 rw [c3, Nat.mul_one, List.getElem?_eq_getElem (by omega)] at hE
 obtain ⟨z, e1, e2, _⟩ := DataW.trod_int (show Tryz.prog.underlying 3 = some (.int .i64) by kernel_rfl) hE
 have hlen : tab0.length = 12 := by kernel_rfl
 have e3 : (xs.map (·.1)) = tab0.map fun n => .lit (.int .i64 n) := (DataW.agg.inj (Prod.mk.inj ex).1).symm
 have e4 : (xs.map (·.1))[r]? = (tab0.map fun n => (DataW.lit (.int .i64 n) : DataW Unit))[r]? := by rw [e3]
 rw [List.getElem?_map, List.getElem?_map, List.getElem?_eq_getElem (by omega : r < xs.length), List.getElem?_eq_getElem (by omega : r < tab0.length), e2] at e4
 have hz : z = tab0.getD r 0 := by
  simp only [Option.map_some, Option.some.injEq, DataW.lit.injEq, Lit.int.injEq, true_and] at e4
  rw [e4, List.getD, List.getElem?_eq_getElem (by omega : r < tab0.length)]; rfl
 rw [World.var?_cell hg hv r, ← hz]
 have : cs.toList[r]? = some (.int .i64 z) := by
  have h0 : ((cs.toList.drop r).take 1)[0]? = some (.int .i64 z) := by rw [e1]; rfl
  simpa using h0
 simpa using this
def ints (W : World) (b i : Nat) : Option V := match W.cell? ⟨b, i, none⟩ with
 | some (.int k n) => some (.int k n)
 | _ => none
def gh (W : World) : Gh := ⟨ints W, fun _ => none, fun _ _ => none, fun _ => 0⟩
theorem gh_rel {mx : Int} {W : World} (h0 : ∀ r, r < 12 → W.cell? ⟨0, r, none⟩ = some (.int .i64 (tab0.getD r 0))) (h1 : W.cell? ⟨1, 0, none⟩ = some (.int .i64 mx)) : Rel (gl0 mx) ⟨W, fun _ => False, ints W⟩ (gh W) ⟨[], []⟩ W where
 below := Kept.refl W _ _
 vars := fun id cells hc => by simp at hc
 varlt := fun id b hi => by simp at hi
 sc := fun id cells hc => by simp at hc
 disj := fun i j b ci cj hi => by simp at hi
 imm := fun b i v hv => by
  simp only [gh, ints] at hv
  split at hv
  ·rename_i k n hc
   injection hv with hv; subst hv
   exact ⟨rfl, _, hc, .int _ _⟩
  ·cases hv
 fam := fun t p b e lim ht => by simp at ht
 famdisj := fun t t' p p' b e l e' l' ht => by simp at ht
 glob := fun g i v hv => by
  match g, hv with
  | 0, hv =>
   have hl : i < 12 := by
    have := lt_of_get hv
    simpa [gl0, tab0] using this
   have e1 : (gl0 mx 0)[i]? = some (vI .i64 (tab0.getD i 0)) := by
    simp only [gl0, List.getElem?_map, List.getD]
    rw [List.getElem?_eq_getElem (show i < tab0.length from hl)]; rfl
   rw [e1] at hv; injection hv with hv; subst hv
   simp [gh, ints, h0 i hl, vI]
  | 1, hv =>
   match i, hv with
   | 0, hv => simp [gl0] at hv; subst hv; simp [gh, ints, h1]
   | i + 1, hv => simp [gl0] at hv
  | g + 2, hv => simp [gl0] at hv
 old := fun b i _ => rfl
theorem call_of {n : Nat} {l : List Int} {W : World} {mx : Int} (hlaw : go_certpathlaw37_WireOptional n l = some true) (h0 : ∀ r, r < 12 → W.cell? ⟨0, r, none⟩ = some (.int .i64 (tab0.getD r 0))) (h1 : W.cell? ⟨1, 0, none⟩ = some (.int .i64 mx))
  {c : Value} (hc : VR (gh W) (.sl 1 (l.map (cI .i64)) .none) c) : Calls Tryz.prog 7 #[c] W fun e W' => e = .returned (.bool true) ∧ Below W.heap.size W W' := by
 have := (go_certpathlaw37_WireOptional_ok (mx := mx) hlaw).2 ⟨W, fun _ => False, ints W⟩ (gh W) W #[c] (gh_rel h0 h1) ⟨rfl, fun i v x hv hx => by
  match i with
  | 0 => simp at hv hx; subst hv hx; exact hc
  | i + 1 => simp at hv⟩ (by simp [V.scs, V.sc])
 refine this.mono ?_
 rintro e W' ⟨r, c', st', G', rfl, ⟨rfl, rfl⟩, hvr, _, hrel, _, _⟩
 cases hvr
 exact ⟨rfl, hrel.below.os, hrel.below.tape, hrel.below.output, hrel.below.size, fun k hk => hrel.below.heap k hk (fun h => h)⟩
end Go.Proofs.YtbggpcnbbhjiaaaGreatDoor
end
