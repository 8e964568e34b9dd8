/- The laws of the layer of validation: the runs. No condition. -/
import Derived.Test.YtkabooclnoiclaaGreatDoorK18
set_option linter.unusedVariables false
set_option linter.unusedSimpArgs false
set_option linter.unnecessarySimpa false
section
namespace Go.K
open Go Go.Abs Go.Proofs
def keysT : List (Nat × Nat) := [(12725707683775666000302814738504099093, 106435922212087617089263139067213656769005017651812643755006322942407154877074), (188545991767399300246383999770736327635, 111825699021894413452298923695497208821234468752023785523217680600707366416539), (129007313541863090308702653736847911794, 54967253478094640474904006820005203784724201575334798011888301524421222968876), (118586307966089301700146650516496502549, 62945824017989252872913906997001986320777313712189729283714431032379016149823), (90484985760608241103099294836509834893, 85010709446449582241315799880555295176934249965802174470519043693130238573457), (329191072699994746415341912359511606127, 63709653389580343451589975865475144555245453803958445710867943048998925228511), (240294353576658090839126703083171867714, 29075055961723821492703770638560127153437316825577720414005412365900100326957), (128711221776638471773247237290104101200, 3472070592169079030495999569721045308245582589052054138322261170441750118911)]
theorem keysT_ok : tabOk keysT := by
 have h : (keysT.all fun p => Nat.blt p.1 (Nat.pow 256 16) && Nat.blt p.2 (Nat.pow 256 32)) = true := by kernel_rfl
 intro p hp
 have := List.all_eq_true.1 h p hp
 rw [Bool.and_eq_true] at this
 exact ⟨Nat.le_of_ble_eq_true this.1, Nat.le_of_ble_eq_true this.2⟩
theorem globs_le : Tryz.prog.globals.size ≤ 1000 := by
 have h : Nat.ble Tryz.prog.globals.size 1000 = true := by kernel_rfl
 exact Nat.le_of_ble_eq_true h
theorem awake_run : yes ((qgo (X0 keysT) 300).call 10 [] hE0 fun v h => some (v, h)) = true := by kernel_rfl
theorem awake_ok (h : KH) : KCall Tryz.prog 10 [] h (.bool true) h := memo_true (X0_ok keysT_ok) globs_le rfl awake_run h
noncomputable def veRun (n : Int) (b : Bool) (S2 : Sl → List KD → KH → QKE → QR) (K : QKE) : QR := seqS (qcode XA (qgo XA 20) true 98 (seqL (bodyK 4))) (seqS (qcode XA (qgo XA 20) true 98 (seqL (seqR (bodyK 4)))) S2) (kargs [.int .i64 n, .bool b] 0 .none) [] hE0 K
noncomputable def veL (n : Int) (b : Bool) (r : Int) : Sl := sput (sput (sput (sput (sput (sput (kargs [.int .i64 n, .bool b] 0 .none) 4 (.bool false)) 13 (.int .i64 n)) 14 (.sl 1000 0 1 (some 1) 1)) 15 (.ptr 1001 0)) 16 (.int .i64 r)) 0 (.int .i64 r)
noncomputable def veH (n : Int) : KH := (hE0.push (.cells false [.int .i64 n])).push (.cells false [.sl 1000 0 1 (some 1) 1, .int .i64 1])
theorem ve_eq (n : Int) (b : Bool) (S2 : Sl → List KD → KH → QKE → QR) (K : QKE) : veRun n b S2 K = S2 (veL n b (nx n 11)) [] (veH n) K := by kernel_rfl
noncomputable def veRest : Sl → List KD → KH → QKE → QR := qcode (XW keysT) (qgo (XW keysT) 300) true 98 (seqR (seqR (bodyK 4)))
theorem ve_t (n : Int) : ([0, 1, 2, 3, 4, 5, 6, 7, 8, 9, 10].all fun r => yes (veRest (veL n true (Int.ofNat r)) [] (veH n) (Kret 4))) = true := by kernel_rfl
theorem ve_f (n : Int) : ([0, 1, 2, 3, 4, 5, 6, 7, 8, 9, 10].all fun r => yes (veRest (veL n false (Int.ofNat r)) [] (veH n) (Kret 4))) = true := by kernel_rfl
theorem upto10 : ∀ k, k < 11 → k ∈ [0, 1, 2, 3, 4, 5, 6, 7, 8, 9, 10] := by decide
theorem ve_true (n r : Int) (h0 : 0 ≤ r) (h1 : r < 11) : yes (veRest (veL n true r) [] (veH n) (Kret 4)) = true := by
 obtain ⟨k, rfl⟩ := Int.eq_ofNat_of_zero_le h0
 exact List.all_eq_true.1 (ve_t n) k (upto10 k (by omega))
theorem ve_false (n r : Int) (h0 : 0 ≤ r) (h1 : r < 11) : yes (veRest (veL n false r) [] (veH n) (Kret 4)) = true := by
 obtain ⟨k, rfl⟩ := Int.eq_ofNat_of_zero_le h0
 exact List.all_eq_true.1 (ve_f n) k (upto10 k (by omega))
theorem ve_f4 : Tryz.prog.funcs[4]? = some Tryz.f4 := Tryz.func4
theorem ve_body : Tryz.f4.body = some (.seq (seqL (bodyK 4)) (.seq (seqL (seqR (bodyK 4))) (seqR (seqR (bodyK 4))))) := by kernel_rfl
theorem ve_tmps : Tryz.f4.ntmps = 98 := by kernel_rfl
theorem ve_res : Tryz.f4.results = #[.tmp 4] := by kernel_rfl
theorem ve_stage : Stage Tryz.prog 98 (.seq (seqL (bodyK 4)) (.seq (seqL (seqR (bodyK 4))) (seqR (seqR (bodyK 4))))) (seqS (qcode XA (qgo XA 20) true 98 (seqL (bodyK 4))) (seqS (qcode XA (qgo XA 20) true 98 (seqL (seqR (bodyK 4)))) veRest)) :=
 (Stage.of XA_ok 20 98 _).seq ((Stage.of XA_ok 20 98 _).seq (Stage.of (XW_ok keysT_ok awake_ok) 300 98 _))
theorem ve_call (n : Int) (b : Bool) : ∃ h', KCall Tryz.prog 4 [.int .i64 n, .bool b] hE0 (.bool true) h' := by
 have hr := nx_range n (k := 11) (by decide) (by decide)
 have hy : yes (veRun n b veRest (Kret 4)) = true := by
  rw [ve_eq]
  cases b
  ·exact ve_false n _ hr.1 hr.2
  ·exact ve_true n _ hr.1 hr.2
 obtain ⟨h', e⟩ := yes_eq hy
 have st : Stage Tryz.prog Tryz.f4.ntmps (.seq (seqL (bodyK 4)) (.seq (seqL (seqR (bodyK 4))) (seqR (seqR (bodyK 4))))) (seqS (qcode XA (qgo XA 20) true 98 (seqL (bodyK 4))) (seqS (qcode XA (qgo XA 20) true 98 (seqL (seqR (bodyK 4)))) veRest)) := by
  rw [ve_tmps]; exact ve_stage
 have hl : ([.int .i64 n, .bool b] : List KV).length ≤ Tryz.f4.ntmps := by
  rw [ve_tmps]; exact Nat.le_of_ble_eq_true rfl
 unfold veRun at e
 exact ⟨h', Stage.call XE_ok XS_ok ve_f4 ve_body hl ve_res st e⟩
end Go.K
end
section
set_option maxRecDepth 100000
namespace Go.Proofs.YtkabooclnoiclaaGreatDoor
open Go.ChangeShapes Go.WideShapes Go.ChangeAt Go.RowKit Go.Abs
theorem own : ownKnob Tryz.prog.godebug = none := by kernel_rfl
theorem laidOut : laidOutB Tryz.prog = true := by kernel_rfl
noncomputable def rowSize (g : Nat) : Option Nat := (((begin Tryz.prog (fun _ _ => 0) default).world.heap[g]?).bind Obj.row?).map fun x => x.1.size
theorem shape_lt {W : World} (h : W.ShapedOpen Tryz.prog) {g : Nat} (hg : Nat.blt g Tryz.prog.globals.size = true) (hk : (rowSize g).isSome = true) : g < W.heap.size := by
 unfold rowSize at hk
 rw [Option.isSome_map] at hk
 obtain ⟨⟨z, t⟩, h1⟩ := Option.isSome_iff_exists.1 hk
 obtain ⟨cs, h3, h4, _⟩ := h.1 g z t (by simpa using hg) h1
 exact Go.Abs.heap_lt h3
theorem globs3 : Tryz.prog.globals.size = 3 := by kernel_rfl
theorem globs_lt {W : World} (h : W.ShapedOpen Tryz.prog) : 3 ≤ W.heap.size := shape_lt h (g := 2) (by kernel_rfl) (by kernel_rfl)
def gh (W : World) : K.Gh := ⟨fun id => if id < 3 then some (id, 0) else none, fun _ => 0⟩
theorem gh_rel {W : World} (h : W.ShapedOpen Tryz.prog) : K.KRel ⟨W, fun _ => False, fun _ _ => none⟩ (gh W) K.hE0 W where
 kept := Kept.refl W _ _
 blk := fun id o e => by
  have : K.hE0.get id = none := K.N64k.get_empty _
  rw [this] at e; cases e
 lt := fun id b k e => by
  have e : (if id < 3 then some (id, 0) else none) = some (b, k) := e
  split at e
  ·simp only [Option.some.injEq, Prod.mk.injEq] at e
   obtain ⟨rfl, rfl⟩ := e
   exact ⟨Nat.lt_of_lt_of_le (by assumption) (globs_lt h), Nat.lt_of_lt_of_le (by assumption) (by decide)⟩
  ·cases e
 sep := fun i j oi oj b ki kj e1 => by
  have : K.hE0.get i = none := K.N64k.get_empty _
  rw [this] at e1; cases e1
 top := by decide
 res := fun id o b k e => by
  have : K.hE0.get id = none := K.N64k.get_empty _
  rw [this] at e; cases e
theorem call_of {f : FuncId} {args : List K.KV} {h' : K.KH} {W : World} {c : Array Value} (hs : W.ShapedOpen Tryz.prog) (k : K.KCall Tryz.prog f args K.hE0 (.bool true) h') (hc : K.KRs (gh W) args c) :
  Calls Tryz.prog f c W fun e W' => e = .returned (.bool true) ∧ Below W.heap.size W W' := by
 have hg : K.Glob Tryz.prog (gh W) := fun g hg => if_pos (by rw [globs3] at hg; exact hg)
 have := callsIn_wide.1 (k ⟨W, fun _ => False, fun _ _ => none⟩ (gh W) W c 0 hg (gh_rel hs) hc)
 refine this.mono ?_
 rintro e W' ⟨c', G', rfl, _, hv, hrel⟩
 cases hv
 exact ⟨rfl, hrel.kept.os, hrel.kept.tape, hrel.kept.output, hrel.kept.size, fun k hk => hrel.kept.heap k hk (fun h => h)⟩
end Go.Proofs.YtkabooclnoiclaaGreatDoor
end
