/- Abstract values: a part. No condition beyond each statement's own. -/
import Derived.Test.YthfhicembdpjpaaGreatDoorA06
set_option linter.unusedVariables false
set_option linter.unusedSimpArgs false
set_option linter.unnecessarySimpa false
section
namespace Go.Abs
open Go.RowKit (Below)
section
variable {P : Program} {gl : Nat → List V} {w0 : Base} {G : Gh} {st : St} {w : World}
theorem aun_run {op : UnOp} {x v : V} {a : Value} (hx : VR G x a) (h : aun op x = some v) : ∃ c, (Op.unary op a).run P w = .ok c w ∧ VR G v c ∧ V.sc st v := by
 unfold aun at h
 split at h
 ·cases hx; injection h with h; subst h
  exact ⟨_, by simp [Op.unary, Op.intArith], .int _ _, by simp [V.sc]⟩
 ·cases hx
  simpa [Op.unary] using abits_run (P := P) (w := w) (G := G) (st := st) h
 ·cases hx; injection h with h; subst h
  exact ⟨_, by simp [Op.unary], .bool _, by simp [V.sc]⟩
 ·cases h
theorem tiD_arr {d : TypeDesc} {n sz : Nat} (h : tiD P (some d) = .arr n sz) : ∃ e i, d = .array n e ∧ P.info? e = some i ∧ sz = i.size := by
  cases d <;> simp only [tiD] at h <;> first
    | (cases h; done)
    | (split at h
       · rename_i hh
         obtain ⟨i, hi⟩ := Option.isSome_iff_exists.1 hh
         injection h with h1 h2; subst h1 h2
         exact ⟨_, i, rfl, hi, by simp [Program.cellsOf, hi]⟩
       · cases h)
    | (split at h <;> cases h)
theorem tiD_struct {d : TypeDesc} {fs : List (Nat × Nat)} (h : tiD P (some d) = .struct fs) : ∃ fields, d = .struct fields ∧ fs = fields.toList.map (fun f => (f.offset, P.cellsOf f.type)) ∧ ∀ f ∈ fields.toList, (P.info? f.type).isSome = true := by
  cases d <;> simp only [tiD] at h <;> first
    | (cases h; done)
    | (split at h
       · rename_i hh
         injection h with h1; subst h1
         exact ⟨_, rfl, rfl, List.all_eq_true.1 hh⟩
       · cases h)
    | (split at h <;> cases h)
theorem ti_d {t : TypeId} {x : TD} (h : (ti P t).d = x) (hx : x ≠ .other) : ∃ d, P.underlying t = some d ∧ tiD P (some d) = x := by
 simp only [ti] at h
 cases hd : P.underlying t with
 | none => rw [hd] at h; exact absurd h.symm hx
 | some d => rw [hd] at h; exact ⟨d, rfl, h⟩
theorem ti_slice {t e : TypeId} {sz by_ : Nat} (h : (ti P t).d = .slice e sz by_) : P.underlying t = some (.slice e) ∧ ∃ i, P.info? e = some i ∧ sz = i.size ∧ by_ = i.bytes := by
 obtain ⟨d, hd, hx⟩ := ti_d h (by simp)
 obtain ⟨h1, h2⟩ := tiD_slice hx
 exact ⟨h1 ▸ hd, h2⟩
theorem ti_int {t : TypeId} {k : IntKind} (h : (ti P t).d = .int k) : P.underlying t = some (.int k) := by
 obtain ⟨d, hd, hx⟩ := ti_d h (by simp)
 exact tiD_int hx ▸ hd
theorem ti_str {t : TypeId} (h : (ti P t).d = .str) : P.underlying t = some .string := by
 obtain ⟨d, hd, hx⟩ := ti_d h (by simp)
 exact tiD_str hx ▸ hd
theorem ti_arr {t : TypeId} {n sz : Nat} (h : (ti P t).d = .arr n sz) : ∃ e i, P.underlying t = some (.array n e) ∧ P.info? e = some i ∧ sz = i.size := by
 obtain ⟨d, hd, hx⟩ := ti_d h (by simp)
 obtain ⟨e, i, h1, h2⟩ := tiD_arr hx
 exact ⟨e, i, h1 ▸ hd, h2⟩
theorem ti_struct {t : TypeId} {fs : List (Nat × Nat)} (h : (ti P t).d = .struct fs) : ∃ fields, P.underlying t = some (.struct fields) ∧ fs = fields.toList.map (fun f => (f.offset, P.cellsOf f.type)) ∧ ∀ f ∈ fields.toList, (P.info? f.type).isSome = true := by
 obtain ⟨d, hd, hx⟩ := ti_d h (by simp)
 obtain ⟨fields, h1, h2⟩ := tiD_struct hx
 exact ⟨fields, h1 ▸ hd, h2⟩
theorem rowAt_flat {b o sz : Nat} {es : List (List V)} (hsz : ∀ e ∈ es, e.length = sz) (himm : ∀ (i : Nat) (v : V), es.flatten[i]? = some v → G.imm b (o + i) = some v) : RowAt G b o sz es := by
 induction es generalizing o with
 | nil => intro i e he; simp at he
 | cons e0 r ih =>
  intro i e he
  cases i with
  | zero =>
   simp at he; subst he
   refine ⟨hsz e0 (by simp), ?_⟩
   intro j v hv
   have := himm j v (by
    have hj : j < e0.length := by
     rcases Nat.lt_or_ge j e0.length with h' | h'
     ·exact h'
     ·rw [List.getElem?_eq_none h'] at hv; cases hv
    rw [List.flatten_cons, List.getElem?_append_left hj]; exact hv)
   exact .of (by simpa using this)
  | succ i =>
   have h0 : e0.length = sz := hsz e0 (by simp)
   have := ih (o := o + sz) (fun e he => hsz e (List.mem_cons_of_mem _ he)) (by
    intro i v hv
    have := himm (sz + i) v (by rw [List.flatten_cons, List.getElem?_append_right (by omega), h0]; simpa using hv)
    rw [Nat.add_assoc]; exact this) i e (by simpa using he)
   refine ⟨this.1, ?_⟩
   intro j v hv
   have := this.2 j v hv
   rw [show o + (i + 1) * sz + j = o + sz + i * sz + j by rw [Nat.add_mul]; omega]
   exact this
theorem flat_rowAt {b o sz : Nat} {es : List (List V)} (h : RowAt G b o sz es) : (∀ e ∈ es, e.length = sz) ∧ ∀ (i : Nat) (v : V), es.flatten[i]? = some v → G.Im b (o + i) v := by
 refine ⟨?_, ?_⟩
 ·intro e he
  obtain ⟨i, hi⟩ := List.getElem?_of_mem he
  exact (h i e hi).1
 ·induction es generalizing o with
  | nil => intro i v hv; simp at hv
  | cons e0 r ih =>
   intro i v hv
   have h0 := h 0 e0 (by simp)
   rw [List.flatten_cons] at hv
   rcases Nat.lt_or_ge i e0.length with hi | hi
   ·rw [List.getElem?_append_left hi] at hv
    simpa using h0.2 i v hv
   ·rw [List.getElem?_append_right hi] at hv
    have := ih (o := o + sz) (by
     intro i e he
     have := h (i + 1) e (by simpa using he)
     rw [show o + (i + 1) * sz = o + sz + i * sz by rw [Nat.add_mul]; omega] at this
     exact this) (i - e0.length) v hv
    rw [h0.1] at this
    rw [show o + i = o + sz + (i - sz) by rw [h0.1] at hi; omega]
    exact this
theorem flatten_length {sz : Nat} {es : List (List V)} (h : ∀ e ∈ es, e.length = sz) : es.flatten.length = es.length * sz := by
 induction es with
 | nil => simp
 | cons e r ih =>
  simp only [List.flatten_cons, List.length_append, List.length_cons, h e (by simp), ih (fun e he => h e (List.mem_cons_of_mem _ he))]
  rw [Nat.add_mul]; omega
theorem byteRow_len (s : List UInt8) : ∀ e ∈ byteRow s, e.length = 1 := by
 intro e he
 obtain ⟨b, _, rfl⟩ := List.mem_map.1 he
 rfl
theorem byteRow_flat (s : List UInt8) : (byteRow s).flatten = s.map fun b => .int .u8 b.toNat := by
 induction s with
 | nil => rfl
 | cons b r ih => simp only [byteRow, List.map_cons, List.flatten_cons] at *; rw [ih]; rfl
theorem run_convert_bytes_slz (w : World) (src e : TypeId) (hs : P.underlying src = some (.slice e)) (he : P.underlying e = some (.int .u8)) (a : Addr) :
  ∀ dst, P.underlying dst = some .string → (convert src dst (.slice (some a) 0 0)).run P w = .ok (.string ByteArray.empty) w := by
 intro dst hd
 have hl : (loadCells a 0).run P w = .ok (([] : List Int).map (Value.int .u8)).toArray w := by
  simpa using run_loadCells_list (P := P) w a [] (fun j v hj => by simp at hj)
 rw [run_convert_bytes_string w src dst e _ 0 0 hs he hd, run_bytesToString w _ 0 0 [] hl]
 rfl
theorem toBytes_cells {b o : Nat} {es : List (List V)} {bs : List UInt8} (h : Rel gl w0 G st w) (hr : RowAt G b o 1 es) (hb : toBytes es = some bs) :
  ∃ ns : List Int, ns.length = es.length ∧ bs = ns.map (fun n => UInt8.ofNat n.toNat) ∧ ∀ i, i < es.length → w.cell? ⟨b, o + i, none⟩ = some (.int .u8 (ns.getD i 0)) := by
 induction es generalizing o bs with
 | nil => simp only [toBytes] at hb; injection hb with hb; subst hb; exact ⟨[], rfl, rfl, fun i hi => by simp at hi⟩
 | cons e r ih =>
  simp only [toBytes] at hb
  split at hb
  ·rename_i x y h1 h2
   injection hb with hb; subst hb
   obtain ⟨ns, n1, n2, n3⟩ := ih (o := o + 1) (fun i e he => by
    have := hr (i + 1) e (by simpa using he)
    rw [show o + (i + 1) * 1 = o + 1 + i * 1 by omega] at this
    exact this) h2
   unfold toByte at h1
   split at h1
   ·rename_i n
    injection h1 with h1; subst h1
    refine ⟨n :: ns, by simp [n1], by simp [n2], ?_⟩
    intro i hi
    cases i with
    | zero =>
     have := (hr 0 _ rfl).2 0 _ rfl
     obtain ⟨_, c, hc, hv⟩ := h.im this
     cases hv
     simpa using hc
    | succ i =>
     have := n3 i (by simpa using hi)
     rw [show o + (i + 1) = o + 1 + i by omega, this]
     rfl
   ·cases h1
  ·cases hb
theorem cellBytes_cells {b o : Nat} {cs : List V} {bs : List UInt8} (hc : ∀ (i : Nat) (v : V), cs[i]? = some v → ∃ c, w.cell? ⟨b, o + i, none⟩ = some c ∧ VR G v c) (hb : cellBytes cs = some bs) :
  ∃ ns : List Int, ns.length = cs.length ∧ bs = ns.map (fun n => UInt8.ofNat n.toNat) ∧ ∀ i, i < cs.length → w.cell? ⟨b, o + i, none⟩ = some (.int .u8 (ns.getD i 0)) := by
 induction cs generalizing o bs with
 | nil => simp only [cellBytes] at hb; injection hb with hb; subst hb; exact ⟨[], rfl, rfl, fun i hi => by simp at hi⟩
 | cons v r ih =>
  unfold cellBytes at hb
  split at hb
  ·rename_i heq; cases heq
  ·rename_i n r' heq
   injection heq with h1 h2; subst h1 h2
   split at hb
   ·rename_i y h2
    injection hb with hb; subst hb
    obtain ⟨ns, n1, n2, n3⟩ := ih (o := o + 1) (fun i v hv => by
     have := hc (i + 1) v (by simpa using hv)
     rw [show o + (i + 1) = o + 1 + i by omega] at this
     exact this) h2
    refine ⟨n :: ns, by simp [n1], by simp [n2], ?_⟩
    intro i hi
    cases i with
    | zero =>
     obtain ⟨c, hc', hv⟩ := hc 0 _ rfl
     cases hv
     simpa using hc'
    | succ i =>
     have := n3 i (by simpa using hi)
     rw [show o + (i + 1) = o + 1 + i by omega, this]
     rfl
   ·cases hb
  ·cases hb
theorem aconv_run (h : Rel gl w0 G st w) {s d : TypeId} {x v : V} {a : Value} (hx : VR G x a) (hsx : V.sc st x) (hc : aconv P st (ti P s) (ti P d) x = some v) : SOK P gl w0 G st w (convert s d a) v st := by
 unfold aconv at hc
 split at hc
 ·rename_i hok
  obtain ⟨is, ds, his, hds, _, _⟩ := ti_ok hok
  split at hc
  ·rename_i k n
   cases hx
   split at hc
   ·rename_i k' hd
    injection hc with hc; subst hc
    exact SOK.same h (c := .int k' (k'.wrap n)) (by simp only [convert, Sem.run_bind, run_underlying hds, run_underlying (ti_int hd), Result.andThen_ok]; cases ds <;> rfl) (.int _ _) (by simp [V.sc])
   ·cases hc
  ·rename_i b
   cases hx
   rename_i s'
   split at hc
   ·rename_i hd
    injection hc with hc; subst hc
    exact SOK.same h (c := .string s') (by simp only [convert, Sem.run_bind, run_underlying hds, run_underlying (ti_str hd), Result.andThen_ok]; cases ds <;> rfl) (.str _) (by simp [V.sc])
   ·rename_i e by_ hd
    split at hc
    ·rename_i hcond
     injection hc with hc; subst hc
     obtain ⟨hu, i, hi, _, _⟩ := ti_slice hd
     have hrun := run_bytes_of_string (P := P) w s d e s' (ti_str hcond.2) hu (ti_int hcond.1)
     have hcap := grownCap_ge w s'.size 0 e
     obtain ⟨hr, hxx⟩ := (h.of_heap (w' := w.drew) rfl rfl rfl rfl).newRow (fun i => (byteRow s'.data.toList).flatten[i]?) (bytesRow s' (grownCap w s'.size 0 e)) e
      ((bytesRow s' (grownCap w s'.size 0 e)).size, (bytesRow s' (grownCap w s'.size 0 e)).size + 1) (by
       intro i v hv
       rw [byteRow_flat, List.getElem?_map] at hv
       cases hq : s'.data.toList[i]? with
       | none => rw [hq] at hv; cases hv
       | some q =>
        rw [hq] at hv; simp at hv; subst hv
        refine ⟨rfl, .int .u8 q.toNat, ?_, .int _ _⟩
        have hlt : i < s'.data.size := by
         rcases Nat.lt_or_ge i s'.data.size with h' | h'
         ·exact h'
         ·rw [List.getElem?_eq_none (by simpa using h')] at hq; cases hq
        simp only [bytesRow]
        rw [Array.getElem?_append_left (by simpa using hlt)]
        simp only [Array.getElem?_map]
        rw [← Array.getElem?_toList, hq]; rfl)
     refine ⟨_, _, _, hrun, ?_, by simp [V.sc], hr, hxx, .refl _⟩
     have hlen : s'.size = (byteRow s'.data.toList).length := by simp [byteRow]
     rw [hlen]
     refine VR.sl (rowAt_flat (byteRow_len _) ?_) trivial (by rw [← hlen]; simpa using hcap)
     intro i v hv
     show (if w.heap.size = w.heap.size then (byteRow s'.data.toList).flatten[0 + i]? else G.imm w.heap.size (0 + i)) = some v
     rw [if_pos rfl, Nat.zero_add]; exact hv
    ·cases hc
   ·cases hc
  ·split at hc
   ·rename_i hs hd
    cases hx
    split at hc
    ·rename_i he
     injection hc with hc; subst hc
     exact SOK.same h (c := .string ByteArray.empty) (run_convert_bytes_nil (P := P) w s _ (ti_slice hs).1 (ti_int he) 0 0 d (ti_str hd)) (.str ByteArray.empty) (by simp [V.sc])
    ·cases hc
   ·cases hc
  ·rename_i es tok
   split at hc
   ·rename_i e _ _ hs hd
    split at hc
    ·rename_i he
     split at hc
     ·rename_i bs hbs
      injection hc with hc; subst hc
      cases hx with
      | sl hr ht hl =>
       rename_i b o cap
       obtain ⟨ns, n1, n2, n3⟩ := toBytes_cells h hr hbs
       refine SOK.same h (c := .string (strOfNums ns)) (run_convert_bytes_arg (P := P) w s e (ti_slice hs).1 (ti_int he) b o es.length cap ns n1 n3 d (ti_str hd)) ?_ (by simp [V.sc])
       rw [n2, ← strOfNums_data]; exact .str _
      | slnil =>
       simp only [toBytes] at hbs
       injection hbs with hbs; subst hbs
       exact SOK.same h (c := .string ByteArray.empty) (run_convert_bytes_nil (P := P) w s _ (ti_slice hs).1 (ti_int he) 0 0 d (ti_str hd)) (.str ByteArray.empty) (by simp [V.sc])
      | slz _ a =>
       simp only [toBytes] at hbs
       injection hbs with hbs; subst hbs
       exact SOK.same h (c := .string ByteArray.empty) (run_convert_bytes_slz (P := P) w s _ (ti_slice hs).1 (ti_int he) a d (ti_str hd)) (.str ByteArray.empty) (by simp [V.sc])
     ·cases hc
    ·cases hc
   ·cases hc
  ·rename_i id off len cap
   split at hc
   ·rename_i e _ _ hs hd
    split at hc
    ·rename_i he
     split at hc
     ·rename_i cells hcs
      split at hc
      ·rename_i hlen
       split at hc
       ·rename_i bs hbs
        injection hc with hc; subst hc
        cases hx with
        | rsl hb =>
         rename_i b
         obtain ⟨hlen, hlive⟩ := hlen
         obtain ⟨C, el, h2, h3, h4, h4', h5⟩ := h.live hcs hlive hb
         obtain ⟨ns, n1, n2, n3⟩ := cellBytes_cells (G := G) (w := w) (b := b) (o := off) (by
          intro i v hv
          rw [List.getElem?_take] at hv
          split at hv
          ·rw [List.getElem?_drop] at hv
           have hj : off + i < C.size := Nat.lt_of_lt_of_le (lt_of_get hv) h4
           exact ⟨C[off + i], by rw [cell_of_heap h3]; simp [hj], h4' _ v _ hv (by simp [hj])⟩
          ·cases hv) hbs
         have hl' : ((cells.drop off).take len).length = len := by simp; omega
         rw [hl'] at n1 n3
         refine SOK.same h (c := .string (strOfNums ns)) (run_convert_bytes_arg (P := P) w s e (ti_slice hs).1 (ti_int he) b off len cap ns n1 n3 d (ti_str hd)) ?_ (by simp [V.sc])
         rw [n2, ← strOfNums_data]; exact .str _
       ·cases hc
      ·cases hc
     ·cases hc
    ·cases hc
   ·cases hc
  ·rename_i id m
   split at hc
   ·rename_i e _ _ hs hd
    split at hc
    ·rename_i he
     split at hc
     ·rename_i cells hcs
      split at hc
      ·rename_i hlen
       split at hc
       ·rename_i bs hbs
        injection hc with hc; subst hc
        cases hx with
        | own hpos hb hcap hroom =>
         rename_i b cap
         obtain ⟨C, el, h2, h3, _, h4, h4', h5⟩ := h.bufOf hcs (by omega) hb
         obtain ⟨ns, n1, n2, n3⟩ := cellBytes_cells (G := G) (w := w) (b := b) (o := 0) (by
          intro i v hv
          rw [List.getElem?_take] at hv
          split at hv
          ·have hj : i < C.size := Nat.lt_of_lt_of_le (lt_of_get hv) h4
           exact ⟨C[i], by rw [Nat.zero_add, cell_of_heap h3]; simp [hj], h4' _ v _ hv (by simp [hj])⟩
          ·cases hv) hbs
         have hl' : (cells.take m).length = m := by simp; omega
         rw [hl'] at n1 n3
         refine SOK.same h (c := .string (strOfNums ns)) (run_convert_bytes_arg (P := P) w s e (ti_slice hs).1 (ti_int he) b 0 m cap ns n1 n3 d (ti_str hd)) ?_ (by simp [V.sc])
         rw [n2, ← strOfNums_data]; exact .str _
        | ownnil =>
         simp only [List.take_zero, cellBytes] at hbs
         injection hbs with hbs; subst hbs
         exact SOK.same h (c := .string ByteArray.empty) (run_convert_bytes_nil (P := P) w s _ (ti_slice hs).1 (ti_int he) 0 0 d (ti_str hd)) (.str ByteArray.empty) (by simp [V.sc])
       ·cases hc
      ·cases hc
     ·cases hc
    ·cases hc
   ·cases hc
  ·cases hc
 ·cases hc
end
end Go.Abs
end
