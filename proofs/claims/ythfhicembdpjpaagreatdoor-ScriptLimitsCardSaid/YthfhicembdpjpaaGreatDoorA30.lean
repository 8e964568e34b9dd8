/- Abstract values: a part. No condition beyond each statement's own. -/
import Derived.Test.YthfhicembdpjpaaGreatDoorA29
set_option linter.unusedVariables false
set_option linter.unusedSimpArgs false
set_option linter.unnecessarySimpa false
section
namespace Go.Abs
structure UC {α : Type} (c : α → List V) (sz : Nat) : Prop where
 len : ∀ x, (c x).length = sz
 pc : ∀ x, V.pcells (c x) = true
def fl {α : Type} (c : α → List V) (l : List α) : List V := (l.map c).flatten
theorem fl_cons {α : Type} (c : α → List V) (x : α) (l : List α) : fl c (x :: l) = c x ++ fl c l := rfl
theorem fl_len {α : Type} {c : α → List V} {sz : Nat} (U : UC c sz) : ∀ l : List α, (fl c l).length = l.length * sz
 | [] => by simp [fl]
 | x :: l => by rw [fl_cons, List.length_append, fl_len U l, U.len x, List.length_cons, Nat.succ_mul, Nat.add_comm]
theorem fl_pc {α : Type} {c : α → List V} {sz : Nat} (U : UC c sz) : ∀ l : List α, V.pcells (fl c l) = true
 | [] => rfl
 | x :: l => by
  have h1 := U.pc x
  have h2 := fl_pc U l
  unfold V.pcells at *
  rw [fl_cons, List.all_append, h1, h2]; rfl
theorem fl_chunk {α : Type} {c : α → List V} {sz : Nat} (U : UC c sz) : ∀ (l : List α) (r : List V), chunk sz l.length (fl c l ++ r) = l.map c
 | [], r => rfl
 | x :: l, r => by
  rw [fl_cons, List.append_assoc, List.length_cons, chunk, List.map_cons]
  have h := U.len x
  rw [List.take_left' h, List.drop_left' h, fl_chunk U l r]
theorem x_omakeC {T : TypeId → TI} {zc : List V} {sz : Nat} {li ci : Int} {k1 k2 : IntKind} {n id m f : Nat} {cell : Option (List V)} {e : TypeId} {bytes : Nat} (hs : 0 < sz) (hl : zc.length = sz) (hp : V.pcells zc = true)
  (hz : ((T e).zok = true ∧ (T e).zero.cells = zc)) (h : omake bytes li ci = some n) :
  ∀ st : St, st.vars.length = m → st.fams.length = f → st.vars[id]? = cell → amakeT T st (.slice e sz bytes) (.int k1 li) (.int k2 ci) = some (.own m n sz, st.push [.buf (zeroRow n zc)]) := by
 intro st hm _ _
 unfold omake at h
 split at h
 ·rename_i hc; injection h with h; subst h
  obtain ⟨h1, h2, h3, h4⟩ := hc
  have hne : ¬ (li = 0) := by omega
  have hle : 0 ≤ li := by omega
  simp only [amakeT, hz.1, hz.2, hle, h2, h3, h4, hp, hl, hs, and_self, if_true, hne, if_false, hm]
 ·cases h
theorem x_omakeC0 {T : TypeId → TI} {zc : List V} {sz : Nat} {li ci : Int} {k1 k2 : IntKind} {id m f : Nat} {cell : Option (List V)} {e : TypeId} {bytes : Nat} {u : Unit} (hs : 0 < sz) (hl : zc.length = sz) (hp : V.pcells zc = true)
  (hz : ((T e).zok = true ∧ (T e).zero.cells = zc)) (hb : (li == 0) = true) (h : omake0 bytes ci = some u) :
  ∀ st : St, st.vars.length = m → st.fams.length = f → st.vars[id]? = cell → amakeT T st (.slice e sz bytes) (.int k1 li) (.int k2 ci) = some (.sl sz [] (.fam f 0), st.pushFam 0) := by
 intro st _ hf _
 have hb : li = 0 := by simpa using hb
 subst hb
 unfold omake0 at h
 split at h
 ·rename_i hc
  obtain ⟨h1, h2, h3⟩ := hc
  simp only [amakeT, hz.1, hz.2, h1, h2, h3, hp, hl, hs, Int.le_refl, and_self, if_true, hf]
 ·cases h
theorem omake_pos {bytes : Nat} {li ci : Int} {n : Nat} (h : omake bytes li ci = some n) : 0 < n := by
 unfold omake at h
 split at h
 ·rename_i hc; injection h with h; subst h; omega
 ·cases h
theorem Wk.bufLe {s0 st : St} {fr : AFr} (id : Nat) {cs cs' : List V} (hi : st.vars[id]? = some [.buf cs]) (hne : 0 < cs.length) (hl : cs'.length = cs.length) (hp : ∀ v ∈ cs', V.pcell v = true)
  (hle : ∀ (i : Nat) (u v : V), cs[i]? = some u → cs'[i]? = some v → VLe v u) : Wk s0 fr st fr (st.put id [.buf cs']) := by
 intro gl w0 G0 G w a g1 g2 g3 g4
 have hm := St.le_put st id [V.buf cs']
 refine ⟨g1.trans hm, G, g2, g3.forget (by simp) (fun t p h => h) ?_, g4.defers, g4.size, fun t => ⟨V.sc_mono hm _ (g4.slot t).1, (g4.slot t).2⟩⟩
 intro id' c hc
 rcases St.put_get hc with ⟨rfl, rfl⟩ | ⟨hne', hc⟩
 ·refine ⟨by simp [V.scs, V.sc], fun _ => ⟨[.buf cs], hi, ?_, ?_⟩⟩
  ·cases cs with
   | nil => simp at hne
   | cons a r => rfl
  ·intro r o ho
   cases ho with
   | cells h1 h2 h3 =>
    rename_i C el
    have h0 : 0 < C.size := Nat.lt_of_lt_of_le Nat.one_pos h1
    have := h2 0 (.buf cs) C[0] rfl (by simp [h0])
    cases this
   | buf h1 h2 h3 h4 =>
    refine .buf hp (by rw [hl]; exact h2) ?_ h4
    intro i v c hv hc
    have hi' : i < cs.length := by rw [← hl]; exact lt_of_get hv
    exact hle i _ v (List.getElem?_eq_getElem hi') hv _ _ (h3 i _ c (List.getElem?_eq_getElem hi') hc)
 ·refine ⟨V.scs_mono hm _ (g3.sc _ _ hc), ?_⟩
  intro hn
  exact ⟨c, hc, hn, fun r o ho => ho⟩
def zleB : List V → List V → Bool
 | [], [] => true
 | .int k 0 :: us, .int k' 0 :: vs => decide (k = k') && zleB us vs
 | .str [] :: us, .str [] :: vs => zleB us vs
 | .bool false :: us, .bool false :: vs => zleB us vs
 | .nilsl :: us, .sl _ [] .none :: vs => zleB us vs
 | _, _ => false
theorem zleB_le : ∀ {us vs : List V}, zleB us vs = true → us.length = vs.length ∧ ∀ (i : Nat) (u v : V), us[i]? = some u → vs[i]? = some v → VLe v u := by
 intro us vs h
 induction us, vs using zleB.induct with
 | case1 => exact ⟨rfl, fun i u v hu => by simp at hu⟩
 | case2 k us k' vs ih =>
  simp only [zleB, Bool.and_eq_true, decide_eq_true_eq] at h
  obtain ⟨h1, h2⟩ := ih h.2
  refine ⟨by simp [h1], fun i u v hu hv => ?_⟩
  cases i with
  | zero => simp at hu hv; subst hu hv; rw [h.1]; exact VLe.refl _
  | succ i => exact h2 i u v (by simpa using hu) (by simpa using hv)
 | case3 us vs ih =>
  simp only [zleB] at h
  obtain ⟨h1, h2⟩ := ih h
  refine ⟨by simp [h1], fun i u v hu hv => ?_⟩
  cases i with
  | zero => simp at hu hv; subst hu hv; exact VLe.refl _
  | succ i => exact h2 i u v (by simpa using hu) (by simpa using hv)
 | case4 us vs ih =>
  simp only [zleB] at h
  obtain ⟨h1, h2⟩ := ih h
  refine ⟨by simp [h1], fun i u v hu hv => ?_⟩
  cases i with
  | zero => simp at hu hv; subst hu hv; exact VLe.refl _
  | succ i => exact h2 i u v (by simpa using hu) (by simpa using hv)
 | case5 us sz vs ih =>
  simp only [zleB] at h
  obtain ⟨h1, h2⟩ := ih h
  refine ⟨by simp [h1], fun i u v hu hv => ?_⟩
  cases i with
  | zero => simp at hu hv; subst hu hv; exact VLe.nil _ _
  | succ i => exact h2 i u v (by simpa using hu) (by simpa using hv)
 | case6 => simp_all [zleB]
theorem zeroRow_le {zc cz : List V} (h1 : zc.length = cz.length) (h2 : ∀ (i : Nat) (u v : V), zc[i]? = some u → cz[i]? = some v → VLe v u) : ∀ (n : Nat), (zeroRow n zc).length = (zeroRow n cz).length ∧ ∀ (i : Nat) (u v : V), (zeroRow n zc)[i]? = some u → (zeroRow n cz)[i]? = some v → VLe v u
 | 0 => ⟨rfl, fun i u v hu => by simp [zeroRow] at hu⟩
 | n + 1 => by
  obtain ⟨a, b⟩ := zeroRow_le h1 h2 n
  have e : ∀ l : List V, zeroRow (n + 1) l = l ++ zeroRow n l := fun l => by simp [zeroRow, List.replicate_succ]
  rw [e, e]
  refine ⟨by simp [h1, a], fun i u v hu hv => ?_⟩
  by_cases hi : i < zc.length
  ·rw [List.getElem?_append_left hi] at hu
   rw [List.getElem?_append_left (by omega)] at hv
   exact h2 i u v hu hv
  ·rw [List.getElem?_append_right (by omega)] at hu
   rw [List.getElem?_append_right (by omega), ← h1] at hv
   exact b _ u v hu hv
theorem Wk.bufZ {s0 st : St} {fr : AFr} {α : Type} {c : α → List V} {sz : Nat} (U : UC c sz) (hs : 0 < sz) (z : α) (zc : List V) (id n : Nat) (hn : 0 < n) (hz : zleB zc (c z) = true) (h : st.vars[id]? = some [.buf (zeroRow n zc)]) :
  Wk s0 fr st fr (st.put id [.buf (fl c (List.replicate n z))]) := by
 obtain ⟨h1, h2⟩ := zleB_le hz
 obtain ⟨h3, h4⟩ := zeroRow_le h1 h2 n
 have e : fl c (List.replicate n z) = zeroRow n (c z) := by simp only [zeroRow, fl, List.map_replicate]
 have hl : (zeroRow n (c z)).length = n * sz := by rw [← e, fl_len U, List.length_replicate]
 rw [e]
 refine Wk.bufLe id h (by rw [h3, hl]; exact Nat.mul_pos hn hs) h3.symm ?_ h4
 intro v hv
 have := fl_pc U (List.replicate n z)
 rw [e] at this
 unfold V.pcells at this
 exact List.all_eq_true.1 this v hv
def lupd {α : Type} (l : List α) (j : Nat) (u : α → α) : Option (List α) := match l[j]? with | some x => some (l.set j (u x)) | none => none
theorem fl_upd {α : Type} {c : α → List V} {sz : Nat} (U : UC c sz) {u : α → α} {cv : V} {o : Nat} (ho : o < sz) (hu : ∀ x, c (u x) = (c x).take o ++ [cv] ++ (c x).drop (o + 1)) : ∀ (l : List α) (j : Nat) (x : α), l[j]? = some x →
  (fl c l).take (j * sz + o) ++ [cv] ++ (fl c l).drop (j * sz + o + 1) = fl c (l.set j (u x))
 | [], j, x, h => by simp at h
 | y :: l, 0, x, h => by
  simp only [List.getElem?_cons_zero, Option.some.injEq] at h
  subst h
  have hl := U.len y
  rw [List.set_cons_zero, fl_cons, fl_cons, hu, Nat.zero_mul, Nat.zero_add, List.take_append_of_le_length (by omega), List.drop_append_of_le_length (by omega)]
  simp
 | y :: l, j + 1, x, h => by
  rw [List.getElem?_cons_succ] at h
  have ih := fl_upd U ho hu l j x h
  have hl := U.len y
  rw [List.set_cons_succ, fl_cons, fl_cons, ← ih]
  have e : (j + 1) * sz + o = (c y).length + (j * sz + o) := by rw [hl, Nat.succ_mul]; omega
  rw [e, Nat.add_assoc (c y).length, List.take_length_add_append, List.drop_length_add_append]
  simp
theorem x_ostoreC {α : Type} {T : TypeId → TI} {c : α → List V} {sz : Nat} (U : UC c sz) {l l' : List α} {j o id m f : Nat} {u : α → α} {cv : V} {t : TypeId} (ho : o < sz) (hp : V.pcell cv = true)
  (hu : ∀ x, c (u x) = (c x).take o ++ [cv] ++ (c x).drop (o + 1)) (hok : (T t).ok = true) (h : lupd l j u = some l') :
  ∀ st : St, st.vars.length = m → st.fams.length = f → st.vars[id]? = some [.buf (fl c l)] → (match astore st (.ptr id (j * sz + o)) cv 1 with | some st' => if (T t).ok = true then some (V.junk, st') else none | none => none) = some (.junk, st.put id [.buf (fl c l')]) := by
 intro st _ _ hc
 unfold lupd at h
 split at h
 ·rename_i x hx
  injection h with h; subst h
  have hcells : cv.cells = [cv] := by
   have := V.isCell_of_pcell hp
   cases hq : cv <;> rw [hq] at this <;> first | rfl | (simp [V.isCell] at this)
  have hj : j < l.length := lt_of_get hx
  have hlen : j * sz + o + 1 ≤ (fl c l).length := by
   rw [fl_len U]
   have : (j + 1) * sz ≤ l.length * sz := Nat.mul_le_mul_right _ hj
   rw [Nat.succ_mul] at this
   omega
  have hpp : V.pcells [cv] = true := by rw [V.pcells, List.all_cons, hp]; rfl
  simp only [astore, hc, hcells, List.length_singleton, hpp, hok, and_self, if_true]
  rw [if_pos ⟨trivial, by omega, by omega, trivial⟩]
  simp only [fl_upd U ho hu l j x hx]
 ·cases h
theorem Wk.frzC {s0 st : St} {fr : AFr} {α : Type} {c : α → List V} {sz : Nat} (U : UC c sz) (hs : 0 < sz) {l l' : List α} (t id n : Nat) (hh : ofrz n l = some l') (h : (lget fr.l t, st.vars[id]?, Nat.blt t fr.n) = (.own id n sz, some [.buf (fl c l)], true)) :
  Wk s0 fr st (fr.put (some t) (.sl sz (l'.map c) .none)) (st.put id []) := by
 unfold ofrz at hh
 split at hh
 ·rename_i hc; injection hh with hh; subst hh
  injection h with h1 h; injection h with h2 h3
  have hlen : n * sz ≤ (fl c l).length := by rw [fl_len U]; exact Nat.mul_le_mul_right _ hc
  have := Wk.freeze (s0 := s0) t id n sz 0 h1 h2 (by omega) (by simpa using hlen) (Nat.le_of_ble_eq_true h3)
  have hl : (l.take n).length = n := by simp; omega
  have e : chunk sz n ((fl c l).take (n * sz)) = (l.take n).map c := by
   have e1 : (fl c l).take (n * sz) = fl c (l.take n) := by
    have : fl c l = fl c (l.take n) ++ fl c (l.drop n) := by
     unfold fl; rw [← List.flatten_append, ← List.map_append, List.take_append_drop]
    rw [this, List.take_left' (by rw [fl_len U, hl])]
   rw [e1]
   have := fl_chunk U (l.take n) []
   rw [List.append_nil, hl] at this
   exact this
  rw [e] at this
  exact this
 ·cases hh
theorem x_oapp0C {α : Type} {T : TypeId → TI} {c : α → List V} {sz : Nat} {l2 l' : List α} {id m f : Nat} {cell : Option (List V)} {e e2 : TypeId} {bytes b2 : Nat} {tok2 : Tok} (ho : appOk T e sz bytes = true) (h : oapp0 bytes l2 = some l') :
  ∀ st : St, st.vars.length = m → st.fams.length = f → st.vars[id]? = cell →
   aappendOT T st (.slice e sz bytes) (.slice e2 sz b2) (.sl sz (l2.map c) tok2) = some (.own m l'.length sz, st.push [.buf (fl c l')]) := by
 intro st hm _ _
 simp only [appOk, Bool.and_eq_true, beq_iff_eq, decide_eq_true_eq] at ho
 obtain ⟨⟨⟨h1, h2⟩, h3⟩, h4⟩ := ho
 unfold oapp0 at h
 split at h
 ·rename_i hb; injection h with h; subst h
  simp only [aappendOT, h1, h2, h3, h4, asrc, and_self, if_true, List.length_map, hb, hm, fl]
 ·cases h
theorem x_oappC {α : Type} {T : TypeId → TI} {c : α → List V} {sz : Nat} (U : UC c sz) {l l2 l' : List α} {n id m f : Nat} {e e2 : TypeId} {bytes b2 : Nat} {tok2 : Tok} (ho : appOk T e sz bytes = true) (h : oapp bytes n l l2 = some l') :
  ∀ st : St, st.vars.length = m → st.fams.length = f → st.vars[id]? = some [.buf (fl c l)] →
   aappendT T st (.slice e sz bytes) (.slice e2 sz b2) (.own id n sz) (.sl sz (l2.map c) tok2) = some (.own m (n + l2.length) sz, (st.put id []).push [.buf (fl c l')]) := by
 intro st hm _ hc
 simp only [appOk, Bool.and_eq_true, beq_iff_eq, decide_eq_true_eq] at ho
 obtain ⟨⟨⟨h1, h2⟩, h3⟩, h4⟩ := ho
 unfold oapp at h
 split at h
 ·rename_i hb; injection h with h; subst h
  obtain ⟨hb1, hb2, hb3⟩ := hb
  have hl : (fl c l).length = n * sz := by rw [fl_len U, hb1]
  have hf : fl c l ++ (l2.map c).flatten = fl c (l ++ l2) := by simp only [fl, List.map_append, List.flatten_append]
  simp only [aappendT, h1, h2, h3, asrc, and_self, if_true, List.length_map, hb2, if_false, hb3, h4, hc, hm, hl, hf]
 ·cases h
theorem x_oappEC {α : Type} {T : TypeId → TI} {c : α → List V} {sz : Nat} {l2 : List α} {n id id0 m f : Nat} {cell : Option (List V)} {e e2 : TypeId} {bytes b2 : Nat} {tok2 : Tok} (ho : appOk T e sz bytes = true) (h : List.isEmpty l2 = true) :
  ∀ st : St, st.vars.length = m → st.fams.length = f → st.vars[id0]? = cell →
   aappendT T st (.slice e sz bytes) (.slice e2 sz b2) (.own id n sz) (.sl sz (l2.map c) tok2) = some (.own id n sz, st) := by
 intro st _ _ _
 simp only [appOk, Bool.and_eq_true, beq_iff_eq, decide_eq_true_eq] at ho
 obtain ⟨⟨⟨h1, h2⟩, h3⟩, h4⟩ := ho
 have : l2 = [] := by simpa using h
 subst this
 simp only [aappendT, h1, h2, h3, asrc, and_self, if_true, List.map_nil, List.length_nil]
end Go.Abs
end
