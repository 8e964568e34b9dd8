/- The layer of closed runs: a part. No condition beyond each statement's own. -/
import Derived.Test.YtkabooclnoiclaaGreatDoorK11
set_option linter.unusedVariables false
set_option linter.unusedSimpArgs false
set_option linter.unnecessarySimpa false
section
namespace Go.K
open Go.Abs
section
variable {h : KH} {K : QK}
noncomputable def qcellsAt (h : KH) (id off m : Nat) (K : List KV → QR) : QR := hgetK h id fun o => o.onCells fun _ cs => qdrop cs off fun l => qtake l m fun l => qcells l m (K l)
theorem qcellsAt_ok {id off m : Nat} {K : List KV → QR} {r : KV × KH} (e : qcellsAt h id off m K = some r) : ∃ l, krange h id off m = some l ∧ K l = some r := by
 unfold qcellsAt at e
 rw [hgetK_eq] at e
 unfold krange
 cases hg : h.get id with
 | none => rw [hg] at e; cases e
 | some o =>
  rw [hg] at e
  cases o <;> first | (cases e; done) | skip
  rename_i ro cs
  simp only [Option.elim_some, KO.onCells, qdrop_eq, qtake_eq, qcells_eq] at e
  split at e
  ·rename_i h1
   split at e
   ·rename_i h2
    exact ⟨_, by simp only; rw [if_pos ⟨h1, h2.2⟩], e⟩
   ·cases e
  ·cases e
noncomputable def qbytes (s n i : Nat) (K : List KV → QR) : QR := Nat.rec (motive := fun _ => Nat → (List KV → QR) → QR) (fun i K => K []) (fun _ ih i K => nfc (kidx s i) fun b => nfc (Nat.succ i) fun i => ih i fun l => K (.int .u8 (.ofNat b) :: l)) n i K
theorem qbytes_eq (s : Nat) : ∀ (n i : Nat) (K : List KV → QR), qbytes s n i K = K (kbytes s n i)
 | 0, i, K => rfl
 | n + 1, i, K => by
  refine (nfc_eq (kidx s i) fun b => nfc (Nat.succ i) fun i => qbytes s n i fun l => K (.int .u8 (.ofNat b) :: l)).trans ?_
  refine (nfc_eq (Nat.succ i) fun j => qbytes s n j fun l => K (.int .u8 (.ofNat (kidx s i)) :: l)).trans ?_
  exact qbytes_eq s n (i + 1) _
noncomputable def qsrcS (sz : Nat) (x : KV) (h : KH) (K : Nat → List KV → QR) : QR := x.onSl (fun id off len _ s => bif' (Nat.beq sz s) (nfc (Nat.mul len sz) fun m => qcellsAt h id off m (K len)) none) (K 0 []) (K 0 []) none
noncomputable def qsrcT (x : KV) (h : KH) (K : Nat → List KV → QR) : QR := x.onStr (fun n s => qbytes s n 0 (K n)) none
def QSrc (f : KV → KH → (Nat → List KV → QR) → QR) (d : TD) (sz : Nat) : Prop := ∀ (x : KV) (h : KH) (K : Nat → List KV → QR) (r : KV × KH), f x h K = some r → ∃ n l, ksrc h d sz x = some (n, l) ∧ K n l = some r
theorem qsrcS_ok {d : TD} {e sz by_ : Nat} (hd : d = .slice e sz by_) : QSrc (qsrcS sz) d sz := by
 subst hd
 intro x h K r q
 cases x <;> first | (cases q; done) | skip
 ·rename_i id off len c s
  simp only [qsrcS, KV.onSl, bif'_eq, nfc_eq, Nat.beq_eq] at q
  split at q
  ·rename_i hs
   obtain ⟨l, e1, e2⟩ := qcellsAt_ok q
   refine ⟨len, l, ?_, e2⟩
   have e1 : krange h id off (len * sz) = some l := e1
   simp only [ksrc]
   rw [if_pos ⟨hs, trivial⟩, e1]
  ·cases q
 ·exact ⟨0, [], rfl, q⟩
 ·exact ⟨0, [], rfl, q⟩
theorem qsrcT_ok {d : TD} (hd : d = .str) : QSrc qsrcT d 1 := by
 subst hd
 intro x h K r q
 cases x <;> first | (cases q; done) | skip
 rename_i n s
 simp only [qsrcT, KV.onStr, qbytes_eq] at q
 exact ⟨n, _, rfl, q⟩
noncomputable def qapp0 (s : KV) (h : KH) (K : QK) : QR := s.onSl (fun _ _ _ _ _ => s.hd fun s => K s h) (K .slz h) (K .nilsl h) none
noncomputable def qappI (h : KH) (id off len n c sz : Nat) (new : List KV) (K : QK) : QR := hgetK h id fun o => o.onCells fun ro cs => bif' ro none (qlen new fun m => qspl cs (Nat.add off (Nat.mul len sz)) m new fun cs => hsetK h id (.cells false cs) fun h => nfc (Nat.add len n) fun k => K (.sl id off k (some c) sz) h)
noncomputable def qappN (h : KH) (len n sz : Nat) (old new : List KV) (K : QK) : QR := qapp old new fun all => hpushK h (.cells false all) fun i h => nfc (Nat.add len n) fun k => K (.sl i 0 k none sz) h
noncomputable def qappD (h : KH) (id len n sz : Nat) (old new : List KV) (K : QK) : QR := hgetK h id fun o => o.onCells fun ro _ => bif' ro none (hdropK h id fun h => qappN h len n sz old new K)
noncomputable def qappend (sz bytes : Nat) (src : KV → KH → (Nat → List KV → QR) → QR) (s x : KV) (h : KH) (K : QK) : QR :=
 bif' (kroom h) (src x h fun n new => bif' (Nat.beq n 0) (qapp0 s h K) (s.onSl (fun id off len c sz' => bif' (Nat.beq sz' sz && Nat.ble ((len + n) * bytes) 140737488355328)
  (qcellsAt h id off (Nat.mul len sz) fun old => Option.rec (motive := fun _ => QR) (qappD h id len n sz old new K) (fun c => bif' (Nat.ble (Nat.add len n) c) (qappI h id off len n c sz new K) (qappN h len n sz old new K)) c) none)
  none (bif' (Nat.ble (n * bytes) 140737488355328) (hpushK h (.cells false new) fun i h => K (.sl i 0 n none sz) h) none) none)) none
theorem qappN_ok {len n sz : Nat} {old new : List KV} {r : KV × KH} (e : qappN h len n sz old new K = some r) : kroom h = true ∧ K (.sl h.next 0 (len + n) none sz) (h.push (.cells false (old ++ new))) = some r := by
 unfold qappN at e
 rw [qapp_eq, hpushK_eq] at e
 split at e
 ·rename_i hr; rw [nfc_eq] at e; exact ⟨hr, e⟩
 ·cases e
def kapp2 (h : KH) (sz bytes n : Nat) (new : List KV) (s : KV) : Option (KV × KH) :=
   if n = 0 then (match s with | .sl .. | .nilsl | .slz => some (s, h) | _ => none) else
   match s with
   | .nilsl => if n * bytes ≤ 140737488355328 then some (.sl h.next 0 n none sz, h.push (.cells false new)) else none
   | .sl id off len c sz' =>
    if sz' = sz ∧ (len + n) * bytes ≤ 140737488355328 then
     match krange h id off (len * sz) with
     | none => none
     | some old =>
      match c with
      | some c =>
       if len + n ≤ c then (match h.get id with
        | some (.cells false cs) => if off + len * sz + new.length ≤ cs.length then some (.sl id off (len + n) (some c) sz, h.set id (some (.cells false (cs.take (off + len * sz) ++ new ++ cs.drop (off + len * sz + new.length))))) else none
        | _ => none)
       else some (.sl h.next 0 (len + n) none sz, h.push (.cells false (old ++ new)))
      | none => match h.get id with
       | some (.cells false cs) => some (.sl h.next 0 (len + n) none sz, (h.set id none).push (.cells false (old ++ new)))
       | _ => none
    else none
   | _ => none
theorem qapp2_ok {sz bytes n : Nat} {new : List KV} {s : KV} {r : KV × KH}
  (e : bif' (Nat.beq n 0) (qapp0 s h K) (s.onSl (fun id off len c sz' => bif' (Nat.beq sz' sz && Nat.ble ((len + n) * bytes) 140737488355328)
  (qcellsAt h id off (Nat.mul len sz) fun old => Option.rec (motive := fun _ => QR) (qappD h id len n sz old new K) (fun c => bif' (Nat.ble (Nat.add len n) c) (qappI h id off len n c sz new K) (qappN h len n sz old new K)) c) none)
  none (bif' (Nat.ble (n * bytes) 140737488355328) (hpushK h (.cells false new) fun i h => K (.sl i 0 n none sz) h) none) none) = some r) : ∃ v h', kapp2 h sz bytes n new s = some (v, h') ∧ K v h' = some r := by
 rw [bif'_eq] at e
 by_cases hn : n = 0
 ·rw [if_pos (by rw [Nat.beq_eq]; exact hn)] at e
  unfold kapp2
  rw [if_pos hn]
  cases s <;> first | (cases e; done) | skip
  ·exact ⟨_, _, rfl, by simpa [qapp0, KV.onSl, KV.hd] using e⟩
  ·exact ⟨_, _, rfl, e⟩
  ·exact ⟨_, _, rfl, e⟩
 ·rw [if_neg (by rw [Nat.beq_eq]; exact hn)] at e
  unfold kapp2
  rw [if_neg hn]
  cases s <;> first | (cases e; done) | skip
  ·rename_i id off len c sz'
   simp only [KV.onSl, bif'_eq, Bool.and_eq_true, Nat.beq_eq, Nat.ble_eq] at e
   by_cases hc : sz' = sz ∧ (len + n) * bytes ≤ 140737488355328
   ·rw [if_pos hc] at e
    simp only
    rw [if_pos hc]
    obtain ⟨old, e1, e⟩ := qcellsAt_ok e
    have e1 : krange h id off (len * sz) = some old := e1
    rw [e1]
    cases c with
    | none =>
     simp only [qappD, hgetK_eq] at e
     cases hg : h.get id with
     | none => rw [hg] at e; cases e
     | some o =>
      rw [hg] at e
      cases o <;> first | (cases e; done) | skip
      rename_i ro cs
      cases ro with
      | true => cases e
      | false =>
       simp only [Option.elim_some, KO.onCells, bif'_eq, Bool.false_eq_true, if_false, hdropK_eq] at e
       obtain ⟨_, e⟩ := qappN_ok e
       exact ⟨_, _, rfl, e⟩
    | some c =>
     simp only [Nat.ble_eq] at e
     have hle : Nat.add len n = len + n := rfl
     rw [hle] at e
     simp only
     by_cases h2 : len + n ≤ c
     ·rw [if_pos h2] at e ⊢
      simp only [qappI, hgetK_eq] at e
      cases hg : h.get id with
      | none => rw [hg] at e; cases e
      | some o =>
       rw [hg] at e
       cases o <;> first | (cases e; done) | skip
       rename_i ro cs
       cases ro with
       | true => cases e
       | false =>
        simp only [Option.elim_some, KO.onCells, bif'_eq, Bool.false_eq_true, if_false, qlen_eq, qspl_eq, hsetK_eq, nfc_eq] at e
        have ha : Nat.add off (Nat.mul len sz) = off + len * sz := rfl
        rw [ha] at e
        split at e
        ·rename_i h3
         simp only
         rw [if_pos h3]
         exact ⟨_, _, rfl, e⟩
        ·cases e
     ·rw [if_neg h2] at e ⊢
      obtain ⟨_, e⟩ := qappN_ok e
      exact ⟨_, _, rfl, e⟩
   ·rw [if_neg hc] at e; cases e
  ·simp only [KV.onSl, bif'_eq, Nat.ble_eq, hpushK_eq] at e
   simp only
   split at e
   ·rename_i h1
    split at e
    ·rw [if_pos h1]; exact ⟨_, _, rfl, e⟩
    ·cases e
   ·cases e
theorem qappend_ok {T : TypeId → TI} {d dx : TD} {el sz bytes : Nat} {src : KV → KH → (Nat → List KV → QR) → QR} (hd : d = .slice el sz bytes) (hs : QSrc src dx sz) (hz : (T el).zok = true) (hl : (T el).zero.cells.length = sz) (hb : 0 < bytes) (s x : KV) :
  QOk (qappend sz bytes src s x h K) (kappend h T d dx s x) K := by
 subst hd
 intro r e
 unfold qappend at e
 rw [bif'_eq] at e
 split at e
 ·rename_i hr
  obtain ⟨n, new, e1, e⟩ := hs _ _ _ _ e
  obtain ⟨v, h', e2, e3⟩ := qapp2_ok e
  refine ⟨v, h', ?_, e3⟩
  simp only [kappend, hz, hl, hb, hr, and_self, if_true, e1]
  exact e2
 ·cases e
end
theorem QOk.mono {e : QR} {s s' : Option (KV × KH)} {K : QK} (k : QOk e s K) (h : ∀ p, s = some p → s' = some p) : QOk e s' K := fun r q => by
 obtain ⟨v, hh, e1, e2⟩ := k r q
 exact ⟨v, hh, h _ e1, e2⟩
section
variable {h : KH} {K : QK} {E : KE}
def ksidx2 (E : KE) (t : TypeId) (h : KH) (x i : KV) : Option (KV × KH) := match i with | .int _ i => (kidx2 E t x i).map fun v => (v, h) | _ => none
theorem qidxT2_ok {t : TypeId} (hd : (E.T t).d = .str) (x i : KV) : QOk (qidxT x i h K) (ksidx2 E t h x i) K := by
 refine (qidxT_ok hd x i).mono ?_
 intro p e
 cases i <;> first | (cases e; done) | skip
 rename_i k i
 simp only [ksindex] at e
 simp only [ksidx2, kidx2]
 cases hk : kindex (E.T t).d x i with
 | none => rw [hk] at e; cases e
 | some v => rw [hk] at e; exact e
noncomputable def qelt1 (n sz : Nat) (x i : KV) (h : KH) (K : QK) : QR := i.onInt (fun _ i => qnat i fun i => x.onAgg (fun cs => bif' (Nat.blt i n) (qnth cs (Nat.mul i sz) fun v => v.hd fun v => K v h) none) none) none
noncomputable def qeltA (n sz : Nat) (x i : KV) (h : KH) (K : QK) : QR := i.onInt (fun _ i => qnat i fun i => x.onAgg (fun cs => bif' (Nat.blt i n) (qdrop cs (Nat.mul i sz) fun l => qtake l sz fun l => K (.agg l) h) none) none) none
theorem qelt_ok {t e : TypeId} {n sz : Nat} (hd : (E.T t).d = .arr n sz) (ha : E.A t = some e) (ho : (E.T e).ok = true ∧ (E.T e).d ≠ .other) (x i : KV) :
  QOk (bif' (E.T e).d.agg (qeltA n (E.T e).sz x i h K) (qelt1 n (E.T e).sz x i h K)) (ksidx2 E t h x i) K := by
 have none1 : ∀ x i, kindex (.arr n sz) x i = none := fun x i => by cases x <;> rfl
 rw [bif'_eq]
 split
 ·rename_i hagg
  cases i <;> try exact .none _ _
  rename_i k i
  show QOk (qnat i _) _ _
  rw [qnat_eq]
  by_cases hi : 0 ≤ i
  ·rw [if_pos hi]
   cases x <;> try exact .none _ _
   rename_i cs
   simp only [KV.onAgg, bif'_eq, qdrop_eq, qtake_eq, blt_dec, decide_eq_true_eq, ksidx2, kidx2, hd, none1, kindexA, ha]
   by_cases hl : i.toNat < n
   ·have hcond : 0 ≤ i ∧ i < (n : Int) ∧ (E.T e).ok = true ∧ (E.T e).d ≠ .other := ⟨hi, by omega, ho.1, ho.2⟩
    rw [if_pos hl]
    simp only [if_pos hcond, krd, hagg, if_true]
    have : Nat.mul i.toNat (E.T e).sz = i.toNat * (E.T e).sz := rfl
    rw [this]
    split
    ·exact .one rfl
    ·exact .none _ _
   ·rw [if_neg hl]; exact .none _ _
  ·rw [if_neg hi]; exact .none _ _
 ·rename_i hagg
  rw [Bool.not_eq_true] at hagg
  cases i <;> try exact .none _ _
  rename_i k i
  show QOk (qnat i _) _ _
  rw [qnat_eq]
  by_cases hi : 0 ≤ i
  ·rw [if_pos hi]
   cases x <;> try exact .none _ _
   rename_i cs
   simp only [KV.onAgg, bif'_eq, qnth_eq, blt_dec, decide_eq_true_eq, ksidx2, kidx2, hd, none1, kindexA, ha]
   by_cases hl : i.toNat < n
   ·have hcond : 0 ≤ i ∧ i < (n : Int) ∧ (E.T e).ok = true ∧ (E.T e).d ≠ .other := ⟨hi, by omega, ho.1, ho.2⟩
    rw [if_pos hl]
    simp only [if_pos hcond, krd, hagg, if_false, Bool.false_eq_true]
    have : Nat.mul i.toNat (E.T e).sz = i.toNat * (E.T e).sz := rfl
    rw [this]
    cases cs[i.toNat * (E.T e).sz]? with
    | none => exact .none _ _
    | some v => simp only [Option.elim_some, KV.hd_eq]; exact .one rfl
   ·rw [if_neg hl]; exact .none _ _
  ·rw [if_neg hi]; exact .none _ _
noncomputable def qcvtb (x : KV) (h : KH) (K : QK) : QR := x.onStr (fun n b => qbytes b n 0 fun l => hpushK h (.cells false l) fun i h => K (.sl i 0 n none 1) h) none
theorem qcvtb_ok {T : TypeId → TI} {s d : TypeId} {e by_ : Nat} (hs : (T s).ok = true) (hss : (T s).d = .str) (hd : (T d).d = .slice e 1 by_) (he : (T e).d = .int .u8) (x : KV) : QOk (qcvtb x h K) (kconv h T s d x) K := by
 cases x <;> try exact .none _ _
 rename_i n b
 simp only [qcvtb, KV.onStr, qbytes_eq, hpushK_eq]
 split
 ·rename_i hr
  refine .one ?_
  simp only [kconv, hs, if_true, hd]
  rw [if_pos ⟨he, hss, hr⟩]
 ·exact .none _ _
noncomputable def qstrOf (l : List KV) (K : Nat → QR) : QR := List.rec (motive := fun _ => (Nat → QR) → QR) (fun K => K 0) (fun v _ ih K => v.onInt (fun k n => IntKind.rec (motive := fun _ => QR → QR) (fun _ => none) (fun _ => none) (fun _ => none) (fun _ => none) (fun q => q) (fun _ => none) (fun _ => none) (fun _ => none) k
 (qnat n fun n => bif' (Nat.blt n 256) (ih fun s => nfc (Nat.add n (Nat.mul 256 s)) K) none)) none) l K
theorem qstrOf_ok : ∀ (l : List KV) (K : Nat → QR) (r : KV × KH), qstrOf l K = some r → ∃ b, kstrOf l = some b ∧ K b = some r
 | [], K, r, q => ⟨0, rfl, q⟩
 | v :: l, K, r, q => by
  cases v <;> first | (cases q; done) | skip
  rename_i k n
  cases k <;> first | (cases q; done) | skip
  have q : (qnat n fun n => bif' (Nat.blt n 256) (qstrOf l fun s => nfc (Nat.add n (Nat.mul 256 s)) K) none) = some r := q
  rw [qnat_eq] at q
  split at q
  ·rename_i hn
   rw [bif'_eq] at q
   split at q
   ·rename_i hb
    obtain ⟨b, e1, e2⟩ := qstrOf_ok l _ r q
    rw [nfc_eq] at e2
    refine ⟨_, ?_, e2⟩
    simp only [kstrOf, e1, hb, cond_true]
   ·cases q
  ·cases q
noncomputable def qcvts (x : KV) (h : KH) (K : QK) : QR := x.onSl (fun id off len c s => bif' (Nat.beq s 1) (qcellsAt h id off len fun l => qstrOf l fun b => K (.str len b) h) none) (K (.str 0 0) h) (K (.str 0 0) h) none
theorem qcvts_ok {T : TypeId → TI} {s d : TypeId} {e sz by_ : Nat} (hs : (T s).ok = true) (hss : (T s).d = .slice e sz by_) (hd : (T d).d = .str) (he : (T e).d = .int .u8) (x : KV) : QOk (qcvts x h K) (kconv h T s d x) K := by
 intro r q
 cases x <;> first | (cases q; done) | skip
 ·rename_i id off len c sz'
  simp only [qcvts, KV.onSl, bif'_eq, Nat.beq_eq] at q
  split at q
  ·rename_i h1
   subst h1
   obtain ⟨l, e1, q⟩ := qcellsAt_ok q
   obtain ⟨b, e2, q⟩ := qstrOf_ok _ _ _ q
   refine ⟨_, _, ?_, q⟩
   simp only [kconv, hs, if_true, hss, hd, he, e1, e2]
  ·cases q
 ·exact ⟨_, _, by simp only [kconv, hs, if_true, hss, hd, he], q⟩
 ·exact ⟨_, _, by simp only [kconv, hs, if_true, hss, hd, he], q⟩
noncomputable def qcopyI (h : KH) (id off n : Nat) (new : List KV) (K : QK) : QR := hgetK h id fun o => o.onCells fun ro cs => bif' ro none (qlen new fun m => qspl cs off m new fun cs => hsetK h id (.cells false cs) fun h => K (.int .i64 (.ofNat n)) h)
noncomputable def qcopy (sz : Nat) (src : KV → KH → (Nat → List KV → QR) → QR) (x y : KV) (h : KH) (K : QK) : QR :=
 x.onSl (fun id off len c sz' => bif' (Nat.beq sz sz') (src y h fun n new => bif' (Nat.ble n len) (qcopyI h id off n new K) none) none) none none none
theorem qcopy_ok {d dx : TD} {el sz bytes : Nat} {src : KV → KH → (Nat → List KV → QR) → QR} (hd : d = .slice el sz bytes) (hs : QSrc src dx sz) (x y : KV) : QOk (qcopy sz src x y h K) (kcopy h d dx x y) K := by
 subst hd
 intro r q
 cases x <;> first | (cases q; done) | skip
 rename_i id off len c sz'
 simp only [qcopy, KV.onSl, bif'_eq, Nat.beq_eq] at q
 split at q
 ·rename_i h1
  obtain ⟨n, new, e1, q⟩ := hs _ _ _ _ q
  simp only [Nat.ble_eq] at q
  split at q
  ·rename_i h2
   simp only [qcopyI, hgetK_eq] at q
   cases hg : h.get id with
   | none => rw [hg] at q; cases q
   | some o =>
    rw [hg] at q
    cases o <;> first | (cases q; done) | skip
    rename_i ro cs
    cases ro with
    | true => cases q
    | false =>
     simp only [Option.elim_some, KO.onCells, bif'_eq, Bool.false_eq_true, if_false, qlen_eq, qspl_eq, hsetK_eq] at q
     split at q
     ·rename_i h3
      refine ⟨_, _, ?_, q⟩
      simp only [kcopy]
      rw [if_pos h1, e1]
      simp only
      rw [if_pos h2, hg]
      simp only
      rw [if_pos h3]
      rfl
     ·cases q
  ·cases q
 ·cases q
noncomputable def mfc (l : List (KV × KV × Nat)) (K : List (KV × KV × Nat) → QR) : QR := List.rec (motive := fun _ => (List (KV × KV × Nat) → QR) → QR) (fun K => K []) (fun x _ ih K => x.1.fc fun a => x.2.1.fc fun b => nfc x.2.2 fun c => ih fun r => K ((a, b, c) :: r)) l K
theorem mfc_eq : ∀ (l : List (KV × KV × Nat)) (K : List (KV × KV × Nat) → QR), mfc l K = K l
 | [], K => rfl
 | (a, b, c) :: r, K => by
  have e : mfc ((a, b, c) :: r) K = a.fc fun a => b.fc fun b => nfc c fun c => mfc r fun r => K ((a, b, c) :: r) := rfl
  rw [e]; simp only [KV.fc_eq, nfc_eq, mfc_eq r]
noncomputable def lnfc (l : List Nat) (K : List Nat → QR) : QR := List.rec (motive := fun _ => (List Nat → QR) → QR) (fun K => K []) (fun x _ ih K => nfc x fun a => ih fun r => K (a :: r)) l K
theorem lnfc_eq : ∀ (l : List Nat) (K : List Nat → QR), lnfc l K = K l
 | [], K => rfl
 | a :: r, K => by
  have e : lnfc (a :: r) K = nfc a fun a => lnfc r fun r => K (a :: r) := rfl
  rw [e]; simp only [nfc_eq, lnfc_eq r]
noncomputable def KO.fc (o : KO) (K : KO → QR) : QR := KO.rec (motive := fun _ => (KO → QR) → QR) (fun ro cs K => bfc ro fun ro => KV.fcs cs fun cs => K (.cells ro cs)) (fun es c K => mfc es fun es => nfc c fun c => K (.map es c)) (fun n s p K => nfc n fun n => nfc s fun s => nfc p fun p => K (.sit n s p))
 (fun m s l x K => onfc m fun m => nfc s fun s => lnfc l fun l => nfc x fun x => K (.mit m s l x)) (fun l K => K (.loop l)) (fun c K => K (.defd c)) o K
theorem KO.fc_eq (o : KO) (K : KO → QR) : o.fc K = K o := by
 cases o with
 | cells ro cs => exact (bfc_eq ro fun ro => KV.fcs cs fun cs => K (.cells ro cs)).trans (KV.fcs_eq cs fun cs => K (.cells ro cs))
 | map es c => exact (mfc_eq es fun es => nfc c fun c => K (.map es c)).trans (nfc_eq c fun c => K (.map es c))
 | sit n s p => exact (nfc_eq n fun n => nfc s fun s => nfc p fun p => K (.sit n s p)).trans ((nfc_eq s fun s => nfc p fun p => K (.sit n s p)).trans (nfc_eq p fun p => K (.sit n s p)))
 | mit m s l x => exact (onfc_eq m fun m => nfc s fun s => lnfc l fun l => nfc x fun x => K (.mit m s l x)).trans ((nfc_eq s fun s => lnfc l fun l => nfc x fun x => K (.mit m s l x)).trans ((lnfc_eq l fun l => nfc x fun x => K (.mit m s l x)).trans (nfc_eq x fun x => K (.mit m s l x))))
 | loop l => rfl
 | defd c => rfl
noncomputable def qturn (s : Option (KV × Nat × KO)) (h : KH) (K : QK) : QR := Option.rec (motive := fun _ => QR) none (fun p => p.1.fc fun v => nfc p.2.1 fun id => p.2.2.fc fun o => hsetK h id o fun h => K v h) s
theorem qturn_ok {s : Option (KV × Nat × KO)} {t : Option (KV × KH)} (e : t = s.map fun p => (p.1, h.set p.2.1 (some p.2.2))) : QOk (qturn s h K) t K := by
 subst e
 cases s with
 | none => exact .none _ _
 | some p =>
  obtain ⟨v, id, o⟩ := p
  simp only [qturn, KV.fc_eq, nfc_eq, KO.fc_eq, hsetK_eq]
  exact .one rfl
def kmapUpdate3 (h : KH) (T : TypeId → TI) (d : TD) (m k v : KV) : Option (KV × Nat × KO) :=
 match d, kmapOf h m with
 | .map kt _, some (id, es, clk) =>
  if kkeyOk (T kt).d k = true then
  match kfind (T kt).d k es 0 with
  | some (some (i, _)) => some (.tuple [], id, .map (es.modify i fun e => (k, v, e.2.2)) clk)
  | some none => some (.tuple [], id, .map (es ++ [(k, v, clk)]) (clk + 1))
  | none => none
  else none
 | _, _ => none
theorem kmapUpdate3_eq (T : TypeId → TI) (d : TD) (m k v : KV) : ((kmapUpdate h T d m k v).map fun h => ((.tuple [] : KV), h)) = (kmapUpdate3 h T d m k v).map fun p => (p.1, h.set p.2.1 (some p.2.2)) := by
 unfold kmapUpdate kmapUpdate3
 cases hm : kmapOf h m with
 | none => cases d <;> rfl
 | some p =>
  obtain ⟨id, es, clk⟩ := p
  cases d <;> first | rfl | skip
  rename_i kt et
  simp only
  by_cases hk : kkeyOk (T kt).d k = true
  ·rw [if_pos hk, if_pos hk]
   cases kfind (T kt).d k es 0 with
   | none => rfl
   | some q => cases q with
    | none => rfl
    | some ij => rfl
  ·rw [if_neg hk, if_neg hk]; rfl
def kmapEntry3 (h : KH) (T : TypeId → TI) (Z : TypeId → KV) (d : TD) (m k : KV) : Option (KV × Nat × KO) :=
 match d, kmapOf h m with
 | .map kt et, some (id, es, clk) =>
  if kkeyOk (T kt).d k = true ∧ (T et).zok = true then
  match kfind (T kt).d k es 0 with
  | some (some (i, v)) => some (.tuple [v, .int .i64 (match es[i]? with | some e => e.2.2 | none => 0)], id, .map (es.modify i fun e => (k, e.2.1, e.2.2)) clk)
  | some none => some (.tuple [Z et, .int .i64 clk], id, .map (es ++ [(k, Z et, clk)]) (clk + 1))
  | none => none
  else none
 | _, _ => none
theorem kmapEntry3_eq (T : TypeId → TI) (Z : TypeId → KV) (d : TD) (m k : KV) : kmapEntry h T Z d m k = (kmapEntry3 h T Z d m k).map fun p => (p.1, h.set p.2.1 (some p.2.2)) := by
 unfold kmapEntry kmapEntry3
 cases hm : kmapOf h m with
 | none => cases d <;> rfl
 | some p =>
  obtain ⟨id, es, clk⟩ := p
  cases d <;> first | rfl | skip
  rename_i kt et
  simp only
  by_cases hk : kkeyOk (T kt).d k = true ∧ (T et).zok = true
  ·rw [if_pos hk, if_pos hk]
   cases kfind (T kt).d k es 0 with
   | none => rfl
   | some q => cases q with
    | none => rfl
    | some ij => rfl
  ·rw [if_neg hk, if_neg hk]; rfl
def kentryStore3 (h : KH) (m s v : KV) : Option (KV × Nat × KO) :=
 match kmapOf h m, s with
 | some (id, es, clk), .int _ b => if 0 ≤ b then (match kbornAt b.toNat es 0 with
  | some i => some (.tuple [], id, .map (es.modify i fun e => (e.1, v, e.2.2)) clk)
  | none => none) else none
 | _, _ => none
theorem kentryStore3_eq (m s v : KV) : ((kentryStore h m s v).map fun h => ((.tuple [] : KV), h)) = (kentryStore3 h m s v).map fun p => (p.1, h.set p.2.1 (some p.2.2)) := by
 unfold kentryStore kentryStore3
 cases hm : kmapOf h m with
 | none => rfl
 | some p =>
  obtain ⟨id, es, clk⟩ := p
  cases s <;> first | rfl | skip
  rename_i k b
  simp only
  by_cases hk : 0 ≤ b
  ·rw [if_pos hk, if_pos hk]
   cases kbornAt b.toNat es 0 <;> rfl
  ·rw [if_neg hk, if_neg hk]; rfl
def kclear3 (h : KH) (m : KV) : Option (KV × Nat × KO) := match kmapOf h m with
 | some (id, _, clk) => some (.tuple [], id, .map [] clk)
 | none => none
theorem kclear3_ok (m : KV) : QOk (qturn (kclear3 h m) h K) ((kclear h m).map fun h => (.tuple [], h)) K := by
 refine (qturn_ok (t := (kclear3 h m).map fun p => (p.1, h.set p.2.1 (some p.2.2))) rfl).mono ?_
 intro p e
 cases m with
 | map i => rw [← e]; unfold kclear kclear3; simp only; cases kmapOf h (.map i) <;> rfl
 | nilmap => cases e
 | _ => cases e
def knext3 (h : KH) (it : KV) (isString : Bool) : Option (KV × Nat × KO) :=
 match it with
 | .ptr id 0 => match h.get id, isString with
  | some (.sit n s pos), true =>
   if pos < n then
    (if kidx s pos < 128 then some (.tuple [.bool true, .int .i64 pos, .int .i32 (kidx s pos)], id, .sit n s (pos + 1)) else none)
   else none
  | some (.mit (some m) since seen last), false => match h.get m with
   | some (.map es clk) =>
    if seen.isEmpty = false ∧ es.isEmpty = false ∧ es.all (fun e => Nat.ble last e.2.2) = true then none else
    match kleft seen es with
    | [(k, v, b)] => if b < since then some (.tuple [.bool true, k, v], id, .mit (some m) since (seen ++ [b]) clk) else none
    | _ => none
   | _ => none
  | _, _ => none
 | _ => none
noncomputable def qnext (s : Bool) (it : KV) (h : KH) (K : QK) : QR := Option.rec (motive := fun _ => QR) (Option.rec (motive := fun _ => QR) none (fun p => p.1.fc fun v => bif' (kveq v kover) (K v h) none) (knext h it s)) (fun _ => qturn (knext3 h it s) h K) (knext3 h it s)
theorem knext3_eq {it : KV} {s : Bool} {p : KV × Nat × KO} (e : knext3 h it s = some p) : knext h it s = some (p.1, h.set p.2.1 (some p.2.2)) := by
 unfold knext3 at e
 unfold knext
 split at e
 ·rename_i id
  simp only
  split at e
  ·rename_i n st pos hg
   rw [hg]
   simp only
   split at e
   ·rename_i hp
    rw [if_pos hp]
    split at e
    ·rename_i h2
     rw [if_pos h2]
     injection e with e; subst e; rfl
    ·cases e
   ·cases e
  ·rename_i m since seen last hg
   rw [hg]
   simp only
   split at e
   ·rename_i es clk hm
    rw [hm]
    simp only
    split at e
    ·cases e
    ·rename_i hc
     rw [if_neg hc]
     split at e
     ·rename_i k v b hl
      rw [hl]
      simp only
      split at e
      ·rename_i hb
       rw [if_pos hb]
       injection e with e; subst e; rfl
      ·cases e
     ·cases e
   ·cases e
  ·cases e
 ·cases e
theorem knext_over {it : KV} {s : Bool} {h' : KH} (e : knext h it s = some (kover, h')) : h' = h := by
 unfold knext at e
 have ne : ∀ {a : KV} {l : List KV}, KV.tuple (.bool true :: a :: l) ≠ kover := fun h => by simp [kover] at h
 split at e
 ·split at e
  ·split at e
   ·split at e
    ·simp only [Option.some.injEq, Prod.mk.injEq] at e; exact absurd e.1 ne
    ·cases e
   ·simp only [Option.some.injEq, Prod.mk.injEq] at e; exact e.2.symm
  ·simp only [Option.some.injEq, Prod.mk.injEq] at e; exact e.2.symm
  ·split at e
   ·split at e
    ·cases e
    ·split at e
     ·simp only [Option.some.injEq, Prod.mk.injEq] at e; exact e.2.symm
     ·split at e
      ·simp only [Option.some.injEq, Prod.mk.injEq] at e; exact absurd e.1 ne
      ·cases e
     ·cases e
   ·cases e
  ·cases e
 ·cases e
theorem qnext_ok (s : Bool) (it : KV) : QOk (qnext s it h K) (knext h it s) K := by
 unfold qnext
 cases h3 : knext3 h it s with
 | some p => exact qturn_ok (by rw [knext3_eq h3]; rfl)
 | none =>
  intro r q
  cases hn : knext h it s with
  | none => rw [hn] at q; cases q
  | some p =>
   obtain ⟨v, h'⟩ := p
   rw [hn] at q
   simp only [KV.fc_eq, bif'_eq] at q
   split at q
   ·rename_i hv
    have := kveq_sound _ _ hv
    subst this
    have := knext_over hn
    subst this
    exact ⟨_, _, rfl, q⟩
   ·cases q
noncomputable def qnewmap (h : KH) (K : QK) : QR := hpushK h (.map [] 0) fun i h => K (.map i) h
noncomputable def qnewmapR (x : KV) (h : KH) (K : QK) : QR := x.onInt (fun _ _ => hpushK h (.map [] 0) fun i h => K (.map i) h) none
def kiterO (h : KH) (d : TD) (x : KV) : Option KO := match d, x with
 | .str, .str n s => some (.sit n s 0)
 | .map _ _, .nilmap => some (.mit none 0 [] 0)
 | .map _ _, m => match kmapOf h m with
  | some (id, _, clk) => some (.mit (some id) clk [] clk)
  | none => none
 | _, _ => none
noncomputable def qiter (d : TD) (x : KV) (h : KH) (K : QK) : QR := Option.rec (motive := fun _ => QR) none (fun o => o.fc fun o => hpushK h o fun i h => K (.ptr i 0) h) (kiterO h d x)
theorem qiter_ok (d : TD) (x : KV) : QOk (qiter d x h K) (kiter h d x) K := by
 have fin : ∀ (o : KO) (s : Option (KV × KH)), (kroom h = true → s = some (.ptr h.next 0, h.push o)) → QOk (o.fc fun o => hpushK h o fun i h => K (.ptr i 0) h) s K := by
  intro o s hs
  rw [KO.fc_eq, hpushK_eq]
  split
  ·rename_i hr; exact .one (hs hr)
  ·exact .none _ _
 unfold qiter
 cases d <;> first | exact .none _ _ | skip
 ·cases x <;> first | exact .none _ _ | skip
  exact fin _ _ fun hr => by simp only [kiter, hr, if_true]
 ·cases x <;> first | exact .none _ _ | skip
  ·rename_i i
   simp only [kiterO]
   cases hm : kmapOf h (.map i) with
   | none => exact .none _ _
   | some p => exact fin _ _ fun hr => by simp only [kiter, hr, if_true, hm]
  ·exact fin _ _ fun hr => by simp only [kiter, hr, if_true]
noncomputable def qzeros (z : List KV) (n : Nat) (K : List KV → QR) : QR := Nat.rec (motive := fun _ => List KV → (List KV → QR) → QR) (fun _ K => K []) (fun _ ih z K => ih z fun r => qapp z r K) n z K
theorem qzeros_eq (z : List KV) : ∀ (n : Nat) (K : List KV → QR), qzeros z n K = K (kzeros n z)
 | 0, K => rfl
 | n + 1, K => by
  have e : qzeros z (n + 1) K = qzeros z n fun r => qapp z r K := rfl
  rw [e, qzeros_eq z n, qapp_eq]
  simp only [kzeros, List.replicate_succ, List.flatten_cons]
noncomputable def qmake (sz bytes : Nat) (z : List KV) (l c : KV) (h : KH) (K : QK) : QR := l.onInt (fun _ l => qnat l fun l => c.onInt (fun _ c => qnat c fun c => bif' (Nat.ble l c && Nat.ble (Nat.mul bytes c) 140737488355328 && Nat.ble c 140737488355328) (qzeros z c fun cs => hpushK h (.cells false cs) fun i h => K (.sl i 0 l (some c) sz) h) none) none) none
theorem qmake_ok {T : TypeId → TI} {Z : TypeId → KV} {d : TD} {e sz bytes : Nat} {z : List KV} (hd : d = .slice e sz bytes) (hz : (T e).zok = true) (hl : (Z e).cells.length = sz) (hzz : (Z e).cells = z) (l c : KV) : QOk (qmake sz bytes z l c h K) (kmake h T Z d l c) K := by
 subst hd hzz
 intro r q
 cases l <;> first | (cases q; done) | skip
 rename_i k1 l
 have q : (qnat l fun l => c.onInt (fun _ c => qnat c fun c => bif' (Nat.ble l c && Nat.ble (Nat.mul bytes c) 140737488355328 && Nat.ble c 140737488355328) (qzeros (Z e).cells c fun cs => hpushK h (.cells false cs) fun i h => K (.sl i 0 l (some c) sz) h) none) none) = some r := q
 rw [qnat_eq] at q
 split at q
 ·rename_i h0
  cases c <;> first | (cases q; done) | skip
  rename_i k2 c _
  simp only [KV.onInt, qnat_eq, bif'_eq, qzeros_eq, hpushK_eq, Bool.and_eq_true, Nat.ble_eq] at q
  split at q
  ·rename_i h1
   split at q
   ·rename_i h2
    split at q
    ·rename_i hr
     refine ⟨_, _, ?_, q⟩
     simp only [kmake]
     have hm : Nat.mul bytes c.toNat = bytes * c.toNat := rfl
     rw [hm] at h2
     have hb : (bytes : Int) * c ≤ 140737488355328 := by
      have e1 : (c.toNat : Int) = c := by omega
      rw [← e1, ← Int.natCast_mul]
      have := h2.1.2
      omega
     rw [if_pos ⟨h0, by omega, hb, by omega, hz, hl, hr⟩]
    ·cases q
   ·cases q
  ·cases q
 ·cases q
end
noncomputable def tdOther (d : TD) : Bool := match d with | .other => true | _ => false
theorem tdOther_eq (d : TD) : tdOther d = false → d ≠ .other := by intro h e; subst e; cases h
section
variable {S : Type} {E : KE}
noncomputable def cLoad (E : KE) (t : TypeId) (a : Operand) (K : QOp → S) (F : S) : S :=
 bif' ((E.T t).ok && !(tdOther (E.T t).d)) (bif' (E.T t).d.agg (nfc (E.T t).sz fun n => cO E.ng a fun a => K (.f1 (qloadA n) a)) (cO E.ng a fun a => K (.f1 qload1 a))) F
theorem cLoad_ok (t : TypeId) (a : Operand) (K : QOp → S) (F : S) : cLoad E t a K F = F ∨ ∃ q : QOp, q.okE E (.load t a) ∧ cLoad E t a K F = K q := by
 unfold cLoad
 simp only [bif'_eq, nfc_eq, Bool.and_eq_true, Bool.not_eq_true']
 by_cases hc : (E.T t).ok = true ∧ (tdOther (E.T t).d) = false
 ·rw [if_pos hc]
  have h1 : (E.T t).ok = true ∧ (E.T t).d ≠ .other := ⟨hc.1, tdOther_eq _ hc.2⟩
  by_cases ha : (E.T t).d.agg = true
  ·rw [if_pos ha]
   exact .inr (okE1 (f := fun h v => (kload h v (E.T t).sz true).map fun v => (v, h)) (fun v h K => qloadA_ok v _) (fun l h => by simp only [kexec, if_pos h1, ha]) K)
  ·rw [if_neg ha]
   rw [Bool.not_eq_true] at ha
   exact .inr (okE1 (f := fun h v => (kload h v (E.T t).sz false).map fun v => (v, h)) (fun v h K => qload1_ok v _) (fun l h => by simp only [kexec, if_pos h1, ha]) K)
 ·rw [if_neg hc]; exact .inl rfl
noncomputable def cFieldAddr (E : KE) (s : TypeId) (x : Operand) (f : Nat) (K : QOp → S) (F : S) : S :=
 match (E.T s).d with
 | .struct fs => match fs[f]? with
  | some (k, n) => bif' (Nat.beq n 0) F (nfc k fun k => cO E.ng x fun x => K (.f1 (qaddo k) x))
  | none => F
 | _ => F
theorem cFieldAddr_ok (s : TypeId) (x : Operand) (f : Nat) (K : QOp → S) (F : S) : cFieldAddr E s x f K F = F ∨ ∃ q : QOp, q.okE E (.fieldAddr s x f) ∧ cFieldAddr E s x f K F = K q := by
 unfold cFieldAddr
 split
 ·rename_i fs hd
  split
  ·rename_i k n hf
   rw [bif'_eq, nfc_eq]
   split
   ·exact .inl rfl
   ·rename_i hn
    rw [Nat.beq_eq] at hn
    exact .inr (okE1 (f := fun h v => (kaddrField (E.T s).d v f).map fun v => (v, h)) (fun v h K => qaddo_ok hd hf hn v) (fun l h => rfl) K)
  ·exact .inl rfl
 ·exact .inl rfl
noncomputable def cField (E : KE) (s : TypeId) (x : Operand) (f : Nat) (K : QOp → S) (F : S) : S :=
 match (E.T s).d with
 | .struct fs => match fs[f]?, (E.T s).fts[f]? with
  | some (off, _), some ft => bif' ((E.T ft).ok && !(tdOther (E.T ft).d)) (nfc off fun off => bif' (E.T ft).d.agg (nfc (E.T ft).sz fun n => cO E.ng x fun x => K (.f1 (qfldA off n) x)) (cO E.ng x fun x => K (.f1 (qfld1 off) x))) F
  | _, _ => F
 | _ => F
theorem cField_ok (s : TypeId) (x : Operand) (f : Nat) (K : QOp → S) (F : S) : cField E s x f K F = F ∨ ∃ q : QOp, q.okE E (.field s x f) ∧ cField E s x f K F = K q := by
 unfold cField
 split
 ·rename_i fs hd
  split
  ·rename_i off n ft hf ht
   simp only [bif'_eq, nfc_eq, Bool.and_eq_true, Bool.not_eq_true']
   by_cases hc : (E.T ft).ok = true ∧ (tdOther (E.T ft).d) = false
   ·rw [if_pos hc]
    have h1 : (E.T ft).ok = true ∧ (E.T ft).d ≠ .other := ⟨hc.1, tdOther_eq _ hc.2⟩
    by_cases ha : (E.T ft).d.agg = true
    ·rw [if_pos ha]
     exact .inr (okE1 (f := fun h v => (kfield (E.T s) E.T v f).map fun v => (v, h)) (fun v h K => qfldA_ok hd hf ht h1 ha v) (fun l h => rfl) K)
    ·rw [if_neg ha]
     rw [Bool.not_eq_true] at ha
     exact .inr (okE1 (f := fun h v => (kfield (E.T s) E.T v f).map fun v => (v, h)) (fun v h K => qfld1_ok hd hf ht h1 ha v) (fun l h => rfl) K)
   ·rw [if_neg hc]; exact .inl rfl
  ·exact .inl rfl
 ·exact .inl rfl
noncomputable def cIndexAddr (E : KE) (t : TypeId) (x i : Operand) (K : QOp → S) (F : S) : S :=
 match (E.T t).d with
 | .slice _ sz _ => nfc sz fun sz => cO E.ng x fun x => cO E.ng i fun i => K (.f2 (qidxS sz) x i)
 | .arr n sz => nfc n fun n => nfc sz fun sz => cO E.ng x fun x => cO E.ng i fun i => K (.f2 (qidxA n sz) x i)
 | _ => F
theorem cIndexAddr_ok (t : TypeId) (x i : Operand) (K : QOp → S) (F : S) : cIndexAddr E t x i K F = F ∨ ∃ q : QOp, q.okE E (.indexAddr t x i) ∧ cIndexAddr E t x i K F = K q := by
 unfold cIndexAddr
 split
 ·rename_i hd
  rw [nfc_eq]
  exact .inr (okE2 (f := fun h x i => ksidx (E.T t).d h x i) (fun v u h K => qidxS_ok hd v u) (fun l h => rfl) K)
 ·rename_i hd
  simp only [nfc_eq]
  exact .inr (okE2 (f := fun h x i => ksidx (E.T t).d h x i) (fun v u h K => qidxA_ok hd v u) (fun l h => rfl) K)
 ·exact .inl rfl
noncomputable def qarL (g : Int → Int → Int) (x y : KV) (h : KH) (K : QK) : QR := qii x y fun k a b => K (.int k (k.wrap (g a b))) h
noncomputable def qremL (x y : KV) (h : KH) (K : QK) : QR := qii x y fun k a b => bif' (ibeq b 0) none (K (.int k (Int.tmod a b)) h)
theorem qremL_ok {xt : TypeId} (ho : (E.T xt).d ≠ .other) {h : KH} {K : QK} (x y : KV) : QOk (qremL x y h K) (kbin' E h .rem xt x y) K := by
 unfold qremL
 cases x <;> try exact .none _ _
 cases y <;> try exact .none _ _
 rename_i k a k' b
 show QOk (bif' _ _ _) _ _
 rw [bif'_eq]
 by_cases hk : k = k'
 ·subst hk
  rw [if_pos ((ikeq_eq _ _).2 rfl)]
  show QOk (bif' (ibeq b 0) none _) _ _
  rw [bif'_eq]
  split
  ·exact .none _ _
  ·rename_i hb
   rw [ibeq_eq] at hb
   have hb : b ≠ 0 := by simpa using hb
   exact .one (kbin'_int ho (by simp) (by simp) (show kint k .rem a b = _ by simp only [kint, aint, if_neg hb, Option.bind_some]; rfl))
 ·rw [if_neg (fun x => hk ((ikeq_eq _ _).1 x))]; exact .none _ _
noncomputable def cBin (E : KE) (op : BinOp) (t : TypeId) (x y : Operand) (K : QOp → S) (F : S) : S :=
 bif' (tdOther (E.T t).d) F (match (E.T t).d, op with
  | .int _, .rem => bif' (Nat.beq E.ng 0) (cO E.ng x fun x => cO E.ng y fun y => K (.f2 qremL x y)) F
  | .int _, .add => bif' (Nat.beq E.ng 0) (cO E.ng x fun x => cO E.ng y fun y => K (.f2 (qarL (· + ·)) x y)) <| cO E.ng x fun x => cO E.ng y fun y => K (.f2 (qar qiadd) x y)
  | .int _, .sub => cO E.ng x fun x => cO E.ng y fun y => K (.f2 (qar qisub) x y)
  | .int _, .mul => cO E.ng x fun x => cO E.ng y fun y => K (.f2 (qar qimul) x y)
  | .int _, .eql => cO E.ng x fun x => cO E.ng y fun y => K (.f2 (qcmp ibeq) x y)
  | .int _, .neq => cO E.ng x fun x => cO E.ng y fun y => K (.f2 (qcmp fun a b => !(ibeq a b)) x y)
  | .int _, .lss => cO E.ng x fun x => cO E.ng y fun y => K (.f2 (qcmp iblt) x y)
  | .int _, .leq => cO E.ng x fun x => cO E.ng y fun y => K (.f2 (qcmp fun a b => !(iblt b a)) x y)
  | .int _, .gtr => cO E.ng x fun x => cO E.ng y fun y => K (.f2 (qcmp fun a b => iblt b a) x y)
  | .int _, .geq => cO E.ng x fun x => cO E.ng y fun y => K (.f2 (qcmp fun a b => !(iblt a b)) x y)
  | .str, .add => cO E.ng x fun x => cO E.ng y fun y => K (.f2 qcat x y)
  | .str, .eql => cO E.ng x fun x => cO E.ng y fun y => K (.f2 qseq x y)
  | .str, .neq => cO E.ng x fun x => cO E.ng y fun y => K (.f2 qsne x y)
  | _, _ => F)
theorem cBin_ok (op : BinOp) (t : TypeId) (x y : Operand) (yt : TypeId) (K : QOp → S) (F : S) : cBin E op t x y K F = F ∨ ∃ q : QOp, q.okE E (.binOp op t x y yt) ∧ cBin E op t x y K F = K q := by
 unfold cBin
 rw [bif'_eq]
 by_cases ho : (tdOther (E.T t).d) = true
 ·rw [if_pos ho]; exact .inl rfl
 ·rw [if_neg ho]
  have ho := tdOther_eq _ (Bool.not_eq_true _ ▸ ho)
  split
  ·rw [bif'_eq]
   split
   ·exact .inr (okE2 (f := fun h x y => kbin' E h .rem t x y) (fun v u h K => qremL_ok ho v u) (fun l h => rfl) K)
   ·exact .inl rfl
  ·rw [bif'_eq]
   split
   ·exact .inr (okE2 (f := fun h x y => kbin' E h .add t x y) (fun v u h K => qii_ok ho (by simp) (by simp) (fun k a b => ⟨_, rfl, rfl⟩) v u) (fun l h => rfl) K)
   exact .inr (okE2 (f := fun h x y => kbin' E h .add t x y) (fun v u h K => qar_ok ho (by simp) (by simp) (g := (· + ·)) qiadd_eq (fun _ _ _ => rfl) v u) (fun l h => rfl) K)
  ·exact .inr (okE2 (f := fun h x y => kbin' E h .sub t x y) (fun v u h K => qar_ok ho (by simp) (by simp) (g := (· - ·)) qisub_eq (fun _ _ _ => rfl) v u) (fun l h => rfl) K)
  ·exact .inr (okE2 (f := fun h x y => kbin' E h .mul t x y) (fun v u h K => qar_ok ho (by simp) (by simp) (g := (· * ·)) qimul_eq (fun _ _ _ => rfl) v u) (fun l h => rfl) K)
  ·exact .inr (okE2 (f := fun h x y => kbin' E h .eql t x y) (fun v u h K => qcmp_ok ho (by simp) (by simp) (fun _ a b => by rw [ibeq_eq]; rfl) v u) (fun l h => rfl) K)
  ·exact .inr (okE2 (f := fun h x y => kbin' E h .neq t x y) (fun v u h K => qcmp_ok ho (by simp) (by simp) (fun _ a b => by rw [ibeq_eq]; rfl) v u) (fun l h => rfl) K)
  ·exact .inr (okE2 (f := fun h x y => kbin' E h .lss t x y) (fun v u h K => qcmp_ok ho (by simp) (by simp) (fun _ a b => by rw [iblt_eq]; rfl) v u) (fun l h => rfl) K)
  ·exact .inr (okE2 (f := fun h x y => kbin' E h .leq t x y) (fun v u h K => qcmp_ok ho (by simp) (by simp) (fun _ a b => by
    rw [iblt_eq]; show some (KV.bool (decide (a ≤ b))) = _; congr 2; rw [Bool.eq_iff_iff]; simp) v u) (fun l h => rfl) K)
  ·exact .inr (okE2 (f := fun h x y => kbin' E h .gtr t x y) (fun v u h K => qcmp_ok ho (by simp) (by simp) (fun _ a b => by rw [iblt_eq]; rfl) v u) (fun l h => rfl) K)
  ·exact .inr (okE2 (f := fun h x y => kbin' E h .geq t x y) (fun v u h K => qcmp_ok ho (by simp) (by simp) (fun _ a b => by
    rw [iblt_eq]; show some (KV.bool (decide (a ≥ b))) = _; congr 2; rw [Bool.eq_iff_iff]; simp) v u) (fun l h => rfl) K)
  ·exact .inr (okE2 (f := fun h x y => kbin' E h .add t x y) (fun v u h K => qcat_ok ho v u) (fun l h => rfl) K)
  ·exact .inr (okE2 (f := fun h x y => kbin' E h .eql t x y) (fun v u h K => qseq_ok ho v u) (fun l h => rfl) K)
  ·exact .inr (okE2 (f := fun h x y => kbin' E h .neq t x y) (fun v u h K => qsne_ok ho v u) (fun l h => rfl) K)
  ·exact .inl rfl
noncomputable def cLen (E : KE) (t : TypeId) (x : Operand) (K : QOp → S) (F : S) : S := match (E.T t).d with
 | .str => cO E.ng x fun x => K (.f1 qlenT x)
 | .slice .. => cO E.ng x fun x => K (.f1 qlenS x)
 | _ => F
theorem cLen_ok (t : TypeId) (x : Operand) (K : QOp → S) (F : S) : cLen E t x K F = F ∨ ∃ q : QOp, q.okE E (.call ⟨.builtin .len, #[x], #[t]⟩) ∧ cLen E t x K F = K q := by
 unfold cLen
 split
 ·rename_i hd
  exact .inr (okE1 (f := fun h v => (klen (E.T t).d v).map fun v => (v, h)) (fun v h K => qlenT_ok hd v) (fun l h => by simp only [kexec, kbuiltin, List.map_cons, List.map_nil, hd]) K)
 ·rename_i hd
  exact .inr (okE1 (f := fun h v => (klen (E.T t).d v).map fun v => (v, h)) (fun v h K => qlenS_ok hd v) (fun l h => by simp only [kexec, kbuiltin, List.map_cons, List.map_nil, hd]) K)
 ·exact .inl rfl
noncomputable def cAppend (E : KE) (t tx : TypeId) (s x : Operand) (K : QOp → S) (F : S) : S := match (E.T t).d with
 | .slice e sz bytes => bif' ((E.T e).zok && Nat.beq (E.T e).zero.cells.length sz && Nat.blt 0 bytes) (nfc sz fun sz => nfc bytes fun bytes => match (E.T tx).d with
  | .slice _ sz1 _ => bif' (Nat.beq sz1 sz) (cO E.ng s fun s => cO E.ng x fun x => K (.f2 (qappend sz bytes (qsrcS sz)) s x)) F
  | .str => bif' (Nat.beq sz 1) (cO E.ng s fun s => cO E.ng x fun x => K (.f2 (qappend sz bytes qsrcT) s x)) F
  | _ => F) F
 | _ => F
theorem cAppend_ok (t tx : TypeId) (s x : Operand) (K : QOp → S) (F : S) : cAppend E t tx s x K F = F ∨ ∃ q : QOp, q.okE E (.call ⟨.builtin .append, #[s, x], #[t, tx]⟩) ∧ cAppend E t tx s x K F = K q := by
 unfold cAppend
 split
 ·rename_i e sz bytes hd
  simp only [bif'_eq, nfc_eq, Bool.and_eq_true, Nat.beq_eq, blt_dec, decide_eq_true_eq]
  by_cases hc : ((E.T e).zok = true ∧ (E.T e).zero.cells.length = sz) ∧ 0 < bytes
  ·rw [if_pos hc]
   split
   ·rename_i e1 sz1 b1 hd1
    by_cases h1 : sz1 = sz
    ·rw [if_pos h1]
     subst h1
     exact .inr (okE2 (f := fun h s x => kappend h E.T (E.T t).d (E.T tx).d s x) (fun v u h K => qappend_ok hd (qsrcS_ok hd1) hc.1.1 hc.1.2 hc.2 v u) (fun l h => rfl) K)
    ·rw [if_neg h1]; exact .inl rfl
   ·rename_i hd1
    by_cases h1 : sz = 1
    ·rw [if_pos h1]
     subst h1
     exact .inr (okE2 (f := fun h s x => kappend h E.T (E.T t).d (E.T tx).d s x) (fun v u h K => qappend_ok hd (qsrcT_ok hd1) hc.1.1 hc.1.2 hc.2 v u) (fun l h => rfl) K)
    ·rw [if_neg h1]; exact .inl rfl
   ·exact .inl rfl
  ·rw [if_neg hc]; exact .inl rfl
 ·exact .inl rfl
noncomputable def cOld (E : KE) (o : Op) (K : QOp → S) (F : S) : S := bif' (kpure E.T o) (K (.old fun l h => kexec E l h o)) F
theorem cOld_ok (o : Op) (K : QOp → S) (F : S) : cOld E o K F = F ∨ ∃ q : QOp, q.okE E o ∧ cOld E o K F = K q := by
 unfold cOld
 rw [bif'_eq]
 split
 ·rename_i hp
  exact .inr ⟨.old fun l h => kexec E l h o, fun e l h K => qold_ok fun v h' e => kpure_same hp e, rfl⟩
 ·exact .inl rfl
noncomputable def cOp (E : KE) (o : Op) (K : QOp → S) (F : S) : S := match o with
 | .move x => cO E.ng x fun x => K (.f1 qmove x)
 | .assign x => cO E.ng x fun x => K (.f1 qmove x)
 | .pick c a b => cO E.ng c fun c => cO E.ng a fun a => cO E.ng b fun b => K (.f3 qpick c a b)
 | .alloc e => bif' ((E.T e).zok && KV.isCells (E.Z e).cells) (KV.fcs (E.Z e).cells fun cs => K (.f0 (qalloc cs))) F
 | .box _ x => cO E.ng x fun x => K (.f1 qbox x)
 | .build t ps => cBuild E t ps.toList K F
 | .buildSlice t len ps => cBuildS E t len ps.toList K F
 | .load t a => cLoad E t a K F
 | .store t a x => bif' (E.T t).ok (nfc (E.T t).sz fun n => cO E.ng a fun a => cO E.ng x fun x => K (.f2 (qstore n) a x)) F
 | .fieldAddr s x f => cFieldAddr E s x f K F
 | .field s x f => cField E s x f K F
 | .indexAddr t x i => cIndexAddr E t x i K F
 | .index t x i => match (E.T t).d, E.A t with
  | .str, _ => cO E.ng x fun x => cO E.ng i fun i => K (.f2 qidxT x i)
  | .arr n _, some e => bif' ((E.T e).ok && !(tdOther (E.T e).d)) (nfc n fun n => nfc (E.T e).sz fun sz => cO E.ng x fun x => cO E.ng i fun i => K (.f2 (fun x i h K => bif' (E.T e).d.agg (qeltA n sz x i h K) (qelt1 n sz x i h K)) x i)) F
  | _, _ => cOld E (.index t x i) K F
 | .binOp op t x y yt => cBin E op t x y K (cOld E (.binOp op t x y yt) K F)
 | .unOp op t x => match op with | .not => cO E.ng x fun x => K (.f1 qnot x) | op => cOld E (.unOp op t x) K F
 | .convert s d x => match (E.T d).d, (E.T s).d with
  | .int k, _ => bif' (E.T s).ok (cO E.ng x fun x => K (.f1 (qcvi k) x)) F
  | .slice e 1 _, .str => bif' (E.T s).ok (match (E.T e).d with | .int .u8 => cO E.ng x fun x => K (.f1 qcvtb x) | _ => F) F
  | .str, .slice e _ _ => bif' (E.T s).ok (match (E.T e).d with | .int .u8 => cO E.ng x fun x => K (.f1 qcvts x) | _ => F) F
  | _, _ => cOld E (.convert s d x) K F
 | .makeMap t r => match r, (E.T t).d with
  | none, _ => K (.f0 qnewmap)
  | some x, .map _ _ => cO E.ng x fun x => K (.f1 qnewmapR x)
  | _, _ => F
 | .makeSlice t n c => match (E.T t).d with
  | .slice e sz bytes => bif' ((E.T e).zok && Nat.beq (E.Z e).cells.length sz) (nfc sz fun sz => nfc bytes fun bytes => KV.fcs (E.Z e).cells fun z => cO E.ng n fun n => cO E.ng c fun c => K (.f2 (qmake sz bytes z) n c)) F
  | _ => F
 | .mapUpdate t m k x => cO E.ng m fun m => cO E.ng k fun k => cO E.ng x fun x => K (.f3 (fun m k x h K => qturn (kmapUpdate3 h E.T (E.T t).d m k x) h K) m k x)
 | .insert t m k x => cO E.ng m fun m => cO E.ng k fun k => cO E.ng x fun x => K (.f3 (fun m k x h K => qturn (kmapUpdate3 h E.T (E.T t).d m k x) h K) m k x)
 | .mapEntry t m k => cO E.ng m fun m => cO E.ng k fun k => K (.f2 (fun m k h K => qturn (kmapEntry3 h E.T E.Z (E.T t).d m k) h K) m k)
 | .entryStore t m s x => cO E.ng m fun m => cO E.ng s fun s => cO E.ng x fun x => K (.f3 (fun m s x h K => qturn (kentryStore3 h m s x) h K) m s x)
 | .range t x => cO E.ng x fun x => K (.f1 (qiter (E.T t).d) x)
 | .next it s => cO E.ng it fun it => K (.f1 (qnext s) it)
 | .extract x i => nfc i fun i => cO E.ng x fun x => K (.f1 (qext i) x)
 | .call ⟨.builtin .len, ⟨[x]⟩, ⟨[t]⟩⟩ => cLen E t x K (cOld E (.call ⟨.builtin .len, #[x], #[t]⟩) K F)
 | .call ⟨.builtin .append, ⟨[s, x]⟩, ⟨[t, tx]⟩⟩ => cAppend E t tx s x K F
 | .call ⟨.builtin .copy, ⟨[s, x]⟩, ⟨[t, tx]⟩⟩ => match (E.T t).d, (E.T tx).d with
  | .slice _ sz _, .slice _ sz1 _ => bif' (Nat.beq sz1 sz) (nfc sz fun sz => cO E.ng s fun s => cO E.ng x fun x => K (.f2 (qcopy sz (qsrcS sz)) s x)) F
  | .slice _ 1 _, .str => cO E.ng s fun s => cO E.ng x fun x => K (.f2 (qcopy 1 qsrcT) s x)
  | _, _ => F
 | .call ⟨.builtin .clear, ⟨[x]⟩, ⟨[t]⟩⟩ => match (E.T t).d with
  | .map _ _ => cO E.ng x fun x => K (.f1 (fun m h K => Option.rec (motive := fun _ => QR) none (fun _ => qturn (kclear3 h m) h K) (kclear3 h m)) x)
  | _ => F
 | o => cOld E o K F
theorem cOp_ok (o : Op) (K : QOp → S) (F : S) : cOp E o K F = F ∨ ∃ q : QOp, q.okE E o ∧ cOp E o K F = K q := by
 unfold cOp
 split
 ·exact .inr (okE1 (f := fun h v => some (v, h)) (fun v h K => qmove_ok v) (fun l h => rfl) K)
 ·exact .inr (okE1 (f := fun h v => some (v, h)) (fun v h K => qmove_ok v) (fun l h => rfl) K)
 ·exact .inr (okE3 (f := fun h c a b => kpick' h c a b) (fun v u w h K => qpick_ok v u w) (fun l h => rfl) K)
 ·rename_i e
  simp only [bif'_eq, KV.fcs_eq, Bool.and_eq_true]
  split
  ·rename_i hc
   exact .inr ⟨.f0 (qalloc (E.Z e).cells), fun en l h K => qalloc_ok hc.1 rfl hc.2, rfl⟩
  ·exact .inl rfl
 ·exact .inr (okE1 (f := fun h x => if KV.isCells x.cells = true ∧ kroom h = true then some (.ptr h.next 0, h.push (.cells false x.cells)) else none) (fun v h K => qbox_ok v) (fun l h => rfl) K)
 ·exact cBuild_ok _ _ _ _
 ·exact cBuildS_ok _ _ _ _ _
 ·exact cLoad_ok _ _ _ _
 ·rename_i t a x
  simp only [bif'_eq, nfc_eq]
  split
  ·rename_i hc
   exact .inr (okE2 (f := fun h p v => (kstore h p v (E.T t).sz).map fun h => (.tuple [], h)) (fun v u h K => qstore_ok _ v u) (fun l h => by simp only [kexec, if_pos hc]) K)
  ·exact .inl rfl
 ·exact cFieldAddr_ok _ _ _ _ _
 ·exact cField_ok _ _ _ _ _
 ·exact cIndexAddr_ok _ _ _ _ _
 ·rename_i t x i
  split
  ·rename_i hd
   exact .inr (okE2 (f := fun h x i => ksidx2 E t h x i) (fun v u h K => qidxT2_ok hd v u) (fun l h => rfl) K)
  ·rename_i n sz e hd ha
   simp only [bif'_eq (b := _ && _), nfc_eq, Bool.and_eq_true, Bool.not_eq_true']
   split
   ·rename_i hc
    exact .inr (okE2 (f := fun h x i => ksidx2 E t h x i) (fun v u h K => qelt_ok hd ha ⟨hc.1, tdOther_eq _ hc.2⟩ v u) (fun l h => rfl) K)
   ·exact .inl rfl
  ·exact cOld_ok _ _ _
 ·rename_i op t x y yt
  rcases cBin_ok (E := E) op t x y yt K (cOld E (.binOp op t x y yt) K F) with h | h
  ·rw [h]; exact cOld_ok _ _ _
  ·exact .inr h
 ·split
  ·exact .inr (okE1 (f := fun h v => (kun .not v).map fun v => (v, h)) (fun v h K => qnot_ok v) (fun l h => rfl) K)
  ·exact cOld_ok _ _ _
 ·rename_i s d x
  split
  ·rename_i k hd
   rw [bif'_eq]
   split
   ·rename_i hs
    exact .inr (okE1 (f := fun h v => kconv h E.T s d v) (fun v h K => qcvi_ok hs hd v) (fun l h => rfl) K)
   ·exact .inl rfl
  ·rename_i e b hd hss
   rw [bif'_eq]
   split
   ·rename_i hs
    split
    ·rename_i he
     exact .inr (okE1 (f := fun h v => kconv h E.T s d v) (fun v h K => qcvtb_ok hs hss hd he v) (fun l h => rfl) K)
    ·exact .inl rfl
   ·exact .inl rfl
  ·rename_i e sz b hd hss
   rw [bif'_eq]
   split
   ·rename_i hs
    split
    ·rename_i he
     exact .inr (okE1 (f := fun h v => kconv h E.T s d v) (fun v h K => qcvts_ok hs hss hd he v) (fun l h => rfl) K)
    ·exact .inl rfl
   ·exact .inl rfl
  ·exact cOld_ok _ _ _
 ·rename_i t r
  split
  ·refine .inr ⟨.f0 qnewmap, fun en l h K => ?_, rfl⟩
   intro r q
   have q : hpushK h (.map [] 0) (fun i h => K (.map i) h) = some r := q
   rw [hpushK_eq] at q
   split at q
   ·rename_i hr; exact ⟨_, _, by simp only [kexec, hr, if_true], q⟩
   ·cases q
  ·rename_i x kt et hd
   refine .inr (okE1 (f := fun h v => if kroom h = true then (match v with | .int _ _ => some (.map h.next, h.push (.map [] 0)) | _ => none) else none) ?_ (fun l h => by simp only [kexec, hd]; split <;> first | (split <;> simp_all) | rfl) K)
   intro v h K r q
   cases v <;> first | (cases q; done) | skip
   simp only [qnewmapR, KV.onInt, hpushK_eq] at q
   split at q
   ·rename_i hr; exact ⟨_, _, by simp only [hr, if_true], q⟩
   ·cases q
  ·exact .inl rfl
 ·rename_i t n c
  split
  ·rename_i e sz bytes hd
   simp only [bif'_eq, nfc_eq, KV.fcs_eq, Bool.and_eq_true, Nat.beq_eq]
   split
   ·rename_i hc
    exact .inr (okE2 (f := fun h l c => kmake h E.T E.Z (E.T t).d l c) (fun v u h K => qmake_ok hd hc.1 hc.2 rfl v u) (fun l h => rfl) K)
   ·exact .inl rfl
  ·exact .inl rfl
 ·rename_i t m k x
  exact .inr (okE3 (f := fun h m k x => (kmapUpdate h E.T (E.T t).d m k x).map fun h => (.tuple [], h)) (fun v u w h K => qturn_ok (kmapUpdate3_eq _ _ _ _ _)) (fun l h => rfl) K)
 ·rename_i t m k x
  exact .inr (okE3 (f := fun h m k x => (kmapUpdate h E.T (E.T t).d m k x).map fun h => (.tuple [], h)) (fun v u w h K => qturn_ok (kmapUpdate3_eq _ _ _ _ _)) (fun l h => rfl) K)
 ·rename_i t m k
  exact .inr (okE2 (f := fun h m k => kmapEntry h E.T E.Z (E.T t).d m k) (fun v u h K => qturn_ok (kmapEntry3_eq _ _ _ _ _)) (fun l h => rfl) K)
 ·rename_i t m s x
  exact .inr (okE3 (f := fun h m s x => (kentryStore h m s x).map fun h => (.tuple [], h)) (fun v u w h K => qturn_ok (kentryStore3_eq _ _ _)) (fun l h => rfl) K)
 ·rename_i t x
  exact .inr (okE1 (f := fun h x => kiter h (E.T t).d x) (fun v h K => qiter_ok _ v) (fun l h => rfl) K)
 ·rename_i it s
  exact .inr (okE1 (f := fun h x => knext h x s) (fun v h K => qnext_ok s v) (fun l h => rfl) K)
 ·rw [nfc_eq]
  exact .inr (okE1 (f := fun h v => (kextract v _).map fun v => (v, h)) (fun v h K => qext_ok _ v) (fun l h => rfl) K)
 ·rename_i x t
  rcases cLen_ok (E := E) t x K (cOld E (.call ⟨.builtin .len, #[x], #[t]⟩) K F) with h | h
  ·rw [h]; exact cOld_ok _ _ _
  ·exact .inr h
 ·exact cAppend_ok _ _ _ _ _ _
 ·rename_i s x t tx
  split
  ·rename_i e1 sz b1 e2 sz1 b2 hd hdx
   simp only [bif'_eq, nfc_eq, Nat.beq_eq]
   split
   ·rename_i hs
    subst hs
    exact .inr (okE2 (f := fun h x y => kcopy h (E.T t).d (E.T tx).d x y) (fun v u h K => qcopy_ok hd (qsrcS_ok hdx) v u) (fun l h => rfl) K)
   ·exact .inl rfl
  ·rename_i hd hdx
   exact .inr (okE2 (f := fun h x y => kcopy h (E.T t).d (E.T tx).d x y) (fun v u h K => qcopy_ok hd (qsrcT_ok hdx) v u) (fun l h => rfl) K)
  ·exact .inl rfl
 ·rename_i x t
  split
  ·rename_i kt et hd
   refine .inr (okE1 (f := fun h m => (kclear h m).map fun h => (.tuple [], h)) ?_ (fun l h => by simp only [kexec, kbuiltin, List.map_cons, List.map_nil, hd]) K)
   intro v h K r q
   cases hk : kclear3 h v with
   | none => rw [hk] at q; cases q
   | some p =>
    rw [hk] at q
    exact kclear3_ok v r (by rw [hk]; exact q)
  ·exact .inl rfl
 ·exact cOld_ok _ _ _
end
end Go.K
end
