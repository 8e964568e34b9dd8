/- The layer of closed runs: a part. No condition beyond each statement's own. -/
import Derived.Test.YtkabooclnoiclaaGreatDoorK14
set_option linter.unusedVariables false
set_option linter.unusedSimpArgs false
set_option linter.unnecessarySimpa false
section
namespace Go.K
open Go.Abs
inductive QRv where
 | tmp (g : Sl → KV)
 | cell (g : Sl → KV) (ld : KV → KH → QK → QR)
inductive QFn where
 | no
 | mk (n : Nat) (c : Code) (rs : List QRv)
section
variable {S : Type}
noncomputable def cRes (E : KE) (rs : List ResultVar) (K : List QRv → S) (F : S) : S :=
 List.rec (motive := fun _ => (List QRv → S) → S) (fun K => K []) (fun x _ ih K => match x with
  | .tmp t => Sel.rec (motive := fun _ => S) (fun g => ih fun r => K (.tmp g :: r)) (dS t)
  | .cell x t => bif' ((E.T t).ok && !(tdOther (E.T t).d)) (Sel.rec (motive := fun _ => S) (fun g => bif' (E.T t).d.agg (nfc (E.T t).sz fun n => ih fun r => K (.cell g (qloadA n) :: r)) (ih fun r => K (.cell g qload1 :: r))) (dS x)) F) rs K
end
noncomputable def qresL (rs : List QRv) (l : Sl) (h : KH) (K : List KV → QR) : QR :=
 List.rec (motive := fun _ => (List KV → QR) → QR) (fun K => K []) (fun x _ ih K => QRv.rec (motive := fun _ => QR) (fun g => (g l).hd fun v => ih fun vs => K (v :: vs)) (fun g ld => ld (g l) h fun v _ => v.hd fun v => ih fun vs => K (v :: vs)) x) rs K
noncomputable def qone (vs : List KV) (K : KV → QR) : QR := List.rec (motive := fun _ => QR) (K (.tuple [])) (fun v r _ => List.rec (motive := fun _ => QR) (K v) (fun _ _ _ => K (.tuple (v :: r))) r) vs
def kone : List KV → KV
 | [v] => v
 | vs => .tuple vs
theorem qone_eq (vs : List KV) (K : KV → QR) : qone vs K = K (kone vs) := by
 match vs with
 | [] => rfl
 | [v] => rfl
 | v :: u :: r => rfl
def qresOk (E : KE) (s : List QRv) (rs : List ResultVar) : Prop := ∀ l h K r, qresL s l h K = some r → ∃ vs, kresL E h l rs = some vs ∧ K vs = some r
theorem cRes_ok {S : Type} (E : KE) (F : S) : ∀ (rs : List ResultVar) (K : List QRv → S), cRes E rs K F = F ∨ ∃ s, qresOk E s rs ∧ cRes E rs K F = K s
 | [], K => .inr ⟨[], fun l h K r q => ⟨[], rfl, q⟩, rfl⟩
 | x :: rs, K => by
  have fin : ∀ (y : QRv), (∀ l h (K : KV → QR) r, QRv.rec (motive := fun _ => QR) (fun g => (g l).hd K) (fun g ld => ld (g l) h fun v _ => v.hd K) y = some r → ∃ v, kres1 E h l x = some v ∧ K v = some r) →
    cRes E (x :: rs) K F = cRes E rs (fun r => K (y :: r)) F → cRes E (x :: rs) K F = F ∨ ∃ s, qresOk E s (x :: rs) ∧ cRes E (x :: rs) K F = K s := by
   intro y hy e0
   rcases cRes_ok E F rs (fun r => K (y :: r)) with h | ⟨s, hs, h⟩
   ·exact .inl (e0.trans h)
   ·refine .inr ⟨y :: s, ?_, e0.trans h⟩
    intro l h K r q
    have q : QRv.rec (motive := fun _ => QR) (fun g => (g l).hd fun v => qresL s l h fun vs => K (v :: vs)) (fun g ld => ld (g l) h fun v _ => v.hd fun v => qresL s l h fun vs => K (v :: vs)) y = some r := q
    obtain ⟨v, e1, q⟩ := hy l h _ r q
    obtain ⟨vs, e2, q⟩ := hs _ _ _ _ q
    exact ⟨v :: vs, by simp only [kresL, e1, e2], q⟩
  cases x with
  | tmp t =>
   refine fin (.tmp fun l => sget l t) ?_ ?_
   ·intro l h K r q
    simp only [KV.hd_eq] at q
    exact ⟨_, rfl, q⟩
   ·have e0 : cRes E (.tmp t :: rs) K F = Sel.rec (motive := fun _ => S) (fun g => cRes E rs (fun r => K (.tmp g :: r)) F) (dS t) := rfl
    rw [e0, dS_eq]
  | cell x t =>
   have e0 : cRes E (.cell x t :: rs) K F = bif' ((E.T t).ok && !(tdOther (E.T t).d)) (Sel.rec (motive := fun _ => S) (fun g => bif' (E.T t).d.agg (nfc (E.T t).sz fun n => cRes E rs (fun r => K (.cell g (qloadA n) :: r)) F) (cRes E rs (fun r => K (.cell g qload1 :: r)) F)) (dS x)) F := rfl
   rw [bif'_eq] at e0
   by_cases hc : ((E.T t).ok && !(tdOther (E.T t).d)) = true
   ·rw [if_pos hc, dS_eq] at e0
    simp only [bif'_eq, nfc_eq] at e0
    simp only [Bool.and_eq_true, Bool.not_eq_true'] at hc
    have h1 : (E.T t).ok = true ∧ (E.T t).d ≠ .other := ⟨hc.1, tdOther_eq _ hc.2⟩
    by_cases ha : (E.T t).d.agg = true
    ·rw [if_pos ha] at e0
     refine fin (.cell (fun l => sget l x) (qloadA (E.T t).sz)) ?_ e0
     intro l h K r q
     obtain ⟨v, h', e1, e2⟩ := qloadA_ok (sget l x) (E.T t).sz r q
     obtain ⟨u, e3, e4⟩ := Option.map_eq_some_iff.1 e1
     simp only [Prod.mk.injEq] at e4
     obtain ⟨rfl, rfl⟩ := e4
     have e2 : u.hd K = some r := e2
     rw [KV.hd_eq] at e2
     exact ⟨u, by simp only [kres1, if_pos h1, ha, e3], e2⟩
    ·rw [if_neg ha] at e0
     rw [Bool.not_eq_true] at ha
     refine fin (.cell (fun l => sget l x) qload1) ?_ e0
     intro l h K r q
     obtain ⟨v, h', e1, e2⟩ := qload1_ok (sget l x) (E.T t).sz r q
     obtain ⟨u, e3, e4⟩ := Option.map_eq_some_iff.1 e1
     simp only [Prod.mk.injEq] at e4
     obtain ⟨rfl, rfl⟩ := e4
     have e2 : u.hd K = some r := e2
     rw [KV.hd_eq] at e2
     exact ⟨u, by simp only [kres1, if_pos h1, ha, e3], e2⟩
   ·rw [if_neg hc] at e0; exact .inl e0
noncomputable def cFn (X : QX) (f : FuncId) : QFn := match X.S.F f with
 | none => .no
 | some fn => match fn.body with
  | none => .no
  | some c => nfc fn.ntmps fun n => cRes X.E fn.results.toList (fun rs => .mk n c rs) .no
theorem cFn_ok {X : QX} {f : FuncId} {n : Nat} {c : Code} {rs : List QRv} (h : cFn X f = .mk n c rs) : ∃ fn, X.S.F f = some fn ∧ fn.body = some c ∧ fn.ntmps = n ∧ qresOk X.E rs fn.results.toList := by
 unfold cFn at h
 split at h
 ·cases h
 ·rename_i fn hf
  split at h
  ·cases h
  ·rename_i c' hb
   rw [nfc_eq] at h
   rcases cRes_ok X.E QFn.no fn.results.toList (fun rs => QFn.mk fn.ntmps c' rs) with e | ⟨s, hs, e⟩
   ·rw [e] at h; cases h
   ·rw [e] at h
    injection h with h1 h2 h3
    subst h1 h2 h3
    exact ⟨fn, hf, hb, rfl, hs⟩
noncomputable def qargs (vs : List KV) (i : Nat) (s : Sl) (K : Sl → QR) : QR := List.rec (motive := fun _ => Nat → Sl → QR) (fun _ s => K s) (fun v _ ih i s => Upd.rec (motive := fun _ => QR) (fun u => u (fun _ k => k v) s fun s => nfc (Nat.succ i) fun i => ih i s) (dU i)) vs i s
theorem qargs_eq (K : Sl → QR) : ∀ (vs : List KV) (i : Nat) (s : Sl), qargs vs i s K = K (kargs vs i s)
 | [], i, s => rfl
 | v :: vs, i, s => by
  have e : qargs (v :: vs) i s K = Upd.rec (motive := fun _ => QR) (fun u => u (fun _ k => k v) s fun s => nfc (Nat.succ i) fun i => qargs vs i s K) (dU i) := rfl
  rw [e, dU_eq]
  simp only [nfc_eq]
  exact qargs_eq K vs (i + 1) _
noncomputable def qput (ts : List Tmp) (vs : List KV) (n : Nat) (s : Sl) (K : Sl → QR) : QR :=
 List.rec (motive := fun _ => List KV → Sl → QR) (fun _ s => K s) (fun t _ ih vs s => List.rec (motive := fun _ => QR) (K s) (fun v vs _ => bif' (Nat.blt t n) (Upd.rec (motive := fun _ => QR) (fun u => u (fun _ k => k v) s fun s => ih vs s) (dU t)) (ih vs s)) vs) ts vs s
theorem qput_eq (n : Nat) (ds : List KD) (K : Sl → QR) : ∀ (ts : List Tmp) (vs : List KV) (s : Sl), qput ts vs n s K = K (kput ts vs ⟨n, s, ds⟩).l ∧ kput ts vs ⟨n, s, ds⟩ = ⟨n, (kput ts vs ⟨n, s, ds⟩).l, ds⟩
 | [], vs, s => ⟨rfl, rfl⟩
 | t :: ts, [], s => ⟨rfl, rfl⟩
 | t :: ts, v :: vs, s => by
  have e : qput (t :: ts) (v :: vs) n s K = bif' (Nat.blt t n) (Upd.rec (motive := fun _ => QR) (fun u => u (fun _ k => k v) s fun s => qput ts vs n s K) (dU t)) (qput ts vs n s K) := rfl
  rw [e, dU_eq, bif'_eq]
  simp only [kput]
  have hp : (KFr.mk n s ds).put (some t) v = bif Nat.blt t n then ⟨n, sput s t v, ds⟩ else ⟨n, s, ds⟩ := rfl
  rw [hp]
  cases hb : Nat.blt t n with
  | true => exact qput_eq n ds K ts vs _
  | false => exact qput_eq n ds K ts vs _
noncomputable def qleave (e : QE) (ds : List KD) (h : KH) (K : KH → QR) : QR := List.rec (motive := fun _ => KH → QR) K
 (fun d _ ih h => KD.rec (motive := fun _ => QR) (fun fn cap args => Fn.onFunc fn fun f => qapp args cap fun a => e.calld f a h ih) (fun id => hgetK h id fun o => o.onDefd (hsetK h id (.defd none) ih)) d) ds h
noncomputable def qbody (X : QX) (e : QE) (f : FuncId) (args : List KV) (h : KH) (K : QK) : QR := QFn.rec (motive := fun _ => QR) none (fun n c rs => bif' (Nat.ble args.length n) (qargs args 0 .none fun l => qcode X e true n c l [] h fun ex l ds h =>
 (fun K => Exit.rec (motive := fun _ => QR) K (fun _ => none) (fun _ => none) K (fun _ => none) none ex) (qleave e ds h fun h => qresL rs l h fun vs => qone vs fun v => K v h)) none) (cFn X f)
noncomputable def qbodyD (X : QX) (e : QE) (f : FuncId) (args : List KV) (h : KH) (K : KH → QR) : QR := QFn.rec (motive := fun _ => QR) none (fun n c rs => bif' (Nat.ble args.length n) (qargs args 0 .none fun l => qcode X e true n c l [] h fun ex l ds h =>
 (fun K => Exit.rec (motive := fun _ => QR) K (fun _ => none) (fun _ => none) K (fun _ => none) none ex) (List.rec (motive := fun _ => QR) (qresL rs l h fun _ => K h) (fun _ _ _ => none) ds)) none) (cFn X f)
noncomputable def qcall (X : QX) (e : QE) (f : FuncId) (args : List KV) (h : KH) (K : QK) : QR := Option.rec (motive := fun _ => QR) (qbody X e f args h K) (fun g => Option.rec (motive := fun _ => QR) none (fun p => Prod.rec (motive := fun _ => QR) (fun v h => K v h) p) (g args h)) (X.C f)
noncomputable def qjump (ex : Exit) (K : Option Code → QR) : QR := match kjump ex with | some j => K j | none => none
noncomputable def qround (X : QX) (e : QE) (id : Nat) (args : List KV) (h : KH) (K : QK) : QR :=
 hgetK h id fun o => o.onLoop fun L => L.hd fun L => bif' (Nat.beq args.length L.params.size) (qput L.params.toList args L.n L.l fun l => qcode X e false L.n L.assign l [] h fun ex l1 ds1 h1 =>
  Exit.onN ex (hgetK h1 id fun o => o.onLoop fun L1 => qready L1.state ((L1.turned .busy L1.pending).hd fun L1 => hsetK h1 id (.loop L1) fun h2 => qcode X e false L.n L.body l1 ds1 h2 fun ex3 l3 ds3 h3 =>
   qjump ex3 fun j => hgetK h3 id fun o => o.onLoop fun L3 => bif' j.isNone ((L3.turned .ready j).hd fun L3 => hsetK h3 id (.loop L3) fun h4 => K (.bool true) h4) ((L3.turned .done j).hd fun L3 => hsetK h3 id (.loop L3) fun h4 => K (.bool false) h4))) none) none
noncomputable def qgo (X : QX) (n : Nat) : QE := Nat.rec (motive := fun _ => QE) ⟨fun _ _ _ _ => none, fun _ _ _ _ => none, fun _ _ _ _ => none⟩ (fun _ e => ⟨qcall X e, qround X e, qbodyD X e⟩) n
section
variable {P : Program} {X : QX} {e : QE}
theorem qleave_ok (he : e.ok P X) : ∀ (ds : List KD) (h : KH) (K : KH → QR) (r : KV × KH), qleave e ds h K = some r → ∃ h', KLeave P X.S ds h h' ∧ K h' = some r
 | [], h, K, r, q => ⟨h, .nil, q⟩
 | d :: ds, h, K, r, q => by
  cases d with
  | fn fn cap args =>
   have q : Fn.onFunc fn (fun f => qapp args cap fun a => e.calld f a h fun h => qleave e ds h K) = some r := q
   cases fn <;> first | (cases q; done) | skip
   rename_i f
   simp only [Fn.onFunc, qapp_eq] at q
   obtain ⟨h1, ⟨fn, c, hf, hb⟩, k, q⟩ := he.calld _ _ _ _ _ q
   obtain ⟨h2, k2, q⟩ := qleave_ok he ds h1 K r q
   exact ⟨h2, .fn hf hb k k2, q⟩
  | collected id =>
   have q : hgetK h id (fun o => o.onDefd (hsetK h id (.defd none) fun h => qleave e ds h K)) = some r := q
   rw [hgetK_eq] at q
   cases hg : h.get id with
   | none => rw [hg] at q; cases q
   | some o =>
    rw [hg] at q
    cases o <;> first | (cases q; done) | skip
    rename_i c
    cases c with
    | none => cases q
    | some cl => cases cl with
     | cons _ _ => cases q
     | nil =>
      simp only [Option.elim_some, KO.onDefd, hsetK_eq] at q
      obtain ⟨h2, k2, q⟩ := qleave_ok he ds _ K r q
      exact ⟨h2, .collected hg k2, q⟩
theorem qend {ex : Exit} {a : QR} {r : KV × KH} (q : (fun K => Exit.rec (motive := fun _ => QR) K (fun _ => none) (fun _ => none) K (fun _ => none) none ex) a = some r) : (ex = .normal ∨ ex = .ret) ∧ a = some r := by
 cases ex <;> first | exact ⟨.inl rfl, q⟩ | exact ⟨.inr rfl, q⟩ | cases q
theorem kres_of {E : KE} {h : KH} {l : Sl} {rs : Array ResultVar} {vs : List KV} (e : kresL E h l rs.toList = some vs) : kres E h l rs = some (kone vs) := by
 unfold kres
 rw [e]
 match vs with
 | [] => rfl
 | [v] => rfl
 | v :: u :: r => rfl
theorem qbody_ok (ok : X.Ok P) (he : e.ok P X) {f : FuncId} {args : List KV} {h : KH} {K : QK} {r : KV × KH} (q : qbody X e f args h K = some r) : ∃ v h', (∃ fn c, X.S.F f = some fn ∧ fn.body = some c) ∧ KCall P f args h v h' ∧ K v h' = some r := by
 unfold qbody at q
 cases hc : cFn X f with
 | no => rw [hc] at q; cases q
 | mk n c rs =>
  rw [hc] at q
  obtain ⟨fn, hf, hb, hn, hrs⟩ := cFn_ok hc
  subst hn
  simp only [bif'_eq, Nat.ble_eq, qargs_eq] at q
  split at q
  ·rename_i hlen
   obtain ⟨ex, l', ds', h1, q, k⟩ := qcode_ok (rd := none) ok he rfl fn.ntmps c _ [] h _ r q
   obtain ⟨hex, q⟩ := qend q
   obtain ⟨h2, kl, q⟩ := qleave_ok he _ _ _ _ q
   obtain ⟨vs, hv, q⟩ := hrs _ _ _ _ q
   rw [qone_eq] at q
   exact ⟨_, h2, ⟨fn, c, hf, hb⟩, kcall_ofD ok.E ok.S (ok.S.F hf).1 hb hlen k hex kl (kres_of hv), q⟩
  ·cases q
theorem qbodyD_ok (ok : X.Ok P) (he : e.ok P X) {f : FuncId} {args : List KV} {h : KH} {K : KH → QR} {r : KV × KH} (q : qbodyD X e f args h K = some r) : ∃ h', (∃ fn c, X.S.F f = some fn ∧ fn.body = some c) ∧ KCallD P f args h h' ∧ K h' = some r := by
 unfold qbodyD at q
 cases hc : cFn X f with
 | no => rw [hc] at q; cases q
 | mk n c rs =>
  rw [hc] at q
  obtain ⟨fn, hf, hb, hn, hrs⟩ := cFn_ok hc
  subst hn
  simp only [bif'_eq, Nat.ble_eq, qargs_eq] at q
  split at q
  ·rename_i hlen
   obtain ⟨ex, l', ds', h1, q, k⟩ := qcode_ok (rd := none) ok he rfl fn.ntmps c _ [] h _ r q
   obtain ⟨hex, q⟩ := qend q
   cases ds' with
   | cons _ _ => cases q
   | nil =>
    obtain ⟨vs, hv, q⟩ := hrs _ _ _ _ q
    exact ⟨h1, ⟨fn, c, hf, hb⟩, kcalld_of ok.E (ok.S.F hf).1 hb hlen k hex rfl (kres_of hv), q⟩
  ·cases q
theorem qround_ok (ok : X.Ok P) (he : e.ok P X) {id : Nat} {args : List KV} {h : KH} {K : QK} {r : KV × KH} (q : qround X e id args h K = some r) : ∃ v h', KYield P X.E.ng id args h v h' ∧ K v h' = some r := by
 unfold qround at q
 rw [hgetK_eq] at q
 cases hL : h.get id with
 | none => rw [hL] at q; cases q
 | some o =>
  rw [hL] at q
  cases o <;> first | (cases q; done) | skip
  rename_i L
  simp only [Option.elim_some, KO.onLoop, KLoop.hd_eq, bif'_eq, Nat.beq_eq] at q
  split at q
  ·rename_i hlen
   rw [(qput_eq L.n [] _ _ _ _).1] at q
   obtain ⟨ex, l1, ds1, h1, q, kA⟩ := qcode_ok (rd := some id) ok he rfl L.n L.assign _ [] h _ r q
   rcases Exit.onN_some q with ⟨rfl, q⟩ | ⟨_, q⟩
   ·rw [hgetK_eq] at q
    cases hL1 : h1.get id with
    | none => rw [hL1] at q; cases q
    | some o =>
     rw [hL1] at q
     cases o <;> first | (cases q; done) | skip
     rename_i L1
     simp only [Option.elim_some] at q
     cases hs : L1.state <;> rw [hs] at q <;> first | (cases q; done) | skip
     simp only [qready, KLoop.turned_eq, hsetK_eq] at q
     obtain ⟨ex3, l3, ds3, h3, q, kB⟩ := qcode_ok (rd := some id) ok he rfl L.n L.body _ _ _ _ r q
     unfold qjump at q
     cases hj : kjump ex3 with
     | none => rw [hj] at q; cases q
     | some j =>
      rw [hj] at q
      simp only [hgetK_eq] at q
      cases hL3 : h3.get id with
      | none => rw [hL3] at q; cases q
      | some o =>
       rw [hL3] at q
       cases o <;> first | (cases q; done) | skip
       rename_i L3
       simp only [Option.elim_some] at q
       have key : ∃ v h', v = KV.bool j.isNone ∧ h' = h3.set id (some (.loop { L3 with state := if j.isNone then .ready else .done, pending := j })) ∧ K v h' = some r := by
        cases j with
        | none => exact ⟨_, _, rfl, rfl, q⟩
        | some c => exact ⟨_, _, rfl, rfl, q⟩
       obtain ⟨v, h', rfl, rfl, q⟩ := key
       refine ⟨_, _, ?_, q⟩
       intro rd o l cl fo ho hc hv ha
       subst ha
       have hfr : kput L.params.toList (cl.args.toList.map (keval X.E.ng l)) L.fr = ⟨L.n, (kput L.params.toList (cl.args.toList.map (keval X.E.ng l)) ⟨L.n, L.l, []⟩).l, []⟩ := (qput_eq L.n [] (fun _ => none) L.params.toList (cl.args.toList.map (keval X.E.ng l)) L.l).2
       exact KDo.yield ok.E ho hc hv hL (by simpa using hlen) (by rw [hfr]; exact kA) hL1 hs kB hj hL3
   ·cases q
  ·cases q
theorem qgo_ok (ok : X.Ok P) : ∀ n, (qgo X n).ok P X
 | 0 => ⟨fun _ _ _ _ _ q => (by cases q), fun _ _ _ _ _ q => (by cases q), fun _ _ _ _ _ q => (by cases q)⟩
 | n + 1 => by
  have he := qgo_ok ok n
  refine ⟨fun f args h K r q => ?_, fun id args h K r q => qround_ok ok he q, fun f args h K r q => qbodyD_ok ok he q⟩
  have q : qcall X (qgo X n) f args h K = some r := q
  unfold qcall at q
  cases hc : X.C f with
  | none => rw [hc] at q; exact qbody_ok ok he q
  | some g =>
   rw [hc] at q
   obtain ⟨q1, q2⟩ := ok.C hc
   simp only at q
   cases hg : g args h with
   | none => rw [hg] at q; cases q
   | some p =>
    obtain ⟨v, h'⟩ := p
    rw [hg] at q
    exact ⟨v, h', q1, q2 hg, q⟩
theorem qgo_call (ok : X.Ok P) {n : Nat} {f : FuncId} {args : List KV} {h h' : KH} {v : KV} (q : (qgo X n).call f args h (fun v h => some (v, h)) = some (v, h')) : KCall P f args h v h' := by
 obtain ⟨v1, h1, _, k, e⟩ := (qgo_ok ok n).call _ _ _ _ _ q
 simp only [Option.some.injEq, Prod.mk.injEq] at e
 obtain ⟨rfl, rfl⟩ := e
 exact k
end
end Go.K
end
