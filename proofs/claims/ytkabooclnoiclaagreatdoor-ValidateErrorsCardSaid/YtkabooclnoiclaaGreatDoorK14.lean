/- The layer of closed runs: a part. No condition beyond each statement's own. -/
import Derived.Test.YtkabooclnoiclaaGreatDoorK13
set_option linter.unusedVariables false
set_option linter.unusedSimpArgs false
set_option linter.unnecessarySimpa false
section
namespace Go.K
open Go.Abs
def qfuel : Nat := 1000000
attribute [irreducible] qfuel
abbrev QKE := Exit → Sl → List KD → KH → QR
noncomputable def Exit.onN (e : Exit) (a b : QR) : QR := Exit.rec (motive := fun _ => QR) a (fun _ => b) (fun _ => b) b (fun _ => b) b e
theorem Exit.onN_some {e : Exit} {a b : QR} {r : KV × KH} (h : Exit.onN e a b = some r) : (e = .normal ∧ a = some r) ∨ (e ≠ .normal ∧ b = some r) := by
 cases e <;> first | exact .inl ⟨rfl, h⟩ | exact .inr ⟨(fun x => by cases x), h⟩
noncomputable def KO.onLoop (o : KO) (f : KLoop → QR) : QR := KO.rec (motive := fun _ => QR) (fun _ _ => none) (fun _ _ => none) (fun _ _ _ => none) (fun _ _ _ _ => none) f (fun _ => none) o
noncomputable def KO.onDefd (o : KO) (f : QR) : QR := KO.rec (motive := fun _ => QR) (fun _ _ => none) (fun _ _ => none) (fun _ _ _ => none) (fun _ _ _ _ => none) (fun _ => none)
 (fun c => Option.rec (motive := fun _ => QR) none (fun l => List.rec (motive := fun _ => QR) f (fun _ _ _ => none) l) c) o
noncomputable def KLoop.turned (L : KLoop) (s : LoopState) (p : Option Code) : KLoop := KLoop.rec (motive := fun _ => KLoop) (fun _ _ n l ps a b d => ⟨s, p, n, l, ps, a, b, d⟩) L
theorem KLoop.turned_eq (L : KLoop) (s : LoopState) (p : Option Code) : L.turned s p = { L with state := s, pending := p } := rfl
noncomputable def KLoop.hd (L : KLoop) (K : KLoop → QR) : QR := KLoop.rec (motive := fun _ => QR) (fun s p n l ps a b d => K ⟨s, p, n, l, ps, a, b, d⟩) L
theorem KLoop.hd_eq (L : KLoop) (K : KLoop → QR) : L.hd K = K L := rfl
noncomputable def qafter (p : Option Code) (K : Exit → QR) : QR := match kafter p with | some e => K e | none => none
noncomputable def qidle (s : LoopState) (K : QR) : QR := match s with | .busy => none | _ => K
noncomputable def qready (s : LoopState) (K : QR) : QR := match s with | .ready => K | _ => none
noncomputable def qrange (X : QX) (e : QE) (n : Nat) (g : KV) (ps : Array Tmp) (assign body : Code) (l : Sl) (ds : List KD) (h : KH) (K : QKE) : QR :=
 g.onFunc (fun fn first cap => Fn.onFunc fn fun f => hpushK h (.defd (some [])) fun i h => hpushK h (.loop (kloopOf ⟨n, l, ds⟩ ps assign body i)) fun j h =>
  qapp [.yield j] cap fun yc => qapp first yc fun args => e.call f args h fun _ h => hgetK h j fun o => o.onLoop fun L => qidle L.state (qafter L.pending fun ex => (L.turned .exhausted L.pending).hd fun L => hsetK h j (.loop L) fun h => K ex l (.collected i :: ds) h))
  (fun _ => none) none
noncomputable def qloop (ic : Sl → List KD → KH → QKE → QR) (K : QKE) (m : Nat) : Sl → List KD → KH → QR := Nat.rec (motive := fun _ => Sl → List KD → KH → QR) (fun _ _ _ => none) (fun _ again l ds h => ic l ds h fun ex l ds h => Exit.onN ex (again l ds h) (K ex l ds h)) m
noncomputable def qcode (X : QX) (e : QE) (out : Bool) (n : Nat) (c : Code) : Sl → List KD → KH → QKE → QR :=
 Code.rec (motive := fun _ => Sl → List KD → KH → QKE → QR)
  (fun l ds h K => K .normal l ds h)
  (fun _ ops draw l ds h K => (cReg X.E X.S.M out n ops draw).run e l ds h fun l ds h => K .normal l ds h)
  (fun _ _ ia ib l ds h K => ia l ds h fun ex l ds h => Exit.onN ex (ib l ds h K) (K ex l ds h))
  (fun c _ _ ia ib l ds h K => ((cO X.E.ng c fun q => q).ev l).onBool (fun t => bif' t (ia l ds h K) (ib l ds h K)) none)
  (fun id _ ic l ds h K => ic l ds h fun ex l ds h => Exit.rec (motive := fun _ => QR) (K .normal l ds h) (fun i => bif' (Nat.beq i id) (K .normal l ds h) (K (.exit i) l ds h)) (fun g => K (.goto g) l ds h) (K .ret l ds h) (fun p => K (.panic p) l ds h) (K .outgrown l ds h) ex)
  (fun _ ic l ds h K => qloop ic K qfuel l ds h)
  (fun g ps a b _ _ l ds h K => bif' out (qrange X e n ((cO X.E.ng g fun q => q).ev l) ps a b l ds h K) none)
  (fun i l ds h K => K (.exit i) l ds h)
  (fun _ ic l ds h K => ic l ds h fun ex l ds h => Exit.rec (motive := fun _ => QR) (K .normal l ds h) (fun i => K (.exit i) l ds h) (fun _ => none) (K .ret l ds h) (fun p => K (.panic p) l ds h) (K .outgrown l ds h) ex)
  (fun _ l ds h K => K .normal l ds h)
  (fun _ _ _ _ _ => none)
  (fun l ds h K => K .ret l ds h)
  (fun _ _ _ _ _ => none) c
section
variable {P : Program} {X : QX} {e : QE}
theorem qrange_ok (ok : X.Ok P) (he : e.ok P X) {n : Nat} {g : Operand} {ps : Array Tmp} {assign body : Code} {l : Sl} {ds : List KD} {h : KH} {K : QKE} {r : KV × KH} (q : qrange X e n (keval X.E.ng l g) ps assign body l ds h K = some r) :
  ∃ ex l' ds' h', K ex l' ds' h' = some r ∧ KC P none (.rangeFunc g ps assign body) ⟨n, l, ds⟩ h ex ⟨n, l', ds'⟩ h' := by
 unfold qrange at q
 cases hv : keval X.E.ng l g <;> rw [hv] at q <;> first | (cases q; done) | skip
 rename_i fn first cap
 cases fn <;> first | (cases q; done) | skip
 rename_i f
 simp only [KV.onFunc, Fn.onFunc, hpushK_eq, qapp_eq] at q
 split at q
 ·rename_i hr1
  split at q
  ·rename_i hr2
   obtain ⟨v, h3, ⟨fn, cd, h1, h2⟩, k, q⟩ := he.call _ _ _ _ _ q
   rw [hgetK_eq] at q
   have hj : (h.push (.defd (some []))).next = h.next + 1 := rfl
   rw [hj] at q k
   cases hL : h3.get (h.next + 1) with
   | none => rw [hL] at q; cases q
   | some o =>
    rw [hL] at q
    cases o <;> first | (cases q; done) | skip
    rename_i L
    simp only [Option.elim_some, KO.onLoop, KLoop.hd_eq, KLoop.turned_eq, hsetK_eq] at q
    have hroom : h.next + 2 < 65000 := by
     have : kroom (h.push (.defd (some []))) = true := hr2
     simpa [kroom, blt_dec, hj] using this
    cases hs : L.state <;> rw [hs] at q <;> first | (cases q; done) | skip
    all_goals
     simp only [qidle, qafter] at q
     cases ha : kafter L.pending with
     | none => rw [ha] at q; cases q
     | some ex =>
      rw [ha] at q
      exact ⟨ex, l, .collected h.next :: ds, _, q, kc_range (fr := ⟨n, l, ds⟩) ok.E ok.S hroom hv h1 h2 (by rw [List.append_assoc]; exact k) hL (by rw [hs]; simp) ha⟩
  ·cases q
 ·cases q
theorem qcode_ok (ok : X.Ok P) (he : e.ok P X) {rd : Option Nat} {out : Bool} (ho : out = rd.isNone) (n : Nat) : ∀ (c : Code) (l : Sl) (ds : List KD) (h : KH) (K : QKE) (r : KV × KH), qcode X e out n c l ds h K = some r →
  ∃ ex l' ds' h', K ex l' ds' h' = some r ∧ KC P rd c ⟨n, l, ds⟩ h ex ⟨n, l', ds'⟩ h' := by
 have hng := ok.E.ng
 intro c
 induction c with
 | skip => exact fun l ds h K r q => ⟨_, _, _, _, q, kc_skip⟩
 | region id ops draw =>
  intro l ds h K r q
  have q : (cReg X.E X.S.M out n ops draw).run e l ds h (fun l ds h => K .normal l ds h) = some r := q
  subst ho
  obtain ⟨l', ds', h', e1, k⟩ := cReg_ok (rd := rd) (id := id) ok he q
  exact ⟨_, _, _, _, e1, k⟩
 | seq a b ia ib =>
  intro l ds h K r q
  obtain ⟨ex, l1, ds1, h1, q1, k1⟩ := ia l ds h _ r q
  rcases Exit.onN_some q1 with ⟨rfl, q2⟩ | ⟨hne, q2⟩
  ·obtain ⟨ex, l2, ds2, h2, q3, k2⟩ := ib l1 ds1 h1 K r q2
   exact ⟨_, _, _, _, q3, kc_seq k1 k2⟩
  ·exact ⟨_, _, _, _, q2, kc_seqE k1 hne⟩
 | cond o a b ia ib =>
  intro l ds h K r q
  have q : ((cO X.E.ng o fun q => q).ev l).onBool (fun t => bif' t (qcode X e out n a l ds h K) (qcode X e out n b l ds h K)) none = some r := q
  obtain ⟨qo, hq, e1⟩ := cO_ok X.E.ng o fun q => q
  rw [e1, hq] at q
  cases hv : keval X.E.ng l o <;> rw [hv] at q <;> first | (cases q; done) | skip
  rename_i t
  simp only [KV.onBool, bif'_eq] at q
  cases t with
  | true => obtain ⟨ex, l2, ds2, h2, q3, k2⟩ := ia l ds h K r q; exact ⟨_, _, _, _, q3, kc_cond hng (fr := ⟨n, l, ds⟩) hv k2⟩
  | false => obtain ⟨ex, l2, ds2, h2, q3, k2⟩ := ib l ds h K r q; exact ⟨_, _, _, _, q3, kc_cond hng (fr := ⟨n, l, ds⟩) hv k2⟩
 | block id c ic =>
  intro l ds h K r q
  obtain ⟨ex, l1, ds1, h1, q1, k1⟩ := ic l ds h _ r q
  cases ex with
  | exit i =>
   simp only [bif'_eq, Nat.beq_eq] at q1
   split at q1
   ·rename_i hi; exact ⟨_, _, _, _, q1, kc_block k1 _ (by simp [hi])⟩
   ·rename_i hi; exact ⟨_, _, _, _, q1, kc_block k1 _ (by simp [hi])⟩
  | normal => exact ⟨_, _, _, _, q1, kc_block k1 _ rfl⟩
  | goto _ => exact ⟨_, _, _, _, q1, kc_block k1 _ rfl⟩
  | ret => exact ⟨_, _, _, _, q1, kc_block k1 _ rfl⟩
  | panic _ => exact ⟨_, _, _, _, q1, kc_block k1 _ rfl⟩
  | outgrown => exact ⟨_, _, _, _, q1, kc_block k1 _ rfl⟩
 | loop c ic =>
  intro l ds h K r q
  have key : ∀ (m : Nat) (l : Sl) (ds : List KD) (h : KH), qloop (qcode X e out n c) K m l ds h = some r →
    ∃ ex l' ds' h', K ex l' ds' h' = some r ∧ KL P rd c ⟨n, l, ds⟩ h ex ⟨n, l', ds'⟩ h' := by
   intro m
   induction m with
   | zero => intro l ds h q; cases q
   | succ m im =>
    intro l ds h q
    obtain ⟨ex, l1, ds1, h1, q1, k1⟩ := ic l ds h _ r q
    rcases Exit.onN_some q1 with ⟨rfl, q2⟩ | ⟨hne, q2⟩
    ·obtain ⟨ex, l2, ds2, h2, q3, k2⟩ := im l1 ds1 h1 q2
     exact ⟨_, _, _, _, q3, kl_more k1 k2⟩
    ·exact ⟨_, _, _, _, q2, kl_end k1 hne⟩
  obtain ⟨ex, l2, ds2, h2, q3, k2⟩ := key qfuel l ds h q
  exact ⟨_, _, _, _, q3, kc_loop k2⟩
 | rangeFunc g ps a b _ _ =>
  intro l ds h K r q
  have q : bif' out (qrange X e n ((cO X.E.ng g fun q => q).ev l) ps a b l ds h K) none = some r := q
  rw [bif'_eq] at q
  split at q
  ·rename_i hout
   rw [ho] at hout
   cases rd with
   | some _ => cases hout
   | none =>
    obtain ⟨qo, hq, e1⟩ := cO_ok X.E.ng g fun q => q
    rw [e1, hq] at q
    exact qrange_ok ok he q
  ·cases q
 | exit i => exact fun l ds h K r q => ⟨_, _, _, _, q, kc_exit⟩
 | scope c ic =>
  intro l ds h K r q
  obtain ⟨ex, l1, ds1, h1, q1, k1⟩ := ic l ds h _ r q
  cases ex with
  | goto _ => cases q1
  | normal => exact ⟨_, _, _, _, q1, kc_scope k1 (by simp)⟩
  | exit _ => exact ⟨_, _, _, _, q1, kc_scope k1 (by simp)⟩
  | ret => exact ⟨_, _, _, _, q1, kc_scope k1 (by simp)⟩
  | panic _ => exact ⟨_, _, _, _, q1, kc_scope k1 (by simp)⟩
  | outgrown => exact ⟨_, _, _, _, q1, kc_scope k1 (by simp)⟩
 | label _ => exact fun l ds h K r q => ⟨_, _, _, _, q, kc_label⟩
 | goto _ => intro l ds h K r q; cases q
 | ret => exact fun l ds h K r q => ⟨_, _, _, _, q, kc_ret⟩
 | refuse _ => intro l ds h K r q; cases q
end
end Go.K
end
