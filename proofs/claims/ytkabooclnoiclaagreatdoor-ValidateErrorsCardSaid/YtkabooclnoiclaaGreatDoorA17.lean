/- The layer of abstract values: a part. No condition beyond each statement's own. -/
import Derived.Test.YtkabooclnoiclaaGreatDoorA16
set_option linter.unusedVariables false
set_option linter.unusedSimpArgs false
set_option linter.unnecessarySimpa false
section
namespace Go.Abs
open Go.RowKit (Below)
theorem thenK_thenK (K K' : AFr → St → Prop) (AQ : Exit → AFr → St → Prop) : thenK K (thenK K' AQ) = thenK K AQ := by
 funext e fr st; cases e <;> rfl
theorem thenK_self (AQ : Exit → AFr → St → Prop) : thenK (fun fr st => AQ .normal fr st) AQ = AQ := by
 funext e fr st; cases e <;> rfl
section
variable {P : Program} {gl : Nat → List V} {cs : List Code} {AQ : Exit → AFr → St → Prop} {fr : AFr} {st : St}
theorem aOpV_mono {o : Oper} {K K' : V → St → Prop} (hk : ∀ v st, K v st → K' v st) (h : aOpV P gl o fr st K) : aOpV P gl o fr st K' := by
 unfold aOpV at h ⊢
 split at h
 ·split at h
  ·exact h.mono hk
  ·exact h.elim
 ·split at h
  ·rcases h with h | h
   ·exact .inl (hk _ _ h)
   ·refine .inr ?_
    unfold aOpO at h ⊢
    split at h
    ·split at h
     ·exact hk _ _ h
     ·exact h.elim
    ·exact h.elim
  ·exact h.elim
theorem aOps_mono {ops : Array Oper} {K K' : AFr → St → Prop} (hk : ∀ fr st, K fr st → K' fr st) : ∀ (l : List Oper) (fr : AFr) (st : St), aOps P gl ops l fr st K → aOps P gl ops l fr st K'
 | [], fr, st, h => hk _ _ h
 | o :: r, fr, st, h => by
  simp only [aOps] at h ⊢
  split at h
  ·exact aOpV_mono (fun v st h => aOps_mono hk r _ _ h) h
  ·split at h
   ·exact ⟨fun hb => aOpV_mono (fun v st h => aOps_mono hk r _ _ h) (h.1 hb), fun hb => aOps_mono hk r _ _ (h.2 hb)⟩
   ·exact h.elim
theorem aOpG_mono {ops : Array Oper} {i : Nat} {K K' : AFr → St → Prop} (hk : ∀ fr st, K fr st → K' fr st) (h : aOpG P gl ops i fr st K) : aOpG P gl ops i fr st K' := by
 unfold aOpG at h ⊢
 split at h
 ·exact h.elim
 ·split at h
  ·exact aOpV_mono (fun v st h => hk _ _ h) h
  ·split at h
   ·exact ⟨fun hb => aOpV_mono (fun v st h => hk _ _ h) (h.1 hb), fun hb => hk _ _ (h.2 hb)⟩
   ·exact h.elim
theorem aD_mono {ops : Array Oper} {E : List Nat} {B : List (List Nat)} {K K' : AFr → St → Prop} (hk : ∀ fr st, K fr st → K' fr st) : ∀ (l seen : List Nat) (fr : AFr) (st : St), aD P gl ops E B l seen fr st K → aD P gl ops E B l seen fr st K'
 | [], seen, fr, st, h => hk _ _ h
 | i :: r, seen, fr, st, h => by
  simp only [aD] at h ⊢
  split at h
  ·rename_i hc; rw [if_pos hc]; exact aOpG_mono (fun fr st h => ⟨h.1, aD_mono hk r _ _ _ h.2⟩) h
  ·rename_i hc; rw [if_neg hc]; obtain ⟨v, h1, h2⟩ := h; exact ⟨v, h1, aD_mono hk r _ _ _ h2⟩
end
end Go.Abs
end
section
namespace Go.Abs
end Go.Abs
end
