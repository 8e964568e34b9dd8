/- The layer of closed runs: a part. No condition beyond each statement's own. -/
import Derived.Test.YtkabooclnoiclaaGreatDoorK07
set_option linter.unusedVariables false
set_option linter.unusedSimpArgs false
set_option linter.unnecessarySimpa false
section
namespace Go.K
open Go.Abs
def KStill (P : Program) (ng : Nat) (rd : Option Nat) (ops : Array Oper) (j : Nat) (fr : KFr) (h : KH) (v : KV) : Prop :=
 match ops[j]? with
 | none => False
 | some o => match kwanted ops fr.l o with
  | some true => KDo P ng rd o fr.l h v h
  | some false => v = .tuple []
  | none => False
def KStillD (P : Program) (ng : Nat) (rd : Option Nat) (ops : Array Oper) (j : Nat) (fr : KFr) (h : KH) : Prop :=
 match dstOf ops j with
 | some d => KStill P ng rd ops j fr h (sget fr.l d)
 | none => ∃ v, KStill P ng rd ops j fr h v
def kStable (P : Program) (ng : Nat) (rd : Option Nat) (ops : Array Oper) (E : List Nat) (Bi : List Nat) : List Nat → KFr → KH → Prop
 | [], _, _ => True
 | j :: r, fr, h => (if E.contains j || Bi.contains j then True else KStillD P ng rd ops j fr h) ∧ kStable P ng rd ops E Bi r fr h
def kOpG (P : Program) (ng : Nat) (rd : Option Nat) (ops : Array Oper) (i : Nat) (fr : KFr) (h : KH) (K : KFr → KH → Prop) : Prop :=
 match ops[i]? with
 | none => False
 | some o => match kwanted ops fr.l o with
  | some true => ∃ v h1, KDo P ng rd o fr.l h v h1 ∧ K (fr.put o.dst v) h1
  | some false => K (fr.put o.dst (.tuple [])) h
  | none => False
section
variable {P : Program} {ng : Nat} {rd : Option Nat} {ops : Array Oper} {n : Nat} {order E : List Nat} {B : List (List Nat)}
theorem sget_put {F : KFr} {d t : Nat} {v : KV} (hd : d < F.n) : sget (F.put (some d) v).l t = if t = d then v else sget F.l t := by
 simp only [KFr.put, blt_dec, Bool.cond_decide, hd, if_true, sget_sput]
theorem kput_n (F : KFr) (d : Option Nat) (v : KV) : (F.put d v).n = F.n := by
 cases d with
 | none => rfl
 | some d => simp only [KFr.put, blt_dec, Bool.cond_decide]; split <;> rfl
theorem kput_d (F : KFr) (d : Option Nat) (v : KV) : (F.put d v).d = F.d := by
 cases d with
 | none => rfl
 | some d => simp only [KFr.put, blt_dec, Bool.cond_decide]; split <;> rfl
theorem keval_of_slots {F F' : KFr} {o : Oper} (h : ∀ t ∈ slotsOf o, sget F.l t = sget F'.l t) : ∀ x ∈ o.op.operands, keval ng F.l x = keval ng F'.l x := by
 intro x hx
 cases x with
 | tmp t => exact h t (List.mem_filterMap.2 ⟨.tmp t, by simpa using hx, rfl⟩)
 | _ => rfl
theorem kyield_congr {F F' : KFr} {g : Nat} (h : ∀ d, dstOf ops g = some d → sget F.l d = sget F'.l d) : kyield ops F.l g = kyield ops F'.l g := by
 unfold kyield
 cases hd : (ops[g]?).bind (·.dst) with
 | none => rfl
 | some d => simp only; rw [h d (by simpa [dstOf] using hd)]
theorem kwanted_congr {F F' : KFr} {j : Nat} {o : Oper} (ho : ops[j]? = some o) (h : ∀ t ∈ readsOf ops j, sget F.l t = sget F'.l t) : kwanted ops F.l o = kwanted ops F'.l o := by
 unfold kwanted
 cases hg : o.guard with
 | none => rfl
 | some q =>
  obtain ⟨g, want⟩ := q
  simp only
  rw [kyield_congr (F := F) (F' := F') fun d hd => h d (by unfold readsOf; rw [ho]; simp [hg, hd])]
theorem KStill.congr {F F' : KFr} {j : Nat} {st : KH} {v : KV} (h : ∀ t ∈ readsOf ops j, sget F.l t = sget F'.l t) (hs : KStill P ng rd ops j F st v) : KStill P ng rd ops j F' st v := by
 unfold KStill at hs ⊢
 cases ho : ops[j]? with
 | none => rw [ho] at hs; exact hs
 | some o =>
  rw [ho] at hs
  simp only at hs ⊢
  rw [← kwanted_congr ho h]
  split at hs
  ·exact hs.congr (keval_of_slots fun t ht => h t (by unfold readsOf; rw [ho]; simp [ht]))
  ·exact hs
  ·exact hs
end
section
variable {P : Program} {ng : Nat} {rd : Option Nat} {ops : Array Oper} {n : Nat} {order E : List Nat} {B : List (List Nat)}
end
section
variable {P : Program} {E : KE} {rd : Option Nat} {ops : Array Oper} {n : Nat} {order Es L : List Nat} {B : List (List Nat)}
structure Chk2 (ops : Array Oper) (n : Nat) (order Es L : List Nat) (B : List (List Nat)) : Prop where
 nodup : order.Nodup
 len : order.length = ops.size
 all : ∀ i, i < ops.size → i ∈ order
 lt : ∀ i ∈ order, i < ops.size
 topo : ∀ p (h : p < order.length), ∀ k ∈ dp ops order[p], k ∈ order.take p
 clos : ∀ j, j < ops.size → ∀ i ∈ B.getD j [], i ∈ dp ops j ∨ ∃ k ∈ dp ops j, i ∈ B.getD k []
 dlt : ∀ i, i < ops.size → ∀ d, dstOf ops i = some d → d < n
 uniq : ∀ i j, i < ops.size → j < ops.size → i ≠ j → ∀ d, dstOf ops i = some d → dstOf ops j ≠ some d
 reads : ∀ i, i < ops.size → ∀ t ∈ readsOf ops i, ∀ k, k < ops.size → dstOf ops k = some t → k ∈ B.getD i [] ∨ (k ∈ Es ∧ (k = i ∨ i ∈ B.getD k []))
 waits : ∀ p (h : p < order.length), order[p] ∈ Es ∨ order[p] ∈ L → ∀ j ∈ order.drop (p + 1), j ∉ L → order[p] ∈ B.getD j []
 late : ∀ i ∈ L, i < ops.size → i ∉ Es ∧ (∀ o, ops[i]? = some o → o.guard = none) ∧ ∀ t ∈ readsOf ops i, ∀ k ∈ L, dstOf ops k ≠ some t
theorem Chk2.before (c : Chk2 ops n order Es L B) : ∀ p (h : p < order.length), ∀ i ∈ B.getD order[p] [], i ∈ order.take p := by
 intro p
 induction p using Nat.strongRecOn with
 | _ p ih =>
  intro h i hi
  rcases c.clos _ (c.lt _ (List.getElem_mem h)) i hi with hd | ⟨k, hk, hki⟩
  ·exact c.topo p h i hd
  ·obtain ⟨q, hq, hql, rfl⟩ := mem_take_idx (c.topo p h k hk)
   have := ih q hq hql i hki
   exact (List.take_sublist_take_left (by omega)).mem this
theorem Chk2.closed (c : Chk2 ops n order Es L B) {listed : Array Bool} (hc : Closed ops listed) : ∀ p (h : p < order.length), Dn listed order[p] → ∀ i ∈ B.getD order[p] [], Dn listed i := by
 intro p
 induction p using Nat.strongRecOn with
 | _ p ih =>
  intro h hd i hi
  rcases c.clos _ (c.lt _ (List.getElem_mem h)) i hi with hdp | ⟨k, hk, hki⟩
  ·exact hc _ _ hd hdp
  ·obtain ⟨q, hq, hql, rfl⟩ := mem_take_idx (c.topo p h k hk)
   exact ih q hq hql (hc _ _ hd hk) i hki
theorem Chk2.ready (c : Chk2 ops n order Es L B) {listed : Array Bool} (hc : Closed ops listed) {j : Nat} (hj : j < ops.size) (hr : ∀ k ∈ dp ops j, Dn listed k) : ∀ i ∈ B.getD j [], Dn listed i := by
 intro i hi
 rcases c.clos j hj i hi with hd | ⟨k, hk, hki⟩
 ·exact hr i hd
 ·have hkm : k < ops.size := by
   obtain ⟨p, hp, he⟩ := List.getElem_of_mem (c.all j hj)
   have := c.topo p hp k (by rw [he]; exact hk)
   exact c.lt k (List.mem_of_mem_take this)
  obtain ⟨p, hp, he⟩ := List.getElem_of_mem (c.all k hkm)
  exact c.closed hc p hp (by rw [he]; exact hr k hk) i (by rw [he]; exact hki)
theorem Chk2.dn (c : Chk2 ops n order Es L B) {listed : Array Bool} (hc : Closed ops listed) {j : Nat} (hj : j < ops.size) (hd : Dn listed j) : ∀ i ∈ B.getD j [], Dn listed i := c.ready hc hj fun k hk => hc j k hd hk
theorem Chk2.seen (c : Chk2 ops n order Es L B) {seen rest : List Nat} (hs : order = seen.reverse ++ rest) {j : Nat} (hj : j ∈ seen) : ∀ i ∈ B.getD j [], i ∈ seen := by
 intro i hi
 have hjm : j ∈ order := by rw [hs]; simp [hj]
 obtain ⟨p, hp, he⟩ := List.getElem_of_mem hjm
 have hb := c.before p hp i (by rw [he]; exact hi)
 have hpl : p < seen.length := by
  rcases Nat.lt_or_ge p seen.length with h1 | h1
  ·exact h1
  ·exfalso
   have hnd := c.nodup
   rw [hs] at hnd
   have hdis := (List.nodup_append.1 hnd).2.2
   have : order[p] ∈ rest := by
    subst hs
    rw [List.getElem_append_right (by simpa using h1)]
    exact List.getElem_mem _
   rw [he] at this
   exact hdis j (List.mem_reverse.2 hj) j this rfl
 obtain ⟨q, hq, hql, hqe⟩ := mem_take_idx hb
 have : order[q] ∈ seen := by
  subst hs
  rw [List.getElem_append_left (by simp; omega)]
  exact List.mem_reverse.1 (List.getElem_mem _)
 rw [hqe] at this; exact this
theorem Chk2.not_seen (c : Chk2 ops n order Es L B) {seen rest : List Nat} {i : Nat} (hs : order = seen.reverse ++ rest) (hi : i ∈ rest) : i ∉ seen := by
 intro h
 have hnd := c.nodup
 rw [hs] at hnd
 exact (List.nodup_append.1 hnd).2.2 i (List.mem_reverse.2 h) i hi rfl
theorem Chk2.not_read (c : Chk2 ops n order Es L B) {seen rest : List Nat} {i : Nat} (hs : order = seen.reverse ++ i :: rest) (hi : i ∉ Es) {j d : Nat} (hj : j ∈ seen) (hd : dstOf ops i = some d) : d ∉ readsOf ops j := by
 intro hr
 have him : i ∈ order := by rw [hs]; simp
 have hjm : j ∈ order := by rw [hs]; simp [hj]
 rcases c.reads j (c.lt j hjm) d hr i (c.lt i him) hd with h | h
 ·exact c.not_seen hs (by simp) (c.seen hs hj i h)
 ·exact hi h.1
def kD2 (P : Program) (E : KE) (rd : Option Nat) (ops : Array Oper) (Es L : List Nat) (B : List (List Nat)) : List Nat → List Nat → KFr → KH → (KFr → KH → Prop) → Prop
 | [], _, fr, h, K => K fr h
 | i :: rest, seen, fr, h, K =>
  if Es.contains i then kOpG P E.ng rd ops i fr h fun fr' h' => kStable P E.ng rd ops (Es ++ L) (B.getD i []) seen fr' h' ∧ kD2 P E rd ops Es L B rest (i :: seen) fr' h' K
  else if L.contains i then ∃ o tm cs, ops[i]? = some o ∧ kal E fr.l o.op = some (tm, cs) ∧ kroom h = true ∧ kStable P E.ng rd ops (Es ++ L) (B.getD i []) seen (fr.put o.dst (tm.at h.next)) (h.push (.cells false cs)) ∧ kD2 P E rd ops Es L B rest (i :: seen) (fr.put o.dst (tm.at h.next)) (h.push (.cells false cs)) K
  else ∃ v, KStill P E.ng rd ops i fr h v ∧ kD2 P E rd ops Es L B rest (i :: seen) (fr.put (dstOf ops i) v) h K
theorem kStable_get {ng : Nat} {Bi : List Nat} {F : KFr} {st : KH} : ∀ {l : List Nat}, kStable P ng rd ops (Es ++ L) Bi l F st → ∀ j ∈ l, j ∉ Es → j ∉ L → j ∉ Bi → KStillD P ng rd ops j F st
 | [], _, j, hj, _, _, _ => by cases hj
 | x :: l, hs, j, hj, h1, h2, h3 => by
  simp only [kStable] at hs
  rcases List.mem_cons.1 hj with rfl | hj
  ·have := hs.1
   rw [if_neg (by simp only [Bool.or_eq_true, List.contains_iff_mem, List.mem_append, not_or]; exact ⟨⟨h1, h2⟩, h3⟩)] at this
   exact this
  ·exact kStable_get hs.2 j hj h1 h2 h3
def Ahead (E : KE) (ops : Array Oper) (w0 : Base) (F : KFr) (st : KH) (G : Gh) (w : World) (a : Act) (b j : Nat) : Prop :=
 ∃ o tm cs C el room, ops[j]? = some o ∧ kal E F.l o.op = some (tm, cs) ∧ w.heap[b]? = some (.cells C el (0, 0)) ∧ w0.w.heap.size ≤ b ∧ Free st G b ∧ cs.length ≤ room ∧ room ≤ C.size ∧
  (∀ (i : Nat) (v : KV) (x : Value), cs[i]? = some v → C[i]? = some x → KR G v x) ∧ ∀ d, o.dst = some d → ∀ (G' : Gh) (id : Nat), G'.at_ id = some (b, 0) → G'.room id = room → KR G' (tm.at id) (a.tmps.getD d undef)
theorem Ahead.turn {w0 : Base} {F F' : KFr} {st st' : KH} {G G' : Gh} {w w' : World} {a a' : Act} {b j : Nat} (h : Ahead E ops w0 F st G w a b j) (hF : ∀ t ∈ readsOf ops j, sget F.l t = sget F'.l t) (hG : G.le G') (hw : w'.heap[b]? = w.heap[b]?) (hf : Free st' G' b)
  (ha : ∀ d, dstOf ops j = some d → a'.tmps.getD d undef = a.tmps.getD d undef) : Ahead E ops w0 F' st' G' w' a' b j := by
 obtain ⟨o, tm, cs, C, el, room, h1, h2, h3, h4, h5, h6, h7, h8, h9⟩ := h
 refine ⟨o, tm, cs, C, el, room, h1, ?_, hw.trans h3, h4, hf, h6, h7, fun i v x q1 q2 => (h8 i v x q1 q2).le hG, fun d hd => ?_⟩
 ·rw [← h2]
  exact (kal_congr o.op (keval_of_slots fun t ht => hF t (by unfold readsOf; rw [h1]; simp [ht]))).symm
 ·rw [ha d (by simp [dstOf, h1, hd])]; exact h9 d hd
structure KPre (P : Program) (E : KE) (rd : Option Nat) (Fn : Fence) (ops : Array Oper) (n : Nat) (order Es L : List Nat) (B : List (List Nat)) (w0 : Base) (G0 : Gh) (K : KFr → KH → Prop) (ab : Nat → Nat) (listed : Array Bool) (rest seen : List Nat) (F : KFr) (st : KH) (G : Gh) (w : World) (a : Act) : Prop where
 size : listed.size = ops.size
 split : order = seen.reverse ++ rest
 doneSeen : ∀ i, Dn listed i → i ∈ seen ∨ i ∈ L
 effDone : ∀ i ∈ seen, i ∈ Es ∨ i ∈ L → Dn listed i
 closed : Closed ops listed
 inv : ∀ j ∈ seen, ¬ Dn listed j → KStillD P E.ng rd ops j F st
 ad : kD2 P E rd ops Es L B rest seen F st K
 rel : KRel w0 G st w
 defers : KDs G F.d a.defers
 tmps : a.tmps.size = F.n
 ahead : ∀ j ∈ L, Dn listed j → j ∉ seen → Ahead E ops w0 F st G w a (ab j) j
 inj : ∀ i ∈ L, ∀ j ∈ L, Dn listed i → Dn listed j → i ∉ seen → j ∉ seen → ab i = ab j → i = j
 slot : ∀ t, (∀ j ∈ seen, ¬ Dn listed j → dstOf ops j ≠ some t) → (∀ j ∈ L, Dn listed j → j ∉ seen → dstOf ops j ≠ some t) → KR G (sget F.l t) (a.tmps.getD t undef)
 n : F.n = n
 ext : G0.le G
 gl : Glob P G
 rd : RdR G rd Fn
theorem KPre.norm {Fn : Fence} {w0 : Base} {G0 : Gh} {K : KFr → KH → Prop} {ab : Nat → Nat} {listed : Array Bool} {w : World} {a : Act} (c : Chk2 ops n order Es L B) : ∀ (rest seen : List Nat) (F : KFr) (st : KH) (G : Gh), KPre P E rd Fn ops n order Es L B w0 G0 K ab listed rest seen F st G w a →
  ∃ rest' seen' F' st' G', KPre P E rd Fn ops n order Es L B w0 G0 K ab listed rest' seen' F' st' G' w a ∧ ∀ e r, rest' = e :: r → e ∈ Es ∨ (e ∈ L ∧ ¬ Dn listed e)
 | [], seen, F, st, G, h => ⟨[], seen, F, st, G, h, by simp⟩
 | i :: rest, seen, F, st, G, h => by
  have hs := h.split
  have him : i ∈ order := by rw [hs]; simp
  have hil := c.lt i him
  have hns : i ∉ seen := c.not_seen hs (by simp)
  by_cases hE : i ∈ Es
  ·exact ⟨i :: rest, seen, F, st, G, h, fun e r he => by injection he with he _; subst he; exact .inl hE⟩
  by_cases hL : i ∈ L
  ·by_cases hd : Dn listed i
   ·
    have had := h.ad
    simp only [kD2] at had
    rw [if_neg (by simpa using hE), if_pos (by simpa using hL)] at had
    obtain ⟨o, tm, cs, ho, hk, hroom, hst, had⟩ := had
    obtain ⟨o', tm', cs', C, el, room, ho', hk', hb, hsz, hf, hr1, hr2, hr3, hr4⟩ := h.ahead i hL hd hns
    rw [ho] at ho'; injection ho' with ho'; subst ho'
    rw [hk] at hk'; injection hk' with hk'; injection hk' with hk1 hk2; subst hk1 hk2
    have hdst : dstOf ops i = o.dst := by simp [dstOf, ho]
    have hn' : st.next + 1 < 65000 := by simpa [kroom, blt_dec] using hroom
    have hle := Gh.new_le G h.rel.fresh (ab i, 0) room
    have hrel := h.rel.adopt hn' (room := room) (o := .cells false cs) hb (.inl hsz) (.inr hsz) hf (.cells hr1 (by omega) (fun _ => .zero _) (fun j v x q1 q2 => (hr3 j v x q1 (by simpa using q2)).le hle))
    refine KPre.norm c rest (i :: seen) (F.put o.dst (tm.at st.next)) (st.push (.cells false cs)) _ { size := h.size, split := by rw [hs]; simp, doneSeen := fun k hk => (h.doneSeen k hk).imp (List.mem_cons_of_mem _) id, effDone := ?_, closed := h.closed, inv := ?_, ad := had, rel := hrel, defers := by rw [kput_d]; exact h.defers.le hle, tmps := by rw [kput_n]; exact h.tmps, ahead := ?_, inj := ?_, slot := ?_, n := by rw [kput_n]; exact h.n, ext := h.ext.trans hle, gl := h.gl.le hle, rd := h.rd.le hle }
    ·intro j hj he
     rcases List.mem_cons.1 hj with rfl | hj
     ·exact hd
     ·exact h.effDone j hj he
    ·intro j hj hnd
     rcases List.mem_cons.1 hj with rfl | hj
     ·exact absurd hd hnd
     ·exact kStable_get hst j hj (fun he => hnd (h.effDone j hj (.inl he))) (fun he => hnd (h.effDone j hj (.inr he))) (fun hb => hnd (c.dn h.closed hil hd j hb))
    ·intro j hj hjd hjn
     simp only [List.mem_cons, not_or] at hjn
     refine (h.ahead j hj hjd hjn.2).turn ?_ hle rfl ?_ (fun _ _ => rfl)
     ·intro t ht
      cases hd' : o.dst with
      | none => rfl
      | some d =>
       have hdn : d < F.n := by rw [h.n]; exact c.dlt i hil d (by rw [hdst, hd'])
       rw [sget_put hdn, if_neg]
       rintro rfl
       have hjl : j < ops.size := by
        obtain ⟨o', _, _, _, _, _, q, _⟩ := h.ahead j hj hjd hjn.2
        exact (Array.getElem?_eq_some_iff.1 q).1
       exact (c.late j hj hjl).2.2 _ ht i hL (by rw [hdst, hd'])
     ·obtain ⟨_, _, _, _, _, _, _, _, _, _, hfj, _⟩ := h.ahead j hj hjd hjn.2
      intro id x k e1 e2
      rw [get_push st h.rel.top] at e1
      by_cases hid : id = st.next
      ·subst hid
       rw [Gh.new_at] at e2
       injection e2 with e2; injection e2 with e2 _
       exact hjn.1 (h.inj i hL j hj hd hjd hns hjn.2 e2).symm
      ·rw [if_neg hid] at e1
       have e3 : G.at_ id = some (ab j, k) := by
        have : (G.new st.next (ab i, 0) room).at_ id = G.at_ id := if_neg hid
        rw [← this]; exact e2
       exact hfj id x k e1 e3
    ·intro x hx y hy hxd hyd hxn hyn
     simp only [List.mem_cons, not_or] at hxn hyn
     exact h.inj x hx y hy hxd hyd hxn.2 hyn.2
    ·intro t ht1 ht2
     have old : o.dst ≠ some t → KR G (sget F.l t) (a.tmps.getD t undef) := fun hne => h.slot t (fun j hj => ht1 j (List.mem_cons_of_mem _ hj)) (fun j hj hjd hjn => by
      by_cases hji : j = i
      ·subst hji; rw [hdst]; exact hne
      ·exact ht2 j hj hjd (by simp [hji, hjn]))
     cases hd' : o.dst with
     | none => exact (old (by rw [hd']; simp)).le hle
     | some d =>
      have hdn : d < F.n := by rw [h.n]; exact c.dlt i hil d (by rw [hdst, hd'])
      rw [sget_put hdn]
      by_cases htd : t = d
      ·subst htd
       rw [if_pos rfl]
       exact hr4 t hd' _ _ (Gh.new_at _ _ _ _) (Gh.new_room _ _ _ _)
      ·rw [if_neg htd]
       exact (old (by rw [hd']; intro q; injection q with q; exact htd q.symm)).le hle
   ·exact ⟨i :: rest, seen, F, st, G, h, fun e r he => by injection he with he _; subst he; exact .inr ⟨hL, hd⟩⟩
  ·
   have hnd : ¬ Dn listed i := fun hd => (h.doneSeen i hd).elim hns hL
   have had := h.ad
   simp only [kD2] at had
   rw [if_neg (by simpa using hE), if_neg (by simpa using hL)] at had
   obtain ⟨v, hv, had⟩ := had
   have hstill : KStillD P E.ng rd ops i (F.put (dstOf ops i) v) st := by
    unfold KStillD
    cases hd : dstOf ops i with
    | none => exact ⟨v, by rw [hd] at *; exact hv⟩
    | some d =>
     have hdn : d < F.n := by rw [h.n]; exact c.dlt i hil d hd
     simp only
     rw [sget_put hdn, if_pos rfl]
     refine hv.congr ?_
     intro t ht
     rw [sget_put hdn, if_neg]
     rintro rfl
     rcases c.reads i hil t ht i hil hd with h' | h'
     ·obtain ⟨p, hp, he⟩ := List.getElem_of_mem him
      have hb := c.before p hp i (by rw [he]; exact h')
      obtain ⟨q, hq, hql, hqe⟩ := mem_take_idx hb
      have := (List.getElem_inj (h₀ := hql) (h₁ := hp) c.nodup).1 (hqe.trans he.symm)
      omega
     ·exact hE h'.1
   have keepF : ∀ j, (∀ d, dstOf ops i = some d → d ∉ readsOf ops j) → ∀ t ∈ readsOf ops j, sget F.l t = sget (F.put (dstOf ops i) v).l t := by
    intro j hj t ht
    cases hd : dstOf ops i with
    | none => rfl
    | some d =>
     have hdn : d < F.n := by rw [h.n]; exact c.dlt i hil d hd
     rw [sget_put hdn, if_neg]
     rintro rfl
     exact hj t hd ht
   refine KPre.norm c rest (i :: seen) (F.put (dstOf ops i) v) st G { size := h.size, split := by rw [hs]; simp, doneSeen := fun k hk => (h.doneSeen k hk).imp (List.mem_cons_of_mem _) id, effDone := ?_, closed := h.closed, inv := ?_, ad := had, rel := h.rel, defers := by rw [kput_d]; exact h.defers, tmps := by rw [kput_n]; exact h.tmps, ahead := ?_, inj := ?_, slot := ?_, n := by rw [kput_n]; exact h.n, ext := h.ext, gl := h.gl, rd := h.rd }
   ·intro j hj he
    rcases List.mem_cons.1 hj with rfl | hj
    ·exact (he.elim hE hL).elim
    ·exact h.effDone j hj he
   ·intro j hj hjd
    rcases List.mem_cons.1 hj with rfl | hj
    ·exact hstill
    ·have hh := h.inv j hj hjd
     have heq := keepF j fun d hd => c.not_read hs hE hj hd
     unfold KStillD at hh ⊢
     cases hdj : dstOf ops j with
     | none => rw [hdj] at hh; obtain ⟨u, hu⟩ := hh; exact ⟨u, hu.congr heq⟩
     | some e =>
      rw [hdj] at hh
      simp only at hh ⊢
      have hjm : j ∈ order := by rw [hs]; simp [hj]
      have hsame : sget (F.put (dstOf ops i) v).l e = sget F.l e := by
       cases hd : dstOf ops i with
       | none => rfl
       | some d =>
        have hdn : d < F.n := by rw [h.n]; exact c.dlt i hil d hd
        rw [sget_put hdn, if_neg]
        rintro rfl
        exact c.uniq i j hil (c.lt j hjm) (fun q => hns (q ▸ hj)) e hd hdj
      rw [hsame]
      exact hh.congr heq
   ·intro j hj hjd hjn
    simp only [List.mem_cons, not_or] at hjn
    have hA := h.ahead j hj hjd hjn.2
    obtain ⟨_, _, _, _, _, _, q, _, _, _, hfj, _⟩ := id hA
    have hjl : j < ops.size := (Array.getElem?_eq_some_iff.1 q).1
    refine hA.turn (keepF j fun d hd hr => ?_) (.refl _) rfl hfj (fun _ _ => rfl)
    rcases c.reads j hjl d hr i hil hd with h1 | h1
    ·exact hnd (c.dn h.closed hjl hjd i h1)
    ·exact hE h1.1
   ·intro x hx y hy hxd hyd hxn hyn
    simp only [List.mem_cons, not_or] at hxn hyn
    exact h.inj x hx y hy hxd hyd hxn.2 hyn.2
   ·intro t ht1 ht2
    have hdi := ht1 i (by simp) hnd
    have hsame : sget (F.put (dstOf ops i) v).l t = sget F.l t := by
     cases hd : dstOf ops i with
     | none => rfl
     | some d =>
      have hdn : d < F.n := by rw [h.n]; exact c.dlt i hil d hd
      rw [sget_put hdn, if_neg]
      rintro rfl
      exact hdi hd
    rw [hsame]
    exact h.slot t (fun j hj => ht1 j (List.mem_cons_of_mem _ hj)) (fun j hj hjd hjn => ht2 j hj hjd (by
     simp only [List.mem_cons, not_or]
     exact ⟨fun q => hL (q ▸ hj), hjn⟩))
end
end Go.K
end
