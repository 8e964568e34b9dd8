/- The layer of closed runs: a part. No condition beyond each statement's own. -/
import Derived.Test.YtkabooclnoiclaaGreatDoorK16
set_option linter.unusedVariables false
set_option linter.unusedSimpArgs false
set_option linter.unnecessarySimpa false
section
namespace Go.K
open Go.Abs
section
variable {R : Type}
noncomputable def stepP (M M8 O b b5 b9 b14 b15 BM T C04 CL5 p A B C D : Nat) (K : Nat → Nat → Nat → Nat → R) : R :=
 nfc (Nat.add C04 (Nat.shiftLeft (Nat.add (Nat.add (Nat.add CL5 (Nat.mul O (Nat.mul p 256))) (Nat.land (Nat.shiftRight A 24) M8)) (Nat.shiftLeft (Nat.add (Nat.add (Nat.land (Nat.mul A 256) M) (Nat.land (Nat.shiftRight B 24) M8)) (Nat.shiftLeft (Nat.add (Nat.add (Nat.land (Nat.mul B 256) M) (Nat.land (Nat.shiftRight C 24) M8)) (Nat.shiftLeft (Nat.add (Nat.add (Nat.land (Nat.mul C 256) M) (Nat.land (Nat.shiftRight D 24) M8)) (Nat.shiftLeft (Nat.add (Nat.land (Nat.mul D 256) M) T) b)) b)) b)) b)) b5)) fun W => blkP M O b b9 b14 b15 BM W K
end
theorem shl_eq (x b : Nat) : Nat.shiftLeft x b = 2 ^ b * x := by
 show x <<< b = _
 rw [Nat.shiftLeft_eq, Nat.mul_comm]
theorem mul256P {n : Nat} {f : Nat → Nat} (h : W32 f) : Nat.land (Nat.mul (pv n f) 256) (pv n fun _ => 4294967295) = pv n fun i => f i * 256 % 4294967296 := by
 show Nat.land (_ * 256) _ = _
 rw [pv_mul, add32P fun i => by have := h i; omega]
theorem sh24P {n : Nat} {f : Nat → Nat} (h : W32 f) : Nat.land (Nat.shiftRight (pv n f) 24) (pv n fun _ => 255) = pv n fun i => f i / 16777216 := by
 have e := pv_shr (n := n) (k := 24) (by decide) (m := 255) (by decide) (fun i => h.u i)
 refine Eq.trans e (pv_congr fun i _ => ?_)
 rw [Nat.shiftRight_eq_div_pow, show (255 : Nat) = 2 ^ 8 - 1 from rfl, Nat.and_two_pow_sub_one_eq_mod]
 show f i / 16777216 % 256 = _
 have := h i
 omega
def vtail5 (leaf p : Nat) (c A B C D : Nat → Nat) : List (Nat → Nat) := [fun i => leaf % 256 * 16777216 + c i * 65536 + p * 256 + A i / 16777216, fun i => A i * 256 % 4294967296 + B i / 16777216, fun i => B i * 256 % 4294967296 + C i / 16777216, fun i => C i * 256 % 4294967296 + D i / 16777216, fun i => D i * 256 % 4294967296 + 128, fun _ => 0, fun _ => 0, fun _ => 0, fun _ => 0, fun _ => 0, fun _ => 312]
theorem words5_lt {l : List Nat} (h : ∀ x ∈ l, x < 4294967296) : ∀ v ∈ (l.map fun w (_ : Nat) => w), W32 v := fun v hv => by
 obtain ⟨w, hw, rfl⟩ := List.mem_map.1 hv
 exact fun _ => h w hw
theorem map_const (l : List Nat) (i : Nat) : (l.map fun w (_ : Nat) => w).map (fun v => v i) = l := by
 rw [List.map_map]; simp [Function.comp_def]
theorem tailT (B x : Nat) : B * (0 + B * (0 + B * (0 + B * (0 + B * (0 + B * (x + B * 0)))))) = B ^ 6 * x := by
 simp only [Nat.zero_add, Nat.mul_zero, Nat.add_zero, Nat.pow_succ, Nat.pow_zero, Nat.one_mul, Nat.mul_assoc]
theorem stepP_eq {R : Type} (n : Nat) {ws : List Nat} (hw : ws.length = 5) (hws : ∀ x ∈ ws, x < 4294967296) {leaf p : Nat} {c A B C D : Nat → Nat} (hc : ∀ i, c i < 256) (hp : p < 256) (hA : W32 A) (hB : W32 B) (hC : W32 C) (hD : W32 D) (K : Nat → Nat → Nat → Nat → R) :
  stepP (pv n fun _ => 4294967295) (pv n fun _ => 255) (pv n fun _ => 1) (64 * n) (64 * n * 5) (64 * n * 9) (64 * n * 14) (64 * n * 15) (2 ^ (64 * n) - 1) (Nat.add (pv n fun _ => 128) (Nat.shiftLeft (pv n fun _ => 312) (64 * n * 6))) (pkB (2 ^ (64 * n)) (lanes (ws.map fun w _ => w) n)) (pv n fun i => leaf % 256 * 16777216 + c i * 65536) p (pv n A) (pv n B) (pv n C) (pv n D) K =
   K (pv n fun i => (iniH.block (ws ++ tail5 leaf (c i) p (A i) (B i) (C i) (D i))).a) (pv n fun i => (iniH.block (ws ++ tail5 leaf (c i) p (A i) (B i) (C i) (D i))).b) (pv n fun i => (iniH.block (ws ++ tail5 leaf (c i) p (A i) (B i) (C i) (D i))).c) (pv n fun i => (iniH.block (ws ++ tail5 leaf (c i) p (A i) (B i) (C i) (D i))).d) := by
 unfold stepP
 rw [nfc_eq, mul256P hA, mul256P hB, mul256P hC, mul256P hD, sh24P hA, sh24P hB, sh24P hC, sh24P hD]
 have ec : Nat.mul (pv n fun _ => 1) (Nat.mul p 256) = pv n fun _ => p * 256 := by
  show (pv n fun _ => 1) * (p * 256) = _
  rw [pv_mul]; simp only [Nat.one_mul]
 have hV : ∀ v ∈ (ws.map fun w (_ : Nat) => w) ++ vtail5 leaf p c A B C D, W32 v := fun v hv => by
  rcases List.mem_append.1 hv with h | h
  ·exact words5_lt hws v h
  ·simp only [vtail5, List.mem_cons, List.not_mem_nil, or_false] at h
   rcases h with rfl | rfl | rfl | rfl | rfl | rfl | rfl | rfl | rfl | rfl | rfl <;> intro i <;> have h1 := hc i <;> have h2 := hA i <;> have h3 := hB i <;> have h4 := hC i <;> have h5 := hD i <;> dsimp only <;> omega
 have eW : (pkB (2 ^ (64 * n)) (lanes (ws.map fun w _ => w) n)) + 2 ^ (64 * n * 5) * pkB (2 ^ (64 * n)) (lanes (vtail5 leaf p c A B C D) n) = pkB (2 ^ (64 * n)) (lanes ((ws.map fun w (_ : Nat) => w) ++ vtail5 leaf p c A B C D) n) := by
  rw [show lanes ((ws.map fun w (_ : Nat) => w) ++ vtail5 leaf p c A B C D) n = lanes (ws.map fun w _ => w) n ++ lanes (vtail5 leaf p c A B C D) n from List.map_append, pkB_app]
  rw [show (lanes (ws.map fun w (_ : Nat) => w) n).length = 5 by simp [lanes, hw], Nat.pow_mul 2 (64 * n) 5]
 have eT : pkB (2 ^ (64 * n)) (lanes (vtail5 leaf p c A B C D) n) = Nat.add (Nat.add (Nat.add (pv n fun i => leaf % 256 * 16777216 + c i * 65536) (pv n fun _ => p * 256)) (pv n fun i => A i / 16777216)) (Nat.shiftLeft (Nat.add (Nat.add (pv n fun i => A i * 256 % 4294967296) (pv n fun i => B i / 16777216)) (Nat.shiftLeft (Nat.add (Nat.add (pv n fun i => B i * 256 % 4294967296) (pv n fun i => C i / 16777216)) (Nat.shiftLeft (Nat.add (Nat.add (pv n fun i => C i * 256 % 4294967296) (pv n fun i => D i / 16777216)) (Nat.shiftLeft (Nat.add (pv n fun i => D i * 256 % 4294967296) (Nat.add (pv n fun _ => 128) (Nat.shiftLeft (pv n fun _ => 312) (64 * n * 6)))) (64 * n))) (64 * n))) (64 * n))) (64 * n)) := by
  simp only [shl_eq]
  show _ = _ + _ + _ + 2 ^ (64 * n) * (_ + _ + 2 ^ (64 * n) * (_ + _ + 2 ^ (64 * n) * (_ + _ + 2 ^ (64 * n) * (_ + (_ + _)))))
  rw [pv_add, pv_add, pv_add, pv_add, pv_add, ← Nat.add_assoc (pv n fun i => D i * 256 % 4294967296), pv_add, Nat.pow_mul 2 (64 * n) 6, ← tailT (2 ^ (64 * n))]
  simp only [lanes, vtail5, List.map_cons, List.map_nil, pkB, pv_zero]
 rw [ec, ← eT, shl_eq]
 have eW' : Nat.add (pkB (2 ^ (64 * n)) (lanes (ws.map fun w _ => w) n)) (2 ^ (64 * n * 5) * pkB (2 ^ (64 * n)) (lanes (vtail5 leaf p c A B C D) n)) = _ := eW
 rw [eW', blkP_eq n _ (by simp [vtail5, hw]) hV]
 have eL : ∀ i, ((ws.map fun w (_ : Nat) => w) ++ vtail5 leaf p c A B C D).map (fun v => v i) = ws ++ tail5 leaf (c i) p (A i) (B i) (C i) (D i) := fun i => by
  rw [List.map_append, map_const]; rfl
 simp only [eL]
section
variable {R : Type}
end
def walkF (id : List UInt8) (leaf c : Nat) : Nat → Nat → List UInt8 → List UInt8
 | _, 0, v => v
 | p, n + 1, v => walkF id leaf c (p + 1) n (stepF id leaf c p v)
noncomputable def outP (n : Nat) : Nat → Nat → Nat → Nat → Nat := Nat.rec (motive := fun _ => Nat → Nat → Nat → Nat → Nat) (fun _ _ _ _ => 0) (fun _ ih A B C D => nfc (Nat.shiftRight A 64) fun A' => nfc (Nat.shiftRight B 64) fun B' => nfc (Nat.shiftRight C 64) fun C' => nfc (Nat.shiftRight D 64) fun D' =>
 Nat.add (Nat.add (o4K A) (Nat.mul 4294967296 (Nat.add (o4K B) (Nat.mul 4294967296 (Nat.add (o4K C) (Nat.mul 4294967296 (o4K D))))))) (Nat.mul 340282366920938463463374607431768211456 (ih A' B' C' D'))) n
theorem o4K_lane (x y : Nat) : o4K (x + 18446744073709551616 * y) = o4K x := by
 show (x + 18446744073709551616 * y) / 16777216 % 256 + 256 * ((x + 18446744073709551616 * y) / 65536 % 256 + 256 * ((x + 18446744073709551616 * y) / 256 % 256 + 256 * ((x + 18446744073709551616 * y) % 256))) = x / 16777216 % 256 + 256 * (x / 65536 % 256 + 256 * (x / 256 % 256 + 256 * (x % 256)))
 have h1 : (x + 18446744073709551616 * y) / 16777216 % 256 = x / 16777216 % 256 := by omega
 have h2 : (x + 18446744073709551616 * y) / 65536 % 256 = x / 65536 % 256 := by omega
 have h3 : (x + 18446744073709551616 * y) / 256 % 256 = x / 256 % 256 := by omega
 have h4 : (x + 18446744073709551616 * y) % 256 = x % 256 := by omega
 rw [h1, h2, h3, h4]
theorem natOf_cat4 (a b c d : Nat) (l : List UInt8) : natOf (cat4 a b c d ++ l) = (o4K a + 4294967296 * (o4K b + 4294967296 * (o4K c + 4294967296 * o4K d))) + 340282366920938463463374607431768211456 * natOf l := by
 have n4 : ∀ (x : Nat) (l : List UInt8), natOf (be4 x ++ l) = o4K x + 4294967296 * natOf l := fun x l => by rw [natOf_append, o4K_eq, show (be4 x).length = 4 from rfl, show (256 : Nat) ^ 4 = 4294967296 from rfl]
 unfold cat4
 simp only [List.append_assoc, n4]
 omega
theorem shr64v {n : Nat} {A : Nat → Nat} (h : W32 A) : Nat.shiftRight (pv (n + 1) A) 64 = pv n fun i => A (i + 1) := by
 show (pv (n + 1) A) >>> 64 = _
 have := h 0
 rw [Nat.shiftRight_eq_div_pow, pv]; omega
theorem outP_eq : ∀ (n : Nat) {A B C D : Nat → Nat}, W32 A → W32 B → W32 C → W32 D → outP n (pv n A) (pv n B) (pv n C) (pv n D) = natOf ((List.range n).flatMap fun i => cat4 (A i) (B i) (C i) (D i))
 | 0, A, B, C, D, _, _, _, _ => rfl
 | n + 1, A, B, C, D, hA, hB, hC, hD => by
  have e0 : ∀ a b c d, outP (n + 1) a b c d = nfc (Nat.shiftRight a 64) fun A' => nfc (Nat.shiftRight b 64) fun B' => nfc (Nat.shiftRight c 64) fun C' => nfc (Nat.shiftRight d 64) fun D' =>
   Nat.add (Nat.add (o4K a) (Nat.mul 4294967296 (Nat.add (o4K b) (Nat.mul 4294967296 (Nat.add (o4K c) (Nat.mul 4294967296 (o4K d))))))) (Nat.mul 340282366920938463463374607431768211456 (outP n A' B' C' D')) := fun _ _ _ _ => rfl
  rw [e0]
  simp only [nfc_eq]
  rw [shr64v hA, shr64v hB, shr64v hC, shr64v hD, outP_eq n (fun i => hA (i + 1)) (fun i => hB (i + 1)) (fun i => hC (i + 1)) (fun i => hD (i + 1))]
  rw [List.range_succ_eq_map, List.flatMap_cons, natOf_cat4, List.flatMap_map]
  simp only [pv, o4K_lane]
  rfl
section
variable {R : Type}
end
theorem shr_drop (l : List UInt8) (k : Nat) : Nat.shiftRight (natOf l) (8 * k) = natOf (l.drop k) := by
 show natOf l >>> (8 * k) = _
 rw [Nat.shiftRight_eq_div_pow, Nat.pow_mul, natOf_drop]
def O35 : Nat := 10996907317744048201776382731410793802048645782714020512400457251596748538331474405450875867149761726668807828593098798500685399567041520875592067515910773144625994887707680655329453268887872566001049869710293550134396784388225273277393810974100352408645952997664904916665018199936076462352756316346531115833231102795548960297158953861983644576309807910385838015839817432914994830149465297667558118278755329800282526199791924049110177155763289310922145780207305530304719991902601452389002394240556070482319093715590199305710659362089203858894818256128697135336704349783707641415972881552705137805446667009282041271297772176773668639458687112781151112003585
def M35 : Nat := 47231357275856860207533124734812128589787637635796394438719105838653621500472736440541081578512991483085258920447325202264238826224450492067727693742268662794332953049541685934944169240104253693102238126069721922676677043500594131818843880969173105643108843359077977986360953639305219496424387131813025029203584260683665856047551188253633697280154756762839465109199707833140759310586033415219601900518995834799152331788086949596052184735659448352033702417212635572731403749354338063430264900939884685335275383262499937640558988693058693446541039255041687507231333995405264643723191016875777385652861507671621828691064153705603865423642207653033020518508279497752575
def M8 : Nat := 2804211366024732291452977596509752419522404674592075230662116599157170877274525973389973346123189240300545996291240193617674776889595587823275977216557247151879628696365458567109010583566407504330267716776124855284271180018997444685735421798395589864204718014404550753749579640983699497899952860668365434537473931212864984875775533234805829366959001017148388694039153445393323681688113650905227320161082609099072044180946940632523095174719638774285147173952862910227703597935163370359195610531341797972991368897475500822956218137332746984018178655312817769510859609194845448561073084795939810140388900087366920524180931905077285503061965213759193533560914175
def C35 : Nat := 24503572811172914060315909772262834002096489770742291960019003480539722281251255552536721288718182048983867018954586836912702840369116969123157119252437359201514264798858275488719180401999144764116709128274911470724315927576734615074368400463433226236394091208943148427269219221399694542641431952703455566273009415165489870439185927916653741662218235169773304191197190440782840013261551281823442758170336543473469090273382867350991937537427975971115166902598765702026252729716130631506465599379389662350490451622618505392246672716684307300150988983234790669586569701913386720880643551032199981398744040035955368764234469325711226680055633389480074095899254456320
def BM35 : Nat := 202857134892728222244455403780239889732096631820631910664811230146099062855146473052224130364722436309490715726098786354848816111231680845226448353724275453289580670277217961928830076407081110482465587228976018799780290606465698196232041597111159153869078635638735543524306207918549051538549551164404570819071864354820267713799742030482847271235462527395385087504985278985294294036715279423317412236088134437741573828351126982707531493745059920401045295323758119680060244068380066847515299389583749286466143251601578398630740197236079859254441981368797290215252030523949959906421461737965638982831197169919730369179456856294549967631332332498659945988123043666582894622539775
theorem mM : M35 = pv 35 fun _ => 4294967295 := by decide
theorem m8 : M8 = pv 35 fun _ => 255 := by decide
theorem mO : O35 = pv 35 fun _ => 1 := by decide
theorem mC : C35 = pv 35 fun i => i % 256 * 65536 := by decide
theorem mB : BM35 = 2 ^ (64 * 35) - 1 := by decide +kernel
section
variable {R : Type}
noncomputable def secP (M O b b6 b9 b14 b15 BM : Nat) (seed leaf CL5 : Nat) (K : Nat → Nat → Nat → Nat → R) : R :=
 nfc (bcP O b 9 (Nat.add 83 (Nat.mul 256 (Nat.add seed (Nat.mul 115792089237316195423570985008687907853269984665640564039457584007913129639936 (o4K leaf)))))) fun C09 =>
 nfc (Nat.add C09 (Nat.shiftLeft (Nat.add (Nat.add CL5 (Nat.mul O 32768)) (Nat.shiftLeft (Nat.mul O 304) b6)) b9)) fun W => blkP M O b b9 b14 b15 BM W K
noncomputable def secK (seed leaf CL5 : Nat) (K : Nat → Nat → Nat → Nat → R) : R := secP M35 O35 2240 13440 20160 31360 33600 BM35 seed leaf CL5 K
noncomputable def idK (id leaf : Nat) : Nat := bcP O35 2240 5 (Nat.add 67 (Nat.mul 256 (Nat.add id (Nat.mul 340282366920938463463374607431768211456 (o4K leaf)))))
noncomputable def clK (leaf : Nat) : Nat := Nat.add (Nat.mul O35 (Nat.mul (Nat.mod leaf 256) 16777216)) C35
end
theorem clK_eq (leaf : Nat) : clK leaf = pv 35 fun i => leaf % 256 * 16777216 + i % 256 * 65536 := by
 unfold clK
 rw [mO, mC]
 show (pv 35 fun _ => 1) * (leaf % 256 * 16777216) + _ = _
 rw [pv_mul, pv_add]; simp only [Nat.one_mul]
theorem idK_eq {id : List UInt8} (hid : id.length = 16) (leaf : Nat) : idK (natOf id) leaf = pkB (2 ^ (64 * 35)) (lanes ((words (67 :: (id ++ (be4 leaf).take 3))).map fun w _ => w) 35) := by
 have e : Nat.add 67 (Nat.mul 256 (Nat.add (natOf id) (Nat.mul 340282366920938463463374607431768211456 (o4K leaf)))) = natOf (67 :: (id ++ be4 leaf)) := by
  show 67 + 256 * (natOf id + 340282366920938463463374607431768211456 * o4K leaf) = 67 + 256 * natOf (id ++ be4 leaf)
  rw [natOf_append, hid, o4K_eq]
 unfold idK
 rw [e, mO]
 have h := bcP_eq 35 5 (67 :: (id ++ be4 leaf)) (by simp [hid, be4])
 have ht : (67 :: (id ++ be4 leaf)).take (4 * 5) = 67 :: (id ++ (be4 leaf).take 3) := by
  rw [show 4 * 5 = 19 + 1 from rfl, List.take_succ_cons, List.take_append, List.take_of_length_le (l := id) (by omega), hid]
 rw [ht] at h
 exact h
theorem secP_eq {R : Type} (n : Nat) {seed : List UInt8} (hs : seed.length = 32) (leaf : Nat) (K : Nat → Nat → Nat → Nat → R) :
  ∃ A B C D, W32 A ∧ W32 B ∧ W32 C ∧ W32 D ∧ (∀ i, cat4 (A i) (B i) (C i) (D i) = secF seed leaf (i % 256)) ∧ secP (pv n fun _ => 4294967295) (pv n fun _ => 1) (64 * n) (64 * n * 6) (64 * n * 9) (64 * n * 14) (64 * n * 15) (2 ^ (64 * n) - 1) (natOf seed) leaf (pv n fun i => leaf % 256 * 16777216 + i % 256 * 65536) K = K (pv n A) (pv n B) (pv n C) (pv n D) := by
 have hw : (words (83 :: (seed ++ (be4 leaf).take 3))).length = 9 := by
  match seed, hs with
  | [x0, x1, x2, x3, x4, x5, x6, x7, x8, x9, x10, x11, x12, x13, x14, x15, y0, y1, y2, y3, y4, y5, y6, y7, y8, y9, y10, y11, y12, y13, y14, y15], _ => simp [words, be4]
 generalize hws : words (83 :: (seed ++ (be4 leaf).take 3)) = ws at hw
 have hwl : ∀ x ∈ ws, x < 4294967296 := hws ▸ words_lt _
 let N : Nat → H8 := fun i => iniH.block (ws ++ tail9 leaf (i % 256))
 have hN : ∀ i, (N i).lt := fun i => block_lt _ _
 refine ⟨fun i => (N i).a, fun i => (N i).b, fun i => (N i).c, fun i => (N i).d, fun i => (hN i).1, fun i => (hN i).2.1, fun i => (hN i).2.2.1, fun i => (hN i).2.2.2.1, fun i => by rw [secF_eq hs (Nat.mod_lt _ (by decide)), hws], ?_⟩
 let vt : List (Nat → Nat) := [fun i => leaf % 256 * 16777216 + i % 256 * 65536 + 32768, fun _ => 0, fun _ => 0, fun _ => 0, fun _ => 0, fun _ => 0, fun _ => 304]
 have hV : ∀ v ∈ (ws.map fun w (_ : Nat) => w) ++ vt, W32 v := fun v hv => by
  rcases List.mem_append.1 hv with h | h
  ·exact words5_lt hwl v h
  ·simp only [vt, List.mem_cons, List.not_mem_nil, or_false] at h
   rcases h with rfl | rfl | rfl | rfl | rfl | rfl | rfl <;> intro i <;> dsimp only <;> omega
 have e : Nat.add 83 (Nat.mul 256 (Nat.add (natOf seed) (Nat.mul 115792089237316195423570985008687907853269984665640564039457584007913129639936 (o4K leaf)))) = natOf (83 :: (seed ++ be4 leaf)) := by
  show 83 + 256 * (natOf seed + 115792089237316195423570985008687907853269984665640564039457584007913129639936 * o4K leaf) = 83 + 256 * natOf (seed ++ be4 leaf)
  rw [natOf_append, hs, o4K_eq]
 have h9 := bcP_eq n 9 (83 :: (seed ++ be4 leaf)) (by simp [hs, be4])
 have ht : (83 :: (seed ++ be4 leaf)).take (4 * 9) = 83 :: (seed ++ (be4 leaf).take 3) := by
  rw [show 4 * 9 = 35 + 1 from rfl, List.take_succ_cons, List.take_append, List.take_of_length_le (l := seed) (by omega), hs]
 rw [ht, hws] at h9
 unfold secP
 rw [e, nfc_eq, nfc_eq, h9]
 have ec : ∀ c : Nat, Nat.mul (pv n fun _ => 1) c = pv n fun _ => c := fun c => by
  show (pv n fun _ => 1) * c = _
  rw [pv_mul]; simp only [Nat.one_mul]
 have eT : pkB (2 ^ (64 * n)) (lanes vt n) = Nat.add (Nat.add (pv n fun i => leaf % 256 * 16777216 + i % 256 * 65536) (Nat.mul (pv n fun _ => 1) 32768)) (Nat.shiftLeft (Nat.mul (pv n fun _ => 1) 304) (64 * n * 6)) := by
  rw [ec, ec, shl_eq]
  show _ = _ + _ + 2 ^ (64 * n * 6) * _
  rw [pv_add, Nat.pow_mul 2 (64 * n) 6, ← tailT (2 ^ (64 * n))]
  simp only [lanes, vt, List.map_cons, List.map_nil, pkB, pv_zero]
 rw [← eT, shl_eq]
 have eW : (pkB (2 ^ (64 * n)) (lanes (ws.map fun w _ => w) n)) + 2 ^ (64 * n * 9) * pkB (2 ^ (64 * n)) (lanes vt n) = pkB (2 ^ (64 * n)) (lanes ((ws.map fun w (_ : Nat) => w) ++ vt) n) := by
  rw [show lanes ((ws.map fun w (_ : Nat) => w) ++ vt) n = lanes (ws.map fun w _ => w) n ++ lanes vt n from List.map_append, pkB_app]
  rw [show (lanes (ws.map fun w (_ : Nat) => w) n).length = 9 by simp [lanes, hw], Nat.pow_mul 2 (64 * n) 9]
 have eW : Nat.add (pkB (2 ^ (64 * n)) (lanes (ws.map fun w _ => w) n)) (2 ^ (64 * n * 9) * pkB (2 ^ (64 * n)) (lanes vt n)) = _ := eW
 rw [eW]
 have hb := blkP_eq n ((ws.map fun w (_ : Nat) => w) ++ vt) (by simp [vt, hw]) hV K
 have eL : ∀ i, ((ws.map fun w (_ : Nat) => w) ++ vt).map (fun v => v i) = ws ++ tail9 leaf (i % 256) := fun i => by
  rw [List.map_append, map_const]; rfl
 simp only [eL] at hb
 exact hb
theorem secK_eq {R : Type} {seed : List UInt8} (hs : seed.length = 32) (leaf : Nat) (K : Nat → Nat → Nat → Nat → R) :
  ∃ A B C D, W32 A ∧ W32 B ∧ W32 C ∧ W32 D ∧ (∀ i, cat4 (A i) (B i) (C i) (D i) = secF seed leaf (i % 256)) ∧ secK (natOf seed) leaf (pv 35 fun i => leaf % 256 * 16777216 + i % 256 * 65536) K = K (pv 35 A) (pv 35 B) (pv 35 C) (pv 35 D) := by
 have h := secP_eq 35 hs leaf K
 unfold secK
 rw [mM, mO, mB]
 exact h
theorem flat_congr {f g : Nat → List UInt8} {n : Nat} (h : ∀ i, i < n → f i = g i) : (List.range n).flatMap f = (List.range n).flatMap g := by
 have : (List.range n).map f = (List.range n).map g := List.map_congr_left fun i hi => h i (List.mem_range.1 hi)
 rw [List.flatMap_def, List.flatMap_def, this]
theorem flat_len {f : Nat → List UInt8} {k : Nat} (h : ∀ i, (f i).length = k) : ∀ n, ((List.range n).flatMap f).length = k * n
 | 0 => rfl
 | n + 1 => by rw [List.range_succ, List.flatMap_append, List.length_append, flat_len h n, List.flatMap_cons, List.flatMap_nil, List.append_nil, h, Nat.mul_succ]
end Go.K
end
section
namespace Go.K
open Go Go.Abs
theorem natOf_ex : ∀ (n s : Nat), s < 256 ^ n → ∃ t : List UInt8, t.length = n ∧ natOf t = s
 | 0, s, h => ⟨[], rfl, by simp at h; subst h; rfl⟩
 | n + 1, s, h => by
  obtain ⟨t, h1, h2⟩ := natOf_ex n (s / 256) (by rw [Nat.pow_succ] at h; omega)
  refine ⟨UInt8.ofNat (s % 256) :: t, by simp [h1], ?_⟩
  show (UInt8.ofNat (s % 256)).toNat + 256 * natOf t = s
  rw [UInt8.toNat_ofNat', h2]; omega
noncomputable def catK (l : List KV) : Nat → Nat → Nat → (Nat → Nat → Nat → QR) → QR :=
 List.rec (motive := fun _ => Nat → Nat → Nat → (Nat → Nat → Nat → QR) → QR) (fun k L N K => K k L N) (fun v _ ih k L N K => v.onStr (fun n s => bif' (Nat.blt s (Nat.pow 256 n)) (nfc (Nat.add L n) fun L' => nfc (Nat.add N (Nat.mul (Nat.pow 256 L) s)) fun N' => ih (Nat.succ k) L' N' K) none) none) l
theorem catK_ok {K : Nat → Nat → Nat → QR} {r : KV × KH} : ∀ {l : List KV} {k L N : Nat}, catK l k L N K = some r → ∃ es : List (List UInt8), es.length = l.length ∧ (∀ (i : Nat) (s : List UInt8), es[i]? = some s → l[i]? = some (.str s.length (natOf s))) ∧ K (k + l.length) (L + es.flatten.length) (N + 256 ^ L * natOf es.flatten) = some r
 | [], k, L, N, h => ⟨[], rfl, fun i s e => by simp at e, by
  have h : K k L N = some r := h
  simpa [natOf] using h⟩
 | v :: l, k, L, N, h => by
  have h : v.onStr (fun n s => bif' (Nat.blt s (Nat.pow 256 n)) (nfc (Nat.add L n) fun L' => nfc (Nat.add N (Nat.mul (Nat.pow 256 L) s)) fun N' => catK l (Nat.succ k) L' N' K) none) none = some r := h
  cases v <;> first | (cases h; done) | skip
  rename_i n s _
  have h : bif' (Nat.blt s (Nat.pow 256 n)) (nfc (Nat.add L n) fun L' => nfc (Nat.add N (Nat.mul (Nat.pow 256 L) s)) fun N' => catK l (Nat.succ k) L' N' K) none = some r := h
  rw [bif'_eq] at h
  split at h
  ·rename_i hlt
   have hlt : s < 256 ^ n := Nat.le_of_ble_eq_true hlt
   obtain ⟨t, ht1, ht2⟩ := natOf_ex n s hlt
   rw [nfc_eq, nfc_eq] at h
   obtain ⟨es, e1, e2, e3⟩ := catK_ok h
   refine ⟨t :: es, by simp [e1], ?_, ?_⟩
   ·intro i x hx
    cases i with
    | zero => simp at hx; subst hx; simp [ht1, ht2]
    | succ i => simpa using e2 i x (by simpa using hx)
   ·subst ht1 ht2
    rw [List.flatten_cons, List.length_append, natOf_append, List.length_cons]
    have q1 : k + (l.length + 1) = Nat.succ k + l.length := by omega
    have q2 : L + (t.length + es.flatten.length) = Nat.add L t.length + es.flatten.length := (Nat.add_assoc _ _ _).symm
    have q3 : N + 256 ^ L * (natOf t + 256 ^ t.length * natOf es.flatten) = Nat.add N (Nat.mul (Nat.pow 256 L) (natOf t)) + 256 ^ (Nat.add L t.length) * natOf es.flatten := by
     show _ = N + 256 ^ L * natOf t + 256 ^ (L + t.length) * natOf es.flatten
     rw [Nat.mul_add, Nat.pow_add, Nat.mul_assoc, Nat.add_assoc]
    rw [q1, q2, q3]; exact e3
  ·cases h
noncomputable def shaC (short : Bool) (args : List KV) (h : KH) : Option (KV × KH) := match args with
 | [.sl id off len c 1] => match h.get id with
  | some (.cells ro cs) => bif' (Nat.blt len 90000) (catK ((cs.drop off).take len) 0 0 0 fun k L N => bif' (Nat.beq k len) (bif' (Nat.blt L 90000) (shaK L N fun d => bif' short (nfc (Nat.mod d (Nat.pow 256 16)) fun d => some (.str 16 d, h)) (some (.str 32 d, h))) none) none) none
  | _ => none
 | _ => none
theorem shaC_ok {P : Program} {f : FuncId} {short : Bool} (hf : ∀ a : List (List UInt8), a.length < 90000 → a.flatten.length < 90000 → ACalls P (fun _ => []) f [.sl 1 (a.map fun s => [V.str s]) .none] ⟨[], []⟩ fun u _ => u = .str (if short then (sha a.flatten).take 16 else sha a.flatten))
  {args : List KV} {h h' : KH} {v : KV} (e : shaC short args h = some (v, h')) : KCall P f args h v h' := by
 unfold shaC at e
 split at e
 ·rename_i id off len c
  split at e
  ·rename_i ro cs hid
   rw [bif'_eq] at e
   split at e
   ·rename_i hlen
    have hlen : len < 90000 := Nat.le_of_ble_eq_true hlen
    obtain ⟨es, e1, e2, e3⟩ := catK_ok e
    simp only [bif'_eq, Nat.zero_add, Nat.pow_zero, Nat.one_mul] at e3
    split at e3
    ·rename_i hk
     have hk := Nat.eq_of_beq_eq_true hk
     split at e3
     ·rename_i hL
      have hL : es.flatten.length < 90000 := Nat.le_of_ble_eq_true hL
      rw [shaK_eq] at e3
      have key := KCall.ofA (args := [.sl id off len c 1]) (h := h) (hf es (by omega) hL) rfl (fun i x y hx hy => by
       cases i with
       | succ i => simp at hx
       | zero =>
        simp only [List.getElem?_cons_zero, Option.some.injEq] at hx hy
        subst hx hy
        refine .strs hid (by omega) fun i s hs => ?_
        have := e2 i s hs
        rw [List.getElem?_take] at this
        split at this
        ·rwa [List.getElem?_drop] at this
        ·cases this)
      cases short with
      | false =>
       simp only [Bool.false_eq_true, if_false, Option.some.injEq, Prod.mk.injEq] at e3 key
       obtain ⟨rfl, rfl⟩ := e3
       exact key
      | true =>
       simp only [if_true, nfc_eq, Option.some.injEq, Prod.mk.injEq] at e3 key
       obtain ⟨rfl, rfl⟩ := e3
       have : V.toK (.str ((sha es.flatten).take 16)) = .str 16 (Nat.mod (natOf (sha es.flatten)) (Nat.pow 256 16)) := by
        show KV.str _ _ = _
        rw [natOf_take]; rfl
       rw [this] at key; exact key
     ·cases e3
    ·cases e3
   ·cases e
  ·cases e
 ·cases e
section
variable {R : Type}
noncomputable def posP (n M M8 O b b5 b9 b14 b15 BM T C04 CL5 : Nat) (ps : List Nat) : Nat → Nat → Nat → Nat → (List Nat → R) → R :=
 List.rec (motive := fun _ => Nat → Nat → Nat → Nat → (List Nat → R) → R) (fun A B C D K => nfc (outP n A B C D) fun o => K [o]) (fun p _ ih A B C D K => nfc (outP n A B C D) fun o =>
  stepP M M8 O b b5 b9 b14 b15 BM T C04 CL5 p A B C D fun a b c d => ih a b c d fun l => K (o :: l)) ps
end
theorem posP_eq {R : Type} (n : Nat) {id : List UInt8} (hid : id.length = 16) {leaf : Nat} : ∀ (m a : Nat) (A B C D : Nat → Nat) (K : List Nat → R), a + m < 256 → W32 A → W32 B → W32 C → W32 D →
  ∃ L : List Nat, L.length = m + 1 ∧ (∀ j, j ≤ m → L[j]? = some (natOf ((List.range n).flatMap fun i => walkF id leaf (i % 256) a j (cat4 (A i) (B i) (C i) (D i))))) ∧
  posP n (pv n fun _ => 4294967295) (pv n fun _ => 255) (pv n fun _ => 1) (64 * n) (64 * n * 5) (64 * n * 9) (64 * n * 14) (64 * n * 15) (2 ^ (64 * n) - 1) (Nat.add (pv n fun _ => 128) (Nat.shiftLeft (pv n fun _ => 312) (64 * n * 6))) (pkB (2 ^ (64 * n)) (lanes ((words (67 :: (id ++ (be4 leaf).take 3))).map fun w _ => w) n)) (pv n fun i => leaf % 256 * 16777216 + i % 256 * 65536) (List.range' a m) (pv n A) (pv n B) (pv n C) (pv n D) K = K L
 | 0, a, A, B, C, D, K, ha, hA, hB, hC, hD => by
  refine ⟨[natOf ((List.range n).flatMap fun i => cat4 (A i) (B i) (C i) (D i))], rfl, fun j hj => ?_, ?_⟩
  ·obtain rfl : j = 0 := by omega
   rfl
  ·show nfc _ _ = _
   rw [nfc_eq, outP_eq n hA hB hC hD]
 | m + 1, a, A, B, C, D, K, ha, hA, hB, hC, hD => by
  have hw : (words (67 :: (id ++ (be4 leaf).take 3))).length = 5 := by
   match id, hid with
   | [x0, x1, x2, x3, x4, x5, x6, x7, x8, x9, x10, x11, x12, x13, x14, x15], _ => rfl
  let N : Nat → H8 := fun i => iniH.block (words (67 :: (id ++ (be4 leaf).take 3)) ++ tail5 leaf (i % 256) a (A i) (B i) (C i) (D i))
  have hN : ∀ i, (N i).lt := fun i => block_lt _ _
  obtain ⟨L, h1, h2, h3⟩ := posP_eq n (leaf := leaf) hid m (a + 1) (fun i => (N i).a) (fun i => (N i).b) (fun i => (N i).c) (fun i => (N i).d) (fun l => K (natOf ((List.range n).flatMap fun i => cat4 (A i) (B i) (C i) (D i)) :: l)) (by omega)
   (fun i => (hN i).1) (fun i => (hN i).2.1) (fun i => (hN i).2.2.1) (fun i => (hN i).2.2.2.1)
  refine ⟨natOf ((List.range n).flatMap fun i => cat4 (A i) (B i) (C i) (D i)) :: L, by simp [h1], fun j hj => ?_, ?_⟩
  ·cases j with
   | zero => rfl
   | succ j =>
    rw [List.getElem?_cons_succ, h2 j (by omega)]
    refine congrArg some (congrArg natOf (flat_congr fun i hi => ?_))
    rw [walkF, stepF_eq hid (Nat.mod_lt _ (by decide)) (by omega) (hA i) (hB i) (hC i) (hD i)]
  ·rw [List.range'_succ]
   have step : ∀ M M8 O b b5 b9 b14 b15 BM T C04 CL5 A B C D, posP n M M8 O b b5 b9 b14 b15 BM T C04 CL5 (a :: List.range' (a + 1) m) A B C D K =
    stepP M M8 O b b5 b9 b14 b15 BM T C04 CL5 a A B C D fun a' b' c d => posP n M M8 O b b5 b9 b14 b15 BM T C04 CL5 (List.range' (a + 1) m) a' b' c d fun l => K (outP n A B C D :: l) := by
    intros
    unfold posP
    dsimp only
    simp only [nfc_eq]
   rw [step, outP_eq n hA hB hC hD, stepP_eq n hw (words_lt _) (fun i => Nat.mod_lt i (by decide)) (by omega) hA hB hC hD]
   exact h3
noncomputable def posV (id seed leaf : Nat) : List Nat := nfc (clK leaf) fun CL5 => nfc (idK id leaf) fun C04 => secK seed leaf CL5 fun A B C D =>
 nfc (Nat.add (Nat.mul O35 128) (Nat.shiftLeft (Nat.mul O35 312) 13440)) fun T => posP 35 M35 M8 O35 2240 11200 20160 31360 33600 BM35 T C04 CL5 [0, 1, 2, 3, 4, 5, 6, 7, 8, 9, 10, 11, 12, 13, 14] A B C D fun l => l
def chain (id seed : List UInt8) (leaf j c : Nat) : List UInt8 := walkF id leaf c 0 j (secF seed leaf c)
theorem posV_eq {id seed : List UInt8} (hid : id.length = 16) (hs : seed.length = 32) (leaf : Nat) : ∀ j, j ≤ 15 → (posV (natOf id) (natOf seed) leaf)[j]? = some (natOf ((List.range 35).flatMap fun c => chain id seed leaf j c)) := by
 unfold posV
 rw [nfc_eq, nfc_eq, clK_eq]
 obtain ⟨A, B, C, D, h1, h2, h3, h4, h5, h6⟩ := secK_eq hs leaf (fun A B C D => nfc (Nat.add (Nat.mul O35 128) (Nat.shiftLeft (Nat.mul O35 312) 13440)) fun T => posP 35 M35 M8 O35 2240 11200 20160 31360 33600 BM35 T (idK (natOf id) leaf) (pv 35 fun i => leaf % 256 * 16777216 + i % 256 * 65536) [0, 1, 2, 3, 4, 5, 6, 7, 8, 9, 10, 11, 12, 13, 14] A B C D fun l => l)
 rw [h6, nfc_eq]
 obtain ⟨L, g1, g2, g3⟩ := posP_eq 35 (leaf := leaf) hid 15 0 A B C D (fun l => l) (by omega) h1 h2 h3 h4
 have ec : ∀ c : Nat, Nat.mul (pv 35 fun _ => 1) c = pv 35 fun _ => c := fun c => by
  show (pv 35 fun _ => 1) * c = _
  rw [pv_mul]; simp only [Nat.one_mul]
 have e : posP 35 M35 M8 O35 2240 11200 20160 31360 33600 BM35 (Nat.add (Nat.mul O35 128) (Nat.shiftLeft (Nat.mul O35 312) 13440)) (idK (natOf id) leaf) (pv 35 fun i => leaf % 256 * 16777216 + i % 256 * 65536) [0, 1, 2, 3, 4, 5, 6, 7, 8, 9, 10, 11, 12, 13, 14] (pv 35 A) (pv 35 B) (pv 35 C) (pv 35 D) (fun l => l) = L := by
  rw [idK_eq hid, mM, m8, mO, mB, ec, ec]
  exact g3
 intro j hj
 rw [e, g2 j hj]
 refine congrArg some (congrArg natOf (flat_congr fun i hi => ?_))
 rw [h5 i, Nat.mod_eq_of_lt (by omega)]
 rfl
theorem flat_drop {f : Nat → List UInt8} {k : Nat} (h : ∀ i, (f i).length = k) : ∀ (n c : Nat), c < n → (((List.range n).flatMap f).drop (k * c)).take k = f c
 | 0, c, hc => absurd hc (Nat.not_lt_zero c)
 | n + 1, c, hc => by
  rw [List.range_succ, List.flatMap_append, List.flatMap_cons, List.flatMap_nil, List.append_nil]
  have hl := flat_len h n
  rcases Nat.lt_or_ge c n with hcn | hcn
  ·have : k * c + k ≤ k * n := by rw [← Nat.mul_succ]; exact Nat.mul_le_mul_left k hcn
   rw [List.drop_append_of_le_length (by omega), List.take_append_of_le_length (by rw [List.length_drop]; omega)]
   exact flat_drop h n c hcn
  ·obtain rfl : c = n := by omega
   rw [List.drop_append, List.drop_of_length_le (by omega), hl, Nat.sub_self, List.drop_zero, List.nil_append, List.take_of_length_le (by rw [h]; exact Nat.le_refl _)]
theorem chain_len (id seed : List UInt8) (leaf j c : Nat) : (chain id seed leaf j c).length = 16 := by
 have key : ∀ (n p : Nat) (v : List UInt8), v.length = 16 → (walkF id leaf c p n v).length = 16 := fun n => by
  induction n with
  | zero => exact fun p v h => h
  | succ n ih => exact fun p v h => ih _ _ rfl
 exact key _ _ _ rfl
theorem walkF_add (id : List UInt8) (leaf c : Nat) : ∀ (i p j : Nat) (v : List UInt8), walkF id leaf c p (i + j) v = walkF id leaf c (p + i) j (walkF id leaf c p i v)
 | 0, p, j, v => by rw [Nat.zero_add]; rfl
 | i + 1, p, j, v => by rw [show i + 1 + j = (i + j) + 1 by omega, walkF, walkF_add id leaf c i (p + 1) j, show p + 1 + i = p + (i + 1) by omega]; rfl
theorem chain_walk (id seed : List UInt8) (leaf c i j : Nat) : walkF id leaf c i j (chain id seed leaf i c) = chain id seed leaf (i + j) c := by
 unfold chain
 rw [walkF_add id leaf c i 0 j, Nat.zero_add]
noncomputable def atK (l : List Nat) (j : Nat) (K : Nat → QR) : QR := List.rec (motive := fun _ => Nat → QR) (fun _ => none) (fun x _ ih j => Nat.rec (motive := fun _ => QR) (K x) (fun j _ => ih j) j) l j
theorem atK_some {K : Nat → QR} {r : KV × KH} : ∀ {l : List Nat} {j : Nat}, atK l j K = some r → ∃ x, l[j]? = some x ∧ K x = some r
 | [], j, h => by cases h
 | x :: l, 0, h => ⟨x, rfl, h⟩
 | x :: l, j + 1, h => by
  obtain ⟨y, h1, h2⟩ := atK_some (l := l) (j := j) h
  exact ⟨y, by simpa using h1, h2⟩
noncomputable def pieceK (x c : Nat) : Nat := Nat.land (Nat.shiftRight x (Nat.mul 128 c)) 340282366920938463463374607431768211455
theorem pieceK_eq {f : Nat → List UInt8} (h : ∀ i, (f i).length = 16) {c : Nat} (hc : c < 35) : pieceK (natOf ((List.range 35).flatMap f)) c = natOf (f c) := by
 show (natOf ((List.range 35).flatMap f) >>> (128 * c)) &&& 340282366920938463463374607431768211455 = _
 have e : (340282366920938463463374607431768211455 : Nat) = 2 ^ 128 - 1 := by decide
 rw [e, Nat.and_two_pow_sub_one_eq_mod, show 128 * c = 8 * (16 * c) by omega]
 have := shr_drop ((List.range 35).flatMap f) (16 * c)
 have this : natOf ((List.range 35).flatMap f) >>> (8 * (16 * c)) = natOf (((List.range 35).flatMap f).drop (16 * c)) := this
 rw [this, show (2 : Nat) ^ 128 = 256 ^ 16 by decide, ← natOf_take, flat_drop h 35 c hc]
noncomputable def seedOf (t : List (Nat × Nat)) (id : Nat) (K : Nat → QR) : QR := List.rec (motive := fun _ => QR) none (fun p _ ih => Prod.rec (motive := fun _ => QR) (fun i s => bif' (Nat.beq i id) (K s) ih) p) t
theorem seedOf_some {id : Nat} {K : Nat → QR} {r : KV × KH} : ∀ {t : List (Nat × Nat)}, seedOf t id K = some r → ∃ s, (id, s) ∈ t ∧ K s = some r
 | [], h => by cases h
 | (i, s) :: t, h => by
  have h : bif' (Nat.beq i id) (K s) (seedOf t id K) = some r := h
  rw [bif'_eq] at h
  split at h
  ·rename_i hi
   exact ⟨s, by rw [Nat.eq_of_beq_eq_true hi]; exact .head _, h⟩
  ·obtain ⟨s, h1, h2⟩ := seedOf_some h
   exact ⟨s, .tail _ h1, h2⟩
noncomputable def idOf (t : List (Nat × Nat)) (seed : Nat) (K : Nat → QR) : QR := List.rec (motive := fun _ => QR) none (fun p _ ih => Prod.rec (motive := fun _ => QR) (fun i s => bif' (Nat.beq s seed) (K i) ih) p) t
theorem idOf_some {seed : Nat} {K : Nat → QR} {r : KV × KH} : ∀ {t : List (Nat × Nat)}, idOf t seed K = some r → ∃ i, (i, seed) ∈ t ∧ K i = some r
 | [], h => by cases h
 | (i, s) :: t, h => by
  have h : bif' (Nat.beq s seed) (K i) (idOf t seed K) = some r := h
  rw [bif'_eq] at h
  split at h
  ·rename_i hi
   exact ⟨i, by rw [Nat.eq_of_beq_eq_true hi]; exact .head _, h⟩
  ·obtain ⟨s, h1, h2⟩ := idOf_some h
   exact ⟨s, .tail _ h1, h2⟩
def tabOk (t : List (Nat × Nat)) : Prop := ∀ p ∈ t, p.1 < 256 ^ 16 ∧ p.2 < 256 ^ 32
noncomputable def intN {R : Type} (i : Int) (K : Nat → R) (F : R) : R := Int.rec (motive := fun _ => R) (fun n => K n) (fun _ => F) i
theorem intN_some {i : Int} {K : Nat → Option (KV × KH)} {r : KV × KH} (h : intN i K none = some r) : ∃ n : Nat, i = (n : Int) ∧ K n = some r := by
 cases i with
 | ofNat n => exact ⟨n, rfl, h⟩
 | negSucc n => cases h
noncomputable def walkN (t : List (Nat × Nat)) (id leaf c a b v : Nat) (h : KH) : QR :=
 seedOf t id fun seed => bif' (Nat.blt c 35) (bif' (Nat.ble a b) (bif' (Nat.ble b 15) (atK (posV id seed leaf) a fun x => bif' (Nat.beq (pieceK x c) v) (atK (posV id seed leaf) b fun y => nfc (pieceK y c) fun d => some (.str 16 d, h)) none) none) none) none
noncomputable def walkC (t : List (Nat × Nat)) (args : List KV) (h : KH) : Option (KV × KH) := match args with
 | [.str n id, .int k1 leaf, .int k2 c, .int k3 a, .int k4 b, .str m v] => match k1, k2, k3, k4 with
  | .i64, .i64, .i64, .i64 => bif' (Nat.beq n 16) (bif' (Nat.beq m 16) (intN leaf (fun leaf => intN c (fun c => intN a (fun a => intN b (fun b => walkN t id leaf c a b v h) none) none) none) none) none) none
  | _, _, _, _ => none
 | _ => none
noncomputable def secC (t : List (Nat × Nat)) (args : List KV) (h : KH) : Option (KV × KH) := match args with
 | [.str m seed, .int k1 leaf, .int k2 c] => match k1, k2 with
  | .i64, .i64 => bif' (Nat.beq m 32) (intN leaf (fun leaf => intN c (fun c => idOf t seed fun id => bif' (Nat.blt c 35) (atK (posV id seed leaf) 0 fun x => nfc (pieceK x c) fun d => some (.str 16 d, h)) none) none) none) none
  | _, _ => none
 | _ => none
theorem walkC_ok {P : Program} {f : FuncId} {t : List (Nat × Nat)} (ht : tabOk t) (hf : ∀ (id : List UInt8) (leaf c a j : Nat) (v : List UInt8), id.length = 16 → v.length = 16 → a + j < 1000 → ACalls P (fun _ => []) f [.str id, .int .i64 leaf, .int .i64 c, .int .i64 a, .int .i64 ((a + j : Nat) : Int), .str v] ⟨[], []⟩ fun u _ => u = .str (walkF id leaf c a j v))
  {args : List KV} {h h' : KH} {r : KV} (e : walkC t args h = some (r, h')) : KCall P f args h r h' := by
 unfold walkC at e
 split at e
 ·rename_i n id k1 leaf k2 c k3 a k4 b m v
  split at e
  ·simp only [bif'_eq] at e
   split at e
   ·rename_i hn
    split at e
    ·rename_i hm
     have hn := Nat.eq_of_beq_eq_true hn
     have hm := Nat.eq_of_beq_eq_true hm
     subst hn hm
     obtain ⟨leaf, e1, e2⟩ := intN_some e
     subst e1; clear e
     obtain ⟨c, e1, e3⟩ := intN_some e2
     subst e1; clear e2
     obtain ⟨a, e1, e4⟩ := intN_some e3
     subst e1; clear e3
     obtain ⟨b, e1, e5⟩ := intN_some e4
     subst e1; clear e4
     unfold walkN at e5
     obtain ⟨seed, hs, e6⟩ := seedOf_some e5
     clear e5
     obtain ⟨hi, hse⟩ := ht _ hs
     obtain ⟨idl, hid, hid2⟩ := natOf_ex 16 id hi
     obtain ⟨sl, hsl, hsl2⟩ := natOf_ex 32 seed hse
     subst hid2 hsl2
     simp only [bif'_eq] at e6
     split at e6
     ·rename_i hc
      have hc : c < 35 := Nat.le_of_ble_eq_true hc
      split at e6
      ·rename_i hab
       have hab := Nat.le_of_ble_eq_true hab
       split at e6
       ·rename_i hb
        have hb := Nat.le_of_ble_eq_true hb
        obtain ⟨x, hx, e7⟩ := atK_some e6
        clear e6
        rw [posV_eq hid hsl leaf a (by omega)] at hx
        have hx := (Option.some.inj hx).symm
        subst hx
        rw [pieceK_eq (fun i => chain_len _ _ _ _ i) hc] at e7
        split at e7
        ·rename_i hv
         have hv := (Nat.eq_of_beq_eq_true hv).symm
         subst hv
         obtain ⟨y, hy, e8⟩ := atK_some e7
         clear e7
         rw [posV_eq hid hsl leaf b (by omega)] at hy
         have hy := (Option.some.inj hy).symm
         subst hy
         rw [pieceK_eq (fun i => chain_len _ _ _ _ i) hc, nfc_eq] at e8
         simp only [Option.some.injEq, Prod.mk.injEq] at e8
         obtain ⟨e9, e10⟩ := e8
         subst e9 e10
         have hv16 := chain_len idl sl leaf a c
         have key := KCall.ofA (args := [.str 16 (natOf idl), .int .i64 leaf, .int .i64 c, .int .i64 a, .int .i64 ((a + (b - a) : Nat) : Int), .str 16 (natOf (chain idl sl leaf a c))]) (h := h) (hf idl leaf c a (b - a) (chain idl sl leaf a c) hid hv16 (by omega)) rfl (fun i x y hx hy => by
          match i with
          | 0 =>
           simp only [List.getElem?_cons_zero, Option.some.injEq] at hx hy
           subst hx hy
           have := KA.str (h := h) idl
           rwa [hid] at this
          | 1 => simp only [List.getElem?_cons_zero, List.getElem?_cons_succ, Option.some.injEq] at hx hy; subst hx hy; exact .int _ _
          | 2 => simp only [List.getElem?_cons_zero, List.getElem?_cons_succ, Option.some.injEq] at hx hy; subst hx hy; exact .int _ _
          | 3 => simp only [List.getElem?_cons_zero, List.getElem?_cons_succ, Option.some.injEq] at hx hy; subst hx hy; exact .int _ _
          | 4 => simp only [List.getElem?_cons_zero, List.getElem?_cons_succ, Option.some.injEq] at hx hy; subst hx hy; exact .int _ _
          | 5 =>
           simp only [List.getElem?_cons_zero, List.getElem?_cons_succ, Option.some.injEq] at hx hy
           subst hx hy
           have := KA.str (h := h) (chain idl sl leaf a c)
           rwa [hv16] at this
          | i + 6 => simp at hx)
         rw [chain_walk, show a + (b - a) = b by omega] at key
         have ev : V.toK (.str (chain idl sl leaf b c)) = .str 16 (natOf (chain idl sl leaf b c)) := by
          show KV.str _ _ = _
          rw [chain_len]
         rw [ev] at key
         exact key
        ·cases e7
       ·cases e6
      ·cases e6
     ·cases e6
    ·cases e
   ·cases e
  ·cases e
 ·cases e
theorem secC_ok {P : Program} {f : FuncId} {t : List (Nat × Nat)} (ht : tabOk t) (hf : ∀ (seed : List UInt8) (leaf c : Nat), seed.length = 32 → ACalls P (fun _ => []) f [.str seed, .int .i64 leaf, .int .i64 c] ⟨[], []⟩ fun u _ => u = .str (secF seed leaf c))
  {args : List KV} {h h' : KH} {r : KV} (e : secC t args h = some (r, h')) : KCall P f args h r h' := by
 unfold secC at e
 split at e
 ·rename_i m seed k1 leaf k2 c
  split at e
  ·simp only [bif'_eq] at e
   split at e
   ·rename_i hm
    have hm := Nat.eq_of_beq_eq_true hm
    subst hm
    obtain ⟨leaf, e1, e2⟩ := intN_some e
    subst e1; clear e
    obtain ⟨c, e1, e3⟩ := intN_some e2
    subst e1; clear e2
    obtain ⟨id, hs, e6⟩ := idOf_some e3
    clear e3
    obtain ⟨hi, hse⟩ := ht _ hs
    obtain ⟨idl, hid, hid2⟩ := natOf_ex 16 id hi
    obtain ⟨sl, hsl, hsl2⟩ := natOf_ex 32 seed hse
    subst hid2 hsl2
    split at e6
    ·rename_i hc
     have hc : c < 35 := Nat.le_of_ble_eq_true hc
     obtain ⟨x, hx, e8⟩ := atK_some e6
     clear e6
     rw [posV_eq hid hsl leaf 0 (by omega)] at hx
     rw [← Option.some.inj hx] at e8
     rw [pieceK_eq (fun i => chain_len _ _ _ _ i) hc, nfc_eq] at e8
     simp only [Option.some.injEq, Prod.mk.injEq] at e8
     obtain ⟨e9, e10⟩ := e8
     subst e9 e10
     have key := KCall.ofA (args := [.str 32 (natOf sl), .int .i64 leaf, .int .i64 c]) (h := h) (hf sl leaf c hsl) rfl (fun i x y hx hy => by
      match i with
      | 0 =>
       simp only [List.getElem?_cons_zero, Option.some.injEq] at hx hy
       subst hx hy
       have := KA.str (h := h) sl
       rwa [hsl] at this
      | 1 => simp only [List.getElem?_cons_zero, List.getElem?_cons_succ, Option.some.injEq] at hx hy; subst hx hy; exact .int _ _
      | 2 => simp only [List.getElem?_cons_zero, List.getElem?_cons_succ, Option.some.injEq] at hx hy; subst hx hy; exact .int _ _
      | i + 3 => simp at hx)
     have ev : V.toK (.str (secF sl leaf c)) = .str 16 (natOf (chain idl sl leaf 0 c)) := by
      show KV.str (secF sl leaf c).length _ = _
      rw [show (secF sl leaf c).length = 16 from rfl]; rfl
     rw [ev] at key
     exact key
    ·cases e6
   ·cases e
  ·cases e
 ·cases e
end Go.K
end
