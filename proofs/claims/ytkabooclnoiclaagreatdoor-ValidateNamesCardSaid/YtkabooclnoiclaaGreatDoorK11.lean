/- The layer of closed runs: a part. No condition beyond each statement's own. -/
import Derived.Test.YtkabooclnoiclaaGreatDoorK10
set_option linter.unusedVariables false
set_option linter.unusedSimpArgs false
set_option linter.unnecessarySimpa false
section
namespace Go.K
open Go.Abs
noncomputable def KO.onCells (o:KO) (f:Bool→List KV→QR):QR:=KO.rec (motive:=fun _=>QR) f (fun _ _=>none) (fun _ _ _=>none) (fun _ _ _ _=>none) (fun _=>none) (fun _=>none) o
section
variable {R:Type}
noncomputable def KV.fc (v:KV) (K:KV→R):R:=
 KV.rec (motive_1:=fun _=>(KV→R)→R) (motive_2:=fun _=>(List KV→R)→R) (fun K=>K .junk) (fun b K=>bfc b fun b=>K (.bool b)) (fun k n K=>ifc n fun n=>K (.int k n)) (fun n s K=>nfc n fun n=>nfc s fun s=>K (.str n s))
  (fun i o K=>nfc i fun i=>nfc o fun o=>K (.ptr i o)) (fun K=>K .nilp) (fun i o l c s K=>nfc i fun i=>nfc o fun o=>nfc l fun l=>Uc c fun c=>nfc s fun s=>K (.sl i o l c s)) (fun K=>K .slz) (fun K=>K .nilsl)
  (fun fn _ _ h1 h2 K=>h1 fun a=>h2 fun b=>K (.func fn a b)) (fun K=>K .nilfunc) (fun i K=>nfc i fun i=>K (.yield i)) (fun _ h K=>h fun a=>K (.agg a)) (fun _ h K=>h fun a=>K (.tuple a))
  (fun i K=>nfc i fun i=>K (.map i)) (fun K=>K .nilmap) (fun t _ h K=>h fun v=>K (.iface t v)) (fun K=>K .niliface) (fun K=>K []) (fun _ _ h1 h2 K=>h1 fun v=>h2 fun r=>K (v::r)) v K
noncomputable def KV.fcs (l:List KV) (K:List KV→R):R:=
 KV.rec_1 (motive_1:=fun _=>(KV→R)→R) (motive_2:=fun _=>(List KV→R)→R) (fun K=>K .junk) (fun b K=>bfc b fun b=>K (.bool b)) (fun k n K=>ifc n fun n=>K (.int k n)) (fun n s K=>nfc n fun n=>nfc s fun s=>K (.str n s))
  (fun i o K=>nfc i fun i=>nfc o fun o=>K (.ptr i o)) (fun K=>K .nilp) (fun i o l c s K=>nfc i fun i=>nfc o fun o=>nfc l fun l=>Uc c fun c=>nfc s fun s=>K (.sl i o l c s)) (fun K=>K .slz) (fun K=>K .nilsl)
  (fun fn _ _ h1 h2 K=>h1 fun a=>h2 fun b=>K (.func fn a b)) (fun K=>K .nilfunc) (fun i K=>nfc i fun i=>K (.yield i)) (fun _ h K=>h fun a=>K (.agg a)) (fun _ h K=>h fun a=>K (.tuple a))
  (fun i K=>nfc i fun i=>K (.map i)) (fun K=>K .nilmap) (fun t _ h K=>h fun v=>K (.iface t v)) (fun K=>K .niliface) (fun K=>K []) (fun _ _ h1 h2 K=>h1 fun v=>h2 fun r=>K (v::r)) l K
theorem KV.fc_both:(∀(v:KV) (K:KV→R),v.fc K=K v)∧∀(l:List KV) (K:List KV→R),KV.fcs l K=K l:=by
 have a1:∀K,KV.fc (R:=R) .junk K=K .junk:=fun _=>rfl
 refine ⟨fun v=>KV.rec (motive_1:=fun v=>∀K:KV→R,v.fc K=K v) (motive_2:=fun l=>∀K:List KV→R,KV.fcs l K=K l) ?_ ?_ ?_ ?_ ?_ ?_ ?_ ?_ ?_ ?_ ?_ ?_ ?_ ?_ ?_ ?_ ?_ ?_ ?_ ?_ v,
  fun l=>KV.rec_1 (motive_1:=fun v=>∀K:KV→R,v.fc K=K v) (motive_2:=fun l=>∀K:List KV→R,KV.fcs l K=K l) ?_ ?_ ?_ ?_ ?_ ?_ ?_ ?_ ?_ ?_ ?_ ?_ ?_ ?_ ?_ ?_ ?_ ?_ ?_ ?_ l⟩
 all_goals first
  |exact fun K=>rfl
  |exact fun b K=>X4 b fun b=>K (.bool b)
  |exact fun k n K=>JD n fun n=>K (.int k n)
  |exact fun n s K=>(zi n fun n=>nfc s fun s=>K (.str n s)).trans (zi s fun s=>K (.str n s))
  |exact fun i o K=>(zi i fun i=>nfc o fun o=>K (.ptr i o)).trans (zi o fun o=>K (.ptr i o))
  |exact fun i o l c s K=>(zi i fun i=>nfc o fun o=>nfc l fun l=>Uc c fun c=>nfc s fun s=>K (.sl i o l c s)).trans ((zi o fun o=>nfc l fun l=>Uc c fun c=>nfc s fun s=>K (.sl i o l c s)).trans ((zi l fun l=>Uc c fun c=>nfc s fun s=>K (.sl i o l c s)).trans ((QJ c fun c=>nfc s fun s=>K (.sl i o l c s)).trans (zi s fun s=>K (.sl i o l c s)))))
  |exact fun fn a b h1 h2 K=>(h1 fun a=>KV.fcs b fun b=>K (.func fn a b)).trans (h2 fun b=>K (.func fn a b))
  |exact fun i K=>zi i fun i=>K (.yield i)
  |exact fun i K=>zi i fun i=>K (.map i)
  |exact fun a h K=>h fun a=>K (.agg a)
  |exact fun a h K=>h fun a=>K (.tuple a)
  |exact fun t v h K=>h fun v=>K (.iface t v)
  |exact fun v r h1 h2 K=>(h1 fun v=>KV.fcs r fun r=>K (v::r)).trans (h2 fun r=>K (v::r))
theorem KV.fc_eq (v:KV) (K:KV→R):v.fc K=K v:=KV.fc_both.1 v K
theorem KV.fcs_eq (l:List KV) (K:List KV→R):KV.fcs l K=K l:=KV.fc_both.2 l K
end
def QOk (e:QR) (s:Option (KV×KH)) (K:QK):Prop:=∀r,e=some r→∃v h,s=some (v,h)∧K v h=some r
theorem QOk.none (s:Option (KV×KH)) (K:QK):QOk none s K:=fun _ e=>by cases e
theorem QOk.one {s:Option (KV×KH)} {K:QK} {v:KV} {h:KH} (e:s=some (v,h)):QOk (K v h) s K:=fun r q=>⟨v,h,e,q⟩
section
variable {h:KH} {K:QK}
noncomputable def ZH (p:KV) (h:KH) (K:QK):QR:=p.onPtr (fun id off=>xO h id fun o=>o.onCells fun _ cs=>Bs cs off fun v=>K v h) none
noncomputable def ZC (n:Nat) (p:KV) (h:KH) (K:QK):QR:=p.onPtr (fun id off=>xO h id fun o=>o.onCells fun _ cs=>Zk cs off fun l=>bY l n fun l=>K (.agg l) h) none
theorem Xc (p:KV) (n:Nat):QOk (ZH p h K) ((j3 h p n false).map fun v=>(v,h)) K:=by
 cases p<;>try exact .none _ _
 rename_i id off
 show QOk (xO h id _) _ _
 rw [xj]
 simp only [j3]
 cases h.get id with
 |none=>exact .none _ _
 | some o=>
  cases o<;>try exact .none _ _
  rename_i ro cs
  show QOk (Bs cs off _) _ _
  rw [pO]
  simp only [krd]
  cases cs[off]? with
  |none=>exact .none _ _
  |some v=>exact .one rfl
theorem Y6 (p:KV) (n:Nat):QOk (ZC n p h K) ((j3 h p n true).map fun v=>(v,h)) K:=by
 cases p<;>try exact .none _ _
 rename_i id off
 show QOk (xO h id _) _ _
 rw [xj]
 simp only [j3]
 cases h.get id with
 |none=>exact .none _ _
 | some o=>
  cases o<;>try exact .none _ _
  rename_i ro cs
  simp only [Option.elim_some,KO.onCells]
  rw [qL,qY]
  simp only [krd,if_true]
  split
  ·exact .one rfl
  ·exact .none _ _
noncomputable def Df (n:Nat) (p v:KV) (h:KH) (K:QK):QR:=
 p.onPtr (fun id off=>xO h id fun o=>o.onCells fun ro cs=>zb ro none (gz v n fun new=>XI cs off n new fun cs=>j5 h id (.cells false cs) fun h=>K (.tuple []) h)) none
theorem K7 (n:Nat) (p v:KV):QOk (Df n p v h K) ((dN h p v n).map fun h=>(.tuple [],h)) K:=by
 cases p<;>try exact .none _ _
 rename_i id off
 show QOk (xO h id _) _ _
 rw [xj]
 simp only [dN]
 cases h.get id with
 |none=>exact .none _ _
 | some o=>
  cases o<;>try exact .none _ _
  rename_i ro cs
  cases ro with
  |true=>exact .none _ _
  | false=>
   simp only [Option.elim_some,KO.onCells,za,Bool.false_eq_true,if_false]
   rw [ph]
   by_cases h1:v.cells.length=n∧KV.isCells v.cells=true
   ·rw [if_pos h1,pF]
    by_cases h2:off+n≤cs.length
    ·rw [if_pos h2,v6]
     simp only [h1,h2,and_self,if_true]
     exact .one rfl
    ·rw [if_neg h2]; exact .none _ _
   ·rw [if_neg h1]; exact .none _ _
noncomputable def Pl (k:Nat) (p:KV) (h:KH) (K:QK):QR:=p.onPtr (fun id off=>nfc (Nat.add off k) fun off=>K (.ptr id off) h) none
theorem BX {d:TD} {fs:List (Nat×Nat)} {f k n:Nat} (hd:d= .struct fs) (hf:fs[f]? =some (k,n)) (hn:n≠0) (p:KV):QOk (Pl k p h K) ((w6 d p f).map fun v=>(v,h)) K:=by
 subst hd
 cases p<;>try exact .none _ _
 rename_i id off
 simp only [Pl,KV.onPtr,zi,w6,hf,ne_eq,hn,not_false_iff,if_true]
 exact .one rfl
noncomputable def q9 (i:Int) (f:Nat→QR):QR:=Int.rec (motive:=fun _=>QR) f (fun _=>none) i
theorem ur (i:Int) (f:Nat→QR):q9 i f=if 0≤i then f i.toNat else none:=by
 cases i with
 |ofNat n=>rw [if_pos (by exact Int.natCast_nonneg n)]; rfl
 |negSucc n=>rw [if_neg (by omega)]; rfl
noncomputable def eR (sz:Nat) (x i:KV) (h:KH) (K:QK):QR:=
 i.onInt (fun _ i=>q9 i fun i=>x.onSl (fun id off len c s=>zb (Nat.beq sz s) (zb (Nat.blt i len) (nfc (Nat.add off (Nat.mul i sz)) fun off=>K (.ptr id off) h) none) none) none none none) none
def Y5 (d:TD) (h:KH) (x i:KV):Option (KV×KH):=match i with| .int _ i=>(wU d x i).map fun v=>(v,h)|_=>none
theorem D2 {d:TD} {e sz by_:Nat} (hd:d= .slice e sz by_) (x i:KV):QOk (eR sz x i h K) (Y5 d h x i) K:=by
 subst hd
 cases i<;>try exact .none _ _
 rename_i k i
 show QOk (q9 i _) _ _
 rw [ur]
 by_cases hi:0≤i
 ·rw [if_pos hi]
  cases x<;>try exact .none _ _
  rename_i id off len c s
  show QOk (zb _ _ _) _ _
  simp only [za,zi,Y5,wU,Nat.beq_eq]
  by_cases hs:sz=s
  ·rw [if_pos hs]
   simp only [zI,decide_eq_true_eq]
   by_cases hl:i.toNat<len
   ·rw [if_pos hl,if_pos ⟨hs,hi,by omega⟩]; exact .one rfl
   ·rw [if_neg hl]; exact .none _ _
  ·rw [if_neg hs]; exact .none _ _
 ·rw [if_neg hi]; exact .none _ _
noncomputable def fP (n sz:Nat) (x i:KV) (h:KH) (K:QK):QR:=
 i.onInt (fun _ i=>q9 i fun i=>x.onPtr (fun id off=>zb (Nat.blt i n) (nfc (Nat.add off (Nat.mul i sz)) fun off=>K (.ptr id off) h) none) none) none
theorem PC {d:TD} {n sz:Nat} (hd:d= .arr n sz) (x i:KV):QOk (fP n sz x i h K) (Y5 d h x i) K:=by
 subst hd
 cases i<;>try exact .none _ _
 rename_i k i
 show QOk (q9 i _) _ _
 rw [ur]
 by_cases hi:0≤i
 ·rw [if_pos hi]
  cases x<;>try exact .none _ _
  rename_i id off
  show QOk (zb _ _ _) _ _
  simp only [za,zi,Y5,wU,zI,decide_eq_true_eq]
  by_cases hl:i.toNat<n
  ·rw [if_pos hl,if_pos ⟨hi,by omega⟩]; exact .one rfl
  ·rw [if_neg hl]; exact .none _ _
 ·rw [if_neg hi]; exact .none _ _
noncomputable def Du (x i:KV) (h:KH) (K:QK):QR:=i.onInt (fun _ i=>q9 i fun i=>x.onStr (fun n s=>zb (Nat.blt i n) (nfc (je s i) fun b=>K (.int .u8 (.ofNat b)) h) none) none) none
def Ws (d:TD) (h:KH) (x i:KV):Option (KV×KH):=match i with| .int _ i=>(bp d x i).map fun v=>(v,h)|_=>none
theorem DK {d:TD} (hd:d= .str) (x i:KV):QOk (Du x i h K) (Ws d h x i) K:=by
 subst hd
 cases i<;>try exact .none _ _
 rename_i k i
 show QOk (q9 i _) _ _
 rw [ur]
 by_cases hi:0≤i
 ·rw [if_pos hi]
  cases x<;>try exact .none _ _
  rename_i n s
  show QOk (zb _ _ _) _ _
  simp only [za,zi,Ws,bp,zI,decide_eq_true_eq]
  by_cases hl:i.toNat<n
  ·rw [if_pos hl,if_pos ⟨hi,hl⟩]; exact .one rfl
  ·rw [if_neg hl]; exact .none _ _
 ·rw [if_neg hi]; exact .none _ _
noncomputable def eO (x:KV) (h:KH) (K:QK):QR:=x.onStr (fun n _=>K (.int .i64 (.ofNat n)) h) none
theorem Px {d:TD} (hd:d= .str) (x:KV):QOk (eO x h K) ((UR d x).map fun v=>(v,h)) K:=by
 subst hd
 cases x<;>try exact .none _ _
 exact .one rfl
noncomputable def eY (x:KV) (h:KH) (K:QK):QR:=x.onSl (fun _ _ n _ _=>K (.int .i64 (.ofNat n)) h) (K (.int .i64 (.ofNat 0)) h) (K (.int .i64 (.ofNat 0)) h) none
theorem BL {d:TD} {e sz by_:Nat} (hd:d= .slice e sz by_) (x:KV):QOk (eY x h K) ((UR d x).map fun v=>(v,h)) K:=by
 subst hd
 cases x<;>first|exact .none _ _|exact .one rfl
noncomputable def P8 (k:IntKind):Nat:=IntKind.rec (motive:=fun _=>Nat) 127 32767 2147483647 9223372036854775807 255 65535 4294967295 18446744073709551615 k
noncomputable def Qi (k:IntKind) (n:Int) (K:Int→QR):QR:=Int.rec (motive:=fun _=>QR) (fun n=>nfc n fun n=>zb (Nat.ble n (P8 k)) (K (.ofNat n)) (ifc (k.wrap (.ofNat n)) K)) (fun n=>ifc (k.wrap (.negSucc n)) K) n
theorem Jw (k:IntKind) (n:Nat) (h:n≤P8 k):k.wrap (.ofNat n)= .ofNat n:=by
 have e:(Int.ofNat n)=(n:Int):=rfl
 rw [e]
 cases k<;>simp only [P8]at h<;>simp [IntKind.wrap,IntKind.bits,IntKind.signed]<;>omega
theorem VV (k:IntKind) (n:Int) (K:Int→QR):Qi k n K=K (k.wrap n):=by
 cases n with
 | ofNat n=>
  simp only [Qi,zi,za,JD]
  by_cases h:n≤P8 k
  ·rw [if_pos (by rwa [Nat.ble_eq]),Jw k n h]
  ·rw [if_neg (by rwa [Nat.ble_eq])]
 |negSucc n=>exact JD _ _
noncomputable def lz (a b:IntKind):Bool:=Nat.beq (IntKind.rec (motive:=fun _=>Nat) 0 1 2 3 4 5 6 7 a) (IntKind.rec (motive:=fun _=>Nat) 0 1 2 3 4 5 6 7 b)
theorem pK (a b:IntKind):lz a b=true↔a=b:=by cases a<;>cases b<;>simp [lz]
noncomputable def qii (x y:KV) (f:IntKind→Int→Int→QR):QR:=x.onInt (fun k a=>y.onInt (fun k' b=>zb (lz k k') (f k a b) none) none) none
noncomputable def fy (a b:Int) (K:Int→QR):QR:=Int.rec (motive:=fun _=>QR) (fun a=>Int.rec (motive:=fun _=>QR) (fun b=>K (.ofNat (Nat.add a b))) (fun b'=>K (Int.add (.ofNat a) (.negSucc b'))) b) (fun a=>K (Int.add (.negSucc a) b)) a
theorem Dh (a b:Int) (K:Int→QR):fy a b K=K (a+b):=by cases a<;>cases b<;>rfl
noncomputable def f5 (a b:Int) (K:Int→QR):QR:=Int.rec (motive:=fun _=>QR) (fun a=>Int.rec (motive:=fun _=>QR) (fun b=>zb (Nat.ble b a) (K (.ofNat (Nat.sub a b))) (K (Int.sub (.ofNat a) (.ofNat b)))) (fun b'=>K (Int.sub (.ofNat a) (.negSucc b'))) b) (fun a=>K (Int.sub (.negSucc a) b)) a
theorem G9 (a b:Int) (K:Int→QR):f5 a b K=K (a-b):=by
 cases a with
 | ofNat a=>cases b with
  | ofNat b=>
   show zb _ _ _=_
   rw [za]
   split
   ·rename_i h
    rw [Nat.ble_eq]at h
    congr 1
    show((a-b:Nat):Int)=(a:Int)-(b:Int)
    omega
   ·rfl
  |negSucc b=>rfl
 |negSucc a=>cases b<;>rfl
noncomputable def f8 (a b:Int) (K:Int→QR):QR:=Int.rec (motive:=fun _=>QR) (fun a=>Int.rec (motive:=fun _=>QR) (fun b=>K (.ofNat (Nat.mul a b))) (fun b'=>K (Int.mul (.ofNat a) (.negSucc b'))) b) (fun a=>K (Int.mul (.negSucc a) b)) a
theorem B5 (a b:Int) (K:Int→QR):f8 a b K=K (a*b):=by cases a<;>cases b<;>rfl
noncomputable def GM (a b:Int):Bool:=Int.rec (motive:=fun _=>Bool) (fun a=>Int.rec (motive:=fun _=>Bool) (fun b=>Nat.blt a b) (fun _=>false) b) (fun a=>Int.rec (motive:=fun _=>Bool) (fun _=>true) (fun b=>Nat.blt b a) b) a
theorem pY (a b:Int):GM a b=decide (a<b):=by
 cases a with
 | ofNat a=>cases b with
  |ofNat b=>show Nat.blt a b=_; rw [zI]; congr 1; exact propext ⟨fun h=>by show(a:Int)<b; omega,fun h=>by have:(a:Int)<b:=h; omega⟩
  |negSucc b=>show false=_; rw [eq_comm,decide_eq_false_iff_not]; show ¬((a:Int)<_); omega
 | negSucc a=>cases b with
  |ofNat b=>show true=_; rw [eq_comm,decide_eq_true_eq]; show _<(b:Int); omega
  |negSucc b=>show Nat.blt b a=_; rw [zI]; congr 1; exact propext ⟨fun h=>by omega,fun h=>by omega⟩
noncomputable def Ph (a b:Int):Bool:=Int.rec (motive:=fun _=>Bool) (fun a=>Int.rec (motive:=fun _=>Bool) (fun b=>Nat.beq a b) (fun _=>false) b) (fun a=>Int.rec (motive:=fun _=>Bool) (fun _=>false) (fun b=>Nat.beq a b) b) a
theorem WA (a b:Int):Ph a b=(a==b):=by
 rw [Bool.eq_iff_iff,beq_iff_eq]
 cases a with
 | ofNat a=>cases b with
  |ofNat b=>show Nat.beq a b=true↔_; rw [Nat.beq_eq]; exact⟨fun h=>by rw [h],fun h=>by injection h⟩
  |negSucc b=>exact iff_of_false (fun h=>Bool.noConfusion h) (fun h=>Int.noConfusion h)
 | negSucc a=>cases b with
  |ofNat b=>exact iff_of_false (fun h=>Bool.noConfusion h) (fun h=>Int.noConfusion h)
  |negSucc b=>show Nat.beq a b=true↔_; rw [Nat.beq_eq]; exact⟨fun h=>by rw [h],fun h=>by injection h⟩
noncomputable def qar (f:Int→Int→(Int→QR)→QR) (x y:KV) (h:KH) (K:QK):QR:=qii x y fun k a b=>f a b fun n=>Qi k n fun n=>K (.int k n) h
noncomputable def UK (f:Int→Int→Bool) (x y:KV) (h:KH) (K:QK):QR:=qii x y fun k a b=>bfc (f a b) fun t=>K (.bool t) h
def xq (E:KE) (h:KH) (op:BinOp) (xt:TypeId) (x y:KV):Option (KV×KH):=if(E.T xt).d≠ .other then(match Wi op (E.T xt).d x y with
  |some v=>some (v,h)
  |none=>(QM op (E.T xt).eqs x y).map fun v=>(v,h))else none
theorem YJ {E:KE} {xt:TypeId} (ho:(E.T xt).d≠ .other) {op:BinOp} (h1:op≠ .shl) (h2:op≠ .shr) {k:IntKind} {a b:Int} {v:KV} (e:XG k op a b=some v):xq E h op xt (.int k a) (.int k b)=some (v,h):=by
 have:Wi op (E.T xt).d (.int k a) (.int k b)=some v:=by
  cases op<;>first|exact absurd rfl h1|exact absurd rfl h2|(simp only [Wi,if_true]; exact e)
 simp only [xq,this,ne_eq,ho,not_false_iff,if_true]
theorem JM {E:KE} {xt:TypeId} (ho:(E.T xt).d≠ .other) {op:BinOp} (h1:op≠ .shl) (h2:op≠ .shr) {f:IntKind→Int→Int→QR} (hf:∀k a b,∃v,XG k op a b=some v∧f k a b=K v h) (x y:KV):QOk (qii x y f) (xq E h op xt x y) K:=by
 cases x<;>try exact .none _ _
 cases y<;>try exact .none _ _
 rename_i k a k' b
 show QOk (zb _ _ _) _ _
 rw [za]
 by_cases hk:k=k'
 ·subst hk
  rw [if_pos ((pK _ _).2 rfl)]
  obtain⟨v,e1,e2⟩:=hf k a b
  rw [e2]
  exact .one (YJ ho h1 h2 e1)
 ·rw [if_neg (fun x=>hk ((pK _ _).1 x))]; exact .none _ _
theorem UY {E:KE} {xt:TypeId} (ho:(E.T xt).d≠ .other) {op:BinOp} (h1:op≠ .shl) (h2:op≠ .shr) {f:Int→Int→(Int→QR)→QR} {g:Int→Int→Int} (hf:∀a b K,f a b K=K (g a b)) (hk:∀k a b,XG k op a b=some (.int k (k.wrap (g a b)))) (x y:KV):
  QOk (qar f x y h K) (xq E h op xt x y) K:=JM ho h1 h2 (fun k a b=>⟨_,hk k a b,by rw [hf,VV]⟩) x y
theorem ku {E:KE} {xt:TypeId} (ho:(E.T xt).d≠ .other) {op:BinOp} (h1:op≠ .shl) (h2:op≠ .shr) {f:Int→Int→Bool} (hk:∀k a b,XG k op a b=some (.bool (f a b))) (x y:KV):
  QOk (UK f x y h K) (xq E h op xt x y) K:=JM ho h1 h2 (fun k a b=>⟨_,hk k a b,by rw [X4]⟩) x y
end
section
variable {h:KH} {K:QK}
noncomputable def J3 (x:KV) (h:KH) (K:QK):QR:=x.hd fun v=>K v h
theorem VS (x:KV):QOk (J3 x h K) (some (x,h)) K:=by
 unfold J3; rw [KV.hd_eq]; exact .one rfl
noncomputable def Ga (c a b:KV) (h:KH) (K:QK):QR:=c.onBool (fun t=>zb t (a.hd fun v=>K v h) (b.hd fun v=>K v h)) none
def JJ (h:KH) (c a b:KV):Option (KV×KH):=match c with| .bool t=>some (if t then a else b,h)|_=>none
theorem BK (c a b:KV):QOk (Ga c a b h K) (JJ h c a b) K:=by
 cases c<;>try exact .none _ _
 rename_i t
 simp only [Ga,KV.onBool,za,KV.hd_eq,JJ]
 cases t<;>exact .one rfl
noncomputable def mD (i:Nat) (x:KV) (h:KH) (K:QK):QR:=x.onTuple (fun vs=>Bs vs i fun v=>v.hd fun v=>K v h) none
theorem eo (i:Nat) (x:KV):QOk (mD i x h K) ((js x i).map fun v=>(v,h)) K:=by
 cases x<;>try exact .none _ _
 rename_i vs
 simp only [mD,KV.onTuple,pO,js]
 cases vs[i]? with
 |none=>exact .none _ _
 |some v=>simp only [Option.elim_some,KV.hd_eq]; exact .one rfl
noncomputable def sm (x:KV) (h:KH) (K:QK):QR:=x.onBool (fun t=>zb t (K (.bool false) h) (K (.bool true) h)) none
theorem cf (x:KV):QOk (sm x h K) ((kun .not x).map fun v=>(v,h)) K:=by
 cases x<;>try exact .none _ _
 rename_i t
 cases t<;>exact .one rfl
noncomputable def Gi (off:Nat) (x:KV) (h:KH) (K:QK):QR:=x.onAgg (fun cs=>Bs cs off fun v=>v.hd fun v=>K v h) none
noncomputable def Pi (off n:Nat) (x:KV) (h:KH) (K:QK):QR:=x.onAgg (fun cs=>Zk cs off fun l=>bY l n fun l=>K (.agg l) h) none
theorem D9 {s:TI} {T:TypeId→TI} {fs:List (Nat×Nat)} {f off n:Nat} {ft:TypeId} (hd:s.d= .struct fs) (hf:fs[f]? =some (off,n)) (ht:s.fts[f]? =some ft) (ho:(T ft).ok=true∧(T ft).d≠ .other) (ha:(T ft).d.agg=false) (x:KV):
  QOk (Gi off x h K) ((jX s T x f).map fun v=>(v,h)) K:=by
 cases x<;>try exact .none _ _
 rename_i cs
 simp only [Gi,KV.onAgg,pO,jX,hd,hf,ht,ho,ne_eq,not_false_iff,and_self,if_true,ha,krd,Bool.false_eq_true,if_false]
 cases cs[off]? with
 |none=>exact .none _ _
 |some v=>simp only [Option.elim_some,KV.hd_eq]; exact .one rfl
theorem G4 {s:TI} {T:TypeId→TI} {fs:List (Nat×Nat)} {f off n:Nat} {ft:TypeId} (hd:s.d= .struct fs) (hf:fs[f]? =some (off,n)) (ht:s.fts[f]? =some ft) (ho:(T ft).ok=true∧(T ft).d≠ .other) (ha:(T ft).d.agg=true) (x:KV):
  QOk (Pi off (T ft).sz x h K) ((jX s T x f).map fun v=>(v,h)) K:=by
 cases x<;>try exact .none _ _
 rename_i cs
 simp only [Pi,KV.onAgg,qL,qY,jX,hd,hf,ht,ho,ne_eq,not_false_iff,and_self,if_true,ha,krd]
 split
 ·exact .one rfl
 ·exact .none _ _
noncomputable def Wj (cs:List KV) (h:KH) (K:QK):QR:=yO h (.cells false cs) fun i h=>K (.ptr i 0) h
theorem KZ {t:TI} {z:KV} {cs:List KV} (ht:t.zok=true) (hz:z.cells=cs) (hc:KV.isCells cs=true):QOk (Wj cs h K) (if t.zok=true∧KV.isCells z.cells=true∧yw h=true then some (.ptr h.next 0,h.push (.cells false z.cells))else none) K:=by
 unfold Wj
 rw [yH]
 subst hz
 split
 ·rename_i hr
  rw [if_pos ⟨ht,hc,hr⟩]; exact .one rfl
 ·exact .none _ _
noncomputable def lB (x:KV) (h:KH) (K:QK):QR:=x.onAgg (fun cs=>eq cs fun n=>gV cs n (yO h (.cells false cs) fun i h=>K (.ptr i 0) h)) (x.onCell (x.hd fun v=>yO h (.cells false [v]) fun i h=>K (.ptr i 0) h) none)
theorem cV (x:KV):QOk (lB x h K) (if KV.isCells x.cells=true∧yw h=true then some (.ptr h.next 0,h.push (.cells false x.cells))else none) K:=by
 have fin:∀cs:List KV,KV.isCells cs=true→x.cells=cs→QOk (if yw h=true then K (.ptr h.next 0) (h.push (.cells false cs))else none) (if KV.isCells x.cells=true∧yw h=true then some (.ptr h.next 0,h.push (.cells false x.cells))else none) K:=by
  intro cs h1 h2
  subst h2
  split
  ·rename_i hr; rw [if_pos ⟨h1,hr⟩]; exact .one rfl
  ·exact .none _ _
 have one:∀v:KV,x=v→v.cells= [v]→QOk (v.onCell (v.hd fun v=>yO h (.cells false [v]) fun i h=>K (.ptr i 0) h) none) (if KV.isCells x.cells=true∧yw h=true then some (.ptr h.next 0,h.push (.cells false x.cells))else none) K:=by
  intro v e hv
  subst e
  rw [KV.onCell_eq,KV.hd_eq,yH]
  split
  ·rename_i hc
   exact fin [x] (by simp [KV.isCells,hc]) hv
  ·exact .none _ _
 cases x with
 | agg cs=>
  simp only [lB,KV.onAgg,Wx,dJ,yH]
  split
  ·rename_i hc; exact fin cs hc.2 rfl
  ·exact .none _ _
 |junk=>exact one .junk rfl rfl
 |bool b=>exact one (.bool b) rfl rfl
 |int k n=>exact one (.int k n) rfl rfl
 |str a b=>exact one (.str a b) rfl rfl
 |ptr i o=>exact one (.ptr i o) rfl rfl
 |nilp=>exact one .nilp rfl rfl
 |sl i o l c s=>exact one (.sl i o l c s) rfl rfl
 |slz=>exact one .slz rfl rfl
 |nilsl=>exact one .nilsl rfl rfl
 |func f a b=>exact one (.func f a b) rfl rfl
 |nilfunc=>exact one .nilfunc rfl rfl
 |yield i=>exact one (.yield i) rfl rfl
 |tuple l=>exact one (.tuple l) rfl rfl
 |map i=>exact one (.map i) rfl rfl
 |nilmap=>exact one .nilmap rfl rfl
 |iface t v=>exact one (.iface t v) rfl rfl
 |niliface=>exact one .niliface rfl rfl
noncomputable def Q8 (cells:List KV) (ps:List (Nat×Nat)) (vs:List KV) (K:List KV→QR):QR:=
 List.rec (motive:=fun _=>List KV→List KV→QR) (fun vs cells=>K cells)
  (fun p _ ih vs cells=>List.rec (motive:=fun _=>QR) none (fun v vs _=>Prod.rec (motive:=fun _=>QR) (fun off n=>gz v n fun new=>XI cells off n new fun cells=>ih vs cells) p) vs) ps vs cells
theorem Zn {place:Nat→Option (Nat×Nat)} {K:List KV→QR} {r:KV×KH}:∀(is:List Nat) (ps:List (Nat×Nat)) (vs cells:List KV),is.map place=ps.map some→is.length=vs.length→Q8 cells ps vs K=some r→∃c,jo place cells (is.zip vs)=some c∧K c=some r
 | [],ps,vs,cells,hp,hl,e=>by
  cases ps with
  |cons _ _=>simp at hp
  | nil=>cases vs with
   |cons _ _=>simp at hl
   |nil=>exact⟨cells,rfl,e⟩
 | i ::is,ps,vs,cells,hp,hl,e=>by
  cases ps with
  |nil=>simp at hp
  | cons p ps=>cases vs with
   |nil=>simp at hl
   | cons v vs=>
    obtain⟨off,n⟩:=p
    simp only [List.map_cons,List.cons.injEq]at hp
    have e:(gz v n fun new=>XI cells off n new fun cells=>Q8 cells ps vs K)=some r:=e
    rw [ph]at e
    split at e
    ·rename_i h1
     rw [pF]at e
     split at e
     ·rename_i h2
      obtain⟨c,e1,e2⟩:=Zn is ps vs _ hp.2 (by simpa using hl) e
      refine⟨c, ?_,e2⟩
      simp only [List.zip_cons_cons,jo,hp.1]
      rw [if_pos ⟨h1.1,by rw [h1.1]; exact h2,h1.2⟩]
      exact e1
     ·cases e
    ·cases e
noncomputable def gX (z:List KV) (ps:List (Nat×Nat)) (vs:List KV) (h:KH) (K:QK):QR:=Q8 z ps vs fun c=>K (.agg c) h
noncomputable def Xt (len sz:Nat) (z:List KV) (ps:List (Nat×Nat)) (vs:List KV) (h:KH) (K:QK):QR:=Q8 z ps vs fun c=>yO h (.cells false c) fun i h=>K (.sl i 0 len (some len) sz) h
noncomputable def nz (k:IntKind) (x:KV) (h:KH) (K:QK):QR:=x.onInt (fun _ n=>Qi k n fun n=>K (.int k n) h) none
theorem ct {T:TypeId→TI} {s d:TypeId} {k:IntKind} (hs:(T s).ok=true) (hd:(T d).d= .int k) (x:KV):QOk (nz k x h K) (vK h T s d x) K:=by
 cases x<;>try exact .none _ _
 rename_i k' n
 simp only [nz,KV.onInt,VV,vK,hs,hd,if_true]
 exact .one rfl
noncomputable def lL (x y:KV) (h:KH) (K:QK):QR:=x.onStr (fun n a=>y.onStr (fun m b=>nfc (Nat.add n m) fun l=>zb (Nat.ble l 9223372036854775807) (nfc (Nat.add a (Nat.shiftLeft b (Nat.mul 8 n))) fun s=>K (.str l s) h) none) none) none
theorem cD {E:KE} {xt:TypeId} (ho:(E.T xt).d≠ .other) (x y:KV):QOk (lL x y h K) (xq E h .add xt x y) K:=by
 cases x<;>try exact .none _ _
 cases y<;>try exact .none _ _
 rename_i n a m b
 simp only [lL,KV.onStr,zi,za]
 by_cases hl:Nat.ble (Nat.add n m) 9223372036854775807=true
 ·rw [if_pos hl]
  refine .one ?_
  have hl':Nat.ble (n+m) 9223372036854775807=true:=hl
  simp only [xq,Wi,Wm,ne_eq,ho,not_false_iff,if_true,hl',cond_true,Dw]
  rfl
 ·rw [if_neg hl]; exact .none _ _
noncomputable def Kg (x y:KV) (t e:QR):QR:=x.onStr (fun n a=>y.onStr (fun m b=>zb (Nat.beq n m) (zb (Nat.beq a b) t e) e) none) none
theorem Va {x y:KV} {t e:QR} {r:KV×KH} (q:Kg x y t e=some r):∃n a m b,x= .str n a∧y= .str m b∧(if(Nat.beq n m&&Nat.beq a b)=true then t else e)=some r:=by
 cases x<;>try (exact(Option.noConfusion q (fun {_}=>False.elim))<;>done)
 all_goals first|(cases q; done)|skip
 cases y<;>first|(cases q; done)|skip
 rename_i n a m b
 refine⟨n,a,m,b,rfl,rfl, ?_⟩
 simp only [Kg,KV.onStr,za]at q
 by_cases h1:Nat.beq n m=true<;>by_cases h2:Nat.beq a b=true<;>simp_all
noncomputable def rE (x y:KV) (h:KH) (K:QK):QR:=Kg x y (K (.bool true) h) (K (.bool false) h)
noncomputable def rp (x y:KV) (h:KH) (K:QK):QR:=Kg x y (K (.bool false) h) (K (.bool true) h)
theorem kK {E:KE} {xt:TypeId} (ho:(E.T xt).d≠ .other) {op:BinOp} {n a m b:Nat} {v:KV} (e:Wm op n a m b=some v):xq E h op xt (.str n a) (.str m b)=some (v,h):=by
 have:Wi op (E.T xt).d (.str n a) (.str m b)=some v:=by simp only [Wi]; exact e
 simp only [xq,this,ne_eq,ho,not_false_iff,if_true]
theorem cB {E:KE} {xt:TypeId} (ho:(E.T xt).d≠ .other) (x y:KV):QOk (rE x y h K) (xq E h .eql xt x y) K:=by
 intro r q
 obtain⟨n,a,m,b,rfl,rfl,e⟩:=Va q
 by_cases hc:(Nat.beq n m&&Nat.beq a b)=true
 ·rw [if_pos hc]at e; exact⟨_,_,kK ho (v:= .bool true) (by simp only [Wm,hc]),e⟩
 ·rw [if_neg hc]at e; exact⟨_,_,kK ho (v:= .bool false) (by simp only [Wm,Bool.not_eq_true _▸hc]),e⟩
theorem PI {E:KE} {xt:TypeId} (ho:(E.T xt).d≠ .other) (x y:KV):QOk (rp x y h K) (xq E h .neq xt x y) K:=by
 intro r q
 obtain⟨n,a,m,b,rfl,rfl,e⟩:=Va q
 by_cases hc:(Nat.beq n m&&Nat.beq a b)=true
 ·rw [if_pos hc]at e; exact⟨_,_,kK ho (v:= .bool false) (by simp only [Wm,hc,Bool.not_true]),e⟩
 ·rw [if_neg hc]at e; exact⟨_,_,kK ho (v:= .bool true) (by rw [Bool.not_eq_true]at hc; simp only [Wm,hc,Bool.not_false]),e⟩
noncomputable def nc (s:Option (KV×KH)) (h:KH) (K:QK):QR:=Option.rec (motive:=fun _=>QR) none (fun p=>Prod.rec (motive:=fun _=>QR) (fun v _=>v.fc fun v=>K v h) p) s
theorem cq {s:Option (KV×KH)} (hs:∀v h',s=some (v,h')→h'=h):QOk (nc s h K) s K:=by
 intro r e
 cases s with
 |none=>cases e
 | some p=>
  obtain⟨v,h'⟩:=p
  simp only [nc,KV.fc_eq]at e
  cases hs v h' rfl
  exact⟨v,_,rfl,e⟩
end
section
variable {S:Type}
inductive QO where
 |sel (g:Sl→KV)
 |c (v:KV)
noncomputable def QO.ev (q:QO) (l:Sl):KV:=QO.rec (motive:=fun _=>KV) (fun g=>g l) (fun v=>v) q
noncomputable def cO (ng:Nat) (x:Operand) (K:QO→S):S:=
 Operand.rec (motive:=fun _=>S) (fun t=>Sel.rec (motive:=fun _=>S) (fun g=>K (.sel g)) (dS t)) (fun v=>(KV.of v).fc fun v=>K (.c v)) (fun g=>zb (Nat.blt g ng) (nfc g fun g=>K (.c (.ptr g 0))) (K (.c .junk))) (fun f=>nfc f fun f=>K (.c (.func (.func f) [] []))) x
theorem jp (ng:Nat) (x:Operand) (K:QO→S):∃q:QO,(∀l,q.ev l=zf ng l x)∧cO ng x K=K q:=by
 cases x with
 |tmp t=>exact⟨.sel fun l=>yj l t,fun l=>rfl,by simp only [cO,Vz]⟩
 |const v=>exact⟨.c (KV.of v),fun l=>rfl,by simp only [cO,KV.fc_eq]⟩
 | global g=>
  refine⟨.c (bif Nat.blt g ng then .ptr g 0 else .junk),fun l=>rfl, ?_⟩
  simp only [cO,za,zi]
  cases Nat.blt g ng<;>rfl
 |func f=>exact⟨.c (.func (.func f) [] []),fun l=>rfl,by simp only [cO,zi]⟩
noncomputable def cOs (ng:Nat) (xs:List Operand) (K:List QO→S):S:=List.rec (motive:=fun _=>(List QO→S)→S) (fun K=>K []) (fun x _ ih K=>cO ng x fun q=>ih fun qs=>K (q::qs)) xs K
theorem Yo (ng:Nat):∀(xs:List Operand) (K:List QO→S),∃qs:List QO,(∀l,qs.map (fun q=>q.ev l)=xs.map (zf ng l))∧cOs ng xs K=K qs
 | [],K=>⟨[],fun l=>rfl,rfl⟩
 | x::xs,K=>by
  obtain⟨q,h1,e1⟩:=jp ng x fun q=>cOs ng xs fun qs=>K (q::qs)
  obtain⟨qs,h2,e2⟩:=Yo ng xs fun qs=>K (q::qs)
  exact⟨q::qs,fun l=>by rw [List.map_cons,List.map_cons,h1,h2],e1.trans e2⟩
end
noncomputable def evs (l:Sl) (xs:List QO) (K:List KV→QR):QR:=List.rec (motive:=fun _=>(List KV→QR)→QR) (fun K=>K []) (fun x _ ih K=>(x.ev l).hd fun v=>ih fun vs=>K (v::vs)) xs K
theorem qa (l:Sl):∀(xs:List QO) (K:List KV→QR),evs l xs K=K (xs.map fun q=>q.ev l)
 | [],K=>rfl
 |x::xs,K=>(KV.hd_eq (x.ev l) fun v=>evs l xs fun vs=>K (v::vs)).trans (qa l xs fun vs=>K (x.ev l::vs))
inductive QOp where
 |f0 (g:KH→QK→QR)
 |f1 (g:KV→KH→QK→QR) (x:QO)
 |f2 (g:KV→KV→KH→QK→QR) (x y:QO)
 |f3 (g:KV→KV→KV→KH→QK→QR) (x y z:QO)
 |fl (g:List KV→KH→QK→QR) (xs:List QO)
 |old (g:Sl→KH→Option (KV×KH))
 |callS (f:FuncId) (xs:List QO)
 |callV (f:QO) (xs:List QO)
 |inv (r:QO) (f:TypeId→Option FuncId) (xs:List QO)
structure QE where
 call:FuncId→List KV→KH→QK→QR
 round:Nat→List KV→KH→QK→QR
 calld:FuncId→List KV→KH→(KH→QR)→QR
noncomputable def Fn.onFunc (f:Fn) (k:FuncId→QR):QR:=Fn.rec (motive:=fun _=>QR) k (fun _=>none) (fun _ _=>none) (fun _ _ _ _=>none) (fun _=>none) f
noncomputable def Jb (e:QE) (f:KV) (xs:List QO) (l:Sl) (h:KH) (K:QK):QR:=
 f.onFunc (fun fn a c=>Fn.onFunc fn fun f=>evs l xs fun vs=>df vs c fun vc=>df a vc fun all=>e.call f all h K) (fun id=>evs l xs fun vs=>e.round id vs h K) none
noncomputable def mn (e:QE) (r:KV) (m:TypeId→Option FuncId) (xs:List QO) (l:Sl) (h:KH) (K:QK):QR:=
 r.onIface (fun t v=>Option.rec (motive:=fun _=>QR) none (fun f=>evs l xs fun vs=>e.call f (v::vs) h K) (m t)) none none
noncomputable def QOp.run (q:QOp) (e:QE) (l:Sl) (h:KH) (K:QK):QR:=QOp.rec (motive:=fun _=>QR)
 (fun g=>g h K) (fun g x=>g (x.ev l) h K) (fun g x y=>g (x.ev l) (y.ev l) h K) (fun g x y z=>g (x.ev l) (y.ev l) (z.ev l) h K) (fun g xs=>evs l xs fun vs=>g vs h K) (fun g=>nc (g l h) h K)
 (fun f xs=>evs l xs fun vs=>e.call f vs h K) (fun f xs=>Jb e (f.ev l) xs l h K) (fun r m xs=>mn e (r.ev l) m xs l h K) q
def QOp.okE (E:KE) (q:QOp) (o:Op):Prop:=∀(e:QE) (l:Sl) (h:KH) (K:QK),QOk (q.run e l h K) (zw E l h o) K
section
variable {S:Type} {E:KE}
theorem jI {g:KV→KH→QK→QR} {x:Operand} {o:Op} {f:KH→KV→Option (KV×KH)} (hg:∀v h K,QOk (g v h K) (f h v) K) (ho:∀l h,zw E l h o=f h (zf E.ng l x)) (K:QOp→S):∃q:QOp,q.okE E o∧(cO E.ng x fun x=>K (.f1 g x))=K q:=by
 obtain⟨q,h1,e⟩:=jp E.ng x fun x=>K (.f1 g x)
 refine⟨.f1 g q,fun _ l h K=> ?_,e⟩
 rw [ho,←h1]; exact hg _ _ _
theorem vA {g:KV→KV→KH→QK→QR} {x y:Operand} {o:Op} {f:KH→KV→KV→Option (KV×KH)} (hg:∀v u h K,QOk (g v u h K) (f h v u) K) (ho:∀l h,zw E l h o=f h (zf E.ng l x) (zf E.ng l y)) (K:QOp→S):
  ∃q:QOp,q.okE E o∧(cO E.ng x fun x=>cO E.ng y fun y=>K (.f2 g x y))=K q:=by
 obtain⟨q,h1,e1⟩:=jp E.ng x fun x=>cO E.ng y fun y=>K (.f2 g x y)
 obtain⟨q2,h2,e2⟩:=jp E.ng y fun y=>K (.f2 g q y)
 refine⟨.f2 g q q2,fun _ l h K=> ?_,e1.trans e2⟩
 rw [ho,←h1,←h2]; exact hg _ _ _ _
theorem PV {g:KV→KV→KV→KH→QK→QR} {x y z:Operand} {o:Op} {f:KH→KV→KV→KV→Option (KV×KH)} (hg:∀v u w h K,QOk (g v u w h K) (f h v u w) K) (ho:∀l h,zw E l h o=f h (zf E.ng l x) (zf E.ng l y) (zf E.ng l z)) (K:QOp→S):
  ∃q:QOp,q.okE E o∧(cO E.ng x fun x=>cO E.ng y fun y=>cO E.ng z fun z=>K (.f3 g x y z))=K q:=by
 obtain⟨q,h1,e1⟩:=jp E.ng x fun x=>cO E.ng y fun y=>cO E.ng z fun z=>K (.f3 g x y z)
 obtain⟨q2,h2,e2⟩:=jp E.ng y fun y=>cO E.ng z fun z=>K (.f3 g q y z)
 obtain⟨q3,h3,e3⟩:=jp E.ng z fun z=>K (.f3 g q q2 z)
 refine⟨.f3 g q q2 q3,fun _ l h K=> ?_,e1.trans (e2.trans e3)⟩
 rw [ho,←h1,←h2,←h3]; exact hg _ _ _ _ _
noncomputable def cparts (ng:Nat) (place:Nat→Option (Nat×Nat)) (ps:List (Nat×Operand)) (K:List (Nat×Nat)→List QO→S) (F:S):S:=
 List.rec (motive:=fun _=>(List (Nat×Nat)→List QO→S)→S) (fun K=>K [] []) (fun p _ ih K=>match place p.1 with
  |some (a,b)=>nfc a fun a=>nfc b fun b=>cO ng p.2 fun q=>ih fun ps qs=>K ((a,b)::ps) (q::qs)
  |none=>F) ps K
theorem kJ (ng:Nat) (place:Nat→Option (Nat×Nat)) (F:S):∀(ps:List (Nat×Operand)) (K:List (Nat×Nat)→List QO→S),cparts ng place ps K F=F ∨
  ∃rs qs,(ps.map Prod.fst).map place=rs.map some∧(∀l,qs.map (fun q:QO=>q.ev l)=ps.map fun p=>zf ng l p.2)∧cparts ng place ps K F=K rs qs
 | [],K=> .inr ⟨[],[],rfl,fun l=>rfl,rfl⟩
 | p ::ps,K=>by
  cases hp:place p.1 with
  |none=>left; show(match place p.1 with|some (a,b)=>_|none=>F)=F; rw [hp]
  | some ab=>
   obtain⟨a,b⟩:=ab
   have e:cparts ng place (p::ps) K F=cO ng p.2 fun q=>cparts ng place ps (fun ps qs=>K ((a,b)::ps) (q::qs)) F:=by
    show(match place p.1 with|some (a,b)=>_|none=>F)=_
    rw [hp]
    exact(zi a fun a=>nfc b fun b=>cO ng p.2 fun q=>cparts ng place ps (fun ps qs=>K ((a,b)::ps) (q::qs)) F).trans (zi b fun b=>cO ng p.2 fun q=>cparts ng place ps (fun ps qs=>K ((a,b)::ps) (q::qs)) F)
   obtain⟨q,h1,e1⟩:=jp ng p.2 fun q=>cparts ng place ps (fun ps qs=>K ((a,b)::ps) (q::qs)) F
   rcases kJ ng place F ps (fun ps qs=>K ((a,b)::ps) (q::qs))with h2|⟨rs,qs,h2,h3,h4⟩
   ·left; rw [e,e1,h2]
   ·right
    refine⟨(a,b)::rs,q::qs, ?_, ?_,by rw [e,e1,h4]⟩
    ·simp only [List.map_cons,hp,h2]
    ·intro l; simp only [List.map_cons,h1,h3]
theorem Xk (ng:Nat) (l:Sl) (ps:List (Nat×Operand)):(ps.map Prod.fst).zip (ps.map fun p=>zf ng l p.2)=ps.map fun p=>(p.1,zf ng l p.2):=by
 induction ps with
 |nil=>rfl
 |cons p r ih=>simp only [List.map_cons,List.zip_cons_cons,ih]
noncomputable def Wo (E:KE) (t:TypeId) (ps:List (Nat×Operand)) (K:QOp→S) (F:S):S:=
 match(E.T t).zok,(E.T t).d with
 |true, .struct fs=>KV.fcs (E.Z t).cells fun z=>cparts E.ng (fun i=>fs[i]?) ps (fun rs qs=>K (.fl (gX z rs) qs)) F
 |true, .arr _ sz=>KV.fcs (E.Z t).cells fun z=>cparts E.ng (fun i=>some (i*sz,sz)) ps (fun rs qs=>K (.fl (gX z rs) qs)) F
 |_,_=>F
theorem YF {place:Nat→Option (Nat×Nat)} {z:List KV} {ps:List (Nat×Operand)} {rs:List (Nat×Nat)} {qs:List QO} (h1:(ps.map Prod.fst).map place=rs.map some) (h2:∀l,qs.map (fun q:QO=>q.ev l)=ps.map fun p=>zf E.ng l p.2) {o:Op}
  (ho:∀l h,zw E l h o=match jo place z (ps.map fun p=>(p.1,zf E.ng l p.2))with|some c=>some (.agg c,h)|none=>none):QOp.okE E (.fl (gX z rs) qs) o:=by
 intro e l h K r hr
 have hr:(evs l qs fun vs=>gX z rs vs h K)=some r:=hr
 rw [qa,h2]at hr
 obtain⟨c,e1,e2⟩:=Zn _ rs _ z h1 (by simp) hr
 rw [Xk]at e1
 exact⟨.agg c,h,by rw [ho,e1],e2⟩
theorem Kr (t:TypeId) (ps:Array (Nat×Operand)) (K:QOp→S) (F:S):Wo E t ps.toList K F=F∨∃q:QOp,q.okE E (.build t ps)∧Wo E t ps.toList K F=K q:=by
 unfold Wo
 split
 ·rename_i fs hz hd
  rw [KV.fcs_eq]
  rcases kJ E.ng (fun i=>fs[i]?) F ps.toList (fun rs qs=>K (.fl (gX (E.Z t).cells rs) qs))with h|⟨rs,qs,h1,h2,h3⟩
  ·exact .inl h
  ·refine .inr ⟨_,YF h1 h2 ?_,h3⟩
   intro l h
   simp only [zw,Zv,hz,hd,if_true,xS]
   cases jo (fun i=>fs[i]?) (E.Z t).cells (ps.toList.map fun p=>(p.1,zf E.ng l p.2))<;>rfl
 ·rename_i n sz hz hd
  rw [KV.fcs_eq]
  rcases kJ E.ng (fun i=>some (i*sz,sz)) F ps.toList (fun rs qs=>K (.fl (gX (E.Z t).cells rs) qs))with h|⟨rs,qs,h1,h2,h3⟩
  ·exact .inl h
  ·refine .inr ⟨_,YF h1 h2 ?_,h3⟩
   intro l h
   simp only [zw,Zv,hz,hd,if_true,xS]
   cases jo (fun i=>some (i*sz,sz)) (E.Z t).cells (ps.toList.map fun p=>(p.1,zf E.ng l p.2))<;>rfl
 ·exact .inl rfl
noncomputable def pG (E:KE) (t:TypeId) (len:Nat) (ps:List (Nat×Operand)) (K:QOp→S) (F:S):S:=
 match(E.T t).d with
 | .slice e sz _=>zb (Nat.ble (len*sz) 16777216&&(E.T e).zok&&Nat.beq (E.Z e).cells.length sz)
   (nfc len fun len=>nfc sz fun sz=>KV.fcs (xV len (E.Z e).cells) fun z=>cparts E.ng (fun i=>some (i*sz,sz)) ps (fun rs qs=>K (.fl (Xt len sz z rs) qs)) F) F
 |_=>F
theorem Jl (t:TypeId) (len:Nat) (ps:Array (Nat×Operand)) (K:QOp→S) (F:S):pG E t len ps.toList K F=F∨∃q:QOp,q.okE E (.buildSlice t len ps)∧pG E t len ps.toList K F=K q:=by
 unfold pG
 split
 ·rename_i e sz by_ hd
  rw [za]
  split
  ·rename_i hc
   simp only [Bool.and_eq_true,Nat.ble_eq,Nat.beq_eq]at hc
   simp only [zi,KV.fcs_eq]
   rcases kJ E.ng (fun i=>some (i*sz,sz)) F ps.toList (fun rs qs=>K (.fl (Xt len sz (xV len (E.Z e).cells) rs) qs))with h|⟨rs,qs,h1,h2,h3⟩
   ·exact .inl h
   ·refine .inr ⟨_, ?_,h3⟩
    intro en l h K r hr
    have hr:(evs l qs fun vs=>Xt len sz (xV len (E.Z e).cells) rs vs h K)=some r:=hr
    rw [qa,h2]at hr
    obtain⟨c,e1,e2⟩:=Zn _ rs _ _ h1 (by simp) hr
    rw [Xk]at e1
    rw [yH]at e2
    split at e2
    ·rename_i hroom
     refine⟨_,_, ?_,e2⟩
     simp only [zw,vz,hd,xS]
     rw [if_pos ⟨hc.1.1,hc.1.2,hc.2,hroom⟩,e1]
    ·cases e2
  ·exact .inl rfl
 ·exact .inl rfl
end
end Go.K
end
