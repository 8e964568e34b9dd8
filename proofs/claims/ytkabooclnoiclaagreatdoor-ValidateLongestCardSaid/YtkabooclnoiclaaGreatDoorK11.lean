/- Closed runs: a part. No condition beyond each statement's own. -/
import Derived.Test.YtkabooclnoiclaaGreatDoorK10
set_option linter.all false
section
namespace Go.K
open Go.Abs
noncomputable def KO.onCells (o:KO) (f:Bool→List KV→QR):QR:=KO.rec (motive:=fun _=>QR) f (fun _ _=>none) (fun _ _ _=>none) (fun _ _ _ _=>none) (fun _=>none) (fun _=>none) o
section
variable {R:Type}
noncomputable def KV.fc (v:KV) (K:KV→R):R:=
 KV.rec (motive_1:=fun _=>(KV→R)→R) (motive_2:=fun _=>(List KV→R)→R) (fun K=>K .junk) (fun b K=>bfc b fun b=>K (.bool b)) (fun k n K=>ifc n fun n=>K (.int k n)) (fun n s K=>nfc n fun n=>nfc s fun s=>K (.str n s))
  (fun i o K=>nfc i fun i=>nfc o fun o=>K (.ptr i o)) (fun K=>K .nilp) (fun i o l c s K=>nfc i fun i=>nfc o fun o=>nfc l fun l=>YW c fun c=>nfc s fun s=>K (.sl i o l c s)) (fun K=>K .slz) (fun K=>K .nilsl)
  (fun fn _ _ h1 h2 K=>h1 fun a=>h2 fun b=>K (.func fn a b)) (fun K=>K .nilfunc) (fun i K=>nfc i fun i=>K (.yield i)) (fun _ h K=>h fun a=>K (.agg a)) (fun _ h K=>h fun a=>K (.tuple a))
  (fun i K=>nfc i fun i=>K (.map i)) (fun K=>K .nilmap) (fun t _ h K=>h fun v=>K (.iface t v)) (fun K=>K .niliface) (fun K=>K []) (fun _ _ h1 h2 K=>h1 fun v=>h2 fun r=>K (v::r)) v K
noncomputable def KV.fcs (l:List KV) (K:List KV→R):R:=
 KV.rec_1 (motive_1:=fun _=>(KV→R)→R) (motive_2:=fun _=>(List KV→R)→R) (fun K=>K .junk) (fun b K=>bfc b fun b=>K (.bool b)) (fun k n K=>ifc n fun n=>K (.int k n)) (fun n s K=>nfc n fun n=>nfc s fun s=>K (.str n s))
  (fun i o K=>nfc i fun i=>nfc o fun o=>K (.ptr i o)) (fun K=>K .nilp) (fun i o l c s K=>nfc i fun i=>nfc o fun o=>nfc l fun l=>YW c fun c=>nfc s fun s=>K (.sl i o l c s)) (fun K=>K .slz) (fun K=>K .nilsl)
  (fun fn _ _ h1 h2 K=>h1 fun a=>h2 fun b=>K (.func fn a b)) (fun K=>K .nilfunc) (fun i K=>nfc i fun i=>K (.yield i)) (fun _ h K=>h fun a=>K (.agg a)) (fun _ h K=>h fun a=>K (.tuple a))
  (fun i K=>nfc i fun i=>K (.map i)) (fun K=>K .nilmap) (fun t _ h K=>h fun v=>K (.iface t v)) (fun K=>K .niliface) (fun K=>K []) (fun _ _ h1 h2 K=>h1 fun v=>h2 fun r=>K (v::r)) l K
theorem KV.fc_both:(∀(v:KV) (K:KV→R),v.fc K=K v)∧∀(l:List KV) (K:List KV→R),KV.fcs l K=K l:=by
 have a1:∀K,KV.fc (R:=R) .junk K=K .junk:=fun _=>rfl
 refine ⟨fun v=>KV.rec (motive_1:=fun v=>∀K:KV→R,v.fc K=K v) (motive_2:=fun l=>∀K:List KV→R,KV.fcs l K=K l) ?_ ?_ ?_ ?_ ?_ ?_ ?_ ?_ ?_ ?_ ?_ ?_ ?_ ?_ ?_ ?_ ?_ ?_ ?_ ?_ v,
  fun l=>KV.rec_1 (motive_1:=fun v=>∀K:KV→R,v.fc K=K v) (motive_2:=fun l=>∀K:List KV→R,KV.fcs l K=K l) ?_ ?_ ?_ ?_ ?_ ?_ ?_ ?_ ?_ ?_ ?_ ?_ ?_ ?_ ?_ ?_ ?_ ?_ ?_ ?_ l⟩
 all_goals first
  |exact fun K=>rfl
  |exact fun b K=>Wq b fun b=>K (.bool b)
  |exact fun k n K=>Qk n fun n=>K (.int k n)
  |exact fun n s K=>(zi n fun n=>nfc s fun s=>K (.str n s)).trans (zi s fun s=>K (.str n s))
  |exact fun i o K=>(zi i fun i=>nfc o fun o=>K (.ptr i o)).trans (zi o fun o=>K (.ptr i o))
  |exact fun i o l c s K=>(zi i fun i=>nfc o fun o=>nfc l fun l=>YW c fun c=>nfc s fun s=>K (.sl i o l c s)).trans ((zi o fun o=>nfc l fun l=>YW c fun c=>nfc s fun s=>K (.sl i o l c s)).trans ((zi l fun l=>YW c fun c=>nfc s fun s=>K (.sl i o l c s)).trans ((WH c fun c=>nfc s fun s=>K (.sl i o l c s)).trans (zi s fun s=>K (.sl i o l c s)))))
  |exact fun fn a b h1 h2 K=>(h1 fun a=>KV.fcs b fun b=>K (.func fn a b)).trans (h2 fun b=>K (.func fn a b))
  |exact fun i K=>zi i fun i=>K (.yield i)
  |exact fun i K=>zi i fun i=>K (.map i)
  |exact fun a h K=>h fun a=>K (.agg a)
  |exact fun a h K=>h fun a=>K (.tuple a)
  |exact fun t v h K=>h fun v=>K (.iface t v)
  |exact fun v r h1 h2 K=>(h1 fun v=>KV.fcs r fun r=>K (v::r)).trans (h2 fun r=>K (v::r))
theorem KV.fc_eq (v:KV) (K:KV→R):v.fc K=K v:=KV.fc_both.1 v K
theorem KV.fcs_eq (l:List KV) (K:List KV→R):KV.fcs l K=K l:=KV.fc_both.2 l K
end
def QOk (e:QR) (s:Option (KV×KH)) (K:QK):Prop:=∀r,e=some r→∃v h,s=some (v,h)∧K v h=some r
theorem QOk.none (s:Option (KV×KH)) (K:QK):QOk none s K:=fun _ e=>by cases e
theorem QOk.one {s:Option (KV×KH)} {K:QK} {v:KV} {h:KH} (e:s=some (v,h)):QOk (K v h) s K:=fun r q=>⟨v,h,e,q⟩
section
variable {h:KH} {K:QK}
noncomputable def ZY (p:KV) (h:KH) (K:QK):QR:=p.onPtr (fun id off=>xX h id fun o=>o.onCells fun _ cs=>Gp cs off fun v=>K v h) none
noncomputable def ZV (n:Nat) (p:KV) (h:KH) (K:QK):QR:=p.onPtr (fun id off=>xX h id fun o=>o.onCells fun _ cs=>ZE cs off fun l=>gf l n fun l=>K (.agg l) h) none
theorem XB (p:KV) (n:Nat):QOk (ZY p h K) ((qf h p n false).map fun v=>(v,h)) K:=by
 cases p<;>try exact .none _ _
 rename_i id off
 show QOk (xX h id _) _ _
 rw [xo]
 simp only [qf]
 cases h.get id with
 |none=>exact .none _ _
 | some o=>
  cases o<;>try exact .none _ _
  rename_i ro cs
  show QOk (Gp cs off _) _ _
  rw [Ze]
  simp only [krd]
  cases cs[off]? with
  |none=>exact .none _ _
  |some v=>exact .one rfl
theorem Xu (p:KV) (n:Nat):QOk (ZV n p h K) ((qf h p n true).map fun v=>(v,h)) K:=by
 cases p<;>try exact .none _ _
 rename_i id off
 show QOk (xX h id _) _ _
 rw [xo]
 simp only [qf]
 cases h.get id with
 |none=>exact .none _ _
 | some o=>
  cases o<;>try exact .none _ _
  rename_i ro cs
  simp only [Option.elim_some,KO.onCells]
  rw [qV,kg]
  simp only [krd,if_true]
  split
  ·exact .one rfl
  ·exact .none _ _
noncomputable def Pq (n:Nat) (p v:KV) (h:KH) (K:QK):QR:=
 p.onPtr (fun id off=>xX h id fun o=>o.onCells fun ro cs=>zb ro none (gJ v n fun new=>X9 cs off n new fun cs=>qh h id (.cells false cs) fun h=>K (.tuple []) h)) none
theorem BZ (n:Nat) (p v:KV):QOk (Pq n p v h K) ((pe h p v n).map fun h=>(.tuple [],h)) K:=by
 cases p<;>try exact .none _ _
 rename_i id off
 show QOk (xX h id _) _ _
 rw [xo]
 simp only [pe]
 cases h.get id with
 |none=>exact .none _ _
 | some o=>
  cases o<;>try exact .none _ _
  rename_i ro cs
  cases ro with
  |true=>exact .none _ _
  | false=>
   simp only [Option.elim_some,KO.onCells,za,Bool.false_eq_true,if_false]
   rw [pC]
   by_cases h1:v.cells.length=n∧KV.isCells v.cells=true
   ·rw [if_pos h1,pY]
    by_cases h2:off+n≤cs.length
    ·rw [if_pos h2,uo]
     simp only [h1,h2,and_self,if_true]
     exact .one rfl
    ·rw [if_neg h2]; exact .none _ _
   ·rw [if_neg h1]; exact .none _ _
noncomputable def c8 (k:Nat) (p:KV) (h:KH) (K:QK):QR:=p.onPtr (fun id off=>nfc (Nat.add off k) fun off=>K (.ptr id off) h) none
theorem GY {d:TD} {fs:List (Nat×Nat)} {f k n:Nat} (hd:d= .struct fs) (hf:fs[f]? =some (k,n)) (hn:n≠0) (p:KV):QOk (c8 k p h K) ((vk d p f).map fun v=>(v,h)) K:=by
 subst hd
 cases p<;>try exact .none _ _
 rename_i id off
 simp only [c8,KV.onPtr,zi,vk,hf,ne_eq,hn,not_false_iff,if_true]
 exact .one rfl
noncomputable def kq (i:Int) (f:Nat→QR):QR:=Int.rec (motive:=fun _=>QR) f (fun _=>none) i
theorem uO (i:Int) (f:Nat→QR):kq i f=if 0≤i then f i.toNat else none:=by
 cases i with
 |ofNat n=>rw [if_pos (by exact Int.natCast_nonneg n)]; rfl
 |negSucc n=>rw [if_neg (by omega)]; rfl
noncomputable def mf (sz:Nat) (x i:KV) (h:KH) (K:QK):QR:=
 i.onInt (fun _ i=>kq i fun i=>x.onSl (fun id off len c s=>zb (Nat.beq sz s) (zb (Nat.blt i len) (nfc (Nat.add off (Nat.mul i sz)) fun off=>K (.ptr id off) h) none) none) none none none) none
def Xt (d:TD) (h:KH) (x i:KV):Option (KV×KH):=match i with| .int _ i=>(w8 d x i).map fun v=>(v,h)|_=>none
theorem cB {d:TD} {e sz by_:Nat} (hd:d= .slice e sz by_) (x i:KV):QOk (mf sz x i h K) (Xt d h x i) K:=by
 subst hd
 cases i<;>try exact .none _ _
 rename_i k i
 show QOk (kq i _) _ _
 rw [uO]
 by_cases hi:0≤i
 ·rw [if_pos hi]
  cases x<;>try exact .none _ _
  rename_i id off len c s
  show QOk (zb _ _ _) _ _
  simp only [za,zi,Xt,w8,Nat.beq_eq]
  by_cases hs:sz=s
  ·rw [if_pos hs]
   simp only [zL,decide_eq_true_eq]
   by_cases hl:i.toNat<len
   ·rw [if_pos hl,if_pos ⟨hs,hi,by omega⟩]; exact .one rfl
   ·rw [if_neg hl]; exact .none _ _
  ·rw [if_neg hs]; exact .none _ _
 ·rw [if_neg hi]; exact .none _ _
noncomputable def mY (n sz:Nat) (x i:KV) (h:KH) (K:QK):QR:=
 i.onInt (fun _ i=>kq i fun i=>x.onPtr (fun id off=>zb (Nat.blt i n) (nfc (Nat.add off (Nat.mul i sz)) fun off=>K (.ptr id off) h) none) none) none
theorem eG {d:TD} {n sz:Nat} (hd:d= .arr n sz) (x i:KV):QOk (mY n sz x i h K) (Xt d h x i) K:=by
 subst hd
 cases i<;>try exact .none _ _
 rename_i k i
 show QOk (kq i _) _ _
 rw [uO]
 by_cases hi:0≤i
 ·rw [if_pos hi]
  cases x<;>try exact .none _ _
  rename_i id off
  show QOk (zb _ _ _) _ _
  simp only [za,zi,Xt,w8,zL,decide_eq_true_eq]
  by_cases hl:i.toNat<n
  ·rw [if_pos hl,if_pos ⟨hi,by omega⟩]; exact .one rfl
  ·rw [if_neg hl]; exact .none _ _
 ·rw [if_neg hi]; exact .none _ _
noncomputable def PI (x i:KV) (h:KH) (K:QK):QR:=i.onInt (fun _ i=>kq i fun i=>x.onStr (fun n s=>zb (Nat.blt i n) (nfc (jq s i) fun b=>K (.int .u8 (.ofNat b)) h) none) none) none
def WP (d:TD) (h:KH) (x i:KV):Option (KV×KH):=match i with| .int _ i=>(bG d x i).map fun v=>(v,h)|_=>none
theorem P2 {d:TD} (hd:d= .str) (x i:KV):QOk (PI x i h K) (WP d h x i) K:=by
 subst hd
 cases i<;>try exact .none _ _
 rename_i k i
 show QOk (kq i _) _ _
 rw [uO]
 by_cases hi:0≤i
 ·rw [if_pos hi]
  cases x<;>try exact .none _ _
  rename_i n s
  show QOk (zb _ _ _) _ _
  simp only [za,zi,WP,bG,zL,decide_eq_true_eq]
  by_cases hl:i.toNat<n
  ·rw [if_pos hl,if_pos ⟨hi,hl⟩]; exact .one rfl
  ·rw [if_neg hl]; exact .none _ _
 ·rw [if_neg hi]; exact .none _ _
noncomputable def l8 (x:KV) (h:KH) (K:QK):QR:=x.onStr (fun n _=>K (.int .i64 (.ofNat n)) h) none
theorem eB {d:TD} (hd:d= .str) (x:KV):QOk (l8 x h K) ((Ju d x).map fun v=>(v,h)) K:=by
 subst hd
 cases x<;>try exact .none _ _
 exact .one rfl
noncomputable def mo (x:KV) (h:KH) (K:QK):QR:=x.onSl (fun _ _ n _ _=>K (.int .i64 (.ofNat n)) h) (K (.int .i64 (.ofNat 0)) h) (K (.int .i64 (.ofNat 0)) h) none
theorem GO {d:TD} {e sz by_:Nat} (hd:d= .slice e sz by_) (x:KV):QOk (mo x h K) ((Ju d x).map fun v=>(v,h)) K:=by
 subst hd
 cases x<;>first|exact .none _ _|exact .one rfl
noncomputable def fU (k:IntKind):Nat:=IntKind.rec (motive:=fun _=>Nat) 127 32767 2147483647 9223372036854775807 255 65535 4294967295 18446744073709551615 k
noncomputable def Kb (k:IntKind) (n:Int) (K:Int→QR):QR:=Int.rec (motive:=fun _=>QR) (fun n=>nfc n fun n=>zb (Nat.ble n (fU k)) (K (.ofNat n)) (ifc (k.wrap (.ofNat n)) K)) (fun n=>ifc (k.wrap (.negSucc n)) K) n
theorem Qd (k:IntKind) (n:Nat) (h:n≤fU k):k.wrap (.ofNat n)= .ofNat n:=by
 have e:(Int.ofNat n)=(n:Int):=rfl
 rw [e]
 cases k<;>simp only [fU]at h<;>simp [IntKind.wrap,IntKind.bits,IntKind.signed]<;>omega
theorem Ut (k:IntKind) (n:Int) (K:Int→QR):Kb k n K=K (k.wrap n):=by
 cases n with
 | ofNat n=>
  simp only [Kb,zi,za,Qk]
  by_cases h:n≤fU k
  ·rw [if_pos (by rwa [Nat.ble_eq]),Qd k n h]
  ·rw [if_neg (by rwa [Nat.ble_eq])]
 |negSucc n=>exact Qk _ _
noncomputable def nK (a b:IntKind):Bool:=Nat.beq (IntKind.rec (motive:=fun _=>Nat) 0 1 2 3 4 5 6 7 a) (IntKind.rec (motive:=fun _=>Nat) 0 1 2 3 4 5 6 7 b)
theorem Za (a b:IntKind):nK a b=true↔a=b:=by cases a<;>cases b<;>simp [nK]
noncomputable def qii (x y:KV) (f:IntKind→Int→Int→QR):QR:=x.onInt (fun k a=>y.onInt (fun k' b=>zb (nK k k') (f k a b) none) none) none
noncomputable def mH (a b:Int) (K:Int→QR):QR:=Int.rec (motive:=fun _=>QR) (fun a=>Int.rec (motive:=fun _=>QR) (fun b=>K (.ofNat (Nat.add a b))) (fun b'=>K (Int.add (.ofNat a) (.negSucc b'))) b) (fun a=>K (Int.add (.negSucc a) b)) a
theorem Ps (a b:Int) (K:Int→QR):mH a b K=K (a+b):=by cases a<;>cases b<;>rfl
noncomputable def nl (a b:Int) (K:Int→QR):QR:=Int.rec (motive:=fun _=>QR) (fun a=>Int.rec (motive:=fun _=>QR) (fun b=>zb (Nat.ble b a) (K (.ofNat (Nat.sub a b))) (K (Int.sub (.ofNat a) (.ofNat b)))) (fun b'=>K (Int.sub (.ofNat a) (.negSucc b'))) b) (fun a=>K (Int.sub (.negSucc a) b)) a
theorem Pk (a b:Int) (K:Int→QR):nl a b K=K (a-b):=by
 cases a with
 | ofNat a=>cases b with
  | ofNat b=>
   show zb _ _ _=_
   rw [za]
   split
   ·rename_i h
    rw [Nat.ble_eq]at h
    congr 1
    show((a-b:Nat):Int)=(a:Int)-(b:Int)
    omega
   ·rfl
  |negSucc b=>rfl
 |negSucc a=>cases b<;>rfl
noncomputable def nm (a b:Int) (K:Int→QR):QR:=Int.rec (motive:=fun _=>QR) (fun a=>Int.rec (motive:=fun _=>QR) (fun b=>K (.ofNat (Nat.mul a b))) (fun b'=>K (Int.mul (.ofNat a) (.negSucc b'))) b) (fun a=>K (Int.mul (.negSucc a) b)) a
theorem G8 (a b:Int) (K:Int→QR):nm a b K=K (a*b):=by cases a<;>cases b<;>rfl
noncomputable def DX (a b:Int):Bool:=Int.rec (motive:=fun _=>Bool) (fun a=>Int.rec (motive:=fun _=>Bool) (fun b=>Nat.blt a b) (fun _=>false) b) (fun a=>Int.rec (motive:=fun _=>Bool) (fun _=>true) (fun b=>Nat.blt b a) b) a
theorem Zo (a b:Int):DX a b=decide (a<b):=by
 cases a with
 | ofNat a=>cases b with
  |ofNat b=>show Nat.blt a b=_; rw [zL]; congr 1; exact propext ⟨fun h=>by show(a:Int)<b; omega,fun h=>by have:(a:Int)<b:=h; omega⟩
  |negSucc b=>show false=_; rw [eq_comm,decide_eq_false_iff_not]; show ¬((a:Int)<_); omega
 | negSucc a=>cases b with
  |ofNat b=>show true=_; rw [eq_comm,decide_eq_true_eq]; show _<(b:Int); omega
  |negSucc b=>show Nat.blt b a=_; rw [zL]; congr 1; exact propext ⟨fun h=>by omega,fun h=>by omega⟩
noncomputable def cW (a b:Int):Bool:=Int.rec (motive:=fun _=>Bool) (fun a=>Int.rec (motive:=fun _=>Bool) (fun b=>Nat.beq a b) (fun _=>false) b) (fun a=>Int.rec (motive:=fun _=>Bool) (fun _=>false) (fun b=>Nat.beq a b) b) a
theorem W4 (a b:Int):cW a b=(a==b):=by
 rw [Bool.eq_iff_iff,beq_iff_eq]
 cases a with
 | ofNat a=>cases b with
  |ofNat b=>show Nat.beq a b=true↔_; rw [Nat.beq_eq]; exact⟨fun h=>by rw [h],fun h=>by injection h⟩
  |negSucc b=>exact iff_of_false (fun h=>Bool.noConfusion h) (fun h=>Int.noConfusion h)
 | negSucc a=>cases b with
  |ofNat b=>exact iff_of_false (fun h=>Bool.noConfusion h) (fun h=>Int.noConfusion h)
  |negSucc b=>show Nat.beq a b=true↔_; rw [Nat.beq_eq]; exact⟨fun h=>by rw [h],fun h=>by injection h⟩
noncomputable def qar (f:Int→Int→(Int→QR)→QR) (x y:KV) (h:KH) (K:QK):QR:=qii x y fun k a b=>f a b fun n=>Kb k n fun n=>K (.int k n) h
noncomputable def Jm (f:Int→Int→Bool) (x y:KV) (h:KH) (K:QK):QR:=qii x y fun k a b=>bfc (f a b) fun t=>K (.bool t) h
def xz (E:KE) (h:KH) (op:BinOp) (xt:TypeId) (x y:KV):Option (KV×KH):=if(E.T xt).d≠ .other then(match WE op (E.T xt).d x y with
  |some v=>some (v,h)
  |none=>(KI op (E.T xt).eqs x y).map fun v=>(v,h))else none
theorem Y7 {E:KE} {xt:TypeId} (ho:(E.T xt).d≠ .other) {op:BinOp} (h1:op≠ .shl) (h2:op≠ .shr) {k:IntKind} {a b:Int} {v:KV} (e:X7 k op a b=some v):xz E h op xt (.int k a) (.int k b)=some (v,h):=by
 have:WE op (E.T xt).d (.int k a) (.int k b)=some v:=by
  cases op<;>first|exact absurd rfl h1|exact absurd rfl h2|(simp only [WE,if_true]; exact e)
 simp only [xz,this,ne_eq,ho,not_false_iff,if_true]
theorem Qv {E:KE} {xt:TypeId} (ho:(E.T xt).d≠ .other) {op:BinOp} (h1:op≠ .shl) (h2:op≠ .shr) {f:IntKind→Int→Int→QR} (hf:∀k a b,∃v,X7 k op a b=some v∧f k a b=K v h) (x y:KV):QOk (qii x y f) (xz E h op xt x y) K:=by
 cases x<;>try exact .none _ _
 cases y<;>try exact .none _ _
 rename_i k a k' b
 show QOk (zb _ _ _) _ _
 rw [za]
 by_cases hk:k=k'
 ·subst hk
  rw [if_pos ((Za _ _).2 rfl)]
  obtain⟨v,e1,e2⟩:=hf k a b
  rw [e2]
  exact .one (Y7 ho h1 h2 e1)
 ·rw [if_neg (fun x=>hk ((Za _ _).1 x))]; exact .none _ _
theorem JC {E:KE} {xt:TypeId} (ho:(E.T xt).d≠ .other) {op:BinOp} (h1:op≠ .shl) (h2:op≠ .shr) {f:Int→Int→(Int→QR)→QR} {g:Int→Int→Int} (hf:∀a b K,f a b K=K (g a b)) (hk:∀k a b,X7 k op a b=some (.int k (k.wrap (g a b)))) (x y:KV):
  QOk (qar f x y h K) (xz E h op xt x y) K:=Qv ho h1 h2 (fun k a b=>⟨_,hk k a b,by rw [hf,Ut]⟩) x y
theorem kK {E:KE} {xt:TypeId} (ho:(E.T xt).d≠ .other) {op:BinOp} (h1:op≠ .shl) (h2:op≠ .shr) {f:Int→Int→Bool} (hk:∀k a b,X7 k op a b=some (.bool (f a b))) (x y:KV):
  QOk (Jm f x y h K) (xz E h op xt x y) K:=Qv ho h1 h2 (fun k a b=>⟨_,hk k a b,by rw [Wq]⟩) x y
end
section
variable {h:KH} {K:QK}
noncomputable def QW (x:KV) (h:KH) (K:QK):QR:=x.hd fun v=>K v h
theorem Uq (x:KV):QOk (QW x h K) (some (x,h)) K:=by
 unfold QW; rw [KV.hd_eq]; exact .one rfl
noncomputable def Dd (c a b:KV) (h:KH) (K:QK):QR:=c.onBool (fun t=>zb t (a.hd fun v=>K v h) (b.hd fun v=>K v h)) none
def Qr (h:KH) (c a b:KV):Option (KV×KH):=match c with| .bool t=>some (if t then a else b,h)|_=>none
theorem GN (c a b:KV):QOk (Dd c a b h K) (Qr h c a b) K:=by
 cases c<;>try exact .none _ _
 rename_i t
 simp only [Dd,KV.onBool,za,KV.hd_eq,Qr]
 cases t<;>exact .one rfl
noncomputable def ou (i:Nat) (x:KV) (h:KH) (K:QK):QR:=x.onTuple (fun vs=>Gp vs i fun v=>v.hd fun v=>K v h) none
theorem lP (i:Nat) (x:KV):QOk (ou i x h K) ((jF x i).map fun v=>(v,h)) K:=by
 cases x<;>try exact .none _ _
 rename_i vs
 simp only [ou,KV.onTuple,Ze,jF]
 cases vs[i]? with
 |none=>exact .none _ _
 |some v=>simp only [Option.elim_some,KV.hd_eq]; exact .one rfl
noncomputable def tG (x:KV) (h:KH) (K:QK):QR:=x.onBool (fun t=>zb t (K (.bool false) h) (K (.bool true) h)) none
theorem fW (x:KV):QOk (tG x h K) ((kun .not x).map fun v=>(v,h)) K:=by
 cases x<;>try exact .none _ _
 rename_i t
 cases t<;>exact .one rfl
noncomputable def Dl (off:Nat) (x:KV) (h:KH) (K:QK):QR:=x.onAgg (fun cs=>Gp cs off fun v=>v.hd fun v=>K v h) none
noncomputable def cX (off n:Nat) (x:KV) (h:KH) (K:QK):QR:=x.onAgg (fun cs=>ZE cs off fun l=>gf l n fun l=>K (.agg l) h) none
theorem cK {s:TI} {T:TypeId→TI} {fs:List (Nat×Nat)} {f off n:Nat} {ft:TypeId} (hd:s.d= .struct fs) (hf:fs[f]? =some (off,n)) (ht:s.fts[f]? =some ft) (ho:(T ft).ok=true∧(T ft).d≠ .other) (ha:(T ft).d.agg=false) (x:KV):
  QOk (Dl off x h K) ((j8 s T x f).map fun v=>(v,h)) K:=by
 cases x<;>try exact .none _ _
 rename_i cs
 simp only [Dl,KV.onAgg,Ze,j8,hd,hf,ht,ho,ne_eq,not_false_iff,and_self,if_true,ha,krd,Bool.false_eq_true,if_false]
 cases cs[off]? with
 |none=>exact .none _ _
 |some v=>simp only [Option.elim_some,KV.hd_eq]; exact .one rfl
theorem Pe {s:TI} {T:TypeId→TI} {fs:List (Nat×Nat)} {f off n:Nat} {ft:TypeId} (hd:s.d= .struct fs) (hf:fs[f]? =some (off,n)) (ht:s.fts[f]? =some ft) (ho:(T ft).ok=true∧(T ft).d≠ .other) (ha:(T ft).d.agg=true) (x:KV):
  QOk (cX off (T ft).sz x h K) ((j8 s T x f).map fun v=>(v,h)) K:=by
 cases x<;>try exact .none _ _
 rename_i cs
 simp only [cX,KV.onAgg,qV,kg,j8,hd,hf,ht,ho,ne_eq,not_false_iff,and_self,if_true,ha,krd]
 split
 ·exact .one rfl
 ·exact .none _ _
noncomputable def WF (cs:List KV) (h:KH) (K:QK):QR:=yQ h (.cells false cs) fun i h=>K (.ptr i 0) h
theorem BO {t:TI} {z:KV} {cs:List KV} (ht:t.zok=true) (hz:z.cells=cs) (hc:KV.isCells cs=true):QOk (WF cs h K) (if t.zok=true∧KV.isCells z.cells=true∧yw h=true then some (.ptr h.next 0,h.push (.cells false z.cells))else none) K:=by
 unfold WF
 rw [yI]
 subst hz
 split
 ·rename_i hr
  rw [if_pos ⟨ht,hc,hr⟩]; exact .one rfl
 ·exact .none _ _
noncomputable def nM (x:KV) (h:KH) (K:QK):QR:=x.onAgg (fun cs=>lQ cs fun n=>de cs n (yQ h (.cells false cs) fun i h=>K (.ptr i 0) h)) (x.onCell (x.hd fun v=>yQ h (.cells false [v]) fun i h=>K (.ptr i 0) h) none)
theorem lE (x:KV):QOk (nM x h K) (if KV.isCells x.cells=true∧yw h=true then some (.ptr h.next 0,h.push (.cells false x.cells))else none) K:=by
 have fin:∀cs:List KV,KV.isCells cs=true→x.cells=cs→QOk (if yw h=true then K (.ptr h.next 0) (h.push (.cells false cs))else none) (if KV.isCells x.cells=true∧yw h=true then some (.ptr h.next 0,h.push (.cells false x.cells))else none) K:=by
  intro cs h1 h2
  subst h2
  split
  ·rename_i hr; rw [if_pos ⟨h1,hr⟩]; exact .one rfl
  ·exact .none _ _
 have one:∀v:KV,x=v→v.cells= [v]→QOk (v.onCell (v.hd fun v=>yQ h (.cells false [v]) fun i h=>K (.ptr i 0) h) none) (if KV.isCells x.cells=true∧yw h=true then some (.ptr h.next 0,h.push (.cells false x.cells))else none) K:=by
  intro v e hv
  subst e
  rw [KV.onCell_eq,KV.hd_eq,yI]
  split
  ·rename_i hc
   exact fin [x] (by simp [KV.isCells,hc]) hv
  ·exact .none _ _
 cases x with
 | agg cs=>
  simp only [nM,KV.onAgg,WX,d8,yI]
  split
  ·rename_i hc; exact fin cs hc.2 rfl
  ·exact .none _ _
 |junk=>exact one .junk rfl rfl
 |bool b=>exact one (.bool b) rfl rfl
 |int k n=>exact one (.int k n) rfl rfl
 |str a b=>exact one (.str a b) rfl rfl
 |ptr i o=>exact one (.ptr i o) rfl rfl
 |nilp=>exact one .nilp rfl rfl
 |sl i o l c s=>exact one (.sl i o l c s) rfl rfl
 |slz=>exact one .slz rfl rfl
 |nilsl=>exact one .nilsl rfl rfl
 |func f a b=>exact one (.func f a b) rfl rfl
 |nilfunc=>exact one .nilfunc rfl rfl
 |yield i=>exact one (.yield i) rfl rfl
 |tuple l=>exact one (.tuple l) rfl rfl
 |map i=>exact one (.map i) rfl rfl
 |nilmap=>exact one .nilmap rfl rfl
 |iface t v=>exact one (.iface t v) rfl rfl
 |niliface=>exact one .niliface rfl rfl
noncomputable def K3 (cells:List KV) (ps:List (Nat×Nat)) (vs:List KV) (K:List KV→QR):QR:=
 List.rec (motive:=fun _=>List KV→List KV→QR) (fun vs cells=>K cells)
  (fun p _ ih vs cells=>List.rec (motive:=fun _=>QR) none (fun v vs _=>Prod.rec (motive:=fun _=>QR) (fun off n=>gJ v n fun new=>X9 cells off n new fun cells=>ih vs cells) p) vs) ps vs cells
theorem ZH {place:Nat→Option (Nat×Nat)} {K:List KV→QR} {r:KV×KH}:∀(is:List Nat) (ps:List (Nat×Nat)) (vs cells:List KV),is.map place=ps.map some→is.length=vs.length→K3 cells ps vs K=some r→∃c,jB place cells (is.zip vs)=some c∧K c=some r
 | [],ps,vs,cells,hp,hl,e=>by
  cases ps with
  |cons _ _=>simp at hp
  | nil=>cases vs with
   |cons _ _=>simp at hl
   |nil=>exact⟨cells,rfl,e⟩
 | i ::is,ps,vs,cells,hp,hl,e=>by
  cases ps with
  |nil=>simp at hp
  | cons p ps=>cases vs with
   |nil=>simp at hl
   | cons v vs=>
    obtain⟨off,n⟩:=p
    simp only [List.map_cons,List.cons.injEq]at hp
    have e:(gJ v n fun new=>X9 cells off n new fun cells=>K3 cells ps vs K)=some r:=e
    rw [pC]at e
    split at e
    ·rename_i h1
     rw [pY]at e
     split at e
     ·rename_i h2
      obtain⟨c,e1,e2⟩:=ZH is ps vs _ hp.2 (by simpa using hl) e
      refine⟨c, ?_,e2⟩
      simp only [List.zip_cons_cons,jB,hp.1]
      rw [if_pos ⟨h1.1,by rw [h1.1]; exact h2,h1.2⟩]
      exact e1
     ·cases e
    ·cases e
noncomputable def dg (z:List KV) (ps:List (Nat×Nat)) (vs:List KV) (h:KH) (K:QK):QR:=K3 z ps vs fun c=>K (.agg c) h
noncomputable def XX (len sz:Nat) (z:List KV) (ps:List (Nat×Nat)) (vs:List KV) (h:KH) (K:QK):QR:=K3 z ps vs fun c=>yQ h (.cells false c) fun i h=>K (.sl i 0 len (some len) sz) h
noncomputable def re (k:IntKind) (x:KV) (h:KH) (K:QK):QR:=x.onInt (fun _ n=>Kb k n fun n=>K (.int k n) h) none
theorem f8 {T:TypeId→TI} {s d:TypeId} {k:IntKind} (hs:(T s).ok=true) (hd:(T d).d= .int k) (x:KV):QOk (re k x h K) (vV h T s d x) K:=by
 cases x<;>try exact .none _ _
 rename_i k' n
 simp only [re,KV.onInt,Ut,vV,hs,hd,if_true]
 exact .one rfl
noncomputable def nW (x y:KV) (h:KH) (K:QK):QR:=x.onStr (fun n a=>y.onStr (fun m b=>nfc (Nat.add n m) fun l=>zb (Nat.ble l 9223372036854775807) (nfc (Nat.add a (Nat.shiftLeft b (Nat.mul 8 n))) fun s=>K (.str l s) h) none) none) none
theorem lf {E:KE} {xt:TypeId} (ho:(E.T xt).d≠ .other) (x y:KV):QOk (nW x y h K) (xz E h .add xt x y) K:=by
 cases x<;>try exact .none _ _
 cases y<;>try exact .none _ _
 rename_i n a m b
 simp only [nW,KV.onStr,zi,za]
 by_cases hl:Nat.ble (Nat.add n m) 9223372036854775807=true
 ·rw [if_pos hl]
  refine .one ?_
  have hl':Nat.ble (n+m) 9223372036854775807=true:=hl
  simp only [xz,WE,WI,ne_eq,ho,not_false_iff,if_true,hl',cond_true,PL]
  rfl
 ·rw [if_neg hl]; exact .none _ _
noncomputable def Bb (x y:KV) (t e:QR):QR:=x.onStr (fun n a=>y.onStr (fun m b=>zb (Nat.beq n m) (zb (Nat.beq a b) t e) e) none) none
theorem VF {x y:KV} {t e:QR} {r:KV×KH} (q:Bb x y t e=some r):∃n a m b,x= .str n a∧y= .str m b∧(if(Nat.beq n m&&Nat.beq a b)=true then t else e)=some r:=by
 cases x<;>try (exact(Option.noConfusion q (fun {_}=>False.elim))<;>done)
 all_goals first|(cases q; done)|skip
 cases y<;>first|(cases q; done)|skip
 rename_i n a m b
 refine⟨n,a,m,b,rfl,rfl, ?_⟩
 simp only [Bb,KV.onStr,za]at q
 by_cases h1:Nat.beq n m=true<;>by_cases h2:Nat.beq a b=true<;>simp_all
noncomputable def sY (x y:KV) (h:KH) (K:QK):QR:=Bb x y (K (.bool true) h) (K (.bool false) h)
noncomputable def sS (x y:KV) (h:KH) (K:QK):QR:=Bb x y (K (.bool false) h) (K (.bool true) h)
theorem kU {E:KE} {xt:TypeId} (ho:(E.T xt).d≠ .other) {op:BinOp} {n a m b:Nat} {v:KV} (e:WI op n a m b=some v):xz E h op xt (.str n a) (.str m b)=some (v,h):=by
 have:WE op (E.T xt).d (.str n a) (.str m b)=some v:=by simp only [WE]; exact e
 simp only [xz,this,ne_eq,ho,not_false_iff,if_true]
theorem hU {E:KE} {xt:TypeId} (ho:(E.T xt).d≠ .other) (x y:KV):QOk (sY x y h K) (xz E h .eql xt x y) K:=by
 intro r q
 obtain⟨n,a,m,b,rfl,rfl,e⟩:=VF q
 by_cases hc:(Nat.beq n m&&Nat.beq a b)=true
 ·rw [if_pos hc]at e; exact⟨_,_,kU ho (v:= .bool true) (by simp only [WI,hc]),e⟩
 ·rw [if_neg hc]at e; exact⟨_,_,kU ho (v:= .bool false) (by simp only [WI,Bool.not_eq_true _▸hc]),e⟩
theorem eR {E:KE} {xt:TypeId} (ho:(E.T xt).d≠ .other) (x y:KV):QOk (sS x y h K) (xz E h .neq xt x y) K:=by
 intro r q
 obtain⟨n,a,m,b,rfl,rfl,e⟩:=VF q
 by_cases hc:(Nat.beq n m&&Nat.beq a b)=true
 ·rw [if_pos hc]at e; exact⟨_,_,kU ho (v:= .bool false) (by simp only [WI,hc,Bool.not_true]),e⟩
 ·rw [if_neg hc]at e; exact⟨_,_,kU ho (v:= .bool true) (by rw [Bool.not_eq_true]at hc; simp only [WI,hc,Bool.not_false]),e⟩
noncomputable def oR (s:Option (KV×KH)) (h:KH) (K:QK):QR:=Option.rec (motive:=fun _=>QR) none (fun p=>Prod.rec (motive:=fun _=>QR) (fun v _=>v.fc fun v=>K v h) p) s
theorem f7 {s:Option (KV×KH)} (hs:∀v h',s=some (v,h')→h'=h):QOk (oR s h K) s K:=by
 intro r e
 cases s with
 |none=>cases e
 | some p=>
  obtain⟨v,h'⟩:=p
  simp only [oR,KV.fc_eq]at e
  cases hs v h' rfl
  exact⟨v,_,rfl,e⟩
end
section
variable {S:Type}
inductive QO where
 |sel (g:Sl→KV)
 |c (v:KV)
noncomputable def QO.ev (q:QO) (l:Sl):KV:=QO.rec (motive:=fun _=>KV) (fun g=>g l) (fun v=>v) q
noncomputable def cO (ng:Nat) (x:Operand) (K:QO→S):S:=
 Operand.rec (motive:=fun _=>S) (fun t=>Sel.rec (motive:=fun _=>S) (fun g=>K (.sel g)) (dS t)) (fun v=>(KV.of v).fc fun v=>K (.c v)) (fun g=>zb (Nat.blt g ng) (nfc g fun g=>K (.c (.ptr g 0))) (K (.c .junk))) (fun f=>nfc f fun f=>K (.c (.func (.func f) [] []))) x
theorem jC (ng:Nat) (x:Operand) (K:QO→S):∃q:QO,(∀l,q.ev l=zg ng l x)∧cO ng x K=K q:=by
 cases x with
 |tmp t=>exact⟨.sel fun l=>zN l t,fun l=>rfl,by simp only [cO,V7]⟩
 |const v=>exact⟨.c (KV.of v),fun l=>rfl,by simp only [cO,KV.fc_eq]⟩
 | global g=>
  refine⟨.c (bif Nat.blt g ng then .ptr g 0 else .junk),fun l=>rfl, ?_⟩
  simp only [cO,za,zi]
  cases Nat.blt g ng<;>rfl
 |func f=>exact⟨.c (.func (.func f) [] []),fun l=>rfl,by simp only [cO,zi]⟩
noncomputable def cOs (ng:Nat) (xs:List Operand) (K:List QO→S):S:=List.rec (motive:=fun _=>(List QO→S)→S) (fun K=>K []) (fun x _ ih K=>cO ng x fun q=>ih fun qs=>K (q::qs)) xs K
theorem YE (ng:Nat):∀(xs:List Operand) (K:List QO→S),∃qs:List QO,(∀l,qs.map (fun q=>q.ev l)=xs.map (zg ng l))∧cOs ng xs K=K qs
 | [],K=>⟨[],fun l=>rfl,rfl⟩
 | x::xs,K=>by
  obtain⟨q,h1,e1⟩:=jC ng x fun q=>cOs ng xs fun qs=>K (q::qs)
  obtain⟨qs,h2,e2⟩:=YE ng xs fun qs=>K (q::qs)
  exact⟨q::qs,fun l=>by rw [List.map_cons,List.map_cons,h1,h2],e1.trans e2⟩
end
noncomputable def evs (l:Sl) (xs:List QO) (K:List KV→QR):QR:=List.rec (motive:=fun _=>(List KV→QR)→QR) (fun K=>K []) (fun x _ ih K=>(x.ev l).hd fun v=>ih fun vs=>K (v::vs)) xs K
theorem qt (l:Sl):∀(xs:List QO) (K:List KV→QR),evs l xs K=K (xs.map fun q=>q.ev l)
 | [],K=>rfl
 |x::xs,K=>(KV.hd_eq (x.ev l) fun v=>evs l xs fun vs=>K (v::vs)).trans (qt l xs fun vs=>K (x.ev l::vs))
inductive QOp where
 |f0 (g:KH→QK→QR)
 |f1 (g:KV→KH→QK→QR) (x:QO)
 |f2 (g:KV→KV→KH→QK→QR) (x y:QO)
 |f3 (g:KV→KV→KV→KH→QK→QR) (x y z:QO)
 |fl (g:List KV→KH→QK→QR) (xs:List QO)
 |old (g:Sl→KH→Option (KV×KH))
 |callS (f:FuncId) (xs:List QO)
 |callV (f:QO) (xs:List QO)
 |inv (r:QO) (f:TypeId→Option FuncId) (xs:List QO)
structure QE where
 call:FuncId→List KV→KH→QK→QR
 round:Nat→List KV→KH→QK→QR
 calld:FuncId→List KV→KH→(KH→QR)→QR
noncomputable def Fn.onFunc (f:Fn) (k:FuncId→QR):QR:=Fn.rec (motive:=fun _=>QR) k (fun _=>none) (fun _ _=>none) (fun _ _ _ _=>none) (fun _=>none) f
noncomputable def JP (e:QE) (f:KV) (xs:List QO) (l:Sl) (h:KH) (K:QK):QR:=
 f.onFunc (fun fn a c=>Fn.onFunc fn fun f=>evs l xs fun vs=>dG vs c fun vc=>dG a vc fun all=>e.call f all h K) (fun id=>evs l xs fun vs=>e.round id vs h K) none
noncomputable def oe (e:QE) (r:KV) (m:TypeId→Option FuncId) (xs:List QO) (l:Sl) (h:KH) (K:QK):QR:=
 r.onIface (fun t v=>Option.rec (motive:=fun _=>QR) none (fun f=>evs l xs fun vs=>e.call f (v::vs) h K) (m t)) none none
noncomputable def QOp.run (q:QOp) (e:QE) (l:Sl) (h:KH) (K:QK):QR:=QOp.rec (motive:=fun _=>QR)
 (fun g=>g h K) (fun g x=>g (x.ev l) h K) (fun g x y=>g (x.ev l) (y.ev l) h K) (fun g x y z=>g (x.ev l) (y.ev l) (z.ev l) h K) (fun g xs=>evs l xs fun vs=>g vs h K) (fun g=>oR (g l h) h K)
 (fun f xs=>evs l xs fun vs=>e.call f vs h K) (fun f xs=>JP e (f.ev l) xs l h K) (fun r m xs=>oe e (r.ev l) m xs l h K) q
def QOp.okE (E:KE) (q:QOp) (o:Op):Prop:=∀(e:QE) (l:Sl) (h:KH) (K:QK),QOk (q.run e l h K) (zu E l h o) K
section
variable {S:Type} {E:KE}
theorem jT {g:KV→KH→QK→QR} {x:Operand} {o:Op} {f:KH→KV→Option (KV×KH)} (hg:∀v h K,QOk (g v h K) (f h v) K) (ho:∀l h,zu E l h o=f h (zg E.ng l x)) (K:QOp→S):∃q:QOp,q.okE E o∧(cO E.ng x fun x=>K (.f1 g x))=K q:=by
 obtain⟨q,h1,e⟩:=jC E.ng x fun x=>K (.f1 g x)
 refine⟨.f1 g q,fun _ l h K=> ?_,e⟩
 rw [ho,←h1]; exact hg _ _ _
theorem vL {g:KV→KV→KH→QK→QR} {x y:Operand} {o:Op} {f:KH→KV→KV→Option (KV×KH)} (hg:∀v u h K,QOk (g v u h K) (f h v u) K) (ho:∀l h,zu E l h o=f h (zg E.ng l x) (zg E.ng l y)) (K:QOp→S):
  ∃q:QOp,q.okE E o∧(cO E.ng x fun x=>cO E.ng y fun y=>K (.f2 g x y))=K q:=by
 obtain⟨q,h1,e1⟩:=jC E.ng x fun x=>cO E.ng y fun y=>K (.f2 g x y)
 obtain⟨q2,h2,e2⟩:=jC E.ng y fun y=>K (.f2 g q y)
 refine⟨.f2 g q q2,fun _ l h K=> ?_,e1.trans e2⟩
 rw [ho,←h1,←h2]; exact hg _ _ _ _
theorem fy {g:KV→KV→KV→KH→QK→QR} {x y z:Operand} {o:Op} {f:KH→KV→KV→KV→Option (KV×KH)} (hg:∀v u w h K,QOk (g v u w h K) (f h v u w) K) (ho:∀l h,zu E l h o=f h (zg E.ng l x) (zg E.ng l y) (zg E.ng l z)) (K:QOp→S):
  ∃q:QOp,q.okE E o∧(cO E.ng x fun x=>cO E.ng y fun y=>cO E.ng z fun z=>K (.f3 g x y z))=K q:=by
 obtain⟨q,h1,e1⟩:=jC E.ng x fun x=>cO E.ng y fun y=>cO E.ng z fun z=>K (.f3 g x y z)
 obtain⟨q2,h2,e2⟩:=jC E.ng y fun y=>cO E.ng z fun z=>K (.f3 g q y z)
 obtain⟨q3,h3,e3⟩:=jC E.ng z fun z=>K (.f3 g q q2 z)
 refine⟨.f3 g q q2 q3,fun _ l h K=> ?_,e1.trans (e2.trans e3)⟩
 rw [ho,←h1,←h2,←h3]; exact hg _ _ _ _ _
noncomputable def cparts (ng:Nat) (place:Nat→Option (Nat×Nat)) (ps:List (Nat×Operand)) (K:List (Nat×Nat)→List QO→S) (F:S):S:=
 List.rec (motive:=fun _=>(List (Nat×Nat)→List QO→S)→S) (fun K=>K [] []) (fun p _ ih K=>match place p.1 with
  |some (a,b)=>nfc a fun a=>nfc b fun b=>cO ng p.2 fun q=>ih fun ps qs=>K ((a,b)::ps) (q::qs)
  |none=>F) ps K
theorem kT (ng:Nat) (place:Nat→Option (Nat×Nat)) (F:S):∀(ps:List (Nat×Operand)) (K:List (Nat×Nat)→List QO→S),cparts ng place ps K F=F ∨
  ∃rs qs,(ps.map Prod.fst).map place=rs.map some∧(∀l,qs.map (fun q:QO=>q.ev l)=ps.map fun p=>zg ng l p.2)∧cparts ng place ps K F=K rs qs
 | [],K=> .inr ⟨[],[],rfl,fun l=>rfl,rfl⟩
 | p ::ps,K=>by
  cases hp:place p.1 with
  |none=>left; show(match place p.1 with|some (a,b)=>_|none=>F)=F; rw [hp]
  | some ab=>
   obtain⟨a,b⟩:=ab
   have e:cparts ng place (p::ps) K F=cO ng p.2 fun q=>cparts ng place ps (fun ps qs=>K ((a,b)::ps) (q::qs)) F:=by
    show(match place p.1 with|some (a,b)=>_|none=>F)=_
    rw [hp]
    exact(zi a fun a=>nfc b fun b=>cO ng p.2 fun q=>cparts ng place ps (fun ps qs=>K ((a,b)::ps) (q::qs)) F).trans (zi b fun b=>cO ng p.2 fun q=>cparts ng place ps (fun ps qs=>K ((a,b)::ps) (q::qs)) F)
   obtain⟨q,h1,e1⟩:=jC ng p.2 fun q=>cparts ng place ps (fun ps qs=>K ((a,b)::ps) (q::qs)) F
   rcases kT ng place F ps (fun ps qs=>K ((a,b)::ps) (q::qs))with h2|⟨rs,qs,h2,h3,h4⟩
   ·left; rw [e,e1,h2]
   ·right
    refine⟨(a,b)::rs,q::qs, ?_, ?_,by rw [e,e1,h4]⟩
    ·simp only [List.map_cons,hp,h2]
    ·intro l; simp only [List.map_cons,h1,h3]
theorem XK (ng:Nat) (l:Sl) (ps:List (Nat×Operand)):(ps.map Prod.fst).zip (ps.map fun p=>zg ng l p.2)=ps.map fun p=>(p.1,zg ng l p.2):=by
 induction ps with
 |nil=>rfl
 |cons p r ih=>simp only [List.map_cons,List.zip_cons_cons,ih]
noncomputable def WL (E:KE) (t:TypeId) (ps:List (Nat×Operand)) (K:QOp→S) (F:S):S:=
 match(E.T t).zok,(E.T t).d with
 |true, .struct fs=>KV.fcs (E.Z t).cells fun z=>cparts E.ng (fun i=>fs[i]?) ps (fun rs qs=>K (.fl (dg z rs) qs)) F
 |true, .arr _ sz=>KV.fcs (E.Z t).cells fun z=>cparts E.ng (fun i=>some (i*sz,sz)) ps (fun rs qs=>K (.fl (dg z rs) qs)) F
 |_,_=>F
theorem Y0 {place:Nat→Option (Nat×Nat)} {z:List KV} {ps:List (Nat×Operand)} {rs:List (Nat×Nat)} {qs:List QO} (h1:(ps.map Prod.fst).map place=rs.map some) (h2:∀l,qs.map (fun q:QO=>q.ev l)=ps.map fun p=>zg E.ng l p.2) {o:Op}
  (ho:∀l h,zu E l h o=match jB place z (ps.map fun p=>(p.1,zg E.ng l p.2))with|some c=>some (.agg c,h)|none=>none):QOp.okE E (.fl (dg z rs) qs) o:=by
 intro e l h K r hr
 have hr:(evs l qs fun vs=>dg z rs vs h K)=some r:=hr
 rw [qt,h2]at hr
 obtain⟨c,e1,e2⟩:=ZH _ rs _ z h1 (by simp) hr
 rw [XK]at e1
 exact⟨.agg c,h,by rw [ho,e1],e2⟩
theorem Bn (t:TypeId) (ps:Array (Nat×Operand)) (K:QOp→S) (F:S):WL E t ps.toList K F=F∨∃q:QOp,q.okE E (.build t ps)∧WL E t ps.toList K F=K q:=by
 unfold WL
 split
 ·rename_i fs hz hd
  rw [KV.fcs_eq]
  rcases kT E.ng (fun i=>fs[i]?) F ps.toList (fun rs qs=>K (.fl (dg (E.Z t).cells rs) qs))with h|⟨rs,qs,h1,h2,h3⟩
  ·exact .inl h
  ·refine .inr ⟨_,Y0 h1 h2 ?_,h3⟩
   intro l h
   simp only [zu,ZO,hz,hd,if_true,xZ]
   cases jB (fun i=>fs[i]?) (E.Z t).cells (ps.toList.map fun p=>(p.1,zg E.ng l p.2))<;>rfl
 ·rename_i n sz hz hd
  rw [KV.fcs_eq]
  rcases kT E.ng (fun i=>some (i*sz,sz)) F ps.toList (fun rs qs=>K (.fl (dg (E.Z t).cells rs) qs))with h|⟨rs,qs,h1,h2,h3⟩
  ·exact .inl h
  ·refine .inr ⟨_,Y0 h1 h2 ?_,h3⟩
   intro l h
   simp only [zu,ZO,hz,hd,if_true,xZ]
   cases jB (fun i=>some (i*sz,sz)) (E.Z t).cells (ps.toList.map fun p=>(p.1,zg E.ng l p.2))<;>rfl
 ·exact .inl rfl
noncomputable def pZ (E:KE) (t:TypeId) (len:Nat) (ps:List (Nat×Operand)) (K:QOp→S) (F:S):S:=
 match(E.T t).d with
 | .slice e sz _=>zb (Nat.ble (len*sz) 16777216&&(E.T e).zok&&Nat.beq (E.Z e).cells.length sz)
   (nfc len fun len=>nfc sz fun sz=>KV.fcs (wb len (E.Z e).cells) fun z=>cparts E.ng (fun i=>some (i*sz,sz)) ps (fun rs qs=>K (.fl (XX len sz z rs) qs)) F) F
 |_=>F
theorem J1 (t:TypeId) (len:Nat) (ps:Array (Nat×Operand)) (K:QOp→S) (F:S):pZ E t len ps.toList K F=F∨∃q:QOp,q.okE E (.buildSlice t len ps)∧pZ E t len ps.toList K F=K q:=by
 unfold pZ
 split
 ·rename_i e sz by_ hd
  rw [za]
  split
  ·rename_i hc
   simp only [iF,Nat.ble_eq,Nat.beq_eq]at hc
   simp only [zi,KV.fcs_eq]
   rcases kT E.ng (fun i=>some (i*sz,sz)) F ps.toList (fun rs qs=>K (.fl (XX len sz (wb len (E.Z e).cells) rs) qs))with h|⟨rs,qs,h1,h2,h3⟩
   ·exact .inl h
   ·refine .inr ⟨_, ?_,h3⟩
    intro en l h K r hr
    have hr:(evs l qs fun vs=>XX len sz (wb len (E.Z e).cells) rs vs h K)=some r:=hr
    rw [qt,h2]at hr
    obtain⟨c,e1,e2⟩:=ZH _ rs _ _ h1 (by simp) hr
    rw [XK]at e1
    rw [yI]at e2
    split at e2
    ·rename_i hroom
     refine⟨_,_, ?_,e2⟩
     simp only [zu,vK,hd,xZ]
     rw [if_pos ⟨hc.1.1,hc.1.2,hc.2,hroom⟩,e1]
    ·cases e2
  ·exact .inl rfl
 ·exact .inl rfl
end
end Go.K
end
