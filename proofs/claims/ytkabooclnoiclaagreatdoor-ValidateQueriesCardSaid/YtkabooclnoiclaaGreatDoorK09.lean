/- Closed runs. No condition. -/
import Derived.Test.YtkabooclnoiclaaGreatDoorK08
set_option linter.all false
noncomputable section
namespace Go.K
open Go.Abs
def KO.onCells (o:KO) (f:Bool->List KV->QR):QR:=KO.rec (motive:=fun _=>QR) f (fun _ _=>none) (fun _ _ _=>none) (fun _ _ _ _=>none) (fun _=>none) (fun _=>none) o
section
variable {R:Type}
def KV.fc (v:KV) (K:KV->R):R:=
 KV.rec (motive_1:=fun _=>(KV->R)->R) (motive_2:=fun _=>(List KV->R)->R) (fun K=>K .junk) (fun b K=>bfc b fun b=>K (.bool b)) (fun k n K=>ifc n fun n=>K (.int k n)) (fun n s K=>nfc n fun n=>nfc s fun s=>K (.str n s))
  (fun i o K=>nfc i fun i=>nfc o fun o=>K (.ptr i o)) (fun K=>K .nilp) (fun i o l c s K=>nfc i fun i=>nfc o fun o=>nfc l fun l=>Gv c fun c=>nfc s fun s=>K (.sl i o l c s)) (fun K=>K .slz) (fun K=>K .nilsl)
  (fun fn _ _ e f K=>e fun a=>f fun b=>K (.func fn a b)) (fun K=>K .nilfunc) (fun i K=>nfc i fun i=>K (.yield i)) (fun _ h K=>h fun a=>K (.agg a)) (fun _ h K=>h fun a=>K (.tuple a))
  (fun i K=>nfc i fun i=>K (.map i)) (fun K=>K .nilmap) (fun t _ h K=>h fun v=>K (.iface t v)) (fun K=>K .niliface) (fun K=>K []) (fun _ _ e f K=>e fun v=>f fun r=>K (v::r)) v K
def KV.fcs (l:List KV) (K:List KV->R):R:=
 KV.rec_1 (motive_1:=fun _=>(KV->R)->R) (motive_2:=fun _=>(List KV->R)->R) (fun K=>K .junk) (fun b K=>bfc b fun b=>K (.bool b)) (fun k n K=>ifc n fun n=>K (.int k n)) (fun n s K=>nfc n fun n=>nfc s fun s=>K (.str n s))
  (fun i o K=>nfc i fun i=>nfc o fun o=>K (.ptr i o)) (fun K=>K .nilp) (fun i o l c s K=>nfc i fun i=>nfc o fun o=>nfc l fun l=>Gv c fun c=>nfc s fun s=>K (.sl i o l c s)) (fun K=>K .slz) (fun K=>K .nilsl)
  (fun fn _ _ e f K=>e fun a=>f fun b=>K (.func fn a b)) (fun K=>K .nilfunc) (fun i K=>nfc i fun i=>K (.yield i)) (fun _ h K=>h fun a=>K (.agg a)) (fun _ h K=>h fun a=>K (.tuple a))
  (fun i K=>nfc i fun i=>K (.map i)) (fun K=>K .nilmap) (fun t _ h K=>h fun v=>K (.iface t v)) (fun K=>K .niliface) (fun K=>K []) (fun _ _ e f K=>e fun v=>f fun r=>K (v::r)) l K
def KV.fc_both:(∀(v:KV) (K:KV->R),v.fc K=K v)∧∀(l:List KV) (K:List KV->R),KV.fcs l K=K l:=by
 have g:∀K,KV.fc (R:=R) .junk K=K .junk:=fun _=>rfl
 refine ⟨fun v=>KV.rec (motive_1:=fun v=>∀K:KV->R,v.fc K=K v) (motive_2:=fun l=>∀K:List KV->R,KV.fcs l K=K l) ?_ ?_ ?_ ?_ ?_ ?_ ?_ ?_ ?_ ?_ ?_ ?_ ?_ ?_ ?_ ?_ ?_ ?_ ?_ ?_ v,
  fun l=>KV.rec_1 (motive_1:=fun v=>∀K:KV->R,v.fc K=K v) (motive_2:=fun l=>∀K:List KV->R,KV.fcs l K=K l) ?_ ?_ ?_ ?_ ?_ ?_ ?_ ?_ ?_ ?_ ?_ ?_ ?_ ?_ ?_ ?_ ?_ ?_ ?_ ?_ l⟩
 all_goals first
  |exact fun K=>rfl
  |exact fun b K=>Qz b fun b=>K (.bool b)
  |exact fun k n K=>D6 n fun n=>K (.int k n)
  |exact fun n s K=>(zH n fun n=>nfc s fun s=>K (.str n s)).trans (zH s fun s=>K (.str n s))
  |exact fun i o K=>(zH i fun i=>nfc o fun o=>K (.ptr i o)).trans (zH o fun o=>K (.ptr i o))
  |exact fun i o l c s K=>(zH i fun i=>nfc o fun o=>nfc l fun l=>Gv c fun c=>nfc s fun s=>K (.sl i o l c s)).trans ((zH o fun o=>nfc l fun l=>Gv c fun c=>nfc s fun s=>K (.sl i o l c s)).trans ((zH l fun l=>Gv c fun c=>nfc s fun s=>K (.sl i o l c s)).trans ((P8 c fun c=>nfc s fun s=>K (.sl i o l c s)).trans (zH s fun s=>K (.sl i o l c s)))))
  |exact fun fn a b e f K=>(e fun a=>KV.fcs b fun b=>K (.func fn a b)).trans (f fun b=>K (.func fn a b))
  |exact fun i K=>zH i fun i=>K (.yield i)
  |exact fun i K=>zH i fun i=>K (.map i)
  |exact fun a h K=>h fun a=>K (.agg a)
  |exact fun a h K=>h fun a=>K (.tuple a)
  |exact fun t v h K=>h fun v=>K (.iface t v)
  |exact fun v r e f K=>(e fun v=>KV.fcs r fun r=>K (v::r)).trans (f fun r=>K (v::r))
def KV.fc_eq (v:KV) (K:KV->R):v.fc K=K v:=KV.fc_both.1 v K
def KV.fcs_eq (l:List KV) (K:List KV->R):KV.fcs l K=K l:=KV.fc_both.2 l K
end
def QOk (e:QR) (s:Option (KV×KH)) (K:QK):Prop:=∀r,e=some r->∃v h,s=some (v,h)∧K v h=some r
def QOk.none (s:Option (KV×KH)) (K:QK):QOk none s K:=fun _ e=>by cases e
def QOk.one {s:Option (KV×KH)} {K:QK} {v:KV} {h:KH} (e:s=some (v,h)):QOk (K v h) s K:=fun r q=>⟨v,h,e,q⟩
section
variable {h:KH} {K:QK}
def V4 (p:KV) (h:KH) (K:QK):QR:=p.onPtr (fun id a=>qg h id fun o=>o.onCells fun _ b=>f8 b a fun v=>K v h) none
def V0 (n:Nat) (p:KV) (h:KH) (K:QK):QR:=p.onPtr (fun id a=>qg h id fun o=>o.onCells fun _ b=>VI b a fun l=>YT l n fun l=>K (.agg l) h) none
def JM (p:KV) (n:Nat):QOk (V4 p h K) ((pE h p n false).map fun v=>(v,h)) K:=by
 cases p<;>try exact .none _ _
 rename_i id a;show QOk (qg h id _) _ _;rw [uO];simp only [pE]
 cases h.get id with
 |none=>exact .none _ _
 | some o=>
  cases o<;>try exact .none _ _
  rename_i ro b;show QOk (f8 b a _) _ _;rw [Vk];simp only [krd]
  cases b[a]? with
  |none=>exact .none _ _
  |some v=>exact .one rfl
def JH (p:KV) (n:Nat):QOk (V0 n p h K) ((pE h p n true).map fun v=>(v,h)) K:=by
 cases p<;>try exact .none _ _
 rename_i id a;show QOk (qg h id _) _ _;rw [uO];simp only [pE]
 cases h.get id with
 |none=>exact .none _ _
 | some o=>
  cases o<;>try exact .none _ _
  rename_i ro b;simp only [Option.elim_some,KO.onCells];rw [Zg,Zq];simp only [krd,if_true];split
  ·exact .one rfl
  ·exact .none _ _
def nD (n:Nat) (p v:KV) (h:KH) (K:QK):QR:=
 p.onPtr (fun id b=>qg h id fun o=>o.onCells fun ro a=>zq ro none (Xj v n fun new=>Qi a b n new fun a=>pG h id (.cells false a) fun h=>K (.tuple []) h)) none
def fF (n:Nat) (p v:KV):QOk (nD n p v h K) ((Wh h p v n).map fun h=>(.tuple [],h)) K:=by
 cases p<;>try exact .none _ _
 rename_i id c;show QOk (qg h id _) _ _;rw [uO];simp only [Wh]
 cases h.get id with
 |none=>exact .none _ _
 | some o=>
  cases o<;>try exact .none _ _
  rename_i ro e
  cases ro with
  |true=>exact .none _ _
  | false=>
   simp only [Option.elim_some,KO.onCells,zo,iT,if_false];rw [WL]
   by_cases a:v.cells.length=n∧KV.isCells v.cells=true
   ·rw [iI a,Vd]
    by_cases b:c+n<=e.length
    ·rw [iI b,bz];simp only [a,b,and_self,if_true];exact .one rfl
    ·rw [iH b]; exact .none _ _
   ·rw [iH a]; exact .none _ _
def rk (k:Nat) (p:KV) (h:KH) (K:QK):QR:=p.onPtr (fun id a=>nfc (Nat.add a k) fun a=>K (.ptr id a) h) none
def lQ {d:TD} {a:List (Nat×Nat)} {f k n:Nat} (hd:d= .struct a) (b:a[f]? =some (k,n)) (c:n≠0) (p:KV):QOk (rk k p h K) ((qz d p f).map fun v=>(v,h)) K:=by
 subst hd;cases p<;>try exact .none _ _
 rename_i id e;simp only [rk,KV.onPtr,zH,qz,b,ne_eq,c,not_false_iff,if_true];exact .one rfl
def Zw (i:Int) (f:Nat->QR):QR:=Int.rec (motive:=fun _=>QR) f (fun _=>none) i
def b8 (i:Int) (f:Nat->QR):Zw i f=if 0<=i then f i.toNat else none:=by
 cases i with
 |ofNat n=>rw [iI (by exact Int.natCast_nonneg n)]; rfl
 |negSucc n=>rw [iH (by omega)]; rfl
def tS (sz:Nat) (x i:KV) (h:KH) (K:QK):QR:=
 i.onInt (fun _ i=>Zw i fun i=>x.onSl (fun id a len c s=>zq (Nat.beq sz s) (zq (Nat.blt i len) (nfc (Nat.add a (Nat.mul i sz)) fun a=>K (.ptr id a) h) none) none) none none none) none
def JF (d:TD) (h:KH) (x i:KV):Option (KV×KH):=match i with| .int _ i=>(qj d x i).map fun v=>(v,h)|_=>none
def oK {d:TD} {e sz by_:Nat} (hd:d= .slice e sz by_) (x i:KV):QOk (tS sz x i h K) (JF d h x i) K:=by
 subst hd;cases i<;>try exact .none _ _
 rename_i k i;show QOk (Zw i _) _ _;rw [b8]
 by_cases a:0<=i
 ·rw [iI a];cases x<;>try exact .none _ _
  rename_i id g len c s;show QOk (zq _ _ _) _ _;simp only [zo,zH,JF,qj,Nat.beq_eq]
  by_cases b:sz=s
  ·rw [iI b];simp only [xn,iJ]
   by_cases f:i.toNat<len
   ·rw [iI f,iI ⟨b,a,by omega⟩]; exact .one rfl
   ·rw [iH f]; exact .none _ _
  ·rw [iH b]; exact .none _ _
 ·rw [iH a]; exact .none _ _
def zay (n sz:Nat) (x i:KV) (h:KH) (K:QK):QR:=
 i.onInt (fun _ i=>Zw i fun i=>x.onPtr (fun id a=>zq (Nat.blt i n) (nfc (Nat.add a (Nat.mul i sz)) fun a=>K (.ptr id a) h) none) none) none
def rI {d:TD} {n sz:Nat} (hd:d= .arr n sz) (x i:KV):QOk (zay n sz x i h K) (JF d h x i) K:=by
 subst hd;cases i<;>try exact .none _ _
 rename_i k i;show QOk (Zw i _) _ _;rw [b8]
 by_cases a:0<=i
 ·rw [iI a];cases x<;>try exact .none _ _
  rename_i id c;show QOk (zq _ _ _) _ _;simp only [zo,zH,JF,qj,xn,iJ]
  by_cases b:i.toNat<n
  ·rw [iI b,iI ⟨a,by omega⟩]; exact .one rfl
  ·rw [iH b]; exact .none _ _
 ·rw [iH a]; exact .none _ _
def nT (x i:KV) (h:KH) (K:QK):QR:=i.onInt (fun _ i=>Zw i fun i=>x.onStr (fun n s=>zq (Nat.blt i n) (nfc (de s i) fun b=>K (.int .u8 (.ofNat b)) h) none) none) none
def Q9 (d:TD) (h:KH) (x i:KV):Option (KV×KH):=match i with| .int _ i=>(Yj d x i).map fun v=>(v,h)|_=>none
def oh {d:TD} (hd:d= .str) (x i:KV):QOk (nT x i h K) (Q9 d h x i) K:=by
 subst hd;cases i<;>try exact .none _ _
 rename_i k i;show QOk (Zw i _) _ _;rw [b8]
 by_cases a:0<=i
 ·rw [iI a];cases x<;>try exact .none _ _
  rename_i n s;show QOk (zq _ _ _) _ _;simp only [zo,zH,Q9,Yj,xn,iJ]
  by_cases b:i.toNat<n
  ·rw [iI b,iI ⟨a,b⟩]; exact .one rfl
  ·rw [iH b]; exact .none _ _
 ·rw [iH a]; exact .none _ _
def tP (x:KV) (h:KH) (K:QK):QR:=x.onStr (fun n _=>K (.int .i64 (.ofNat n)) h) none
def rE {d:TD} (hd:d= .str) (x:KV):QOk (tP x h K) ((Dd d x).map fun v=>(v,h)) K:=by
 subst hd;cases x<;>try exact .none _ _
 exact .one rfl
def tY (x:KV) (h:KH) (K:QK):QR:=x.onSl (fun _ _ n _ _=>K (.int .i64 (.ofNat n)) h) (K (.int .i64 (.ofNat 0)) h) (K (.int .i64 (.ofNat 0)) h) none
def lG {d:TD} {e sz by_:Nat} (hd:d= .slice e sz by_) (x:KV):QOk (tY x h K) ((Dd d x).map fun v=>(v,h)) K:=by
 subst hd;cases x<;>first|exact .none _ _|exact .one rfl
def sE (k:IntKind):Nat:=IntKind.rec (motive:=fun _=>Nat) 127 32767 2147483647 9223372036854775807 255 65535 4294967295 18446744073709551615 k
def PR (k:IntKind) (n:Int) (K:Int->QR):QR:=Int.rec (motive:=fun _=>QR) (fun n=>nfc n fun n=>zq (Nat.ble n (sE k)) (K (.ofNat n)) (ifc (k.wrap (.ofNat n)) K)) (fun n=>ifc (k.wrap (.negSucc n)) K) n
def DX (k:IntKind) (n:Nat) (h:n<=sE k):k.wrap (.ofNat n)= .ofNat n:=by
 have e:(Int.ofNat n)=(n:Int):=rfl;rw [e];cases k<;>simp only [sE]at h<;>simp [IntKind.wrap,IntKind.bits,IntKind.signed]<;>omega
def Gc (k:IntKind) (n:Int) (K:Int->QR):PR k n K=K (k.wrap n):=by
 cases n with
 | ofNat n=>
  simp only [PR,zH,zo,D6]
  by_cases h:n<=sE k
  ·rw [iI (by rwa [Nat.ble_eq]),DX k n h]
  ·rw [iH (by rwa [Nat.ble_eq])]
 |negSucc n=>exact D6 _ _
def zaX (a b:IntKind):Bool:=Nat.beq (IntKind.rec (motive:=fun _=>Nat) 0 1 2 3 4 5 6 7 a) (IntKind.rec (motive:=fun _=>Nat) 0 1 2 3 4 5 6 7 b)
def Vh (a b:IntKind):zaX a b=true↔a=b:=by cases a<;>cases b<;>simp [zaX]
def qii (x y:KV) (f:IntKind->Int->Int->QR):QR:=x.onInt (fun k a=>y.onInt (fun c b=>zq (zaX k c) (f k a b) none) none) none
def zaj (a b:Int) (K:Int->QR):QR:=Int.rec (motive:=fun _=>QR) (fun a=>Int.rec (motive:=fun _=>QR) (fun b=>K (.ofNat (Nat.add a b))) (fun c=>K (Int.add (.ofNat a) (.negSucc c))) b) (fun a=>K (Int.add (.negSucc a) b)) a
def nF (a b:Int) (K:Int->QR):zaj a b K=K (a+b):=by cases a<;>cases b<;>rfl
def zaI (a b:Int) (K:Int->QR):QR:=Int.rec (motive:=fun _=>QR) (fun a=>Int.rec (motive:=fun _=>QR) (fun b=>zq (Nat.ble b a) (K (.ofNat (Nat.sub a b))) (K (Int.sub (.ofNat a) (.ofNat b)))) (fun c=>K (Int.sub (.ofNat a) (.negSucc c))) b) (fun a=>K (Int.sub (.negSucc a) b)) a
def nu (a b:Int) (K:Int->QR):zaI a b K=K (a-b):=by
 cases a with
 | ofNat a=>cases b with
  | ofNat b=>
   show zq _ _ _=_;rw [zo];split
   ·rename_i h;rw [Nat.ble_eq]at h
    congr 1
    show((a-b:Nat):Int)=(a:Int)-(b:Int);omega
   ·rfl
  |negSucc b=>rfl
 |negSucc a=>cases b<;>rfl
def zaK (a b:Int) (K:Int->QR):QR:=Int.rec (motive:=fun _=>QR) (fun a=>Int.rec (motive:=fun _=>QR) (fun b=>K (.ofNat (Nat.mul a b))) (fun c=>K (Int.mul (.ofNat a) (.negSucc c))) b) (fun a=>K (Int.mul (.negSucc a) b)) a
def lV (a b:Int) (K:Int->QR):zaK a b K=K (a*b):=by cases a<;>cases b<;>rfl
def mX (a b:Int):Bool:=Int.rec (motive:=fun _=>Bool) (fun a=>Int.rec (motive:=fun _=>Bool) (fun b=>Nat.blt a b) (fun _=>false) b) (fun a=>Int.rec (motive:=fun _=>Bool) (fun _=>true) (fun b=>Nat.blt b a) b) a
def Vu (a b:Int):mX a b=decide (a<b):=by
 cases a with
 | ofNat a=>cases b with
  |ofNat b=>show Nat.blt a b=_; rw [xn]; congr 1; exact propext ⟨fun h=>by show(a:Int)<b; omega,fun h=>by have:(a:Int)<b:=h; omega⟩
  |negSucc b=>show false=_; rw [eq_comm,decide_eq_false_iff_not]; show ¬((a:Int)<_); omega
 | negSucc a=>cases b with
  |ofNat b=>show true=_; rw [eq_comm,iJ]; show _<(b:Int); omega
  |negSucc b=>show Nat.blt b a=_; rw [xn]; congr 1; exact propext ⟨fun h=>by omega,fun h=>by omega⟩
def o8 (a b:Int):Bool:=Int.rec (motive:=fun _=>Bool) (fun a=>Int.rec (motive:=fun _=>Bool) (fun b=>Nat.beq a b) (fun _=>false) b) (fun a=>Int.rec (motive:=fun _=>Bool) (fun _=>false) (fun b=>Nat.beq a b) b) a
def Kl (a b:Int):o8 a b=(a==b):=by
 rw [Bool.eq_iff_iff,beq_iff_eq]
 cases a with
 | ofNat a=>cases b with
  |ofNat b=>show Nat.beq a b=true↔_; rw [Nat.beq_eq]; exact⟨fun h=>by rw [h],fun h=>by injection h⟩
  |negSucc b=>exact iff_of_false (fun h=>Bool.noConfusion h) (fun h=>Int.noConfusion h)
 | negSucc a=>cases b with
  |ofNat b=>exact iff_of_false (fun h=>Bool.noConfusion h) (fun h=>Int.noConfusion h)
  |negSucc b=>show Nat.beq a b=true↔_; rw [Nat.beq_eq]; exact⟨fun h=>by rw [h],fun h=>by injection h⟩
def qar (f:Int->Int->(Int->QR)->QR) (x y:KV) (h:KH) (K:QK):QR:=qii x y fun k a b=>f a b fun n=>PR k n fun n=>K (.int k n) h
def G6 (f:Int->Int->Bool) (x y:KV) (h:KH) (K:QK):QR:=qii x y fun k a b=>bfc (f a b) fun t=>K (.bool t) h
def uz (E:KE) (h:KH) (op:BinOp) (xt:TypeId) (x y:KV):Option (KV×KH):=if(E.T xt).d≠ .other then(match QW op (E.T xt).d x y with
  |some v=>some (v,h)
  |none=>(cn op (E.T xt).eqs x y).map fun v=>(v,h))else none
def Jk {E:KE} {xt:TypeId} (g:(E.T xt).d≠ .other) {op:BinOp} (c:op≠ .shl) (f:op≠ .shr) {k:IntKind} {a b:Int} {v:KV} (e:Qf k op a b=some v):uz E h op xt (.int k a) (.int k b)=some (v,h):=by
 have:QW op (E.T xt).d (.int k a) (.int k b)=some v:=by
  cases op<;>first|exact absurd rfl c|exact absurd rfl f|(simp only [QW,if_true]; exact e)
 simp only [uz,this,ne_eq,g,not_false_iff,if_true]
def Pg {E:KE} {xt:TypeId} (m:(E.T xt).d≠ .other) {op:BinOp} (i:op≠ .shl) (j:op≠ .shr) {f:IntKind->Int->Int->QR} (l:∀k a b,∃v,Qf k op a b=some v∧f k a b=K v h) (x y:KV):QOk (qii x y f) (uz E h op xt x y) K:=by
 cases x<;>try exact .none _ _
 cases y<;>try exact .none _ _
 rename_i k a n b;show QOk (zq _ _ _) _ _;rw [zo]
 by_cases c:k=n
 ·subst c;rw [iI ((Vh _ _).2 rfl)];obtain⟨v,e,g⟩:=l k a b;rw [g];exact .one (Jk m i j e)
 ·rw [iH (fun x=>c ((Vh _ _).1 x))]; exact .none _ _
def Di {E:KE} {xt:TypeId} (l:(E.T xt).d≠ .other) {op:BinOp} (c:op≠ .shl) (e:op≠ .shr) {f:Int->Int->(Int->QR)->QR} {g:Int->Int->Int} (i:∀a b K,f a b K=K (g a b)) (j:∀k a b,Qf k op a b=some (.int k (k.wrap (g a b)))) (x y:KV):
  QOk (qar f x y h K) (uz E h op xt x y) K:=Pg l c e (fun k a b=>⟨_,j k a b,by rw [i,Gc]⟩) x y
def ZH {E:KE} {xt:TypeId} (i:(E.T xt).d≠ .other) {op:BinOp} (c:op≠ .shl) (e:op≠ .shr) {f:Int->Int->Bool} (g:∀k a b,Qf k op a b=some (.bool (f a b))) (x y:KV):
  QOk (G6 f x y h K) (uz E h op xt x y) K:=Pg i c e (fun k a b=>⟨_,g k a b,by rw [Qz]⟩) x y
end
section
variable {h:KH} {K:QK}
def Pz (x:KV) (h:KH) (K:QK):QR:=x.hd fun v=>K v h
def B7 (x:KV):QOk (Pz x h K) (some (x,h)) K:=by
 unfold Pz; rw [KV.hd_eq]; exact .one rfl
def l6 (c a b:KV) (h:KH) (K:QK):QR:=c.onBool (fun t=>zq t (a.hd fun v=>K v h) (b.hd fun v=>K v h)) none
def Pe (h:KH) (c a b:KV):Option (KV×KH):=match c with| .bool t=>some (if t then a else b,h)|_=>none
def lF (c a b:KV):QOk (l6 c a b h K) (Pe h c a b) K:=by
 cases c<;>try exact .none _ _
 rename_i t;simp only [l6,KV.onBool,zo,KV.hd_eq,Pe];cases t<;>exact .one rfl
def zbx (i:Nat) (x:KV) (h:KH) (K:QK):QR:=x.onTuple (fun a=>f8 a i fun v=>v.hd fun v=>K v h) none
def tB (i:Nat) (x:KV):QOk (zbx i x h K) ((dB x i).map fun v=>(v,h)) K:=by
 cases x<;>try exact .none _ _
 rename_i a;simp only [zbx,KV.onTuple,Vk,dB]
 cases a[i]? with
 |none=>exact .none _ _
 |some v=>simp only [Option.elim_some,KV.hd_eq]; exact .one rfl
def zdp (x:KV) (h:KH) (K:QK):QR:=x.onBool (fun t=>zq t (K (.bool false) h) (K (.bool true) h)) none
def sH (x:KV):QOk (zdp x h K) ((kun .not x).map fun v=>(v,h)) K:=by
 cases x<;>try exact .none _ _
 rename_i t;cases t<;>exact .one rfl
def mj (off:Nat) (x:KV) (h:KH) (K:QK):QR:=x.onAgg (fun a=>f8 a off fun v=>v.hd fun v=>K v h) none
def re (off n:Nat) (x:KV) (h:KH) (K:QK):QR:=x.onAgg (fun a=>VI a off fun l=>YT l n fun l=>K (.agg l) h) none
def oQ {s:TI} {T:TypeId->TI} {a:List (Nat×Nat)} {f off n:Nat} {ft:TypeId} (hd:s.d= .struct a) (e:a[f]? =some (off,n)) (i:s.fts[f]? =some ft) (g:(T ft).ok=true∧(T ft).d≠ .other) (c:(T ft).d.agg=false) (x:KV):
  QOk (mj off x h K) ((pq s T x f).map fun v=>(v,h)) K:=by
 cases x<;>try exact .none _ _
 rename_i b;simp only [mj,KV.onAgg,Vk,pq,hd,e,i,g,ne_eq,not_false_iff,and_self,if_true,c,krd,iT,if_false]
 cases b[off]? with
 |none=>exact .none _ _
 |some v=>simp only [Option.elim_some,KV.hd_eq]; exact .one rfl
def nk {s:TI} {T:TypeId->TI} {a:List (Nat×Nat)} {f off n:Nat} {ft:TypeId} (hd:s.d= .struct a) (c:a[f]? =some (off,n)) (g:s.fts[f]? =some ft) (e:(T ft).ok=true∧(T ft).d≠ .other) (b:(T ft).d.agg=true) (x:KV):
  QOk (re off (T ft).sz x h K) ((pq s T x f).map fun v=>(v,h)) K:=by
 cases x<;>try exact .none _ _
 rename_i i;simp only [re,KV.onAgg,Zg,Zq,pq,hd,c,g,e,ne_eq,not_false_iff,and_self,if_true,b,krd];split
 ·exact .one rfl
 ·exact .none _ _
def QY (cs:List KV) (h:KH) (K:QK):QR:=uu h (.cells false cs) fun i h=>K (.ptr i 0) h
def fw {t:TI} {z:KV} {cs:List KV} (c:t.zok=true) (e:z.cells=cs) (a:KV.isCells cs=true):QOk (QY cs h K) (if t.zok=true∧KV.isCells z.cells=true∧wY h=true then some (.ptr h.next 0,h.push (.cells false z.cells))else none) K:=by
 unfold QY;rw [vX];subst e;split
 ·rename_i b;rw [iI ⟨c,a,b⟩]; exact .one rfl
 ·exact .none _ _
def zaZ (x:KV) (h:KH) (K:QK):QR:=x.onAgg (fun a=>tD a fun n=>XH a n (uu h (.cells false a) fun i h=>K (.ptr i 0) h)) (x.onCell (x.hd fun v=>uu h (.cells false [v]) fun i h=>K (.ptr i 0) h) none)
def tj (x:KV):QOk (zaZ x h K) (if KV.isCells x.cells=true∧wY h=true then some (.ptr h.next 0,h.push (.cells false x.cells))else none) K:=by
 have fin:∀g:List KV,KV.isCells g=true->x.cells=g->QOk (if wY h=true then K (.ptr h.next 0) (h.push (.cells false g))else none) (if KV.isCells x.cells=true∧wY h=true then some (.ptr h.next 0,h.push (.cells false x.cells))else none) K:=by
  intro g m p;subst p;split
  ·rename_i q; rw [iI ⟨m,q⟩]; exact .one rfl
  ·exact .none _ _
 have one:∀v:KV,x=v->v.cells= [v]->QOk (v.onCell (v.hd fun v=>uu h (.cells false [v]) fun i h=>K (.ptr i 0) h) none) (if KV.isCells x.cells=true∧wY h=true then some (.ptr h.next 0,h.push (.cells false x.cells))else none) K:=by
  intro v e r;subst e;rw [KV.onCell_eq,KV.hd_eq,vX];split
  ·rename_i j;exact fin [x] (by simp [KV.isCells,j]) r
  ·exact .none _ _
 cases x with
 | agg g=>
  simp only [zaZ,KV.onAgg,Ki,Wc,vX];split
  ·rename_i j; exact fin g j.2 rfl
  ·exact .none _ _
 |junk=>exact one .junk rfl rfl
 |bool b=>exact one (.bool b) rfl rfl
 |int k n=>exact one (.int k n) rfl rfl
 |str a b=>exact one (.str a b) rfl rfl
 |ptr i o=>exact one (.ptr i o) rfl rfl
 |nilp=>exact one .nilp rfl rfl
 |sl i o l c s=>exact one (.sl i o l c s) rfl rfl
 |slz=>exact one .slz rfl rfl
 |nilsl=>exact one .nilsl rfl rfl
 |func f a b=>exact one (.func f a b) rfl rfl
 |nilfunc=>exact one .nilfunc rfl rfl
 |yield i=>exact one (.yield i) rfl rfl
 |tuple l=>exact one (.tuple l) rfl rfl
 |map i=>exact one (.map i) rfl rfl
 |nilmap=>exact one .nilmap rfl rfl
 |iface t v=>exact one (.iface t v) rfl rfl
 |niliface=>exact one .niliface rfl rfl
def cQ (cells:List KV) (ps:List (Nat×Nat)) (a:List KV) (K:List KV->QR):QR:=
 List.rec (motive:=fun _=>List KV->List KV->QR) (fun a cells=>K cells)
  (fun p _ c a cells=>List.rec (motive:=fun _=>QR) none (fun v a _=>Prod.rec (motive:=fun _=>QR) (fun b n=>Xj v n fun new=>Qi cells b n new fun cells=>c a cells) p) a) ps a cells
def VL {place:Nat->Option (Nat×Nat)} {K:List KV->QR} {r:KV×KH}:∀(is:List Nat) (ps:List (Nat×Nat)) (a cells:List KV),is.map place=ps.map some->is.length=a.length->cQ cells ps a K=some r->∃c,dv place cells (is.zip a)=some c∧K c=some r
 | [],ps,a,cells,b,f,e=>by
  cases ps with
  |cons _ _=>simp at b
  | nil=>cases a with
   |cons _ _=>simp at f
   |nil=>exact⟨cells,rfl,e⟩
 | i ::is,ps,a,cells,b,f,e=>by
  cases ps with
  |nil=>simp at b
  | cons p ps=>cases a with
   |nil=>simp at f
   | cons v a=>
    obtain⟨j,n⟩:=p;simp only [List.map_cons,List.cons.injEq]at b;have e:(Xj v n fun new=>Qi cells j n new fun cells=>cQ cells ps a K)=some r:=e;rw [WL]at e;split at e
    ·rename_i g;rw [Vd]at e;split at e
     ·rename_i m;obtain⟨c,k,l⟩:=VL is ps a _ b.2 (by simpa using f) e;refine⟨c, ?_,l⟩;simp only [List.zip_cons_cons,dv,b.1];rw [iI ⟨g.1,by rw [g.1]; exact m,g.2⟩];exact k
     ·cases e
    ·cases e
def XK (z:List KV) (ps:List (Nat×Nat)) (a:List KV) (h:KH) (K:QK):QR:=cQ z ps a fun c=>K (.agg c) h
def J5 (len sz:Nat) (z:List KV) (ps:List (Nat×Nat)) (a:List KV) (h:KH) (K:QK):QR:=cQ z ps a fun c=>uu h (.cells false c) fun i h=>K (.sl i 0 len (some len) sz) h
def zb9 (k:IntKind) (x:KV) (h:KH) (K:QK):QR:=x.onInt (fun _ n=>PR k n fun n=>K (.int k n) h) none
def sO {T:TypeId->TI} {s d:TypeId} {k:IntKind} (a:(T s).ok=true) (hd:(T d).d= .int k) (x:KV):QOk (zb9 k x h K) (kJ h T s d x) K:=by
 cases x<;>try exact .none _ _
 rename_i b n;simp only [zb9,KV.onInt,Gc,kJ,a,hd,if_true];exact .one rfl
def zba (x y:KV) (h:KH) (K:QK):QR:=x.onStr (fun n a=>y.onStr (fun m b=>nfc (Nat.add n m) fun l=>zq (Nat.ble l 9223372036854775807) (nfc (Nat.add a (Nat.shiftLeft b (Nat.mul 8 n))) fun s=>K (.str l s) h) none) none) none
def sX {E:KE} {xt:TypeId} (f:(E.T xt).d≠ .other) (x y:KV):QOk (zba x y h K) (uz E h .add xt x y) K:=by
 cases x<;>try exact .none _ _
 cases y<;>try exact .none _ _
 rename_i n a m b;simp only [zba,KV.onStr,zH,zo]
 by_cases c:Nat.ble (Nat.add n m) 9223372036854775807=true
 ·rw [iI c];refine .one ?_;have e:Nat.ble (n+m) 9223372036854775807=true:=c;simp only [uz,QW,Q1,ne_eq,f,not_false_iff,if_true,e,cond_true,nV];rfl
 ·rw [iH c]; exact .none _ _
def eo (x y:KV) (t e:QR):QR:=x.onStr (fun n a=>y.onStr (fun m b=>zq (Nat.beq n m) (zq (Nat.beq a b) t e) e) none) none
def Bb {x y:KV} {t e:QR} {r:KV×KH} (q:eo x y t e=some r):∃n a m b,x= .str n a∧y= .str m b∧(if(Nat.beq n m&&Nat.beq a b)=true then t else e)=some r:=by
 cases x<;>try (exact(Option.noConfusion q (fun {_}=>False.elim))<;>done)
 all_goals first|(cases q; done)|skip
 cases y<;>first|(cases q; done)|skip
 rename_i n a m b;refine⟨n,a,m,b,rfl,rfl, ?_⟩;simp only [eo,KV.onStr,zo]at q
 by_cases c:Nat.beq n m=true<;>by_cases f:Nat.beq a b=true<;>simp_all
def zc2 (x y:KV) (h:KH) (K:QK):QR:=eo x y (K (.bool true) h) (K (.bool false) h)
def zcX (x y:KV) (h:KH) (K:QK):QR:=eo x y (K (.bool false) h) (K (.bool true) h)
def ZR {E:KE} {xt:TypeId} (c:(E.T xt).d≠ .other) {op:BinOp} {n a m b:Nat} {v:KV} (e:Q1 op n a m b=some v):uz E h op xt (.str n a) (.str m b)=some (v,h):=by
 have:QW op (E.T xt).d (.str n a) (.str m b)=some v:=by simp only [QW]; exact e
 simp only [uz,this,ne_eq,c,not_false_iff,if_true]
def sT {E:KE} {xt:TypeId} (f:(E.T xt).d≠ .other) (x y:KV):QOk (zc2 x y h K) (uz E h .eql xt x y) K:=by
 intro r q;obtain⟨n,a,m,b,rfl,rfl,e⟩:=Bb q
 by_cases c:(Nat.beq n m&&Nat.beq a b)=true
 ·rw [iI c]at e; exact⟨_,_,ZR f (v:= .bool true) (by simp only [Q1,c]),e⟩
 ·rw [iH c]at e; exact⟨_,_,ZR f (v:= .bool false) (by simp only [Q1,Bool.not_eq_true _▸c]),e⟩
def rQ {E:KE} {xt:TypeId} (f:(E.T xt).d≠ .other) (x y:KV):QOk (zcX x y h K) (uz E h .neq xt x y) K:=by
 intro r q;obtain⟨n,a,m,b,rfl,rfl,e⟩:=Bb q
 by_cases c:(Nat.beq n m&&Nat.beq a b)=true
 ·rw [iI c]at e; exact⟨_,_,ZR f (v:= .bool false) (by simp only [Q1,c,Bool.not_true]),e⟩
 ·rw [iH c]at e; exact⟨_,_,ZR f (v:= .bool true) (by rw [Bool.not_eq_true]at c; simp only [Q1,c,Bool.not_false]),e⟩
def zbR (s:Option (KV×KH)) (h:KH) (K:QK):QR:=Option.rec (motive:=fun _=>QR) none (fun p=>Prod.rec (motive:=fun _=>QR) (fun v _=>v.fc fun v=>K v h) p) s
def sN {s:Option (KV×KH)} (a:∀v h',s=some (v,h')->h'=h):QOk (zbR s h K) s K:=by
 intro r e
 cases s with
 |none=>cases e
 | some p=>
  obtain⟨v,h'⟩:=p;simp only [zbR,KV.fc_eq]at e;cases a v h' rfl;exact⟨v,_,rfl,e⟩
end
section
variable {S:Type}
inductive QO where
 |sel (g:Sl->KV)
 |c (v:KV)
def QO.ev (q:QO) (l:Sl):KV:=QO.rec (motive:=fun _=>KV) (fun g=>g l) (fun v=>v) q
def cO (ng:Nat) (x:Operand) (K:QO->S):S:=
 Operand.rec (motive:=fun _=>S) (fun t=>Sel.rec (motive:=fun _=>S) (fun g=>K (.sel g)) (dS t)) (fun v=>(KV.of v).fc fun v=>K (.c v)) (fun g=>zq (Nat.blt g ng) (nfc g fun g=>K (.c (.ptr g 0))) (K (.c .junk))) (fun f=>nfc f fun f=>K (.c (.func (.func f) [] []))) x
def dw (ng:Nat) (x:Operand) (K:QO->S):∃q:QO,(∀l,q.ev l=zp ng l x)∧cO ng x K=K q:=by
 cases x with
 |tmp t=>exact⟨.sel fun l=>wD l t,fun l=>rfl,by simp only [cO,BK]⟩
 |const v=>exact⟨.c (KV.of v),fun l=>rfl,by simp only [cO,KV.fc_eq]⟩
 | global g=>
  refine⟨.c (bif Nat.blt g ng then .ptr g 0 else .junk),fun l=>rfl, ?_⟩;simp only [cO,zo,zH];cases Nat.blt g ng<;>rfl
 |func f=>exact⟨.c (.func (.func f) [] []),fun l=>rfl,by simp only [cO,zH]⟩
def cOs (ng:Nat) (xs:List Operand) (K:List QO->S):S:=List.rec (motive:=fun _=>(List QO->S)->S) (fun K=>K []) (fun x _ a K=>cO ng x fun q=>a fun qs=>K (q::qs)) xs K
def US (ng:Nat):∀(xs:List Operand) (K:List QO->S),∃qs:List QO,(∀l,qs.map (fun q=>q.ev l)=xs.map (zp ng l))∧cOs ng xs K=K qs
 | [],K=>⟨[],fun l=>rfl,rfl⟩
 | x::xs,K=>by
  obtain⟨q,c,a⟩:=dw ng x fun q=>cOs ng xs fun qs=>K (q::qs);obtain⟨qs,e,b⟩:=US ng xs fun qs=>K (q::qs);exact⟨q::qs,fun l=>by rw [List.map_cons,List.map_cons,c,e],a.trans b⟩
end
def evs (l:Sl) (xs:List QO) (K:List KV->QR):QR:=List.rec (motive:=fun _=>(List KV->QR)->QR) (fun K=>K []) (fun x _ a K=>(x.ev l).hd fun v=>a fun b=>K (v::b)) xs K
def pM (l:Sl):∀(xs:List QO) (K:List KV->QR),evs l xs K=K (xs.map fun q=>q.ev l)
 | [],K=>rfl
 |x::xs,K=>(KV.hd_eq (x.ev l) fun v=>evs l xs fun a=>K (v::a)).trans (pM l xs fun a=>K (x.ev l::a))
inductive QOp where
 |f0 (g:KH->QK->QR)
 |f1 (g:KV->KH->QK->QR) (x:QO)
 |f2 (g:KV->KV->KH->QK->QR) (x y:QO)
 |f3 (g:KV->KV->KV->KH->QK->QR) (x y z:QO)
 |fl (g:List KV->KH->QK->QR) (xs:List QO)
 |old (g:Sl->KH->Option (KV×KH))
 |callS (f:FuncId) (xs:List QO)
 |callV (f:QO) (xs:List QO)
 |inv (r:QO) (f:TypeId->Option FuncId) (xs:List QO)
structure QE where
 call:FuncId->List KV->KH->QK->QR
 round:Nat->List KV->KH->QK->QR
 calld:FuncId->List KV->KH->(KH->QR)->QR
def Fn.onFunc (f:Fn) (k:FuncId->QR):QR:=Fn.rec (motive:=fun _=>QR) k (fun _=>none) (fun _ _=>none) (fun _ _ _ _=>none) (fun _=>none) f
def Dy (e:QE) (f:KV) (xs:List QO) (l:Sl) (h:KH) (K:QK):QR:=
 f.onFunc (fun fn a c=>Fn.onFunc fn fun f=>evs l xs fun b=>XT b c fun vc=>XT a vc fun all=>e.call f all h K) (fun id=>evs l xs fun b=>e.round id b h K) none
def zbp (e:QE) (r:KV) (m:TypeId->Option FuncId) (xs:List QO) (l:Sl) (h:KH) (K:QK):QR:=
 r.onIface (fun t v=>Option.rec (motive:=fun _=>QR) none (fun f=>evs l xs fun a=>e.call f (v::a) h K) (m t)) none none
def QOp.run (q:QOp) (e:QE) (l:Sl) (h:KH) (K:QK):QR:=QOp.rec (motive:=fun _=>QR)
 (fun g=>g h K) (fun g x=>g (x.ev l) h K) (fun g x y=>g (x.ev l) (y.ev l) h K) (fun g x y z=>g (x.ev l) (y.ev l) (z.ev l) h K) (fun g a=>evs l a fun b=>g b h K) (fun g=>zbR (g l h) h K)
 (fun f a=>evs l a fun b=>e.call f b h K) (fun f a=>Dy e (f.ev l) a l h K) (fun r m a=>zbp e (r.ev l) m a l h K) q
def QOp.okE (E:KE) (q:QOp) (o:Op):Prop:=∀(e:QE) (l:Sl) (h:KH) (K:QK),QOk (q.run e l h K) (yl E l h o) K
section
variable {S:Type} {E:KE}
def d8 {g:KV->KH->QK->QR} {x:Operand} {o:Op} {f:KH->KV->Option (KV×KH)} (b:∀v h K,QOk (g v h K) (f h v) K) (c:∀l h,yl E l h o=f h (zp E.ng l x)) (K:QOp->S):∃q:QOp,q.okE E o∧(cO E.ng x fun x=>K (.f1 g x))=K q:=by
 obtain⟨q,a,e⟩:=dw E.ng x fun x=>K (.f1 g x);refine⟨.f1 g q,fun _ l h K=> ?_,e⟩;rw [c,<-a]; exact b _ _ _
def kp {g:KV->KV->KH->QK->QR} {x y:Operand} {o:Op} {f:KH->KV->KV->Option (KV×KH)} (i:∀v u h K,QOk (g v u h K) (f h v u) K) (j:∀l h,yl E l h o=f h (zp E.ng l x) (zp E.ng l y)) (K:QOp->S):
  ∃q:QOp,q.okE E o∧(cO E.ng x fun x=>cO E.ng y fun y=>K (.f2 g x y))=K q:=by
 obtain⟨q,c,a⟩:=dw E.ng x fun x=>cO E.ng y fun y=>K (.f2 g x y);obtain⟨k,e,b⟩:=dw E.ng y fun y=>K (.f2 g q y);refine⟨.f2 g q k,fun _ l h K=> ?_,a.trans b⟩;rw [j,<-c,<-e]; exact i _ _ _ _
def sk {g:KV->KV->KV->KH->QK->QR} {x y z:Operand} {o:Op} {f:KH->KV->KV->KV->Option (KV×KH)} (m:∀v u w h K,QOk (g v u w h K) (f h v u w) K) (n:∀l h,yl E l h o=f h (zp E.ng l x) (zp E.ng l y) (zp E.ng l z)) (K:QOp->S):
  ∃q:QOp,q.okE E o∧(cO E.ng x fun x=>cO E.ng y fun y=>cO E.ng z fun z=>K (.f3 g x y z))=K q:=by
 obtain⟨q,i,b⟩:=dw E.ng x fun x=>cO E.ng y fun y=>cO E.ng z fun z=>K (.f3 g x y z);obtain⟨a,j,c⟩:=dw E.ng y fun y=>cO E.ng z fun z=>K (.f3 g q y z);obtain⟨p,k,e⟩:=dw E.ng z fun z=>K (.f3 g q a z);refine⟨.f3 g q a p,fun _ l h K=> ?_,b.trans (c.trans e)⟩;rw [n,<-i,<-j,<-k]; exact m _ _ _ _ _
def cparts (ng:Nat) (place:Nat->Option (Nat×Nat)) (ps:List (Nat×Operand)) (K:List (Nat×Nat)->List QO->S) (F:S):S:=
 List.rec (motive:=fun _=>(List (Nat×Nat)->List QO->S)->S) (fun K=>K [] []) (fun p _ c K=>match place p.1 with
  |some (a,b)=>nfc a fun a=>nfc b fun b=>cO ng p.2 fun q=>c fun ps qs=>K ((a,b)::ps) (q::qs)
  |none=>F) ps K
def ZO (ng:Nat) (place:Nat->Option (Nat×Nat)) (F:S):∀(ps:List (Nat×Operand)) (K:List (Nat×Nat)->List QO->S),cparts ng place ps K F=F ∨
  ∃c qs,(ps.map Prod.fst).map place=c.map some∧(∀l,qs.map (fun q:QO=>q.ev l)=ps.map fun p=>zp ng l p.2)∧cparts ng place ps K F=K c qs
 | [],K=> .inr ⟨[],[],rfl,fun l=>rfl,rfl⟩
 | p ::ps,K=>by
  cases g:place p.1 with
  |none=>left; show(match place p.1 with|some (a,b)=>_|none=>F)=F; rw [g]
  | some ab=>
   obtain⟨a,b⟩:=ab
   have e:cparts ng place (p::ps) K F=cO ng p.2 fun q=>cparts ng place ps (fun ps qs=>K ((a,b)::ps) (q::qs)) F:=by
    show(match place p.1 with|some (a,b)=>_|none=>F)=_;rw [g];exact(zH a fun a=>nfc b fun b=>cO ng p.2 fun q=>cparts ng place ps (fun ps qs=>K ((a,b)::ps) (q::qs)) F).trans (zH b fun b=>cO ng p.2 fun q=>cparts ng place ps (fun ps qs=>K ((a,b)::ps) (q::qs)) F)
   obtain⟨q,j,i⟩:=dw ng p.2 fun q=>cparts ng place ps (fun ps qs=>K ((a,b)::ps) (q::qs)) F;rcases ZO ng place F ps (fun ps qs=>K ((a,b)::ps) (q::qs))with f|⟨c,qs,f,k,m⟩
   ·left; rw [e,i,f]
   ·right;refine⟨(a,b)::c,q::qs, ?_, ?_,by rw [e,i,m]⟩
    ·simp only [List.map_cons,g,f]
    ·intro l; simp only [List.map_cons,j,k]
def JT (ng:Nat) (l:Sl) (ps:List (Nat×Operand)):(ps.map Prod.fst).zip (ps.map fun p=>zp ng l p.2)=ps.map fun p=>(p.1,zp ng l p.2):=by
 induction ps with
 |nil=>rfl
 |cons p r a=>simp only [List.map_cons,List.zip_cons_cons,a]
def Q4 (E:KE) (t:TypeId) (ps:List (Nat×Operand)) (K:QOp->S) (F:S):S:=
 match(E.T t).zok,(E.T t).d with
 |true, .struct c=>KV.fcs (E.Z t).cells fun z=>cparts E.ng (fun i=>c[i]?) ps (fun a qs=>K (.fl (XK z a) qs)) F
 |true, .arr _ b=>KV.fcs (E.Z t).cells fun z=>cparts E.ng (fun i=>some (i*b,b)) ps (fun a qs=>K (.fl (XK z a) qs)) F
 |_,_=>F
def Jf {place:Nat->Option (Nat×Nat)} {z:List KV} {ps:List (Nat×Operand)} {b:List (Nat×Nat)} {qs:List QO} (i:(ps.map Prod.fst).map place=b.map some) (j:∀l,qs.map (fun q:QO=>q.ev l)=ps.map fun p=>zp E.ng l p.2) {o:Op}
  (k:∀l h,yl E l h o=match dv place z (ps.map fun p=>(p.1,zp E.ng l p.2))with|some c=>some (.agg c,h)|none=>none):QOp.okE E (.fl (XK z b) qs) o:=by
 intro e l h K r a;have a:(evs l qs fun m=>XK z b m h K)=some r:=a;rw [pM,j]at a;obtain⟨c,f,g⟩:=VL _ b _ z i (by simp) a;rw [JT]at f;exact⟨.agg c,h,by rw [k,f],g⟩
def eM (t:TypeId) (ps:Array (Nat×Operand)) (K:QOp->S) (F:S):Q4 E t ps.toList K F=F∨∃q:QOp,q.okE E (.build t ps)∧Q4 E t ps.toList K F=K q:=by
 unfold Q4;split
 ·rename_i j g hd;rw [KV.fcs_eq];rcases ZO E.ng (fun i=>j[i]?) F ps.toList (fun a qs=>K (.fl (XK (E.Z t).cells a) qs))with h|⟨a,qs,c,e,f⟩
  ·exact .inl h
  ·refine .inr ⟨_,Jf c e ?_,f⟩;intro l h;simp only [yl,VV,g,hd,if_true,je];cases dv (fun i=>j[i]?) (E.Z t).cells (ps.toList.map fun p=>(p.1,zp E.ng l p.2))<;>rfl
 ·rename_i n b g hd;rw [KV.fcs_eq];rcases ZO E.ng (fun i=>some (i*b,b)) F ps.toList (fun a qs=>K (.fl (XK (E.Z t).cells a) qs))with h|⟨a,qs,c,e,f⟩
  ·exact .inl h
  ·refine .inr ⟨_,Jf c e ?_,f⟩;intro l h;simp only [yl,VV,g,hd,if_true,je];cases dv (fun i=>some (i*b,b)) (E.Z t).cells (ps.toList.map fun p=>(p.1,zp E.ng l p.2))<;>rfl
 ·exact .inl rfl
def Ve (E:KE) (t:TypeId) (len:Nat) (ps:List (Nat×Operand)) (K:QOp->S) (F:S):S:=
 match(E.T t).d with
 | .slice e a _=>zq (Nat.ble (len*a) 16777216&&(E.T e).zok&&Nat.beq (E.Z e).cells.length a)
   (nfc len fun len=>nfc a fun a=>KV.fcs (jh len (E.Z e).cells) fun z=>cparts E.ng (fun i=>some (i*a,a)) ps (fun b qs=>K (.fl (J5 len a z b) qs)) F) F
 |_=>F
def DM (t:TypeId) (len:Nat) (ps:Array (Nat×Operand)) (K:QOp->S) (F:S):Ve E t len ps.toList K F=F∨∃q:QOp,q.okE E (.buildSlice t len ps)∧Ve E t len ps.toList K F=K q:=by
 unfold Ve;split
 ·rename_i e j by_ hd;rw [zo];split
  ·rename_i b;simp only [iF,Nat.ble_eq,Nat.beq_eq]at b;simp only [zH,KV.fcs_eq];rcases ZO E.ng (fun i=>some (i*j,j)) F ps.toList (fun g qs=>K (.fl (J5 len j (jh len (E.Z e).cells) g) qs))with h|⟨g,qs,m,n,o⟩
   ·exact .inl h
   ·refine .inr ⟨_, ?_,o⟩;intro en l h K r f;have f:(evs l qs fun p=>J5 len j (jh len (E.Z e).cells) g p h K)=some r:=f;rw [pM,n]at f;obtain⟨c,k,a⟩:=VL _ g _ _ m (by simp) f;rw [JT]at k;rw [vX]at a;split at a
    ·rename_i hroom;refine⟨_,_, ?_,a⟩;simp only [yl,kf,hd,je];rw [iI ⟨b.1.1,b.1.2,b.2,hroom⟩,k]
    ·cases a
  ·exact .inl rfl
 ·exact .inl rfl
end
end Go.K
end
