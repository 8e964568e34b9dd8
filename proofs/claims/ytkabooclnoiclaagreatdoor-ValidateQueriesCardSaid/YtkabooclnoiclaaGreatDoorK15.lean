/- Closed runs. No condition. -/
import Derived.Test.YtkabooclnoiclaaGreatDoorK14
set_option linter.all false
section
namespace Go.K
open Go Go.Abs Go.Proofs
def zd4 {args:List KV} {h h':KH} {v:KV} (e:UU false args h=some (v,h')):KCall Tryz.prog 378 args h v h':=
 Vj (f:=378) (short:=false) (fun a b c=>(Zu (mx:=fun _=> []) (PI (iP 100000) a b c)).mono fun r g q=>q.1) e
def zeo {args:List KV} {h h':KH} {v:KV} (e:UU true args h=some (v,h')):KCall Tryz.prog 359 args h v h':=
 Vj (f:=359) (short:=true) (fun a b c=>(du (mx:=fun _=> []) (JQ (iP 100000) a b c)).mono fun r g q=>q.1) e
def zdP {args:List KV} {h h':KH} {v:KV} (e:UU false args h=some (v,h')):KCall Tryz.prog 119 args h v h':=
 Vj (f:=119) (short:=false) (fun a c b=>(ur (mx:=fun _=> []) (QF (iP 100000) a (by omega) b)).mono fun r g q=>q.1) e
def zdH {args:List KV} {h h':KH} {v:KV} (e:UU true args h=some (v,h')):KCall Tryz.prog 101 args h v h':=
 Vj (f:=101) (short:=true) (fun a c b=>(vW (mx:=fun _=> []) (Wd (iP 100000) a (by omega) b)).mono fun r g q=>q.1) e
end Go.K
end
section
namespace Go.Abs
open Go Go.K
def l7 (x:Nat):b2s ([IntKind.wrap .u8 (Int.fdiv (x:Int) 16777216),IntKind.wrap .u8 (Int.fdiv (x:Int) 65536),IntKind.wrap .u8 (Int.fdiv (x:Int) 256),IntKind.wrap .u8 (x:Int)]:List Int)=be4 x:=by
 rw [za9,UJ,cY]
def JX (x:Nat):b2s ([IntKind.wrap .u8 (x:Int)]:List Int)= [UInt8.ofNat x]:=by
 rw [Ul];have:([((x%256:Nat):Int)]:List Int)=zl [x%256]:=rfl;rw [this,UJ];have h:UInt8.ofNat (x%256)=UInt8.ofNat x:=UInt8.toNat_inj.1 (by simp [UInt8.toNat_ofNat']);simp only [u8s,List.map_cons,List.map_nil,h]
def B5 {n:Nat} (f:100000<=n) (id:List UInt8) (b:id.length=16) (leaf c:Nat):∀(j a k:Nat) (v:List UInt8),v.length=16->a+j<1000->j<k ->
  yX n ((a+j:Nat):Int) (leaf:Int) (c:Int) id k v (a:Int)=some (bD id leaf c a j v)
 | 0,a,k+1,v,g,h,i=>by
  rw [yX,iH (by simp)]; rfl
 | j+1,a,k+1,v,g,h,i=>by
  rw [yX,iI (by simp; omega)];rw [xI,xH,xH,l7,JX,JX,iG,iG,iG];rw [Wd f _ (by simp) (by simp [be4,b,g]),iG,kD a (by omega)]
  have e:(sha ([[67],id,be4 leaf,[UInt8.ofNat c],[UInt8.ofNat a],v]:List (List UInt8)).flatten).take 16=Ue id leaf c a v:=by
   unfold Ue;simp only [List.flatten_cons,List.flatten_nil,List.append_nil,List.cons_append,List.nil_append]
  rw [e,show a+(j+1)=(a+1)+j by omega];exact B5 f id b leaf c j (a+1) k _ rfl (by omega) (by omega)
def B3 {n:Nat} (f:100000<=n) (id:List UInt8) (b:id.length=16) (leaf c:Nat):∀(j a k:Nat) (v:List UInt8),v.length=16->a+j<1000->j<k ->
  vQ n ((a+j:Nat):Int) (leaf:Int) (c:Int) id k v (a:Int)=some (bD id leaf c a j v)
 | 0,a,k+1,v,g,h,i=>by
  rw [vQ,iH (by simp)]; rfl
 | j+1,a,k+1,v,g,h,i=>by
  rw [vQ,iI (by simp; omega)];rw [ZA,bd,bd,l7,JX,JX,iG,iG,iG];rw [JQ f _ (by simp) (by simp [be4,b,g]),iG,kD a (by omega)]
  have e:(sha ([[67],id,be4 leaf,[UInt8.ofNat c],[UInt8.ofNat a],v]:List (List UInt8)).flatten).take 16=Ue id leaf c a v:=by
   unfold Ue;simp only [List.flatten_cons,List.flatten_nil,List.append_nil,List.cons_append,List.nil_append]
  rw [e,show a+(j+1)=(a+1)+j by omega];exact B3 f id b leaf c j (a+1) k _ rfl (by omega) (by omega)
def Dr {n:Nat} (a:100000<=n) (seed:List UInt8) (b:seed.length=32) (leaf c:Nat):vj n seed (leaf:Int) (c:Int)=some (WY seed leaf c):=by
 unfold vj;rw [xI,xH,l7,JX,iG,iG];rw [Wd a _ (by simp) (by simp [be4,b]),iG]
 have e:(sha ([[83],seed,be4 leaf,[UInt8.ofNat c]]:List (List UInt8)).flatten).take 16=WY seed leaf c:=by
  unfold WY;simp only [List.flatten_cons,List.flatten_nil,List.append_nil,List.cons_append,List.nil_append]
 rw [e]
def fN (id:List UInt8) (b:id.length=16) (leaf c a j:Nat) (v:List UInt8) (f:v.length=16) (e:a+j<1000):vU 100000 id (leaf:Int) (c:Int) (a:Int) ((a+j:Nat):Int) v=some (bD id leaf c a j v):=by
 unfold vU;rw [B5 (iP _) id b leaf c j a 100000 v f e (by omega),iG]
def fy (id:List UInt8) (b:id.length=16) (leaf c a j:Nat) (v:List UInt8) (f:v.length=16) (e:a+j<1000):gr 100000 id (leaf:Int) (c:Int) (a:Int) ((a+j:Nat):Int) v=some (bD id leaf c a j v):=by
 unfold gr;rw [B3 (iP _) id b leaf c j a 100000 v f e (by omega),iG]
end Go.Abs
end
section
namespace Go.K
open Go Go.Abs Go.Proofs
def zei {t:List (Nat×Nat)} (k:Ws t) {args:List KV} {h h':KH} {v:KV} (e:J0 t args h=some (v,h')):KCall Tryz.prog 157 args h v h':=
 BU (f:=157) k (fun id leaf c a j v b g i=>(gD (mx:=fun _=> []) (fN id b leaf c a j v g i)).mono fun r l q=>q.1) e
def zeX {t:List (Nat×Nat)} (k:Ws t) {args:List KV} {h h':KH} {v:KV} (e:J0 t args h=some (v,h')):KCall Tryz.prog 357 args h v h':=
 BU (f:=357) k (fun id leaf c a j v b g i=>(V9 (mx:=fun _=> []) (fy id b leaf c a j v g i)).mono fun r l q=>q.1) e
def zd3 {t:List (Nat×Nat)} (b:Ws t) {args:List KV} {h h':KH} {v:KV} (e:tr t args h=some (v,h')):KCall Tryz.prog 158 args h v h':=
 tE (f:=158) b (fun seed leaf c a=>(bp (mx:=fun _=> []) (Dr (iP 100000) seed a leaf c)).mono fun r g q=>q.1) e
def KCall.pure {P:Program} {f:FuncId} {args:List KV} {h:KH} {r:KV} (i:∀(G:Gh) (w:World) (a:Array Value),KRs G args a->∃c,KR G r c∧Calls P f a w fun e w'=>e= .returned c∧w'=w):KCall P f args h r h:=by
 intro B G w a n j kr hargs;obtain⟨c,b,g⟩:=i G w a hargs;refine callsIn_wide.2 (g.mono ?_);rintro e w' ⟨rfl,rfl⟩;exact⟨c,G,rfl, .refl _,b,kr⟩
def zdg {G:Gh} {a b:KV} {c:Array Value} (h:KRs G [a,b] c):∃x y,c= #[x,y]∧KR G a x∧KR G b y:=by
 obtain⟨l⟩:=c;obtain⟨f,e⟩:=h
 match l,f,e with
 | [x,y],_,e=>exact⟨x,y,rfl,e 0 a x rfl rfl,e 1 b y rfl rfl⟩
noncomputable def sF (n:Nat):Nat->Nat->Nat->(Nat->QR)->QR->QR:=Nat.rec (motive:=fun _=>Nat->Nat->Nat->(Nat->QR)->QR->QR) (fun _ _ _ _ F=>F) (fun _ ih s c i K F=>zq (Nat.beq (Nat.land s 255) c) (K i) (nfc (Nat.shiftRight s 8) fun s=>nfc (Nat.succ i) fun i=>ih s c i K F)) n
noncomputable def sM (n:Nat):Nat->Nat->Nat->(Nat->QR)->QR:=Nat.rec (motive:=fun _=>Nat->Nat->Nat->(Nat->QR)->QR) (fun _ _ i K=>K i) (fun _ ih s c i K=>nfc (zq (Nat.beq (Nat.land s 255) c) (Nat.succ i) i) fun i=>nfc (Nat.shiftRight s 8) fun s=>ih s c i K) n
def tX (b:UInt8) (l:List UInt8):Nat.land (zi (b::l)) 255=b.toNat:=by
 show zi (b::l) &&& 255=_;rw [show(255:Nat)=2^8-1 from rfl,Nat.and_two_pow_sub_one_eq_mod];have:=b.toNat_lt;show(b.toNat+256*zi l)%256=_;omega
def zas (b:UInt8) (l:List UInt8):Nat.shiftRight (zi (b::l)) 8=zi l:=by
 show zi (b::l) >>> 8=_;rw [Nat.shiftRight_eq_div_pow];have:=b.toNat_lt;show(b.toNat+256*zi l)/256=_;omega
def tf (a b:UInt8):(Nat.beq a.toNat b.toNat=true)↔a=b:=by
 rw [Nat.beq_eq]; exact⟨fun h=>UInt8.toNat_inj.1 h,fun h=>by rw [h]⟩
def Pq (c:UInt8) (K:Nat->QR) (F:QR):∀(l:List UInt8) (i:Nat),sF l.length (zi l) c.toNat i K F=match l.findIdx? (·==c)with
  |some j=>K (i+j)
  |none=>F
 | [],i=>rfl
 | b::l,i=>by
  have e:sF (b::l).length (zi (b::l)) c.toNat i K F=zq (Nat.beq (Nat.land (zi (b::l)) 255) c.toNat) (K i) (nfc (Nat.shiftRight (zi (b::l)) 8) fun s=>nfc (Nat.succ i) fun i=>sF l.length s c.toNat i K F):=rfl;rw [e,tX,zas,zo,zH,zH,Pq c K F l (Nat.succ i),List.findIdx?_cons]
  by_cases h:b=c
  ·rw [iI ((tf _ _).2 h),iI (by simpa using h)]; rfl
  ·rw [iH (fun x=>h ((tf _ _).1 x)),iH (by simpa using h)]
   cases l.findIdx? (·==c)with
   |none=>rfl
   |some j=>show K (Nat.succ i+j)=K (i+(j+1)); congr 1; omega
def YQ (c:UInt8):∀l:List UInt8,Lib.indexByte l c=match l.findIdx? (·==c)with
  |some j=>(j:Int)
  |none=> -1
 | []=>rfl
 | b::l=>by
  rw [Lib.indexByte,YQ c l,List.findIdx?_cons]
  by_cases h:b=c
  ·simp [h]
  ·simp only [h,beq_iff_eq,if_false]
   cases a:l.findIdx? (·==c)with
   |none=>simp [a]
   |some j=>simp [a]; try omega
def PG (c:UInt8) (K:Nat->QR):∀(l:List UInt8) (i:Nat),sM l.length (zi l) c.toNat i K=K (i+l.count c)
 | [],i=>rfl
 | b::l,i=>by
  have e:sM (b::l).length (zi (b::l)) c.toNat i K=nfc (zq (Nat.beq (Nat.land (zi (b::l)) 255) c.toNat) (Nat.succ i) i) fun i=>nfc (Nat.shiftRight (zi (b::l)) 8) fun s=>sM l.length s c.toNat i K:=rfl;rw [e,tX,zas,zo,zH,zH,PG c K l,List.count_cons]
  by_cases h:b=c
  ·rw [iI ((tf _ _).2 h),iI (by simpa using h)]; congr 1; omega
  ·rw [iH (fun x=>h ((tf _ _).1 x)),iH (by simpa using h)]; congr 1
noncomputable def rA (args:List KV) (h:KH):Option (KV×KH):=match args with
 | [.str n s, .int .u8 c]=>zq (Nat.blt s (Nat.pow 256 n)) (Qd c (fun c=>zq (Nat.blt c 256) (sF n s c 0 (fun i=>some (.int .i64 (.ofNat i),h)) (some (.int .i64 (-1),h))) none) none) none
 |_=>none
def zd2 {args:List KV} {h h':KH} {v:KV} (e:rA args h=some (v,h')):KCall Tryz.prog 264 args h v h':=by
 unfold rA at e;split at e
 ·rename_i n s c;rw [zo]at e;split at e
  ·rename_i r;obtain⟨sl,i,g⟩:=natOf_ex n s (iD r);subst i g;obtain⟨c,f,a⟩:=jT e;subst f; clear e;rw [zo]at a;split at a
   ·rename_i k;have k:c<256:=iD k;have ec:c=(UInt8.ofNat c).toNat:=by rw [UInt8.toNat_ofNat']; omega
    have key:KCall Tryz.prog 264 [.str sl.length (zi sl), .int .u8 (c:Int)] h (.int .i64 (Lib.indexByte sl (UInt8.ofNat c))) h:=KCall.pure fun G w b q=>by
     obtain⟨x,y,rfl,o,p⟩:=zdg q;obtain⟨t,rfl,f,m⟩:=kr_str o;have:t.data.toList=sl:=natOf_inj (by rw [Array.length_toList]; exact f) m;subst this;cases p;refine⟨_, .int _ _, ?_⟩;have:=Tryz.stringslite_IndexByte t (c:Int) w
     rwa [Int.toNat_natCast]at this
    rw [ec,Pq]at a;rw [YQ]at key
    cases l:sl.findIdx? (·==UInt8.ofNat c)with
    | none=>
     rw [l]at a key;cases a;exact key
    | some j=>
     rw [l]at a key;simp only [Nat.zero_add,iL,iW]at a;obtain⟨rfl,rfl⟩:=a;exact key
   ·cases a
  ·cases e
 ·cases e
noncomputable def za2 (args:List KV) (h:KH):Option (KV×KH):=match args with
 | [.str n s, .str m c]=>zq (Nat.beq m 1) (zq (Nat.blt s (Nat.pow 256 n)) (zq (Nat.blt c 256) (sM n s c 0 fun i=>some (.int .i64 (.ofNat i),h)) none) none) none
 |_=>none
def zeb {args:List KV} {h h':KH} {v:KV} (e:za2 args h=some (v,h')):KCall Tryz.prog 255 args h v h':=by
 unfold za2 at e;split at e
 ·rename_i n s m c;simp only [zo]at e;split at e
  ·rename_i b;have b:=iE b;subst b;split at e
   ·rename_i z;obtain⟨sl,g,f⟩:=natOf_ex n s (iD z);subst g f;split at e
    ·rename_i i;have i:c<256:=iD i;have ec:c=(UInt8.ofNat c).toNat:=by rw [UInt8.toNat_ofNat']; omega
     have key:KCall Tryz.prog 255 [.str sl.length (zi sl), .str 1 c] h (.int .i64 (Lib.countByte sl (UInt8.ofNat c):Nat)) h:=KCall.pure fun G w a r=>by
      obtain⟨x,y,rfl,p,q⟩:=zdg r;obtain⟨t,rfl,j,k⟩:=kr_str p;have:t.data.toList=sl:=natOf_inj (by rw [Array.length_toList]; exact j) k;subst this;obtain⟨u,rfl,l,o⟩:=kr_str q;have:u.data.toList= [UInt8.ofNat c]:=natOf_inj (by rw [Array.length_toList]; exact l) (by rw [o]; show c=(UInt8.ofNat c).toNat+256*0; omega)
      have A:u=⟨#[UInt8.ofNat c]⟩:=by
       obtain⟨⟨ul⟩⟩:=u;simp only at this;subst this; rfl
      subst A;exact⟨_, .int _ _,Tryz.strings_Count_one t (UInt8.ofNat c) w⟩
     rw [ec,PG,Nat.zero_add]at e;cases e;exact key
    ·cases e
   ·cases e
  ·cases e
 ·cases e
noncomputable def zbL (k:Nat):Nat->(Nat->Nat->QR)->QR:=Nat.rec (motive:=fun _=>Nat->(Nat->Nat->QR)->QR) (fun _ _=>none) (fun _ ih v K=>zq (Nat.blt v 10) (nfc (Nat.add 48 v) fun d=>K 1 d) (nfc (Nat.div v 10) fun q=>ih q fun n s=>nfc (Nat.add s (Nat.mul (Nat.pow 256 n) (Nat.add 48 (Nat.mod v 10)))) fun s=>nfc (Nat.succ n) fun n=>K n s)) k
noncomputable def zbA (args:List KV) (h:KH):Option (KV×KH):=match args with
 | [.int .i64 v]=>Qd v (fun v=>zq (Nat.blt v 1000000000000) (zbL 20 v fun n s=>some (.str n s,h)) none) none
 |_=>none
def cZ {K:Nat->Nat->QR} {r:KV×KH}:∀ {k v:Nat},k<1000->v<1000000000000->zbL k v K=some r->∃l:List UInt8,yT 0 k (v:Int)=some l∧l.length<=k∧K l.length (zi l)=some r
 |0,v,f,m,h=>by cases h
 | k + 1,v,f,m,h=>by
  have h:zq (Nat.blt v 10) (nfc (Nat.add 48 v) fun d=>K 1 d) (nfc (Nat.div v 10) fun q=>zbL k q fun n s=>nfc (Nat.add s (Nat.mul (Nat.pow 256 n) (Nat.add 48 (Nat.mod v 10)))) fun s=>nfc (Nat.succ n) fun n=>K n s)=some r:=h
  have b:∀x:Nat,x<1000000000000->IntKind.wrap .i64 (x:Int)=(x:Int):=fun x o=>by
   have e:(x:Int)%2^64=(x:Int):=Int.emod_eq_of_lt (by omega) (by omega);simp only [IntKind.wrap,IntKind.bits,IntKind.signed,e];rw [iH (by simp; omega)]
  have one:∀x:Nat,x<10->b2s ([IntKind.wrap .u8 (IntKind.wrap .i64 ((48:Int)+(x:Int)))]:List Int)= [UInt8.ofNat (48+x)]:=fun x o=>by
   rw [show(48:Int)+(x:Int)=((48+x:Nat):Int)by omega,b _ (by omega)];exact JX _
  rw [zo]at h;rw [yT];split at h
  ·rename_i a;have a:v<10:=iD a;rw [zH]at h;refine⟨[UInt8.ofNat (48+v)], ?_,by simp, ?_⟩
   ·rw [iI (by rw [iJ]; omega),one v a]
   ·have:zi [UInt8.ofNat (48+v)]=Nat.add 48 v:=by
     show(UInt8.ofNat (48+v)).toNat+256*0=48+v;rw [UInt8.toNat_ofNat']; omega
    rw [this]; exact h
  ·rename_i a;have a:¬v<10:=fun x=>a (by rw [Nat.blt_eq]; exact x);rw [zH]at h;obtain⟨l,c,p,g⟩:=cZ (by omega) (by show v/10<_; omega) h;rw [zH,zH]at g;have i:Int.tdiv (v:Int) 10=((v/10:Nat):Int):=by rw [show(10:Int)=((10:Nat):Int)from rfl]; exact(Int.ofNat_tdiv v 10).symm
   have j:Int.tmod (v:Int) 10=((v%10:Nat):Int):=by rw [show(10:Int)=((10:Nat):Int)from rfl]; exact(Int.ofNat_tmod v 10).symm
   have c:yT 0 k ((v/10:Nat):Int)=some l:=c;refine⟨l ++ [UInt8.ofNat (48+v%10)], ?_,by simp; omega, ?_⟩
   ·rw [iH (by rw [iJ]; omega),i,j,b _ (by omega),c,iG,one _ (by omega)];unfold YK;rw [iI (by simp; omega)];rfl
   ·rw [wG,iO]
    have:zi [UInt8.ofNat (48+v%10)]=Nat.add 48 (Nat.mod v 10):=by
     show(UInt8.ofNat (48+v%10)).toNat+256*0=48+v%10;rw [UInt8.toNat_ofNat']; omega
    rw [this]; exact g
def c71 {args:List KV} {h h':KH} {v:KV} (e:zbA args h=some (v,h')):KCall Tryz.prog 71 args h v h':=by
 unfold zbA at e;split at e
 ·rename_i v;obtain⟨v,j,a⟩:=jT e;subst j; clear e;rw [zo]at a;split at a
  ·rename_i m;obtain⟨l,k,n,c⟩:=cZ (by decide) (iD m) a;cases c
   exact KCall.ofA (args:= [.int .i64 (v:Int)]) (h:=h) (f:=71) ((uv (mx:=fun _=> []) 20 k).mono fun r o q=>q.1) rfl (fun i x y b g=>by
    match i with
    |0=>simp only [List.getElem?_cons_zero,iL]at b g; subst b g; exact .int _ _
    |i+1=>simp at b)
  ·cases a
 ·cases e
noncomputable def zbZ (t:TypeId) (name:String):Option FuncId:=
 zq (Nat.beq t 111) (zq (name == "certpath/validate.enter") (some 513) (zq (name == "certpath/validate.empty") (some 512) (zq (name == "certpath/validate.apply") (some 511) (zq (name == "certpath/validate.restrict") (some 515) (zq (name == "certpath/validate.names") (some 514) none)))))
 (zq (Nat.beq t 105) (zq (name == "certpath/validate.enter") (some 414) (zq (name == "certpath/validate.empty") (some 413) (zq (name == "certpath/validate.apply") (some 412) (zq (name == "certpath/validate.restrict") (some 416) (zq (name == "certpath/validate.names") (some 415) none))))) none)
def ze1 (v : Value) (w : World) : (method (Tryz.prog.types.size + Made.depth) 111 v "certpath/validate.enter").run Tryz.prog w = .ok (513, v) w := by kernel_rfl
def zdz (v : Value) (w : World) : (method (Tryz.prog.types.size + Made.depth) 105 v "certpath/validate.enter").run Tryz.prog w = .ok (414, v) w := by kernel_rfl
def zel (v : Value) (w : World) : (method (Tryz.prog.types.size + Made.depth) 111 v "certpath/validate.empty").run Tryz.prog w = .ok (512, v) w := by kernel_rfl
def zdS (v : Value) (w : World) : (method (Tryz.prog.types.size + Made.depth) 105 v "certpath/validate.empty").run Tryz.prog w = .ok (413, v) w := by kernel_rfl
def zdL (v : Value) (w : World) : (method (Tryz.prog.types.size + Made.depth) 111 v "certpath/validate.apply").run Tryz.prog w = .ok (511, v) w := by kernel_rfl
def ze2 (v : Value) (w : World) : (method (Tryz.prog.types.size + Made.depth) 105 v "certpath/validate.apply").run Tryz.prog w = .ok (412, v) w := by kernel_rfl
def zdW (v : Value) (w : World) : (method (Tryz.prog.types.size + Made.depth) 111 v "certpath/validate.restrict").run Tryz.prog w = .ok (515, v) w := by kernel_rfl
def zet (v : Value) (w : World) : (method (Tryz.prog.types.size + Made.depth) 105 v "certpath/validate.restrict").run Tryz.prog w = .ok (416, v) w := by kernel_rfl
def zeh (v : Value) (w : World) : (method (Tryz.prog.types.size + Made.depth) 111 v "certpath/validate.names").run Tryz.prog w = .ok (514, v) w := by kernel_rfl
def zeQ (v : Value) (w : World) : (method (Tryz.prog.types.size + Made.depth) 105 v "certpath/validate.names").run Tryz.prog w = .ok (415, v) w := by kernel_rfl
def tw {t:TypeId} {name:String} {f:FuncId} (e:zbZ t name=some f) (v:Value) (w:World):(method (Tryz.prog.types.size+Made.depth) t v name).run Tryz.prog w= .ok (f,v) w:=by
 unfold zbZ at e;simp only [zo]at e;split at e
 ·rename_i b;have b:=iE b;subst b;split at e
  ·rename_i a; rw [eq_of_beq a,<-Option.some.inj e]; exact ze1 v w
  split at e
  ·rename_i a; rw [eq_of_beq a,<-Option.some.inj e]; exact zel v w
  split at e
  ·rename_i a; rw [eq_of_beq a,<-Option.some.inj e]; exact zdL v w
  split at e
  ·rename_i a; rw [eq_of_beq a,<-Option.some.inj e]; exact zdW v w
  split at e
  ·rename_i a; rw [eq_of_beq a,<-Option.some.inj e]; exact zeh v w
  cases e
 ·split at e
  ·rename_i b;have b:=iE b;subst b;split at e
   ·rename_i a; rw [eq_of_beq a,<-Option.some.inj e]; exact zdz v w
   split at e
   ·rename_i a; rw [eq_of_beq a,<-Option.some.inj e]; exact zdS v w
   split at e
   ·rename_i a; rw [eq_of_beq a,<-Option.some.inj e]; exact ze2 v w
   split at e
   ·rename_i a; rw [eq_of_beq a,<-Option.some.inj e]; exact zet v w
   split at e
   ·rename_i a; rw [eq_of_beq a,<-Option.some.inj e]; exact zeQ v w
   cases e
  ·cases e
def rm : (Tryz.prog.funcs.toList.all fun fn => !(fn.name == "runtime.NumGoroutine")) = true := by kernel_rfl
noncomputable abbrev XE:KE:=⟨ti Tryz.prog,kz Tryz.prog,3,ka Tryz.prog⟩
noncomputable abbrev XS:KF_:=⟨fun f=>Tryz.prog.funcs[f]?,zbZ⟩
def ri:3<=Tryz.prog.globals.size:=by
 have h:Nat.ble 3 Tryz.prog.globals.size=true:=by kernel_rfl
 exact iD h
def zdq {P:Program} (h:3<=P.globals.size):(⟨ti P,kz P,3,ka P⟩:KE).Ok P:=⟨rfl,rfl,h,rfl⟩
def zcg:XE.Ok Tryz.prog:=zdq ri
def zc6:XS.Ok Tryz.prog:=⟨fun {f fn} h=>by
 have h:Tryz.prog.funcs[f]? =some fn:=h;refine⟨h, ?_⟩
 have a:fn∈Tryz.prog.funcs.toList:=by
  have:=Array.mem_of_getElem? h;simpa using this
 simpa using List.all_eq_true.1 rm fn a,fun h v w=>tw h v w⟩
def mixed:Tryz.prog.follows .mixedOrders=true:=by kernel_rfl
noncomputable def zaP (t:List (Nat×Nat)) (f:FuncId):Option (List KV->KH->Option (KV×KH)):=
 zq (Nat.beq f 378) (some (UU false)) (zq (Nat.beq f 359) (some (UU true)) (zq (Nat.beq f 119) (some (UU false)) (zq (Nat.beq f 101) (some (UU true))
 (zq (Nat.beq f 157) (some (J0 t)) (zq (Nat.beq f 357) (some (J0 t)) (zq (Nat.beq f 158) (some (tr t)) (zq (Nat.beq f 71) (some zbA) (zq (Nat.beq f 255) (some za2) (zq (Nat.beq f 264) (some rA) none)))))))))
def kI (f:FuncId):Prop:=∃fn c,Tryz.prog.funcs[f]? =some fn∧fn.body=some c
def uZ {f:FuncId} (h:(Option.any (fun fn:Func=>fn.body.isSome) Tryz.prog.funcs[f]?)=true):kI f:=by
 cases a:Tryz.prog.funcs[f]? with
 |none=>rw [a]at h; cases h
 | some fn=>
  rw [a]at h;have h:fn.body.isSome=true:=h;exact⟨fn,_,a,(Option.some_get h).symm⟩
def zeA:kI 378:=uZ (by kernel_rfl)
def zeq:kI 359:=uZ (by kernel_rfl)
def zdV:kI 119:=uZ (by kernel_rfl)
def zen:kI 101:=uZ (by kernel_rfl)
def zeP:kI 157:=uZ (by kernel_rfl)
def zdT:kI 357:=uZ (by kernel_rfl)
def zeN:kI 158:=uZ (by kernel_rfl)
def b71:kI 71:=uZ (by kernel_rfl)
def zez:kI 255:=uZ (by kernel_rfl)
def zeu:kI 264:=uZ (by kernel_rfl)
def ta {t:List (Nat×Nat)} (b:Ws t) {f:FuncId} {g:List KV->KH->Option (KV×KH)} (e:zaP t f=some g):kI f∧∀ {args h v h'},g args h=some (v,h')->KCall Tryz.prog f args h v h':=by
 unfold zaP at e;simp only [zo]at e;split at e
 ·rename_i a; have a:=iE a; subst a; cases e; exact⟨zeA,zd4⟩
 split at e
 ·rename_i a; have a:=iE a; subst a; cases e; exact⟨zeq,zeo⟩
 split at e
 ·rename_i a; have a:=iE a; subst a; cases e; exact⟨zdV,zdP⟩
 split at e
 ·rename_i a; have a:=iE a; subst a; cases e; exact⟨zen,zdH⟩
 split at e
 ·rename_i a; have a:=iE a; subst a; cases e; exact⟨zeP,zei b⟩
 split at e
 ·rename_i a; have a:=iE a; subst a; cases e; exact⟨zdT,zeX b⟩
 split at e
 ·rename_i a; have a:=iE a; subst a; cases e; exact⟨zeN,zd3 b⟩
 split at e
 ·rename_i a; have a:=iE a; subst a; cases e; exact⟨b71,c71⟩
 split at e
 ·rename_i a; have a:=iE a; subst a; cases e; exact⟨zez,zeb⟩
 split at e
 ·rename_i a; have a:=iE a; subst a; cases e; exact⟨zeu,zd2⟩
 cases e
noncomputable def eD (v:KV):Bool:=KV.rec (motive_1:=fun _=>Bool) (motive_2:=fun _=>Bool) false (fun b=>b) (fun _ _=>false) (fun _ _=>false) (fun _ _=>false) false (fun _ _ _ _ _=>false) false false (fun _ _ _ _ _=>false) false (fun _=>false) (fun _ _=>false) (fun _ _=>false) (fun _=>false) false (fun _ _ _=>false) false false (fun _ _ _ _=>false) v
def G4 {v:KV} (h:eD v=true):v= .bool true:=by
 cases v<;>first|(cases h; done)|skip
 rename_i b;have h:b=true:=h;rw [h]
noncomputable def yes (r:QR):Bool:=Option.rec (motive:=fun _=>Bool) false (fun p=>Prod.rec (motive:=fun _=>Bool) (fun v _=>eD v) p) r
def zcc {r:QR} (h:yes r=true):∃h',r=some (.bool true,h'):=by
 cases r with
 |none=>cases h
 | some p=>
  obtain⟨v,h'⟩:=p;exact⟨h',by rw [G4 h]⟩
noncomputable def hE0:KH:=⟨N64k.empty,1000⟩
def f5 {P:Program} {X:QX} (ok:X.Ok P) (a:P.globals.size<=1000) {n:Nat} {f:FuncId} {args:List KV} (hargs:KV.frees args=true) (q:yes ((qgo X n).call f args hE0 fun v h=>some (v,h))=true) (h:KH):KCall P f args h (.bool true) h:=by
 obtain⟨h',e⟩:=zcc q;refine nA ok (n:=n) (N0:=1000) a (by decide) (h:=h) (h':=h) ?_;unfold oz;rw [zo,iI hargs];show Option.rec (motive:=fun _=>KH->Option (KV×KH)) (fun _=>none) (fun p h=>zq p.1.free (some (p.1,h)) none) ((qgo X n).call f args hE0 fun v h=>some (v,h)) h=_;rw [e];rfl
noncomputable def X0 (t:List (Nat×Nat)):QX:=⟨XE,XS,zaP t⟩
def X0_ok {t:List (Nat×Nat)} (a:Ws t):(X0 t).Ok Tryz.prog:=⟨zcg,zc6,fun h=>ta a h,mixed⟩
end Go.K
end
