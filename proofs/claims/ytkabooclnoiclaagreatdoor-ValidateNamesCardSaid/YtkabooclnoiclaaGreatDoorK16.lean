/- The layer of closed runs: a part. No condition beyond each statement's own. -/
import Derived.Test.YtkabooclnoiclaaGreatDoorK15
set_option linter.unusedVariables false
set_option linter.unusedSimpArgs false
set_option linter.unnecessarySimpa false
section
namespace Go.K
open Go Go.Abs Go.Proofs
theorem tz {args:List KV} {h h':KH} {v:KV} (e:Yq false args h=some (v,h')):KCall Tryz.prog 378 args h v h':=
 pN (f:=378) (short:=false) (fun a ha hb=>(q6 (mx:=0) (Qc (Nat.le_refl 100000) a ha hb)).mono fun r st q=>q.1) e
theorem tV {args:List KV} {h h':KH} {v:KV} (e:Yq true args h=some (v,h')):KCall Tryz.prog 359 args h v h':=
 pN (f:=359) (short:=true) (fun a ha hb=>(jn (mx:=0) (Xi (Nat.le_refl 100000) a ha hb)).mono fun r st q=>q.1) e
theorem ta {args:List KV} {h h':KH} {v:KV} (e:Yq false args h=some (v,h')):KCall Tryz.prog 119 args h v h':=
 pN (f:=119) (short:=false) (fun a ha hb=>(wx (mx:=0) (Qx (Nat.le_refl 100000) a (by omega) hb)).mono fun r st q=>q.1) e
theorem sY {args:List KV} {h h':KH} {v:KV} (e:Yq true args h=some (v,h')):KCall Tryz.prog 101 args h v h':=
 pN (f:=101) (short:=true) (fun a ha hb=>(xa (mx:=0) (dK (Nat.le_refl 100000) a (by omega) hb)).mono fun r st q=>q.1) e
end Go.K
end
section
namespace Go.Abs
open Go Go.K
theorem Gd (x:Nat):b2s ([IntKind.wrap .u8 (Int.fdiv (x:Int) 16777216),IntKind.wrap .u8 (Int.fdiv (x:Int) 65536),IntKind.wrap .u8 (Int.fdiv (x:Int) 256),IntKind.wrap .u8 (x:Int)]:List Int)=be4 x:=by
 rw [lJ,Yg,Kd]
theorem Xm (x:Nat):b2s ([IntKind.wrap .u8 (x:Int)]:List Int)= [UInt8.ofNat x]:=by
 rw [ZW]
 have:([((x%256:Nat):Int)]:List Int)=zl [x%256]:=rfl
 rw [this,Yg]
 have h:UInt8.ofNat (x%256)=UInt8.ofNat x:=UInt8.toNat_inj.1 (by simp [UInt8.toNat_ofNat'])
 simp only [u8s,List.map_cons,List.map_nil,h]
theorem VQ {n:Nat} (hn:100000≤n) (id:List UInt8) (hid:id.length=16) (leaf c:Nat):∀(j a k:Nat) (v:List UInt8),v.length=16→a+j<1000→j<k →
  zK n ((a+j:Nat):Int) (leaf:Int) (c:Int) id k v (a:Int)=some (ua id leaf c a j v)
 | 0,a,k+1,v,hv,ha,hk=>by
  rw [zK,if_neg (by simp)]; rfl
 | j+1,a,k+1,v,hv,ha,hk=>by
  rw [zK,if_pos (by simp; omega)]
  rw [yz,zS,zS,Gd,Xm,Xm,Option.bind_some,Option.bind_some,Option.bind_some]
  rw [dK hn _ (by simp) (by simp [be4,hid,hv]),Option.bind_some,vF a (by omega)]
  have e:(sha ([[67],id,be4 leaf,[UInt8.ofNat c],[UInt8.ofNat a],v]:List (List UInt8)).flatten).take 16=ZO id leaf c a v:=by
   unfold ZO
   simp only [List.flatten_cons,List.flatten_nil,List.append_nil,List.cons_append,List.nil_append]
  rw [e,show a+(j+1)=(a+1)+j by omega]
  exact VQ hn id hid leaf c j (a+1) k _ rfl (by omega) (by omega)
theorem VN {n:Nat} (hn:100000≤n) (id:List UInt8) (hid:id.length=16) (leaf c:Nat):∀(j a k:Nat) (v:List UInt8),v.length=16→a+j<1000→j<k →
  yX n ((a+j:Nat):Int) (leaf:Int) (c:Int) id k v (a:Int)=some (ua id leaf c a j v)
 | 0,a,k+1,v,hv,ha,hk=>by
  rw [yX,if_neg (by simp)]; rfl
 | j+1,a,k+1,v,hv,ha,hk=>by
  rw [yX,if_pos (by simp; omega)]
  rw [kg,vR,vR,Gd,Xm,Xm,Option.bind_some,Option.bind_some,Option.bind_some]
  rw [Xi hn _ (by simp) (by simp [be4,hid,hv]),Option.bind_some,vF a (by omega)]
  have e:(sha ([[67],id,be4 leaf,[UInt8.ofNat c],[UInt8.ofNat a],v]:List (List UInt8)).flatten).take 16=ZO id leaf c a v:=by
   unfold ZO
   simp only [List.flatten_cons,List.flatten_nil,List.append_nil,List.cons_append,List.nil_append]
  rw [e,show a+(j+1)=(a+1)+j by omega]
  exact VN hn id hid leaf c j (a+1) k _ rfl (by omega) (by omega)
theorem U5 {n:Nat} (hn:100000≤n) (seed:List UInt8) (hs:seed.length=32) (leaf c:Nat):yQ n seed (leaf:Int) (c:Int)=some (pu seed leaf c):=by
 unfold yQ
 rw [yz,zS,Gd,Xm,Option.bind_some,Option.bind_some]
 rw [dK hn _ (by simp) (by simp [be4,hs]),Option.bind_some]
 have e:(sha ([[83],seed,be4 leaf,[UInt8.ofNat c]]:List (List UInt8)).flatten).take 16=pu seed leaf c:=by
  unfold pu
  simp only [List.flatten_cons,List.flatten_nil,List.append_nil,List.cons_append,List.nil_append]
 rw [e]
theorem Bc (id:List UInt8) (hid:id.length=16) (leaf c a j:Nat) (v:List UInt8) (hv:v.length=16) (ha:a+j<1000):yZ 100000 id (leaf:Int) (c:Int) (a:Int) ((a+j:Nat):Int) v=some (ua id leaf c a j v):=by
 unfold yZ
 rw [VQ (Nat.le_refl _) id hid leaf c j a 100000 v hv ha (by omega),Option.bind_some]
theorem K0 (id:List UInt8) (hid:id.length=16) (leaf c a j:Nat) (v:List UInt8) (hv:v.length=16) (ha:a+j<1000):uA 100000 id (leaf:Int) (c:Int) (a:Int) ((a+j:Nat):Int) v=some (ua id leaf c a j v):=by
 unfold uA
 rw [VN (Nat.le_refl _) id hid leaf c j a 100000 v hv ha (by omega),Option.bind_some]
end Go.Abs
end
section
namespace Go.K
open Go Go.Abs Go.Proofs
theorem tQ {t:List (Nat×Nat)} (ht:qc t) {args:List KV} {h h':KH} {v:KV} (e:Xp t args h=some (v,h')):KCall Tryz.prog 157 args h v h':=
 VF (f:=157) ht (fun id leaf c a j v h1 h2 h3=>(uJ (mx:=0) (Bc id h1 leaf c a j v h2 h3)).mono fun r st q=>q.1) e
theorem zaM {t:List (Nat×Nat)} (ht:qc t) {args:List KV} {h h':KH} {v:KV} (e:Xp t args h=some (v,h')):KCall Tryz.prog 357 args h v h':=
 VF (f:=357) ht (fun id leaf c a j v h1 h2 h3=>(ZK (mx:=0) (K0 id h1 leaf c a j v h2 h3)).mono fun r st q=>q.1) e
theorem tv {t:List (Nat×Nat)} (ht:qc t) {args:List KV} {h h':KH} {v:KV} (e:cZ t args h=some (v,h')):KCall Tryz.prog 158 args h v h':=
 eu (f:=158) ht (fun seed leaf c h1=>(vW (mx:=0) (U5 (Nat.le_refl 100000) seed h1 leaf c)).mono fun r st q=>q.1) e
theorem KCall.pure {P:Program} {f:FuncId} {args:List KV} {h:KH} {r:KV} (hc:∀(G:Gh) (w:World) (cargs:Array Value),KRs G args cargs→∃c,KR G r c∧Calls P f cargs w fun e w'=>e= .returned c∧w'=w):KCall P f args h r h:=by
 intro B G w cargs n hg kr hargs
 obtain⟨c,h1,h2⟩:=hc G w cargs hargs
 refine callsIn_wide.2 (h2.mono ?_)
 rintro e w' ⟨rfl,rfl⟩
 exact⟨c,G,rfl, .refl _,h1,kr⟩
theorem r5 {G:Gh} {a b:KV} {c:Array Value} (h:KRs G [a,b] c):∃x y,c= #[x,y]∧KR G a x∧KR G b y:=by
 obtain⟨l⟩:=c
 obtain⟨h1,h2⟩:=h
 match l,h1,h2 with
 | [x,y],_,h2=>exact⟨x,y,rfl,h2 0 a x rfl rfl,h2 1 b y rfl rfl⟩
noncomputable def P9 (n:Nat):Nat→Nat→Nat→(Nat→QR)→QR→QR:=Nat.rec (motive:=fun _=>Nat→Nat→Nat→(Nat→QR)→QR→QR) (fun _ _ _ _ F=>F) (fun _ ih s c i K F=>zb (Nat.beq (Nat.land s 255) c) (K i) (nfc (Nat.shiftRight s 8) fun s=>nfc (Nat.succ i) fun i=>ih s c i K F)) n
noncomputable def co (n:Nat):Nat→Nat→Nat→(Nat→QR)→QR:=Nat.rec (motive:=fun _=>Nat→Nat→Nat→(Nat→QR)→QR) (fun _ _ i K=>K i) (fun _ ih s c i K=>nfc (zb (Nat.beq (Nat.land s 255) c) (Nat.succ i) i) fun i=>nfc (Nat.shiftRight s 8) fun s=>ih s c i K) n
theorem eX (b:UInt8) (l:List UInt8):Nat.land (zc (b::l)) 255=b.toNat:=by
 show zc (b::l) &&& 255=_
 rw [show(255:Nat)=2^8-1 from rfl,Nat.and_two_pow_sub_one_eq_mod]
 have:=b.toNat_lt
 show(b.toNat+256*zc l)%256=_
 omega
theorem fJ (b:UInt8) (l:List UInt8):Nat.shiftRight (zc (b::l)) 8=zc l:=by
 show zc (b::l) >>> 8=_
 rw [Nat.shiftRight_eq_div_pow]
 have:=b.toNat_lt
 show(b.toNat+256*zc l)/256=_
 omega
theorem cQ (a b:UInt8):(Nat.beq a.toNat b.toNat=true)↔a=b:=by
 rw [Nat.beq_eq]; exact⟨fun h=>UInt8.toNat_inj.1 h,fun h=>by rw [h]⟩
theorem JX (c:UInt8) (K:Nat→QR) (F:QR):∀(l:List UInt8) (i:Nat),P9 l.length (zc l) c.toNat i K F=match l.findIdx? (·==c)with
  |some j=>K (i+j)
  |none=>F
 | [],i=>rfl
 | b::l,i=>by
  have e:P9 (b::l).length (zc (b::l)) c.toNat i K F=zb (Nat.beq (Nat.land (zc (b::l)) 255) c.toNat) (K i) (nfc (Nat.shiftRight (zc (b::l)) 8) fun s=>nfc (Nat.succ i) fun i=>P9 l.length s c.toNat i K F):=rfl
  rw [e,eX,fJ,za,zi,zi,JX c K F l (Nat.succ i),List.findIdx?_cons]
  by_cases h:b=c
  ·rw [if_pos ((cQ _ _).2 h),if_pos (by simpa using h)]; rfl
  ·rw [if_neg (fun x=>h ((cQ _ _).1 x)),if_neg (by simpa using h)]
   cases l.findIdx? (·==c)with
   |none=>rfl
   |some j=>show K (Nat.succ i+j)=K (i+(j+1)); congr 1; omega
theorem bX (c:UInt8):∀l:List UInt8,Lib.indexByte l c=match l.findIdx? (·==c)with
  |some j=>(j:Int)
  |none=> -1
 | []=>rfl
 | b::l=>by
  rw [Lib.indexByte,bX c l,List.findIdx?_cons]
  by_cases h:b=c
  ·simp [h]
  ·simp only [h,beq_iff_eq,if_false]
   cases hj:l.findIdx? (·==c)with
   |none=>simp [hj]
   |some j=>simp [hj]; try omega
theorem Qa (c:UInt8) (K:Nat→QR):∀(l:List UInt8) (i:Nat),co l.length (zc l) c.toNat i K=K (i+l.count c)
 | [],i=>rfl
 | b::l,i=>by
  have e:co (b::l).length (zc (b::l)) c.toNat i K=nfc (zb (Nat.beq (Nat.land (zc (b::l)) 255) c.toNat) (Nat.succ i) i) fun i=>nfc (Nat.shiftRight (zc (b::l)) 8) fun s=>co l.length s c.toNat i K:=rfl
  rw [e,eX,fJ,za,zi,zi,Qa c K l,List.count_cons]
  by_cases h:b=c
  ·rw [if_pos ((cQ _ _).2 h),if_pos (by simpa using h)]; congr 1; omega
  ·rw [if_neg (fun x=>h ((cQ _ _).1 x)),if_neg (by simpa using h)]; congr 1
noncomputable def Pu (args:List KV) (h:KH):Option (KV×KH):=match args with
 | [.str n s, .int .u8 c]=>zb (Nat.blt s (Nat.pow 256 n)) (XD c (fun c=>zb (Nat.blt c 256) (P9 n s c 0 (fun i=>some (.int .i64 (.ofNat i),h)) (some (.int .i64 (-1),h))) none) none) none
 |_=>none
theorem tt {args:List KV} {h h':KH} {v:KV} (e:Pu args h=some (v,h')):KCall Tryz.prog 264 args h v h':=by
 unfold Pu at e
 split at e
 ·rename_i n s c
  rw [za]at e
  split at e
  ·rename_i hs
   obtain⟨sl,hsl,hs2⟩:=vx n s (Nat.le_of_ble_eq_true hs)
   subst hsl hs2
   obtain⟨c,e1,e2⟩:=wv e
   subst e1; clear e
   rw [za]at e2
   split at e2
   ·rename_i hc
    have hc:c<256:=Nat.le_of_ble_eq_true hc
    have ec:c=(UInt8.ofNat c).toNat:=by rw [UInt8.toNat_ofNat']; omega
    have key:KCall Tryz.prog 264 [.str sl.length (zc sl), .int .u8 (c:Int)] h (.int .i64 (Lib.indexByte sl (UInt8.ofNat c))) h:=KCall.pure fun G w cargs hk=>by
     obtain⟨x,y,rfl,h1,h2⟩:=r5 hk
     obtain⟨t,rfl,e1,e3⟩:=p7 h1
     have:t.data.toList=sl:=wX (by rw [Array.length_toList]; exact e1) e3
     subst this
     cases h2
     refine⟨_, .int _ _, ?_⟩
     have:=Tryz.stringslite_IndexByte t (c:Int) w
     rwa [Int.toNat_natCast]at this
    rw [ec,JX]at e2
    rw [bX]at key
    cases hj:sl.findIdx? (·==UInt8.ofNat c)with
    | none=>
     rw [hj]at e2 key
     simp only [Option.some.injEq,Prod.mk.injEq]at e2
     obtain⟨rfl,rfl⟩:=e2
     exact key
    | some j=>
     rw [hj]at e2 key
     simp only [Nat.zero_add,Option.some.injEq,Prod.mk.injEq]at e2
     obtain⟨rfl,rfl⟩:=e2
     exact key
   ·cases e2
  ·cases e
 ·cases e
noncomputable def lD (args:List KV) (h:KH):Option (KV×KH):=match args with
 | [.str n s, .str m c]=>zb (Nat.beq m 1) (zb (Nat.blt s (Nat.pow 256 n)) (zb (Nat.blt c 256) (co n s c 0 fun i=>some (.int .i64 (.ofNat i),h)) none) none) none
 |_=>none
theorem tF {args:List KV} {h h':KH} {v:KV} (e:lD args h=some (v,h')):KCall Tryz.prog 255 args h v h':=by
 unfold lD at e
 split at e
 ·rename_i n s m c
  simp only [za]at e
  split at e
  ·rename_i hm
   have hm:=Nat.eq_of_beq_eq_true hm
   subst hm
   split at e
   ·rename_i hs
    obtain⟨sl,hsl,hs2⟩:=vx n s (Nat.le_of_ble_eq_true hs)
    subst hsl hs2
    split at e
    ·rename_i hc
     have hc:c<256:=Nat.le_of_ble_eq_true hc
     have ec:c=(UInt8.ofNat c).toNat:=by rw [UInt8.toNat_ofNat']; omega
     have key:KCall Tryz.prog 255 [.str sl.length (zc sl), .str 1 c] h (.int .i64 (Lib.countByte sl (UInt8.ofNat c):Nat)) h:=KCall.pure fun G w cargs hk=>by
      obtain⟨x,y,rfl,h1,h2⟩:=r5 hk
      obtain⟨t,rfl,e1,e3⟩:=p7 h1
      have:t.data.toList=sl:=wX (by rw [Array.length_toList]; exact e1) e3
      subst this
      obtain⟨u,rfl,e4,e5⟩:=p7 h2
      have:u.data.toList= [UInt8.ofNat c]:=wX (by rw [Array.length_toList]; exact e4) (by rw [e5]; show c=(UInt8.ofNat c).toNat+256*0; omega)
      have hu:u=⟨#[UInt8.ofNat c]⟩:=by
       obtain⟨⟨ul⟩⟩:=u
       simp only at this
       subst this; rfl
      subst hu
      exact⟨_, .int _ _,Tryz.strings_Count_one t (UInt8.ofNat c) w⟩
     rw [ec,Qa,Nat.zero_add]at e
     simp only [Option.some.injEq,Prod.mk.injEq]at e
     obtain⟨rfl,rfl⟩:=e
     exact key
    ·cases e
   ·cases e
  ·cases e
 ·cases e
noncomputable def mW (k:Nat):Nat→(Nat→Nat→QR)→QR:=Nat.rec (motive:=fun _=>Nat→(Nat→Nat→QR)→QR) (fun _ _=>none) (fun _ ih v K=>zb (Nat.blt v 10) (nfc (Nat.add 48 v) fun d=>K 1 d) (nfc (Nat.div v 10) fun q=>ih q fun n s=>nfc (Nat.add s (Nat.mul (Nat.pow 256 n) (Nat.add 48 (Nat.mod v 10)))) fun s=>nfc (Nat.succ n) fun n=>K n s)) k
noncomputable def mH (args:List KV) (h:KH):Option (KV×KH):=match args with
 | [.int .i64 v]=>XD v (fun v=>zb (Nat.blt v 1000000000000) (mW 20 v fun n s=>some (.str n s,h)) none) none
 |_=>none
theorem Ke {K:Nat→Nat→QR} {r:KV×KH}:∀ {k v:Nat},k<1000→v<1000000000000→mW k v K=some r→∃l:List UInt8,ya 0 k (v:Int)=some l∧l.length≤k∧K l.length (zc l)=some r
 |0,v,hkk,hv,h=>by cases h
 | k + 1,v,hkk,hv,h=>by
  have h:zb (Nat.blt v 10) (nfc (Nat.add 48 v) fun d=>K 1 d) (nfc (Nat.div v 10) fun q=>mW k q fun n s=>nfc (Nat.add s (Nat.mul (Nat.pow 256 n) (Nat.add 48 (Nat.mod v 10)))) fun s=>nfc (Nat.succ n) fun n=>K n s)=some r:=h
  have w64:∀x:Nat,x<1000000000000→IntKind.wrap .i64 (x:Int)=(x:Int):=fun x hx=>by
   have e:(x:Int)%2^64=(x:Int):=Int.emod_eq_of_lt (by omega) (by omega)
   simp only [IntKind.wrap,IntKind.bits,IntKind.signed,e]
   rw [if_neg (by simp; omega)]
  have one:∀x:Nat,x<10→b2s ([IntKind.wrap .u8 (IntKind.wrap .i64 ((48:Int)+(x:Int)))]:List Int)= [UInt8.ofNat (48+x)]:=fun x hx=>by
   rw [show(48:Int)+(x:Int)=((48+x:Nat):Int)by omega,w64 _ (by omega)]
   exact Xm _
  rw [za]at h
  rw [ya]
  split at h
  ·rename_i hb
   have hb:v<10:=Nat.le_of_ble_eq_true hb
   rw [zi]at h
   refine⟨[UInt8.ofNat (48+v)], ?_,by simp, ?_⟩
   ·rw [if_pos (by rw [decide_eq_true_eq]; omega),one v hb]
   ·have:zc [UInt8.ofNat (48+v)]=Nat.add 48 v:=by
     show(UInt8.ofNat (48+v)).toNat+256*0=48+v
     rw [UInt8.toNat_ofNat']; omega
    rw [this]; exact h
  ·rename_i hb
   have hb:¬v<10:=fun x=>hb (by rw [Nat.blt_eq]; exact x)
   rw [zi]at h
   obtain⟨l,h1,h2,h3⟩:=Ke (by omega) (by show v/10<_; omega) h
   rw [zi,zi]at h3
   have e1:Int.tdiv (v:Int) 10=((v/10:Nat):Int):=by rw [show(10:Int)=((10:Nat):Int)from rfl]; exact(Int.ofNat_tdiv v 10).symm
   have e2:Int.tmod (v:Int) 10=((v%10:Nat):Int):=by rw [show(10:Int)=((10:Nat):Int)from rfl]; exact(Int.ofNat_tmod v 10).symm
   have h1:ya 0 k ((v/10:Nat):Int)=some l:=h1
   refine⟨l ++ [UInt8.ofNat (48+v%10)], ?_,by simp; omega, ?_⟩
   ·rw [if_neg (by rw [decide_eq_true_eq]; omega),e1,e2,w64 _ (by omega),h1,Option.bind_some,one _ (by omega)]
    unfold YE
    rw [if_pos (by simp; omega)]
    rfl
   ·rw [yg,List.length_append]
    have:zc [UInt8.ofNat (48+v%10)]=Nat.add 48 (Nat.mod v 10):=by
     show(UInt8.ofNat (48+v%10)).toNat+256*0=48+v%10
     rw [UInt8.toNat_ofNat']; omega
    rw [this]; exact h3
theorem c71 {args:List KV} {h h':KH} {v:KV} (e:mH args h=some (v,h')):KCall Tryz.prog 71 args h v h':=by
 unfold mH at e
 split at e
 ·rename_i v
  obtain⟨v,e1,e2⟩:=wv e
  subst e1; clear e
  rw [za]at e2
  split at e2
  ·rename_i hv
   obtain⟨l,h1,h2,h3⟩:=Ke (by decide) (Nat.le_of_ble_eq_true hv) e2
   simp only [Option.some.injEq,Prod.mk.injEq]at h3
   obtain⟨rfl,rfl⟩:=h3
   exact KCall.ofA (args:= [.int .i64 (v:Int)]) (h:=h) (f:=71) ((jq (mx:=0) 20 h1).mono fun r st q=>q.1) rfl (fun i x y hx hy=>by
    match i with
    |0=>simp only [List.getElem?_cons_zero,Option.some.injEq]at hx hy; subst hx hy; exact .int _ _
    |i+1=>simp at hx)
  ·cases e2
 ·cases e
noncomputable def np (t:TypeId) (name:String):Option FuncId:=
 zb (Nat.beq t 111) (zb (name == "certpath/validate.enter") (some 513) (zb (name == "certpath/validate.empty") (some 512) (zb (name == "certpath/validate.apply") (some 511) (zb (name == "certpath/validate.restrict") (some 515) (zb (name == "certpath/validate.names") (some 514) none)))))
 (zb (Nat.beq t 105) (zb (name == "certpath/validate.enter") (some 414) (zb (name == "certpath/validate.empty") (some 413) (zb (name == "certpath/validate.apply") (some 412) (zb (name == "certpath/validate.restrict") (some 416) (zb (name == "certpath/validate.names") (some 415) none))))) none)
theorem zaQ (v : Value) (w : World) : (method (Tryz.prog.types.size + Made.depth) 111 v "certpath/validate.enter").run Tryz.prog w = .ok (513, v) w := by kernel_rfl
theorem sQ (v : Value) (w : World) : (method (Tryz.prog.types.size + Made.depth) 105 v "certpath/validate.enter").run Tryz.prog w = .ok (414, v) w := by kernel_rfl
theorem tR (v : Value) (w : World) : (method (Tryz.prog.types.size + Made.depth) 111 v "certpath/validate.empty").run Tryz.prog w = .ok (512, v) w := by kernel_rfl
theorem td (v : Value) (w : World) : (method (Tryz.prog.types.size + Made.depth) 105 v "certpath/validate.empty").run Tryz.prog w = .ok (413, v) w := by kernel_rfl
theorem s7 (v : Value) (w : World) : (method (Tryz.prog.types.size + Made.depth) 111 v "certpath/validate.apply").run Tryz.prog w = .ok (511, v) w := by kernel_rfl
theorem zaR (v : Value) (w : World) : (method (Tryz.prog.types.size + Made.depth) 105 v "certpath/validate.apply").run Tryz.prog w = .ok (412, v) w := by kernel_rfl
theorem th (v : Value) (w : World) : (method (Tryz.prog.types.size + Made.depth) 111 v "certpath/validate.restrict").run Tryz.prog w = .ok (515, v) w := by kernel_rfl
theorem zaf (v : Value) (w : World) : (method (Tryz.prog.types.size + Made.depth) 105 v "certpath/validate.restrict").run Tryz.prog w = .ok (416, v) w := by kernel_rfl
theorem tP (v : Value) (w : World) : (method (Tryz.prog.types.size + Made.depth) 111 v "certpath/validate.names").run Tryz.prog w = .ok (514, v) w := by kernel_rfl
theorem zaG (v : Value) (w : World) : (method (Tryz.prog.types.size + Made.depth) 105 v "certpath/validate.names").run Tryz.prog w = .ok (415, v) w := by kernel_rfl
theorem ef {t:TypeId} {name:String} {f:FuncId} (e:np t name=some f) (v:Value) (w:World):(method (Tryz.prog.types.size+Made.depth) t v name).run Tryz.prog w= .ok (f,v) w:=by
 unfold np at e
 simp only [za]at e
 split at e
 ·rename_i ht
  have ht:=Nat.eq_of_beq_eq_true ht
  subst ht
  split at e
  ·rename_i hn; rw [eq_of_beq hn,←Option.some.inj e]; exact zaQ v w
  split at e
  ·rename_i hn; rw [eq_of_beq hn,←Option.some.inj e]; exact tR v w
  split at e
  ·rename_i hn; rw [eq_of_beq hn,←Option.some.inj e]; exact s7 v w
  split at e
  ·rename_i hn; rw [eq_of_beq hn,←Option.some.inj e]; exact th v w
  split at e
  ·rename_i hn; rw [eq_of_beq hn,←Option.some.inj e]; exact tP v w
  cases e
 ·split at e
  ·rename_i ht
   have ht:=Nat.eq_of_beq_eq_true ht
   subst ht
   split at e
   ·rename_i hn; rw [eq_of_beq hn,←Option.some.inj e]; exact sQ v w
   split at e
   ·rename_i hn; rw [eq_of_beq hn,←Option.some.inj e]; exact td v w
   split at e
   ·rename_i hn; rw [eq_of_beq hn,←Option.some.inj e]; exact zaR v w
   split at e
   ·rename_i hn; rw [eq_of_beq hn,←Option.some.inj e]; exact zaf v w
   split at e
   ·rename_i hn; rw [eq_of_beq hn,←Option.some.inj e]; exact zaG v w
   cases e
  ·cases e
theorem Pn : (Tryz.prog.funcs.toList.all fun fn => !(fn.name == "runtime.NumGoroutine")) = true := by kernel_rfl
noncomputable abbrev XE:KE:=⟨ti Tryz.prog,kz Tryz.prog,3,ka Tryz.prog⟩
noncomputable abbrev XS:KF_:=⟨fun f=>Tryz.prog.funcs[f]?,np⟩
theorem Pk:3≤Tryz.prog.globals.size:=by
 have h:Nat.ble 3 Tryz.prog.globals.size=true:=by kernel_rfl
 exact Nat.le_of_ble_eq_true h
theorem sn {P:Program} (h:3≤P.globals.size):(⟨ti P,kz P,3,ka P⟩:KE).Ok P:=⟨rfl,rfl,h,rfl⟩
theorem WN:XE.Ok Tryz.prog:=sn Pk
theorem Y0:XS.Ok Tryz.prog:=⟨fun {f fn} h=>by
 have h:Tryz.prog.funcs[f]? =some fn:=h
 refine⟨h, ?_⟩
 have hm:fn∈Tryz.prog.funcs.toList:=by
  have:=Array.mem_of_getElem? h
  simpa using this
 simpa using List.all_eq_true.1 Pn fn hm,fun h v w=>ef h v w⟩
theorem mixed:Tryz.prog.follows .mixedOrders=true:=by kernel_rfl
noncomputable def BU (t:List (Nat×Nat)) (f:FuncId):Option (List KV→KH→Option (KV×KH)):=
 zb (Nat.beq f 378) (some (Yq false)) (zb (Nat.beq f 359) (some (Yq true)) (zb (Nat.beq f 119) (some (Yq false)) (zb (Nat.beq f 101) (some (Yq true))
 (zb (Nat.beq f 157) (some (Xp t)) (zb (Nat.beq f 357) (some (Xp t)) (zb (Nat.beq f 158) (some (cZ t)) (zb (Nat.beq f 71) (some mH) (zb (Nat.beq f 255) (some lD) (zb (Nat.beq f 264) (some Pu) none)))))))))
def yY (f:FuncId):Prop:=∃fn c,Tryz.prog.funcs[f]? =some fn∧fn.body=some c
theorem z6 {f:FuncId} (h:(Option.any (fun fn:Func=>fn.body.isSome) Tryz.prog.funcs[f]?)=true):yY f:=by
 cases hf:Tryz.prog.funcs[f]? with
 |none=>rw [hf]at h; cases h
 | some fn=>
  rw [hf]at h
  have h:fn.body.isSome=true:=h
  exact⟨fn,_,hf,(Option.some_get h).symm⟩
theorem zas:yY 378:=z6 (by kernel_rfl)
theorem tZ:yY 359:=z6 (by kernel_rfl)
theorem tg:yY 119:=z6 (by kernel_rfl)
theorem tU:yY 101:=z6 (by kernel_rfl)
theorem zaF:yY 157:=z6 (by kernel_rfl)
theorem tf:yY 357:=z6 (by kernel_rfl)
theorem zaC:yY 158:=z6 (by kernel_rfl)
theorem b71:yY 71:=z6 (by kernel_rfl)
theorem zar:yY 255:=z6 (by kernel_rfl)
theorem zah:yY 264:=z6 (by kernel_rfl)
theorem Q2 {t:List (Nat×Nat)} (ht:qc t) {f:FuncId} {g:List KV→KH→Option (KV×KH)} (e:BU t f=some g):yY f∧∀ {args h v h'},g args h=some (v,h')→KCall Tryz.prog f args h v h':=by
 unfold BU at e
 simp only [za]at e
 split at e
 ·rename_i hf; have hf:=Nat.eq_of_beq_eq_true hf; subst hf; injection e with e; subst e; exact⟨zas,tz⟩
 split at e
 ·rename_i hf; have hf:=Nat.eq_of_beq_eq_true hf; subst hf; injection e with e; subst e; exact⟨tZ,tV⟩
 split at e
 ·rename_i hf; have hf:=Nat.eq_of_beq_eq_true hf; subst hf; injection e with e; subst e; exact⟨tg,ta⟩
 split at e
 ·rename_i hf; have hf:=Nat.eq_of_beq_eq_true hf; subst hf; injection e with e; subst e; exact⟨tU,sY⟩
 split at e
 ·rename_i hf; have hf:=Nat.eq_of_beq_eq_true hf; subst hf; injection e with e; subst e; exact⟨zaF,tQ ht⟩
 split at e
 ·rename_i hf; have hf:=Nat.eq_of_beq_eq_true hf; subst hf; injection e with e; subst e; exact⟨tf,zaM ht⟩
 split at e
 ·rename_i hf; have hf:=Nat.eq_of_beq_eq_true hf; subst hf; injection e with e; subst e; exact⟨zaC,tv ht⟩
 split at e
 ·rename_i hf; have hf:=Nat.eq_of_beq_eq_true hf; subst hf; injection e with e; subst e; exact⟨b71,c71⟩
 split at e
 ·rename_i hf; have hf:=Nat.eq_of_beq_eq_true hf; subst hf; injection e with e; subst e; exact⟨zar,tF⟩
 split at e
 ·rename_i hf; have hf:=Nat.eq_of_beq_eq_true hf; subst hf; injection e with e; subst e; exact⟨zah,tt⟩
 cases e
def xH (P:Program) (n:Nat) (c:Code) (S:Sl→List KD→KH→QKE→QR):Prop:=
 ∀l ds h K r,S l ds h K=some r→∃ex l' ds' h',K ex l' ds' h'=some r∧KC P none c ⟨n,l,ds⟩ h ex ⟨n,l',ds'⟩ h'
theorem xH.of {P:Program} {X:QX} (ok:X.Ok P) (m n:Nat) (c:Code):xH P n c (u7 X (qgo X m) true n c):=fun l ds h K r q=>q8 (rd:=none) ok (dX ok m) rfl n c l ds h K r q
noncomputable def ma (S1 S2:Sl→List KD→KH→QKE→QR):Sl→List KD→KH→QKE→QR:=fun l ds h K=>S1 l ds h fun ex l ds h=>Exit.onN ex (S2 l ds h K) (K ex l ds h)
theorem xH.seq {P:Program} {n:Nat} {a b:Code} {S1 S2:Sl→List KD→KH→QKE→QR} (h1:xH P n a S1) (h2:xH P n b S2):xH P n (.seq a b) (ma S1 S2):=fun l ds h K r q=>by
 obtain⟨ex,l1,ds1,hh1,q1,k1⟩:=h1 _ _ _ _ _ q
 rcases Exit.onN_some q1 with⟨rfl,q2⟩|⟨hne,q2⟩
 ·obtain⟨ex,l2,ds2,hh2,q3,k2⟩:=h2 _ _ _ _ _ q2
  exact⟨_,_,_,_,q3,GU k1 k2⟩
 ·exact⟨_,_,_,_,q2,Qk k1 hne⟩
noncomputable def Ji (r:Nat):QKE:=fun ex l ds h=>Exit.rec (motive:=fun _=>QR) none (fun _=>none) (fun _=>none) (List.rec (motive:=fun _=>QR) (some (yj l r,h)) (fun _ _ _=>none) ds) (fun _=>none) none ex
theorem xH.call {P:Program} {E:KE} {S:KF_} (hE:E.Ok P) (hS:S.Ok P) {f:FuncId} {fn:Func} {c:Code} {args:List KV} {h h':KH} {v:KV} {r:Nat} {R:Sl→List KD→KH→QKE→QR}
  (hf:P.funcs[f]? =some fn) (hb:fn.body=some c) (hn:args.length≤fn.ntmps) (hr:fn.results= #[.tmp r]) (st:xH P fn.ntmps c R) (q:R (k9 args 0 .none) [] h (Ji r)=some (v,h')):KCall P f args h v h':=by
 obtain⟨ex,l',ds',h1,q1,k⟩:=st _ _ _ _ _ q
 cases ex<;>first|(cases q1; done)|skip
 cases ds' with
 |cons _ _=>cases q1
 | nil=>
  have q1:some (yj l' r,h1)=some (v,h'):=q1
  simp only [Option.some.injEq,Prod.mk.injEq]at q1
  obtain⟨rfl,rfl⟩:=q1
  exact YX hE hS hf hb hn k (.inr rfl) .nil (by rw [hr]; rfl)
noncomputable def Kk (v:KV):Bool:=KV.rec (motive_1:=fun _=>Bool) (motive_2:=fun _=>Bool) false (fun b=>b) (fun _ _=>false) (fun _ _=>false) (fun _ _=>false) false (fun _ _ _ _ _=>false) false false (fun _ _ _ _ _=>false) false (fun _=>false) (fun _ _=>false) (fun _ _=>false) (fun _=>false) false (fun _ _ _=>false) false false (fun _ _ _ _=>false) v
theorem UI {v:KV} (h:Kk v=true):v= .bool true:=by
 cases v<;>first|(cases h; done)|skip
 rename_i b
 have h:b=true:=h
 rw [h]
noncomputable def yes (r:QR):Bool:=Option.rec (motive:=fun _=>Bool) false (fun p=>Prod.rec (motive:=fun _=>Bool) (fun v _=>Kk v) p) r
theorem JT {r:QR} (h:yes r=true):∃h',r=some (.bool true,h'):=by
 cases r with
 |none=>cases h
 | some p=>
  obtain⟨v,h'⟩:=p
  exact⟨h',by rw [UI h]⟩
noncomputable def hE0:KH:=⟨N64k.empty,1000⟩
theorem Bp {P:Program} {X:QX} (ok:X.Ok P) (h1:P.globals.size≤1000) {n:Nat} {f:FuncId} {args:List KV} (hargs:KV.frees args=true) (q:yes ((qgo X n).call f args hE0 fun v h=>some (v,h))=true) (h:KH):KCall P f args h (.bool true) h:=by
 obtain⟨h',e⟩:=JT q
 refine Vu ok (n:=n) (N0:=1000) h1 (by decide) (h:=h) (h':=h) ?_
 unfold Q5
 rw [za,if_pos hargs]
 show Option.rec (motive:=fun _=>KH→Option (KV×KH)) (fun _=>none) (fun p h=>zb p.1.free (some (p.1,h)) none) ((qgo X n).call f args hE0 fun v h=>some (v,h)) h=_
 rw [e]
 rfl
noncomputable def XL:QX:=⟨⟨ti Tryz.prog,kz Tryz.prog,0,ka Tryz.prog⟩,XS,fun _=>none⟩
theorem lY (P:Program):(⟨ti P,kz P,0,ka P⟩:KE).Ok P:=⟨rfl,rfl,Nat.zero_le _,rfl⟩
theorem rm:XL.Ok Tryz.prog:=⟨lY Tryz.prog,Y0,fun h=>(by cases h),mixed⟩
noncomputable def GE (args:List KV) (h:KH):Option (KV×KH):=(qgo XL 9).call 16 args h fun v h=>some (v,h)
theorem Dx {args:List KV} {h h':KH} {v:KV} (e:GE args h=some (v,h')):KCall Tryz.prog 16 args h v h':=VT rm e
theorem b16:yY 16:=z6 (by kernel_rfl)
theorem b10:yY 10:=z6 (by kernel_rfl)
noncomputable def X0 (t:List (Nat×Nat)):QX:=⟨XE,XS,BU t⟩
theorem GX {t:List (Nat×Nat)} (ht:qc t):(X0 t).Ok Tryz.prog:=⟨WN,Y0,fun h=>Q2 ht h,mixed⟩
noncomputable def XA:QX:=⟨XE,XS,fun f=>zb (Nat.beq f 16) (some GE) none⟩
theorem eP:XA.Ok Tryz.prog:=by
 refine⟨WN,Y0,fun {f g} h=> ?_,mixed⟩
 have h:zb (Nat.beq f 16) (some GE) none=some g:=h
 rw [za]at h
 split at h
 ·rename_i hf; have hf:=Nat.eq_of_beq_eq_true hf; subst hf; injection h with h; subst h; exact⟨b16,Dx⟩
 ·cases h
noncomputable def hO (args:List KV) (h:KH):Option (KV×KH):=List.rec (motive:=fun _=>Option (KV×KH)) (some (.bool true,h)) (fun _ _ _=>none) args
noncomputable def XW (t:List (Nat×Nat)):QX:=⟨XE,XS,fun f=>zb (Nat.beq f 10) (some hO) (BU t f)⟩
theorem fV {t:List (Nat×Nat)} (ht:qc t) (ha:∀h,KCall Tryz.prog 10 [] h (.bool true) h):(XW t).Ok Tryz.prog:=by
 refine⟨WN,Y0,fun {f g} h=> ?_,mixed⟩
 have h:zb (Nat.beq f 10) (some hO) (BU t f)=some g:=h
 rw [za]at h
 split at h
 ·rename_i hf; have hf:=Nat.eq_of_beq_eq_true hf; subst hf; injection h with h; subst h
  refine⟨b10,fun {args h v h'} e=> ?_⟩
  cases args with
  |cons _ _=>cases e
  | nil=>
   have e:some (KV.bool true,h)=some (v,h'):=e
   simp only [Option.some.injEq,Prod.mk.injEq]at e
   obtain⟨rfl,rfl⟩:=e
   exact ha h
 ·exact Q2 ht h
noncomputable def ut (f:FuncId):Code:=Option.rec (motive:=fun _=>Code) .skip (fun fn:Func=>Option.rec (motive:=fun _=>Code) .skip (fun c=>c) fn.body) Tryz.prog.funcs[f]?
noncomputable def GV (c:Code):Code:=match c with| .seq a _=>a|_=> .skip
noncomputable def Jp (c:Code):Code:=match c with| .seq _ b=>b|_=> .skip
def nx (n k:Int):Int:=Int.tmod (IntKind.wrap .i64 (Int.tmod n k+k)) k
theorem gk (n:Int) {k:Int} (h0:0<k) (hk:k<1000000):0≤nx n k∧nx n k<k:=by
 have h1:Int.tmod n k<k:=Int.tmod_lt_of_pos n h0
 have h2: -k<Int.tmod n k:=by
  have:=Int.tmod_lt_of_pos (-n) h0
  rw [Int.neg_tmod]at this
  omega
 unfold nx
 have e:IntKind.wrap .i64 (Int.tmod n k+k)=Int.tmod n k+k:=by
  have e:(Int.tmod n k+k)%2^64=Int.tmod n k+k:=Int.emod_eq_of_lt (by omega) (by omega)
  simp only [IntKind.wrap,IntKind.bits,IntKind.signed,e]
  rw [if_neg (by simp; omega)]
 rw [e,Int.tmod_eq_emod_of_nonneg (by omega)]
 exact⟨Int.emod_nonneg _ (by omega),Int.emod_lt_of_pos _ h0⟩
end Go.K
end
