/- Closed runs: a part. No condition beyond each statement's own. -/
import Derived.Test.YtkabooclnoiclaaGreatDoorK15
set_option linter.all false
section
namespace Go.K
open Go Go.Abs Go.Proofs
theorem zaw {args:List KV} {h h':KH} {v:KV} (e:YG false args h=some (v,h')):KCall Tryz.prog 378 args h v h':=
 Zd (f:=378) (short:=false) (fun a ha hb=>(kn (mx:=0) (Q5 (Nat.le_refl 100000) a ha hb)).mono fun r st q=>q.1) e
theorem zaK {args:List KV} {h h':KH} {v:KV} (e:YG true args h=some (v,h')):KCall Tryz.prog 359 args h v h':=
 Zd (f:=359) (short:=true) (fun a ha hb=>(jA (mx:=0) (XI (Nat.le_refl 100000) a ha hb)).mono fun r st q=>q.1) e
theorem zah {args:List KV} {h h':KH} {v:KV} (e:YG false args h=some (v,h')):KCall Tryz.prog 119 args h v h':=
 Zd (f:=119) (short:=false) (fun a ha hb=>(wB (mx:=0) (Kq (Nat.le_refl 100000) a (by omega) hb)).mono fun r st q=>q.1) e
theorem t8 {args:List KV} {h h':KH} {v:KV} (e:YG true args h=some (v,h')):KCall Tryz.prog 101 args h v h':=
 Zd (f:=101) (short:=true) (fun a ha hb=>(xd (mx:=0) (d9 (Nat.le_refl 100000) a (by omega) hb)).mono fun r st q=>q.1) e
end Go.K
end
section
namespace Go.Abs
open Go Go.K
theorem Df (x:Nat):b2s ([IntKind.wrap .u8 (Int.fdiv (x:Int) 16777216),IntKind.wrap .u8 (Int.fdiv (x:Int) 65536),IntKind.wrap .u8 (Int.fdiv (x:Int) 256),IntKind.wrap .u8 (x:Int)]:List Int)=be4 x:=by
 rw [nU,Yv,K7]
theorem XN (x:Nat):b2s ([IntKind.wrap .u8 (x:Int)]:List Int)= [UInt8.ofNat x]:=by
 rw [Yd]
 have:([((x%256:Nat):Int)]:List Int)=zl [x%256]:=rfl
 rw [this,Yv]
 have h:UInt8.ofNat (x%256)=UInt8.ofNat x:=UInt8.toNat_inj.1 (by simp [UInt8.toNat_ofNat'])
 simp only [u8s,List.map_cons,List.map_nil,h]
theorem Uo {n:Nat} (hn:100000≤n) (id:List UInt8) (hid:id.length=16) (leaf c:Nat):∀(j a k:Nat) (v:List UInt8),v.length=16→a+j<1000→j<k →
  zO n ((a+j:Nat):Int) (leaf:Int) (c:Int) id k v (a:Int)=some (ut id leaf c a j v)
 | 0,a,k+1,v,hv,ha,hk=>by
  rw [zO,if_neg (by simp)]; rfl
 | j+1,a,k+1,v,hv,ha,hk=>by
  rw [zO,if_pos (by simp; omega)]
  rw [yA,zU,zU,Df,XN,XN,Option.bind_some,Option.bind_some,Option.bind_some]
  rw [d9 hn _ (by simp) (by simp [be4,hid,hv]),Option.bind_some,vQ a (by omega)]
  have e:(sha ([[67],id,be4 leaf,[UInt8.ofNat c],[UInt8.ofNat a],v]:List (List UInt8)).flatten).take 16=Z6 id leaf c a v:=by
   unfold Z6
   simp only [List.flatten_cons,List.flatten_nil,List.append_nil,List.cons_append,List.nil_append]
  rw [e,show a+(j+1)=(a+1)+j by omega]
  exact Uo hn id hid leaf c j (a+1) k _ rfl (by omega) (by omega)
theorem Um {n:Nat} (hn:100000≤n) (id:List UInt8) (hid:id.length=16) (leaf c:Nat):∀(j a k:Nat) (v:List UInt8),v.length=16→a+j<1000→j<k →
  xa n ((a+j:Nat):Int) (leaf:Int) (c:Int) id k v (a:Int)=some (ut id leaf c a j v)
 | 0,a,k+1,v,hv,ha,hk=>by
  rw [xa,if_neg (by simp)]; rfl
 | j+1,a,k+1,v,hv,ha,hk=>by
  rw [xa,if_pos (by simp; omega)]
  rw [ky,v7,v7,Df,XN,XN,Option.bind_some,Option.bind_some,Option.bind_some]
  rw [XI hn _ (by simp) (by simp [be4,hid,hv]),Option.bind_some,vQ a (by omega)]
  have e:(sha ([[67],id,be4 leaf,[UInt8.ofNat c],[UInt8.ofNat a],v]:List (List UInt8)).flatten).take 16=Z6 id leaf c a v:=by
   unfold Z6
   simp only [List.flatten_cons,List.flatten_nil,List.append_nil,List.cons_append,List.nil_append]
  rw [e,show a+(j+1)=(a+1)+j by omega]
  exact Um hn id hid leaf c j (a+1) k _ rfl (by omega) (by omega)
theorem JI {n:Nat} (hn:100000≤n) (seed:List UInt8) (hs:seed.length=32) (leaf c:Nat):yR n seed (leaf:Int) (c:Int)=some (pQ seed leaf c):=by
 unfold yR
 rw [yA,zU,Df,XN,Option.bind_some,Option.bind_some]
 rw [d9 hn _ (by simp) (by simp [be4,hs]),Option.bind_some]
 have e:(sha ([[83],seed,be4 leaf,[UInt8.ofNat c]]:List (List UInt8)).flatten).take 16=pQ seed leaf c:=by
  unfold pQ
  simp only [List.flatten_cons,List.flatten_nil,List.append_nil,List.cons_append,List.nil_append]
 rw [e]
theorem B4 (id:List UInt8) (hid:id.length=16) (leaf c a j:Nat) (v:List UInt8) (hv:v.length=16) (ha:a+j<1000):xc 100000 id (leaf:Int) (c:Int) (a:Int) ((a+j:Nat):Int) v=some (ut id leaf c a j v):=by
 unfold xc
 rw [Uo (Nat.le_refl _) id hid leaf c j a 100000 v hv ha (by omega),Option.bind_some]
theorem BP (id:List UInt8) (hid:id.length=16) (leaf c a j:Nat) (v:List UInt8) (hv:v.length=16) (ha:a+j<1000):uX 100000 id (leaf:Int) (c:Int) (a:Int) ((a+j:Nat):Int) v=some (ut id leaf c a j v):=by
 unfold uX
 rw [Um (Nat.le_refl _) id hid leaf c j a 100000 v hv ha (by omega),Option.bind_some]
end Go.Abs
end
section
namespace Go.K
open Go Go.Abs Go.Proofs
theorem zaE {t:List (Nat×Nat)} (ht:qu t) {args:List KV} {h h':KH} {v:KV} (e:XQ t args h=some (v,h')):KCall Tryz.prog 157 args h v h':=
 Ud (f:=157) ht (fun id leaf c a j v h1 h2 h3=>(u3 (mx:=0) (B4 id h1 leaf c a j v h2 h3)).mono fun r st q=>q.1) e
theorem za9 {t:List (Nat×Nat)} (ht:qu t) {args:List KV} {h h':KH} {v:KV} (e:XQ t args h=some (v,h')):KCall Tryz.prog 357 args h v h':=
 Ud (f:=357) ht (fun id leaf c a j v h1 h2 h3=>(Z2 (mx:=0) (BP id h1 leaf c a j v h2 h3)).mono fun r st q=>q.1) e
theorem zau {t:List (Nat×Nat)} (ht:qu t) {args:List KV} {h h':KH} {v:KV} (e:lJ t args h=some (v,h')):KCall Tryz.prog 158 args h v h':=
 lR (f:=158) ht (fun seed leaf c h1=>(ug (mx:=0) (JI (Nat.le_refl 100000) seed h1 leaf c)).mono fun r st q=>q.1) e
theorem KCall.pure {P:Program} {f:FuncId} {args:List KV} {h:KH} {r:KV} (hc:∀(G:Gh) (w:World) (cargs:Array Value),KRs G args cargs→∃c,KR G r c∧Calls P f cargs w fun e w'=>e= .returned c∧w'=w):KCall P f args h r h:=by
 intro B G w cargs n hg kr hargs
 obtain⟨c,h1,h2⟩:=hc G w cargs hargs
 refine callsIn_wide.2 (h2.mono ?_)
 rintro e w' ⟨rfl,rfl⟩
 exact⟨c,G,rfl, .refl _,h1,kr⟩
theorem tq {G:Gh} {a b:KV} {c:Array Value} (h:KRs G [a,b] c):∃x y,c= #[x,y]∧KR G a x∧KR G b y:=by
 obtain⟨l⟩:=c
 obtain⟨h1,h2⟩:=h
 match l,h1,h2 with
 | [x,y],_,h2=>exact⟨x,y,rfl,h2 0 a x rfl rfl,h2 1 b y rfl rfl⟩
noncomputable def fV (n:Nat):Nat→Nat→Nat→(Nat→QR)→QR→QR:=Nat.rec (motive:=fun _=>Nat→Nat→Nat→(Nat→QR)→QR→QR) (fun _ _ _ _ F=>F) (fun _ ih s c i K F=>zb (Nat.beq (Nat.land s 255) c) (K i) (nfc (Nat.shiftRight s 8) fun s=>nfc (Nat.succ i) fun i=>ih s c i K F)) n
noncomputable def fZ (n:Nat):Nat→Nat→Nat→(Nat→QR)→QR:=Nat.rec (motive:=fun _=>Nat→Nat→Nat→(Nat→QR)→QR) (fun _ _ i K=>K i) (fun _ ih s c i K=>nfc (zb (Nat.beq (Nat.land s 255) c) (Nat.succ i) i) fun i=>nfc (Nat.shiftRight s 8) fun s=>ih s c i K) n
theorem mn (b:UInt8) (l:List UInt8):Nat.land (zc (b::l)) 255=b.toNat:=by
 show zc (b::l) &&& 255=_
 rw [show(255:Nat)=2^8-1 from rfl,Nat.and_two_pow_sub_one_eq_mod]
 have:=b.toNat_lt
 show(b.toNat+256*zc l)%256=_
 omega
theorem mT (b:UInt8) (l:List UInt8):Nat.shiftRight (zc (b::l)) 8=zc l:=by
 show zc (b::l) >>> 8=_
 rw [Nat.shiftRight_eq_div_pow]
 have:=b.toNat_lt
 show(b.toNat+256*zc l)/256=_
 omega
theorem lA (a b:UInt8):(Nat.beq a.toNat b.toNat=true)↔a=b:=by
 rw [Nat.beq_eq]; exact⟨fun h=>UInt8.toNat_inj.1 h,fun h=>by rw [h]⟩
theorem QL (c:UInt8) (K:Nat→QR) (F:QR):∀(l:List UInt8) (i:Nat),fV l.length (zc l) c.toNat i K F=match l.findIdx? (·==c)with
  |some j=>K (i+j)
  |none=>F
 | [],i=>rfl
 | b::l,i=>by
  have e:fV (b::l).length (zc (b::l)) c.toNat i K F=zb (Nat.beq (Nat.land (zc (b::l)) 255) c.toNat) (K i) (nfc (Nat.shiftRight (zc (b::l)) 8) fun s=>nfc (Nat.succ i) fun i=>fV l.length s c.toNat i K F):=rfl
  rw [e,mn,mT,za,zi,zi,QL c K F l (Nat.succ i),List.findIdx?_cons]
  by_cases h:b=c
  ·rw [if_pos ((lA _ _).2 h),if_pos (by simpa using h)]; rfl
  ·rw [if_neg (fun x=>h ((lA _ _).1 x)),if_neg (by simpa using h)]
   cases l.findIdx? (·==c)with
   |none=>rfl
   |some j=>show K (Nat.succ i+j)=K (i+(j+1)); congr 1; omega
theorem ge (c:UInt8):∀l:List UInt8,Lib.indexByte l c=match l.findIdx? (·==c)with
  |some j=>(j:Int)
  |none=> -1
 | []=>rfl
 | b::l=>by
  rw [Lib.indexByte,ge c l,List.findIdx?_cons]
  by_cases h:b=c
  ·simp [h]
  ·simp only [h,beq_iff_eq,if_false]
   cases hj:l.findIdx? (·==c)with
   |none=>simp [hj]
   |some j=>simp [hj]; try omega
theorem Q3 (c:UInt8) (K:Nat→QR):∀(l:List UInt8) (i:Nat),fZ l.length (zc l) c.toNat i K=K (i+l.count c)
 | [],i=>rfl
 | b::l,i=>by
  have e:fZ (b::l).length (zc (b::l)) c.toNat i K=nfc (zb (Nat.beq (Nat.land (zc (b::l)) 255) c.toNat) (Nat.succ i) i) fun i=>nfc (Nat.shiftRight (zc (b::l)) 8) fun s=>fZ l.length s c.toNat i K:=rfl
  rw [e,mn,mT,za,zi,zi,Q3 c K l,List.count_cons]
  by_cases h:b=c
  ·rw [if_pos ((lA _ _).2 h),if_pos (by simpa using h)]; congr 1; omega
  ·rw [if_neg (fun x=>h ((lA _ _).1 x)),if_neg (by simpa using h)]; congr 1
noncomputable def ez (args:List KV) (h:KH):Option (KV×KH):=match args with
 | [.str n s, .int .u8 c]=>zb (Nat.blt s (Nat.pow 256 n)) (X5 c (fun c=>zb (Nat.blt c 256) (fV n s c 0 (fun i=>some (.int .i64 (.ofNat i),h)) (some (.int .i64 (-1),h))) none) none) none
 |_=>none
theorem zat {args:List KV} {h h':KH} {v:KV} (e:ez args h=some (v,h')):KCall Tryz.prog 264 args h v h':=by
 unfold ez at e
 split at e
 ·rename_i n s c
  rw [za]at e
  split at e
  ·rename_i hs
   obtain⟨sl,hsl,hs2⟩:=vH n s (iD hs)
   subst hsl hs2
   obtain⟨c,e1,e2⟩:=wz e
   subst e1; clear e
   rw [za]at e2
   split at e2
   ·rename_i hc
    have hc:c<256:=iD hc
    have ec:c=(UInt8.ofNat c).toNat:=by rw [UInt8.toNat_ofNat']; omega
    have key:KCall Tryz.prog 264 [.str sl.length (zc sl), .int .u8 (c:Int)] h (.int .i64 (Lib.indexByte sl (UInt8.ofNat c))) h:=KCall.pure fun G w cargs hk=>by
     obtain⟨x,y,rfl,h1,h2⟩:=tq hk
     obtain⟨t,rfl,e1,e3⟩:=Zs h1
     have:t.data.toList=sl:=ve (by rw [Array.length_toList]; exact e1) e3
     subst this
     cases h2
     refine⟨_, .int _ _, ?_⟩
     have:=Tryz.stringslite_IndexByte t (c:Int) w
     rwa [Int.toNat_natCast]at this
    rw [ec,QL]at e2
    rw [ge]at key
    cases hj:sl.findIdx? (·==UInt8.ofNat c)with
    | none=>
     rw [hj]at e2 key
     simp only [Option.some.injEq,Prod.mk.injEq]at e2
     obtain⟨rfl,rfl⟩:=e2
     exact key
    | some j=>
     rw [hj]at e2 key
     simp only [Nat.zero_add,Option.some.injEq,Prod.mk.injEq]at e2
     obtain⟨rfl,rfl⟩:=e2
     exact key
   ·cases e2
  ·cases e
 ·cases e
noncomputable def nP (args:List KV) (h:KH):Option (KV×KH):=match args with
 | [.str n s, .str m c]=>zb (Nat.beq m 1) (zb (Nat.blt s (Nat.pow 256 n)) (zb (Nat.blt c 256) (fZ n s c 0 fun i=>some (.int .i64 (.ofNat i),h)) none) none) none
 |_=>none
theorem zay {args:List KV} {h h':KH} {v:KV} (e:nP args h=some (v,h')):KCall Tryz.prog 255 args h v h':=by
 unfold nP at e
 split at e
 ·rename_i n s m c
  simp only [za]at e
  split at e
  ·rename_i hm
   have hm:=iE hm
   subst hm
   split at e
   ·rename_i hs
    obtain⟨sl,hsl,hs2⟩:=vH n s (iD hs)
    subst hsl hs2
    split at e
    ·rename_i hc
     have hc:c<256:=iD hc
     have ec:c=(UInt8.ofNat c).toNat:=by rw [UInt8.toNat_ofNat']; omega
     have key:KCall Tryz.prog 255 [.str sl.length (zc sl), .str 1 c] h (.int .i64 (Lib.countByte sl (UInt8.ofNat c):Nat)) h:=KCall.pure fun G w cargs hk=>by
      obtain⟨x,y,rfl,h1,h2⟩:=tq hk
      obtain⟨t,rfl,e1,e3⟩:=Zs h1
      have:t.data.toList=sl:=ve (by rw [Array.length_toList]; exact e1) e3
      subst this
      obtain⟨u,rfl,e4,e5⟩:=Zs h2
      have:u.data.toList= [UInt8.ofNat c]:=ve (by rw [Array.length_toList]; exact e4) (by rw [e5]; show c=(UInt8.ofNat c).toNat+256*0; omega)
      have hu:u=⟨#[UInt8.ofNat c]⟩:=by
       obtain⟨⟨ul⟩⟩:=u
       simp only at this
       subst this; rfl
      subst hu
      exact⟨_, .int _ _,Tryz.strings_Count_one t (UInt8.ofNat c) w⟩
     rw [ec,Q3,Nat.zero_add]at e
     simp only [Option.some.injEq,Prod.mk.injEq]at e
     obtain⟨rfl,rfl⟩:=e
     exact key
    ·cases e
   ·cases e
  ·cases e
 ·cases e
noncomputable def oL (k:Nat):Nat→(Nat→Nat→QR)→QR:=Nat.rec (motive:=fun _=>Nat→(Nat→Nat→QR)→QR) (fun _ _=>none) (fun _ ih v K=>zb (Nat.blt v 10) (nfc (Nat.add 48 v) fun d=>K 1 d) (nfc (Nat.div v 10) fun q=>ih q fun n s=>nfc (Nat.add s (Nat.mul (Nat.pow 256 n) (Nat.add 48 (Nat.mod v 10)))) fun s=>nfc (Nat.succ n) fun n=>K n s)) k
noncomputable def oz (args:List KV) (h:KH):Option (KV×KH):=match args with
 | [.int .i64 v]=>X5 v (fun v=>zb (Nat.blt v 1000000000000) (oL 20 v fun n s=>some (.str n s,h)) none) none
 |_=>none
theorem K8 {K:Nat→Nat→QR} {r:KV×KH}:∀ {k v:Nat},k<1000→v<1000000000000→oL k v K=some r→∃l:List UInt8,ya 0 k (v:Int)=some l∧l.length≤k∧K l.length (zc l)=some r
 |0,v,hkk,hv,h=>by cases h
 | k + 1,v,hkk,hv,h=>by
  have h:zb (Nat.blt v 10) (nfc (Nat.add 48 v) fun d=>K 1 d) (nfc (Nat.div v 10) fun q=>oL k q fun n s=>nfc (Nat.add s (Nat.mul (Nat.pow 256 n) (Nat.add 48 (Nat.mod v 10)))) fun s=>nfc (Nat.succ n) fun n=>K n s)=some r:=h
  have w64:∀x:Nat,x<1000000000000→IntKind.wrap .i64 (x:Int)=(x:Int):=fun x hx=>by
   have e:(x:Int)%2^64=(x:Int):=Int.emod_eq_of_lt (by omega) (by omega)
   simp only [IntKind.wrap,IntKind.bits,IntKind.signed,e]
   rw [if_neg (by simp; omega)]
  have one:∀x:Nat,x<10→b2s ([IntKind.wrap .u8 (IntKind.wrap .i64 ((48:Int)+(x:Int)))]:List Int)= [UInt8.ofNat (48+x)]:=fun x hx=>by
   rw [show(48:Int)+(x:Int)=((48+x:Nat):Int)by omega,w64 _ (by omega)]
   exact XN _
  rw [za]at h
  rw [ya]
  split at h
  ·rename_i hb
   have hb:v<10:=iD hb
   rw [zi]at h
   refine⟨[UInt8.ofNat (48+v)], ?_,by simp, ?_⟩
   ·rw [if_pos (by rw [decide_eq_true_eq]; omega),one v hb]
   ·have:zc [UInt8.ofNat (48+v)]=Nat.add 48 v:=by
     show(UInt8.ofNat (48+v)).toNat+256*0=48+v
     rw [UInt8.toNat_ofNat']; omega
    rw [this]; exact h
  ·rename_i hb
   have hb:¬v<10:=fun x=>hb (by rw [Nat.blt_eq]; exact x)
   rw [zi]at h
   obtain⟨l,h1,h2,h3⟩:=K8 (by omega) (by show v/10<_; omega) h
   rw [zi,zi]at h3
   have e1:Int.tdiv (v:Int) 10=((v/10:Nat):Int):=by rw [show(10:Int)=((10:Nat):Int)from rfl]; exact(Int.ofNat_tdiv v 10).symm
   have e2:Int.tmod (v:Int) 10=((v%10:Nat):Int):=by rw [show(10:Int)=((10:Nat):Int)from rfl]; exact(Int.ofNat_tmod v 10).symm
   have h1:ya 0 k ((v/10:Nat):Int)=some l:=h1
   refine⟨l ++ [UInt8.ofNat (48+v%10)], ?_,by simp; omega, ?_⟩
   ·rw [if_neg (by rw [decide_eq_true_eq]; omega),e1,e2,w64 _ (by omega),h1,Option.bind_some,one _ (by omega)]
    unfold YZ
    rw [if_pos (by simp; omega)]
    rfl
   ·rw [yf,List.length_append]
    have:zc [UInt8.ofNat (48+v%10)]=Nat.add 48 (Nat.mod v 10):=by
     show(UInt8.ofNat (48+v%10)).toNat+256*0=48+v%10
     rw [UInt8.toNat_ofNat']; omega
    rw [this]; exact h3
theorem c71 {args:List KV} {h h':KH} {v:KV} (e:oz args h=some (v,h')):KCall Tryz.prog 71 args h v h':=by
 unfold oz at e
 split at e
 ·rename_i v
  obtain⟨v,e1,e2⟩:=wz e
  subst e1; clear e
  rw [za]at e2
  split at e2
  ·rename_i hv
   obtain⟨l,h1,h2,h3⟩:=K8 (by decide) (iD hv) e2
   simp only [Option.some.injEq,Prod.mk.injEq]at h3
   obtain⟨rfl,rfl⟩:=h3
   exact KCall.ofA (args:= [.int .i64 (v:Int)]) (h:=h) (f:=71) ((jD (mx:=0) 20 h1).mono fun r st q=>q.1) rfl (fun i x y hx hy=>by
    match i with
    |0=>simp only [List.getElem?_cons_zero,Option.some.injEq]at hx hy; subst hx hy; exact .int _ _
    |i+1=>simp at hx)
  ·cases e2
 ·cases e
noncomputable def oX (t:TypeId) (name:String):Option FuncId:=
 zb (Nat.beq t 111) (zb (name == "certpath/validate.enter") (some 513) (zb (name == "certpath/validate.empty") (some 512) (zb (name == "certpath/validate.apply") (some 511) (zb (name == "certpath/validate.restrict") (some 515) (zb (name == "certpath/validate.names") (some 514) none)))))
 (zb (Nat.beq t 105) (zb (name == "certpath/validate.enter") (some 414) (zb (name == "certpath/validate.empty") (some 413) (zb (name == "certpath/validate.apply") (some 412) (zb (name == "certpath/validate.restrict") (some 416) (zb (name == "certpath/validate.names") (some 415) none))))) none)
theorem zba (v : Value) (w : World) : (method (Tryz.prog.types.size + Made.depth) 111 v "certpath/validate.enter").run Tryz.prog w = .ok (513, v) w := by kernel_rfl
theorem tY (v : Value) (w : World) : (method (Tryz.prog.types.size + Made.depth) 105 v "certpath/validate.enter").run Tryz.prog w = .ok (414, v) w := by kernel_rfl
theorem zaH (v : Value) (w : World) : (method (Tryz.prog.types.size + Made.depth) 111 v "certpath/validate.empty").run Tryz.prog w = .ok (512, v) w := by kernel_rfl
theorem zaj (v : Value) (w : World) : (method (Tryz.prog.types.size + Made.depth) 105 v "certpath/validate.empty").run Tryz.prog w = .ok (413, v) w := by kernel_rfl
theorem zac (v : Value) (w : World) : (method (Tryz.prog.types.size + Made.depth) 111 v "certpath/validate.apply").run Tryz.prog w = .ok (511, v) w := by kernel_rfl
theorem zbb (v : Value) (w : World) : (method (Tryz.prog.types.size + Made.depth) 105 v "certpath/validate.apply").run Tryz.prog w = .ok (412, v) w := by kernel_rfl
theorem zao (v : Value) (w : World) : (method (Tryz.prog.types.size + Made.depth) 111 v "certpath/validate.restrict").run Tryz.prog w = .ok (515, v) w := by kernel_rfl
theorem zaO (v : Value) (w : World) : (method (Tryz.prog.types.size + Made.depth) 105 v "certpath/validate.restrict").run Tryz.prog w = .ok (416, v) w := by kernel_rfl
theorem zaC (v : Value) (w : World) : (method (Tryz.prog.types.size + Made.depth) 111 v "certpath/validate.names").run Tryz.prog w = .ok (514, v) w := by kernel_rfl
theorem za4 (v : Value) (w : World) : (method (Tryz.prog.types.size + Made.depth) 105 v "certpath/validate.names").run Tryz.prog w = .ok (415, v) w := by kernel_rfl
theorem lN {t:TypeId} {name:String} {f:FuncId} (e:oX t name=some f) (v:Value) (w:World):(method (Tryz.prog.types.size+Made.depth) t v name).run Tryz.prog w= .ok (f,v) w:=by
 unfold oX at e
 simp only [za]at e
 split at e
 ·rename_i ht
  have ht:=iE ht
  subst ht
  split at e
  ·rename_i hn; rw [eq_of_beq hn,←Option.some.inj e]; exact zba v w
  split at e
  ·rename_i hn; rw [eq_of_beq hn,←Option.some.inj e]; exact zaH v w
  split at e
  ·rename_i hn; rw [eq_of_beq hn,←Option.some.inj e]; exact zac v w
  split at e
  ·rename_i hn; rw [eq_of_beq hn,←Option.some.inj e]; exact zao v w
  split at e
  ·rename_i hn; rw [eq_of_beq hn,←Option.some.inj e]; exact zaC v w
  cases e
 ·split at e
  ·rename_i ht
   have ht:=iE ht
   subst ht
   split at e
   ·rename_i hn; rw [eq_of_beq hn,←Option.some.inj e]; exact tY v w
   split at e
   ·rename_i hn; rw [eq_of_beq hn,←Option.some.inj e]; exact zaj v w
   split at e
   ·rename_i hn; rw [eq_of_beq hn,←Option.some.inj e]; exact zbb v w
   split at e
   ·rename_i hn; rw [eq_of_beq hn,←Option.some.inj e]; exact zaO v w
   split at e
   ·rename_i hn; rw [eq_of_beq hn,←Option.some.inj e]; exact za4 v w
   cases e
  ·cases e
theorem ef : (Tryz.prog.funcs.toList.all fun fn => !(fn.name == "runtime.NumGoroutine")) = true := by kernel_rfl
noncomputable abbrev XE:KE:=⟨ti Tryz.prog,kz Tryz.prog,3,ka Tryz.prog⟩
noncomputable abbrev XS:KF_:=⟨fun f=>Tryz.prog.funcs[f]?,oX⟩
theorem cZ:3≤Tryz.prog.globals.size:=by
 have h:Nat.ble 3 Tryz.prog.globals.size=true:=by kernel_rfl
 exact iD h
theorem tH {P:Program} (h:3≤P.globals.size):(⟨ti P,kz P,3,ka P⟩:KE).Ok P:=⟨rfl,rfl,h,rfl⟩
theorem QH:XE.Ok Tryz.prog:=tH cZ
theorem Uf:XS.Ok Tryz.prog:=⟨fun {f fn} h=>by
 have h:Tryz.prog.funcs[f]? =some fn:=h
 refine⟨h, ?_⟩
 have hm:fn∈Tryz.prog.funcs.toList:=by
  have:=Array.mem_of_getElem? h
  simpa using this
 simpa using List.all_eq_true.1 ef fn hm,fun h v w=>lN h v w⟩
theorem mixed:Tryz.prog.follows .mixedOrders=true:=by kernel_rfl
noncomputable def GV (t:List (Nat×Nat)) (f:FuncId):Option (List KV→KH→Option (KV×KH)):=
 zb (Nat.beq f 378) (some (YG false)) (zb (Nat.beq f 359) (some (YG true)) (zb (Nat.beq f 119) (some (YG false)) (zb (Nat.beq f 101) (some (YG true))
 (zb (Nat.beq f 157) (some (XQ t)) (zb (Nat.beq f 357) (some (XQ t)) (zb (Nat.beq f 158) (some (lJ t)) (zb (Nat.beq f 71) (some oz) (zb (Nat.beq f 255) (some nP) (zb (Nat.beq f 264) (some ez) none)))))))))
def xI (f:FuncId):Prop:=∃fn c,Tryz.prog.funcs[f]? =some fn∧fn.body=some c
theorem yz {f:FuncId} (h:(Option.any (fun fn:Func=>fn.body.isSome) Tryz.prog.funcs[f]?)=true):xI f:=by
 cases hf:Tryz.prog.funcs[f]? with
 |none=>rw [hf]at h; cases h
 | some fn=>
  rw [hf]at h
  have h:fn.body.isSome=true:=h
  exact⟨fn,_,hf,(Option.some_get h).symm⟩
theorem zaX:xI 378:=yz (by kernel_rfl)
theorem zaL:xI 359:=yz (by kernel_rfl)
theorem zam:xI 119:=yz (by kernel_rfl)
theorem zaJ:xI 101:=yz (by kernel_rfl)
theorem za3:xI 157:=yz (by kernel_rfl)
theorem zak:xI 357:=yz (by kernel_rfl)
theorem za1:xI 158:=yz (by kernel_rfl)
theorem b71:xI 71:=yz (by kernel_rfl)
theorem zaW:xI 255:=yz (by kernel_rfl)
theorem zaP:xI 264:=yz (by kernel_rfl)
theorem KX {t:List (Nat×Nat)} (ht:qu t) {f:FuncId} {g:List KV→KH→Option (KV×KH)} (e:GV t f=some g):xI f∧∀ {args h v h'},g args h=some (v,h')→KCall Tryz.prog f args h v h':=by
 unfold GV at e
 simp only [za]at e
 split at e
 ·rename_i hf; have hf:=iE hf; subst hf; injection e with e; subst e; exact⟨zaX,zaw⟩
 split at e
 ·rename_i hf; have hf:=iE hf; subst hf; injection e with e; subst e; exact⟨zaL,zaK⟩
 split at e
 ·rename_i hf; have hf:=iE hf; subst hf; injection e with e; subst e; exact⟨zam,zah⟩
 split at e
 ·rename_i hf; have hf:=iE hf; subst hf; injection e with e; subst e; exact⟨zaJ,t8⟩
 split at e
 ·rename_i hf; have hf:=iE hf; subst hf; injection e with e; subst e; exact⟨za3,zaE ht⟩
 split at e
 ·rename_i hf; have hf:=iE hf; subst hf; injection e with e; subst e; exact⟨zak,za9 ht⟩
 split at e
 ·rename_i hf; have hf:=iE hf; subst hf; injection e with e; subst e; exact⟨za1,zau ht⟩
 split at e
 ·rename_i hf; have hf:=iE hf; subst hf; injection e with e; subst e; exact⟨b71,c71⟩
 split at e
 ·rename_i hf; have hf:=iE hf; subst hf; injection e with e; subst e; exact⟨zaW,zay⟩
 split at e
 ·rename_i hf; have hf:=iE hf; subst hf; injection e with e; subst e; exact⟨zaP,zat⟩
 cases e
def wy (P:Program) (n:Nat) (c:Code) (S:Sl→List KD→KH→QKE→QR):Prop:=
 ∀l ds h K r,S l ds h K=some r→∃ex l' ds' h',K ex l' ds' h'=some r∧KC P none c ⟨n,l,ds⟩ h ex ⟨n,l',ds'⟩ h'
theorem wy.of {P:Program} {X:QX} (ok:X.Ok P) (m n:Nat) (c:Code):wy P n c (qd X (qgo X m) true n c):=fun l ds h K r q=>kp (rd:=none) ok (pk ok m) rfl n c l ds h K r q
noncomputable def n8 (S1 S2:Sl→List KD→KH→QKE→QR):Sl→List KD→KH→QKE→QR:=fun l ds h K=>S1 l ds h fun ex l ds h=>Exit.onN ex (S2 l ds h K) (K ex l ds h)
theorem wy.seq {P:Program} {n:Nat} {a b:Code} {S1 S2:Sl→List KD→KH→QKE→QR} (h1:wy P n a S1) (h2:wy P n b S2):wy P n (.seq a b) (n8 S1 S2):=fun l ds h K r q=>by
 obtain⟨ex,l1,ds1,hh1,q1,k1⟩:=h1 _ _ _ _ _ q
 rcases Exit.onN_some q1 with⟨rfl,q2⟩|⟨hne,q2⟩
 ·obtain⟨ex,l2,ds2,hh2,q3,k2⟩:=h2 _ _ _ _ _ q2
  exact⟨_,_,_,_,q3,D5 k1 k2⟩
 ·exact⟨_,_,_,_,q2,Kd k1 hne⟩
noncomputable def pR (r:Nat):QKE:=fun ex l ds h=>Exit.rec (motive:=fun _=>QR) none (fun _=>none) (fun _=>none) (List.rec (motive:=fun _=>QR) (some (zN l r,h)) (fun _ _ _=>none) ds) (fun _=>none) none ex
theorem wy.call {P:Program} {E:KE} {S:KF_} (hE:E.Ok P) (hS:S.Ok P) {f:FuncId} {fn:Func} {c:Code} {args:List KV} {h h':KH} {v:KV} {r:Nat} {R:Sl→List KD→KH→QKE→QR}
  (hf:P.funcs[f]? =some fn) (hb:fn.body=some c) (hn:args.length≤fn.ntmps) (hr:fn.results= #[.tmp r]) (st:wy P fn.ntmps c R) (q:R (gU args 0 .none) [] h (pR r)=some (v,h')):KCall P f args h v h':=by
 obtain⟨ex,l',ds',h1,q1,k⟩:=st _ _ _ _ _ q
 cases ex<;>first|(cases q1; done)|skip
 cases ds' with
 |cons _ _=>cases q1
 | nil=>
  have q1:some (zN l' r,h1)=some (v,h'):=q1
  simp only [Option.some.injEq,Prod.mk.injEq]at q1
  obtain⟨rfl,rfl⟩:=q1
  exact Xm hE hS hf hb hn k (.inr rfl) .nil (by rw [hr]; rfl)
noncomputable def Bg (v:KV):Bool:=KV.rec (motive_1:=fun _=>Bool) (motive_2:=fun _=>Bool) false (fun b=>b) (fun _ _=>false) (fun _ _=>false) (fun _ _=>false) false (fun _ _ _ _ _=>false) false false (fun _ _ _ _ _=>false) false (fun _=>false) (fun _ _=>false) (fun _ _=>false) (fun _=>false) false (fun _ _ _=>false) false false (fun _ _ _ _=>false) v
theorem Jk {v:KV} (h:Bg v=true):v= .bool true:=by
 cases v<;>first|(cases h; done)|skip
 rename_i b
 have h:b=true:=h
 rw [h]
noncomputable def yes (r:QR):Bool:=Option.rec (motive:=fun _=>Bool) false (fun p=>Prod.rec (motive:=fun _=>Bool) (fun v _=>Bg v) p) r
theorem eH {r:QR} (h:yes r=true):∃h',r=some (.bool true,h'):=by
 cases r with
 |none=>cases h
 | some p=>
  obtain⟨v,h'⟩:=p
  exact⟨h',by rw [Jk h]⟩
noncomputable def hE0:KH:=⟨N64k.empty,1000⟩
theorem Gk {P:Program} {X:QX} (ok:X.Ok P) (h1:P.globals.size≤1000) {n:Nat} {f:FuncId} {args:List KV} (hargs:KV.frees args=true) (q:yes ((qgo X n).call f args hE0 fun v h=>some (v,h))=true) (h:KH):KCall P f args h (.bool true) h:=by
 obtain⟨h',e⟩:=eH q
 refine V3 ok (n:=n) (N0:=1000) h1 (by decide) (h:=h) (h':=h) ?_
 unfold K0
 rw [za,if_pos hargs]
 show Option.rec (motive:=fun _=>KH→Option (KV×KH)) (fun _=>none) (fun p h=>zb p.1.free (some (p.1,h)) none) ((qgo X n).call f args hE0 fun v h=>some (v,h)) h=_
 rw [e]
 rfl
noncomputable def XL:QX:=⟨⟨ti Tryz.prog,kz Tryz.prog,0,ka Tryz.prog⟩,XS,fun _=>none⟩
theorem n5 (P:Program):(⟨ti P,kz P,0,ka P⟩:KE).Ok P:=⟨rfl,rfl,Nat.zero_le _,rfl⟩
theorem mN:XL.Ok Tryz.prog:=⟨n5 Tryz.prog,Uf,fun h=>(by cases h),mixed⟩
noncomputable def DN (args:List KV) (h:KH):Option (KV×KH):=(qgo XL 9).call 16 args h fun v h=>some (v,h)
theorem PO {args:List KV} {h h':KH} {v:KV} (e:DN args h=some (v,h')):KCall Tryz.prog 16 args h v h':=Ur mN e
theorem b16:xI 16:=yz (by kernel_rfl)
theorem b10:xI 10:=yz (by kernel_rfl)
noncomputable def X0 (t:List (Nat×Nat)):QX:=⟨XE,XS,GV t⟩
theorem Pb {t:List (Nat×Nat)} (ht:qu t):(X0 t).Ok Tryz.prog:=⟨QH,Uf,fun h=>KX ht h,mixed⟩
noncomputable def XA:QX:=⟨XE,XS,fun f=>zb (Nat.beq f 16) (some DN) none⟩
theorem rL:XA.Ok Tryz.prog:=by
 refine⟨QH,Uf,fun {f g} h=> ?_,mixed⟩
 have h:zb (Nat.beq f 16) (some DN) none=some g:=h
 rw [za]at h
 split at h
 ·rename_i hf; have hf:=iE hf; subst hf; injection h with h; subst h; exact⟨b16,PO⟩
 ·cases h
noncomputable def nr (args:List KV) (h:KH):Option (KV×KH):=List.rec (motive:=fun _=>Option (KV×KH)) (some (.bool true,h)) (fun _ _ _=>none) args
noncomputable def XW (t:List (Nat×Nat)):QX:=⟨XE,XS,fun f=>zb (Nat.beq f 10) (some nr) (GV t f)⟩
theorem tr {t:List (Nat×Nat)} (ht:qu t) (ha:∀h,KCall Tryz.prog 10 [] h (.bool true) h):(XW t).Ok Tryz.prog:=by
 refine⟨QH,Uf,fun {f g} h=> ?_,mixed⟩
 have h:zb (Nat.beq f 10) (some nr) (GV t f)=some g:=h
 rw [za]at h
 split at h
 ·rename_i hf; have hf:=iE hf; subst hf; injection h with h; subst h
  refine⟨b10,fun {args h v h'} e=> ?_⟩
  cases args with
  |cons _ _=>cases e
  | nil=>
   have e:some (KV.bool true,h)=some (v,h'):=e
   simp only [Option.some.injEq,Prod.mk.injEq]at e
   obtain⟨rfl,rfl⟩:=e
   exact ha h
 ·exact KX ht h
noncomputable def jd (f:FuncId):Code:=Option.rec (motive:=fun _=>Code) .skip (fun fn:Func=>Option.rec (motive:=fun _=>Code) .skip (fun c=>c) fn.body) Tryz.prog.funcs[f]?
noncomputable def D6 (c:Code):Code:=match c with| .seq a _=>a|_=> .skip
noncomputable def J5 (c:Code):Code:=match c with| .seq _ b=>b|_=> .skip
def nx (n k:Int):Int:=Int.tmod (IntKind.wrap .i64 (Int.tmod n k+k)) k
theorem Pc (n:Int) {k:Int} (h0:0<k) (hk:k<1000000):0≤nx n k∧nx n k<k:=by
 have h1:Int.tmod n k<k:=Int.tmod_lt_of_pos n h0
 have h2: -k<Int.tmod n k:=by
  have:=Int.tmod_lt_of_pos (-n) h0
  rw [Int.neg_tmod]at this
  omega
 unfold nx
 have e:IntKind.wrap .i64 (Int.tmod n k+k)=Int.tmod n k+k:=by
  have e:(Int.tmod n k+k)%2^64=Int.tmod n k+k:=Int.emod_eq_of_lt (by omega) (by omega)
  simp only [IntKind.wrap,IntKind.bits,IntKind.signed,e]
  rw [if_neg (by simp; omega)]
 rw [e,Int.tmod_eq_emod_of_nonneg (by omega)]
 exact⟨Int.emod_nonneg _ (by omega),Int.emod_lt_of_pos _ h0⟩
end Go.K
end
