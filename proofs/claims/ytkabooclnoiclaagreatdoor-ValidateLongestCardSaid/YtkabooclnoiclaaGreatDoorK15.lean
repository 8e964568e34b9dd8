/- Closed runs: a part. No condition beyond each statement's own. -/
import Derived.Test.YtkabooclnoiclaaGreatDoorK14
import Derived.Test.YtkabooclnoiclaaGreatDoorH1
set_option linter.all false
section
namespace Go.K
open Go.Abs
noncomputable def K0 (X:QX) (n N0:Nat) (f:FuncId) (args:List KV) (h:KH):Option (KV×KH):=
 zb (KV.frees args) (Option.rec (motive:=fun _=>KH→Option (KV×KH)) (fun _=>none) (fun p h=>zb p.1.free (some (p.1,h)) none) ((qgo X n).call f args ⟨N64k.empty,N0⟩ fun v h=>some (v,h)) h) none
theorem V3 {P:Program} {X:QX} (ok:X.Ok P) {n N0:Nat} (h1:P.globals.size≤N0) (h2:N0<65000) {f:FuncId} {args:List KV} {h h':KH} {v:KV} (e:K0 X n N0 f args h=some (v,h')):KCall P f args h v h':=by
 unfold K0 at e
 rw [za]at e
 split at e
 ·rename_i ha
  cases hc:(qgo X n).call f args ⟨N64k.empty,N0⟩ (fun v h=>some (v,h))with
  |none=>rw [hc]at e; cases e
  | some p=>
   rw [hc]at e
   have e:zb p.1.free (some (p.1,h)) none=some (v,h'):=e
   rw [za]at e
   split at e
   ·rename_i hr
    simp only [Option.some.injEq,Prod.mk.injEq]at e
    obtain⟨rfl,rfl⟩:=e
    obtain⟨v,h0'⟩:=p
    have emp:∀id o,(⟨N64k.empty,N0⟩:KH).get id=some o→False:=fun id o ho=>by
     have:(⟨N64k.empty,N0⟩:KH).get id=none:=N64k.get_empty _
     rw [this]at ho; cases ho
    exact(Ur ok hc).memo ⟨h2,h1,fun id o ho=>(emp id o ho).elim⟩ (fun id o ho=>(emp id o ho).elim) ha hr
   ·cases e
 ·cases e
def pv:Nat→(Nat→Nat)→Nat
 |0,_=>0
 |n+1,f=>f 0+18446744073709551616*pv n fun i=>f (i+1)
theorem xu:∀n f g,pv n f+pv n g=pv n fun i=>f i+g i
 |0,f,g=>rfl
 |n+1,f,g=>by simp only [pv,←xu n]; omega
theorem vf:∀n f c,pv n f*c=pv n fun i=>f i*c
 |0,f,c=>by simp [pv]
 |n+1,f,c=>by simp only [pv,←vf n,Nat.add_mul,Nat.mul_assoc]
theorem vD:∀ {n f g},(∀i,i<n→f i=g i)→pv n f=pv n g
 |0,f,g,h=>rfl
 | n+1,f,g,h=>by
  simp only [pv]
  rw [h 0 (Nat.succ_pos n),vD (n:=n) (g:=fun i=>g (i+1)) fun i hi=>h (i+1) (Nat.succ_lt_succ hi)]
theorem Wf (x:Nat) {a:Nat} (h:a<18446744073709551616) (j:Nat):(a+18446744073709551616*x).testBit j=if j<64 then a.testBit j else x.testBit (j-64):=by
 rw [Nat.add_comm,show(18446744073709551616:Nat)=2^64 from rfl]
 exact Nat.testBit_two_pow_mul_add x h j
theorem sf {a b:Nat} (x y:Nat) (ha:a<18446744073709551616) (hb:b<18446744073709551616):(a+18446744073709551616*x) ^^^ (b+18446744073709551616*y)=(a ^^^ b)+18446744073709551616*(x ^^^ y):=by
 refine Nat.eq_of_testBit_eq fun j=> ?_
 rw [Nat.testBit_xor,Wf x ha,Wf y hb,Wf _ (Nat.xor_lt_two_pow (n:=64) ha hb)]
 split<;>rw [Nat.testBit_xor]
theorem s8 {a b:Nat} (x y:Nat) (ha:a<18446744073709551616) (hb:b<18446744073709551616):(a+18446744073709551616*x) &&& (b+18446744073709551616*y)=(a &&& b)+18446744073709551616*(x &&& y):=by
 refine Nat.eq_of_testBit_eq fun j=> ?_
 rw [Nat.testBit_and,Wf x ha,Wf y hb,Wf _ (Nat.and_lt_two_pow (n:=64) _ hb)]
 split<;>rw [Nat.testBit_and]
theorem jU:∀ {n f g},(∀i,f i<18446744073709551616)→(∀i,g i<18446744073709551616)→pv n f ^^^ pv n g=pv n fun i=>f i ^^^ g i
 |0,f,g,_,_=>by simp [pv]
 | n+1,f,g,hf,hg=>by
  simp only [pv]
  rw [sf _ _ (hf 0) (hg 0),jU (fun i=>hf (i+1)) (fun i=>hg (i+1))]
theorem bL:∀ {n f g},(∀i,f i<18446744073709551616)→(∀i,g i<18446744073709551616)→pv n f &&& pv n g=pv n fun i=>f i &&& g i
 |0,f,g,_,_=>by simp [pv]
 | n+1,f,g,hf,hg=>by
  simp only [pv]
  rw [s8 _ _ (hf 0) (hg 0),bL (fun i=>hf (i+1)) (fun i=>hg (i+1))]
theorem nh {m j:Nat} (hm:m<4294967296) (hj:32≤j):m.testBit j=false:=Nat.testBit_lt_two_pow (Nat.lt_of_lt_of_le hm (Nat.pow_le_pow_right (n:=2) (by decide) hj))
theorem PD {a m:Nat} (x y:Nat) {k:Nat} (hk:k≤32) (ha:a<18446744073709551616) (hm:m<4294967296):((a+18446744073709551616*x) >>> k) &&& (m+18446744073709551616*y)=((a >>> k) &&& m)+18446744073709551616*((x >>> k) &&& y):=by
 have hm64:m<18446744073709551616:=by omega
 refine Nat.eq_of_testBit_eq fun j=> ?_
 rw [Nat.testBit_and,Nat.testBit_shiftRight,Wf x ha,Wf y hm64,Wf _ (Nat.and_lt_two_pow (n:=64) _ hm64)]
 by_cases h1:j<32
 ·rw [if_pos (by omega),if_pos (by omega),if_pos (by omega),Nat.testBit_and,Nat.testBit_shiftRight]
 ·by_cases h2:j<64
  ·rw [if_pos h2,if_pos h2,nh hm (by omega),Nat.testBit_and,nh hm (by omega),Bool.and_false,Bool.and_false]
  ·rw [if_neg (by omega),if_neg h2,if_neg h2,Nat.testBit_and,Nat.testBit_shiftRight,show k+j-64=k+(j-64)by omega]
theorem X6 {k:Nat} (hk:k≤32) {m:Nat} (hm:m<4294967296):∀ {n f},(∀i,f i<18446744073709551616)→(pv n f >>> k) &&& pv n (fun _=>m)=pv n fun i=>(f i >>> k) &&& m
 |0,f,_=>by simp [pv]
 | n+1,f,hf=>by
  simp only [pv]
  rw [PD _ _ hk (hf 0) hm,X6 hk hm (fun i=>hf (i+1))]
theorem PC (x:Nat):x &&& 4294967295=x%4294967296:=Nat.and_two_pow_sub_one_eq_mod x 32
theorem oT {n f} (hf:∀i,f i<18446744073709551616):pv n f &&& pv n (fun _=>4294967295)=pv n fun i=>f i%4294967296:=by
 rw [bL hf (fun _=>by decide)]
 simp only [PC]
theorem GJ:∀ {n f},(∀i,f i<18446744073709551616)→pv n f<2^(64*n)
 |0,f,_=>by simp [pv]
 | n+1,f,h=>by
  have h0:=h 0
  have h1:=GJ (n:=n) fun i=>h (i+1)
  have e:2^(64*(n+1))=18446744073709551616*2^(64*n):=by rw [Nat.mul_add,Nat.pow_add,Nat.mul_comm]
  rw [e]; simp only [pv]; omega
end Go.K
end
section
namespace Go.K
open Go Go.Abs
def pkW:List Nat→Nat
 | []=>0
 |x::l=>x+4294967296*pkW l
theorem VE:∀(l:List Nat) (y:Nat),pkW (l ++ [y])=pkW l+4294967296^l.length*y
 | [],y=>by simp [pkW]
 | x::l,y=>by
  simp only [List.cons_append,pkW,VE l y,List.length_cons,Nat.pow_succ,Nat.mul_add,Nat.add_assoc]
  congr 2
  rw [←Nat.mul_assoc,Nat.mul_comm 4294967296 (4294967296^l.length)]
theorem VV:∀(l:List Nat) (i:Nat),(∀x∈l,x<4294967296)→pkW l/4294967296^i%4294967296=l.getD i 0
 | [],i,h=>by simp [pkW]
 | x::l,0,h=>by
  have:=h x (by simp)
  simp only [pkW,Nat.pow_zero,Nat.div_one,List.getD_cons_zero]
  omega
 | x::l,i+1,h=>by
  have hx:=h x (by simp)
  have e:(x+4294967296*pkW l)/4294967296=pkW l:=by omega
  rw [pkW,Nat.pow_succ,Nat.mul_comm (4294967296^i) 4294967296,←Nat.div_div_eq_div_mul,e,List.getD_cons_succ]
  exact VV l i fun y hy=>h y (List.mem_cons_of_mem _ hy)
theorem Yl {x n:Nat} (hx:x<4294967296) (hn:n≤32):(x*4294967297)/2^n%4294967296=rot x n:=by
 have e32:(4294967296:Nat)=2^n*2^(32-n):=by rw [←Nat.pow_add,show n+(32-n)=32 by omega]
 have e1:x*4294967297=2^n*(x*2^(32-n))+x:=by
  rw [show x*4294967297=x*4294967296+x by omega,e32]
  congr 1
  rw [←Nat.mul_assoc,Nat.mul_comm x,Nat.mul_assoc (2^n)]
 have e2:(x*4294967297)/2^n=x*2^(32-n)+x/2^n:=by rw [e1,Nat.mul_add_div (Nat.two_pow_pos n)]
 have hlt:x/2^n<2^(32-n):=by
  rw [Nat.div_lt_iff_lt_mul (Nat.two_pow_pos n),Nat.mul_comm,←e32]; exact hx
 have e3:x*2^(32-n)%4294967296=2^(32-n)*(x%2^n):=by
  rw [e32,Nat.mul_comm x,Nat.mul_comm (2^n),Nat.mul_mod_mul_left]
 have e4:(x*2^(32-n)+x/2^n)%4294967296=2^(32-n)*(x%2^n)+x/2^n:=by
  rw [←Nat.mod_add_mod,e3]
  refine Nat.mod_eq_of_lt ?_
  have hm:x%2^n<2^n:=Nat.mod_lt _ (Nat.two_pow_pos n)
  calc 2^(32-n)*(x%2^n)+x/2^n<2^(32-n)*(x%2^n)+2^(32-n):=Nat.add_lt_add_left hlt _
   _=2^(32-n)*(x%2^n+1):=by rw [Nat.mul_add,Nat.mul_one]
   _≤2^(32-n)*2^n:=Nat.mul_le_mul_left _ hm
   _=4294967296:=by rw [Nat.mul_comm,←e32]
 rw [e2,e4,Nat.two_pow_add_eq_or_of_lt hlt,rot,e3,Nat.or_comm]
theorem kX (a b:Nat):(a ^^^ b)%4294967296=a%4294967296 ^^^ b%4294967296:=Nat.xor_mod_two_pow (n:=32)
def xN (X i j k:Nat):Nat:=Nat.mod (Nat.xor (Nat.xor (Nat.div X i) (Nat.div X j)) (Nat.div X k)) 4294967296
def yN (X x i j k:Nat):Nat:=Nat.xor (Nat.mod (Nat.xor (Nat.div X i) (Nat.div X j)) 4294967296) (Nat.div x k)
def dbl (x:Nat):Nat:=Nat.mul x 4294967297
theorem sO {x:Nat} (h:x<4294967296):xN (dbl x) 64 2048 33554432=bS1 x:=by
 show(((x*4294967297)/2^6 ^^^ (x*4294967297)/2^11) ^^^ (x*4294967297)/2^25)%4294967296=_
 rw [kX,kX,Yl h (by decide),Yl h (by decide),Yl h (by decide)]; rfl
theorem sn {x:Nat} (h:x<4294967296):xN (dbl x) 4 8192 4194304=bS0 x:=by
 show(((x*4294967297)/2^2 ^^^ (x*4294967297)/2^13) ^^^ (x*4294967297)/2^22)%4294967296=_
 rw [kX,kX,Yl h (by decide),Yl h (by decide),Yl h (by decide)]; rfl
theorem rV {x:Nat} (h:x<4294967296):yN (dbl x) x 128 262144 8=sg0 x:=by
 show(((x*4294967297)/2^7 ^^^ (x*4294967297)/2^18)%4294967296) ^^^ x/8=_
 rw [kX,Yl h (by decide),Yl h (by decide)]; rfl
theorem ss {x:Nat} (h:x<4294967296):yN (dbl x) x 131072 524288 1024=sg1 x:=by
 show(((x*4294967297)/2^17 ^^^ (x*4294967297)/2^19)%4294967296) ^^^ x/1024=_
 rw [kX,Yl h (by decide),Yl h (by decide)]; rfl
section
variable {R:Type}
noncomputable def rdK (ks:List Nat):Nat→Nat→Nat→Nat→Nat→Nat→Nat→Nat→Nat→(Nat→Nat→Nat→Nat→Nat→Nat→Nat→Nat→R)→R:=
 List.rec (motive:=fun _=>Nat→Nat→Nat→Nat→Nat→Nat→Nat→Nat→Nat→(Nat→Nat→Nat→Nat→Nat→Nat→Nat→Nat→R)→R) (fun _ a b c d e f g h K=>K a b c d e f g h)
  (fun k _ ih W a b c d e f g h K=>nfc (dbl e) fun e2=>nfc (Nat.add (Nat.add (Nat.add (Nat.add h (xN e2 64 2048 33554432)) (Nat.xor (Nat.land e f) (Nat.land (Nat.xor 4294967295 e) g))) k) (Nat.mod W 4294967296)) fun t=>
   nfc (dbl a) fun a2=>nfc (Nat.mod (Nat.add t (Nat.add (xN a2 4 8192 4194304) (Nat.xor (Nat.xor (Nat.land a b) (Nat.land a c)) (Nat.land b c)))) 4294967296) fun na=>nfc (Nat.mod (Nat.add d t) 4294967296) fun ne=>
   nfc (Nat.mod (Nat.div W 4294967296) 4294967296) fun w1=>nfc (dbl w1) fun w12=>nfc (Nat.mod (Nat.div W (Nat.pow 4294967296 14)) 4294967296) fun w14=>nfc (dbl w14) fun w142=>
   nfc (Nat.add (Nat.div W 4294967296) (Nat.mul (Nat.pow 4294967296 15) (Nat.mod (Nat.add (Nat.add (Nat.add (Nat.mod W 4294967296) (yN w12 w1 128 262144 8)) (Nat.mod (Nat.div W (Nat.pow 4294967296 9)) 4294967296)) (yN w142 w14 131072 524288 1024)) 4294967296))) fun W2=>
   ih W2 na a b c ne e f g K) ks
end
theorem fR {l:List Nat} (hl:l.length=16) (hx:∀x∈l,x<4294967296):
  Nat.add (Nat.div (pkW l) 4294967296) (Nat.mul (Nat.pow 4294967296 15) (vZ l))=pkW (l.drop 1 ++ [vZ l]):=by
 match l,hl with
 | x::l,hl=>
  have h0:=hx x (by simp)
  have e:(x+4294967296*pkW l)/4294967296=pkW l:=by omega
  show(x+4294967296*pkW l)/4294967296+4294967296^15*vZ (x::l)=_
  rw [e,List.drop_one,List.tail_cons,VE,show l.length=15 by simpa using hl]
theorem Gw (x:Nat) (l:List Nat) (h:16≤l.length):vZ (x::l)=vZ l:=by
 unfold vZ
 rw [List.length_cons,show l.length+1-16=(l.length-16)+1 by omega,show l.length+1-15=(l.length-15)+1 by omega,show l.length+1-7=(l.length-7)+1 by omega,show l.length+1-2=(l.length-2)+1 by omega]
 rfl
theorem pi:∀(n x:Nat) {l:List Nat} (h:16≤l.length),xg n (x::l)=x::xg n l
 |0,x,l,h=>rfl
 | n+1,x,l,h=>by
  rw [xg,xg,Gw x l h,List.cons_append,pi n x (by simp; omega)]
theorem Vs:∀(n:Nat) (l:List Nat),∃r,xg n l=l++r
 |0,l=>⟨[],by simp [xg]⟩
 | n+1,l=>by
  obtain⟨r,h⟩:=Vs n (l ++ [vZ l])
  exact⟨vZ l::r,by rw [xg,h,List.append_assoc]; rfl⟩
theorem V2:∀(m n:Nat) (l:List Nat),xg (m+n) l=xg n (xg m l)
 |0,n,l=>by simp [xg]
 |m+1,n,l=>by rw [show m+1+n=(m+n)+1 by omega,xg,V2 m n]; rfl
theorem KU:∀(ks ws r:List Nat) (s:H8),ks.length≤ws.length→s.run ks (ws++r)=s.run ks ws
 | [],ws,r,s,h=>by simp [H8.run]
 |k::ks,[],r,s,h=>by simp at h
 | k::ks,w::ws,r,s,h=>by
  rw [List.cons_append,H8.run,H8.run]
  exact KU ks ws r _ (by simpa using h)
theorem DR {R:Type} (K:Nat→Nat→Nat→Nat→Nat→Nat→Nat→Nat→R):∀(ks:List Nat) (l:List Nat) (s:H8),l.length=16→(∀x∈l,x<4294967296)→s.lt→∀S:H8,S=s.run ks (xg ks.length l)→rdK ks (pkW l) s.a s.b s.c s.d s.e s.f s.g s.h K=K S.a S.b S.c S.d S.e S.f S.g S.h
 | [],l,s,hl,hx,hs,S,hS=>by subst hS; rfl
 | k ::ks,l,s,hl,hx,hs,S,hS=>by
  have he:=hs.2.2.2.2.1
  have ha:=hs.1
  have lane:=fun i=>VV l i hx
  have l0:Nat.mod (pkW l) 4294967296=l.getD 0 0:=by have:=lane 0; rw [Nat.pow_zero,Nat.div_one]at this; exact this
  have l1:Nat.mod (Nat.div (pkW l) 4294967296) 4294967296=l.getD 1 0:=by have:=lane 1; rw [Nat.pow_one]at this; exact this
  have l9:Nat.mod (Nat.div (pkW l) (Nat.pow 4294967296 9)) 4294967296=l.getD 9 0:=lane 9
  have l14:Nat.mod (Nat.div (pkW l) (Nat.pow 4294967296 14)) 4294967296=l.getD 14 0:=lane 14
  have b1:=kH hx 1
  have b14:=kH hx 14
  have eN:Nat.mod (Nat.add (Nat.add (Nat.add (l.getD 0 0) (sg0 (l.getD 1 0))) (l.getD 9 0)) (sg1 (l.getD 14 0))) 4294967296=vZ l:=by
   show(l.getD 0 0+sg0 (l.getD 1 0)+l.getD 9 0+sg1 (l.getD 14 0))%4294967296=_
   unfold vZ m32
   rw [hl]
   simp only [show 16-16=0 from rfl,show 16-15=1 from rfl,show 16-7=9 from rfl,show 16-2=14 from rfl]
   omega
  have step:rdK (k::ks) (pkW l) s.a s.b s.c s.d s.e s.f s.g s.h K=rdK ks (pkW (l.drop 1 ++ [vZ l])) (s.step k (l.getD 0 0)).a (s.step k (l.getD 0 0)).b (s.step k (l.getD 0 0)).c (s.step k (l.getD 0 0)).d (s.step k (l.getD 0 0)).e (s.step k (l.getD 0 0)).f (s.step k (l.getD 0 0)).g (s.step k (l.getD 0 0)).h K:=by
   unfold rdK
   dsimp only
   simp only [zi]
   rw [l0,l1,l9,l14,sO he,sn ha,rV b1,ss b14,eN,fR hl hx]
   have q1:Nat.mod (Nat.add (Nat.add (Nat.add (Nat.add (Nat.add s.h (bS1 s.e)) (Nat.xor (Nat.land s.e s.f) (Nat.land (Nat.xor 4294967295 s.e) s.g))) k) (l.getD 0 0)) (Nat.add (bS0 s.a) (Nat.xor (Nat.xor (Nat.land s.a s.b) (Nat.land s.a s.c)) (Nat.land s.b s.c)))) 4294967296=(s.step k (l.getD 0 0)).a:=by
    show(s.h+bS1 s.e+chN s.e s.f s.g+k+l.getD 0 0+(bS0 s.a+mjN s.a s.b s.c))%4294967296=m32 (tN s k (l.getD 0 0)+m32 (bS0 s.a+mjN s.a s.b s.c))
    unfold tN m32
    omega
   have q2:Nat.mod (Nat.add s.d (Nat.add (Nat.add (Nat.add (Nat.add s.h (bS1 s.e)) (Nat.xor (Nat.land s.e s.f) (Nat.land (Nat.xor 4294967295 s.e) s.g))) k) (l.getD 0 0))) 4294967296=(s.step k (l.getD 0 0)).e:=by
    show(s.d+(s.h+bS1 s.e+chN s.e s.f s.g+k+l.getD 0 0))%4294967296=m32 (s.d+tN s k (l.getD 0 0))
    unfold tN m32
    omega
   rw [q1,q2]
   rfl
  rw [step]
  refine DR K ks _ _ (by simp [hl]) (fun x h=> ?_) (H8.step_lt hs _ _) S ?_
  ·rcases List.mem_append.1 h with h|h
   ·exact hx x (List.mem_of_mem_drop h)
   ·simp at h; subst h; exact Zk _
  ·rw [hS]
   match l,hl with
   | x::l',hl=>
    have e:xg (ks.length+1) (x::l')=x::xg ks.length (l' ++ [vZ (x::l')]):=by
     rw [xg,List.cons_append,pi _ _ (by simp at hl ⊢; omega)]
    rw [List.length_cons,e]
    rfl
theorem GZ (s:H8) (ws:List Nat) (h:ws.length=16):s.run kW (xg kW.length ws)=s.run kW (xg 48 ws):=by
 rw [show kW.length=48+16 from rfl,V2]
 obtain⟨r,e⟩:=Vs 16 (xg 48 ws)
 rw [e,KU _ _ _ _ (by rw [gT,h]; decide)]
noncomputable def lc {R:Type} (W a b c d e f g h:Nat) (K:Nat→Nat→Nat→Nat→Nat→Nat→Nat→Nat→R):R:=
 rdK kW W a b c d e f g h fun a' b' c' d' e' f' g' h'=>nfc (Nat.mod (Nat.add a' a) 4294967296) fun a=>nfc (Nat.mod (Nat.add b' b) 4294967296) fun b=>nfc (Nat.mod (Nat.add c' c) 4294967296) fun c=>nfc (Nat.mod (Nat.add d' d) 4294967296) fun d=>nfc (Nat.mod (Nat.add e' e) 4294967296) fun e=>nfc (Nat.mod (Nat.add f' f) 4294967296) fun f=>nfc (Nat.mod (Nat.add g' g) 4294967296) fun g=>nfc (Nat.mod (Nat.add h' h) 4294967296) fun h=>K a b c d e f g h
theorem lG {R:Type} (ws:List Nat) (hl:ws.length=16) (hx:∀x∈ws,x<4294967296) (s:H8) (hs:s.lt) (K:Nat→Nat→Nat→Nat→Nat→Nat→Nat→Nat→R):
  lc (pkW ws) s.a s.b s.c s.d s.e s.f s.g s.h K=K (s.block ws).a (s.block ws).b (s.block ws).c (s.block ws).d (s.block ws).e (s.block ws).f (s.block ws).g (s.block ws).h:=by
 unfold lc
 rw [DR _ kW ws s hl hx hs (s.run kW (xg 48 ws)) (GZ s ws hl).symm]
 simp only [zi]
 have e:∀x y:Nat,Nat.mod (Nat.add x y) 4294967296=m32 (y+x):=fun x y=>by
  show(x+y)%4294967296=m32 (y+x)
  rw [Nat.add_comm]; rfl
 simp only [e]
 rfl
def w4K (m:Nat):Nat:=Nat.add (Nat.add (Nat.add (Nat.mul (Nat.mod m 256) 16777216) (Nat.mul (Nat.mod (Nat.div m 256) 256) 65536)) (Nat.mul (Nat.mod (Nat.div m 65536) 256) 256)) (Nat.mod (Nat.div m 16777216) 256)
noncomputable def pbK (n:Nat):Nat→Nat:=Nat.rec (motive:=fun _=>Nat→Nat) (fun _=>0) (fun _ ih m=>nfc (Nat.div m 4294967296) fun m'=>Nat.add (w4K m) (Nat.mul 4294967296 (ih m'))) n
theorem DG:∀(n:Nat) (b:List UInt8),4*n≤b.length→pbK n (zc b)=pkW (zv (b.take (4*n)))
 |0,b,h=>rfl
 | n+1,x::y::z::w::l,h=>by
  have e0:pbK (n+1) (zc (x::y::z::w::l))=nfc (Nat.div (zc (x::y::z::w::l)) 4294967296) fun m'=>Nat.add (w4K (zc (x::y::z::w::l))) (Nat.mul 4294967296 (pbK n m')):=rfl
  have hx:=x.toNat_lt; have hy:=y.toNat_lt; have hz:=z.toNat_lt; have hw:=w.toNat_lt
  have en:zc (x::y::z::w::l)=x.toNat+256*(y.toNat+256*(z.toNat+256*(w.toNat+256*zc l))):=rfl
  have e1:Nat.div (zc (x::y::z::w::l)) 4294967296=zc l:=by
   show zc (x::y::z::w::l)/4294967296=_
   rw [en]; omega
  have e2:w4K (zc (x::y::z::w::l))=word4 x.toNat y.toNat z.toNat w.toNat:=by
   show(zc (x::y::z::w::l)%256)*16777216+(zc (x::y::z::w::l)/256%256)*65536+(zc (x::y::z::w::l)/65536%256)*256+zc (x::y::z::w::l)/16777216%256=_
   rw [en]; unfold word4; omega
  rw [e0,zi,e1,e2,DG n l (by simp at h; omega),show 4*(n+1)=4*n+1+1+1+1 by omega]
  rfl
 |n+1,[],h=>by simp at h
 |n+1,[_],h=>by simp at h; try omega
 |n+1,[_,_],h=>by simp at h; try omega
 |n+1,[_,_,_],h=>by simp at h; try omega
section
variable {R:Type}
noncomputable def QQ (n:Nat):Nat→Nat→Nat→Nat→Nat→Nat→Nat→Nat→Nat→(Nat→Nat→Nat→Nat→Nat→Nat→Nat→Nat→R)→R:=
 Nat.rec (motive:=fun _=>Nat→Nat→Nat→Nat→Nat→Nat→Nat→Nat→Nat→(Nat→Nat→Nat→Nat→Nat→Nat→Nat→Nat→R)→R) (fun _ a b c d e f g h K=>K a b c d e f g h)
  (fun _ ih M a b c d e f g h K=>nfc (pbK 16 M) fun W=>nfc (Nat.div M (Nat.pow 256 64)) fun M=>lc W a b c d e f g h fun a b c d e f g h=>ih M a b c d e f g h K) n
theorem VS (K:Nat→Nat→Nat→Nat→Nat→Nat→Nat→Nat→R):∀(n:Nat) (l:List UInt8) (s:H8),64*n≤l.length→s.lt→∀S:H8,S=H8.blk n s l→QQ n (zc l) s.a s.b s.c s.d s.e s.f s.g s.h K=K S.a S.b S.c S.d S.e S.f S.g S.h
 |0,l,s,hl,hs,S,hS=>by subst hS; rfl
 | n+1,l,s,hl,hs,S,hS=>by
  have e0:QQ (n+1) (zc l) s.a s.b s.c s.d s.e s.f s.g s.h K=nfc (pbK 16 (zc l)) fun W=>nfc (Nat.div (zc l) (Nat.pow 256 64)) fun M=>lc W s.a s.b s.c s.d s.e s.f s.g s.h fun a b c d e f g h=>QQ n M a b c d e f g h K:=rfl
  have e1:Nat.div (zc l) (Nat.pow 256 64)=zc (l.drop 64):=(jP l 64).symm
  have hl16:(zv (l.take 64)).length=16:=dT _ (by simp; omega)
  have ep:pbK 16 (zc l)=pkW (zv (l.take 64)):=DG 16 l (by omega)
  rw [e0,zi,zi,e1,ep,lG _ hl16 (jx _) s hs]
  exact VS K n (l.drop 64) (s.block (zv (l.take 64))) (by simp; omega) (uv _ _) S hS
end
def o4K (x:Nat):Nat:=Nat.add (Nat.mod (Nat.div x 16777216) 256) (Nat.mul 256 (Nat.add (Nat.mod (Nat.div x 65536) 256) (Nat.mul 256 (Nat.add (Nat.mod (Nat.div x 256) 256) (Nat.mul 256 (Nat.mod x 256))))))
theorem dc (x:Nat):zc (be4 x)=o4K x:=by
 have h:∀y:Nat,(UInt8.ofNat y).toNat=y%256:=fun y=>by simp [UInt8.toNat_ofNat']
 show(UInt8.ofNat (x/16777216)).toNat+256*((UInt8.ofNat (x/65536)).toNat+256*((UInt8.ofNat (x/256)).toNat+256*((UInt8.ofNat x).toNat+256*0)))=_
 rw [h,h,h,h]; rfl
def oI (a b c d e f g h:Nat):Nat:=Nat.add (o4K a) (Nat.mul 4294967296 (Nat.add (o4K b) (Nat.mul 4294967296 (Nat.add (o4K c) (Nat.mul 4294967296 (Nat.add (o4K d) (Nat.mul 4294967296 (Nat.add (o4K e) (Nat.mul 4294967296 (Nat.add (o4K f) (Nat.mul 4294967296 (Nat.add (o4K g) (Nat.mul 4294967296 (o4K h))))))))))))))
theorem lU (s:H8):zc s.bytes=oI s.a s.b s.c s.d s.e s.f s.g s.h:=by
 have n4:∀(x:Nat) (l:List UInt8),zc (be4 x++l)=o4K x+4294967296*zc l:=fun x l=>by rw [yf,dc,show(be4 x).length=4 from rfl,show(256:Nat)^4=4294967296 from rfl]
 unfold H8.bytes
 simp only [List.append_assoc,n4,dc]
 rfl
noncomputable def beK (k x:Nat):Nat:=Nat.rec (motive:=fun _=>Nat) 0 (fun k ih=>Nat.add (Nat.mod (Nat.div x (Nat.pow 256 k)) 256) (Nat.mul 256 ih)) k
theorem Pi (x:Nat):∀k,zc (u8s (beN k x))=beK k x
 |0=>rfl
 | k+1=>by
  have e:beK (k+1) x=x/256^k%256+256*beK k x:=rfl
  rw [e,←Pi x k]
  show(UInt8.ofNat (x/256^k%256)).toNat+256*zc (u8s (beN k x))=_
  rw [UInt8.toNat_ofNat',Nat.mod_mod]
noncomputable def fj (n:Nat):Nat:=nfc (Nat.mul 8 n) fun x=>Nat.add 128 (Nat.mul (Nat.pow 256 (Nat.add (Nat.mod (Nat.sub 119 (Nat.mod n 64)) 64) 1)) (beK 8 x))
theorem pu:∀p:Nat,zc (u8s (List.replicate p 0))=0
 |0=>rfl
 | p+1=>by
  show(UInt8.ofNat 0).toNat+256*zc (u8s (List.replicate p 0))=0
  rw [pu p]; rfl
theorem eU (n:Nat):zc (u8s (bc n))=fj n:=by
 unfold fj bc
 rw [zi]
 have e:u8s (128::(List.replicate (u6 n) 0++beN 8 (8*n)))=u8s [128]++(u8s (List.replicate (u6 n) 0)++u8s (beN 8 (8*n))):=by simp [u8s]
 rw [e,yf,yf,pu,Pi]
 show 128+256*0+256^1*(0+256^(u8s (List.replicate (u6 n) 0)).length*beK 8 (8*n))=128+256^((119-n%64)%64+1)*beK 8 (8*n)
 rw [show(u8s (List.replicate (u6 n) 0)).length=u6 n by simp [u8s],Nat.pow_one,Nat.zero_add,←Nat.mul_assoc,Nat.mul_comm 256 (256^u6 n),←Nat.pow_succ]
 rfl
noncomputable def P9 {R:Type} (n m:Nat) (K:Nat→R):R:=
 nfc (Nat.add m (Nat.mul (Nat.pow 256 n) (fj n))) fun M=>QQ (Nat.div (Nat.add n 72) 64) M 1779033703 3144134277 1013904242 2773480762 1359893119 2600822924 528734635 1541459225 fun a b c d e f g h=>nfc (oI a b c d e f g h) K
theorem Ku {R:Type} (l:List UInt8) (K:Nat→R):P9 l.length (zc l) K=K (zc (sha l)):=by
 unfold P9
 have e:Nat.add (zc l) (Nat.mul (Nat.pow 256 l.length) (fj l.length))=zc (pad l):=by
  rw [pad,yf,eU]; rfl
 rw [zi,e]
 have:=VS (fun a b c d e f g h=>nfc (oI a b c d e f g h) K) ((l.length+72)/64) (pad l) yk (by rw [gK]; omega) kL (H8.blk ((l.length+72)/64) yk (pad l)) rfl
 refine Eq.trans this ?_
 rw [zi,←lU]; rfl
end Go.K
end
section
namespace Go.K
open Go.Abs
def pkB (B:Nat):List Nat→Nat
 | []=>0
 |x::l=>x+B*pkB B l
theorem Ua (B:Nat):∀(l:List Nat) (y:Nat),pkB B (l ++ [y])=pkB B l+B^l.length*y
 | [],y=>by simp [pkB]
 | x::l,y=>by
  simp only [List.cons_append,pkB,Ua B l y,List.length_cons,Nat.pow_succ,Nat.mul_add,Nat.add_assoc]
  congr 2
  rw [←Nat.mul_assoc,Nat.mul_comm B (B^l.length)]
theorem Ui {B:Nat} (hB:0<B):∀(l:List Nat) (i:Nat),(∀x∈l,x<B)→pkB B l/B^i%B=l.getD i 0
 | [],i,h=>by simp [pkB,Nat.zero_div]
 | x::l,0,h=>by
  have:=h x (by simp)
  simp only [pkB,Nat.pow_zero,Nat.div_one,List.getD_cons_zero,Nat.add_mul_mod_self_left,Nat.mod_eq_of_lt this]
 | x::l,i+1,h=>by
  have hx:=h x (by simp)
  have e:(x+B*pkB B l)/B=pkB B l:=by rw [Nat.add_mul_div_left _ _ hB,Nat.div_eq_of_lt hx,Nat.zero_add]
  rw [pkB,Nat.pow_succ,Nat.mul_comm (B^i) B,←Nat.div_div_eq_div_mul,e,List.getD_cons_succ]
  exact Ui hB l i fun y hy=>h y (List.mem_cons_of_mem _ hy)
def xP (M X i j k:Nat):Nat:=Nat.land (Nat.xor (Nat.xor (Nat.shiftRight X i) (Nat.shiftRight X j)) (Nat.shiftRight X k)) M
def yP (M X x i j k:Nat):Nat:=Nat.land (Nat.xor (Nat.xor (Nat.shiftRight X i) (Nat.shiftRight X j)) (Nat.shiftRight x k)) M
abbrev W32 (f:Nat→Nat):Prop:=∀i,f i<4294967296
theorem W32.d {f:Nat→Nat} (h:W32 f) (i:Nat):f i*4294967297<18446744073709551616:=by have:=h i; omega
theorem W32.u {f:Nat→Nat} (h:W32 f) (i:Nat):f i<18446744073709551616:=by have:=h i; omega
theorem Zl (a b m:Nat):(a ^^^ b) &&& m=(a &&& m) ^^^ (b &&& m):=Nat.and_xor_distrib_right
theorem Ph {n:Nat} {f:Nat→Nat} (h:W32 f) {k:Nat} (hk:k≤32):Nat.shiftRight (pv n fun i=>f i*4294967297) k &&& pv n (fun _=>4294967295)=pv n fun i=>rot (f i) k:=by
 have e:=X6 (n:=n) hk (m:=4294967295) (by decide) (fun i=>h.d i)
 refine Eq.trans e (vD fun i _=> ?_)
 rw [PC,Nat.shiftRight_eq_div_pow,Yl (h i) hk]
theorem shP {n:Nat} {f:Nat→Nat} (h:W32 f) {k:Nat} (hk:k≤32):Nat.shiftRight (pv n f) k &&& pv n (fun _=>4294967295)=pv n fun i=>f i/2^k:=by
 have e:=X6 (n:=n) hk (m:=4294967295) (by decide) (fun i=>h.u i)
 refine Eq.trans e (vD fun i _=> ?_)
 rw [PC,Nat.shiftRight_eq_div_pow,Nat.mod_eq_of_lt (wL _ (h i))]
theorem mX {n:Nat} {f:Nat→Nat} (h:W32 f) {i j k:Nat} (hi:i≤32) (hj:j≤32) (hk:k≤32):xP (pv n fun _=>4294967295) (pv n fun i=>f i*4294967297) i j k=pv n fun l=>rot (f l) i ^^^ rot (f l) j ^^^ rot (f l) k:=by
 show(((_ ^^^ _) ^^^ _) &&& _:Nat)=_
 rw [Zl,Zl,Ph h hi,Ph h hj,Ph h hk]
 rw [jU (fun i=>W32.u (fun i=>zX _ (h i)) i) (fun i=>W32.u (fun i=>zX _ (h i)) i),jU (fun i=>W32.u (fun i=>yl (zX _ (h i)) (zX _ (h i))) i) (fun i=>W32.u (fun i=>zX _ (h i)) i)]
theorem nb {n:Nat} {f:Nat→Nat} (h:W32 f) {i j k:Nat} (hi:i≤32) (hj:j≤32) (hk:k≤32):yP (pv n fun _=>4294967295) (pv n fun i=>f i*4294967297) (pv n f) i j k=pv n fun l=>rot (f l) i ^^^ rot (f l) j ^^^ f l/2^k:=by
 show(((_ ^^^ _) ^^^ _) &&& _:Nat)=_
 rw [Zl,Zl,Ph h hi,Ph h hj,shP h hk]
 rw [jU (fun i=>W32.u (fun i=>zX _ (h i)) i) (fun i=>W32.u (fun i=>zX _ (h i)) i),jU (fun i=>W32.u (fun i=>yl (zX _ (h i)) (zX _ (h i))) i) (fun i=>W32.u (fun i=>wL _ (h i)) i)]
theorem sa {n:Nat} {f:Nat→Nat} (h:W32 f):yP (pv n fun _=>4294967295) (pv n fun i=>f i*4294967297) (pv n f) 7 18 3=pv n fun l=>sg0 (f l):=nb h (by decide) (by decide) (by decide)
theorem ru {n:Nat} {f:Nat→Nat} (h:W32 f):yP (pv n fun _=>4294967295) (pv n fun i=>f i*4294967297) (pv n f) 17 19 10=pv n fun l=>sg1 (f l):=nb h (by decide) (by decide) (by decide)
theorem sw {n:Nat} {f:Nat→Nat} (h:W32 f):xP (pv n fun _=>4294967295) (pv n fun i=>f i*4294967297) 2 13 22=pv n fun l=>bS0 (f l):=mX h (by decide) (by decide) (by decide)
theorem tl {n:Nat} {f:Nat→Nat} (h:W32 f):xP (pv n fun _=>4294967295) (pv n fun i=>f i*4294967297) 6 11 25=pv n fun l=>bS1 (f l):=mX h (by decide) (by decide) (by decide)
section
variable {R:Type}
noncomputable def rdP (M O b b9 b14 b15 BM:Nat) (ks:List Nat):Nat→Nat→Nat→Nat→Nat→Nat→Nat→Nat→Nat→(Nat→Nat→Nat→Nat→Nat→Nat→Nat→Nat→R)→R:=
 List.rec (motive:=fun _=>Nat→Nat→Nat→Nat→Nat→Nat→Nat→Nat→Nat→(Nat→Nat→Nat→Nat→Nat→Nat→Nat→Nat→R)→R) (fun _ a b c d e f g h K=>K a b c d e f g h)
  (fun k _ ih W a b' c d e f g h K=>nfc (Nat.mul e 4294967297) fun e2=>nfc (Nat.add (Nat.add (Nat.add (Nat.add h (xP M e2 6 11 25)) (Nat.xor (Nat.land e f) (Nat.land (Nat.xor M e) g))) (Nat.mul O k)) (Nat.land W BM)) fun t=>
   nfc (Nat.mul a 4294967297) fun a2=>nfc (Nat.land (Nat.add t (Nat.add (xP M a2 2 13 22) (Nat.xor (Nat.xor (Nat.land a b') (Nat.land a c)) (Nat.land b' c)))) M) fun na=>nfc (Nat.land (Nat.add d t) M) fun ne=>
   nfc (Nat.shiftRight W b) fun W1=>nfc (Nat.land W1 BM) fun w1=>nfc (Nat.land (Nat.shiftRight W b14) BM) fun w14=>
   nfc (Nat.add W1 (Nat.shiftLeft (Nat.land (Nat.add (Nat.add (Nat.add (Nat.land W BM) (yP M (Nat.mul w1 4294967297) w1 7 18 3)) (Nat.land (Nat.shiftRight W b9) BM)) (yP M (Nat.mul w14 4294967297) w14 17 19 10)) M) b15)) fun W2=>
   ih W2 na a b' c ne e f g K) ks
end
def yC (V:List (Nat→Nat)) (n:Nat):List Nat:=V.map (pv n)
theorem U3 {α β:Type} (f:α→β) (d:α) {z:β} (l:List α) (i:Nat) (e:f d=z):(l.map f).getD i z=f (l.getD i d):=by
 simp only [List.getD,List.getElem?_map]
 cases l[i]? <;> simp [e]
theorem W5 (n:Nat):pv n (fun _=>0)=0:=by
 induction n with
 |zero=>rfl
 |succ n ih=>simp only [pv,ih]
theorem tA {n:Nat} {V:List (Nat→Nat)} (hV:∀v∈V,W32 v) (i:Nat):Nat.land (Nat.shiftRight (pkB (2^(64*n)) (yC V n)) (64*n*i)) (2^(64*n)-1)=pv n (V.getD i fun _=>0):=by
 show(pkB (2^(64*n)) (yC V n) >>> (64*n*i)) &&& (2^(64*n)-1)=_
 rw [Nat.and_two_pow_sub_one_eq_mod,Nat.shiftRight_eq_div_pow,show 2^(64*n*i)=(2^(64*n))^i from Nat.pow_mul ..,Ui (Nat.two_pow_pos _) _ _ (fun x hx=>by
  obtain⟨v,hv,rfl⟩:=List.mem_map.1 hx
  exact GJ (hV v hv).u)]
 exact U3 (pv n) (fun _=>0) V i (W5 n)
theorem eo {B:Nat} (hB:0<B) {l:List Nat} {y b:Nat} (hl:l.length=16) (hx:∀x∈l,x<B) (hb:B=2^b):Nat.add (Nat.shiftRight (pkB B l) b) (Nat.shiftLeft y (b*15))=pkB B (l.drop 1 ++ [y]):=by
 show(pkB B l >>> b)+(y <<< (b*15))=_
 match l,hl with
 | x::l,hl=>
  rw [Nat.shiftRight_eq_div_pow,←hb,pkB,Nat.add_mul_div_left _ _ hB,Nat.div_eq_of_lt (hx x (by simp)),Nat.zero_add,List.drop_one,List.tail_cons,Ua,show l.length=15 by simpa using hl,Nat.shiftLeft_eq,Nat.pow_mul,←hb,Nat.mul_comm y]
theorem XU {V:List (Nat→Nat)} (hV:∀v∈V,W32 v) (i:Nat):W32 (V.getD i fun _=>0):=fun j=>by
 rcases Nat.lt_or_ge i V.length with hi|hi
 ·simp only [List.getD,List.getElem?_eq_getElem hi,Option.getD_some]; exact hV _ (List.getElem_mem hi) j
 ·simp [List.getD,List.getElem?_eq_none hi]
theorem cM (V:List (Nat→Nat)) (j i:Nat):(V.map fun v=>v i).getD j 0=(V.getD j fun _=>0) i:=U3 (fun v:Nat→Nat=>v i) (fun _=>0) V j rfl
theorem ZX {n:Nat} {f:Nat→Nat} (h:∀i,f i<18446744073709551616):Nat.land (pv n f) (pv n fun _=>4294967295)=pv n fun i=>f i%4294967296:=oT h
theorem o5 {n:Nat} {e f g:Nat→Nat} (he:W32 e) (hf:W32 f) (hg:W32 g):Nat.xor (Nat.land (pv n e) (pv n f)) (Nat.land (Nat.xor (pv n fun _=>4294967295) (pv n e)) (pv n g))=pv n fun i=>chN (e i) (f i) (g i):=by
 show(pv n e &&& pv n f) ^^^ ((pv n (fun _=>4294967295) ^^^ pv n e) &&& pv n g)=_
 rw [bL he.u hf.u,jU (fun _=>by decide) he.u,bL (W32.u fun i=>yl (by decide) (he i)) hg.u,jU (W32.u fun i=>yx (hf i)) (W32.u fun i=>yx (hg i))]
 rfl
theorem o7 {n:Nat} {a b c:Nat→Nat} (ha:W32 a) (hb:W32 b) (hc:W32 c):Nat.xor (Nat.xor (Nat.land (pv n a) (pv n b)) (Nat.land (pv n a) (pv n c))) (Nat.land (pv n b) (pv n c))=pv n fun i=>mjN (a i) (b i) (c i):=by
 show((pv n a &&& pv n b) ^^^ (pv n a &&& pv n c)) ^^^ (pv n b &&& pv n c)=_
 rw [bL ha.u hb.u,bL ha.u hc.u,bL hb.u hc.u,jU (W32.u fun i=>yx (hb i)) (W32.u fun i=>yx (hc i)),jU (W32.u fun i=>yl (yx (hb i)) (yx (hc i))) (W32.u fun i=>yx (hc i))]
 rfl
theorem nN {e f g:Nat} (hf:f<4294967296) (hg:g<4294967296):chN e f g<4294967296:=yl (yx hf) (yx hg)
theorem nH {a b c:Nat} (hb:b<4294967296) (hc:c<4294967296):mjN a b c<4294967296:=yl (yl (yx hb) (yx hc)) (yx hc)
theorem PH (k:Nat) (ks:List Nat):∀(L:List Nat) (s:H8),L.length=16→s.run (k::ks) (xg (ks.length+1) L)=(s.step k (L.getD 0 0)).run ks (xg ks.length (L.drop 1 ++ [vZ L]))
 | v::L,s,hl=>by
  have e:xg (ks.length+1) (v::L)=v::xg ks.length (L ++ [vZ (v::L)]):=by
   rw [xg,List.cons_append,pi _ _ (by simp at hl ⊢; omega)]
  rw [e]
  rfl
 | [],s,hl=>by simp at hl
theorem Do {R:Type} (n:Nat) (K:Nat→Nat→Nat→Nat→Nat→Nat→Nat→Nat→R):∀(ks:List Nat) (V:List (Nat→Nat)) (s:Nat→H8),(∀k∈ks,k<4294967296)→V.length=16→(∀v∈V,W32 v)→(∀i,(s i).lt)→∀S:Nat→H8,(∀i,S i=(s i).run ks (xg ks.length (V.map fun v=>v i))) →
  rdP (pv n fun _=>4294967295) (pv n fun _=>1) (64*n) (64*n*9) (64*n*14) (64*n*15) (2^(64*n)-1) ks (pkB (2^(64*n)) (yC V n)) (pv n fun i=>(s i).a) (pv n fun i=>(s i).b) (pv n fun i=>(s i).c) (pv n fun i=>(s i).d) (pv n fun i=>(s i).e) (pv n fun i=>(s i).f) (pv n fun i=>(s i).g) (pv n fun i=>(s i).h) K=
   K (pv n fun i=>(S i).a) (pv n fun i=>(S i).b) (pv n fun i=>(S i).c) (pv n fun i=>(S i).d) (pv n fun i=>(S i).e) (pv n fun i=>(S i).f) (pv n fun i=>(S i).g) (pv n fun i=>(S i).h)
 | [],V,s,_,hl,hV,hs,S,hS=>by
  have:S=s:=funext fun i=>by rw [hS i]; rfl
  subst this; rfl
 | k ::ks,V,s,hk,hl,hV,hs,S,hS=>by
  have hk0:=hk k (by simp)
  have hA:W32 fun i=>(s i).a:=fun i=>(hs i).1
  have hB:W32 fun i=>(s i).b:=fun i=>(hs i).2.1
  have hC:W32 fun i=>(s i).c:=fun i=>(hs i).2.2.1
  have hD:W32 fun i=>(s i).d:=fun i=>(hs i).2.2.2.1
  have hE:W32 fun i=>(s i).e:=fun i=>(hs i).2.2.2.2.1
  have hF:W32 fun i=>(s i).f:=fun i=>(hs i).2.2.2.2.2.1
  have hG:W32 fun i=>(s i).g:=fun i=>(hs i).2.2.2.2.2.2.1
  have hH:W32 fun i=>(s i).h:=fun i=>(hs i).2.2.2.2.2.2.2
  have hpos:0<2^(64*n):=Nat.two_pow_pos _
  have lane:=fun i=>tA (n:=n) hV i
  have l0:Nat.land (pkB (2^(64*n)) (yC V n)) (2^(64*n)-1)=pv n (V.getD 0 fun _=>0):=lane 0
  have l1:Nat.land (Nat.shiftRight (pkB (2^(64*n)) (yC V n)) (64*n)) (2^(64*n)-1)=pv n (V.getD 1 fun _=>0):=by have:=lane 1; rwa [Nat.mul_one]at this
  have l9:=lane 9
  have l14:=lane 14
  have b0:=XU hV 0
  have b1:=XU hV 1
  have b9:=XU hV 9
  have b14:=XU hV 14
  let V':=V.drop 1 ++ [fun i=>vZ (V.map fun v=>v i)]
  have hV':∀v∈V',W32 v:=fun v hv=>by
   rcases List.mem_append.1 hv with h|h
   ·exact hV v (List.mem_of_mem_drop h)
   ·simp at h; subst h; exact fun i=>Zk _
  have bS0':W32 fun i=>bS0 (s i).a:=fun i=>oH (hA i)
  have bS1':W32 fun i=>bS1 (s i).e:=fun i=>nL (hE i)
  have bch:W32 fun i=>chN (s i).e (s i).f (s i).g:=fun i=>nN (hF i) (hG i)
  have bmj:W32 fun i=>mjN (s i).a (s i).b (s i).c:=fun i=>nH (hB i) (hC i)
  have bs0:W32 fun i=>sg0 ((V.getD 1 fun _=>0) i):=fun i=>oG (b1 i)
  have bs1:W32 fun i=>sg1 ((V.getD 14 fun _=>0) i):=fun i=>n9 (b14 i)
  have eN:Nat.land (Nat.add (Nat.add (Nat.add (pv n (V.getD 0 fun _=>0)) (yP (pv n fun _=>4294967295) (Nat.mul (pv n (V.getD 1 fun _=>0)) 4294967297) (pv n (V.getD 1 fun _=>0)) 7 18 3)) (pv n (V.getD 9 fun _=>0))) (yP (pv n fun _=>4294967295) (Nat.mul (pv n (V.getD 14 fun _=>0)) 4294967297) (pv n (V.getD 14 fun _=>0)) 17 19 10)) (pv n fun _=>4294967295)=pv n fun i=>vZ (V.map fun v=>v i):=by
   show Nat.land (_+yP _ (_*4294967297) _ _ _ _+_+yP _ (_*4294967297) _ _ _ _) _=_
   rw [vf,vf,sa b1,ru b14,xu,xu,xu]
   rw [ZX fun i=>by have h0:=b0 i; have h9:=b9 i; have h1:sg0 ((V.getD 1 fun _=>0) i)<4294967296:=bs0 i; have h2:sg1 ((V.getD 14 fun _=>0) i)<4294967296:=bs1 i; omega]
   refine vD fun i _=> ?_
   unfold vZ m32
   rw [List.length_map,hl,cM,cM,cM,cM]
   show((V.getD 0 fun _=>0) i+sg0 ((V.getD 1 fun _=>0) i)+(V.getD 9 fun _=>0) i+sg1 ((V.getD 14 fun _=>0) i))%4294967296=((((V.getD 0 fun _=>0) i+sg0 ((V.getD 1 fun _=>0) i))%4294967296+(V.getD 9 fun _=>0) i)%4294967296+sg1 ((V.getD 14 fun _=>0) i))%4294967296
   omega
  have eW:Nat.add (Nat.shiftRight (pkB (2^(64*n)) (yC V n)) (64*n)) (Nat.shiftLeft (pv n fun i=>vZ (V.map fun v=>v i)) (64*n*15))=pkB (2^(64*n)) (yC V' n):=by
   rw [eo hpos (by simp [yC,hl]) (fun x hx=>by
    obtain⟨v,hv,rfl⟩:=List.mem_map.1 hx
    exact GJ (hV v hv).u) rfl]
   simp [yC,V',List.map_append,List.map_drop]
  let T:Nat→Nat:=fun i=>(s i).h+bS1 (s i).e+chN (s i).e (s i).f (s i).g+1*k+(V.getD 0 fun _=>0) i
  have eT:Nat.add (Nat.add (Nat.add (Nat.add (pv n fun i=>(s i).h) (xP (pv n fun _=>4294967295) (Nat.mul (pv n fun i=>(s i).e) 4294967297) 6 11 25)) (Nat.xor (Nat.land (pv n fun i=>(s i).e) (pv n fun i=>(s i).f)) (Nat.land (Nat.xor (pv n fun _=>4294967295) (pv n fun i=>(s i).e)) (pv n fun i=>(s i).g)))) (Nat.mul (pv n fun _=>1) k)) (pv n (V.getD 0 fun _=>0))=pv n T:=by
   show _+xP _ (_*4294967297) _ _ _+_+_*k+_=_
   rw [vf,vf,tl hE,o5 hE hF hG,xu,xu,xu,xu]
  have hT:∀i,T i<30000000000:=fun i=>by
   have h1:(s i).h<4294967296:=hH i; have h2:bS1 (s i).e<4294967296:=bS1' i; have h3:chN (s i).e (s i).f (s i).g<4294967296:=bch i; have h4:=b0 i
   show(s i).h+bS1 (s i).e+chN (s i).e (s i).f (s i).g+1*k+(V.getD 0 fun _=>0) i<_
   omega
  have ea:Nat.land (Nat.add (pv n T) (Nat.add (xP (pv n fun _=>4294967295) (Nat.mul (pv n fun i=>(s i).a) 4294967297) 2 13 22) (Nat.xor (Nat.xor (Nat.land (pv n fun i=>(s i).a) (pv n fun i=>(s i).b)) (Nat.land (pv n fun i=>(s i).a) (pv n fun i=>(s i).c))) (Nat.land (pv n fun i=>(s i).b) (pv n fun i=>(s i).c))))) (pv n fun _=>4294967295)=pv n fun i=>((s i).step k ((V.getD 0 fun _=>0) i)).a:=by
   show Nat.land (_+(xP _ (_*4294967297) _ _ _+_)) _=_
   rw [vf,sw hA,o7 hA hB hC,xu,xu,ZX fun i=>by have h0:=hT i; have h1:bS0 (s i).a<4294967296:=bS0' i; have h2:mjN (s i).a (s i).b (s i).c<4294967296:=bmj i; omega]
   refine vD fun i _=> ?_
   show(T i+(bS0 (s i).a+mjN (s i).a (s i).b (s i).c))%4294967296=m32 (tN (s i) k ((V.getD 0 fun _=>0) i)+m32 (bS0 (s i).a+mjN (s i).a (s i).b (s i).c))
   show((s i).h+bS1 (s i).e+chN (s i).e (s i).f (s i).g+1*k+(V.getD 0 fun _=>0) i+(bS0 (s i).a+mjN (s i).a (s i).b (s i).c))%4294967296=_
   unfold tN m32
   omega
  have ee:Nat.land (Nat.add (pv n fun i=>(s i).d) (pv n T)) (pv n fun _=>4294967295)=pv n fun i=>((s i).step k ((V.getD 0 fun _=>0) i)).e:=by
   show Nat.land (_+_) _=_
   rw [xu,ZX fun i=>by have h0:=hT i; have h1:(s i).d<4294967296:=hD i; omega]
   refine vD fun i _=> ?_
   show((s i).d+((s i).h+bS1 (s i).e+chN (s i).e (s i).f (s i).g+1*k+(V.getD 0 fun _=>0) i))%4294967296=m32 ((s i).d+tN (s i) k ((V.getD 0 fun _=>0) i))
   unfold tN m32
   omega
  have step:∀M O b b9' b14' b15 BM W a b' c d e f g h,rdP M O b b9' b14' b15 BM (k::ks) W a b' c d e f g h K=
   rdP M O b b9' b14' b15 BM ks (Nat.add (Nat.shiftRight W b) (Nat.shiftLeft (Nat.land (Nat.add (Nat.add (Nat.add (Nat.land W BM) (yP M (Nat.mul (Nat.land (Nat.shiftRight W b) BM) 4294967297) (Nat.land (Nat.shiftRight W b) BM) 7 18 3)) (Nat.land (Nat.shiftRight W b9') BM)) (yP M (Nat.mul (Nat.land (Nat.shiftRight W b14') BM) 4294967297) (Nat.land (Nat.shiftRight W b14') BM) 17 19 10)) M) b15))
    (Nat.land (Nat.add (Nat.add (Nat.add (Nat.add (Nat.add h (xP M (Nat.mul e 4294967297) 6 11 25)) (Nat.xor (Nat.land e f) (Nat.land (Nat.xor M e) g))) (Nat.mul O k)) (Nat.land W BM)) (Nat.add (xP M (Nat.mul a 4294967297) 2 13 22) (Nat.xor (Nat.xor (Nat.land a b') (Nat.land a c)) (Nat.land b' c)))) M) a b' c
    (Nat.land (Nat.add d (Nat.add (Nat.add (Nat.add (Nat.add h (xP M (Nat.mul e 4294967297) 6 11 25)) (Nat.xor (Nat.land e f) (Nat.land (Nat.xor M e) g))) (Nat.mul O k)) (Nat.land W BM))) M) e f g K:=by
   intros
   unfold rdP
   dsimp only
   simp only [zi]
  rw [step,l0,l1,l9,l14,eN,eW,eT,ea,ee]
  refine Do n K ks V' (fun i=>(s i).step k ((V.getD 0 fun _=>0) i)) (fun x hx=>hk x (by simp [hx])) (by simp [V',hl]) hV' (fun i=>H8.step_lt (hs i) _ _) S fun i=> ?_
  rw [hS i]
  show(s i).run (k::ks) (xg (ks.length+1) (V.map fun v=>v i))=_
  rw [PH k ks _ (s i) (by simp [hl]),cM]
  simp only [V',List.map_append,List.map_cons,List.map_nil,List.map_drop]
section
variable {R:Type}
noncomputable def lh (M O b b9 b14 b15 BM:Nat) (W:Nat) (K:Nat→Nat→Nat→Nat→R):R:=
 nfc (Nat.mul O 1779033703) fun a0=>nfc (Nat.mul O 3144134277) fun b0=>nfc (Nat.mul O 1013904242) fun c0=>nfc (Nat.mul O 2773480762) fun d0=>
 rdP M O b b9 b14 b15 BM kW W a0 b0 c0 d0 (Nat.mul O 1359893119) (Nat.mul O 2600822924) (Nat.mul O 528734635) (Nat.mul O 1541459225) fun a' b' c' d' _ _ _ _=>
  nfc (Nat.land (Nat.add a' a0) M) fun a=>nfc (Nat.land (Nat.add b' b0) M) fun b=>nfc (Nat.land (Nat.add c' c0) M) fun c=>nfc (Nat.land (Nat.add d' d0) M) fun d=>K a b c d
end
theorem sy:∀k∈kW,k<4294967296:=by decide
theorem K1 {R:Type} (n:Nat) (V:List (Nat→Nat)) (hl:V.length=16) (hV:∀v∈V,W32 v) (K:Nat→Nat→Nat→Nat→R):
  lh (pv n fun _=>4294967295) (pv n fun _=>1) (64*n) (64*n*9) (64*n*14) (64*n*15) (2^(64*n)-1) (pkB (2^(64*n)) (yC V n)) K=
   K (pv n fun i=>(yk.block (V.map fun v=>v i)).a) (pv n fun i=>(yk.block (V.map fun v=>v i)).b) (pv n fun i=>(yk.block (V.map fun v=>v i)).c) (pv n fun i=>(yk.block (V.map fun v=>v i)).d):=by
 unfold lh
 simp only [zi]
 have ec:∀c:Nat,Nat.mul (pv n fun _=>1) c=pv n fun _=>c:=fun c=>by
  show(pv n fun _=>1)*c=_
  rw [vf]; simp only [Nat.one_mul]
 simp only [ec]
 have h:=Do n (fun a' b' c' d' _ _ _ _=>K (Nat.land (Nat.add a' (pv n fun _=>1779033703)) (pv n fun _=>4294967295)) (Nat.land (Nat.add b' (pv n fun _=>3144134277)) (pv n fun _=>4294967295)) (Nat.land (Nat.add c' (pv n fun _=>1013904242)) (pv n fun _=>4294967295)) (Nat.land (Nat.add d' (pv n fun _=>2773480762)) (pv n fun _=>4294967295)))
  kW V (fun _=>yk) sy hl hV (fun _=>kL) (fun i=>yk.run kW (xg 48 (V.map fun v=>v i))) (fun i=>by
   show yk.run kW (xg 48 _)=yk.run kW (xg kW.length _)
   rw [GZ yk _ (by simp [hl])])
 refine Eq.trans h ?_
 have hr:∀i,(yk.run kW (xg 48 (V.map fun v=>v i))).lt:=fun i=>H8.run_lt _ _ kL
 have fin:∀(f:Nat→Nat) (c:Nat),W32 f→c<4294967296→Nat.land (Nat.add (pv n f) (pv n fun _=>c)) (pv n fun _=>4294967295)=pv n fun i=>m32 (c+f i):=fun f c hf hc=>by
  show Nat.land (_+_) _=_
  rw [xu,ZX fun i=>by have:=hf i; omega]
  refine vD fun i _=> ?_
  rw [Nat.add_comm]; rfl
 rw [fin _ _ (fun i=>(hr i).1) (by decide),fin _ _ (fun i=>(hr i).2.1) (by decide),fin _ _ (fun i=>(hr i).2.2.1) (by decide),fin _ _ (fun i=>(hr i).2.2.2.1) (by decide)]
 rfl
def jH (A B C D:Nat):List UInt8:=be4 A++(be4 B++(be4 C++be4 D))
def Z6 (id:List UInt8) (leaf c p:Nat) (v:List UInt8):List UInt8:=(sha (67::(id++(be4 leaf++(UInt8.ofNat c::UInt8.ofNat p::v))))).take 16
def pQ (seed:List UInt8) (leaf c:Nat):List UInt8:=(sha (83::(seed++(be4 leaf ++ [UInt8.ofNat c])))).take 16
theorem ct (s:H8):s.bytes.take 16=jH s.a s.b s.c s.d:=rfl
def qg (leaf c p A B C D:Nat):List Nat:= [leaf%256*16777216+c*65536+p*256+A/16777216,A*256%4294967296+B/16777216,B*256%4294967296+C/16777216,C*256%4294967296+D/16777216,D*256%4294967296+128,0,0,0,0,0,312]
theorem G9 {id:List UInt8} (hid:id.length=16) {leaf c p A B C D:Nat} (hc:c<256) (hp:p<256) (hA:A<4294967296) (hB:B<4294967296) (hC:C<4294967296) (hD:D<4294967296):
  Z6 id leaf c p (jH A B C D)=jH (yk.block (zv (67::(id++(be4 leaf).take 3))++qg leaf c p A B C D)).a (yk.block (zv (67::(id++(be4 leaf).take 3))++qg leaf c p A B C D)).b (yk.block (zv (67::(id++(be4 leaf).take 3))++qg leaf c p A B C D)).c (yk.block (zv (67::(id++(be4 leaf).take 3))++qg leaf c p A B C D)).d:=by
 match id,hid with
 | [x0,x1,x2,x3,x4,x5,x6,x7,x8,x9,x10,x11,x12,x13,x14,x15],_=>
  have key:zv ((pad (67::([x0,x1,x2,x3,x4,x5,x6,x7,x8,x9,x10,x11,x12,x13,x14,x15]++(be4 leaf++(UInt8.ofNat c::UInt8.ofNat p::jH A B C D))))).take 64)=zv (67::([x0,x1,x2,x3,x4,x5,x6,x7,x8,x9,x10,x11,x12,x13,x14,x15]++(be4 leaf).take 3))++qg leaf c p A B C D:=by
   simp only [pad,bc,u6,u8s,List.cons_append,List.nil_append,be4,jH,List.length_cons,List.length_nil,List.take,List.replicate,beN,List.map_cons,List.map_nil,zv,qg,UInt8.toNat_ofNat',word4,List.cons.injEq,and_true,true_and]
   refine⟨?_, ?_, ?_, ?_, ?_⟩<;>omega
  unfold Z6 sha
  have e1:((67::([x0,x1,x2,x3,x4,x5,x6,x7,x8,x9,x10,x11,x12,x13,x14,x15]++(be4 leaf++(UInt8.ofNat c::UInt8.ofNat p::jH A B C D)))).length+72)/64=1:=by simp [be4,jH]
  rw [e1,H8.blk,H8.blk,key,ct]
def pt (leaf c:Nat):List Nat:= [leaf%256*16777216+c*65536+32768,0,0,0,0,0,304]
theorem ly {seed:List UInt8} (hs:seed.length=32) {leaf c:Nat} (hc:c<256):
  pQ seed leaf c=jH (yk.block (zv (83::(seed++(be4 leaf).take 3))++pt leaf c)).a (yk.block (zv (83::(seed++(be4 leaf).take 3))++pt leaf c)).b (yk.block (zv (83::(seed++(be4 leaf).take 3))++pt leaf c)).c (yk.block (zv (83::(seed++(be4 leaf).take 3))++pt leaf c)).d:=by
 match seed,hs with
 | [x0,x1,x2,x3,x4,x5,x6,x7,x8,x9,x10,x11,x12,x13,x14,x15,y0,y1,y2,y3,y4,y5,y6,y7,y8,y9,y10,y11,y12,y13,y14,y15],_=>
  have key:zv ((pad (83::([x0,x1,x2,x3,x4,x5,x6,x7,x8,x9,x10,x11,x12,x13,x14,x15,y0,y1,y2,y3,y4,y5,y6,y7,y8,y9,y10,y11,y12,y13,y14,y15]++(be4 leaf ++ [UInt8.ofNat c])))).take 64)=zv (83::([x0,x1,x2,x3,x4,x5,x6,x7,x8,x9,x10,x11,x12,x13,x14,x15,y0,y1,y2,y3,y4,y5,y6,y7,y8,y9,y10,y11,y12,y13,y14,y15]++(be4 leaf).take 3))++pt leaf c:=by
   simp only [pad,bc,u6,u8s,List.cons_append,List.nil_append,be4,List.length_cons,List.length_nil,List.take,List.replicate,beN,List.map_cons,List.map_nil,zv,pt,UInt8.toNat_ofNat',word4,List.cons.injEq,and_true,true_and]
   omega
  unfold pQ sha
  have e1:((83::([x0,x1,x2,x3,x4,x5,x6,x7,x8,x9,x10,x11,x12,x13,x14,x15,y0,y1,y2,y3,y4,y5,y6,y7,y8,y9,y10,y11,y12,y13,y14,y15]++(be4 leaf ++ [UInt8.ofNat c]))).length+72)/64=1:=by simp [be4]
  rw [e1,H8.blk,H8.blk,key,ct]
theorem Wr (B:Nat):∀(l r:List Nat),pkB B (l++r)=pkB B l+B^l.length*pkB B r
 | [],r=>by simp [pkB]
 | x::l,r=>by
  simp only [List.cons_append,pkB,Wr B l r,List.length_cons,Nat.pow_succ,Nat.mul_add,Nat.add_assoc]
  congr 2
  rw [←Nat.mul_assoc,Nat.mul_comm B (B^l.length)]
noncomputable def bcP (O b k:Nat):Nat→Nat:=Nat.rec (motive:=fun _=>Nat→Nat) (fun _=>0) (fun _ ih m=>nfc (Nat.shiftRight m 32) fun m'=>Nat.add (Nat.mul O (w4K m)) (Nat.shiftLeft (ih m') b)) k
theorem Jv (n:Nat):∀(k:Nat) (l:List UInt8),4*k≤l.length→bcP (pv n fun _=>1) (64*n) k (zc l)=pkB (2^(64*n)) (yC ((zv (l.take (4*k))).map fun w _=>w) n)
 |0,l,h=>rfl
 | k+1,x::y::z::w::l,h=>by
  have e0:bcP (pv n fun _=>1) (64*n) (k+1) (zc (x::y::z::w::l))=nfc (Nat.shiftRight (zc (x::y::z::w::l)) 32) fun m'=>Nat.add (Nat.mul (pv n fun _=>1) (w4K (zc (x::y::z::w::l)))) (Nat.shiftLeft (bcP (pv n fun _=>1) (64*n) k m') (64*n)):=rfl
  have hx:=x.toNat_lt; have hy:=y.toNat_lt; have hz:=z.toNat_lt; have hw:=w.toNat_lt
  have en:zc (x::y::z::w::l)=x.toNat+256*(y.toNat+256*(z.toNat+256*(w.toNat+256*zc l))):=rfl
  have e1:Nat.shiftRight (zc (x::y::z::w::l)) 32=zc l:=by
   show zc (x::y::z::w::l) >>> 32=_
   rw [Nat.shiftRight_eq_div_pow,en]; omega
  have e2:w4K (zc (x::y::z::w::l))=word4 x.toNat y.toNat z.toNat w.toNat:=by
   show(zc (x::y::z::w::l)%256)*16777216+(zc (x::y::z::w::l)/256%256)*65536+(zc (x::y::z::w::l)/65536%256)*256+zc (x::y::z::w::l)/16777216%256=_
   rw [en]; unfold word4; omega
  rw [e0,zi,e1,e2,Jv n k l (by simp at h; omega),show 4*(k+1)=4*k+1+1+1+1 by omega]
  show(pv n fun _=>1)*_+(_ <<< _)=_
  rw [vf,Nat.shiftLeft_eq,Nat.mul_comm _ (2^(64*n))]
  simp only [Nat.one_mul]
  rfl
 |k+1,[],h=>by simp at h
 |k+1,[_],h=>by simp at h; try omega
 |k+1,[_,_],h=>by simp at h; try omega
 |k+1,[_,_,_],h=>by simp at h; try omega
section
variable {R:Type}
noncomputable def QJ (M M8 O b b5 b9 b14 b15 BM T C04 CL5 p A B C D:Nat) (K:Nat→Nat→Nat→Nat→R):R:=
 nfc (Nat.add C04 (Nat.shiftLeft (Nat.add (Nat.add (Nat.add CL5 (Nat.mul O (Nat.mul p 256))) (Nat.land (Nat.shiftRight A 24) M8)) (Nat.shiftLeft (Nat.add (Nat.add (Nat.land (Nat.mul A 256) M) (Nat.land (Nat.shiftRight B 24) M8)) (Nat.shiftLeft (Nat.add (Nat.add (Nat.land (Nat.mul B 256) M) (Nat.land (Nat.shiftRight C 24) M8)) (Nat.shiftLeft (Nat.add (Nat.add (Nat.land (Nat.mul C 256) M) (Nat.land (Nat.shiftRight D 24) M8)) (Nat.shiftLeft (Nat.add (Nat.land (Nat.mul D 256) M) T) b)) b)) b)) b)) b5)) fun W=>lh M O b b9 b14 b15 BM W K
end
theorem WT (x b:Nat):Nat.shiftLeft x b=2^b*x:=by
 show x <<< b=_
 rw [Nat.shiftLeft_eq,Nat.mul_comm]
theorem Zj {n:Nat} {f:Nat→Nat} (h:W32 f):Nat.land (Nat.mul (pv n f) 256) (pv n fun _=>4294967295)=pv n fun i=>f i*256%4294967296:=by
 show Nat.land (_*256) _=_
 rw [vf,ZX fun i=>by have:=h i; omega]
theorem KK {n:Nat} {f:Nat→Nat} (h:W32 f):Nat.land (Nat.shiftRight (pv n f) 24) (pv n fun _=>255)=pv n fun i=>f i/16777216:=by
 have e:=X6 (n:=n) (k:=24) (by decide) (m:=255) (by decide) (fun i=>h.u i)
 refine Eq.trans e (vD fun i _=> ?_)
 rw [Nat.shiftRight_eq_div_pow,show(255:Nat)=2^8-1 from rfl,Nat.and_two_pow_sub_one_eq_mod]
 show f i/16777216%256=_
 have:=h i
 omega
def uj (leaf p:Nat) (c A B C D:Nat→Nat):List (Nat→Nat):= [fun i=>leaf%256*16777216+c i*65536+p*256+A i/16777216,fun i=>A i*256%4294967296+B i/16777216,fun i=>B i*256%4294967296+C i/16777216,fun i=>C i*256%4294967296+D i/16777216,fun i=>D i*256%4294967296+128,fun _=>0,fun _=>0,fun _=>0,fun _=>0,fun _=>0,fun _=>312]
theorem XM {l:List Nat} (h:∀x∈l,x<4294967296):∀v∈(l.map fun w (_:Nat)=>w),W32 v:=fun v hv=>by
 obtain⟨w,hw,rfl⟩:=List.mem_map.1 hv
 exact fun _=>h w hw
theorem Xk (l:List Nat) (i:Nat):(l.map fun w (_:Nat)=>w).map (fun v=>v i)=l:=by
 rw [List.map_map]; simp [Function.comp_def]
theorem mR (B x:Nat):B*(0+B*(0+B*(0+B*(0+B*(0+B*(x+B*0))))))=B^6*x:=by
 simp only [Nat.zero_add,Nat.mul_zero,Nat.add_zero,Nat.pow_succ,Nat.pow_zero,Nat.one_mul,Nat.mul_assoc]
theorem PW {R:Type} (n:Nat) {ws:List Nat} (hw:ws.length=5) (hws:∀x∈ws,x<4294967296) {leaf p:Nat} {c A B C D:Nat→Nat} (hc:∀i,c i<256) (hp:p<256) (hA:W32 A) (hB:W32 B) (hC:W32 C) (hD:W32 D) (K:Nat→Nat→Nat→Nat→R):
  QJ (pv n fun _=>4294967295) (pv n fun _=>255) (pv n fun _=>1) (64*n) (64*n*5) (64*n*9) (64*n*14) (64*n*15) (2^(64*n)-1) (Nat.add (pv n fun _=>128) (Nat.shiftLeft (pv n fun _=>312) (64*n*6))) (pkB (2^(64*n)) (yC (ws.map fun w _=>w) n)) (pv n fun i=>leaf%256*16777216+c i*65536) p (pv n A) (pv n B) (pv n C) (pv n D) K=
   K (pv n fun i=>(yk.block (ws++qg leaf (c i) p (A i) (B i) (C i) (D i))).a) (pv n fun i=>(yk.block (ws++qg leaf (c i) p (A i) (B i) (C i) (D i))).b) (pv n fun i=>(yk.block (ws++qg leaf (c i) p (A i) (B i) (C i) (D i))).c) (pv n fun i=>(yk.block (ws++qg leaf (c i) p (A i) (B i) (C i) (D i))).d):=by
 unfold QJ
 rw [zi,Zj hA,Zj hB,Zj hC,Zj hD,KK hA,KK hB,KK hC,KK hD]
 have ec:Nat.mul (pv n fun _=>1) (Nat.mul p 256)=pv n fun _=>p*256:=by
  show(pv n fun _=>1)*(p*256)=_
  rw [vf]; simp only [Nat.one_mul]
 have hV:∀v∈(ws.map fun w (_:Nat)=>w)++uj leaf p c A B C D,W32 v:=fun v hv=>by
  rcases List.mem_append.1 hv with h|h
  ·exact XM hws v h
  ·simp only [uj,List.mem_cons,List.not_mem_nil,or_false]at h
   rcases h with rfl|rfl|rfl|rfl|rfl|rfl|rfl|rfl|rfl|rfl|rfl<;>intro i<;>have h1:=hc i<;>have h2:=hA i<;>have h3:=hB i<;>have h4:=hC i<;>have h5:=hD i<;>dsimp only<;>omega
 have eW:(pkB (2^(64*n)) (yC (ws.map fun w _=>w) n))+2^(64*n*5)*pkB (2^(64*n)) (yC (uj leaf p c A B C D) n)=pkB (2^(64*n)) (yC ((ws.map fun w (_:Nat)=>w)++uj leaf p c A B C D) n):=by
  rw [show yC ((ws.map fun w (_:Nat)=>w)++uj leaf p c A B C D) n=yC (ws.map fun w _=>w) n++yC (uj leaf p c A B C D) n from List.map_append,Wr]
  rw [show(yC (ws.map fun w (_:Nat)=>w) n).length=5 by simp [yC,hw],Nat.pow_mul 2 (64*n) 5]
 have eT:pkB (2^(64*n)) (yC (uj leaf p c A B C D) n)=Nat.add (Nat.add (Nat.add (pv n fun i=>leaf%256*16777216+c i*65536) (pv n fun _=>p*256)) (pv n fun i=>A i/16777216)) (Nat.shiftLeft (Nat.add (Nat.add (pv n fun i=>A i*256%4294967296) (pv n fun i=>B i/16777216)) (Nat.shiftLeft (Nat.add (Nat.add (pv n fun i=>B i*256%4294967296) (pv n fun i=>C i/16777216)) (Nat.shiftLeft (Nat.add (Nat.add (pv n fun i=>C i*256%4294967296) (pv n fun i=>D i/16777216)) (Nat.shiftLeft (Nat.add (pv n fun i=>D i*256%4294967296) (Nat.add (pv n fun _=>128) (Nat.shiftLeft (pv n fun _=>312) (64*n*6)))) (64*n))) (64*n))) (64*n))) (64*n)):=by
  simp only [WT]
  show _=_+_+_+2^(64*n)*(_+_+2^(64*n)*(_+_+2^(64*n)*(_+_+2^(64*n)*(_+(_+_)))))
  rw [xu,xu,xu,xu,xu,←Nat.add_assoc (pv n fun i=>D i*256%4294967296),xu,Nat.pow_mul 2 (64*n) 6,←mR (2^(64*n))]
  simp only [yC,uj,List.map_cons,List.map_nil,pkB,W5]
 rw [ec,←eT,WT]
 have eW':Nat.add (pkB (2^(64*n)) (yC (ws.map fun w _=>w) n)) (2^(64*n*5)*pkB (2^(64*n)) (yC (uj leaf p c A B C D) n))=_:=eW
 rw [eW',K1 n _ (by simp [uj,hw]) hV]
 have eL:∀i,((ws.map fun w (_:Nat)=>w)++uj leaf p c A B C D).map (fun v=>v i)=ws++qg leaf (c i) p (A i) (B i) (C i) (D i):=fun i=>by
  rw [List.map_append,Xk]; rfl
 simp only [eL]
section
variable {R:Type}
end
def ut (id:List UInt8) (leaf c:Nat):Nat→Nat→List UInt8→List UInt8
 |_,0,v=>v
 |p,n+1,v=>ut id leaf c (p+1) n (Z6 id leaf c p v)
def nV (id:List UInt8) (leaf:Nat) (ends:List UInt8):List UInt8:=(sha (76::(id++(be4 leaf++ends)))).take 16
noncomputable def outP (n:Nat):Nat→Nat→Nat→Nat→Nat:=Nat.rec (motive:=fun _=>Nat→Nat→Nat→Nat→Nat) (fun _ _ _ _=>0) (fun _ ih A B C D=>nfc (Nat.shiftRight A 64) fun A'=>nfc (Nat.shiftRight B 64) fun B'=>nfc (Nat.shiftRight C 64) fun C'=>nfc (Nat.shiftRight D 64) fun D'=>
 Nat.add (Nat.add (o4K A) (Nat.mul 4294967296 (Nat.add (o4K B) (Nat.mul 4294967296 (Nat.add (o4K C) (Nat.mul 4294967296 (o4K D))))))) (Nat.mul 340282366920938463463374607431768211456 (ih A' B' C' D'))) n
theorem Pu (x y:Nat):o4K (x+18446744073709551616*y)=o4K x:=by
 show(x+18446744073709551616*y)/16777216%256+256*((x+18446744073709551616*y)/65536%256+256*((x+18446744073709551616*y)/256%256+256*((x+18446744073709551616*y)%256)))=x/16777216%256+256*(x/65536%256+256*(x/256%256+256*(x%256)))
 have h1:(x+18446744073709551616*y)/16777216%256=x/16777216%256:=by omega
 have h2:(x+18446744073709551616*y)/65536%256=x/65536%256:=by omega
 have h3:(x+18446744073709551616*y)/256%256=x/256%256:=by omega
 have h4:(x+18446744073709551616*y)%256=x%256:=by omega
 rw [h1,h2,h3,h4]
theorem Qu (a b c d:Nat) (l:List UInt8):zc (jH a b c d++l)=(o4K a+4294967296*(o4K b+4294967296*(o4K c+4294967296*o4K d)))+340282366920938463463374607431768211456*zc l:=by
 have n4:∀(x:Nat) (l:List UInt8),zc (be4 x++l)=o4K x+4294967296*zc l:=fun x l=>by rw [yf,dc,show(be4 x).length=4 from rfl,show(256:Nat)^4=4294967296 from rfl]
 unfold jH
 simp only [List.append_assoc,n4]
 omega
theorem W9 {n:Nat} {A:Nat→Nat} (h:W32 A):Nat.shiftRight (pv (n+1) A) 64=pv n fun i=>A (i+1):=by
 show(pv (n+1) A) >>> 64=_
 have:=h 0
 rw [Nat.shiftRight_eq_div_pow,pv]; omega
theorem Zm:∀(n:Nat) {A B C D:Nat→Nat},W32 A→W32 B→W32 C→W32 D→outP n (pv n A) (pv n B) (pv n C) (pv n D)=zc ((List.range n).flatMap fun i=>jH (A i) (B i) (C i) (D i))
 |0,A,B,C,D,_,_,_,_=>rfl
 | n+1,A,B,C,D,hA,hB,hC,hD=>by
  have e0:∀a b c d,outP (n+1) a b c d=nfc (Nat.shiftRight a 64) fun A'=>nfc (Nat.shiftRight b 64) fun B'=>nfc (Nat.shiftRight c 64) fun C'=>nfc (Nat.shiftRight d 64) fun D'=>
   Nat.add (Nat.add (o4K a) (Nat.mul 4294967296 (Nat.add (o4K b) (Nat.mul 4294967296 (Nat.add (o4K c) (Nat.mul 4294967296 (o4K d))))))) (Nat.mul 340282366920938463463374607431768211456 (outP n A' B' C' D')):=fun _ _ _ _=>rfl
  rw [e0]
  simp only [zi]
  rw [W9 hA,W9 hB,W9 hC,W9 hD,Zm n (fun i=>hA (i+1)) (fun i=>hB (i+1)) (fun i=>hC (i+1)) (fun i=>hD (i+1))]
  rw [List.range_succ_eq_map,List.flatMap_cons,Qu,List.flatMap_map]
  simp only [pv,Pu]
  rfl
section
variable {R:Type}
end
theorem D2 (l:List UInt8) (k:Nat):Nat.shiftRight (zc l) (8*k)=zc (l.drop k):=by
 show zc l >>> (8*k)=_
 rw [Nat.shiftRight_eq_div_pow,Nat.pow_mul,jP]
def O35:Nat:=10996907317744048201776382731410793802048645782714020512400457251596748538331474405450875867149761726668807828593098798500685399567041520875592067515910773144625994887707680655329453268887872566001049869710293550134396784388225273277393810974100352408645952997664904916665018199936076462352756316346531115833231102795548960297158953861983644576309807910385838015839817432914994830149465297667558118278755329800282526199791924049110177155763289310922145780207305530304719991902601452389002394240556070482319093715590199305710659362089203858894818256128697135336704349783707641415972881552705137805446667009282041271297772176773668639458687112781151112003585
def M35:Nat:=47231357275856860207533124734812128589787637635796394438719105838653621500472736440541081578512991483085258920447325202264238826224450492067727693742268662794332953049541685934944169240104253693102238126069721922676677043500594131818843880969173105643108843359077977986360953639305219496424387131813025029203584260683665856047551188253633697280154756762839465109199707833140759310586033415219601900518995834799152331788086949596052184735659448352033702417212635572731403749354338063430264900939884685335275383262499937640558988693058693446541039255041687507231333995405264643723191016875777385652861507671621828691064153705603865423642207653033020518508279497752575
def M8:Nat:=2804211366024732291452977596509752419522404674592075230662116599157170877274525973389973346123189240300545996291240193617674776889595587823275977216557247151879628696365458567109010583566407504330267716776124855284271180018997444685735421798395589864204718014404550753749579640983699497899952860668365434537473931212864984875775533234805829366959001017148388694039153445393323681688113650905227320161082609099072044180946940632523095174719638774285147173952862910227703597935163370359195610531341797972991368897475500822956218137332746984018178655312817769510859609194845448561073084795939810140388900087366920524180931905077285503061965213759193533560914175
def C35:Nat:=24503572811172914060315909772262834002096489770742291960019003480539722281251255552536721288718182048983867018954586836912702840369116969123157119252437359201514264798858275488719180401999144764116709128274911470724315927576734615074368400463433226236394091208943148427269219221399694542641431952703455566273009415165489870439185927916653741662218235169773304191197190440782840013261551281823442758170336543473469090273382867350991937537427975971115166902598765702026252729716130631506465599379389662350490451622618505392246672716684307300150988983234790669586569701913386720880643551032199981398744040035955368764234469325711226680055633389480074095899254456320
def PX:Nat:=202857134892728222244455403780239889732096631820631910664811230146099062855146473052224130364722436309490715726098786354848816111231680845226448353724275453289580670277217961928830076407081110482465587228976018799780290606465698196232041597111159153869078635638735543524306207918549051538549551164404570819071864354820267713799742030482847271235462527395385087504985278985294294036715279423317412236088134437741573828351126982707531493745059920401045295323758119680060244068380066847515299389583749286466143251601578398630740197236079859254441981368797290215252030523949959906421461737965638982831197169919730369179456856294549967631332332498659945988123043666582894622539775
theorem mM:M35=pv 35 fun _=>4294967295:=by decide
theorem m8:M8=pv 35 fun _=>255:=by decide
theorem mO:O35=pv 35 fun _=>1:=by decide
theorem mC:C35=pv 35 fun i=>i%256*65536:=by decide
theorem mB:PX=2^(64*35)-1:=by decide +kernel
section
variable {R:Type}
noncomputable def om (M O b b6 b9 b14 b15 BM:Nat) (seed leaf CL5:Nat) (K:Nat→Nat→Nat→Nat→R):R:=
 nfc (bcP O b 9 (Nat.add 83 (Nat.mul 256 (Nat.add seed (Nat.mul 115792089237316195423570985008687907853269984665640564039457584007913129639936 (o4K leaf)))))) fun C09=>
 nfc (Nat.add C09 (Nat.shiftLeft (Nat.add (Nat.add CL5 (Nat.mul O 32768)) (Nat.shiftLeft (Nat.mul O 304) b6)) b9)) fun W=>lh M O b b9 b14 b15 BM W K
noncomputable def n0 (seed leaf CL5:Nat) (K:Nat→Nat→Nat→Nat→R):R:=om M35 O35 2240 13440 20160 31360 33600 PX seed leaf CL5 K
noncomputable def idK (id leaf:Nat):Nat:=bcP O35 2240 5 (Nat.add 67 (Nat.mul 256 (Nat.add id (Nat.mul 340282366920938463463374607431768211456 (o4K leaf)))))
noncomputable def clK (leaf:Nat):Nat:=Nat.add (Nat.mul O35 (Nat.mul (Nat.mod leaf 256) 16777216)) C35
noncomputable def W0 (id leaf A B C D:Nat) (K:Nat→R):R:=nfc (outP 35 A B C D) fun ends=>
 P9 581 (Nat.add 76 (Nat.mul 256 (Nat.add id (Nat.mul 340282366920938463463374607431768211456 (Nat.add (o4K leaf) (Nat.mul 4294967296 ends)))))) fun d=>nfc (Nat.mod d 340282366920938463463374607431768211456) K
end
theorem oP (leaf:Nat):clK leaf=pv 35 fun i=>leaf%256*16777216+i%256*65536:=by
 unfold clK
 rw [mO,mC]
 show(pv 35 fun _=>1)*(leaf%256*16777216)+_=_
 rw [vf,xu]; simp only [Nat.one_mul]
theorem oA {id:List UInt8} (hid:id.length=16) (leaf:Nat):idK (zc id) leaf=pkB (2^(64*35)) (yC ((zv (67::(id++(be4 leaf).take 3))).map fun w _=>w) 35):=by
 have e:Nat.add 67 (Nat.mul 256 (Nat.add (zc id) (Nat.mul 340282366920938463463374607431768211456 (o4K leaf))))=zc (67::(id++be4 leaf)):=by
  show 67+256*(zc id+340282366920938463463374607431768211456*o4K leaf)=67+256*zc (id++be4 leaf)
  rw [yf,hid,dc]
 unfold idK
 rw [e,mO]
 have h:=Jv 35 5 (67::(id++be4 leaf)) (by simp [hid,be4])
 have ht:(67::(id++be4 leaf)).take (4*5)=67::(id++(be4 leaf).take 3):=by
  rw [show 4*5=19+1 from rfl,List.take_succ_cons,List.take_append,List.take_of_length_le (l:=id) (by omega),hid]
 rw [ht]at h
 exact h
theorem fC {R:Type} (n:Nat) {seed:List UInt8} (hs:seed.length=32) (leaf:Nat) (K:Nat→Nat→Nat→Nat→R):
  ∃A B C D,W32 A∧W32 B∧W32 C∧W32 D∧(∀i,jH (A i) (B i) (C i) (D i)=pQ seed leaf (i%256))∧om (pv n fun _=>4294967295) (pv n fun _=>1) (64*n) (64*n*6) (64*n*9) (64*n*14) (64*n*15) (2^(64*n)-1) (zc seed) leaf (pv n fun i=>leaf%256*16777216+i%256*65536) K=K (pv n A) (pv n B) (pv n C) (pv n D):=by
 have hw:(zv (83::(seed++(be4 leaf).take 3))).length=9:=by
  match seed,hs with
  | [x0,x1,x2,x3,x4,x5,x6,x7,x8,x9,x10,x11,x12,x13,x14,x15,y0,y1,y2,y3,y4,y5,y6,y7,y8,y9,y10,y11,y12,y13,y14,y15],_=>simp [zv,be4]
 generalize hws:zv (83::(seed++(be4 leaf).take 3))=ws at hw
 have hwl:∀x∈ws,x<4294967296:=hws▸jx _
 let N:Nat→H8:=fun i=>yk.block (ws++pt leaf (i%256))
 have hN:∀i,(N i).lt:=fun i=>uv _ _
 refine⟨fun i=>(N i).a,fun i=>(N i).b,fun i=>(N i).c,fun i=>(N i).d,fun i=>(hN i).1,fun i=>(hN i).2.1,fun i=>(hN i).2.2.1,fun i=>(hN i).2.2.2.1,fun i=>by rw [ly hs (Nat.mod_lt _ (by decide)),hws], ?_⟩
 let vt:List (Nat→Nat):= [fun i=>leaf%256*16777216+i%256*65536+32768,fun _=>0,fun _=>0,fun _=>0,fun _=>0,fun _=>0,fun _=>304]
 have hV:∀v∈(ws.map fun w (_:Nat)=>w)++vt,W32 v:=fun v hv=>by
  rcases List.mem_append.1 hv with h|h
  ·exact XM hwl v h
  ·simp only [vt,List.mem_cons,List.not_mem_nil,or_false]at h
   rcases h with rfl|rfl|rfl|rfl|rfl|rfl|rfl<;>intro i<;>dsimp only<;>omega
 have e:Nat.add 83 (Nat.mul 256 (Nat.add (zc seed) (Nat.mul 115792089237316195423570985008687907853269984665640564039457584007913129639936 (o4K leaf))))=zc (83::(seed++be4 leaf)):=by
  show 83+256*(zc seed+115792089237316195423570985008687907853269984665640564039457584007913129639936*o4K leaf)=83+256*zc (seed++be4 leaf)
  rw [yf,hs,dc]
 have h9:=Jv n 9 (83::(seed++be4 leaf)) (by simp [hs,be4])
 have ht:(83::(seed++be4 leaf)).take (4*9)=83::(seed++(be4 leaf).take 3):=by
  rw [show 4*9=35+1 from rfl,List.take_succ_cons,List.take_append,List.take_of_length_le (l:=seed) (by omega),hs]
 rw [ht,hws]at h9
 unfold om
 rw [e,zi,zi,h9]
 have ec:∀c:Nat,Nat.mul (pv n fun _=>1) c=pv n fun _=>c:=fun c=>by
  show(pv n fun _=>1)*c=_
  rw [vf]; simp only [Nat.one_mul]
 have eT:pkB (2^(64*n)) (yC vt n)=Nat.add (Nat.add (pv n fun i=>leaf%256*16777216+i%256*65536) (Nat.mul (pv n fun _=>1) 32768)) (Nat.shiftLeft (Nat.mul (pv n fun _=>1) 304) (64*n*6)):=by
  rw [ec,ec,WT]
  show _=_+_+2^(64*n*6)*_
  rw [xu,Nat.pow_mul 2 (64*n) 6,←mR (2^(64*n))]
  simp only [yC,vt,List.map_cons,List.map_nil,pkB,W5]
 rw [←eT,WT]
 have eW:(pkB (2^(64*n)) (yC (ws.map fun w _=>w) n))+2^(64*n*9)*pkB (2^(64*n)) (yC vt n)=pkB (2^(64*n)) (yC ((ws.map fun w (_:Nat)=>w)++vt) n):=by
  rw [show yC ((ws.map fun w (_:Nat)=>w)++vt) n=yC (ws.map fun w _=>w) n++yC vt n from List.map_append,Wr]
  rw [show(yC (ws.map fun w (_:Nat)=>w) n).length=9 by simp [yC,hw],Nat.pow_mul 2 (64*n) 9]
 have eW:Nat.add (pkB (2^(64*n)) (yC (ws.map fun w _=>w) n)) (2^(64*n*9)*pkB (2^(64*n)) (yC vt n))=_:=eW
 rw [eW]
 have hb:=K1 n ((ws.map fun w (_:Nat)=>w)++vt) (by simp [vt,hw]) hV K
 have eL:∀i,((ws.map fun w (_:Nat)=>w)++vt).map (fun v=>v i)=ws++pt leaf (i%256):=fun i=>by
  rw [List.map_append,Xk]; rfl
 simp only [eL]at hb
 exact hb
theorem lk {R:Type} {seed:List UInt8} (hs:seed.length=32) (leaf:Nat) (K:Nat→Nat→Nat→Nat→R):
  ∃A B C D,W32 A∧W32 B∧W32 C∧W32 D∧(∀i,jH (A i) (B i) (C i) (D i)=pQ seed leaf (i%256))∧n0 (zc seed) leaf (pv 35 fun i=>leaf%256*16777216+i%256*65536) K=K (pv 35 A) (pv 35 B) (pv 35 C) (pv 35 D):=by
 have h:=fC 35 hs leaf K
 unfold n0
 rw [mM,mO,mB]
 exact h
theorem bX {f g:Nat→List UInt8} {n:Nat} (h:∀i,i<n→f i=g i):(List.range n).flatMap f=(List.range n).flatMap g:=by
 have:(List.range n).map f=(List.range n).map g:=List.map_congr_left fun i hi=>h i (List.mem_range.1 hi)
 rw [List.flatMap_def,List.flatMap_def,this]
theorem ZG {f:Nat→List UInt8} {k:Nat} (h:∀i,(f i).length=k):∀n,((List.range n).flatMap f).length=k*n
 |0=>rfl
 |n+1=>by rw [List.range_succ,List.flatMap_append,List.length_append,ZG h n,List.flatMap_cons,List.flatMap_nil,List.append_nil,h,Nat.mul_succ]
theorem fG {R:Type} {id:List UInt8} (hid:id.length=16) (leaf:Nat) {ends:List UInt8} (hl:ends.length=560) (K:Nat→R):
  P9 581 (Nat.add 76 (Nat.mul 256 (Nat.add (zc id) (Nat.mul 340282366920938463463374607431768211456 (Nat.add (o4K leaf) (Nat.mul 4294967296 (zc ends))))))) (fun d=>nfc (Nat.mod d 340282366920938463463374607431768211456) K)=K (zc (nV id leaf ends)):=by
 have e:Nat.add 76 (Nat.mul 256 (Nat.add (zc id) (Nat.mul 340282366920938463463374607431768211456 (Nat.add (o4K leaf) (Nat.mul 4294967296 (zc ends))))))=zc (76::(id++(be4 leaf++ends))):=by
  show 76+256*(zc id+340282366920938463463374607431768211456*(o4K leaf+4294967296*zc ends))=76+256*zc (id++(be4 leaf++ends))
  rw [yf,yf,hid,dc,show(be4 leaf).length=4 from rfl,show(256:Nat)^16=340282366920938463463374607431768211456 by decide,show(256:Nat)^4=4294967296 by decide]
 rw [e]
 have hlen:(76::(id++(be4 leaf++ends))).length=581:=by simp [be4,hid,hl]
 have h:=Ku (76::(id++(be4 leaf++ends))) (fun d=>nfc (Nat.mod d 340282366920938463463374607431768211456) K)
 rw [hlen]at h
 rw [h,zi]
 unfold nV
 rw [jQ]
 rfl
theorem gH {R:Type} {id:List UInt8} (hid:id.length=16) (leaf:Nat) {A B C D:Nat→Nat} (hA:W32 A) (hB:W32 B) (hC:W32 C) (hD:W32 D) {f:Nat→List UInt8} (hf:∀i,i<35→jH (A i) (B i) (C i) (D i)=f i) (K:Nat→R):
  W0 (zc id) leaf (pv 35 A) (pv 35 B) (pv 35 C) (pv 35 D) K=K (zc (nV id leaf ((List.range 35).flatMap f))):=by
 unfold W0
 rw [zi,Zm 35 hA hB hC hD,←bX hf]
 exact fG hid leaf (ZG (f:=fun i=>jH (A i) (B i) (C i) (D i)) (k:=16) (fun i=>rfl) 35) K
end Go.K
end
section
namespace Go.K
open Go Go.Abs
theorem vH:∀(n s:Nat),s<256^n→∃t:List UInt8,t.length=n∧zc t=s
 |0,s,h=>⟨[],rfl,by simp at h; subst h; rfl⟩
 | n+1,s,h=>by
  obtain⟨t,h1,h2⟩:=vH n (s/256) (by rw [Nat.pow_succ]at h; omega)
  refine⟨UInt8.ofNat (s%256)::t,by simp [h1], ?_⟩
  show(UInt8.ofNat (s%256)).toNat+256*zc t=s
  rw [UInt8.toNat_ofNat',h2]; omega
noncomputable def lT (l:List KV):Nat→Nat→Nat→(Nat→Nat→Nat→QR)→QR:=
 List.rec (motive:=fun _=>Nat→Nat→Nat→(Nat→Nat→Nat→QR)→QR) (fun k L N K=>K k L N) (fun v _ ih k L N K=>v.onStr (fun n s=>zb (Nat.blt s (Nat.pow 256 n)) (nfc (Nat.add L n) fun L'=>nfc (Nat.add N (Nat.mul (Nat.pow 256 L) s)) fun N'=>ih (Nat.succ k) L' N' K) none) none) l
theorem Kt {K:Nat→Nat→Nat→QR} {r:KV×KH}:∀ {l:List KV} {k L N:Nat},lT l k L N K=some r→∃es:List (List UInt8),es.length=l.length∧(∀(i:Nat) (s:List UInt8),es[i]? =some s→l[i]? =some (.str s.length (zc s)))∧K (k+l.length) (L+es.flatten.length) (N+256^L*zc es.flatten)=some r
 | [],k,L,N,h=>⟨[],rfl,fun i s e=>by simp at e,by
  have h:K k L N=some r:=h
  simpa [zc] using h⟩
 | v ::l,k,L,N,h=>by
  have h:v.onStr (fun n s=>zb (Nat.blt s (Nat.pow 256 n)) (nfc (Nat.add L n) fun L'=>nfc (Nat.add N (Nat.mul (Nat.pow 256 L) s)) fun N'=>lT l (Nat.succ k) L' N' K) none) none=some r:=h
  cases v<;>first|(cases h; done)|skip
  rename_i n s _
  have h:zb (Nat.blt s (Nat.pow 256 n)) (nfc (Nat.add L n) fun L'=>nfc (Nat.add N (Nat.mul (Nat.pow 256 L) s)) fun N'=>lT l (Nat.succ k) L' N' K) none=some r:=h
  rw [za]at h
  split at h
  ·rename_i hlt
   have hlt:s<256^n:=iD hlt
   obtain⟨t,ht1,ht2⟩:=vH n s hlt
   rw [zi,zi]at h
   obtain⟨es,e1,e2,e3⟩:=Kt h
   refine⟨t::es,by simp [e1], ?_, ?_⟩
   ·intro i x hx
    cases i with
    |zero=>simp at hx; subst hx; simp [ht1,ht2]
    |succ i=>simpa using e2 i x (by simpa using hx)
   ·subst ht1 ht2
    rw [List.flatten_cons,List.length_append,yf,List.length_cons]
    have q1:k+(l.length+1)=Nat.succ k+l.length:=by omega
    have q2:L+(t.length+es.flatten.length)=Nat.add L t.length+es.flatten.length:=(Nat.add_assoc _ _ _).symm
    have q3:N+256^L*(zc t+256^t.length*zc es.flatten)=Nat.add N (Nat.mul (Nat.pow 256 L) (zc t))+256^(Nat.add L t.length)*zc es.flatten:=by
     show _=N+256^L*zc t+256^(L+t.length)*zc es.flatten
     rw [Nat.mul_add,Nat.pow_add,Nat.mul_assoc,Nat.add_assoc]
    rw [q1,q2,q3]; exact e3
  ·cases h
noncomputable def YG (short:Bool) (args:List KV) (h:KH):Option (KV×KH):=match args with
 | [.sl id off len c 1]=>match h.get id with
  |some (.cells ro cs)=>zb (Nat.blt len 90000) (lT ((cs.drop off).take len) 0 0 0 fun k L N=>zb (Nat.beq k len) (zb (Nat.blt L 90000) (P9 L N fun d=>zb short (nfc (Nat.mod d (Nat.pow 256 16)) fun d=>some (.str 16 d,h)) (some (.str 32 d,h))) none) none) none
  |_=>none
 |_=>none
theorem Zd {P:Program} {f:FuncId} {short:Bool} (hf:∀a:List (List UInt8),a.length<90000→a.flatten.length<90000→z6 P (fun _=> []) f [.sl 1 (a.map fun s=> [V.str s]) .none] ⟨[],[]⟩ fun u _=>u= .str (if short then(sha a.flatten).take 16 else sha a.flatten))
  {args:List KV} {h h':KH} {v:KV} (e:YG short args h=some (v,h')):KCall P f args h v h':=by
 unfold YG at e
 split at e
 ·rename_i id off len c
  split at e
  ·rename_i ro cs hid
   rw [za]at e
   split at e
   ·rename_i hlen
    have hlen:len<90000:=iD hlen
    obtain⟨es,e1,e2,e3⟩:=Kt e
    simp only [za,Nat.zero_add,Nat.pow_zero,Nat.one_mul]at e3
    split at e3
    ·rename_i hk
     have hk:=iE hk
     split at e3
     ·rename_i hL
      have hL:es.flatten.length<90000:=iD hL
      rw [Ku]at e3
      have key:=KCall.ofA (args:= [.sl id off len c 1]) (h:=h) (hf es (by omega) hL) rfl (fun i x y hx hy=>by
       cases i with
       |succ i=>simp at hx
       | zero=>
        simp only [List.getElem?_cons_zero,Option.some.injEq]at hx hy
        subst hx hy
        refine .strs hid (by omega) fun i s hs=> ?_
        have:=e2 i s hs
        rw [List.getElem?_take]at this
        split at this
        ·rwa [List.getElem?_drop]at this
        ·cases this)
      cases short with
      | false=>
       simp only [Bool.false_eq_true,if_false,Option.some.injEq,Prod.mk.injEq]at e3 key
       obtain⟨rfl,rfl⟩:=e3
       exact key
      | true=>
       simp only [if_true,zi,Option.some.injEq,Prod.mk.injEq]at e3 key
       obtain⟨rfl,rfl⟩:=e3
       have:V.toK (.str ((sha es.flatten).take 16))= .str 16 (Nat.mod (zc (sha es.flatten)) (Nat.pow 256 16)):=by
        show KV.str _ _=_
        rw [jQ]; rfl
       rw [this]at key; exact key
     ·cases e3
    ·cases e3
   ·cases e
  ·cases e
 ·cases e
section
variable {R:Type}
noncomputable def JF (n M M8 O b b5 b9 b14 b15 BM T C04 CL5:Nat) (ps:List Nat):Nat→Nat→Nat→Nat→(List Nat→R)→R:=
 List.rec (motive:=fun _=>Nat→Nat→Nat→Nat→(List Nat→R)→R) (fun A B C D K=>nfc (outP n A B C D) fun o=>K [o]) (fun p _ ih A B C D K=>nfc (outP n A B C D) fun o=>
  QJ M M8 O b b5 b9 b14 b15 BM T C04 CL5 p A B C D fun a b c d=>ih a b c d fun l=>K (o::l)) ps
end
theorem KG {R:Type} (n:Nat) {id:List UInt8} (hid:id.length=16) {leaf:Nat}:∀(m a:Nat) (A B C D:Nat→Nat) (K:List Nat→R),a+m<256→W32 A→W32 B→W32 C→W32 D →
  ∃L:List Nat,L.length=m+1∧(∀j,j≤m→L[j]? =some (zc ((List.range n).flatMap fun i=>ut id leaf (i%256) a j (jH (A i) (B i) (C i) (D i))))) ∧
  JF n (pv n fun _=>4294967295) (pv n fun _=>255) (pv n fun _=>1) (64*n) (64*n*5) (64*n*9) (64*n*14) (64*n*15) (2^(64*n)-1) (Nat.add (pv n fun _=>128) (Nat.shiftLeft (pv n fun _=>312) (64*n*6))) (pkB (2^(64*n)) (yC ((zv (67::(id++(be4 leaf).take 3))).map fun w _=>w) n)) (pv n fun i=>leaf%256*16777216+i%256*65536) (List.range' a m) (pv n A) (pv n B) (pv n C) (pv n D) K=K L
 | 0,a,A,B,C,D,K,ha,hA,hB,hC,hD=>by
  refine⟨[zc ((List.range n).flatMap fun i=>jH (A i) (B i) (C i) (D i))],rfl,fun j hj=> ?_, ?_⟩
  ·obtain rfl:j=0:=by omega
   rfl
  ·show nfc _ _=_
   rw [zi,Zm n hA hB hC hD]
 | m + 1,a,A,B,C,D,K,ha,hA,hB,hC,hD=>by
  have hw:(zv (67::(id++(be4 leaf).take 3))).length=5:=by
   match id,hid with
   | [x0,x1,x2,x3,x4,x5,x6,x7,x8,x9,x10,x11,x12,x13,x14,x15],_=>rfl
  let N:Nat→H8:=fun i=>yk.block (zv (67::(id++(be4 leaf).take 3))++qg leaf (i%256) a (A i) (B i) (C i) (D i))
  have hN:∀i,(N i).lt:=fun i=>uv _ _
  obtain ⟨L,h1,h2,h3⟩:=KG n (leaf:=leaf) hid m (a+1) (fun i=>(N i).a) (fun i=>(N i).b) (fun i=>(N i).c) (fun i=>(N i).d) (fun l=>K (zc ((List.range n).flatMap fun i=>jH (A i) (B i) (C i) (D i))::l)) (by omega)
   (fun i=>(hN i).1) (fun i=>(hN i).2.1) (fun i=>(hN i).2.2.1) (fun i=>(hN i).2.2.2.1)
  refine⟨zc ((List.range n).flatMap fun i=>jH (A i) (B i) (C i) (D i))::L,by simp [h1],fun j hj=> ?_, ?_⟩
  ·cases j with
   |zero=>rfl
   | succ j=>
    rw [List.getElem?_cons_succ,h2 j (by omega)]
    refine congrArg some (congrArg zc (bX fun i hi=> ?_))
    rw [ut,G9 hid (Nat.mod_lt _ (by decide)) (by omega) (hA i) (hB i) (hC i) (hD i)]
  ·rw [List.range'_succ]
   have step:∀M M8 O b b5 b9 b14 b15 BM T C04 CL5 A B C D,JF n M M8 O b b5 b9 b14 b15 BM T C04 CL5 (a::List.range' (a+1) m) A B C D K=
    QJ M M8 O b b5 b9 b14 b15 BM T C04 CL5 a A B C D fun a' b' c d=>JF n M M8 O b b5 b9 b14 b15 BM T C04 CL5 (List.range' (a+1) m) a' b' c d fun l=>K (outP n A B C D::l):=by
    intros
    unfold JF
    dsimp only
    simp only [zi]
   rw [step,Zm n hA hB hC hD,PW n hw (jx _) (fun i=>Nat.mod_lt i (by decide)) (by omega) hA hB hC hD]
   exact h3
noncomputable def GD (id seed leaf:Nat):List Nat:=nfc (clK leaf) fun CL5=>nfc (idK id leaf) fun C04=>n0 seed leaf CL5 fun A B C D=>
 nfc (Nat.add (Nat.mul O35 128) (Nat.shiftLeft (Nat.mul O35 312) 13440)) fun T=>JF 35 M35 M8 O35 2240 11200 20160 31360 33600 PX T C04 CL5 [0,1,2,3,4,5,6,7,8,9,10,11,12,13,14] A B C D fun l=>l
def qQ (id seed:List UInt8) (leaf j c:Nat):List UInt8:=ut id leaf c 0 j (pQ seed leaf c)
theorem WW {id seed:List UInt8} (hid:id.length=16) (hs:seed.length=32) (leaf:Nat):∀j,j≤15→(GD (zc id) (zc seed) leaf)[j]? =some (zc ((List.range 35).flatMap fun c=>qQ id seed leaf j c)):=by
 unfold GD
 rw [zi,zi,oP]
 obtain⟨A,B,C,D,h1,h2,h3,h4,h5,h6⟩:=lk hs leaf (fun A B C D=>nfc (Nat.add (Nat.mul O35 128) (Nat.shiftLeft (Nat.mul O35 312) 13440)) fun T=>JF 35 M35 M8 O35 2240 11200 20160 31360 33600 PX T (idK (zc id) leaf) (pv 35 fun i=>leaf%256*16777216+i%256*65536) [0,1,2,3,4,5,6,7,8,9,10,11,12,13,14] A B C D fun l=>l)
 rw [h6,zi]
 obtain⟨L,g1,g2,g3⟩:=KG 35 (leaf:=leaf) hid 15 0 A B C D (fun l=>l) (by omega) h1 h2 h3 h4
 have ec:∀c:Nat,Nat.mul (pv 35 fun _=>1) c=pv 35 fun _=>c:=fun c=>by
  show(pv 35 fun _=>1)*c=_
  rw [vf]; simp only [Nat.one_mul]
 have e:JF 35 M35 M8 O35 2240 11200 20160 31360 33600 PX (Nat.add (Nat.mul O35 128) (Nat.shiftLeft (Nat.mul O35 312) 13440)) (idK (zc id) leaf) (pv 35 fun i=>leaf%256*16777216+i%256*65536) [0,1,2,3,4,5,6,7,8,9,10,11,12,13,14] (pv 35 A) (pv 35 B) (pv 35 C) (pv 35 D) (fun l=>l)=L:=by
  rw [oA hid,mM,m8,mO,mB,ec,ec]
  exact g3
 intro j hj
 rw [e,g2 j hj]
 refine congrArg some (congrArg zc (bX fun i hi=> ?_))
 rw [h5 i,Nat.mod_eq_of_lt (by omega)]
 rfl
theorem Y6 {f:Nat→List UInt8} {k:Nat} (h:∀i,(f i).length=k):∀(n c:Nat),c<n→(((List.range n).flatMap f).drop (k*c)).take k=f c
 |0,c,hc=>absurd hc (Nat.not_lt_zero c)
 | n+1,c,hc=>by
  rw [List.range_succ,List.flatMap_append,List.flatMap_cons,List.flatMap_nil,List.append_nil]
  have hl:=ZG h n
  rcases Nat.lt_or_ge c n with hcn|hcn
  ·have:k*c+k≤k*n:=by rw [←Nat.mul_succ]; exact Nat.mul_le_mul_left k hcn
   rw [List.drop_append_of_le_length (by omega),List.take_append_of_le_length (by rw [List.length_drop]; omega)]
   exact Y6 h n c hcn
  ·obtain rfl:c=n:=by omega
   rw [List.drop_append,List.drop_of_length_le (by omega),hl,Nat.sub_self,List.drop_zero,List.nil_append,List.take_of_length_le (by rw [h]; exact Nat.le_refl _)]
theorem jn (id seed:List UInt8) (leaf j c:Nat):(qQ id seed leaf j c).length=16:=by
 have key:∀(n p:Nat) (v:List UInt8),v.length=16→(ut id leaf c p n v).length=16:=fun n=>by
  induction n with
  |zero=>exact fun p v h=>h
  |succ n ih=>exact fun p v h=>ih _ _ rfl
 exact key _ _ _ rfl
theorem Xw (id:List UInt8) (leaf c:Nat):∀(i p j:Nat) (v:List UInt8),ut id leaf c p (i+j) v=ut id leaf c (p+i) j (ut id leaf c p i v)
 |0,p,j,v=>by rw [Nat.zero_add]; rfl
 |i+1,p,j,v=>by rw [show i+1+j=(i+j)+1 by omega,ut,Xw id leaf c i (p+1) j,show p+1+i=p+(i+1)by omega]; rfl
theorem Qz (id seed:List UInt8) (leaf c i j:Nat):ut id leaf c i j (qQ id seed leaf i c)=qQ id seed leaf (i+j) c:=by
 unfold qQ
 rw [Xw id leaf c i 0 j,Nat.zero_add]
noncomputable def atK (l:List Nat) (j:Nat) (K:Nat→QR):QR:=List.rec (motive:=fun _=>Nat→QR) (fun _=>none) (fun x _ ih j=>Nat.rec (motive:=fun _=>QR) (K x) (fun j _=>ih j) j) l j
theorem gb {K:Nat→QR} {r:KV×KH}:∀ {l:List Nat} {j:Nat},atK l j K=some r→∃x,l[j]? =some x∧K x=some r
 | [],j,h=>by cases h
 |x::l,0,h=>⟨x,rfl,h⟩
 | x::l,j+1,h=>by
  obtain⟨y,h1,h2⟩:=gb (l:=l) (j:=j) h
  exact⟨y,by simpa using h1,h2⟩
noncomputable def Va (x c:Nat):Nat:=Nat.land (Nat.shiftRight x (Nat.mul 128 c)) 340282366920938463463374607431768211455
theorem dZ {f:Nat→List UInt8} (h:∀i,(f i).length=16) {c:Nat} (hc:c<35):Va (zc ((List.range 35).flatMap f)) c=zc (f c):=by
 show(zc ((List.range 35).flatMap f) >>> (128*c)) &&& 340282366920938463463374607431768211455=_
 have e:(340282366920938463463374607431768211455:Nat)=2^128-1:=by decide
 rw [e,Nat.and_two_pow_sub_one_eq_mod,show 128*c=8*(16*c)by omega]
 have:=D2 ((List.range 35).flatMap f) (16*c)
 have this:zc ((List.range 35).flatMap f) >>> (8*(16*c))=zc (((List.range 35).flatMap f).drop (16*c)):=this
 rw [this,show(2:Nat)^128=256^16 by decide,←jQ,Y6 h 35 c hc]
noncomputable def JH (t:List (Nat×Nat)) (id:Nat) (K:Nat→QR):QR:=List.rec (motive:=fun _=>QR) none (fun p _ ih=>Prod.rec (motive:=fun _=>QR) (fun i s=>zb (Nat.beq i id) (K s) ih) p) t
theorem pB {id:Nat} {K:Nat→QR} {r:KV×KH}:∀ {t:List (Nat×Nat)},JH t id K=some r→∃s,(id,s)∈t∧K s=some r
 | [],h=>by cases h
 | (i,s)::t,h=>by
  have h:zb (Nat.beq i id) (K s) (JH t id K)=some r:=h
  rw [za]at h
  split at h
  ·rename_i hi
   exact⟨s,by rw [iE hi]; exact .head _,h⟩
  ·obtain⟨s,h1,h2⟩:=pB h
   exact⟨s, .tail _ h1,h2⟩
noncomputable def oq (t:List (Nat×Nat)) (seed:Nat) (K:Nat→QR):QR:=List.rec (motive:=fun _=>QR) none (fun p _ ih=>Prod.rec (motive:=fun _=>QR) (fun i s=>zb (Nat.beq s seed) (K i) ih) p) t
theorem Xi {seed:Nat} {K:Nat→QR} {r:KV×KH}:∀ {t:List (Nat×Nat)},oq t seed K=some r→∃i,(i,seed)∈t∧K i=some r
 | [],h=>by cases h
 | (i,s)::t,h=>by
  have h:zb (Nat.beq s seed) (K i) (oq t seed K)=some r:=h
  rw [za]at h
  split at h
  ·rename_i hi
   exact⟨i,by rw [iE hi]; exact .head _,h⟩
  ·obtain⟨s,h1,h2⟩:=Xi h
   exact⟨s, .tail _ h1,h2⟩
def qu (t:List (Nat×Nat)):Prop:=∀p∈t,p.1<256^16∧p.2<256^32
noncomputable def X5 {R:Type} (i:Int) (K:Nat→R) (F:R):R:=Int.rec (motive:=fun _=>R) (fun n=>K n) (fun _=>F) i
theorem wz {i:Int} {K:Nat→Option (KV×KH)} {r:KV×KH} (h:X5 i K none=some r):∃n:Nat,i=(n:Int)∧K n=some r:=by
 cases i with
 |ofNat n=>exact⟨n,rfl,h⟩
 |negSucc n=>cases h
noncomputable def nq (t:List (Nat×Nat)) (id leaf c a b v:Nat) (h:KH):QR:=
 JH t id fun seed=>zb (Nat.blt c 35) (zb (Nat.ble a b) (zb (Nat.ble b 15) (atK (GD id seed leaf) a fun x=>zb (Nat.beq (Va x c) v) (atK (GD id seed leaf) b fun y=>nfc (Va y c) fun d=>some (.str 16 d,h)) none) none) none) none
noncomputable def XQ (t:List (Nat×Nat)) (args:List KV) (h:KH):Option (KV×KH):=match args with
 | [.str n id, .int k1 leaf, .int k2 c, .int k3 a, .int k4 b, .str m v]=>match k1,k2,k3,k4 with
  | .i64, .i64, .i64, .i64=>zb (Nat.beq n 16) (zb (Nat.beq m 16) (X5 leaf (fun leaf=>X5 c (fun c=>X5 a (fun a=>X5 b (fun b=>nq t id leaf c a b v h) none) none) none) none) none) none
  |_,_,_,_=>none
 |_=>none
noncomputable def lJ (t:List (Nat×Nat)) (args:List KV) (h:KH):Option (KV×KH):=match args with
 | [.str m seed, .int k1 leaf, .int k2 c]=>match k1,k2 with
  | .i64, .i64=>zb (Nat.beq m 32) (X5 leaf (fun leaf=>X5 c (fun c=>oq t seed fun id=>zb (Nat.blt c 35) (atK (GD id seed leaf) 0 fun x=>nfc (Va x c) fun d=>some (.str 16 d,h)) none) none) none) none
  |_,_=>none
 |_=>none
theorem Ud {P:Program} {f:FuncId} {t:List (Nat×Nat)} (ht:qu t) (hf:∀(id:List UInt8) (leaf c a j:Nat) (v:List UInt8),id.length=16→v.length=16→a+j<1000→z6 P (fun _=> []) f [.str id, .int .i64 leaf, .int .i64 c, .int .i64 a, .int .i64 ((a+j:Nat):Int), .str v] ⟨[],[]⟩ fun u _=>u= .str (ut id leaf c a j v))
  {args:List KV} {h h':KH} {r:KV} (e:XQ t args h=some (r,h')):KCall P f args h r h':=by
 unfold XQ at e
 split at e
 ·rename_i n id k1 leaf k2 c k3 a k4 b m v
  split at e
  ·simp only [za]at e
   split at e
   ·rename_i hn
    split at e
    ·rename_i hm
     have hn:=iE hn
     have hm:=iE hm
     subst hn hm
     obtain⟨leaf,e1,e2⟩:=wz e
     subst e1; clear e
     obtain⟨c,e1,e3⟩:=wz e2
     subst e1; clear e2
     obtain⟨a,e1,e4⟩:=wz e3
     subst e1; clear e3
     obtain⟨b,e1,e5⟩:=wz e4
     subst e1; clear e4
     unfold nq at e5
     obtain⟨seed,hs,e6⟩:=pB e5
     clear e5
     obtain⟨hi,hse⟩:=ht _ hs
     obtain⟨idl,hid,hid2⟩:=vH 16 id hi
     obtain⟨sl,hsl,hsl2⟩:=vH 32 seed hse
     subst hid2 hsl2
     simp only [za]at e6
     split at e6
     ·rename_i hc
      have hc:c<35:=iD hc
      split at e6
      ·rename_i hab
       have hab:=iD hab
       split at e6
       ·rename_i hb
        have hb:=iD hb
        obtain⟨x,hx,e7⟩:=gb e6
        clear e6
        rw [WW hid hsl leaf a (by omega)]at hx
        have hx:=(Option.some.inj hx).symm
        subst hx
        rw [dZ (fun i=>jn _ _ _ _ i) hc]at e7
        split at e7
        ·rename_i hv
         have hv:=(iE hv).symm
         subst hv
         obtain⟨y,hy,e8⟩:=gb e7
         clear e7
         rw [WW hid hsl leaf b (by omega)]at hy
         have hy:=(Option.some.inj hy).symm
         subst hy
         rw [dZ (fun i=>jn _ _ _ _ i) hc,zi]at e8
         simp only [Option.some.injEq,Prod.mk.injEq]at e8
         obtain⟨e9,e10⟩:=e8
         subst e9 e10
         have hv16:=jn idl sl leaf a c
         have key:=KCall.ofA (args:= [.str 16 (zc idl), .int .i64 leaf, .int .i64 c, .int .i64 a, .int .i64 ((a+(b-a):Nat):Int), .str 16 (zc (qQ idl sl leaf a c))]) (h:=h) (hf idl leaf c a (b-a) (qQ idl sl leaf a c) hid hv16 (by omega)) rfl (fun i x y hx hy=>by
          match i with
          | 0=>
           simp only [List.getElem?_cons_zero,Option.some.injEq]at hx hy
           subst hx hy
           have:=KA.str (h:=h) idl
           rwa [hid]at this
          |1=>simp only [List.getElem?_cons_zero,List.getElem?_cons_succ,Option.some.injEq]at hx hy; subst hx hy; exact .int _ _
          |2=>simp only [List.getElem?_cons_zero,List.getElem?_cons_succ,Option.some.injEq]at hx hy; subst hx hy; exact .int _ _
          |3=>simp only [List.getElem?_cons_zero,List.getElem?_cons_succ,Option.some.injEq]at hx hy; subst hx hy; exact .int _ _
          |4=>simp only [List.getElem?_cons_zero,List.getElem?_cons_succ,Option.some.injEq]at hx hy; subst hx hy; exact .int _ _
          | 5=>
           simp only [List.getElem?_cons_zero,List.getElem?_cons_succ,Option.some.injEq]at hx hy
           subst hx hy
           have:=KA.str (h:=h) (qQ idl sl leaf a c)
           rwa [hv16]at this
          |i+6=>simp at hx)
         rw [Qz,show a+(b-a)=b by omega]at key
         have ev:V.toK (.str (qQ idl sl leaf b c))= .str 16 (zc (qQ idl sl leaf b c)):=by
          show KV.str _ _=_
          rw [jn]
         rw [ev]at key
         exact key
        ·cases e7
       ·cases e6
      ·cases e6
     ·cases e6
    ·cases e
   ·cases e
  ·cases e
 ·cases e
theorem lR {P:Program} {f:FuncId} {t:List (Nat×Nat)} (ht:qu t) (hf:∀(seed:List UInt8) (leaf c:Nat),seed.length=32→z6 P (fun _=> []) f [.str seed, .int .i64 leaf, .int .i64 c] ⟨[],[]⟩ fun u _=>u= .str (pQ seed leaf c))
  {args:List KV} {h h':KH} {r:KV} (e:lJ t args h=some (r,h')):KCall P f args h r h':=by
 unfold lJ at e
 split at e
 ·rename_i m seed k1 leaf k2 c
  split at e
  ·simp only [za]at e
   split at e
   ·rename_i hm
    have hm:=iE hm
    subst hm
    obtain⟨leaf,e1,e2⟩:=wz e
    subst e1; clear e
    obtain⟨c,e1,e3⟩:=wz e2
    subst e1; clear e2
    obtain⟨id,hs,e6⟩:=Xi e3
    clear e3
    obtain⟨hi,hse⟩:=ht _ hs
    obtain⟨idl,hid,hid2⟩:=vH 16 id hi
    obtain⟨sl,hsl,hsl2⟩:=vH 32 seed hse
    subst hid2 hsl2
    split at e6
    ·rename_i hc
     have hc:c<35:=iD hc
     obtain⟨x,hx,e8⟩:=gb e6
     clear e6
     rw [WW hid hsl leaf 0 (by omega)]at hx
     rw [←Option.some.inj hx]at e8
     rw [dZ (fun i=>jn _ _ _ _ i) hc,zi]at e8
     simp only [Option.some.injEq,Prod.mk.injEq]at e8
     obtain⟨e9,e10⟩:=e8
     subst e9 e10
     have key:=KCall.ofA (args:= [.str 32 (zc sl), .int .i64 leaf, .int .i64 c]) (h:=h) (hf sl leaf c hsl) rfl (fun i x y hx hy=>by
      match i with
      | 0=>
       simp only [List.getElem?_cons_zero,Option.some.injEq]at hx hy
       subst hx hy
       have:=KA.str (h:=h) sl
       rwa [hsl]at this
      |1=>simp only [List.getElem?_cons_zero,List.getElem?_cons_succ,Option.some.injEq]at hx hy; subst hx hy; exact .int _ _
      |2=>simp only [List.getElem?_cons_zero,List.getElem?_cons_succ,Option.some.injEq]at hx hy; subst hx hy; exact .int _ _
      |i+3=>simp at hx)
     have ev:V.toK (.str (pQ sl leaf c))= .str 16 (zc (qQ idl sl leaf 0 c)):=by
      show KV.str (pQ sl leaf c).length _=_
      rw [show(pQ sl leaf c).length=16 from rfl]; rfl
     rw [ev]at key
     exact key
    ·cases e6
   ·cases e
  ·cases e
 ·cases e
end Go.K
end
