/- The hashes are one plain function. No condition. -/
import Derived.Test.YtkabooclnoiclaaGreatDoorW1
set_option linter.all false
section
namespace Go.Abs
def rot (x n:Nat):Nat:=x/2^n|||(x*2^(32-n))%4294967296
def j3 {x:Nat} (k:Nat) (h:x<4294967296):x/k<4294967296:=Nat.lt_of_le_of_lt (Nat.div_le_self _ _) h
def Uz (x:Nat):x%4294967296<4294967296:=Nat.mod_lt _ (by decide)
def xL {x:Nat} (n:Nat) (h:x<4294967296):rot x n<4294967296:=Nat.or_lt_two_pow (n:=32) (j3 _ h) (Uz _)
def wt {a b:Nat} (c:a<4294967296) (e:b<4294967296):a ^^^ b<4294967296:=Nat.xor_lt_two_pow (n:=32) c e
def wL {a b:Nat} (c:b<4294967296):a &&& b<4294967296:=Nat.and_lt_two_pow (n:=32) _ c
def m32 (x:Nat):Nat:=x%4294967296
def sg0 (x:Nat):Nat:=rot x 7 ^^^ rot x 18 ^^^ x/8
def sg1 (x:Nat):Nat:=rot x 17 ^^^ rot x 19 ^^^ x/1024
def bS0 (x:Nat):Nat:=rot x 2 ^^^ rot x 13 ^^^ rot x 22
def bS1 (x:Nat):Nat:=rot x 6 ^^^ rot x 11 ^^^ rot x 25
def chN (e f g:Nat):Nat:=(e &&& f) ^^^ ((4294967295 ^^^ e) &&& g)
def mjN (a b c:Nat):Nat:=(a &&& b) ^^^ (a &&& c) ^^^ (b &&& c)
structure H8 where
 (a b c d e f g h:Nat)
def H8.lt (s:H8):Prop:=s.a<4294967296∧s.b<4294967296∧s.c<4294967296∧s.d<4294967296∧s.e<4294967296∧s.f<4294967296∧s.g<4294967296∧s.h<4294967296
def tN (s:H8) (k w:Nat):Nat:=m32 (m32 (m32 (m32 (s.h+bS1 s.e)+chN s.e s.f s.g)+k)+w)
def H8.step (s:H8) (k w:Nat):H8:=⟨m32 (tN s k w+m32 (bS0 s.a+mjN s.a s.b s.c)),s.a,s.b,s.c,m32 (s.d+tN s k w),s.e,s.f,s.g⟩
def H8.run (s:H8):List Nat->List Nat->H8
 |k::ks,w::ws=>(s.step k w).run ks ws
 |_,_=>s
def kX (l:List Nat):Nat:=m32 (m32 (m32 (l.getD (l.length-16) 0+sg0 (l.getD (l.length-15) 0))+l.getD (l.length-7) 0)+sg1 (l.getD (l.length-2) 0))
def v8:Nat->List Nat->List Nat
 |0,l=>l
 |n+1,l=>v8 n (l ++ [kX l])
def kW:List Nat:= [1116352408,1899447441,3049323471,3921009573,961987163,1508970993,2453635748,2870763221,3624381080,310598401,607225278,1426881987,1925078388,2162078206,2614888103,3248222580,3835390401,4022224774,264347078,604807628,770255983,1249150122,1555081692,1996064986,2554220882,2821834349,2952996808,3210313671,3336571891,3584528711,113926993,338241895,666307205,773529912,1294757372,1396182291,1695183700,1986661051,2177026350,2456956037,2730485921,2820302411,3259730800,3345764771,3516065817,3600352804,4094571909,275423344,430227734,506948616,659060556,883997877,958139571,1322822218,1537002063,1747873779,1955562222,2024104815,2227730452,2361852424,2428436474,2756734187,3204031479,3329325298]
def H8.add (s t:H8):H8:=⟨m32 (s.a+t.a),m32 (s.b+t.b),m32 (s.c+t.c),m32 (s.d+t.d),m32 (s.e+t.e),m32 (s.f+t.f),m32 (s.g+t.g),m32 (s.h+t.h)⟩
def H8.block (s:H8) (ws:List Nat):H8:=s.add (s.run kW (v8 48 ws))
def word4 (a b c d:Nat):Nat:=a*16777216+b*65536+c*256+d
def z6:List UInt8->List Nat
 |a::b::c::d::l=>word4 a.toNat b.toNat c.toNat d.toNat::z6 l
 |_=> []
def bx (x:Nat):m32 x<4294967296:=Nat.mod_lt _ (by decide)
def zbG {x:Nat} (h:x<4294967296):sg0 x<4294967296:=wt (wt (xL _ h) (xL _ h)) (j3 _ h)
def zbj {x:Nat} (h:x<4294967296):sg1 x<4294967296:=wt (wt (xL _ h) (xL _ h)) (j3 _ h)
def zbH {x:Nat} (h:x<4294967296):bS0 x<4294967296:=wt (wt (xL _ h) (xL _ h)) (xL _ h)
def zaY {x:Nat} (h:x<4294967296):bS1 x<4294967296:=wt (wt (xL _ h) (xL _ h)) (xL _ h)
def H8.step_lt {s:H8} (h:s.lt) (k w:Nat):(s.step k w).lt:=⟨bx _,h.1,h.2.1,h.2.2.1,bx _,h.2.2.2.2.1,h.2.2.2.2.2.1,h.2.2.2.2.2.2.1⟩
def H8.run_lt:∀(ks ws:List Nat) {s:H8},s.lt->(s.run ks ws).lt
 | [],_,s,h=>by simpa [H8.run] using h
 |_::_,[],s,h=>by simpa [H8.run] using h
 |k::ks,w::ws,s,h=>by simp only [H8.run]; exact H8.run_lt ks ws (H8.step_lt h k w)
def H8.add_lt (s t:H8):(s.add t).lt:=⟨bx _,bx _,bx _,bx _,bx _,bx _,bx _,bx _⟩
def ZE {l:List Nat} (h:∀x∈l,x<4294967296) (i:Nat):l.getD i 0<4294967296:=by
 rcases iS i l.length with a|a
 ·simp only [List.getD,iK a,Option.getD_some]; exact h _ (List.getElem_mem a)
 ·simp [List.getD,iN a]
def Vr (l:List Nat):kX l<4294967296:=bx _
def Xs:∀(j:Nat) (l:List Nat),(v8 j l).length=l.length+j
 |0,l=>rfl
 |j+1,l=>by rw [v8,Xs j]; simp; omega
def mA {a b c d:Nat} (e:a<256) (f:b<256) (g:c<256) (hd:d<256):word4 a b c d<4294967296:=by unfold word4; omega
def dl:∀(b:List UInt8),∀x∈z6 b,x<4294967296
 | x::y::z::w::l,v,h=>by
  simp only [z6,List.mem_cons]at h;rcases h with rfl|h
  ·exact mA x.toNat_lt y.toNat_lt z.toNat_lt w.toNat_lt
  ·exact dl l v h
 | [],_,h=>by simp [z6]at h
 | [_],_,h=>by simp [z6]at h
 | [_,_],_,h=>by simp [z6]at h
 | [_,_,_],_,h=>by simp [z6]at h
def X3 (b:List UInt8) (h:b.length=64):(z6 b).length=16:=by
 have key:∀(m:Nat) (b:List UInt8),b.length=4*m->(z6 b).length=m:=by
  intro m
  induction m with
  |zero=>intro b h; have:=List.length_eq_zero_iff.1 (by omega:b.length=0); subst this; rfl
  | succ m a=>
   intro b h
   match b,h with
   |x::y::z::w::l,h=>simp only [z6,List.length_cons]; rw [a l (by simp at h; omega)]
   | [],h=>simp at h
   | [_],h=>simp at h; omega
   | [_,_],h=>simp at h; omega
   | [_,_,_],h=>simp at h; omega
 exact key 16 b h
def beN:Nat->Nat->List Nat
 |0,_=> []
 |k+1,x=>x/256^k%256::beN k x
def Xw:∀k x,(beN k x).length=k
 |0,_=>rfl
 |k+1,x=>by simp [beN,Xw k]
def gJ (n:Nat):Nat:=(119-n%64)%64
def ZV (n:Nat):List Nat:=128::(List.replicate (gJ n) 0++beN 8 (8*n))
def u8s (l:List Nat):List UInt8:=l.map UInt8.ofNat
def pad (l:List UInt8):List UInt8:=l++u8s (ZV l.length)
def H8.blk:Nat->H8->List UInt8->H8
 |0,s,_=>s
 |m+1,s,l=>H8.blk m (s.block (z6 (l.take 64))) (l.drop 64)
def be4 (x:Nat):List UInt8:= [UInt8.ofNat (x/16777216),UInt8.ofNat (x/65536),UInt8.ofNat (x/256),UInt8.ofNat x]
def H8.bytes (s:H8):List UInt8:=be4 s.a++be4 s.b++be4 s.c++be4 s.d++be4 s.e++be4 s.f++be4 s.g++be4 s.h
def wq:H8:=⟨1779033703,3144134277,1013904242,2773480762,1359893119,2600822924,528734635,1541459225⟩
def sha (l:List UInt8):List UInt8:=(H8.blk ((l.length+72)/64) wq (pad l)).bytes
def Xk (l:List UInt8):(pad l).length=64*((l.length+72)/64):=by
 simp [pad,ZV,u8s,gJ,Xw];omega
def bI (s:H8) (ws:List Nat):(s.block ws).lt:=H8.add_lt _ _
def ZI:wq.lt:=by unfold H8.lt wq; decide
def tg (l:List UInt8):(sha l).length=32:=rfl
end Go.Abs
end
section
namespace Go.Abs
open Go
def DB (x:Nat):IntKind.wrap .u32 (x:Int)=((x%4294967296:Nat):Int):=by
 simp [IntKind.wrap,IntKind.bits,IntKind.signed]
def qh {x:Nat} (h:x<4294967296):IntKind.wrap .u32 (x:Int)=(x:Int):=by rw [DB,Nat.mod_eq_of_lt h]
def ZN {x:Nat} (h:x<4294967296):(BitVec.ofInt (IntKind.bits .u32) (x:Int)).toNat=x:=by
 show(BitVec.ofInt 32 (x:Int)).toNat=x;rw [BitVec.ofInt_natCast,BitVec.toNat_ofNat];exact Nat.mod_eq_of_lt h
def ky {a b:Nat} (c:a<4294967296) (e:b<4294967296):yz .u32 (a:Int) (b:Int)=((a ^^^ b:Nat):Int):=by
 unfold yz;rw [BitVec.toNat_xor,ZN c,ZN e];exact qh (Nat.xor_lt_two_pow (n:=32) c e)
def UL {a b:Nat} (e:a<4294967296) (c:b<4294967296):vl .u32 (a:Int) (b:Int)=((a &&& b:Nat):Int):=by
 unfold vl;rw [BitVec.toNat_and,ZN e,ZN c];exact qh (Nat.and_lt_two_pow (n:=32) _ c)
def KM {a b:Nat} (c:a<4294967296) (e:b<4294967296):ior .u32 (a:Int) (b:Int)=((a|||b:Nat):Int):=by
 unfold ior;rw [BitVec.toNat_or,ZN c,ZN e];exact qh (Nat.or_lt_two_pow (n:=32) c e)
def kO (a b:Nat):IntKind.wrap .u32 ((a:Int)+(b:Int))=(((a+b)%4294967296:Nat):Int):=by
 rw [<-DB]; rfl
def KJ (a:Nat) (k:Nat):IntKind.wrap .u32 ((a:Int)*(k:Int))=(((a*k)%4294967296:Nat):Int):=by
 rw [<-DB]; rfl
def Xi (a k:Nat):Int.fdiv (a:Int) (k:Int)=((a/k:Nat):Int):=by
 rw [Int.fdiv_eq_ediv_of_nonneg _ (Int.natCast_nonneg k)]; rfl
def ZW {x:Nat} (n:Nat) (k l:Int) (a:k=((2^n:Nat):Int)) (b:l=((2^(32-n):Nat):Int)) (h:x<4294967296):ior .u32 (Int.fdiv (x:Int) k) (IntKind.wrap .u32 ((x:Int)*l))=((rot x n:Nat):Int):=by
 subst a b;rw [Xi,KJ,KM (j3 _ h) (Uz _)]; rfl
def zcx {x:Nat} (N n:Nat) (f:n<=32) (e:0<n) (h:x<4294967296):xz N (x:Int) (n:Int)=some ((rot x n:Nat):Int):=by
 have b:Uu .u32 (x:Int) (n:Int)=some ((x/2^n:Nat):Int):=by
  unfold Uu;rw [iH (by omega)];have:min (n:Int).toNat (IntKind.bits .u32)=n:=by show min n 32=n; omega
  rw [this,show((2:Int)^n)=((2^n:Nat):Int)by simp,Xi]
 have a:IntKind.wrap .u64 ((32:Int)-(n:Int))=((32-n:Nat):Int):=by
  rw [show((32:Int)-(n:Int))=((32-n:Nat):Int)by omega];simp [IntKind.wrap,IntKind.bits,IntKind.signed];omega
 have c:nP .u32 (x:Int) ((32-n:Nat):Int)=some (((x*2^(32-n))%4294967296:Nat):Int):=by
  unfold nP;rw [iH (by omega)];have:min ((32-n:Nat):Int).toNat (IntKind.bits .u32)=32-n:=by show min (32-n) 32=32-n; omega
  rw [this,show((2:Int)^(32-n))=((2^(32-n):Nat):Int)by simp,KJ]
 unfold xz;rw [b,iG,a,c,iG,KM (j3 _ h) (Uz _)]; rfl
abbrev zl (l:List Nat):List Int:=l.map fun x:Nat=>(x:Int)
def zae:([1116352408,1899447441,3049323471,3921009573,961987163,1508970993,2453635748,2870763221,3624381080,310598401,607225278,1426881987,1925078388,2162078206,2614888103,3248222580,3835390401,4022224774,264347078,604807628,770255983,1249150122,1555081692,1996064986,2554220882,2821834349,2952996808,3210313671,3336571891,3584528711,113926993,338241895,666307205,773529912,1294757372,1396182291,1695183700,1986661051,2177026350,2456956037,2730485921,2820302411,3259730800,3345764771,3516065817,3600352804,4094571909,275423344,430227734,506948616,659060556,883997877,958139571,1322822218,1537002063,1747873779,1955562222,2024104815,2227730452,2361852424,2428436474,2756734187,3204031479,3329325298]:List Int)=zl kW:=by simp [kW]
def vp {n i:Nat} (h:i<n):jo n (i:Int)=some i:=by
 unfold jo;rw [iI ⟨by omega,by omega⟩,Int.toNat_natCast]
def PY {l:List Nat} {i:Nat} (h:i<l.length):yj (zl l) (i:Int)=some ((l[i]:Nat):Int):=by
 unfold yj;rw [iI (by omega),Int.toNat_natCast];simp [h]
def Dj {l:List Nat} {i:Nat} (h:i<l.length):(zl l)[0+i*1]? =some ((l[i]:Nat):Int):=by
 rw [Nat.zero_add,Nat.mul_one];simp [h]
def kD (i:Nat) (h:i<1000000):IntKind.wrap .i64 ((i:Int)+1)=((i+1:Nat):Int):=by
 have e:((i:Int)+1)%2^64=(i:Int)+1:=Int.emod_eq_of_lt (by omega) (by omega);simp only [IntKind.wrap,IntKind.bits,IntKind.signed,e];rw [iH (by simp; omega)];rfl
section
variable {s:H8} {k w:Nat}
def zS1 (h:s.lt):yz .u32 (yz .u32 ((rot s.e 6:Nat):Int) ((rot s.e 11:Nat):Int)) ((rot s.e 25:Nat):Int)=((bS1 s.e:Nat):Int):=by
 have a:=h.2.2.2.2.1;rw [ky (xL _ a) (xL _ a),ky (wt (xL _ a) (xL _ a)) (xL _ a)]; rfl
def zS0 (h:s.lt):yz .u32 (yz .u32 ((rot s.a 2:Nat):Int) ((rot s.a 13:Nat):Int)) ((rot s.a 22:Nat):Int)=((bS0 s.a:Nat):Int):=by
 have a:=h.1;rw [ky (xL _ a) (xL _ a),ky (wt (xL _ a) (xL _ a)) (xL _ a)]; rfl
def zch (h:s.lt):yz .u32 (vl .u32 (s.e:Int) (s.f:Int)) (vl .u32 (yz .u32 4294967295 (s.e:Int)) (s.g:Int))=((chN s.e s.f s.g:Nat):Int):=by
 obtain⟨_,_,_,_,a,b,c,_⟩:=h;rw [show(4294967295:Int)=((4294967295:Nat):Int)from rfl,UL a b,ky (by decide) a,UL (wt (by decide) a) c,ky (wL b) (wL c)]; rfl
def zmj (h:s.lt):yz .u32 (yz .u32 (vl .u32 (s.a:Int) (s.b:Int)) (vl .u32 (s.a:Int) (s.c:Int))) (vl .u32 (s.b:Int) (s.c:Int))=((mjN s.a s.b s.c:Nat):Int):=by
 obtain⟨c,b,a,_⟩:=h;rw [UL c b,UL c a,UL b a,ky (wL b) (wL a),ky (wt (wL b) (wL a)) (wL a)]; rfl
def zt (_:s.lt):IntKind.wrap .u32 ((IntKind.wrap .u32 ((IntKind.wrap .u32 ((IntKind.wrap .u32 ((s.h:Int)+((bS1 s.e:Nat):Int)))+((chN s.e s.f s.g:Nat):Int)))+(k:Int)))+(w:Int))=((tN s k w:Nat):Int):=by
 rw [kO,kO,kO,kO]; rfl
end
def mY (n:Nat) (a:List Nat) (o:a.length=64):∀(j i k:Nat) (s:H8),i+j=64->j<k->s.lt ->
  yu n (zl a) k s.a s.b s.c s.d s.e s.f s.g s.h (i:Int)=some (((s.run (kW.drop i) (a.drop i)).a:Int),((s.run (kW.drop i) (a.drop i)).b:Int),((s.run (kW.drop i) (a.drop i)).c:Int),((s.run (kW.drop i) (a.drop i)).d:Int),((s.run (kW.drop i) (a.drop i)).e:Int),((s.run (kW.drop i) (a.drop i)).f:Int),((s.run (kW.drop i) (a.drop i)).g:Int),((s.run (kW.drop i) (a.drop i)).h:Int))
 | 0,i,k+1,s,l,m,b=>by
  have:i=64:=by omega
  subst this;rw [yu,iH (by simp)];rw [show kW.drop 64= []from rfl];rfl
 | j+1,i,k+1,s,l,m,b=>by
  have c:i<64:=by omega
  have e:i<kW.length:=c;rw [yu,iI (by simp; omega),zae,PY e,iG,vp c,iG,Dj (by omega:i<a.length),iG];have f:=b.1; have g:=b.2.2.2.2.1;rw [ZW 6 64 67108864 rfl rfl g,ZW 11 2048 2097152 rfl rfl g,ZW 25 33554432 128 rfl rfl g,ZW 2 4 1073741824 rfl rfl f,ZW 13 8192 524288 rfl rfl f,ZW 22 4194304 1024 rfl rfl f];rw [zS1 b,zS0 b,zch b,zmj b,zt b]
  have h:s.run (kW.drop i) (a.drop i)=(s.step kW[i] a[i]).run (kW.drop (i+1)) (a.drop (i+1)):=by
   rw [iM e,iM (by omega:i<a.length)]; rfl
  rw [h,<-mY n a o j (i+1) k (s.step kW[i] a[i]) (by omega) (by omega) (H8.step_lt b _ _)];rw [kD i (by omega),kO,kO,kO];rfl
def pZ (i j:Nat) (h:j<=i) (hi:i<1000000):IntKind.wrap .i64 ((i:Int)-(j:Int))=((i-j:Nat):Int):=by
 have e:((i:Int)-(j:Int))%2^64=((i-j:Nat):Int):=by rw [Int.emod_eq_of_lt (by omega) (by omega)]; omega
 simp only [IntKind.wrap,IntKind.bits,IntKind.signed,e];rw [iH (by simp; omega)]
def gw {l:List Nat} {r:List Int} {i:Nat} (h:i<l.length):(zl l++r)[0+i*1]? =some ((l.getD i 0:Nat):Int):=by
 rw [Nat.zero_add,Nat.mul_one,iU (by simpa using h)];simp [h]
def Vo {l:List Nat} {j:Nat} (y:Nat) {i:Nat} (h:l.length=i):pI (zl l++List.replicate (j+1) (0:Int)) (0+i*1) (y:Int)=some (zl (l ++ [y])++List.replicate j 0):=by
 subst h;unfold pI;rw [Nat.zero_add,Nat.mul_one,iI (by simp)]
 congr 1
 have:(zl l).length=l.length:=by simp
 rw [<-this,List.set_append_right _ _ (iP _),Nat.sub_self,List.replicate_succ,List.set_cons_zero];simp
def z0 {x:Nat} (h:x<4294967296):yz .u32 (yz .u32 ((rot x 7:Nat):Int) ((rot x 18:Nat):Int)) (Int.fdiv (x:Int) 8)=((sg0 x:Nat):Int):=by
 rw [show(8:Int)=((8:Nat):Int)from rfl,Xi,ky (xL _ h) (xL _ h),ky (wt (xL _ h) (xL _ h)) (j3 _ h)]; rfl
def z1 {x:Nat} (h:x<4294967296):yz .u32 (yz .u32 ((rot x 17:Nat):Int) ((rot x 19:Nat):Int)) (Int.fdiv (x:Int) 1024)=((sg1 x:Nat):Int):=by
 rw [show(1024:Int)=((1024:Nat):Int)from rfl,Xi,ky (xL _ h) (xL _ h),ky (wt (xL _ h) (xL _ h)) (j3 _ h)]; rfl
def lT (n:Nat):∀(j i k:Nat) (l:List Nat),l.length=i->16<=i->i+j=64->j<k->(∀x∈l,x<4294967296) ->
  yq n k (i:Int) (zl l++List.replicate j 0)=some (zl (v8 j l))
 | 0,i,k+1,l,c,m,p,q,f=>by
  have:i=64:=by omega
  subst this;rw [yq,iH (by simp)];simp [v8]
 | j+1,i,k+1,l,c,m,p,q,f=>by
  have b:i<64:=by omega
  rw [yq,iI (by simp; omega)];rw [show(15:Int)=((15:Nat):Int)from rfl,show(2:Int)=((2:Nat):Int)from rfl,show(16:Int)=((16:Nat):Int)from rfl,show(7:Int)=((7:Nat):Int)from rfl];rw [pZ i 15 (by omega) (by omega),pZ i 2 (by omega) (by omega),pZ i 16 (by omega) (by omega),pZ i 7 (by omega) (by omega)]
  rw [vp (by omega:i-15<64),iG,gw (by omega),iG,vp (by omega:i-2<64),iG,gw (by omega),iG,
   vp (by omega:i-16<64),iG,gw (by omega),iG,vp (by omega:i-7<64),iG,gw (by omega),iG,vp b,iG]
  have a:=ZE f (i-15);have g:=ZE f (i-2);rw [ZW 7 128 33554432 rfl rfl a,ZW 18 262144 16384 rfl rfl a,ZW 17 131072 32768 rfl rfl g,ZW 19 524288 8192 rfl rfl g,z0 a,z1 g,kO,kO,kO];have e:((((l.getD (i-16) 0+sg0 (l.getD (i-15) 0))%4294967296+l.getD (i-7) 0)%4294967296+sg1 (l.getD (i-2) 0))%4294967296)=kX l:=by subst c; rfl
  rw [e,Vo _ c,iG,kD i (by omega)]
  rw [lT n j (i+1) k (l ++ [kX l]) (by simp [c]) (by omega) (by omega) (by omega) (by
   intro x o;rcases List.mem_append.1 o with h|h
   ·exact f x h
   ·simp at h; subst h; exact Vr _)]
  rfl
def rl {a b c d:Nat} (h:a<256) (j:b<256) (l:c<256) (hd:d<256):((a*16777216|||b*65536)|||c*256)|||d=word4 a b c d:=by
 have e:a*16777216|||b*65536=a*16777216+b*65536:=by
  have:=Nat.two_pow_add_eq_or_of_lt (i:=24) (b:=b*65536) (by omega) a;rw [show 2^24=16777216 from rfl,Nat.mul_comm 16777216 a]at this;exact this.symm
 have f:(a*16777216+b*65536)|||c*256=a*16777216+b*65536+c*256:=by
  have:=Nat.two_pow_add_eq_or_of_lt (i:=16) (b:=c*256) (by omega) (a*256+b);rw [show 2^16=65536 from rfl,show 65536*(a*256+b)=a*16777216+b*65536 by omega]at this;exact this.symm
 have g:(a*16777216+b*65536+c*256)|||d=a*16777216+b*65536+c*256+d:=by
  have:=Nat.two_pow_add_eq_or_of_lt (i:=8) (b:=d) (by omega) (a*65536+b*256+c);rw [show 2^8=256 from rfl,show 256*(a*65536+b*256+c)=a*16777216+b*65536+c*256 by omega]at this;exact this.symm
 rw [e,f,g]; rfl
def zaq {a b c d:Nat} (f:a<256) (g:b<256) (h:c<256) (hd:d<256):
  ior .u32 (ior .u32 (ior .u32 (IntKind.wrap .u32 ((IntKind.wrap .u32 (a:Int))*16777216)) (IntKind.wrap .u32 ((IntKind.wrap .u32 (b:Int))*65536))) (IntKind.wrap .u32 ((IntKind.wrap .u32 (c:Int))*256))) (IntKind.wrap .u32 (d:Int))=((word4 a b c d:Nat):Int):=by
 rw [qh (by omega:a<4294967296),qh (by omega:b<4294967296),qh (by omega:c<4294967296),qh (by omega:d<4294967296)];rw [show(16777216:Int)=((16777216:Nat):Int)from rfl,show(65536:Int)=((65536:Nat):Int)from rfl,show(256:Int)=((256:Nat):Int)from rfl];rw [KJ,KJ,KJ,Nat.mod_eq_of_lt (by omega),Nat.mod_eq_of_lt (by omega),Nat.mod_eq_of_lt (by omega)];have e:a*16777216|||b*65536<4294967296:=Nat.or_lt_two_pow (n:=32) (by omega) (by omega);rw [KM (by omega) (by omega),KM e (by omega),KM (Nat.or_lt_two_pow (n:=32) e (by omega)) (by omega),rl f g h hd]
def XD:∀(b:List UInt8) (i:Nat) (h:4*i+3<b.length),(z6 b)[i]? =some (word4 (b[4*i]'(by omega)).toNat (b[4*i+1]'(by omega)).toNat (b[4*i+2]'(by omega)).toNat b[4*i+3].toNat)
 |x::y::z::w::l,0,h=>rfl
 | x::y::z::w::l,i+1,h=>by
  have:=XD l i (by simp at h; omega);simp only [z6,List.getElem?_cons_succ,this];rfl
 | [],i,h=>by simp at h
 | [_],i,h=>by simp at h; try omega
 | [_,_],i,h=>by simp at h; omega
 | [_,_,_],i,h=>by simp at h; omega
def YW {b:List UInt8} {i:Nat} (h:i<b.length):xE b (i:Int)=some ((b[i].toNat:Nat):Int):=by
 unfold xE;rw [iI (by omega),Int.toNat_natCast,iK h];rfl
def uD (i:Nat) (h:i<1000000):IntKind.wrap .i64 (i:Int)=(i:Int):=by
 have e:(i:Int)%2^64=(i:Int):=Int.emod_eq_of_lt (by omega) (by omega);simp only [IntKind.wrap,IntKind.bits,IntKind.signed,e];rw [iH (by simp; omega)]
def Jr {l:List Nat} {i x:Nat} (h:l[i]? =some x):l.take (i+1)=l.take i ++ [x]:=by
 rw [List.take_add_one,h]; rfl
def ry (n:Nat) (b:List UInt8) (e:64<=b.length):∀(j i k:Nat),i+j=16->j<k ->
  yv n b k (i:Int) (zl ((z6 b).take i)++List.replicate (48+j) 0)=some (zl ((z6 b).take 16)++List.replicate 48 0)
 | 0,i,k+1,f,g=>by
  have:i=16:=by omega
  subst this;rw [yv,iH (by simp)]
 | j + 1,i,k+1,f,g=>by
  rw [yv,iI (by simp; omega)];rw [show(4:Int)*(i:Int)=((4*i:Nat):Int)by omega,uD (4*i) (by omega)];rw [show((4*i:Nat):Int)+2=((4*i+2:Nat):Int)by omega,show((4*i:Nat):Int)+3=((4*i+3:Nat):Int)by omega,show((4*i:Nat):Int)+1=((4*i+1:Nat):Int)by omega];rw [uD (4*i+1) (by omega),uD (4*i+2) (by omega),uD (4*i+3) (by omega)];rw [YW (by omega:4*i<b.length),iG,YW (by omega:4*i+1<b.length),iG,YW (by omega:4*i+2<b.length),iG,YW (by omega:4*i+3<b.length),iG,vp (by omega:i<64),iG];rw [zaq (UInt8.toNat_lt _) (UInt8.toNat_lt _) (UInt8.toNat_lt _) (UInt8.toNat_lt _)];have c:=XD b i (by omega)
  have a:((z6 b).take i).length=i:=by
   have:i<(z6 b).length:=by
    rcases iS i (z6 b).length with h|h
    ·exact h
    ·rw [iN h]at c; cases c
   simp; omega
  rw [show 48+(j+1)=(48+j)+1 by omega,Vo _ a,iG,<-Jr c,kD i (by omega)];exact ry n b e j (i+1) k (by omega) (by omega)
def H8.zs (s:H8):List Int:= [(s.a:Int),s.b,s.c,s.d,s.e,s.f,s.g,s.h]
def fM {n:Nat} (o:100<=n) (s:H8) (m:s.lt) (b:List UInt8) (l:b.length=64):wN n s.zs b=some (s.block (z6 b)).zs:=by
 have g:=ry n b (by omega) 16 0 n rfl (by omega);have f:=X3 b l;rw [show List.take 16 (z6 b)=z6 b by rw [<-f]; simp]at g;have i:=lT n 48 16 n (z6 b) f (by omega) rfl (by omega) (dl b);have j:=mY n (v8 48 (z6 b)) (by rw [Xs,f]) 64 0 n s rfl (by omega) m;unfold wN;have h:List.replicate 64 (0:Int)=zl (List.take 0 (z6 b))++List.replicate (48+16) 0:=by simp
 rw [h];have a:yv n b n 0 (zl (List.take 0 (z6 b))++List.replicate (48+16) 0)=some (zl (z6 b)++List.replicate 48 0):=g;rw [a,iG];have c:yq n n 16 (zl (z6 b)++List.replicate 48 0)=some (zl (v8 48 (z6 b))):=i;rw [c,iG];have e:yu n (zl (v8 48 (z6 b))) n s.a s.b s.c s.d s.e s.f s.g s.h 0=_:=j
 simp only [H8.zs,yj,Int.le_refl,if_true,Int.toNat_zero,List.getElem?_cons_zero,iG,show(0:Int)<=1 by decide,show(0:Int)<=2 by decide,show(0:Int)<=3 by decide,show(0:Int)<=4 by decide,show(0:Int)<=5 by decide,show(0:Int)<=6 by decide,show(0:Int)<=7 by decide,
  show(1:Int).toNat=1 from rfl,show(2:Int).toNat=2 from rfl,show(3:Int).toNat=3 from rfl,show(4:Int).toNat=4 from rfl,show(5:Int).toNat=5 from rfl,show(6:Int).toNat=6 from rfl,show(7:Int).toNat=7 from rfl,List.getElem?_cons_succ]
 rw [e,iG];simp only [List.drop_zero,kO];rfl
def gC {x:Nat} {N n:Nat} {k:Int} (b:k=(n:Int)) (c:n<=32) (a:0<n) (h:x<4294967296):xz N (x:Int) k=some ((rot x n:Nat):Int):=by
 subst b; exact zcx N n c a h
def lZ (n:Nat):∀(j i k:Nat) (l:List Nat),l.length=i->16<=i->i+j=64->j<k->(∀x∈l,x<4294967296) ->
  yV n k (i:Int) (zl l++List.replicate j 0)=some (zl (v8 j l))
 | 0,i,k+1,l,c,p,A,B,f=>by
  have:i=64:=by omega
  subst this;rw [yV,iH (by simp)];simp [v8]
 | j+1,i,k+1,l,c,p,A,B,f=>by
  have b:i<64:=by omega
  rw [yV,iI (by simp; omega)];have a:=ZE f (i-15);have g:=ZE f (i-2);have t:IntKind.wrap .i64 ((i:Int)-15)=((i-15:Nat):Int):=pZ i 15 (by omega) (by omega);have C:IntKind.wrap .i64 ((i:Int)-2)=((i-2:Nat):Int):=pZ i 2 (by omega) (by omega);have v:IntKind.wrap .i64 ((i:Int)-16)=((i-16:Nat):Int):=pZ i 16 (by omega) (by omega);have E:IntKind.wrap .i64 ((i:Int)-7)=((i-7:Nat):Int):=pZ i 7 (by omega) (by omega);have m:=gw (l:=l) (r:=List.replicate (j+1) (0:Int)) (i:=i-15) (by omega);have y:=gw (l:=l) (r:=List.replicate (j+1) (0:Int)) (i:=i-2) (by omega);have o:=gw (l:=l) (r:=List.replicate (j+1) (0:Int)) (i:=i-16) (by omega);have z:=gw (l:=l) (r:=List.replicate (j+1) (0:Int)) (i:=i-7) (by omega)
  simp only [t,C,v,E,vp (by omega:i-15<64),vp (by omega:i-2<64),vp (by omega:i-16<64),vp (by omega:i-7<64),vp b,iG,m,y,o,z,
   gC (k:=7) (n:=7) rfl (by decide) (by decide) a,gC (k:=18) (n:=18) rfl (by decide) (by decide) a,gC (k:=17) (n:=17) rfl (by decide) (by decide) g,gC (k:=19) (n:=19) rfl (by decide) (by decide) g,z0 a,z1 g,kO]
  have e:((((l.getD (i-16) 0+sg0 (l.getD (i-15) 0))%4294967296+l.getD (i-7) 0)%4294967296+sg1 (l.getD (i-2) 0))%4294967296)=kX l:=by subst c; rfl
  rw [e,Vo _ c,iG,kD i (by omega)]
  rw [lZ n j (i+1) k (l ++ [kX l]) (by simp [c]) (by omega) (by omega) (by omega) (by
   intro x q;rcases List.mem_append.1 q with h|h
   ·exact f x h
   ·simp at h; subst h; exact Vr _)]
  rfl
def mw (n:Nat) (r:pS) (h:([r.f_0,r.f_1,r.f_2,r.f_3,r.f_4,r.f_5,r.f_6,r.f_7,r.f_8,r.f_9,r.f_10,r.f_11,r.f_12,r.f_13,r.f_14,r.f_15,r.f_16,r.f_17,r.f_18,r.f_19,r.f_20,r.f_21,r.f_22,r.f_23,r.f_24,r.f_25,r.f_26,r.f_27,r.f_28,r.f_29,r.f_30,r.f_31,r.f_32,r.f_33,r.f_34,r.f_35,r.f_36,r.f_37,r.f_38,r.f_39,r.f_40,r.f_41,r.f_42,r.f_43,r.f_44,r.f_45,r.f_46,r.f_47,r.f_48,r.f_49,r.f_50,r.f_51,r.f_52,r.f_53,r.f_54,r.f_55,r.f_56,r.f_57,r.f_58,r.f_59,r.f_60,r.f_61,r.f_62,r.f_63]:List Int)=zl kW)
  (a:List Nat) (t:a.length=64):∀(j i k:Nat) (s:H8),i+j=64->j<k->s.lt ->
  xC n r (zl a) k (i:Int) s.a s.b s.c s.d s.e s.f s.g s.h=some (((s.run (kW.drop i) (a.drop i)).a:Int),((s.run (kW.drop i) (a.drop i)).b:Int),((s.run (kW.drop i) (a.drop i)).c:Int),((s.run (kW.drop i) (a.drop i)).d:Int),((s.run (kW.drop i) (a.drop i)).e:Int),((s.run (kW.drop i) (a.drop i)).f:Int),((s.run (kW.drop i) (a.drop i)).g:Int),((s.run (kW.drop i) (a.drop i)).h:Int))
 | 0,i,k+1,s,p,q,b=>by
  have:i=64:=by omega
  subst this;rw [xC,iH (by simp)];rw [show kW.drop 64= []from rfl];rfl
 | j+1,i,k+1,s,p,q,b=>by
  have c:i<64:=by omega
  have e:i<kW.length:=c;have f:=b.1; have g:=b.2.2.2.2.1;rw [xC,iI (by simp; omega),h];have ek:=Dj e;have ey:=Dj (l:=a) (i:=i) (by omega)
  simp only [vp c,iG,ek,ey,gC (k:=6) (n:=6) rfl (by decide) (by decide) g,gC (k:=11) (n:=11) rfl (by decide) (by decide) g,gC (k:=25) (n:=25) rfl (by decide) (by decide) g,
   gC (k:=2) (n:=2) rfl (by decide) (by decide) f,gC (k:=13) (n:=13) rfl (by decide) (by decide) f,gC (k:=22) (n:=22) rfl (by decide) (by decide) f]
  rw [zS1 b,zS0 b,zch b,zmj b,zt b]
  have m:s.run (kW.drop i) (a.drop i)=(s.step kW[i] a[i]).run (kW.drop (i+1)) (a.drop (i+1)):=by
   rw [iM e,iM (by omega:i<a.length)]; rfl
  rw [m,<-mw n r h a t j (i+1) k (s.step kW[i] a[i]) (by omega) (by omega) (H8.step_lt b _ _)];rw [kD i (by omega),kO,kO,kO];have o:((tN s kW[i] a[i]+bS0 s.a)%4294967296+mjN s.a s.b s.c)%4294967296=m32 (tN s kW[i] a[i]+m32 (bS0 s.a+mjN s.a s.b s.c)):=by unfold m32; omega
  rw [o];rfl
def ov (n:Nat) (b:List UInt8) (e:64<=b.length):∀(j i k:Nat),i+j=16->j<k ->
  yQ n (s2b b) k (i:Int) (zl ((z6 b).take i)++List.replicate (48+j) 0)=some (zl ((z6 b).take 16)++List.replicate 48 0)
 | 0,i,k+1,f,g=>by
  have:i=16:=by omega
  subst this;rw [yQ,iH (by simp)]
 | j + 1,i,k+1,f,g=>by
  have lb:∀ {i:Nat} (h:i<b.length),yj (s2b b) (i:Int)=some ((b[i].toNat:Nat):Int):=fun {i} h=>by
   unfold yj s2b;rw [iI (by omega),Int.toNat_natCast];simp [h]
  rw [yQ,iI (by simp; omega)];rw [show(4:Int)*(i:Int)=((4*i:Nat):Int)by omega,uD (4*i) (by omega)];rw [show((4*i:Nat):Int)+2=((4*i+2:Nat):Int)by omega,show((4*i:Nat):Int)+3=((4*i+3:Nat):Int)by omega,show((4*i:Nat):Int)+1=((4*i+1:Nat):Int)by omega];rw [uD (4*i+1) (by omega),uD (4*i+2) (by omega),uD (4*i+3) (by omega)];rw [lb (by omega:4*i<b.length),iG,lb (by omega:4*i+1<b.length),iG,lb (by omega:4*i+2<b.length),iG,lb (by omega:4*i+3<b.length),iG,vp (by omega:i<64),iG];rw [zaq (UInt8.toNat_lt _) (UInt8.toNat_lt _) (UInt8.toNat_lt _) (UInt8.toNat_lt _)];have c:=XD b i (by omega)
  have a:((z6 b).take i).length=i:=by
   have:i<(z6 b).length:=by
    rcases iS i (z6 b).length with h|h
    ·exact h
    ·rw [iN h]at c; cases c
   simp; omega
  rw [show 48+(j+1)=(48+j)+1 by omega,Vo _ a,iG,<-Jr c,kD i (by omega)];exact ov n b e j (i+1) k (by omega) (by omega)
def H8.zt (s:H8):zw:=⟨s.a,s.b,s.c,s.d,s.e,s.f,s.g,s.h⟩
def JN {n:Nat} (p:100<=n) (s:H8) (m:s.lt) (b:List UInt8) (j:b.length=64):xJ n s.zt (s2b b)=some (s.block (z6 b)).zt:=by
 have f:=ov n b (by omega) 16 0 n rfl (by omega);have e:=X3 b j;rw [show List.take 16 (z6 b)=z6 b by rw [<-e]; simp]at f;have i:=lZ n 48 16 n (z6 b) e (by omega) rfl (by omega) (dl b);unfold xJ;have h:List.replicate 64 (0:Int)=zl (List.take 0 (z6 b))++List.replicate (48+16) 0:=by simp
 rw [h];have a:yQ n (s2b b) n 0 (zl (List.take 0 (z6 b))++List.replicate (48+16) 0)=some (zl (z6 b)++List.replicate 48 0):=f;rw [a,iG];have c:yV n n 16 (zl (z6 b)++List.replicate 48 0)=some (zl (v8 48 (z6 b))):=i;rw [c,iG];unfold j0;rw [iG];have g:=fun r l=>mw n r l (v8 48 (z6 b)) (by rw [Xs,e]) 64 0 n s rfl (by omega) m;rw [show((0:Nat):Int)=0 from rfl]at g;simp only [H8.zt];rw [g _ zae,iG];simp only [List.drop_zero,kO];have o:∀x y:Nat,x+y=y+x:=Nat.add_comm;simp only [H8.block,H8.add,m32,Nat.add_comm s.a,Nat.add_comm s.b,Nat.add_comm s.c,Nat.add_comm s.d,Nat.add_comm s.e,Nat.add_comm s.f,Nat.add_comm s.g,Nat.add_comm s.h]
def zah (n:Nat) (a:List (List UInt8)) (g:a.length<100000) (h:a.flatten.length<900000):∀(j i k:Nat),i+j=a.length->j<k ->
  yB n a k (a.take i).flatten (i:Int)=some a.flatten
 | 0,i,k+1,l,m=>by
  rw [yB,iH (by simp; omega)];rw [show a.take i=a by rw [show i=a.length by omega]; simp]
 | j + 1,i,k+1,l,m=>by
  have b:i<a.length:=by omega
  rw [yB,iI (by simp; omega)]
  have e:yj a (i:Int)=some a[i]:=by
   unfold yj;rw [iI (by omega),Int.toNat_natCast,iK b]
  have c:(a.take (i+1)).flatten=(a.take i).flatten++a[i]:=by rw [List.take_add_one,iK b]; simp only [Option.toList_some,List.flatten_append,List.flatten_cons,List.flatten_nil,List.append_nil]
  have f:YK (a.take i).flatten a[i]=some (a.take (i+1)).flatten:=by
   unfold YK
   have:(a.take (i+1)).flatten.length<=a.flatten.length:=by
    conv=>rhs; rw [<-List.take_append_drop (i+1) a]
    rw [List.flatten_append,iO]; omega
   rw [c,iO]at this;rw [iI (by omega),c]
  rw [e,iG,f,iG,kD i (by omega)];exact zah n a g h j (i+1) k (by omega) (by omega)
def nO (x v:Nat) (a:v<8):Uu .i64 (x:Int) ((8*v:Nat):Int)=some ((x/256^v:Nat):Int):=by
 unfold Uu;rw [iH (by omega)];have:min ((8*v:Nat):Int).toNat (IntKind.bits .i64)=8*v:=by show min (8*v) 64=8*v; omega
 rw [this,show((2:Int)^(8*v))=((2^(8*v):Nat):Int)by simp,Xi,Nat.pow_mul]
def Ul (x:Nat):IntKind.wrap .u8 (x:Int)=((x%256:Nat):Int):=by
 simp [IntKind.wrap,IntKind.bits,IntKind.signed]
def tU (n:Nat) (y:List UInt8) (h:y.length<100000) (p:Nat) (g:p<64):∀(j v k:Nat),v+j=8->j<k ->
  yD n y (9+p) k (v:Int) (zl (128::(List.replicate (p+j) 0++beN v (8*y.length))))=some (zl (128::(List.replicate p 0++beN 8 (8*y.length))))
 | 0,v,k+1,e,f=>by
  have:v=8:=by omega
  subst this;rw [yD,iH (by simp)];rfl
 | j+1,v,k+1,e,f=>by
  rw [yD,iI (by simp; omega)];rw [show(8:Int)*(y.length:Int)=((8*y.length:Nat):Int)by omega,show(8:Int)*(v:Int)=((8*v:Nat):Int)by omega,uD _ (by omega:8*y.length<1000000),uD _ (by omega:8*v<1000000),nO _ _ (by omega),iG]
  have a:IntKind.wrap .i64 ((((9+p:Nat):Nat):Int)-1)=((8+p:Nat):Int):=by
   have:=pZ (9+p) 1 (by omega) (by omega);rw [show((1:Nat):Int)=1 from rfl]at this;rw [this]; congr 1; omega
  have b:IntKind.wrap .i64 (((8+p:Nat):Int)-(v:Int))=((8+p-v:Nat):Int):=pZ (8+p) v (by omega) (by omega);rw [a,b,vp (by omega:8+p-v<9+p),iG,Ul]
  have c:pI (zl (128::(List.replicate (p+(j+1)) 0++beN v (8*y.length)))) ((8+p-v)*1) ((8*y.length/256^v%256:Nat):Int)=some (zl (128::(List.replicate (p+j) 0++beN (v+1) (8*y.length)))):=by
   unfold pI;rw [iI (by simp [Xw]; omega)]
   congr 1
   rw [Nat.mul_one,show 8+p-v=(p+j)+1 by omega,show p+(j+1)=(p+j)+1 by omega];have:List.replicate (p+j+1) 0=List.replicate (p+j) 0 ++ [0]:=List.replicate_succ';rw [this,<-List.map_set,List.set_cons_succ]
   congr 2
   rw [List.append_assoc,List.set_append_right _ _ (by simp),List.length_replicate,Nat.sub_self];rfl
  rw [c,iG,kD v (by omega)];exact tU n y h p g j (v+1) k (by omega) (by omega)
def tW {n:Nat} (a:100<=n) (x:List UInt8) (l:x.length<900000):∀(j i k:Nat) (s:H8),64*(i+j)=x.length->j<k->s.lt ->
  yk n x k s.zs ((64*i:Nat):Int)=some (H8.blk j s (x.drop (64*i))).zs
 | 0,i,k+1,s,f,g,b=>by
  rw [yk,iH (by simp; omega)];rfl
 | j+1,i,k+1,s,f,g,b=>by
  rw [yk,iI (by simp; omega)]
  have c:IntKind.wrap .i64 (((64*i:Nat):Int)+64)=((64*(i+1):Nat):Int):=by
   rw [show((64*i:Nat):Int)+64=((64*(i+1):Nat):Int)by omega,uD _ (by omega)]
  have e:ssl x ((64*i:Nat):Int) ((64*(i+1):Nat):Int)=some ((x.drop (64*i)).take 64):=by
   unfold ssl;rw [iI ⟨by omega,by omega,by omega⟩,Int.toNat_natCast,Int.toNat_natCast,List.drop_take,show 64*(i+1)-64*i=64 by omega]
  have h:((x.drop (64*i)).take 64).length=64:=by simp; omega
  rw [c,e,iG,fM a s b _ h,iG];rw [tW a x l j (i+1) k _ (by omega) (by omega) (bI _ _)];rw [H8.blk,List.drop_drop,show 64*i+64=64*(i+1)by omega]
def jY (x:Nat):List Nat:= [x/16777216%256,x/65536%256,x/256%256,x%256]
def cY (x:Nat):u8s (jY x)=be4 x:=by
 have h:∀y:Nat,UInt8.ofNat (y%256)=UInt8.ofNat y:=fun y=>UInt8.toNat_inj.1 (by simp [UInt8.toNat_ofNat']);simp [u8s,jY,be4,h]
def UJ (l:List Nat):b2s (zl l)=u8s l:=by
 simp [b2s,u8s,zl,Function.comp_def]
def za9 (x:Nat):([IntKind.wrap .u8 (Int.fdiv (x:Int) 16777216),IntKind.wrap .u8 (Int.fdiv (x:Int) 65536),IntKind.wrap .u8 (Int.fdiv (x:Int) 256),IntKind.wrap .u8 (x:Int)]:List Int)=zl (jY x):=by
 rw [show(16777216:Int)=((16777216:Nat):Int)from rfl,show(65536:Int)=((65536:Nat):Int)from rfl,show(256:Int)=((256:Nat):Int)from rfl,Xi,Xi,Xi,Ul,Ul,Ul,Ul];rfl
def Vn (l r:List Nat) (h:l.length+r.length<100000):vF 1 (zl l) (zl r)=some (zl (l++r)):=by
 unfold vF;rw [iI (by simp; omega)];simp
def tK (n:Nat) (ws:List Nat) (h:ws.length<100):∀(j i k:Nat),i+j=ws.length->j<k ->
  yE n (zl ws) k (zl ((ws.take i).flatMap jY)) (i:Int)=some (zl (ws.flatMap jY))
 | 0,i,k+1,f,g=>by
  rw [yE,iH (by simp; omega)];rw [show ws.take i=ws by rw [show i=ws.length by omega]; simp]
 | j+1,i,k+1,f,g=>by
  have b:i<ws.length:=by omega
  rw [yE,iI (by simp; omega),PY b,iG,za9]
  have c:∀l:List Nat,(l.flatMap jY).length=4*l.length:=fun l=>by
   induction l with
   |nil=>rfl
   |cons a r m=>simp only [List.flatMap_cons,iO,m,jY,List.length_cons,List.length_nil]; omega
  have e:(ws.take (i+1)).flatMap jY=(ws.take i).flatMap jY++jY ws[i]:=by rw [List.take_add_one,iK b]; simp only [Option.toList_some,List.flatMap_append,List.flatMap_cons,List.flatMap_nil,List.append_nil]
  rw [Vn _ _ (by rw [c]; simp [jY]; omega),iG,<-e,kD i (by omega)];exact tK n ws h j (i+1) k (by omega) (by omega)
def H8.ws (s:H8):List Nat:= [s.a,s.b,s.c,s.d,s.e,s.f,s.g,s.h]
def zcs (s:H8):s.zs=zl s.ws:=rfl
def BV (s:H8):u8s (s.ws.flatMap jY)=s.bytes:=by
 simp only [H8.ws,List.flatMap_cons,List.flatMap_nil,H8.bytes,<-cY,u8s,List.map_append,List.append_nil,List.append_assoc]
def QF {n:Nat} (F:100000<=n) (a:List (List UInt8)) (A:a.length<100000) (B:a.flatten.length<90000):ww n a=some (sha a.flatten):=by
 unfold ww;have v:yB n a n ([]:List UInt8) 0=some a.flatten:=zah n a A (by omega) a.length 0 n (by omega) (by omega);rw [v,iG];generalize E:a.flatten=l at B ⊢;have f:IntKind.wrap .i64 ((l.length:Int)+9)=((l.length+9:Nat):Int):=by rw [show(l.length:Int)+9=((l.length+9:Nat):Int)by omega,uD _ (by omega)]
 have g:IntKind.wrap .i64 ((64:Int)-Int.tmod ((l.length+9:Nat):Int) 64)=((64-(l.length+9)%64:Nat):Int):=by
  have:Int.tmod ((l.length+9:Nat):Int) 64=(((l.length+9)%64:Nat):Int):=rfl;rw [this];exact pZ 64 ((l.length+9)%64) (by omega) (by omega)
 have C:(if((((64-(l.length+9)%64:Nat):Nat):Int)==64)=true then some (0:Int)else some (((64-(l.length+9)%64:Nat):Nat):Int))=some ((gJ l.length:Nat):Int):=by
  unfold gJ;split
  ·rename_i h; congr 1; simp at h; omega
  ·rename_i h; congr 1; simp at h; omega
 rw [f,g,C,iG];have b:gJ l.length<64:=Nat.mod_lt _ (by decide);generalize e:gJ l.length=p at b ⊢;have i:IntKind.wrap .i64 ((9:Int)+(p:Int))=((9+p:Nat):Int):=by rw [show(9:Int)+(p:Int)=((9+p:Nat):Int)by omega,uD _ (by omega)]
 have j:WQ 1 ((9+p:Nat):Int) ((9+p:Nat):Int)=some (9+p):=by
  unfold WQ;rw [iI ⟨by omega,by omega,by omega,by omega⟩,Int.toNat_natCast]
 have m:jo (9+p) 0=some 0:=vp (by omega:0<9+p)
 have o:pI (List.replicate (9+p) (0:Int)) (0*1) 128=some (zl (128::(List.replicate (p+8) 0++beN 0 (8*l.length)))):=by
  unfold pI;rw [iI (by simp; omega),show 9+p=(p+8)+1 by omega,List.replicate_succ];simp [beN]
 rw [i,j,iG,m,iG,o,iG];have x:yD n l (9+p) n 0 _=_:=tU n l (by omega) p b 8 0 n rfl (by omega);rw [x,iG]
 have q:rF (9+p) (zl (128::(List.replicate p 0++beN 8 (8*l.length))))=some (u8s (ZV l.length)):=by
  unfold rF;rw [iI (by simp [Xw]; omega),List.take_of_length_le (by simp [Xw]; omega),UJ];unfold ZV; rw [e]
 have r:YK l (u8s (ZV l.length))=some (pad l):=by
  unfold YK;have:=Xk l;rw [pad,iO]at this;rw [iI (by omega)]; rfl
 rw [q,iG,r,iG];have y:yk n (pad l) n wq.zs 0=_:=tW (by omega) (pad l) (by rw [Xk]; omega) ((l.length+72)/64) 0 n wq (by rw [Xk]; omega) (by omega) ZI;have c:yk n (pad l) n ([1779033703,3144134277,1013904242,2773480762,1359893119,2600822924,528734635,1541459225]:List Int) 0=_:=y;rw [c,iG];have t:Qo 1 32=some ():=rfl;rw [t,iG,zcs];have z:yE n _ n [] 0=_:=tK n (H8.blk ((l.length+72)/64) wq (List.drop (64*0) (pad l))).ws (by simp [H8.ws]) 8 0 n rfl (by omega);rw [z,iG,UJ,BV];rfl
def Wd {n:Nat} (e:100000<=n) (a:List (List UInt8)) (b:a.length<100000) (c:a.flatten.length<90000):wj n a=some ((sha a.flatten).take 16):=by
 unfold wj;rw [QF e a b c,iG];rfl
def Q7:∀(m k:Nat) (s:H8) (l:List UInt8),H8.blk (m+k) s l=H8.blk k (H8.blk m s l) (l.drop (64*m))
 |0,k,s,l=>by simp [H8.blk]
 | m+1,k,s,l=>by
  rw [show m+1+k=(m+k)+1 by omega,H8.blk,Q7 m k,List.drop_drop,show 64+64*m=64*(m+1)by omega];rfl
def Q6:∀(m:Nat) (s:H8) (l b:List UInt8),64*m<=l.length->H8.blk m s (l++b)=H8.blk m s l
 |0,s,l,b,h=>rfl
 | m+1,s,l,b,h=>by
  rw [H8.blk,H8.blk,List.take_append_of_le_length (by omega),List.drop_append_of_le_length (by omega)];exact Q6 m _ _ b (by simp; omega)
def G5:∀(m:Nat) {s:H8} (l:List UInt8),s.lt->(H8.blk m s l).lt
 |0,_,_,h=>h
 |m+1,s,l,_=>by rw [H8.blk]; exact G5 m _ (bI _ _)
def js (l:List UInt8):(s2b l).length=l.length:=by simp [s2b]
def PW (l r:List UInt8):s2b (l++r)=s2b l++s2b r:=by simp [s2b]
def oN (l:List UInt8) (k:Nat):s2b (l.take k)=(s2b l).take k:=by simp [s2b]
def oJ (l:List UInt8) (k:Nat):s2b (l.drop k)=(s2b l).drop k:=by simp [s2b]
def zcA (x:List UInt8) (h:64<=x.length):lsl (s2b x) 0 64=some (s2b (x.take 64)):=by
 unfold lsl;rw [iI ⟨by omega,by omega,by rw [js]; omega⟩,oN]; rfl
def zcr (x:List UInt8) (h:64<=x.length):lsl (s2b x) 64 ((s2b x).length:Int)=some (s2b (x.drop 64)):=by
 unfold lsl;rw [iI ⟨by omega,by rw [js]; omega,by omega⟩,Int.toNat_natCast,List.take_length,oJ]; rfl
def zaA {n:Nat} (c:100<=n):∀(k:Nat) (x:List UInt8) (s:H8),x.length/64<k->s.lt ->
  xV n k (s2b x) s.a s.b s.c s.d s.e s.f s.g s.h=some (s2b (x.drop (64*(x.length/64))),((H8.blk (x.length/64) s x).a:Int),((H8.blk (x.length/64) s x).b:Int),((H8.blk (x.length/64) s x).c:Int),((H8.blk (x.length/64) s x).d:Int),((H8.blk (x.length/64) s x).e:Int),((H8.blk (x.length/64) s x).f:Int),((H8.blk (x.length/64) s x).g:Int),((H8.blk (x.length/64) s x).h:Int))
 | k+1,x,s,j,i=>by
  rw [xV,js]
  by_cases h:64<=x.length
  ·rw [iI (by simp; omega),zcA x h,iG];have g:xJ n {f_0:=(s.a:Int),f_1:=s.b,f_2:=s.c,f_3:=s.d,f_4:=s.e,f_5:=s.f,f_6:=s.g,f_7:=s.h} (s2b (x.take 64))=_:=JN c s i (x.take 64) (by simp; omega);have b:=zcr x h;rw [js]at b;rw [g,iG,b,iG];have a:=zaA c k (x.drop 64) (s.block (z6 (x.take 64))) (by simp; omega) (bI _ _);have e:x.length/64=(x.length-64)/64+1:=by omega
   have hd:(x.drop 64).length=x.length-64:=by simp
   rw [hd,List.drop_drop,show 64+64*((x.length-64)/64)=64*((x.length-64)/64+1)by omega,<-e]at a;have f:H8.blk ((x.length-64)/64) (s.block (z6 (x.take 64))) (x.drop 64)=H8.blk (x.length/64) s x:=by rw [e]; rfl
   rw [f]at a;exact a
  ·rw [iH (by simp; omega)];have e:x.length/64=0:=by omega
   rw [e];rfl
def xX (l:List UInt8):zn:=if l= []then⟨⟨0,0,0,0,0,0,0,0⟩,[],0⟩else⟨(H8.blk (l.length/64) wq l).zt,s2b (l.drop (64*(l.length/64))),(l.length:Int)⟩
def G7 (l:List UInt8):(xX l).f_n=(l.length:Int):=by
 unfold xX; split
 ·rename_i h; subst h; rfl
 ·rfl
def JL (l:List UInt8):(xX l).uj=s2b (l.drop (64*(l.length/64))):=by
 unfold xX; split
 ·rename_i h; subst h; rfl
 ·rfl
def mP {l:List UInt8} (h:l≠ []):(xX l).f_h=(H8.blk (l.length/64) wq l).zt:=by
 unfold xX; rw [iH h]
def f7 {n:Nat} (K:100000<=n) (l b:List UInt8) (I:l.length+b.length<90000):we n b (xX l)=some (xX (l++b)):=by
 unfold we
 by_cases c:b= []
 ·subst c;rw [iI (by rfl),List.append_nil]
 ·rw [iH (by simpa using c)];have e:b.length≠0:=by simpa using c
  have o:(if((xX l).f_n==0)=true then(vY n).bind fun a=>some (a.f_0,a.f_1,a.f_2,a.f_3,a.f_4,a.f_5,a.f_6,a.f_7)else some ((xX l).f_h.f_0,(xX l).f_h.f_1,(xX l).f_h.f_2,(xX l).f_h.f_3,(xX l).f_h.f_4,(xX l).f_h.f_5,(xX l).f_h.f_6,(xX l).f_h.f_7))=
    some (((H8.blk (l.length/64) wq l).a:Int),((H8.blk (l.length/64) wq l).b:Int),((H8.blk (l.length/64) wq l).c:Int),((H8.blk (l.length/64) wq l).d:Int),((H8.blk (l.length/64) wq l).e:Int),((H8.blk (l.length/64) wq l).f:Int),((H8.blk (l.length/64) wq l).g:Int),((H8.blk (l.length/64) wq l).h:Int)):=by
   rw [G7]
   by_cases h:l= []
   ·subst h; rw [iI (by simp)]; rfl
   ·have:l.length≠0:=by simpa using h
    rw [iH (by simp; omega),mP h]; rfl
  rw [o,iG,JL,G7];have C:(l.drop (64*(l.length/64))).length<64:=by simp; omega
  generalize g:l.drop (64*(l.length/64))=r at C;have E:(r++b).length=r.length+b.length:=iO;have A:(l++b).length=l.length+b.length:=iO;have p:WP 1 (s2b r)=some (s2b r):=by unfold WP; rw [iI (by rw [js]; omega)]
  have q:fS 1 (s2b r).length (s2b r) (s2b b)=some (s2b (r++b)):=by
   unfold fS;rw [iI ⟨rfl,by rw [js]; exact e,by rw [js,js]; omega⟩,PW]
  have t:Wf ((s2b r).length+(s2b b).length) (s2b (r++b))=some (s2b (r++b)):=by
   unfold Wf;rw [iI (by simp [s2b]),List.take_of_length_le (by simp [s2b])]
  have v:=zaA (n:=n) (by omega) n (r++b) (H8.blk (l.length/64) wq l) (by omega) (G5 _ _ ZI);rw [p,iG,q,iG,t,iG,v,iG];have x:∀z:List UInt8,z.length<100000->WP 1 (s2b z)=some (s2b z):=fun z L=>by unfold WP; rw [iI (by rw [js]; omega)]
  have y:∀z:List Int,Wf z.length z=some z:=fun z=>by unfold Wf; rw [iI (iP _),List.take_length]
  simp only;rw [x _ (by rw [List.length_drop]; omega),iG,y,iG];have B:l=l.take (64*(l.length/64))++r:=by rw [<-g,List.take_append_drop]
  have i:r.length=l.length-64*(l.length/64):=by rw [<-g,List.length_drop]
  have j:(l++b).length/64=l.length/64+(r++b).length/64:=by omega
  have m:(l++b).drop (64*(l.length/64))=r++b:=by rw [List.drop_append_of_le_length (by omega),g]
  have F:H8.blk ((l++b).length/64) wq (l++b)=H8.blk ((r++b).length/64) (H8.blk (l.length/64) wq l) (r++b):=by
   rw [j,Q7,m,Q6 (l.length/64) wq l b (by omega)]
  have G:(l++b).drop (64*((l++b).length/64))=(r++b).drop (64*((r++b).length/64)):=by
   rw [j,Nat.mul_add,<-List.drop_drop,m]
  have f:l++b≠ []:=by simp [c]
  unfold xX;rw [iH f,F,G]
  have H:IntKind.wrap .i64 ((l.length:Int)+(b.length:Int))=((l++b).length:Int):=by
   rw [show(l.length:Int)+(b.length:Int)=((l.length+b.length:Nat):Int)by omega,uD _ (by omega),iO]
  rw [H];rfl
def s6 {l:List Nat} (h:∀x∈l,x<256):s2b (u8s l)=zl l:=by
 simp only [s2b,u8s,zl,List.map_map];refine List.map_congr_left fun x a=> ?_;have:=h x a;simp [UInt8.toNat_ofNat',Nat.mod_eq_of_lt this]
def oX:∀k x,∀y∈beN k x,y<256
 |0,_,y,h=>by simp [beN]at h
 | k+1,x,y,h=>by
  simp only [beN,List.mem_cons]at h;rcases h with rfl|h
  ·exact Nat.mod_lt _ (by decide)
  ·exact oX k x y h
def tL (n:Nat):∀(j:Nat) (l:List Int) (k:Nat),(l.length+j)%64=56->j<64->j<k->l.length+j<100000->xQ n k l=some (l++List.replicate j 0)
 | 0,l,k+1,h,a,b,c=>by
  have:Int.tmod (l.length:Int) 64=((l.length%64:Nat):Int):=rfl;rw [xQ,this,iH (by rw [Nat.add_zero]at h; rw [h]; decide)];simp
 | j+1,l,k+1,h,a,b,c=>by
  have:Int.tmod (l.length:Int) 64=((l.length%64:Nat):Int):=rfl
  rw [xQ,this,iI (by
   simp only [bne_iff_ne,ne_eq]
   omega)]
  have e:vF 1 l ([0]:List Int)=some (l ++ [0]):=by
   unfold vF;rw [iI (by simp; omega)]
  rw [e,iG];rw [tL n j (l ++ [0]) k (by simp; omega) (by omega) (by omega) (by simp; omega),List.append_assoc];rfl
def zaW (x v:Nat) (b:v<8) (a:8*x<1000000):Uu .u64 (IntKind.wrap .u64 ((IntKind.wrap .u64 (x:Int))*8)) (IntKind.wrap .u64 ((8:Int)*(IntKind.wrap .u64 (v:Int))))=some ((8*x/256^v:Nat):Int):=by
 have w:∀y:Nat,y<1000000->IntKind.wrap .u64 (y:Int)=(y:Int):=fun y c=>by
  have e:(y:Int)%2^64=(y:Int):=Int.emod_eq_of_lt (by omega) (by omega);simp only [IntKind.wrap,IntKind.bits,IntKind.signed,e,Bool.false_and,iT,if_false]
 rw [w x (by omega),w v (by omega),show(x:Int)*8=((8*x:Nat):Int)by omega,show(8:Int)*(v:Int)=((8*v:Nat):Int)by omega,w _ a,w _ (by omega)];unfold Uu;rw [iH (by omega)];have:min ((8*v:Nat):Int).toNat (IntKind.bits .u64)=8*v:=by show min (8*v) 64=8*v; omega
 rw [this,show((2:Int)^(8*v))=((2^(8*v):Nat):Int)by simp,Xi,Nat.pow_mul]
def t7 (n:Nat) (y:((List Int)×Int×Int×Int×Int×Int×Int×Int×Int×Int)) (x:Nat) (b:y.2.1=(x:Int)) (a:8*x<1000000):∀(v:Nat) (l:List Nat) (k:Nat),v<=8->l.length+v<99000->v<k ->
  xK n y k (zl l) ((v:Int)-1)=some (zl (l++beN v (8*x)))
 | 0,l,k+1,h,g,f=>by
  rw [xK,iH (by simp)];simp [beN]
 | v+1,l,k+1,h,g,f=>by
  rw [show((v+1:Nat):Int)-1=(v:Int)by omega];rw [xK,iI (by simp),b,zaW x v (by omega) a,iG,Ul];have e:vF 1 (zl l) ([((8*x/256^v%256:Nat):Int)]:List Int)=some (zl (l ++ [8*x/256^v%256])):=Vn l [8*x/256^v%256] (by simp; omega);rw [e,iG]
  have c:IntKind.wrap .i64 ((v:Int)-1)=(v:Int)-1:=by
   cases v with
   |zero=>rfl
   |succ v=>rw [show((v+1:Nat):Int)-1=((v:Nat):Int)by omega,uD _ (by omega)]
  rw [c,t7 n y x b a v (l ++ [8*x/256^v%256]) k (by omega) (by simp; omega) (by omega),List.append_assoc];rfl
def tV {n:Nat} (b:100<=n):∀(j k:Nat) (x:List UInt8) (s:H8),x.length=64*j->j<k->s.lt ->
  xM n k (s2b x) s.a s.b s.c s.d s.e s.f s.g s.h=some (((H8.blk j s x).a:Int),((H8.blk j s x).b:Int),((H8.blk j s x).c:Int),((H8.blk j s x).d:Int),((H8.blk j s x).e:Int),((H8.blk j s x).f:Int),((H8.blk j s x).g:Int),((H8.blk j s x).h:Int))
 | 0,k+1,x,s,e,g,c=>by
  rw [xM,js,iH (by rw [e]; decide)];rfl
 | j+1,k+1,x,s,e,g,c=>by
  have a:=zcr x (by omega);rw [js]at a;have f:xJ n {f_0:=(s.a:Int),f_1:=s.b,f_2:=s.c,f_3:=s.d,f_4:=s.e,f_5:=s.f,f_6:=s.g,f_7:=s.h} (s2b (x.take 64))=_:=JN b s c (x.take 64) (by simp; omega);rw [xM,js,iI (by simp; omega),zcA x (by omega),iG,f,iG,a,iG];exact tV b j k (x.drop 64) (s.block (z6 (x.take 64))) (by simp; omega) (by omega) (bI _ _)
def rY {n:Nat} (N:100000<=n) (l:List UInt8) (M:l.length<90000):∃z,wX n (xX l)=some (sha l,z):=by
 unfold wX vY;rw [iG];have G:(l.drop (64*(l.length/64))).length<64:=by simp; omega
 have f:l=l.take (64*(l.length/64))++l.drop (64*(l.length/64)):=by rw [List.take_append_drop]
 have q:(if(decide ((xX l).f_n>0))=true then((vF 1 ([]:List Int) (xX l).uj).bind fun i=>some (i,(xX l).f_n,(xX l).f_h.f_0,(xX l).f_h.f_1,(xX l).f_h.f_2,(xX l).f_h.f_3,(xX l).f_h.f_4,(xX l).f_h.f_5,(xX l).f_h.f_6,(xX l).f_h.f_7))
   else some (([]:List Int),0,1779033703,3144134277,1013904242,2773480762,1359893119,2600822924,528734635,1541459225))=
   some (s2b (l.drop (64*(l.length/64))),(l.length:Int),((H8.blk (l.length/64) wq l).a:Int),((H8.blk (l.length/64) wq l).b:Int),((H8.blk (l.length/64) wq l).c:Int),((H8.blk (l.length/64) wq l).d:Int),((H8.blk (l.length/64) wq l).e:Int),((H8.blk (l.length/64) wq l).f:Int),((H8.blk (l.length/64) wq l).g:Int),((H8.blk (l.length/64) wq l).h:Int)):=by
  rw [G7,JL]
  by_cases h:l= []
  ·subst h; rw [iH (by simp)]; rfl
  ·have:l.length≠0:=by simpa using h
   have e:vF 1 ([]:List Int) (s2b (l.drop (64*(l.length/64))))=some (s2b (l.drop (64*(l.length/64)))):=by
    unfold vF;rw [iI (by rw [js]; simp; omega)]; rfl
   rw [iI (by simp; omega),mP h,e,iG]; rfl
 have a:=q;simp only at a ⊢;rw [a,iG];generalize m:l.drop (64*(l.length/64))=r at G f;have I:r.length=l.length-64*(l.length/64):=by rw [<-m,List.length_drop]
 have zr:s2b r=zl (r.map UInt8.toNat):=by simp [s2b,zl]
 have t:vF 1 (s2b r) ([128]:List Int)=some (zl (r.map UInt8.toNat ++ [128])):=by
  rw [zr]; exact Vn _ [128] (by simp; omega)
 simp only;rw [t,iG];have H:gJ l.length<64:=Nat.mod_lt _ (by decide);have v:=tL n (gJ l.length) (zl (r.map UInt8.toNat ++ [128])) n (by simp only [List.length_map,iO,List.length_cons,List.length_nil]; unfold gJ; omega) H (by omega) (by simp only [List.length_map,iO,List.length_cons,List.length_nil]; omega);rw [v,iG];have y:zl (r.map UInt8.toNat ++ [128])++List.replicate (gJ l.length) (0:Int)=zl (r.map UInt8.toNat ++ [128]++List.replicate (gJ l.length) 0):=by simp
 rw [y];have j:=t7 n (s2b r,(l.length:Int),((H8.blk (l.length/64) wq l).a:Int),((H8.blk (l.length/64) wq l).b:Int),((H8.blk (l.length/64) wq l).c:Int),((H8.blk (l.length/64) wq l).d:Int),((H8.blk (l.length/64) wq l).e:Int),((H8.blk (l.length/64) wq l).f:Int),((H8.blk (l.length/64) wq l).g:Int),((H8.blk (l.length/64) wq l).h:Int)) l.length rfl (by omega) 8 (r.map UInt8.toNat ++ [128]++List.replicate (gJ l.length) 0) n (by omega) (by simp; omega) (by omega);rw [show((8:Nat):Int)-1=7 by decide]at j;rw [j,iG]
 have A:zl (r.map UInt8.toNat ++ [128]++List.replicate (gJ l.length) 0++beN 8 (8*l.length))=s2b (r++u8s (ZV l.length)):=by
  rw [PW,s6 (by
   intro x c;simp only [ZV,List.mem_cons,List.mem_append,List.mem_replicate]at c;rcases c with rfl|⟨_,rfl⟩|c
   ·decide
   ·decide
   ·exact oX _ _ x c),zr]
  simp [ZV]
 have g:=Xk l
 have b:(pad l).drop (64*(l.length/64))=r++u8s (ZV l.length):=by
  rw [pad,List.drop_append_of_le_length (by omega),m]
 have F:(r++u8s (ZV l.length)).length=64*((l.length+72)/64-l.length/64):=by rw [<-b,List.length_drop,g]; omega
 have B:=tV (n:=n) (by omega) ((l.length+72)/64-l.length/64) n (r++u8s (ZV l.length)) (H8.blk (l.length/64) wq l) F (by omega) (G5 _ _ ZI);rw [A,B,iG]
 have C:H8.blk ((l.length+72)/64-l.length/64) (H8.blk (l.length/64) wq l) (r++u8s (ZV l.length))=H8.blk ((l.length+72)/64) wq (pad l):=by
  have:(l.length+72)/64=l.length/64+((l.length+72)/64-l.length/64):=by omega
  conv=>rhs; rw [this,Q7,b,pad,Q6 (l.length/64) wq l _ (by omega)]
 rw [C];generalize E:H8.blk ((l.length+72)/64) wq (pad l)=S
 have o:∀(L:List Nat) (x:Nat),L.length<100->vF 1 (zl L) ([IntKind.wrap .u8 (Int.fdiv (x:Int) 16777216),IntKind.wrap .u8 (Int.fdiv (x:Int) 65536),IntKind.wrap .u8 (Int.fdiv (x:Int) 256),IntKind.wrap .u8 (x:Int)]:List Int)=some (zl (L++jY x)):=fun L x K=>by
  rw [za9]; exact Vn L (jY x) (by simp [jY]; omega)
 have p:=o [] S.a (by decide);rw [show zl []=([]:List Int)from rfl]at p;simp only;rw [p,iG,o _ S.b (by simp [jY]),iG,o _ S.c (by simp [jY]),iG,o _ S.d (by simp [jY]),iG,o _ S.e (by simp [jY]),iG,o _ S.f (by simp [jY]),iG,o _ S.g (by simp [jY]),iG,o _ S.h (by simp [jY]),iG]
 have key:u8s ([]++jY S.a++jY S.b++jY S.c++jY S.d++jY S.e++jY S.f++jY S.g++jY S.h)=sha l:=by
  unfold sha;rw [E,<-BV];simp [H8.ws]
 rw [UJ,key];exact⟨_,rfl⟩
def Pr {n:Nat} (g:100000<=n) (a:List (List UInt8)) (m:a.length<90000) (o:a.flatten.length<90000):∀(j i k:Nat),i+j=a.length->j<k ->
  w6 n a k (i:Int) (xX (a.take i).flatten).f_h.f_0 (xX (a.take i).flatten).f_h.f_1 (xX (a.take i).flatten).f_h.f_2 (xX (a.take i).flatten).f_h.f_3 (xX (a.take i).flatten).f_h.f_4 (xX (a.take i).flatten).f_h.f_5 (xX (a.take i).flatten).f_h.f_6 (xX (a.take i).flatten).f_h.f_7 (xX (a.take i).flatten).uj (xX (a.take i).flatten).f_n=
   some ((xX a.flatten).f_h.f_0,(xX a.flatten).f_h.f_1,(xX a.flatten).f_h.f_2,(xX a.flatten).f_h.f_3,(xX a.flatten).f_h.f_4,(xX a.flatten).f_h.f_5,(xX a.flatten).f_h.f_6,(xX a.flatten).f_h.f_7,(xX a.flatten).uj,(xX a.flatten).f_n)
 | 0,i,k+1,p,q=>by
  rw [w6,iH (by simp; omega)];rw [show a.take i=a by rw [show i=a.length by omega]; simp]
 | j+1,i,k+1,p,q=>by
  have b:i<a.length:=by omega
  have h:yj a (i:Int)=some a[i]:=by
   unfold yj;rw [iI (by omega),Int.toNat_natCast,iK b]
  have f:(a.take (i+1)).flatten=(a.take i).flatten++a[i]:=by rw [List.take_add_one,iK b]; simp only [Option.toList_some,List.flatten_append,List.flatten_cons,List.flatten_nil,List.append_nil]
  have e:(a.take (i+1)).flatten.length<=a.flatten.length:=by
   conv=>rhs; rw [<-List.take_append_drop (i+1) a]
   rw [List.flatten_append,iO]; omega
  rw [f,iO]at e;have l:we n a[i] (xX (a.take i).flatten)=_:=f7 g (a.take i).flatten a[i] (by omega);rw [w6,iI (by simp; omega),h,iG];have c:we n a[i] (zn.mk (zw.mk (xX (a.take i).flatten).f_h.f_0 (xX (a.take i).flatten).f_h.f_1 (xX (a.take i).flatten).f_h.f_2 (xX (a.take i).flatten).f_h.f_3 (xX (a.take i).flatten).f_h.f_4 (xX (a.take i).flatten).f_h.f_5 (xX (a.take i).flatten).f_h.f_6 (xX (a.take i).flatten).f_h.f_7) (xX (a.take i).flatten).uj (xX (a.take i).flatten).f_n)=some (xX ((a.take i).flatten++a[i])):=l;rw [c,iG,kD i (by omega),<-f];exact Pr g a m o j (i+1) k (by omega) (by omega)
def PI {n:Nat} (e:100000<=n) (a:List (List UInt8)) (g:a.length<90000) (c:a.flatten.length<90000):qT n a=some (sha a.flatten):=by
 unfold qT qK;rw [iG];have f:w6 n a n 0 0 0 0 0 0 0 0 0 ([]:List Int) 0=_:=Pr e a g c a.length 0 n (by omega) (by omega);simp only;rw [f,iG];obtain⟨z,h⟩:=rY e a.flatten c;have b:wX n (zn.mk (zw.mk (xX a.flatten).f_h.f_0 (xX a.flatten).f_h.f_1 (xX a.flatten).f_h.f_2 (xX a.flatten).f_h.f_3 (xX a.flatten).f_h.f_4 (xX a.flatten).f_h.f_5 (xX a.flatten).f_h.f_6 (xX a.flatten).f_h.f_7) (xX a.flatten).uj (xX a.flatten).f_n)=some (sha a.flatten,z):=h;simp only;rw [b,iG]
def JQ {n:Nat} (e:100000<=n) (a:List (List UInt8)) (b:a.length<90000) (c:a.flatten.length<90000):jB n a=some ((sha a.flatten).take 16):=by
 unfold jB;rw [PI e a b c,iG];rfl
end Go.Abs
end
