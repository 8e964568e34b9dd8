/- The hashes of the program and of the reference are one plain function. No condition. -/
import Derived.Test.YtkabooclnoiclaaGreatDoorW1
set_option linter.all false
section
namespace Go.Abs
def rot (x n:Nat):Nat:=x/2^n|||(x*2^(32-n))%4294967296
theorem wL {x:Nat} (k:Nat) (h:x<4294967296):x/k<4294967296:=Nat.lt_of_le_of_lt (Nat.div_le_self _ _) h
theorem Yp (x:Nat):x%4294967296<4294967296:=Nat.mod_lt _ (by decide)
theorem zX {x:Nat} (n:Nat) (h:x<4294967296):rot x n<4294967296:=Nat.or_lt_two_pow (n:=32) (wL _ h) (Yp _)
theorem yl {a b:Nat} (ha:a<4294967296) (hb:b<4294967296):a ^^^ b<4294967296:=Nat.xor_lt_two_pow (n:=32) ha hb
theorem yx {a b:Nat} (hb:b<4294967296):a &&& b<4294967296:=Nat.and_lt_two_pow (n:=32) _ hb
def m32 (x:Nat):Nat:=x%4294967296
def sg0 (x:Nat):Nat:=rot x 7 ^^^ rot x 18 ^^^ x/8
def sg1 (x:Nat):Nat:=rot x 17 ^^^ rot x 19 ^^^ x/1024
def bS0 (x:Nat):Nat:=rot x 2 ^^^ rot x 13 ^^^ rot x 22
def bS1 (x:Nat):Nat:=rot x 6 ^^^ rot x 11 ^^^ rot x 25
def chN (e f g:Nat):Nat:=(e &&& f) ^^^ ((4294967295 ^^^ e) &&& g)
def mjN (a b c:Nat):Nat:=(a &&& b) ^^^ (a &&& c) ^^^ (b &&& c)
structure H8 where
 (a b c d e f g h:Nat)
def H8.lt (s:H8):Prop:=s.a<4294967296∧s.b<4294967296∧s.c<4294967296∧s.d<4294967296∧s.e<4294967296∧s.f<4294967296∧s.g<4294967296∧s.h<4294967296
def tN (s:H8) (k w:Nat):Nat:=m32 (m32 (m32 (m32 (s.h+bS1 s.e)+chN s.e s.f s.g)+k)+w)
def H8.step (s:H8) (k w:Nat):H8:=⟨m32 (tN s k w+m32 (bS0 s.a+mjN s.a s.b s.c)),s.a,s.b,s.c,m32 (s.d+tN s k w),s.e,s.f,s.g⟩
def H8.run (s:H8):List Nat→List Nat→H8
 |k::ks,w::ws=>(s.step k w).run ks ws
 |_,_=>s
def vZ (l:List Nat):Nat:=m32 (m32 (m32 (l.getD (l.length-16) 0+sg0 (l.getD (l.length-15) 0))+l.getD (l.length-7) 0)+sg1 (l.getD (l.length-2) 0))
def xg:Nat→List Nat→List Nat
 |0,l=>l
 |n+1,l=>xg n (l ++ [vZ l])
def kW:List Nat:= [1116352408,1899447441,3049323471,3921009573,961987163,1508970993,2453635748,2870763221,3624381080,310598401,607225278,1426881987,1925078388,2162078206,2614888103,3248222580,3835390401,4022224774,264347078,604807628,770255983,1249150122,1555081692,1996064986,2554220882,2821834349,2952996808,3210313671,3336571891,3584528711,113926993,338241895,666307205,773529912,1294757372,1396182291,1695183700,1986661051,2177026350,2456956037,2730485921,2820302411,3259730800,3345764771,3516065817,3600352804,4094571909,275423344,430227734,506948616,659060556,883997877,958139571,1322822218,1537002063,1747873779,1955562222,2024104815,2227730452,2361852424,2428436474,2756734187,3204031479,3329325298]
def H8.add (s t:H8):H8:=⟨m32 (s.a+t.a),m32 (s.b+t.b),m32 (s.c+t.c),m32 (s.d+t.d),m32 (s.e+t.e),m32 (s.f+t.f),m32 (s.g+t.g),m32 (s.h+t.h)⟩
def H8.block (s:H8) (ws:List Nat):H8:=s.add (s.run kW (xg 48 ws))
def word4 (a b c d:Nat):Nat:=a*16777216+b*65536+c*256+d
def zv:List UInt8→List Nat
 |a::b::c::d::l=>word4 a.toNat b.toNat c.toNat d.toNat::zv l
 |_=> []
theorem un (x:Nat):m32 x<4294967296:=Nat.mod_lt _ (by decide)
theorem oG {x:Nat} (h:x<4294967296):sg0 x<4294967296:=yl (yl (zX _ h) (zX _ h)) (wL _ h)
theorem n9 {x:Nat} (h:x<4294967296):sg1 x<4294967296:=yl (yl (zX _ h) (zX _ h)) (wL _ h)
theorem oH {x:Nat} (h:x<4294967296):bS0 x<4294967296:=yl (yl (zX _ h) (zX _ h)) (zX _ h)
theorem nL {x:Nat} (h:x<4294967296):bS1 x<4294967296:=yl (yl (zX _ h) (zX _ h)) (zX _ h)
theorem H8.step_lt {s:H8} (h:s.lt) (k w:Nat):(s.step k w).lt:=⟨un _,h.1,h.2.1,h.2.2.1,un _,h.2.2.2.2.1,h.2.2.2.2.2.1,h.2.2.2.2.2.2.1⟩
theorem H8.run_lt:∀(ks ws:List Nat) {s:H8},s.lt→(s.run ks ws).lt
 | [],_,s,h=>by simpa [H8.run] using h
 |_::_,[],s,h=>by simpa [H8.run] using h
 |k::ks,w::ws,s,h=>by simp only [H8.run]; exact H8.run_lt ks ws (H8.step_lt h k w)
theorem H8.add_lt (s t:H8):(s.add t).lt:=⟨un _,un _,un _,un _,un _,un _,un _,un _⟩
theorem kH {l:List Nat} (h:∀x∈l,x<4294967296) (i:Nat):l.getD i 0<4294967296:=by
 rcases Nat.lt_or_ge i l.length with hi|hi
 ·simp only [List.getD,List.getElem?_eq_getElem hi,Option.getD_some]; exact h _ (List.getElem_mem hi)
 ·simp [List.getD,List.getElem?_eq_none hi]
theorem Zk (l:List Nat):vZ l<4294967296:=un _
theorem gT:∀(j:Nat) (l:List Nat),(xg j l).length=l.length+j
 |0,l=>rfl
 |j+1,l=>by rw [xg,gT j]; simp; omega
theorem DA {a b c d:Nat} (ha:a<256) (hb:b<256) (hc:c<256) (hd:d<256):word4 a b c d<4294967296:=by unfold word4; omega
theorem jx:∀(b:List UInt8),∀x∈zv b,x<4294967296
 | x::y::z::w::l,v,h=>by
  simp only [zv,List.mem_cons]at h
  rcases h with rfl|h
  ·exact DA x.toNat_lt y.toNat_lt z.toNat_lt w.toNat_lt
  ·exact jx l v h
 | [],_,h=>by simp [zv]at h
 | [_],_,h=>by simp [zv]at h
 | [_,_],_,h=>by simp [zv]at h
 | [_,_,_],_,h=>by simp [zv]at h
theorem dT (b:List UInt8) (h:b.length=64):(zv b).length=16:=by
 have key:∀(m:Nat) (b:List UInt8),b.length=4*m→(zv b).length=m:=by
  intro m
  induction m with
  |zero=>intro b h; have:=List.length_eq_zero_iff.1 (by omega:b.length=0); subst this; rfl
  | succ m ih=>
   intro b h
   match b,h with
   |x::y::z::w::l,h=>simp only [zv,List.length_cons]; rw [ih l (by simp at h; omega)]
   | [],h=>simp at h
   | [_],h=>simp at h; omega
   | [_,_],h=>simp at h; omega
   | [_,_,_],h=>simp at h; omega
 exact key 16 b h
def beN:Nat→Nat→List Nat
 |0,_=> []
 |k+1,x=>x/256^k%256::beN k x
theorem gW:∀k x,(beN k x).length=k
 |0,_=>rfl
 |k+1,x=>by simp [beN,gW k]
def u6 (n:Nat):Nat:=(119-n%64)%64
def bc (n:Nat):List Nat:=128::(List.replicate (u6 n) 0++beN 8 (8*n))
def u8s (l:List Nat):List UInt8:=l.map UInt8.ofNat
def pad (l:List UInt8):List UInt8:=l++u8s (bc l.length)
def H8.blk:Nat→H8→List UInt8→H8
 |0,s,_=>s
 |m+1,s,l=>H8.blk m (s.block (zv (l.take 64))) (l.drop 64)
def be4 (x:Nat):List UInt8:= [UInt8.ofNat (x/16777216),UInt8.ofNat (x/65536),UInt8.ofNat (x/256),UInt8.ofNat x]
def H8.bytes (s:H8):List UInt8:=be4 s.a++be4 s.b++be4 s.c++be4 s.d++be4 s.e++be4 s.f++be4 s.g++be4 s.h
def yk:H8:=⟨1779033703,3144134277,1013904242,2773480762,1359893119,2600822924,528734635,1541459225⟩
def sha (l:List UInt8):List UInt8:=(H8.blk ((l.length+72)/64) yk (pad l)).bytes
theorem gK (l:List UInt8):(pad l).length=64*((l.length+72)/64):=by
 simp [pad,bc,u8s,u6,gW]
 omega
theorem uv (s:H8) (ws:List Nat):(s.block ws).lt:=H8.add_lt _ _
theorem kL:yk.lt:=by unfold H8.lt yk; decide
end Go.Abs
end
section
namespace Go.Abs
open Go
theorem JT (x:Nat):IntKind.wrap .u32 (x:Int)=((x%4294967296:Nat):Int):=by
 simp [IntKind.wrap,IntKind.bits,IntKind.signed]
theorem w6 {x:Nat} (h:x<4294967296):IntKind.wrap .u32 (x:Int)=(x:Int):=by rw [JT,Nat.mod_eq_of_lt h]
theorem kS {x:Nat} (h:x<4294967296):(BitVec.ofInt (IntKind.bits .u32) (x:Int)).toNat=x:=by
 show(BitVec.ofInt 32 (x:Int)).toNat=x
 rw [BitVec.ofInt_natCast,BitVec.toNat_ofNat]
 exact Nat.mod_eq_of_lt h
theorem vP {a b:Nat} (ha:a<4294967296) (hb:b<4294967296):zE .u32 (a:Int) (b:Int)=((a ^^^ b:Nat):Int):=by
 unfold zE
 rw [BitVec.toNat_xor,kS ha,kS hb]
 exact w6 (Nat.xor_lt_two_pow (n:=32) ha hb)
theorem Yy {a b:Nat} (ha:a<4294967296) (hb:b<4294967296):xC .u32 (a:Int) (b:Int)=((a &&& b:Nat):Int):=by
 unfold xC
 rw [BitVec.toNat_and,kS ha,kS hb]
 exact w6 (Nat.and_lt_two_pow (n:=32) _ hb)
theorem Vm {a b:Nat} (ha:a<4294967296) (hb:b<4294967296):ior .u32 (a:Int) (b:Int)=((a|||b:Nat):Int):=by
 unfold ior
 rw [BitVec.toNat_or,kS ha,kS hb]
 exact w6 (Nat.or_lt_two_pow (n:=32) ha hb)
theorem vX (a b:Nat):IntKind.wrap .u32 ((a:Int)+(b:Int))=(((a+b)%4294967296:Nat):Int):=by
 rw [←JT]; rfl
theorem Vk (a:Nat) (k:Nat):IntKind.wrap .u32 ((a:Int)*(k:Int))=(((a*k)%4294967296:Nat):Int):=by
 rw [←JT]; rfl
theorem gI (a k:Nat):Int.fdiv (a:Int) (k:Int)=((a/k:Nat):Int):=by
 rw [Int.fdiv_eq_ediv_of_nonneg _ (Int.natCast_nonneg k)]; rfl
theorem be {x:Nat} (n:Nat) (k l:Int) (hk:k=((2^n:Nat):Int)) (hl:l=((2^(32-n):Nat):Int)) (h:x<4294967296):ior .u32 (Int.fdiv (x:Int) k) (IntKind.wrap .u32 ((x:Int)*l))=((rot x n:Nat):Int):=by
 subst hk hl
 rw [gI,Vk,Vm (wL _ h) (Yp _)]; rfl
theorem rO {x:Nat} (N n:Nat) (hn:n≤32) (hn0:0<n) (h:x<4294967296):zQ N (x:Int) (n:Int)=some ((rot x n:Nat):Int):=by
 have e1:Yi .u32 (x:Int) (n:Int)=some ((x/2^n:Nat):Int):=by
  unfold Yi
  rw [if_neg (by omega)]
  have:min (n:Int).toNat (IntKind.bits .u32)=n:=by show min n 32=n; omega
  rw [this,show((2:Int)^n)=((2^n:Nat):Int)by simp,gI]
 have e0:IntKind.wrap .u64 ((32:Int)-(n:Int))=((32-n:Nat):Int):=by
  rw [show((32:Int)-(n:Int))=((32-n:Nat):Int)by omega]
  simp [IntKind.wrap,IntKind.bits,IntKind.signed]
  omega
 have e2:PE .u32 (x:Int) ((32-n:Nat):Int)=some (((x*2^(32-n))%4294967296:Nat):Int):=by
  unfold PE
  rw [if_neg (by omega)]
  have:min ((32-n:Nat):Int).toNat (IntKind.bits .u32)=32-n:=by show min (32-n) 32=32-n; omega
  rw [this,show((2:Int)^(32-n))=((2^(32-n):Nat):Int)by simp,Vk]
 unfold zQ
 rw [e1,Option.bind_some,e0,e2,Option.bind_some,Vm (wL _ h) (Yp _)]; rfl
abbrev zl (l:List Nat):List Int:=l.map fun x:Nat=>(x:Int)
theorem mD:([1116352408,1899447441,3049323471,3921009573,961987163,1508970993,2453635748,2870763221,3624381080,310598401,607225278,1426881987,1925078388,2162078206,2614888103,3248222580,3835390401,4022224774,264347078,604807628,770255983,1249150122,1555081692,1996064986,2554220882,2821834349,2952996808,3210313671,3336571891,3584528711,113926993,338241895,666307205,773529912,1294757372,1396182291,1695183700,1986661051,2177026350,2456956037,2730485921,2820302411,3259730800,3345764771,3516065817,3600352804,4094571909,275423344,430227734,506948616,659060556,883997877,958139571,1322822218,1537002063,1747873779,1955562222,2024104815,2227730452,2361852424,2428436474,2756734187,3204031479,3329325298]:List Int)=zl kW:=by simp [kW]
theorem yT {n i:Nat} (h:i<n):wZ n (i:Int)=some i:=by
 unfold wZ
 rw [if_pos ⟨by omega,by omega⟩,Int.toNat_natCast]
theorem Kk {l:List Nat} {i:Nat} (h:i<l.length):xW (zl l) (i:Int)=some ((l[i]:Nat):Int):=by
 unfold xW
 rw [if_pos (by omega),Int.toNat_natCast]
 simp [h]
theorem JD {l:List Nat} {i:Nat} (h:i<l.length):(zl l)[0+i*1]? =some ((l[i]:Nat):Int):=by
 rw [Nat.zero_add,Nat.mul_one]
 simp [h]
theorem vQ (i:Nat) (h:i<1000000):IntKind.wrap .i64 ((i:Int)+1)=((i+1:Nat):Int):=by
 have e:((i:Int)+1)%2^64=(i:Int)+1:=Int.emod_eq_of_lt (by omega) (by omega)
 simp only [IntKind.wrap,IntKind.bits,IntKind.signed,e]
 rw [if_neg (by simp; omega)]
 rfl
section
variable {s:H8} {k w:Nat}
theorem zS1 (h:s.lt):zE .u32 (zE .u32 ((rot s.e 6:Nat):Int) ((rot s.e 11:Nat):Int)) ((rot s.e 25:Nat):Int)=((bS1 s.e:Nat):Int):=by
 have he:=h.2.2.2.2.1
 rw [vP (zX _ he) (zX _ he),vP (yl (zX _ he) (zX _ he)) (zX _ he)]; rfl
theorem zS0 (h:s.lt):zE .u32 (zE .u32 ((rot s.a 2:Nat):Int) ((rot s.a 13:Nat):Int)) ((rot s.a 22:Nat):Int)=((bS0 s.a:Nat):Int):=by
 have he:=h.1
 rw [vP (zX _ he) (zX _ he),vP (yl (zX _ he) (zX _ he)) (zX _ he)]; rfl
theorem zch (h:s.lt):zE .u32 (xC .u32 (s.e:Int) (s.f:Int)) (xC .u32 (zE .u32 4294967295 (s.e:Int)) (s.g:Int))=((chN s.e s.f s.g:Nat):Int):=by
 obtain⟨_,_,_,_,he,hf,hg,_⟩:=h
 rw [show(4294967295:Int)=((4294967295:Nat):Int)from rfl,Yy he hf,vP (by decide) he,Yy (yl (by decide) he) hg,vP (yx hf) (yx hg)]; rfl
theorem zmj (h:s.lt):zE .u32 (zE .u32 (xC .u32 (s.a:Int) (s.b:Int)) (xC .u32 (s.a:Int) (s.c:Int))) (xC .u32 (s.b:Int) (s.c:Int))=((mjN s.a s.b s.c:Nat):Int):=by
 obtain⟨ha,hb,hc,_⟩:=h
 rw [Yy ha hb,Yy ha hc,Yy hb hc,vP (yx hb) (yx hc),vP (yl (yx hb) (yx hc)) (yx hc)]; rfl
theorem zt (_:s.lt):IntKind.wrap .u32 ((IntKind.wrap .u32 ((IntKind.wrap .u32 ((IntKind.wrap .u32 ((s.h:Int)+((bS1 s.e:Nat):Int)))+((chN s.e s.f s.g:Nat):Int)))+(k:Int)))+(w:Int))=((tN s k w:Nat):Int):=by
 rw [vX,vX,vX,vX]; rfl
end
theorem DY (n:Nat) (ys:List Nat) (hy:ys.length=64):∀(j i k:Nat) (s:H8),i+j=64→j<k→s.lt →
  zA n (zl ys) k s.a s.b s.c s.d s.e s.f s.g s.h (i:Int)=some (((s.run (kW.drop i) (ys.drop i)).a:Int),((s.run (kW.drop i) (ys.drop i)).b:Int),((s.run (kW.drop i) (ys.drop i)).c:Int),((s.run (kW.drop i) (ys.drop i)).d:Int),((s.run (kW.drop i) (ys.drop i)).e:Int),((s.run (kW.drop i) (ys.drop i)).f:Int),((s.run (kW.drop i) (ys.drop i)).g:Int),((s.run (kW.drop i) (ys.drop i)).h:Int))
 | 0,i,k+1,s,hi,hk,hs=>by
  have:i=64:=by omega
  subst this
  rw [zA,if_neg (by simp)]
  rw [show kW.drop 64= []from rfl]
  rfl
 | j+1,i,k+1,s,hi,hk,hs=>by
  have hi64:i<64:=by omega
  have hkl:i<kW.length:=hi64
  rw [zA,if_pos (by simp; omega),mD,Kk hkl,Option.bind_some,yT hi64,Option.bind_some,JD (by omega:i<ys.length),Option.bind_some]
  have ha:=hs.1; have he:=hs.2.2.2.2.1
  rw [be 6 64 67108864 rfl rfl he,be 11 2048 2097152 rfl rfl he,be 25 33554432 128 rfl rfl he,be 2 4 1073741824 rfl rfl ha,be 13 8192 524288 rfl rfl ha,be 22 4194304 1024 rfl rfl ha]
  rw [zS1 hs,zS0 hs,zch hs,zmj hs,zt hs]
  have e1:s.run (kW.drop i) (ys.drop i)=(s.step kW[i] ys[i]).run (kW.drop (i+1)) (ys.drop (i+1)):=by
   rw [List.drop_eq_getElem_cons hkl,List.drop_eq_getElem_cons (by omega:i<ys.length)]; rfl
  rw [e1,←DY n ys hy j (i+1) k (s.step kW[i] ys[i]) (by omega) (by omega) (H8.step_lt hs _ _)]
  rw [vQ i (by omega),vX,vX,vX]
  rfl
theorem qK (i j:Nat) (h:j≤i) (hi:i<1000000):IntKind.wrap .i64 ((i:Int)-(j:Int))=((i-j:Nat):Int):=by
 have e:((i:Int)-(j:Int))%2^64=((i-j:Nat):Int):=by rw [Int.emod_eq_of_lt (by omega) (by omega)]; omega
 simp only [IntKind.wrap,IntKind.bits,IntKind.signed,e]
 rw [if_neg (by simp; omega)]
theorem uZ {l:List Nat} {r:List Int} {i:Nat} (h:i<l.length):(zl l++r)[0+i*1]? =some ((l.getD i 0:Nat):Int):=by
 rw [Nat.zero_add,Nat.mul_one,List.getElem?_append_left (by simpa using h)]
 simp [h]
theorem Zi {l:List Nat} {j:Nat} (y:Nat) {i:Nat} (h:l.length=i):gA (zl l++List.replicate (j+1) (0:Int)) (0+i*1) (y:Int)=some (zl (l ++ [y])++List.replicate j 0):=by
 subst h
 unfold gA
 rw [Nat.zero_add,Nat.mul_one,if_pos (by simp)]
 congr 1
 have:(zl l).length=l.length:=by simp
 rw [←this,List.set_append_right _ _ (Nat.le_refl _),Nat.sub_self,List.replicate_succ,List.set_cons_zero]
 simp
theorem z0 {x:Nat} (h:x<4294967296):zE .u32 (zE .u32 ((rot x 7:Nat):Int) ((rot x 18:Nat):Int)) (Int.fdiv (x:Int) 8)=((sg0 x:Nat):Int):=by
 rw [show(8:Int)=((8:Nat):Int)from rfl,gI,vP (zX _ h) (zX _ h),vP (yl (zX _ h) (zX _ h)) (wL _ h)]; rfl
theorem z1 {x:Nat} (h:x<4294967296):zE .u32 (zE .u32 ((rot x 17:Nat):Int) ((rot x 19:Nat):Int)) (Int.fdiv (x:Int) 1024)=((sg1 x:Nat):Int):=by
 rw [show(1024:Int)=((1024:Nat):Int)from rfl,gI,vP (zX _ h) (zX _ h),vP (yl (zX _ h) (zX _ h)) (wL _ h)]; rfl
theorem G6 (n:Nat):∀(j i k:Nat) (l:List Nat),l.length=i→16≤i→i+j=64→j<k→(∀x∈l,x<4294967296) →
  zz n k (i:Int) (zl l++List.replicate j 0)=some (zl (xg j l))
 | 0,i,k+1,l,hl,h16,hi,hk,hx=>by
  have:i=64:=by omega
  subst this
  rw [zz,if_neg (by simp)]
  simp [xg]
 | j+1,i,k+1,l,hl,h16,hi,hk,hx=>by
  have hi64:i<64:=by omega
  rw [zz,if_pos (by simp; omega)]
  rw [show(15:Int)=((15:Nat):Int)from rfl,show(2:Int)=((2:Nat):Int)from rfl,show(16:Int)=((16:Nat):Int)from rfl,show(7:Int)=((7:Nat):Int)from rfl]
  rw [qK i 15 (by omega) (by omega),qK i 2 (by omega) (by omega),qK i 16 (by omega) (by omega),qK i 7 (by omega) (by omega)]
  rw [yT (by omega:i-15<64),Option.bind_some,uZ (by omega),Option.bind_some,yT (by omega:i-2<64),Option.bind_some,uZ (by omega),Option.bind_some,
   yT (by omega:i-16<64),Option.bind_some,uZ (by omega),Option.bind_some,yT (by omega:i-7<64),Option.bind_some,uZ (by omega),Option.bind_some,yT hi64,Option.bind_some]
  have b15:=kH hx (i-15)
  have b2:=kH hx (i-2)
  rw [be 7 128 33554432 rfl rfl b15,be 18 262144 16384 rfl rfl b15,be 17 131072 32768 rfl rfl b2,be 19 524288 8192 rfl rfl b2,z0 b15,z1 b2,vX,vX,vX]
  have e:((((l.getD (i-16) 0+sg0 (l.getD (i-15) 0))%4294967296+l.getD (i-7) 0)%4294967296+sg1 (l.getD (i-2) 0))%4294967296)=vZ l:=by subst hl; rfl
  rw [e,Zi _ hl,Option.bind_some,vQ i (by omega)]
  rw [G6 n j (i+1) k (l ++ [vZ l]) (by simp [hl]) (by omega) (by omega) (by omega) (by
   intro x hx'
   rcases List.mem_append.1 hx' with h|h
   ·exact hx x h
   ·simp at h; subst h; exact Zk _)]
  rfl
theorem c9 {a b c d:Nat} (ha:a<256) (hb:b<256) (hc:c<256) (hd:d<256):((a*16777216|||b*65536)|||c*256)|||d=word4 a b c d:=by
 have e1:a*16777216|||b*65536=a*16777216+b*65536:=by
  have:=Nat.two_pow_add_eq_or_of_lt (i:=24) (b:=b*65536) (by omega) a
  rw [show 2^24=16777216 from rfl,Nat.mul_comm 16777216 a]at this
  exact this.symm
 have e2:(a*16777216+b*65536)|||c*256=a*16777216+b*65536+c*256:=by
  have:=Nat.two_pow_add_eq_or_of_lt (i:=16) (b:=c*256) (by omega) (a*256+b)
  rw [show 2^16=65536 from rfl,show 65536*(a*256+b)=a*16777216+b*65536 by omega]at this
  exact this.symm
 have e3:(a*16777216+b*65536+c*256)|||d=a*16777216+b*65536+c*256+d:=by
  have:=Nat.two_pow_add_eq_or_of_lt (i:=8) (b:=d) (by omega) (a*65536+b*256+c)
  rw [show 2^8=256 from rfl,show 256*(a*65536+b*256+c)=a*16777216+b*65536+c*256 by omega]at this
  exact this.symm
 rw [e1,e2,e3]; rfl
theorem mS {a b c d:Nat} (ha:a<256) (hb:b<256) (hc:c<256) (hd:d<256):
  ior .u32 (ior .u32 (ior .u32 (IntKind.wrap .u32 ((IntKind.wrap .u32 (a:Int))*16777216)) (IntKind.wrap .u32 ((IntKind.wrap .u32 (b:Int))*65536))) (IntKind.wrap .u32 ((IntKind.wrap .u32 (c:Int))*256))) (IntKind.wrap .u32 (d:Int))=((word4 a b c d:Nat):Int):=by
 rw [w6 (by omega:a<4294967296),w6 (by omega:b<4294967296),w6 (by omega:c<4294967296),w6 (by omega:d<4294967296)]
 rw [show(16777216:Int)=((16777216:Nat):Int)from rfl,show(65536:Int)=((65536:Nat):Int)from rfl,show(256:Int)=((256:Nat):Int)from rfl]
 rw [Vk,Vk,Vk,Nat.mod_eq_of_lt (by omega),Nat.mod_eq_of_lt (by omega),Nat.mod_eq_of_lt (by omega)]
 have h1:a*16777216|||b*65536<4294967296:=Nat.or_lt_two_pow (n:=32) (by omega) (by omega)
 rw [Vm (by omega) (by omega),Vm h1 (by omega),Vm (Nat.or_lt_two_pow (n:=32) h1 (by omega)) (by omega),c9 ha hb hc hd]
theorem da:∀(b:List UInt8) (i:Nat) (h:4*i+3<b.length),(zv b)[i]? =some (word4 (b[4*i]'(by omega)).toNat (b[4*i+1]'(by omega)).toNat (b[4*i+2]'(by omega)).toNat b[4*i+3].toNat)
 |x::y::z::w::l,0,h=>rfl
 | x::y::z::w::l,i+1,h=>by
  have:=da l i (by simp at h; omega)
  simp only [zv,List.getElem?_cons_succ,this]
  rfl
 | [],i,h=>by simp at h
 | [_],i,h=>by simp at h; try omega
 | [_,_],i,h=>by simp at h; omega
 | [_,_,_],i,h=>by simp at h; omega
theorem gj {b:List UInt8} {i:Nat} (h:i<b.length):Ux b (i:Int)=some ((b[i].toNat:Nat):Int):=by
 unfold Ux
 rw [if_pos (by omega),Int.toNat_natCast,List.getElem?_eq_getElem h]
 rfl
theorem xB (i:Nat) (h:i<1000000):IntKind.wrap .i64 (i:Int)=(i:Int):=by
 have e:(i:Int)%2^64=(i:Int):=Int.emod_eq_of_lt (by omega) (by omega)
 simp only [IntKind.wrap,IntKind.bits,IntKind.signed,e]
 rw [if_neg (by simp; omega)]
theorem Xe {l:List Nat} {i x:Nat} (h:l[i]? =some x):l.take (i+1)=l.take i ++ [x]:=by
 rw [List.take_add_one,h]; rfl
theorem eu (n:Nat) (b:List UInt8) (hb:64≤b.length):∀(j i k:Nat),i+j=16→j<k →
  zB n b k (i:Int) (zl ((zv b).take i)++List.replicate (48+j) 0)=some (zl ((zv b).take 16)++List.replicate 48 0)
 | 0,i,k+1,hi,hk=>by
  have:i=16:=by omega
  subst this
  rw [zB,if_neg (by simp)]
 | j + 1,i,k+1,hi,hk=>by
  rw [zB,if_pos (by simp; omega)]
  rw [show(4:Int)*(i:Int)=((4*i:Nat):Int)by omega,xB (4*i) (by omega)]
  rw [show((4*i:Nat):Int)+2=((4*i+2:Nat):Int)by omega,show((4*i:Nat):Int)+3=((4*i+3:Nat):Int)by omega,show((4*i:Nat):Int)+1=((4*i+1:Nat):Int)by omega]
  rw [xB (4*i+1) (by omega),xB (4*i+2) (by omega),xB (4*i+3) (by omega)]
  rw [gj (by omega:4*i<b.length),Option.bind_some,gj (by omega:4*i+1<b.length),Option.bind_some,gj (by omega:4*i+2<b.length),Option.bind_some,gj (by omega:4*i+3<b.length),Option.bind_some,yT (by omega:i<64),Option.bind_some]
  rw [mS (UInt8.toNat_lt _) (UInt8.toNat_lt _) (UInt8.toNat_lt _) (UInt8.toNat_lt _)]
  have hw:=da b i (by omega)
  have hlen:((zv b).take i).length=i:=by
   have:i<(zv b).length:=by
    rcases Nat.lt_or_ge i (zv b).length with h|h
    ·exact h
    ·rw [List.getElem?_eq_none h]at hw; cases hw
   simp; omega
  rw [show 48+(j+1)=(48+j)+1 by omega,Zi _ hlen,Option.bind_some,←Xe hw,vQ i (by omega)]
  exact eu n b hb j (i+1) k (by omega) (by omega)
def H8.zs (s:H8):List Int:= [(s.a:Int),s.b,s.c,s.d,s.e,s.f,s.g,s.h]
theorem B3 {n:Nat} (hn:100≤n) (s:H8) (hs:s.lt) (b:List UInt8) (hb:b.length=64):yy n s.zs b=some (s.block (zv b)).zs:=by
 have h1:=eu n b (by omega) 16 0 n rfl (by omega)
 have hw:=dT b hb
 rw [show List.take 16 (zv b)=zv b by rw [←hw]; simp]at h1
 have h2:=G6 n 48 16 n (zv b) hw (by omega) rfl (by omega) (jx b)
 have h3:=DY n (xg 48 (zv b)) (by rw [gT,hw]) 64 0 n s rfl (by omega) hs
 unfold yy
 have e0:List.replicate 64 (0:Int)=zl (List.take 0 (zv b))++List.replicate (48+16) 0:=by simp
 rw [e0]
 have h1':zB n b n 0 (zl (List.take 0 (zv b))++List.replicate (48+16) 0)=some (zl (zv b)++List.replicate 48 0):=h1
 rw [h1',Option.bind_some]
 have h2':zz n n 16 (zl (zv b)++List.replicate 48 0)=some (zl (xg 48 (zv b))):=h2
 rw [h2',Option.bind_some]
 have h3':zA n (zl (xg 48 (zv b))) n s.a s.b s.c s.d s.e s.f s.g s.h 0=_:=h3
 simp only [H8.zs,xW,Int.le_refl,if_true,Int.toNat_zero,List.getElem?_cons_zero,Option.bind_some,show(0:Int)≤1 by decide,show(0:Int)≤2 by decide,show(0:Int)≤3 by decide,show(0:Int)≤4 by decide,show(0:Int)≤5 by decide,show(0:Int)≤6 by decide,show(0:Int)≤7 by decide,
  show(1:Int).toNat=1 from rfl,show(2:Int).toNat=2 from rfl,show(3:Int).toNat=3 from rfl,show(4:Int).toNat=4 from rfl,show(5:Int).toNat=5 from rfl,show(6:Int).toNat=6 from rfl,show(7:Int).toNat=7 from rfl,List.getElem?_cons_succ]
 rw [h3',Option.bind_some]
 simp only [List.drop_zero,vX]
 rfl
theorem u2 {x:Nat} {N n:Nat} {k:Int} (hk:k=(n:Int)) (hn:n≤32) (hn0:0<n) (h:x<4294967296):zQ N (x:Int) k=some ((rot x n:Nat):Int):=by
 subst hk; exact rO N n hn hn0 h
theorem Dc (n:Nat):∀(j i k:Nat) (l:List Nat),l.length=i→16≤i→i+j=64→j<k→(∀x∈l,x<4294967296) →
  zM n k (i:Int) (zl l++List.replicate j 0)=some (zl (xg j l))
 | 0,i,k+1,l,hl,h16,hi,hk,hx=>by
  have:i=64:=by omega
  subst this
  rw [zM,if_neg (by simp)]
  simp [xg]
 | j+1,i,k+1,l,hl,h16,hi,hk,hx=>by
  have hi64:i<64:=by omega
  rw [zM,if_pos (by simp; omega)]
  have b15:=kH hx (i-15)
  have b2:=kH hx (i-2)
  have w15:IntKind.wrap .i64 ((i:Int)-15)=((i-15:Nat):Int):=qK i 15 (by omega) (by omega)
  have w2:IntKind.wrap .i64 ((i:Int)-2)=((i-2:Nat):Int):=qK i 2 (by omega) (by omega)
  have w16:IntKind.wrap .i64 ((i:Int)-16)=((i-16:Nat):Int):=qK i 16 (by omega) (by omega)
  have w7:IntKind.wrap .i64 ((i:Int)-7)=((i-7:Nat):Int):=qK i 7 (by omega) (by omega)
  have g15:=uZ (l:=l) (r:=List.replicate (j+1) (0:Int)) (i:=i-15) (by omega)
  have g2:=uZ (l:=l) (r:=List.replicate (j+1) (0:Int)) (i:=i-2) (by omega)
  have g16:=uZ (l:=l) (r:=List.replicate (j+1) (0:Int)) (i:=i-16) (by omega)
  have g7:=uZ (l:=l) (r:=List.replicate (j+1) (0:Int)) (i:=i-7) (by omega)
  simp only [w15,w2,w16,w7,yT (by omega:i-15<64),yT (by omega:i-2<64),yT (by omega:i-16<64),yT (by omega:i-7<64),yT hi64,Option.bind_some,g15,g2,g16,g7,
   u2 (k:=7) (n:=7) rfl (by decide) (by decide) b15,u2 (k:=18) (n:=18) rfl (by decide) (by decide) b15,u2 (k:=17) (n:=17) rfl (by decide) (by decide) b2,u2 (k:=19) (n:=19) rfl (by decide) (by decide) b2,z0 b15,z1 b2,vX]
  have e:((((l.getD (i-16) 0+sg0 (l.getD (i-15) 0))%4294967296+l.getD (i-7) 0)%4294967296+sg1 (l.getD (i-2) 0))%4294967296)=vZ l:=by subst hl; rfl
  rw [e,Zi _ hl,Option.bind_some,vQ i (by omega)]
  rw [Dc n j (i+1) k (l ++ [vZ l]) (by simp [hl]) (by omega) (by omega) (by omega) (by
   intro x hx'
   rcases List.mem_append.1 hx' with h|h
   ·exact hx x h
   ·simp at h; subst h; exact Zk _)]
  rfl
theorem Dw (n:Nat) (r:qD) (hr:([r.f_0,r.f_1,r.f_2,r.f_3,r.f_4,r.f_5,r.f_6,r.f_7,r.f_8,r.f_9,r.f_10,r.f_11,r.f_12,r.f_13,r.f_14,r.f_15,r.f_16,r.f_17,r.f_18,r.f_19,r.f_20,r.f_21,r.f_22,r.f_23,r.f_24,r.f_25,r.f_26,r.f_27,r.f_28,r.f_29,r.f_30,r.f_31,r.f_32,r.f_33,r.f_34,r.f_35,r.f_36,r.f_37,r.f_38,r.f_39,r.f_40,r.f_41,r.f_42,r.f_43,r.f_44,r.f_45,r.f_46,r.f_47,r.f_48,r.f_49,r.f_50,r.f_51,r.f_52,r.f_53,r.f_54,r.f_55,r.f_56,r.f_57,r.f_58,r.f_59,r.f_60,r.f_61,r.f_62,r.f_63]:List Int)=zl kW)
  (ys:List Nat) (hy:ys.length=64):∀(j i k:Nat) (s:H8),i+j=64→j<k→s.lt →
  zS n r (zl ys) k (i:Int) s.a s.b s.c s.d s.e s.f s.g s.h=some (((s.run (kW.drop i) (ys.drop i)).a:Int),((s.run (kW.drop i) (ys.drop i)).b:Int),((s.run (kW.drop i) (ys.drop i)).c:Int),((s.run (kW.drop i) (ys.drop i)).d:Int),((s.run (kW.drop i) (ys.drop i)).e:Int),((s.run (kW.drop i) (ys.drop i)).f:Int),((s.run (kW.drop i) (ys.drop i)).g:Int),((s.run (kW.drop i) (ys.drop i)).h:Int))
 | 0,i,k+1,s,hi,hk,hs=>by
  have:i=64:=by omega
  subst this
  rw [zS,if_neg (by simp)]
  rw [show kW.drop 64= []from rfl]
  rfl
 | j+1,i,k+1,s,hi,hk,hs=>by
  have hi64:i<64:=by omega
  have hkl:i<kW.length:=hi64
  have ha:=hs.1; have he:=hs.2.2.2.2.1
  rw [zS,if_pos (by simp; omega),hr]
  have ek:=JD hkl
  have ey:=JD (l:=ys) (i:=i) (by omega)
  simp only [yT hi64,Option.bind_some,ek,ey,u2 (k:=6) (n:=6) rfl (by decide) (by decide) he,u2 (k:=11) (n:=11) rfl (by decide) (by decide) he,u2 (k:=25) (n:=25) rfl (by decide) (by decide) he,
   u2 (k:=2) (n:=2) rfl (by decide) (by decide) ha,u2 (k:=13) (n:=13) rfl (by decide) (by decide) ha,u2 (k:=22) (n:=22) rfl (by decide) (by decide) ha]
  rw [zS1 hs,zS0 hs,zch hs,zmj hs,zt hs]
  have e1:s.run (kW.drop i) (ys.drop i)=(s.step kW[i] ys[i]).run (kW.drop (i+1)) (ys.drop (i+1)):=by
   rw [List.drop_eq_getElem_cons hkl,List.drop_eq_getElem_cons (by omega:i<ys.length)]; rfl
  rw [e1,←Dw n r hr ys hy j (i+1) k (s.step kW[i] ys[i]) (by omega) (by omega) (H8.step_lt hs _ _)]
  rw [vQ i (by omega),vX,vX,vX]
  have e2:((tN s kW[i] ys[i]+bS0 s.a)%4294967296+mjN s.a s.b s.c)%4294967296=m32 (tN s kW[i] ys[i]+m32 (bS0 s.a+mjN s.a s.b s.c)):=by unfold m32; omega
  rw [e2]
  rfl
theorem cf (n:Nat) (b:List UInt8) (hb:64≤b.length):∀(j i k:Nat),i+j=16→j<k →
  zK n (s2b b) k (i:Int) (zl ((zv b).take i)++List.replicate (48+j) 0)=some (zl ((zv b).take 16)++List.replicate 48 0)
 | 0,i,k+1,hi,hk=>by
  have:i=16:=by omega
  subst this
  rw [zK,if_neg (by simp)]
 | j + 1,i,k+1,hi,hk=>by
  have lb:∀ {i:Nat} (h:i<b.length),xW (s2b b) (i:Int)=some ((b[i].toNat:Nat):Int):=fun {i} h=>by
   unfold xW s2b
   rw [if_pos (by omega),Int.toNat_natCast]
   simp [h]
  rw [zK,if_pos (by simp; omega)]
  rw [show(4:Int)*(i:Int)=((4*i:Nat):Int)by omega,xB (4*i) (by omega)]
  rw [show((4*i:Nat):Int)+2=((4*i+2:Nat):Int)by omega,show((4*i:Nat):Int)+3=((4*i+3:Nat):Int)by omega,show((4*i:Nat):Int)+1=((4*i+1:Nat):Int)by omega]
  rw [xB (4*i+1) (by omega),xB (4*i+2) (by omega),xB (4*i+3) (by omega)]
  rw [lb (by omega:4*i<b.length),Option.bind_some,lb (by omega:4*i+1<b.length),Option.bind_some,lb (by omega:4*i+2<b.length),Option.bind_some,lb (by omega:4*i+3<b.length),Option.bind_some,yT (by omega:i<64),Option.bind_some]
  rw [mS (UInt8.toNat_lt _) (UInt8.toNat_lt _) (UInt8.toNat_lt _) (UInt8.toNat_lt _)]
  have hw:=da b i (by omega)
  have hlen:((zv b).take i).length=i:=by
   have:i<(zv b).length:=by
    rcases Nat.lt_or_ge i (zv b).length with h|h
    ·exact h
    ·rw [List.getElem?_eq_none h]at hw; cases hw
   simp; omega
  rw [show 48+(j+1)=(48+j)+1 by omega,Zi _ hlen,Option.bind_some,←Xe hw,vQ i (by omega)]
  exact cf n b hb j (i+1) k (by omega) (by omega)
def H8.zt (s:H8):zh:=⟨s.a,s.b,s.c,s.d,s.e,s.f,s.g,s.h⟩
theorem XD {n:Nat} (hn:100≤n) (s:H8) (hs:s.lt) (b:List UInt8) (hb:b.length=64):zV n s.zt (s2b b)=some (s.block (zv b)).zt:=by
 have h1:=cf n b (by omega) 16 0 n rfl (by omega)
 have hw:=dT b hb
 rw [show List.take 16 (zv b)=zv b by rw [←hw]; simp]at h1
 have h2:=Dc n 48 16 n (zv b) hw (by omega) rfl (by omega) (jx b)
 unfold zV
 have e0:List.replicate 64 (0:Int)=zl (List.take 0 (zv b))++List.replicate (48+16) 0:=by simp
 rw [e0]
 have h1':zK n (s2b b) n 0 (zl (List.take 0 (zv b))++List.replicate (48+16) 0)=some (zl (zv b)++List.replicate 48 0):=h1
 rw [h1',Option.bind_some]
 have h2':zM n n 16 (zl (zv b)++List.replicate 48 0)=some (zl (xg 48 (zv b))):=h2
 rw [h2',Option.bind_some]
 unfold wI
 rw [Option.bind_some]
 have h3:=fun r hr=>Dw n r hr (xg 48 (zv b)) (by rw [gT,hw]) 64 0 n s rfl (by omega) hs
 rw [show((0:Nat):Int)=0 from rfl]at h3
 simp only [H8.zt]
 rw [h3 _ mD,Option.bind_some]
 simp only [List.drop_zero,vX]
 have hc:∀x y:Nat,x+y=y+x:=Nat.add_comm
 simp only [H8.block,H8.add,m32,Nat.add_comm s.a,Nat.add_comm s.b,Nat.add_comm s.c,Nat.add_comm s.d,Nat.add_comm s.e,Nat.add_comm s.f,Nat.add_comm s.g,Nat.add_comm s.h]
theorem mG (n:Nat) (a:List (List UInt8)) (ha:a.length<100000) (hb:a.flatten.length<900000):∀(j i k:Nat),i+j=a.length→j<k →
  zG n a k (a.take i).flatten (i:Int)=some a.flatten
 | 0,i,k+1,hi,hk=>by
  rw [zG,if_neg (by simp; omega)]
  rw [show a.take i=a by rw [show i=a.length by omega]; simp]
 | j + 1,i,k+1,hi,hk=>by
  have hil:i<a.length:=by omega
  rw [zG,if_pos (by simp; omega)]
  have e1:xW a (i:Int)=some a[i]:=by
   unfold xW
   rw [if_pos (by omega),Int.toNat_natCast,List.getElem?_eq_getElem hil]
  have e2:(a.take (i+1)).flatten=(a.take i).flatten++a[i]:=by rw [List.take_add_one,List.getElem?_eq_getElem hil]; simp only [Option.toList_some,List.flatten_append,List.flatten_cons,List.flatten_nil,List.append_nil]
  have e3:YZ (a.take i).flatten a[i]=some (a.take (i+1)).flatten:=by
   unfold YZ
   have:(a.take (i+1)).flatten.length≤a.flatten.length:=by
    conv=>rhs; rw [←List.take_append_drop (i+1) a]
    rw [List.flatten_append,List.length_append]; omega
   rw [e2,List.length_append]at this
   rw [if_pos (by omega),e2]
  rw [e1,Option.bind_some,e3,Option.bind_some,vQ i (by omega)]
  exact mG n a ha hb j (i+1) k (by omega) (by omega)
theorem PD (x v:Nat) (hv:v<8):Yi .i64 (x:Int) ((8*v:Nat):Int)=some ((x/256^v:Nat):Int):=by
 unfold Yi
 rw [if_neg (by omega)]
 have:min ((8*v:Nat):Int).toNat (IntKind.bits .i64)=8*v:=by show min (8*v) 64=8*v; omega
 rw [this,show((2:Int)^(8*v))=((2^(8*v):Nat):Int)by simp,gI,Nat.pow_mul]
theorem Yd (x:Nat):IntKind.wrap .u8 (x:Int)=((x%256:Nat):Int):=by
 simp [IntKind.wrap,IntKind.bits,IntKind.signed]
theorem mg (n:Nat) (y:List UInt8) (hy:y.length<100000) (p:Nat) (hp:p<64):∀(j v k:Nat),v+j=8→j<k →
  zH n y (9+p) k (v:Int) (zl (128::(List.replicate (p+j) 0++beN v (8*y.length))))=some (zl (128::(List.replicate p 0++beN 8 (8*y.length))))
 | 0,v,k+1,hi,hk=>by
  have:v=8:=by omega
  subst this
  rw [zH,if_neg (by simp)]
  rfl
 | j+1,v,k+1,hi,hk=>by
  rw [zH,if_pos (by simp; omega)]
  rw [show(8:Int)*(y.length:Int)=((8*y.length:Nat):Int)by omega,show(8:Int)*(v:Int)=((8*v:Nat):Int)by omega,xB _ (by omega:8*y.length<1000000),xB _ (by omega:8*v<1000000),PD _ _ (by omega),Option.bind_some]
  have e1:IntKind.wrap .i64 ((((9+p:Nat):Nat):Int)-1)=((8+p:Nat):Int):=by
   have:=qK (9+p) 1 (by omega) (by omega)
   rw [show((1:Nat):Int)=1 from rfl]at this
   rw [this]; congr 1; omega
  have e2:IntKind.wrap .i64 (((8+p:Nat):Int)-(v:Int))=((8+p-v:Nat):Int):=qK (8+p) v (by omega) (by omega)
  rw [e1,e2,yT (by omega:8+p-v<9+p),Option.bind_some,Yd]
  have e3:gA (zl (128::(List.replicate (p+(j+1)) 0++beN v (8*y.length)))) ((8+p-v)*1) ((8*y.length/256^v%256:Nat):Int)=some (zl (128::(List.replicate (p+j) 0++beN (v+1) (8*y.length)))):=by
   unfold gA
   rw [if_pos (by simp [gW]; omega)]
   congr 1
   rw [Nat.mul_one,show 8+p-v=(p+j)+1 by omega,show p+(j+1)=(p+j)+1 by omega]
   have:List.replicate (p+j+1) 0=List.replicate (p+j) 0 ++ [0]:=List.replicate_succ'
   rw [this,←List.map_set,List.set_cons_succ]
   congr 2
   rw [List.append_assoc,List.set_append_right _ _ (by simp),List.length_replicate,Nat.sub_self]
   rfl
  rw [e3,Option.bind_some,vQ v (by omega)]
  exact mg n y hy p hp j (v+1) k (by omega) (by omega)
theorem ml {n:Nat} (hn:100≤n) (x:List UInt8) (hx:x.length<900000):∀(j i k:Nat) (s:H8),64*(i+j)=x.length→j<k→s.lt →
  zy n x k s.zs ((64*i:Nat):Int)=some (H8.blk j s (x.drop (64*i))).zs
 | 0,i,k+1,s,hi,hk,hs=>by
  rw [zy,if_neg (by simp; omega)]
  rfl
 | j+1,i,k+1,s,hi,hk,hs=>by
  rw [zy,if_pos (by simp; omega)]
  have e0:IntKind.wrap .i64 (((64*i:Nat):Int)+64)=((64*(i+1):Nat):Int):=by
   rw [show((64*i:Nat):Int)+64=((64*(i+1):Nat):Int)by omega,xB _ (by omega)]
  have e1:ssl x ((64*i:Nat):Int) ((64*(i+1):Nat):Int)=some ((x.drop (64*i)).take 64):=by
   unfold ssl
   rw [if_pos ⟨by omega,by omega,by omega⟩,Int.toNat_natCast,Int.toNat_natCast,List.drop_take,show 64*(i+1)-64*i=64 by omega]
  have hl:((x.drop (64*i)).take 64).length=64:=by simp; omega
  rw [e0,e1,Option.bind_some,B3 hn s hs _ hl,Option.bind_some]
  rw [ml hn x hx j (i+1) k _ (by omega) (by omega) (uv _ _)]
  rw [H8.blk,List.drop_drop,show 64*i+64=64*(i+1)by omega]
def wF (x:Nat):List Nat:= [x/16777216%256,x/65536%256,x/256%256,x%256]
theorem K7 (x:Nat):u8s (wF x)=be4 x:=by
 have h:∀y:Nat,UInt8.ofNat (y%256)=UInt8.ofNat y:=fun y=>UInt8.toNat_inj.1 (by simp [UInt8.toNat_ofNat'])
 simp [u8s,wF,be4,h]
theorem Yv (l:List Nat):b2s (zl l)=u8s l:=by
 simp [b2s,u8s,zl,Function.comp_def]
theorem nU (x:Nat):([IntKind.wrap .u8 (Int.fdiv (x:Int) 16777216),IntKind.wrap .u8 (Int.fdiv (x:Int) 65536),IntKind.wrap .u8 (Int.fdiv (x:Int) 256),IntKind.wrap .u8 (x:Int)]:List Int)=zl (wF x):=by
 rw [show(16777216:Int)=((16777216:Nat):Int)from rfl,show(65536:Int)=((65536:Nat):Int)from rfl,show(256:Int)=((256:Nat):Int)from rfl,gI,gI,gI,Yd,Yd,Yd,Yd]
 rfl
theorem Zh (l r:List Nat) (h:l.length+r.length<100000):w4 1 (zl l) (zl r)=some (zl (l++r)):=by
 unfold w4
 rw [if_pos (by simp; omega)]
 simp
theorem lY (n:Nat) (ws:List Nat) (hw:ws.length<100):∀(j i k:Nat),i+j=ws.length→j<k →
  zI n (zl ws) k (zl ((ws.take i).flatMap wF)) (i:Int)=some (zl (ws.flatMap wF))
 | 0,i,k+1,hi,hk=>by
  rw [zI,if_neg (by simp; omega)]
  rw [show ws.take i=ws by rw [show i=ws.length by omega]; simp]
 | j+1,i,k+1,hi,hk=>by
  have hil:i<ws.length:=by omega
  rw [zI,if_pos (by simp; omega),Kk hil,Option.bind_some,nU]
  have hlen:∀l:List Nat,(l.flatMap wF).length=4*l.length:=fun l=>by
   induction l with
   |nil=>rfl
   |cons a r ih=>simp only [List.flatMap_cons,List.length_append,ih,wF,List.length_cons,List.length_nil]; omega
  have e2:(ws.take (i+1)).flatMap wF=(ws.take i).flatMap wF++wF ws[i]:=by rw [List.take_add_one,List.getElem?_eq_getElem hil]; simp only [Option.toList_some,List.flatMap_append,List.flatMap_cons,List.flatMap_nil,List.append_nil]
  rw [Zh _ _ (by rw [hlen]; simp [wF]; omega),Option.bind_some,←e2,vQ i (by omega)]
  exact lY n ws hw j (i+1) k (by omega) (by omega)
def H8.ws (s:H8):List Nat:= [s.a,s.b,s.c,s.d,s.e,s.f,s.g,s.h]
theorem rK (s:H8):s.zs=zl s.ws:=rfl
theorem Ue (s:H8):u8s (s.ws.flatMap wF)=s.bytes:=by
 simp only [H8.ws,List.flatMap_cons,List.flatMap_nil,H8.bytes,←K7,u8s,List.map_append,List.append_nil,List.append_assoc]
theorem Kq {n:Nat} (hn:100000≤n) (a:List (List UInt8)) (ha:a.length<100000) (hb:a.flatten.length<90000):yL n a=some (sha a.flatten):=by
 unfold yL
 have h1:zG n a n ([]:List UInt8) 0=some a.flatten:=mG n a ha (by omega) a.length 0 n (by omega) (by omega)
 rw [h1,Option.bind_some]
 generalize hl:a.flatten=l at hb ⊢
 have e1:IntKind.wrap .i64 ((l.length:Int)+9)=((l.length+9:Nat):Int):=by rw [show(l.length:Int)+9=((l.length+9:Nat):Int)by omega,xB _ (by omega)]
 have e2:IntKind.wrap .i64 ((64:Int)-Int.tmod ((l.length+9:Nat):Int) 64)=((64-(l.length+9)%64:Nat):Int):=by
  have:Int.tmod ((l.length+9:Nat):Int) 64=(((l.length+9)%64:Nat):Int):=rfl
  rw [this]
  exact qK 64 ((l.length+9)%64) (by omega) (by omega)
 have hp:(if((((64-(l.length+9)%64:Nat):Nat):Int)==64)=true then some (0:Int)else some (((64-(l.length+9)%64:Nat):Nat):Int))=some ((u6 l.length:Nat):Int):=by
  unfold u6
  split
  ·rename_i h; congr 1; simp at h; omega
  ·rename_i h; congr 1; simp at h; omega
 rw [e1,e2,hp,Option.bind_some]
 have hpl:u6 l.length<64:=Nat.mod_lt _ (by decide)
 generalize hpp:u6 l.length=p at hpl ⊢
 have e3:IntKind.wrap .i64 ((9:Int)+(p:Int))=((9+p:Nat):Int):=by rw [show(9:Int)+(p:Int)=((9+p:Nat):Int)by omega,xB _ (by omega)]
 have e4:U7 1 ((9+p:Nat):Int) ((9+p:Nat):Int)=some (9+p):=by
  unfold U7
  rw [if_pos ⟨by omega,by omega,by omega,by omega⟩,Int.toNat_natCast]
 have e5:wZ (9+p) 0=some 0:=yT (by omega:0<9+p)
 have e6:gA (List.replicate (9+p) (0:Int)) (0*1) 128=some (zl (128::(List.replicate (p+8) 0++beN 0 (8*l.length)))):=by
  unfold gA
  rw [if_pos (by simp; omega),show 9+p=(p+8)+1 by omega,List.replicate_succ]
  simp [beN]
 rw [e3,e4,Option.bind_some,e5,Option.bind_some,e6,Option.bind_some]
 have h2:zH n l (9+p) n 0 _=_:=mg n l (by omega) p hpl 8 0 n rfl (by omega)
 rw [h2,Option.bind_some]
 have e7:eC (9+p) (zl (128::(List.replicate p 0++beN 8 (8*l.length))))=some (u8s (bc l.length)):=by
  unfold eC
  rw [if_pos (by simp [gW]; omega),List.take_of_length_le (by simp [gW]; omega),Yv]
  unfold bc; rw [hpp]
 have e8:YZ l (u8s (bc l.length))=some (pad l):=by
  unfold YZ
  have:=gK l
  rw [pad,List.length_append]at this
  rw [if_pos (by omega)]; rfl
 rw [e7,Option.bind_some,e8,Option.bind_some]
 have h3:zy n (pad l) n yk.zs 0=_:=ml (by omega) (pad l) (by rw [gK]; omega) ((l.length+72)/64) 0 n yk (by rw [gK]; omega) (by omega) kL
 have h3':zy n (pad l) n ([1779033703,3144134277,1013904242,2773480762,1359893119,2600822924,528734635,1541459225]:List Int) 0=_:=h3
 rw [h3',Option.bind_some]
 have e9:Wg 1 32=some ():=rfl
 rw [e9,Option.bind_some,rK]
 have h4:zI n _ n [] 0=_:=lY n (H8.blk ((l.length+72)/64) yk (List.drop (64*0) (pad l))).ws (by simp [H8.ws]) 8 0 n rfl (by omega)
 rw [h4,Option.bind_some,Yv,Ue]
 rfl
theorem d9 {n:Nat} (hn:100000≤n) (a:List (List UInt8)) (ha:a.length<100000) (hb:a.flatten.length<90000):yg n a=some ((sha a.flatten).take 16):=by
 unfold yg
 rw [Kq hn a ha hb,Option.bind_some]
 rfl
theorem WN:∀(m k:Nat) (s:H8) (l:List UInt8),H8.blk (m+k) s l=H8.blk k (H8.blk m s l) (l.drop (64*m))
 |0,k,s,l=>by simp [H8.blk]
 | m+1,k,s,l=>by
  rw [show m+1+k=(m+k)+1 by omega,H8.blk,WN m k,List.drop_drop,show 64+64*m=64*(m+1)by omega]
  rfl
theorem WM:∀(m:Nat) (s:H8) (l b:List UInt8),64*m≤l.length→H8.blk m s (l++b)=H8.blk m s l
 |0,s,l,b,h=>rfl
 | m+1,s,l,b,h=>by
  rw [H8.blk,H8.blk,List.take_append_of_le_length (by omega),List.drop_append_of_le_length (by omega)]
  exact WM m _ _ b (by simp; omega)
theorem Jl:∀(m:Nat) {s:H8} (l:List UInt8),s.lt→(H8.blk m s l).lt
 |0,_,_,h=>h
 |m+1,s,l,_=>by rw [H8.blk]; exact Jl m _ (uv _ _)
theorem wg (l:List UInt8):(s2b l).length=l.length:=by simp [s2b]
theorem Ki (l r:List UInt8):s2b (l++r)=s2b l++s2b r:=by simp [s2b]
theorem cF (l:List UInt8) (k:Nat):s2b (l.take k)=(s2b l).take k:=by simp [s2b]
theorem cA (l:List UInt8) (k:Nat):s2b (l.drop k)=(s2b l).drop k:=by simp [s2b]
theorem rX (x:List UInt8) (h:64≤x.length):lsl (s2b x) 0 64=some (s2b (x.take 64)):=by
 unfold lsl
 rw [if_pos ⟨by omega,by omega,by rw [wg]; omega⟩,cF]; rfl
theorem rH (x:List UInt8) (h:64≤x.length):lsl (s2b x) 64 ((s2b x).length:Int)=some (s2b (x.drop 64)):=by
 unfold lsl
 rw [if_pos ⟨by omega,by rw [wg]; omega,by omega⟩,Int.toNat_natCast,List.take_length,cA]; rfl
theorem m9 {n:Nat} (hn:100≤n):∀(k:Nat) (x:List UInt8) (s:H8),x.length/64<k→s.lt →
  z7 n k (s2b x) s.a s.b s.c s.d s.e s.f s.g s.h=some (s2b (x.drop (64*(x.length/64))),((H8.blk (x.length/64) s x).a:Int),((H8.blk (x.length/64) s x).b:Int),((H8.blk (x.length/64) s x).c:Int),((H8.blk (x.length/64) s x).d:Int),((H8.blk (x.length/64) s x).e:Int),((H8.blk (x.length/64) s x).f:Int),((H8.blk (x.length/64) s x).g:Int),((H8.blk (x.length/64) s x).h:Int))
 | k+1,x,s,hk,hs=>by
  rw [z7,wg]
  by_cases h:64≤x.length
  ·rw [if_pos (by simp; omega),rX x h,Option.bind_some]
   have hb:zV n {f_0:=(s.a:Int),f_1:=s.b,f_2:=s.c,f_3:=s.d,f_4:=s.e,f_5:=s.f,f_6:=s.g,f_7:=s.h} (s2b (x.take 64))=_:=XD hn s hs (x.take 64) (by simp; omega)
   have hB:=rH x h
   rw [wg]at hB
   rw [hb,Option.bind_some,hB,Option.bind_some]
   have ih:=m9 hn k (x.drop 64) (s.block (zv (x.take 64))) (by simp; omega) (uv _ _)
   have e:x.length/64=(x.length-64)/64+1:=by omega
   have hd:(x.drop 64).length=x.length-64:=by simp
   rw [hd,List.drop_drop,show 64+64*((x.length-64)/64)=64*((x.length-64)/64+1)by omega,←e]at ih
   have e2:H8.blk ((x.length-64)/64) (s.block (zv (x.take 64))) (x.drop 64)=H8.blk (x.length/64) s x:=by rw [e]; rfl
   rw [e2]at ih
   exact ih
  ·rw [if_neg (by simp; omega)]
   have e:x.length/64=0:=by omega
   rw [e]
   rfl
def z8 (l:List UInt8):zf:=if l= []then⟨⟨0,0,0,0,0,0,0,0⟩,[],0⟩else⟨(H8.blk (l.length/64) yk l).zt,s2b (l.drop (64*(l.length/64))),(l.length:Int)⟩
theorem Jn (l:List UInt8):(z8 l).f_n=(l.length:Int):=by
 unfold z8; split
 ·rename_i h; subst h; rfl
 ·rfl
theorem Xz (l:List UInt8):(z8 l).xq=s2b (l.drop (64*(l.length/64))):=by
 unfold z8; split
 ·rename_i h; subst h; rfl
 ·rfl
theorem DP {l:List UInt8} (h:l≠ []):(z8 l).f_h=(H8.blk (l.length/64) yk l).zt:=by
 unfold z8; rw [if_neg h]
theorem Gn {n:Nat} (hn:100000≤n) (l b:List UInt8) (hl:l.length+b.length<90000):yd n b (z8 l)=some (z8 (l++b)):=by
 unfold yd
 by_cases hb:b= []
 ·subst hb
  rw [if_pos (by rfl),List.append_nil]
 ·rw [if_neg (by simpa using hb)]
  have hbl:b.length≠0:=by simpa using hb
  have e1:(if((z8 l).f_n==0)=true then(xe n).bind fun r12=>some (r12.f_0,r12.f_1,r12.f_2,r12.f_3,r12.f_4,r12.f_5,r12.f_6,r12.f_7)else some ((z8 l).f_h.f_0,(z8 l).f_h.f_1,(z8 l).f_h.f_2,(z8 l).f_h.f_3,(z8 l).f_h.f_4,(z8 l).f_h.f_5,(z8 l).f_h.f_6,(z8 l).f_h.f_7))=
    some (((H8.blk (l.length/64) yk l).a:Int),((H8.blk (l.length/64) yk l).b:Int),((H8.blk (l.length/64) yk l).c:Int),((H8.blk (l.length/64) yk l).d:Int),((H8.blk (l.length/64) yk l).e:Int),((H8.blk (l.length/64) yk l).f:Int),((H8.blk (l.length/64) yk l).g:Int),((H8.blk (l.length/64) yk l).h:Int)):=by
   rw [Jn]
   by_cases h:l= []
   ·subst h; rw [if_pos (by simp)]; rfl
   ·have:l.length≠0:=by simpa using h
    rw [if_neg (by simp; omega),DP h]; rfl
  rw [e1,Option.bind_some,Xz,Jn]
  have hm:(l.drop (64*(l.length/64))).length<64:=by simp; omega
  generalize hr:l.drop (64*(l.length/64))=r at hm
  have hrb:(r++b).length=r.length+b.length:=List.length_append
  have hlb:(l++b).length=l.length+b.length:=List.length_append
  have e2:pH 1 (s2b r)=some (s2b r):=by unfold pH; rw [if_pos (by rw [wg]; omega)]
  have e3:Ga 1 (s2b r).length (s2b r) (s2b b)=some (s2b (r++b)):=by
   unfold Ga
   rw [if_pos ⟨rfl,by rw [wg]; exact hbl,by rw [wg,wg]; omega⟩,Ki]
  have e4:YT ((s2b r).length+(s2b b).length) (s2b (r++b))=some (s2b (r++b)):=by
   unfold YT
   rw [if_pos (by simp [s2b]),List.take_of_length_le (by simp [s2b])]
  have e5:=m9 (n:=n) (by omega) n (r++b) (H8.blk (l.length/64) yk l) (by omega) (Jl _ _ kL)
  rw [e2,Option.bind_some,e3,Option.bind_some,e4,Option.bind_some,e5,Option.bind_some]
  have e6:∀z:List UInt8,z.length<100000→pH 1 (s2b z)=some (s2b z):=fun z hz=>by unfold pH; rw [if_pos (by rw [wg]; omega)]
  have e7:∀z:List Int,YT z.length z=some z:=fun z=>by unfold YT; rw [if_pos (Nat.le_refl _),List.take_length]
  simp only
  rw [e6 _ (by rw [List.length_drop]; omega),Option.bind_some,e7,Option.bind_some]
  have hlr:l=l.take (64*(l.length/64))++r:=by rw [←hr,List.take_append_drop]
  have hlen:r.length=l.length-64*(l.length/64):=by rw [←hr,List.length_drop]
  have q1:(l++b).length/64=l.length/64+(r++b).length/64:=by omega
  have q2:(l++b).drop (64*(l.length/64))=r++b:=by rw [List.drop_append_of_le_length (by omega),hr]
  have q3:H8.blk ((l++b).length/64) yk (l++b)=H8.blk ((r++b).length/64) (H8.blk (l.length/64) yk l) (r++b):=by
   rw [q1,WN,q2,WM (l.length/64) yk l b (by omega)]
  have q4:(l++b).drop (64*((l++b).length/64))=(r++b).drop (64*((r++b).length/64)):=by
   rw [q1,Nat.mul_add,←List.drop_drop,q2]
  have hne:l++b≠ []:=by simp [hb]
  unfold z8
  rw [if_neg hne,q3,q4]
  have q5:IntKind.wrap .i64 ((l.length:Int)+(b.length:Int))=((l++b).length:Int):=by
   rw [show(l.length:Int)+(b.length:Int)=((l.length+b.length:Nat):Int)by omega,xB _ (by omega),List.length_append]
  rw [q5]
  rfl
theorem ll {l:List Nat} (h:∀x∈l,x<256):s2b (u8s l)=zl l:=by
 simp only [s2b,u8s,zl,List.map_map]
 refine List.map_congr_left fun x hx=> ?_
 have:=h x hx
 simp [UInt8.toNat_ofNat',Nat.mod_eq_of_lt this]
theorem cQ:∀k x,∀y∈beN k x,y<256
 |0,_,y,h=>by simp [beN]at h
 | k+1,x,y,h=>by
  simp only [beN,List.mem_cons]at h
  rcases h with rfl|h
  ·exact Nat.mod_lt _ (by decide)
  ·exact cQ k x y h
theorem lZ (n:Nat):∀(j:Nat) (l:List Int) (k:Nat),(l.length+j)%64=56→j<64→j<k→l.length+j<100000→zZ n k l=some (l++List.replicate j 0)
 | 0,l,k+1,h,hj,hk,hl=>by
  have:Int.tmod (l.length:Int) 64=((l.length%64:Nat):Int):=rfl
  rw [zZ,this,if_neg (by rw [Nat.add_zero]at h; rw [h]; decide)]
  simp
 | j+1,l,k+1,h,hj,hk,hl=>by
  have:Int.tmod (l.length:Int) 64=((l.length%64:Nat):Int):=rfl
  rw [zZ,this,if_pos (by
   simp only [bne_iff_ne,ne_eq]
   omega)]
  have e:w4 1 l ([0]:List Int)=some (l ++ [0]):=by
   unfold w4
   rw [if_pos (by simp; omega)]
  rw [e,Option.bind_some]
  rw [lZ n j (l ++ [0]) k (by simp; omega) (by omega) (by omega) (by simp; omega),List.append_assoc]
  rfl
theorem nI (x v:Nat) (hv:v<8) (hx:8*x<1000000):Yi .u64 (IntKind.wrap .u64 ((IntKind.wrap .u64 (x:Int))*8)) (IntKind.wrap .u64 ((8:Int)*(IntKind.wrap .u64 (v:Int))))=some ((8*x/256^v:Nat):Int):=by
 have w:∀y:Nat,y<1000000→IntKind.wrap .u64 (y:Int)=(y:Int):=fun y hy=>by
  have e:(y:Int)%2^64=(y:Int):=Int.emod_eq_of_lt (by omega) (by omega)
  simp only [IntKind.wrap,IntKind.bits,IntKind.signed,e,Bool.false_and,Bool.false_eq_true,if_false]
 rw [w x (by omega),w v (by omega),show(x:Int)*8=((8*x:Nat):Int)by omega,show(8:Int)*(v:Int)=((8*v:Nat):Int)by omega,w _ hx,w _ (by omega)]
 unfold Yi
 rw [if_neg (by omega)]
 have:min ((8*v:Nat):Int).toNat (IntKind.bits .u64)=8*v:=by show min (8*v) 64=8*v; omega
 rw [this,show((2:Int)^(8*v))=((2^(8*v):Nat):Int)by simp,gI,Nat.pow_mul]
theorem mu (n:Nat) (y:((List Int)×Int×Int×Int×Int×Int×Int×Int×Int×Int)) (x:Nat) (hx:y.2.1=(x:Int)) (hxx:8*x<1000000):∀(v:Nat) (l:List Nat) (k:Nat),v≤8→l.length+v<99000→v<k →
  zW n y k (zl l) ((v:Int)-1)=some (zl (l++beN v (8*x)))
 | 0,l,k+1,hv,hl,hk=>by
  rw [zW,if_neg (by simp)]
  simp [beN]
 | v+1,l,k+1,hv,hl,hk=>by
  rw [show((v+1:Nat):Int)-1=(v:Int)by omega]
  rw [zW,if_pos (by simp),hx,nI x v (by omega) hxx,Option.bind_some,Yd]
  have e:w4 1 (zl l) ([((8*x/256^v%256:Nat):Int)]:List Int)=some (zl (l ++ [8*x/256^v%256])):=Zh l [8*x/256^v%256] (by simp; omega)
  rw [e,Option.bind_some]
  have e2:IntKind.wrap .i64 ((v:Int)-1)=(v:Int)-1:=by
   cases v with
   |zero=>rfl
   |succ v=>rw [show((v+1:Nat):Int)-1=((v:Nat):Int)by omega,xB _ (by omega)]
  rw [e2,mu n y x hx hxx v (l ++ [8*x/256^v%256]) k (by omega) (by simp; omega) (by omega),List.append_assoc]
  rfl
theorem mh {n:Nat} (hn:100≤n):∀(j k:Nat) (x:List UInt8) (s:H8),x.length=64*j→j<k→s.lt →
  zY n k (s2b x) s.a s.b s.c s.d s.e s.f s.g s.h=some (((H8.blk j s x).a:Int),((H8.blk j s x).b:Int),((H8.blk j s x).c:Int),((H8.blk j s x).d:Int),((H8.blk j s x).e:Int),((H8.blk j s x).f:Int),((H8.blk j s x).g:Int),((H8.blk j s x).h:Int))
 | 0,k+1,x,s,hx,hk,hs=>by
  rw [zY,wg,if_neg (by rw [hx]; decide)]
  rfl
 | j+1,k+1,x,s,hx,hk,hs=>by
  have hB:=rH x (by omega)
  rw [wg]at hB
  have hb:zV n {f_0:=(s.a:Int),f_1:=s.b,f_2:=s.c,f_3:=s.d,f_4:=s.e,f_5:=s.f,f_6:=s.g,f_7:=s.h} (s2b (x.take 64))=_:=XD hn s hs (x.take 64) (by simp; omega)
  rw [zY,wg,if_pos (by simp; omega),rX x (by omega),Option.bind_some,hb,Option.bind_some,hB,Option.bind_some]
  exact mh hn j k (x.drop 64) (s.block (zv (x.take 64))) (by simp; omega) (by omega) (uv _ _)
theorem fg {n:Nat} (hn:100000≤n) (l:List UInt8) (hl:l.length<90000):∃z,yH n (z8 l)=some (sha l,z):=by
 unfold yH xe
 rw [Option.bind_some]
 have hm:(l.drop (64*(l.length/64))).length<64:=by simp; omega
 have hlr:l=l.take (64*(l.length/64))++l.drop (64*(l.length/64)):=by rw [List.take_append_drop]
 have e1:(if(decide ((z8 l).f_n>0))=true then((w4 1 ([]:List Int) (z8 l).xq).bind fun x15=>some (x15,(z8 l).f_n,(z8 l).f_h.f_0,(z8 l).f_h.f_1,(z8 l).f_h.f_2,(z8 l).f_h.f_3,(z8 l).f_h.f_4,(z8 l).f_h.f_5,(z8 l).f_h.f_6,(z8 l).f_h.f_7))
   else some (([]:List Int),0,1779033703,3144134277,1013904242,2773480762,1359893119,2600822924,528734635,1541459225))=
   some (s2b (l.drop (64*(l.length/64))),(l.length:Int),((H8.blk (l.length/64) yk l).a:Int),((H8.blk (l.length/64) yk l).b:Int),((H8.blk (l.length/64) yk l).c:Int),((H8.blk (l.length/64) yk l).d:Int),((H8.blk (l.length/64) yk l).e:Int),((H8.blk (l.length/64) yk l).f:Int),((H8.blk (l.length/64) yk l).g:Int),((H8.blk (l.length/64) yk l).h:Int)):=by
  rw [Jn,Xz]
  by_cases h:l= []
  ·subst h; rw [if_neg (by simp)]; rfl
  ·have:l.length≠0:=by simpa using h
   have e:w4 1 ([]:List Int) (s2b (l.drop (64*(l.length/64))))=some (s2b (l.drop (64*(l.length/64)))):=by
    unfold w4
    rw [if_pos (by rw [wg]; simp; omega)]; rfl
   rw [if_pos (by simp; omega),DP h,e,Option.bind_some]; rfl
 have e1':=e1
 simp only at e1' ⊢
 rw [e1',Option.bind_some]
 generalize hr:l.drop (64*(l.length/64))=r at hm hlr
 have hrl:r.length=l.length-64*(l.length/64):=by rw [←hr,List.length_drop]
 have zr:s2b r=zl (r.map UInt8.toNat):=by simp [s2b,zl]
 have e2:w4 1 (s2b r) ([128]:List Int)=some (zl (r.map UInt8.toNat ++ [128])):=by
  rw [zr]; exact Zh _ [128] (by simp; omega)
 simp only
 rw [e2,Option.bind_some]
 have hp:u6 l.length<64:=Nat.mod_lt _ (by decide)
 have e3:=lZ n (u6 l.length) (zl (r.map UInt8.toNat ++ [128])) n (by simp only [List.length_map,List.length_append,List.length_cons,List.length_nil]; unfold u6; omega) hp (by omega) (by simp only [List.length_map,List.length_append,List.length_cons,List.length_nil]; omega)
 rw [e3,Option.bind_some]
 have e4:zl (r.map UInt8.toNat ++ [128])++List.replicate (u6 l.length) (0:Int)=zl (r.map UInt8.toNat ++ [128]++List.replicate (u6 l.length) 0):=by simp
 rw [e4]
 have e5:=mu n (s2b r,(l.length:Int),((H8.blk (l.length/64) yk l).a:Int),((H8.blk (l.length/64) yk l).b:Int),((H8.blk (l.length/64) yk l).c:Int),((H8.blk (l.length/64) yk l).d:Int),((H8.blk (l.length/64) yk l).e:Int),((H8.blk (l.length/64) yk l).f:Int),((H8.blk (l.length/64) yk l).g:Int),((H8.blk (l.length/64) yk l).h:Int)) l.length rfl (by omega) 8 (r.map UInt8.toNat ++ [128]++List.replicate (u6 l.length) 0) n (by omega) (by simp; omega) (by omega)
 rw [show((8:Nat):Int)-1=7 by decide]at e5
 rw [e5,Option.bind_some]
 have e6:zl (r.map UInt8.toNat ++ [128]++List.replicate (u6 l.length) 0++beN 8 (8*l.length))=s2b (r++u8s (bc l.length)):=by
  rw [Ki,ll (by
   intro x hx
   simp only [bc,List.mem_cons,List.mem_append,List.mem_replicate]at hx
   rcases hx with rfl|⟨_,rfl⟩|hx
   ·decide
   ·decide
   ·exact cQ _ _ x hx),zr]
  simp [bc]
 have hpl:=gK l
 have hpd:(pad l).drop (64*(l.length/64))=r++u8s (bc l.length):=by
  rw [pad,List.drop_append_of_le_length (by omega),hr]
 have hj:(r++u8s (bc l.length)).length=64*((l.length+72)/64-l.length/64):=by rw [←hpd,List.length_drop,hpl]; omega
 have e7:=mh (n:=n) (by omega) ((l.length+72)/64-l.length/64) n (r++u8s (bc l.length)) (H8.blk (l.length/64) yk l) hj (by omega) (Jl _ _ kL)
 rw [e6,e7,Option.bind_some]
 have e8:H8.blk ((l.length+72)/64-l.length/64) (H8.blk (l.length/64) yk l) (r++u8s (bc l.length))=H8.blk ((l.length+72)/64) yk (pad l):=by
  have:(l.length+72)/64=l.length/64+((l.length+72)/64-l.length/64):=by omega
  conv=>rhs; rw [this,WN,hpd,pad,WM (l.length/64) yk l _ (by omega)]
 rw [e8]
 generalize hS:H8.blk ((l.length+72)/64) yk (pad l)=S
 have o:∀(L:List Nat) (x:Nat),L.length<100→w4 1 (zl L) ([IntKind.wrap .u8 (Int.fdiv (x:Int) 16777216),IntKind.wrap .u8 (Int.fdiv (x:Int) 65536),IntKind.wrap .u8 (Int.fdiv (x:Int) 256),IntKind.wrap .u8 (x:Int)]:List Int)=some (zl (L++wF x)):=fun L x hL=>by
  rw [nU]; exact Zh L (wF x) (by simp [wF]; omega)
 have o0:=o [] S.a (by decide)
 rw [show zl []=([]:List Int)from rfl]at o0
 simp only
 rw [o0,Option.bind_some,o _ S.b (by simp [wF]),Option.bind_some,o _ S.c (by simp [wF]),Option.bind_some,o _ S.d (by simp [wF]),Option.bind_some,o _ S.e (by simp [wF]),Option.bind_some,o _ S.f (by simp [wF]),Option.bind_some,o _ S.g (by simp [wF]),Option.bind_some,o _ S.h (by simp [wF]),Option.bind_some]
 have key:u8s ([]++wF S.a++wF S.b++wF S.c++wF S.d++wF S.e++wF S.f++wF S.g++wF S.h)=sha l:=by
  unfold sha
  rw [hS,←Ue]
  simp [H8.ws]
 rw [Yv,key]
 exact⟨_,rfl⟩
theorem QM {n:Nat} (hn:100000≤n) (a:List (List UInt8)) (ha:a.length<90000) (hb:a.flatten.length<90000):∀(j i k:Nat),i+j=a.length→j<k →
  yK n a k (i:Int) (z8 (a.take i).flatten).f_h.f_0 (z8 (a.take i).flatten).f_h.f_1 (z8 (a.take i).flatten).f_h.f_2 (z8 (a.take i).flatten).f_h.f_3 (z8 (a.take i).flatten).f_h.f_4 (z8 (a.take i).flatten).f_h.f_5 (z8 (a.take i).flatten).f_h.f_6 (z8 (a.take i).flatten).f_h.f_7 (z8 (a.take i).flatten).xq (z8 (a.take i).flatten).f_n=
   some ((z8 a.flatten).f_h.f_0,(z8 a.flatten).f_h.f_1,(z8 a.flatten).f_h.f_2,(z8 a.flatten).f_h.f_3,(z8 a.flatten).f_h.f_4,(z8 a.flatten).f_h.f_5,(z8 a.flatten).f_h.f_6,(z8 a.flatten).f_h.f_7,(z8 a.flatten).xq,(z8 a.flatten).f_n)
 | 0,i,k+1,hi,hk=>by
  rw [yK,if_neg (by simp; omega)]
  rw [show a.take i=a by rw [show i=a.length by omega]; simp]
 | j+1,i,k+1,hi,hk=>by
  have hil:i<a.length:=by omega
  have e1:xW a (i:Int)=some a[i]:=by
   unfold xW
   rw [if_pos (by omega),Int.toNat_natCast,List.getElem?_eq_getElem hil]
  have e2:(a.take (i+1)).flatten=(a.take i).flatten++a[i]:=by rw [List.take_add_one,List.getElem?_eq_getElem hil]; simp only [Option.toList_some,List.flatten_append,List.flatten_cons,List.flatten_nil,List.append_nil]
  have hle:(a.take (i+1)).flatten.length≤a.flatten.length:=by
   conv=>rhs; rw [←List.take_append_drop (i+1) a]
   rw [List.flatten_append,List.length_append]; omega
  rw [e2,List.length_append]at hle
  have e3:yd n a[i] (z8 (a.take i).flatten)=_:=Gn hn (a.take i).flatten a[i] (by omega)
  rw [yK,if_pos (by simp; omega),e1,Option.bind_some]
  have e3':yd n a[i] (zf.mk (zh.mk (z8 (a.take i).flatten).f_h.f_0 (z8 (a.take i).flatten).f_h.f_1 (z8 (a.take i).flatten).f_h.f_2 (z8 (a.take i).flatten).f_h.f_3 (z8 (a.take i).flatten).f_h.f_4 (z8 (a.take i).flatten).f_h.f_5 (z8 (a.take i).flatten).f_h.f_6 (z8 (a.take i).flatten).f_h.f_7) (z8 (a.take i).flatten).xq (z8 (a.take i).flatten).f_n)=some (z8 ((a.take i).flatten++a[i])):=e3
  rw [e3',Option.bind_some,vQ i (by omega),←e2]
  exact QM hn a ha hb j (i+1) k (by omega) (by omega)
theorem Q5 {n:Nat} (hn:100000≤n) (a:List (List UInt8)) (ha:a.length<90000) (hb:a.flatten.length<90000):vF n a=some (sha a.flatten):=by
 unfold vF vz
 rw [Option.bind_some]
 have h1:yK n a n 0 0 0 0 0 0 0 0 0 ([]:List Int) 0=_:=QM hn a ha hb a.length 0 n (by omega) (by omega)
 simp only
 rw [h1,Option.bind_some]
 obtain⟨z,hz⟩:=fg hn a.flatten hb
 have hz':yH n (zf.mk (zh.mk (z8 a.flatten).f_h.f_0 (z8 a.flatten).f_h.f_1 (z8 a.flatten).f_h.f_2 (z8 a.flatten).f_h.f_3 (z8 a.flatten).f_h.f_4 (z8 a.flatten).f_h.f_5 (z8 a.flatten).f_h.f_6 (z8 a.flatten).f_h.f_7) (z8 a.flatten).xq (z8 a.flatten).f_n)=some (sha a.flatten,z):=hz
 simp only
 rw [hz',Option.bind_some]
theorem XI {n:Nat} (hn:100000≤n) (a:List (List UInt8)) (ha:a.length<90000) (hb:a.flatten.length<90000):wo n a=some ((sha a.flatten).take 16):=by
 unfold wo
 rw [Q5 hn a ha hb,Option.bind_some]
 rfl
end Go.Abs
end
