/- The typed form of ValidateQueries gives true. No condition. -/
import Derived.Test.YtkabooclnoiclaaGreatDoorW2
set_option linter.all false
noncomputable section
set_option maxRecDepth 100000
namespace Go.Abs
open Go Go.Proofs IntKind
abbrev Bs:=List UInt8
def jn {x:Int} (h: -9223372036854775808<=x∧x<=9223372036854775807):wrap .i64 x=x:=IntWalk.i64_in x h
def wr8 {x:Int} (b:0<=x) (c:x<=255):wrap .u8 x=x:=by
 obtain⟨n,rfl⟩:=Int.eq_ofNat_of_zero_le b;have a:n<256:=O0
 have:∀n:Nat,n<256->wrap .u8 (n:Int)=n:=by
  intro n a;have:=List.all_eq_true.1 (show((List.range 256).all fun n:Nat=>wrap .u8 (n:Int)==(n:Int))=true by kernel_rfl) n (O7 a);simpa using this
 exact this n a
def wr {s:Bs} {i:Nat} (h:i<s.length):xE s (i:Int)=some ((s[i]).toNat:Int):=by
 simp [xE,h]
def xa {α:Type} {l:List α} {i:Nat} (h:i<l.length):yj l (i:Int)=some l[i]:=by
 simp [yj,h]
def Xx {s:Bs} {i j:Nat} (h:i<=j) (a:j<=s.length):ssl s (i:Int) (j:Int)=some ((s.take j).drop i):=by
 unfold ssl; rw [iI O0]; simp
def fG {s t:Bs} (h:s.length+t.length<=9223372036854775807):YK s t=some (s++t):=by
 unfold YK; rw [iI h]
def vG {α:Type} {b:Nat} {l m:List α} (h:(l.length+m.length)*b<=140737488355328):vF b l m=some (l++m):=by
 unfold vF; rw [iI h]
def w1 {i:Nat} (h:i<9223372036854775807):wrap .i64 ((i:Int)+1)=((i+1:Nat):Int):=by rw [jn O0]; omega
def sg (c:UInt8):c.toNat<256:=c.toNat_lt
def PQ {α β:Type} {c:Option α} {f:α->Option β} (h:∃a,c=some a) (k:∀a,c=some a->∃y,f a=some y):∃y,c.bind f=some y:=by
 obtain⟨a,b⟩:=h;obtain⟨y,e⟩:=k a b;exact⟨y,by rw [b]; exact e⟩
def VS {α:Type} {c:Prop} [Decidable c] {a b:Option α} (f:c->∃y,a=some y) (g:¬c->∃y,b=some y):∃y,(if c then a else b)=some y:=by
 by_cases e:c
 ·rw [iI e]; exact f e
 ·rw [iH e]; exact g e
def eB {s:Bs} {i:Int} (a:0<=i) (b:i<s.length):∃x,xE s i=some x:=by
 obtain⟨n,rfl⟩:=Int.eq_ofNat_of_zero_le a;exact⟨_,wr O0⟩
def pk {α:Type} {s:List α} {i:Int} (a:0<=i) (b:i<s.length):∃x,yj s i=some x:=by
 obtain⟨n,rfl⟩:=Int.eq_ofNat_of_zero_le a;exact⟨_,xa O0⟩
def nh {s:Bs} {i j:Int} (a:0<=i) (b:i<=j) (c:j<=s.length):∃x,ssl s i j=some x:=by
 unfold ssl; rw [iI ⟨a,b,c⟩]; exact⟨_,rfl⟩
def gb (s:Bs) (i:Nat):Nat:=(s.getD i 0).toNat
def jS (s:Bs) (i:Nat):gb s i<256:=sg _
def Vb {s:Bs} {i:Nat} (h:i<s.length):xE s (i:Int)=some (gb s i:Int):=by
 rw [wr h]; simp [gb,h]
def uN (n a b b2 c:Nat):Option Nat:=
 if a<32∨a=127 then none
 else if a<128 then some 1
 else if a/32=6 then(if 1<n∧b/64=2∧128<=a%32*64+b%64 then some 2 else none)
 else if a/16=14 then(if 2<n∧b/64=2∧b2/64=2∧2048<=a%16*4096+b%64*64+b2%64∧(a%16*4096+b%64*64+b2%64<55296∨57344<=a%16*4096+b%64*64+b2%64)then some 3 else none)
 else if a/8=30 then(if 3<n∧b/64=2∧b2/64=2∧c/64=2∧65536<=a%8*262144+b%64*4096+b2%64*64+c%64∧a%8*262144+b%64*4096+b2%64*64+c%64<=1114111 then some 4 else none)
 else none
def uAt (s:Bs) (i:Nat):Option Nat:=uN (s.length-i) (gb s i) (gb s (i+1)) (gb s (i+2)) (gb s (i+3))
def Dz {s:Bs} {i d:Nat} (hi:i<s.length) (h:uAt s i=some d):0<d∧i+d<=s.length:=by
 unfold uAt uN at h
 repeat' split at h
 all_goals first|(simp at h; done)|(simp at h; omega)
def py (s:Bs):Nat->Nat->Bool
 |0,_=>true
 |k+1,i=>if i<s.length then(match uAt s i with|none=>false|some d=>py s k (i+d))else true
def Dl {b:Nat} (h:b<256):((wrap .u8 (Int.tdiv (b:Int) 64)) !=2)= !decide (b/64=2):=by
 have:=List.all_eq_true.1 (show((List.range 256).all fun b:Nat=>((wrap .u8 (Int.tdiv (b:Int) 64)) !=2)== !decide (b/64=2))=true by kernel_rfl) b (O7 h);simpa using this
def Pi {b:Nat} (h:b<256):wrap .i64 (Int.tmod (b:Int) 64)=((b%64:Nat):Int):=by
 have:=List.all_eq_true.1 (show((List.range 256).all fun b:Nat=>wrap .i64 (Int.tmod (b:Int) 64)==((b%64:Nat):Int))=true by kernel_rfl) b (O7 h);simpa using this
def zco {b:Nat} (h:b<256):vl .i64 (wrap .i64 (b:Int)) (wrap .i64 ((wrap .i64 ((1:Int)*32))-1))=((b%32:Nat):Int):=by
 have:=List.all_eq_true.1 (show((List.range 256).all fun b:Nat=>vl .i64 (wrap .i64 (b:Int)) (wrap .i64 ((wrap .i64 ((1:Int)*32))-1))==((b%32:Nat):Int))=true by kernel_rfl) b (O7 h);simpa using this
def zc3 {b:Nat} (h:b<256):vl .i64 (wrap .i64 (b:Int)) (wrap .i64 ((wrap .i64 ((1:Int)*16))-1))=((b%16:Nat):Int):=by
 have:=List.all_eq_true.1 (show((List.range 256).all fun b:Nat=>vl .i64 (wrap .i64 (b:Int)) (wrap .i64 ((wrap .i64 ((1:Int)*16))-1))==((b%16:Nat):Int))=true by kernel_rfl) b (O7 h);simpa using this
def zdC {b:Nat} (h:b<256):vl .i64 (wrap .i64 (b:Int)) (wrap .i64 ((wrap .i64 ((1:Int)*8))-1))=((b%8:Nat):Int):=by
 have:=List.all_eq_true.1 (show((List.range 256).all fun b:Nat=>vl .i64 (wrap .i64 (b:Int)) (wrap .i64 ((wrap .i64 ((1:Int)*8))-1))==((b%8:Nat):Int))=true by kernel_rfl) b (O7 h);simpa using this
def u2s {n:Nat} {a:Bs} {i j v k:Nat} (hi:i+j<a.length) (f:a.length<=100000000) (e:j<=1) (g:v<1000000000):
  z8 n a i (k+1) v j=if gb a (i+j)/64=2 then z8 n a i k ((v*64+gb a (i+j)%64:Nat):Int) ((j+1:Nat):Int)else some (.ret false):=by
 rw [z8,iI O4,show wrap .i64 ((i:Int)+(j:Int))=((i+j:Nat):Int)by rw [jn O0]; omega,Vb hi];simp only [iG];have c:=jS a (i+j);rw [Dl (jS _ _),Pi (jS _ _),w1 O0]
 by_cases b:gb a (i+j)/64=2
 ·simp only [b,decide_true,Bool.not_true,iT,if_false,if_true];rw [jn (x:=64*(v:Int)) O0,jn O0]
  congr 1; omega
 ·simp [b]
def u3s {n:Nat} {a:Bs} {i j v k:Nat} (hi:i+j<a.length) (f:a.length<=100000000) (e:j<=2) (g:v<1000000000):
  yb n a i (k+1) v j=if gb a (i+j)/64=2 then yb n a i k ((v*64+gb a (i+j)%64:Nat):Int) ((j+1:Nat):Int)else some (.ret false):=by
 rw [yb,iI O4,show wrap .i64 ((i:Int)+(j:Int))=((i+j:Nat):Int)by rw [jn O0]; omega,Vb hi];simp only [iG];have c:=jS a (i+j);rw [Dl (jS _ _),Pi (jS _ _),w1 O0]
 by_cases b:gb a (i+j)/64=2
 ·simp only [b,decide_true,Bool.not_true,iT,if_false,if_true];rw [jn (x:=64*(v:Int)) O0,jn O0]
  congr 1; omega
 ·simp [b]
def u4s {n:Nat} {a:Bs} {i j v k:Nat} (hi:i+j<a.length) (f:a.length<=100000000) (e:j<=3) (g:v<1000000000):
  yd n a i (k+1) v j=if gb a (i+j)/64=2 then yd n a i k ((v*64+gb a (i+j)%64:Nat):Int) ((j+1:Nat):Int)else some (.ret false):=by
 rw [yd,iI O4,show wrap .i64 ((i:Int)+(j:Int))=((i+j:Nat):Int)by rw [jn O0]; omega,Vb hi];simp only [iG];have c:=jS a (i+j);rw [Dl (jS _ _),Pi (jS _ _),w1 O0]
 by_cases b:gb a (i+j)/64=2
 ·simp only [b,decide_true,Bool.not_true,iT,if_false,if_true];rw [jn (x:=64*(v:Int)) O0,jn O0]
  congr 1; omega
 ·simp [b]
def u2 {n:Nat} {a:Bs} {i v k:Nat} (hi:i+1<a.length) (b:a.length<=100000000) (c:v<64):
  z8 n a i (k+5) v 1=if gb a (i+1)/64=2 then some (.nxt ((v*64+gb a (i+1)%64:Nat):Int))else some (.ret false):=by
 have:=u2s (n:=n) (a:=a) (i:=i) (j:=1) (v:=v) (k:=k+4) hi b O0 O0;rw [show((1:Nat):Int)=1 from rfl]at this;rw [show k+5=k+4+1 from rfl,this,z8];simp
def u3 {n:Nat} {a:Bs} {i v k:Nat} (hi:i+2<a.length) (b:a.length<=100000000) (g:v<64):
  yb n a i (k+5) v 1=if gb a (i+1)/64=2 then(if gb a (i+2)/64=2 then some (.nxt (((v*64+gb a (i+1)%64)*64+gb a (i+2)%64:Nat):Int))else some (.ret false))else some (.ret false):=by
 have f:=jS a (i+1);have c:=u3s (n:=n) (a:=a) (i:=i) (j:=1) (v:=v) (k:=k+4) O0 b O0 O0;have e:=u3s (n:=n) (a:=a) (i:=i) (j:=2) (v:=v*64+gb a (i+1)%64) (k:=k+3) O0 b O0 O0;rw [show((1:Nat):Int)=1 from rfl]at c;rw [show k+5=k+4+1 from rfl,c,show k+4=k+3+1 from rfl,e,yb];simp
def u4 {n:Nat} {a:Bs} {i v k:Nat} (hi:i+3<a.length) (b:a.length<=100000000) (l:v<64):
  yd n a i (k+5) v 1=if gb a (i+1)/64=2 then(if gb a (i+2)/64=2 then(if gb a (i+3)/64=2 then some (.nxt ((((v*64+gb a (i+1)%64)*64+gb a (i+2)%64)*64+gb a (i+3)%64:Nat):Int))else some (.ret false))else some (.ret false))else some (.ret false):=by
 have g:=jS a (i+1);have h:=jS a (i+2);have c:=u4s (n:=n) (a:=a) (i:=i) (j:=1) (v:=v) (k:=k+4) O0 b O0 O0;have e:=u4s (n:=n) (a:=a) (i:=i) (j:=2) (v:=v*64+gb a (i+1)%64) (k:=k+3) O0 b O0 O0;have f:=u4s (n:=n) (a:=a) (i:=i) (j:=3) (v:=(v*64+gb a (i+1)%64)*64+gb a (i+2)%64) (k:=k+2) O0 b O0 O0;rw [show((1:Nat):Int)=1 from rfl]at c;rw [show k+5=k+4+1 from rfl,c,show k+4=k+3+1 from rfl,e,show k+3=k+2+1 from rfl,f,yd];simp
def dro (b a:Bool):(if b=true then some true else some a)=some (b||a):=by cases b<;>rfl
def dan (b a:Bool):(if b=true then some a else some false)=some (b&&a):=by cases b<;>rfl
def lg {n k i:Nat} {a:Bs} (hi:i<a.length) (g:a.length<=100000000) (v:5<=n):
  z7 n a (k+1) i=match uAt a i with|none=>some (.ret false)|some d=>z7 n a k ((i+d:Nat):Int):=by
 obtain⟨m,rfl⟩:∃m,n=m+5:=⟨n-5,O0⟩
 have f:=jS a i;have r:=jS a (i+1);have s:=jS a (i+2);have t:=jS a (i+3);rw [z7,iI O4,Vb hi];simp only [iG,dro,dan];rw [zco f,zc3 f,zdC f,jn (x:=(a.length:Int)-(i:Int)) O0];unfold uAt uN
 by_cases j:gb a i<32∨gb a i=127
 ·rw [iI (by rw [Bool.or_eq_true,iJ,beq_iff_eq]; omega),iI j]; rfl
 rw [iH (by rw [Bool.or_eq_true,iJ,beq_iff_eq]; omega),iH j]
 by_cases l:gb a i<128
 ·rw [iI O4,iI l,w1 O0]; rfl
 rw [iH O4,iH l]
 by_cases o:gb a i/32=6
 ·rw [iI (by rw [iF,iJ,iJ]; omega),iI o]
  by_cases cl:1<a.length-i
  ·rw [iH O4,u2 O0 g O0]
   by_cases b:gb a (i+1)/64=2
   ·rw [iI b];simp only [xb]
    by_cases cv:128<=gb a i%32*64+gb a (i+1)%64
    ·rw [iH (by simp only [Bool.or_eq_true,iF,iJ]; omega),iI ⟨cl,b,cv⟩];simp only [xb];rw [jn O0]; rfl
    ·rw [iI (by simp only [Bool.or_eq_true,iF,iJ]; omega),iH (fun h=>cv h.2.2)]
   ·rw [iH b,iH (fun h=>b h.2.1)]; rfl
  ·rw [iI O4,iH (fun h=>cl h.1)]; rfl
 rw [iH (by rw [iF,iJ,iJ]; omega),iH o]
 by_cases p:gb a i/16=14
 ·rw [iI (by rw [iF,iJ,iJ]; omega),iI p]
  by_cases cl:2<a.length-i
  ·rw [iH O4,u3 O0 g O0]
   by_cases b:gb a (i+1)/64=2
   ·by_cases c:gb a (i+2)/64=2
    ·rw [iI b,iI c];simp only [xb]
     by_cases cv:2048<=gb a i%16*4096+gb a (i+1)%64*64+gb a (i+2)%64∧(gb a i%16*4096+gb a (i+1)%64*64+gb a (i+2)%64<55296∨57344<=gb a i%16*4096+gb a (i+1)%64*64+gb a (i+2)%64)
     ·rw [iH (by simp only [Bool.or_eq_true,iF,iJ]; omega),iI ⟨cl,b,c,cv⟩];simp only [xb];rw [jn O0]; rfl
     ·rw [iI (by simp only [Bool.or_eq_true,iF,iJ]; omega),iH (fun h=>cv h.2.2.2)]
    ·rw [iI b,iH c,iH (fun h=>c h.2.2.1)]; rfl
   ·rw [iH b,iH (fun h=>b h.2.1)]; rfl
  ·rw [iI O4,iH (fun h=>cl h.1)]; rfl
 rw [iH (by rw [iF,iJ,iJ]; omega),iH p]
 by_cases q:gb a i/8=30
 ·rw [iI (by rw [iF,iJ,iJ]; omega),iI q]
  by_cases cl:3<a.length-i
  ·rw [iH O4,u4 O0 g O0]
   by_cases b:gb a (i+1)/64=2
   ·by_cases c:gb a (i+2)/64=2
    ·by_cases e:gb a (i+3)/64=2
     ·rw [iI b,iI c,iI e];simp only [xb]
      by_cases cv:65536<=gb a i%8*262144+gb a (i+1)%64*4096+gb a (i+2)%64*64+gb a (i+3)%64∧gb a i%8*262144+gb a (i+1)%64*4096+gb a (i+2)%64*64+gb a (i+3)%64<=1114111
      ·rw [iH (by simp only [Bool.or_eq_true,iF,iJ]; omega),iI ⟨cl,b,c,e,cv⟩];simp only [xb];rw [jn O0]; rfl
      ·rw [iI (by simp only [Bool.or_eq_true,iF,iJ]; omega),iH (fun h=>cv h.2.2.2.2)]
     ·rw [iI b,iI c,iH e,iH (fun h=>e h.2.2.2.1)]; rfl
    ·rw [iI b,iH c,iH (fun h=>c h.2.2.1)]; rfl
   ·rw [iH b,iH (fun h=>b h.2.1)]; rfl
  ·rw [iI O4,iH (fun h=>cl h.1)]; rfl
 rw [iH (by rw [iF,iJ,iJ]; omega),iH q];rfl
def ce {n:Nat} {a:Bs} (c:a.length<=100000000) (e:5<=n):∀(k i:Nat),i<=a.length->a.length-i<k->xb (z7 n a k i) (fun r=>some r) (fun _=>some true)=some (py a k i)
 |0,i,_,h=>O0
 | k + 1,i,f,g=>by
  rw [py]
  by_cases b:i<a.length
  ·rw [lg b c e,iI b]
   cases h:uAt a i with
   |none=>rfl
   | some d=>
    have:=Dz b h;exact ce c e k (i+d) O0 O0
  ·rw [z7,iH O4,iH b]; rfl
def oI {n:Nat} {a:Bs} (b:a.length<=100000000) (c:a.length+5<=n):vR n a=some (py a n 0):=ce b O0 n 0 O0 O0
def za4 (a:Bs) (i:Nat):Yo a i=Lib.decodeN (a.length-i) (gb a i) (gb a (i+1)) (gb a (i+2)) (gb a (i+3)):=by
 have b:∀j:Nat,((⟨a.toArray⟩:ByteArray).get! j).toNat=gb a j:=by
  intro j;show(a.toArray[j]!).toNat=_;rw [getElem!_def];unfold gb
  by_cases h:j<a.length
  ·simp [h]
  ·simp [h]; rfl
 unfold Yo;rw [Lib.decode_at,b,b,b,b];rfl
def zdO {n i:Nat} {a:Bs} (hi:i<a.length):((ssl a ((i:Nat):Int) (List.length a)).bind fun c=>(ve n c ([239,191,189]:List UInt8)).bind fun b=>some (!b))=some (!(decide (3<=a.length-i∧gb a i=239∧gb a (i+1)=191∧gb a (i+2)=189))):=by
 have s:ssl a (i:Int) (a.length:Int)=some (a.drop i):=by rw [Xx O0 O0]; simp
 rw [s];simp only [iG,ve,yg];have k:(a.drop i).length=a.length-i:=O2;have e:∀j,gb a (i+j)=((a.drop i).getD j 0).toNat:=by intro j; unfold gb; simp
 by_cases g:3<=a.length-i
 ·have v:3<=(a.drop i).length:=O0;rw [iI (by rw [iJ,k]; simp; omega)];have f:=e 0; have o:=e 1; have p:=e 2;rw [Nat.add_zero]at f;rw [f,o,p];generalize a.drop i=l at *
  match l,v with
  | x::y::z::r,_=>
   have:ssl (x::y::z::r) 0 (([239,191,189]:List UInt8).length:Int)=some [x,y,z]:=by
    unfold ssl; rw [iI O3]; rfl
   rw [this];simp only [iG,g,true_and]
   congr 2
   have t:∀u:UInt8,∀m:Nat,m<256->((u.toNat=m)↔u=UInt8.ofNat m):=by
    intro u m w;constructor
    ·intro h; rw [<-h]; simp
    ·intro h; rw [h]; simp; omega
   have q:([x,y,z]==([239,191,189]:List UInt8))=decide ([x,y,z]=([239,191,189]:List UInt8)):=by
    rw [Bool.eq_iff_iff,beq_iff_eq,iJ]
   rw [q];apply decide_eq_decide.2;simp only [List.getD_cons_zero,List.getD_cons_succ,List.cons.injEq,and_true];rw [t x 239 O0,t y 191 O0,t z 189 O0];rfl
 ·rw [iH (by rw [iJ,k]; simp; omega)];simp [g]
def Dp {n k i:Nat} {a:Bs} (hi:i<a.length):
  wK n a (k+1) i=match uAt a i with|none=>some (.ret false)|some d=>wK n a k (i+d):=by
 have t:=jS a i;have w:=jS a (i+1);have x:=jS a (i+2);have y:=jS a (i+3);rw [wK,iI (by rw [Nat.blt_eq]; exact hi),zdO hi,za4];simp only [dro,dan,iG];unfold uAt;generalize a.length-i=m at *;generalize gb a i=e at *;generalize gb a (i+1)=b at *;generalize gb a (i+2)=f at *;generalize gb a (i+3)=j at *
 by_cases p:e<128
 ·have:Lib.decodeN m e b f j=(e,1):=by unfold Lib.decodeN; rw [iI p]
  rw [this]
  by_cases o:e<32∨e=127
  ·rw [iI (by rw [Bool.or_eq_true,iJ,beq_iff_eq]; simp only; omega)];unfold uN; rw [iI o]
  ·rw [iH (by rw [Bool.or_eq_true,iJ,beq_iff_eq]; simp only; omega),iH (by rw [iF,beq_iff_eq]; simp only; omega)];unfold uN; rw [iH o,iI p]
 have key:uN m e b f j=if(Lib.decodeN m e b f j).1=65533∧¬(3<=m∧e=239∧b=191∧f=189)then none else some (Lib.decodeN m e b f j).2:=by
  unfold uN Lib.decodeN;rw [iH (show ¬(e<32∨e=127)by omega),iH p,iH p]
  by_cases o:e/32=6
  ·rw [iI o]
   by_cases g:1<m∧b/64=2
   ·rw [iI (show(e/32=6∧(1<m∧b/64=2))from⟨o,g⟩)]
    by_cases l:e%32*64+b%64≥128
    ·rw [iI (show(1<m∧b/64=2∧128<=e%32*64+b%64)from⟨g.1,g.2,l⟩),iI l,iH (by simp only; omega)]
    ·rw [iH (show ¬(1<m∧b/64=2∧128<=e%32*64+b%64)from fun h=>l h.2.2),iH l,iI ⟨rfl,O0⟩]
   ·rw [iH (show ¬(1<m∧b/64=2∧128<=e%32*64+b%64)by omega),iH (show ¬(e/32=6∧(1<m∧b/64=2))by omega),iH (show ¬(e/16=14∧(1<m∧b/64=2)∧(2<m∧f/64=2))by omega),iH (show ¬(e/8=30∧(1<m∧b/64=2)∧(2<m∧f/64=2)∧(3<m∧j/64=2))by omega),iI ⟨rfl,O0⟩]
  rw [iH o,iH (show ¬(e/32=6∧(1<m∧b/64=2))from fun h=>o h.1)]
  by_cases q:e/16=14
  ·rw [iI q]
   by_cases g:2<m∧b/64=2∧f/64=2
   ·rw [iI (show(e/16=14∧(1<m∧b/64=2)∧(2<m∧f/64=2))from⟨q,⟨O0,g.2.1⟩,g.1,g.2.2⟩)];generalize s:e%16*4096+b%64*64+f%64=v
    by_cases l:v≥2048∧(v<55296∨57344<=v∧v<=1114111)
    ·rw [iI (show(2<m∧b/64=2∧f/64=2∧2048<=v∧(v<55296∨57344<=v))from⟨g.1,g.2.1,g.2.2,O0,O0⟩),iI l,iH (by simp only; omega)]
    ·rw [iH (show ¬(2<m∧b/64=2∧f/64=2∧2048<=v∧(v<55296∨57344<=v))from fun h=>l ⟨h.2.2.2.1,O0⟩),iH l,iI ⟨rfl,O0⟩]
   ·rw [iH (show ¬(2<m∧b/64=2∧f/64=2∧2048<=e%16*4096+b%64*64+f%64∧(e%16*4096+b%64*64+f%64<55296∨57344<=e%16*4096+b%64*64+f%64))from fun h=>g ⟨h.1,h.2.1,h.2.2.1⟩),iH (show ¬(e/16=14∧(1<m∧b/64=2)∧(2<m∧f/64=2))from fun h=>g ⟨h.2.2.1,h.2.1.2,h.2.2.2⟩),iH (show ¬(e/8=30∧(1<m∧b/64=2)∧(2<m∧f/64=2)∧(3<m∧j/64=2))by omega),iI ⟨rfl,O0⟩]
  rw [iH q,iH (show ¬(e/16=14∧(1<m∧b/64=2)∧(2<m∧f/64=2))from fun h=>q h.1)]
  by_cases r:e/8=30
  ·rw [iI r]
   by_cases g:3<m∧b/64=2∧f/64=2∧j/64=2
   ·rw [iI (show(e/8=30∧(1<m∧b/64=2)∧(2<m∧f/64=2)∧(3<m∧j/64=2))from⟨r,⟨O0,g.2.1⟩,⟨O0,g.2.2.1⟩,g.1,g.2.2.2⟩)];generalize s:e%8*262144+b%64*4096+f%64*64+j%64=v
    by_cases l:v≥65536∧(v<55296∨57344<=v∧v<=1114111)
    ·rw [iI (show(3<m∧b/64=2∧f/64=2∧j/64=2∧65536<=v∧v<=1114111)from⟨g.1,g.2.1,g.2.2.1,g.2.2.2,O0,O0⟩),iI l,iH (by simp only; omega)]
    ·rw [iH (show ¬(3<m∧b/64=2∧f/64=2∧j/64=2∧65536<=v∧v<=1114111)from fun h=>l ⟨h.2.2.2.2.1,O0⟩),iH l,iI ⟨rfl,O0⟩]
   ·rw [iH (show ¬(3<m∧b/64=2∧f/64=2∧j/64=2∧65536<=e%8*262144+b%64*4096+f%64*64+j%64∧e%8*262144+b%64*4096+f%64*64+j%64<=1114111)from fun h=>g ⟨h.1,h.2.1,h.2.2.1,h.2.2.2.1⟩),iH (show ¬(e/8=30∧(1<m∧b/64=2)∧(2<m∧f/64=2)∧(3<m∧j/64=2))from fun h=>g ⟨h.2.2.2.1,h.2.1.2,h.2.2.1.2,h.2.2.2.2⟩),iI ⟨rfl,O0⟩]
  rw [iH r,iH (show ¬(e/8=30∧(1<m∧b/64=2)∧(2<m∧f/64=2)∧(3<m∧j/64=2))from fun h=>r h.1),iI ⟨rfl,O0⟩]
 have big:127<(Lib.decodeN m e b f j).1:=by
  unfold Lib.decodeN;rw [iH p]
  repeat' split
  all_goals simp only
  all_goals omega
 rw [key,iH (by rw [Bool.or_eq_true,iJ,beq_iff_eq]; omega)]
 by_cases c:(Lib.decodeN m e b f j).1=65533∧¬(3<=m∧e=239∧b=191∧f=189)
 ·rw [iI c,iI (by rw [iF,beq_iff_eq,Bool.not_eq_true',decide_eq_false_iff_not]; exact⟨O0,c.2⟩)]
 ·rw [iH c,iH (by rw [iF,beq_iff_eq,Bool.not_eq_true',decide_eq_false_iff_not]; intro h; exact c ⟨O0,h.2⟩)]
def Gp {n:Nat} {a:Bs}:∀(k i:Nat),i<=a.length->a.length-i<k->xb (wK n a k i) (fun r=>some r) (fun _=>some true)=some (py a k i)
 |0,i,_,h=>O0
 | k + 1,i,c,e=>by
  rw [py]
  by_cases b:i<a.length
  ·rw [Dp b,iI b]
   cases h:uAt a i with
   |none=>rfl
   | some d=>
    have:=Dz b h;exact Gp k (i+d) O0 O0
  ·rw [wK,iH (by rw [Nat.blt_eq]; exact b),iH b]; rfl
def oS {n:Nat} {a:Bs} (b:a.length+5<=n):gi n a=some (py a n 0):=Gp n 0 O0 O0
def Ya (s:Bs):∀(k k' i:Nat),s.length-i<k->s.length-i<k'->py s k i=py s k' i
 |0,_,i,h,_=>O0
 |_,0,i,_,h=>O0
 | k + 1,k'+1,i,h,c=>by
  rw [py,py]
  by_cases a:i<s.length
  ·rw [iI a,iI a]
   cases b:uAt s i with
   |none=>rfl
   | some d=>
    have:=Dz a b;exact Ya s k k' (i+d) O0 O0
  ·rw [iH a,iH a]
def prC (b:Nat):Bool:=decide (97<=b∧b<=122)||decide (65<=b∧b<=90)||decide (48<=b∧b<=57)||([32,39,40,41,43,44,45,46,47,58,61,63]:List Nat).contains b
def iaC (b:Nat):Bool:=decide (32<=b∧b<=126)
def Yn (kind:Int) (s:Bs):Bool:=
 if kind=12 then py s (s.length+1) 0 else if kind=19 then s.all (fun c=>prC c.toNat)else if kind=22 then s.all (fun c=>iaC c.toNat)else false
def zbc {n b:Nat} (c:20<=n) (a:b<256):uT n (b:Int)=some (prC b):=by
 obtain⟨m,rfl⟩:∃m,n=m+20:=⟨n-20,O0⟩
 have:=List.all_eq_true.1 (show((List.range 256).all fun b:Nat=>decide (uT (m+20) (b:Int)=some (prC b)))=true by kernel_rfl) b (O7 a);simpa using this
def zbl {n b:Nat} (a:b<256):uP n (b:Int)=some (iaC b):=by
 have:=List.all_eq_true.1 (show((List.range 256).all fun b:Nat=>decide (uP n (b:Int)=some (iaC b)))=true by kernel_rfl) b (O7 a);simpa using this
def DS {n b:Nat} (c:20<=n) (a:b<256):((ye n (b:Int)).bind fun r451=>
  if(!r451)=true then((ya n (b:Int) ([32,39,40,41,43,44,45,46,47,58,61,63]:List UInt8)).bind fun r453=>
  some (!r453))else(some false))=some (!prC b):=by
 obtain⟨m,rfl⟩:∃m,n=m+20:=⟨n-20,O0⟩
 have:=List.all_eq_true.1 (show((List.range 256).all fun b:Nat=>decide (((ye (m+20) (b:Int)).bind fun r451=>
  if(!r451)=true then((ya (m+20) (b:Int) ([32,39,40,41,43,44,45,46,47,58,61,63]:List UInt8)).bind fun r453=>
  some (!r453))else(some false))=some (!prC b)))=true by kernel_rfl) b (O7 a)
 simpa using this
def zds {n:Nat} {a:Bs} (g:a.length<=100000000) (f:20<=n):∀(k i:Nat),i<=a.length->a.length-i<k->xb (un n a k (i:Int)) (fun r=>some r) (fun _=>some true)=some ((a.drop i).all fun c=>prC c.toNat)
 |0,i,_,h=>O0
 | k + 1,i,j,l=>by
  rw [un]
  by_cases e:i<a.length
  ·rw [iI O4,wr e,iM e,List.all_cons];simp only [iG];rw [zbc f (sg _)];simp only [iG]
   by_cases b:prC (a[i]).toNat=true
   ·rw [b,iH O2,w1 O0,zds g f k (i+1) O0 O0]; simp
   ·rw [Bool.not_eq_true]at b;rw [b,iI O2]; rfl
  ·rw [iH O4];have:i=a.length:=O0;subst this;simp [xb]
def zcH {n:Nat} {a:Bs} (f:a.length<=100000000):∀(k i:Nat),i<=a.length->a.length-i<k->xb (vE n a k (i:Int)) (fun r=>some r) (fun _=>some true)=some ((a.drop i).all fun c=>iaC c.toNat)
 |0,i,_,h=>O0
 | k + 1,i,g,j=>by
  rw [vE]
  by_cases e:i<a.length
  ·rw [iI O4,wr e,iM e,List.all_cons];simp only [iG];rw [zbl (sg _)];simp only [iG]
   by_cases b:iaC (a[i]).toNat=true
   ·rw [b,iH O2,w1 O0,zcH f k (i+1) O0 O0]; simp
   ·rw [Bool.not_eq_true]at b;rw [b,iI O2]; rfl
  ·rw [iH O4];have:i=a.length:=O0;subst this;simp [xb]
def Du {n:Nat} {k:Int} {a:Bs} (f:a.length<=100000000) (g:a.length+20<=n):jA n k a=some (Yn k a):=by
 unfold jA Yn
 by_cases b:k=12
 ·rw [iI (O7 b),iI b,oS O0];simp only [iG];rw [Ya a n (a.length+1) 0 O0 O0]
 rw [iH (O7 b),iH b]
 by_cases c:k=19
 ·rw [iI (O7 c),iI c];unfold gk;have:=zds (n:=n) f O0 n 0 O0 O0;rw [show((0:Nat):Int)=0 from rfl,List.drop_zero]at this;rw [this]; rfl
 rw [iH (O7 c),iH c]
 by_cases e:k=22
 ·rw [iI (O7 e),iI e];unfold qC;have:=zcH (n:=n) f n 0 O0 O0;rw [show((0:Nat):Int)=0 from rfl,List.drop_zero]at this;rw [this]; rfl
 rw [iH (O7 e),iH e]
def zab {n:Nat} {a:Bs} (g:a.length<=100000000) (f:20<=n):∀(k i:Nat),i<=a.length->a.length-i<k->xb (zW n a 19 k (i:Int)) (fun r=>some r) (fun _=>some true)=some ((a.drop i).all fun c=>prC c.toNat)
 |0,i,_,h=>O0
 | k + 1,i,j,l=>by
  rw [zW]
  by_cases e:i<a.length
  ·rw [iI O4,wr e,iM e,List.all_cons];rw [iH O1,iI O1];simp only [iG];rw [DS f (sg _)];simp only [iG]
   by_cases b:prC (a[i]).toNat=true
   ·rw [b,iH O2,w1 O0,zab g f k (i+1) O0 O0]; simp
   ·rw [Bool.not_eq_true]at b;rw [b,iI O2]; rfl
  ·rw [iH O4];have:i=a.length:=O0;subst this;simp [xb]
def zac {n:Nat} {a:Bs} (g:a.length<=100000000):∀(k i:Nat),i<=a.length->a.length-i<k->xb (zW n a 22 k (i:Int)) (fun r=>some r) (fun _=>some true)=some ((a.drop i).all fun c=>iaC c.toNat)
 |0,i,_,h=>O0
 | k + 1,i,l,m=>by
  rw [zW]
  by_cases f:i<a.length
  ·rw [iI O4,wr f,iM f,List.all_cons];rw [iI O1];simp only [iG];rw [iH (show ¬((22:Int)==19)=true by decide)]
   by_cases e:iaC (a[i]).toNat=true
   ·have b:=e;unfold iaC at b; rw [iJ]at b;rw [iH O4,iH O4];simp only [iG];rw [e,iH O2,w1 O0,zac g k (i+1) O0 O0]; simp
   ·rw [Bool.not_eq_true]at e;have b:=e;unfold iaC at b; rw [decide_eq_false_iff_not]at b;rw [e]
    by_cases j:(a[i]).toNat<32
    ·rw [iI O4]; rfl
    ·rw [iH O4,iI O4]; rfl
  ·rw [iH O4];have:i=a.length:=O0;subst this;simp [xb]
def Jb {n:Nat} {k:Int} {a:Bs} (f:a.length<=100000000) (g:a.length+20<=n):xZ n k a=some (Yn k a):=by
 unfold xZ Yn
 by_cases b:k=12
 ·rw [iI (O7 b),iI b,oI f O0];simp only [iG];rw [Ya a n (a.length+1) 0 O0 O0]
 rw [iH (O7 b),iH b]
 by_cases c:k=19
 ·subst c;rw [iI O1,iI rfl];simp only [iG];rw [iI O1];have:=zab (n:=n) f O0 n 0 O0 O0;rw [show((0:Nat):Int)=0 from rfl,List.drop_zero]at this;exact this
 rw [iH (O7 c),iH c]
 by_cases e:k=22
 ·subst e;rw [iI rfl];simp only [iG];rw [iI O1];have:=zac (n:=n) f n 0 O0 O0;rw [show((0:Nat):Int)=0 from rfl,List.drop_zero]at this;exact this
 rw [iH e];simp only [iG];rw [iH (O7 e)]
def zag:∀(x y:Bs),Op.bytesLess x y=decide (x<y)
 | [],[]=>by simp [Op.bytesLess]
 |_::_,[]=>by simp [Op.bytesLess]
 | [],_::_=>by simp [Op.bytesLess]
 | a::x,b::y=>by
  rw [Op.bytesLess,zag x y];simp only [List.cons_lt_cons_iff]
  by_cases c:a<b<;>by_cases e:a=b<;>by_cases f:x<y<;>simp [c,e,f]
def zV (c:UInt8):Bs->List Bs
 | []=> [[]]
 | x::r=>if x=c then []::zV c r else match zV c r with
  |p::ps=>(x::p)::ps
  | []=> [[x]]
def Jd (c:UInt8) (s:Bs):zV c s≠ []:=by
 cases s with
 |nil=>simp [zV]
 | cons x r=>
  simp only [zV]; split
  ·simp
  ·split<;>simp
def pd (c:UInt8) (s:Bs):(zV c s).length=s.count c+1:=by
 induction s with
 |nil=>rfl
 | cons x r b=>
  simp only [zV]
  by_cases h:x=c
  ·subst h; rw [iI rfl]; simp [b]
  ·rw [iH h,List.count_cons_of_ne h];split
   ·rename_i p ps a; rw [a]at b; simpa using b
   ·rename_i a; exact absurd a (Jd c r)
def jK {c:UInt8} {p:Bs} (a:c∉p):zV c p= [p]∧∀r,zV c (p++c::r)=p::zV c r:=by
 induction p with
 |nil=>exact⟨rfl,fun r=>by simp [zV]⟩
 | cons x q f=>
  simp only [List.mem_cons,not_or]at a;obtain⟨b,e⟩:=f a.2;refine⟨?_,fun r=> ?_⟩
  ·simp only [zV]; rw [iH (Ne.symm a.1),b]
  ·simp only [List.cons_append,zV]; rw [iH (Ne.symm a.1),e r]
def B8 {c x:UInt8} {p r:Bs} (a:c∉p) (b:x≠c):∃q ps,zV c (p++x::r)=(p++x::q)::ps:=by
 induction p with
 | nil=>
  simp only [List.nil_append,zV]; rw [iH b];split
  ·exact⟨_,_,rfl⟩
  ·exact⟨[],[],rfl⟩
 | cons y q e=>
  simp only [List.mem_cons,not_or]at a;obtain⟨f,ps,h⟩:=e a.2;simp only [List.cons_append,zV]; rw [iH (Ne.symm a.1),h];exact⟨f,ps,rfl⟩
def dm (c:UInt8):∀s:Bs,(Lib.index s [c]= -1∧c∉s)∨∃p r,s=p++c::r∧Lib.index s [c]=(p.length:Int)∧c∉p
 | []=> .inl ⟨rfl,O2⟩
 | x ::l=>by
  unfold Lib.index
  by_cases h:x=c
  ·subst h; exact .inr ⟨[],l,rfl,by simp [List.isPrefixOf],O2⟩
  ·have a:List.isPrefixOf [c] (x::l)=false:=by simp [List.isPrefixOf]; exact fun f=>absurd f.symm h
   rw [a];rcases dm c l with⟨b,e⟩|⟨p,r,b,e,g⟩
   ·refine .inl ⟨by simp [b], ?_⟩;simp only [List.mem_cons,not_or]; exact⟨Ne.symm h,e⟩
   ·refine .inr ⟨x::p,r,by rw [b]; rfl, ?_, ?_⟩
    ·rw [e];have:((p.length:Int)== -1)=false:=O2;simp [this]
    ·simp only [List.mem_cons,not_or]; exact⟨Ne.symm h,g⟩
def PJ {α:Type} {l:List α} {x y:α} {r:List α} {i:Nat} (h:i=l.length):pI (l++y::r) (i*1) x=some (l++x::r):=by
 subst h;unfold pI;rw [Nat.mul_one,iI O2];simp
def Wu {n:Nat} {c:UInt8} {s:Bs} (F:s.length<=1000000000) (m:Nat) (C:m=s.count c+1):∀(k i:Nat) (v:Bs) (done:List Bs),done.length=i->i+v.count c+1=m->v.length<=s.length->v.count c<k ->
  ∃w done2,wg n s (m:Int) [c] 0 m k v (i:Int) (done++List.replicate (m-i) [])=some (w,((m-1:Nat):Int),done2++List.replicate 1 [])∧done2.length=m-1∧done++zV c v=done2 ++ [w]
 |0,_,_,_,_,_,_,h=>O0
 | k + 1,i,v,done,hd,O,Q,P=>by
  have B:s.count c<=s.length:=List.count_le_length;rw [wg];have o:wrap .i64 ((s.length:Int)+1)=((s.length+1:Nat):Int):=by rw [jn O0]; omega
  rw [o]
  have q:(if(((s.length+1:Nat):Int))<(m:Int)then((s.length+1:Nat):Int)else(m:Int))=(m:Int):=by
   rw [iH O0]
  rw [q,jn (x:=(m:Int)-1) O0]
  by_cases N:i<m-1
  ·rw [iI O3];have b:qO n v [c]=some (Lib.index v [c]):=by unfold qO; rw [iI O0]
   rw [b];simp only [iG];rcases dm c v with⟨a,f⟩|⟨p,r,a,f,j⟩
   ·have:v.count c=0:=List.count_eq_zero.2 f;omega
   ·have G:v.count c=r.count c+1:=by rw [a,List.count_append,List.count_eq_zero.2 j]; simp
    have H:v.length=p.length+1+r.length:=by rw [a]; simp; omega
    rw [f,iH O2,jn (x:=(p.length:Int)+0) O0,Int.add_zero]
    have K:ssl v 0 (p.length:Int)=some p:=by
     rw [show(0:Int)=((0:Nat):Int)from rfl,Xx O0 O0,a]; simp
    have L:ssl v (wrap .i64 ((p.length:Int)+(([c]:Bs).length:Int))) (v.length:Int)=some r:=by
     rw [show(([c]:Bs).length:Int)=1 from rfl,w1 O0,Xx O0 O0,List.take_length,a,show p.length+1=(p ++ [c]).length by simp,show p++c::r=(p ++ [c])++r by simp,List.drop_left]
    have M:jo m (i:Int)=some i:=by unfold jo; rw [iI O0]; simp
    have e:List.replicate (m-i) ([]:Bs)= []::List.replicate (m-(i+1)) []:=by
     rw [show m-i=(m-(i+1))+1 by omega,List.replicate_succ]
    rw [K,M,L,e];simp only [iG];rw [PJ hd.symm,w1 O0];simp only [iG];have I:=Wu (n:=n) F m C k (i+1) r (done ++ [p]) (by simp [hd]) O0 O0 O0;obtain⟨w,l,t,y,z⟩:=I;refine⟨w,l, ?_,y, ?_⟩
    ·rw [<-t]; simp
    ·rw [<-z,a,(jK j).2 r]; simp
  ·rw [iH O3];have g:i=m-1:=O0;have A:v.count c=0:=O0;have E:c∉v:=List.count_eq_zero.1 A;refine⟨v,done, ?_,O0,by rw [(jK E).1]⟩;rw [g,show m-(m-1)=1 by omega]
def Z2 {n:Nat} {c:UInt8} {s:Bs} (t:s.length<=1000000000) (x:s.length+2<=n):vJ n s [c]=some (zV c s):=by
 unfold vJ ug;have q:s.count c<=s.length:=List.count_le_length;rw [iH O1,iH O2,iI O1];have a:YX n s [c]=some ((s.count c:Nat):Int):=rfl;rw [a];simp only [iG];have h:wrap .i64 (((s.count c:Nat):Int)+1)=((s.count c+1:Nat):Int):=by rw [jn O0]; omega
 have i:wrap .i64 ((s.length:Int)+1)=((s.length+1:Nat):Int):=by rw [jn O0]; omega
 rw [h,i];generalize r:s.count c+1=m at *
 have j:(if(((s.length+1:Nat):Int))<(m:Int)then((s.length+1:Nat):Int)else(m:Int))=(m:Int):=by
  rw [iH O0]
 rw [j];have b:WQ 16 (m:Int) (m:Int)=some m:=by unfold WQ; rw [iI O0]; simp
 rw [b];simp only [iG];obtain⟨w,e,f,p,g⟩:=Wu (n:=n) (c:=c) t m r.symm n 0 s [] rfl O0 (iP _) O0;rw [show((0:Nat):Int)=0 from rfl,List.nil_append,Nat.sub_zero]at f;rw [List.nil_append]at g;rw [f];simp only [iG];have v:jo m (((m-1:Nat):Int))=some (m-1):=by unfold jo; rw [iI O0]; simp
 rw [v];simp only [iG];rw [show List.replicate 1 ([]:Bs)= [[]]from rfl,PJ p.symm];simp only [iG];have k:wrap .i64 (((m-1:Nat):Int)+1)=(m:Int):=by rw [jn O0]; omega
 rw [k];have l:osl m (m:Int)=some m:=by unfold osl; rw [iI O0]; simp
 rw [l];simp only [iG]
 have o:Wf m (e ++ [w])=some (e ++ [w]):=by
  unfold Wf; rw [iI O3,List.take_of_length_le O3]
 rw [o,g]; rfl
def pm (c:UInt8):Bool:=decide (48<=c.toNat)&&decide (c.toNat<=57)
def dval (p:Bs):Nat:=p.foldl (fun n c=>10*n+(c.toNat-48)) 0
def uw (p:Bs):Bool:=decide (p≠ [])&&decide (p.length<=10) && !(decide (1<p.length)&&decide (p.head? =some 48))&&p.all pm&&decide (dval p<=2147483647)
def Wb (l:List Nat):Bool:=match l with
 |a::b::_=>(decide (a<=1)&&decide (b<=39))||decide (a=2)
 |_=>false
def kQ (s:Bs):Option (List Nat):=
 if 2<=(zV 46 s).length∧(zV 46 s).length<=12∧(zV 46 s).all uw=true∧Wb ((zV 46 s).map dval)=true then some ((zV 46 s).map dval)else none
def qe (l:List Nat):List Int:=l.map fun n:Nat=>(n:Int)
def bk (p:Bs):uw p=true↔p≠ []∧p.length<=10∧¬(1<p.length∧p.head? =some 48)∧p.all pm=true∧dval p<=2147483647:=by
 unfold uw;simp only [iF,iJ,Bool.not_eq_true',Bool.and_eq_false_imp,decide_eq_false_iff_not,and_assoc,not_and]
def gt {p:Bs} (h:¬(p≠ []∧p.length<=10∧¬(1<p.length∧p.head? =some 48)∧p.all pm=true∧dval p<=2147483647)):uw p=false:=by
 rw [Bool.eq_false_iff]; exact fun a=>h ((bk p).1 a)
def V8 {c:UInt8} (a:pm c=true) {v:Nat} (b:v<100000000000):wrap .i64 (wrap .i64 ((10:Int)*(v:Int))+wrap .i64 (wrap .u8 ((c.toNat:Int)-48)))=((10*v+(c.toNat-48):Nat):Int):=by
 simp only [pm,iF,iJ]at a;rw [wr8 O0 O0,jn (x:=(10:Int)*(v:Int)) O0,jn (x:=(c.toNat:Int)-48) O0,jn O0];omega
def UC {n:Nat} (p:Bs) (j:p.length<=10):∀(k i v:Nat),i<=p.length->p.length-i<k->v<10^i->(p.take i).all pm=true ->
  uX n p k (v:Int) (i:Int)=some (if(p.drop i).all pm=true then .nxt (((p.drop i).foldl (fun n c=>10*n+(c.toNat-48)) v:Nat):Int)else .ret (-1))
 |0,i,v,_,h,_,_=>O0
 | k + 1,i,v,m,o,l,hd=>by
  rw [uX]
  by_cases b:i<p.length
  ·rw [iI O3,wr b];simp only [iG];have e:p.drop i=p[i]::p.drop (i+1):=iM b;have g:v<10000000000:=Nat.lt_of_lt_of_le l (Nat.le_trans (Nat.pow_le_pow_right O0 (show i<=10 by omega)) O1);rw [e,List.all_cons,List.foldl_cons]
   by_cases a:pm p[i]=true
   ·have f:=a;simp only [pm,iF,iJ]at f;rw [iH O3];simp only [iG];rw [iH O3,V8 a O0,w1 O0,a,Bool.true_and];refine UC p j k (i+1) _ O0 O0 ?_ ?_
    ·rw [Nat.pow_succ]; omega
    ·rw [List.take_succ_eq_append_getElem b,List.all_append,hd]; simp [a]
   ·have f:p[i].toNat<48∨57<p[i].toNat:=by
     simp only [pm,iF,iJ]at a; omega
    have:(if(decide (((p[i]).toNat:Int)<48))=true then some true else some (decide (((p[i]).toNat:Int)>57)))=some true:=by
     by_cases h:p[i].toNat<48
     ·rw [iI O3]
     ·rw [iH O3]; simp; omega
    rw [this];simp only [Bool.not_eq_true]at a;simp [a]
  ·have:i=p.length:=O0;subst this;rw [iH O2];simp
def sU {n:Nat} {p:Bs} (o:20<=n) (k:p.length<=1000000000):bo n p=some (if uw p=true then((dval p:Nat):Int)else -1):=by
 unfold bo
 match p,k with
 | [],_=>simp [uw]
 | c :: r,k=>
  rw [iH O2]
  by_cases b:(c::r).length<=10
  ·rw [iH (by simp; simp at b; omega)];have l:xE (c::r) 0=some (c.toNat:Int):=by simp [xE]
   rw [l];simp only [iG]
   by_cases e:c=48∧1<(c::r).length
   ·have:uw (c::r)=false:=gt fun h=>h.2.2.1 ⟨e.2,by rw [e.1]; rfl⟩;rw [iI (by rw [e.1]; rfl),this];have:=e.2;simp at this;have g:decide (((c::r).length:Int)>1)=true:=O3;rw [g]; rfl
   ·have m:(if((c.toNat:Int)==48)=true then some (decide (((c::r).length:Int)>1))else some false)=some false:=by
     by_cases h:c=48
     ·rw [iI (by rw [h]; rfl)];have:¬1<(c::r).length:=fun i=>e ⟨h,i⟩;have g:decide (((c::r).length:Int)>1)=false:=by rw [decide_eq_false_iff_not]; omega
      rw [g]
     ·rw [iH];simp;intro i;have:(48:UInt8).toNat=48:=rfl;exact h (UInt8.toNat_inj.1 O0)
    rw [m];simp only [iG,iT,if_false];have:=UC (n:=n) (c::r) b n 0 0 O0 O0 O2 O2;rw [show((0:Nat):Int)=0 from rfl,List.drop_zero]at this;rw [this]
    by_cases f:(c::r).all pm=true
    ·rw [iI f];simp only [xb]
     by_cases j:dval (c::r)<=2147483647
     ·have a:uw (c::r)=true:=(bk _).2 ⟨O2,b,fun h=>e ⟨by simpa using h.2,h.1⟩,f,j⟩;rw [a,iI rfl];rw [iH]
      ·rfl
      ·show ¬decide (((dval (c::r):Nat):Int)>2147483647)=true;simp; omega
     ·have a:uw (c::r)=false:=gt fun h=>j h.2.2.2.2;rw [a,iI]
      ·rfl
      ·show decide (((dval (c::r):Nat):Int)>2147483647)=true;simp; omega
    ·have a:uw (c::r)=false:=gt fun h=>f h.2.2.2.1;rw [iH f,a]; rfl
  ·have a:uw (c::r)=false:=gt fun h=>b h.2.1;rw [iI (by simp; simp at b; omega),a]; rfl
def YS (l:List Nat):(qe l).length=l.length:=by simp [qe]
def WE {n:Nat} (i:20<=n) (ps:List Bs) (j:∀p∈ps,p.length<=1000000000) (l:ps.length<=1000000000):∀(k:Nat) (pre suf:List Bs),ps=pre++suf->suf.length<k->pre.all uw=true ->
  vL n ps k (qe (pre.map dval)) (pre.length:Int)=some (if suf.all uw=true then .nxt (qe (ps.map dval))else .ret none)
 |0,_,_,_,h,_=>O0
 | k+1,pre,[],a,f,c=>by
  simp at a; subst a;rw [vL,iH O2]; simp
 | k+1,pre,p::suf,a,f,c=>by
  have g:ps.length=pre.length+(suf.length+1):=by rw [a]; simp
  have m:yj ps (pre.length:Int)=some p:=by
   rw [xa O0]; congr 1; simp [a]
  rw [vL,iI O3,m];simp only [iG];rw [sU i (j p (by rw [a]; simp))];simp only [iG]
  by_cases b:uw p=true
  ·rw [iI b,iH O2,vG (by simp [YS]; omega)];simp only [iG];have e:(p::suf).all uw=suf.all uw:=by simp [b]
   rw [w1 O0,e];have o:=WE i ps j l k (pre ++ [p]) suf (by rw [a]; simp) (by simp at f; omega) (by simp [c,b]);rw [<-o];simp [qe]
  ·have e:(p::suf).all uw=false:=by simp [b]
   rw [iH b,e];simp
def DZ {c:UInt8} {s p:Bs} (h:p∈zV c s):p.length<=s.length:=by
 induction s generalizing p with
 |nil=>simp [zV]at h; subst h; simp
 | cons x r a=>
  simp only [zV]at h;split at h
  ·rcases List.mem_cons.1 h with h|h
   ·subst h; simp
   ·have:=a h; simp; omega
  ·split at h
   ·rename_i q ps b;rcases List.mem_cons.1 h with h|h
    ·subst h;have:=a (p:=q) (by rw [b]; simp);simp; omega
    ·have:=a (p:=p) (by rw [b]; simp [h]);simp; omega
   ·simp at h; subst h; simp
def mq {n:Nat} {s:Bs} (w:s.length<=100000000) (v:s.length+20<=n):qZ n s=some ((kQ s).map qe):=by
 unfold qZ kQ;rw [Z2 O0 O0];simp only [iG]
 have j:(zV 46 s).length<=s.length+1:=by
  rw [pd]; have:= @List.count_le_length _ _ (46:UInt8) s; omega
 by_cases g:2<=(zV 46 s).length∧(zV 46 s).length<=12
 ·have :(if(decide (((zV 46 s).length:Int)<2))=true then some true else some (decide (((zV 46 s).length:Int)>12)))=some false:=by
   rw [iH O3,decide_eq_false_iff_not.2 O0]
  rw [this];simp only [iG,iT,if_false];have i:=WE (n:=n) O0 (zV 46 s) (fun p q=>by have:=DZ q; omega) O0 n [] (zV 46 s) rfl O0 rfl;rw [show(qe (List.map dval ([]:List Bs)))= []from rfl,show((([]:List Bs).length:Nat):Int)=0 from rfl]at i;rw [i]
  by_cases c:(zV 46 s).all uw=true
  ·rw [iI c];simp only [xb]
   match hd:(zV 46 s).map dval with
   | []=>have:=congrArg List.length hd; rw [List.length_map,List.length_nil]at this; omega
   | [x]=>have:=congrArg List.length hd; rw [List.length_map,List.length_singleton]at this; omega
   | a ::b::l=>
    have m:yj (qe (a::b::l)) 0=some (a:Int):=by simp [yj,qe]
    have o:yj (qe (a::b::l)) 1=some (b:Int):=by simp [yj,qe]
    rw [m,o];simp only [iG]
    have r:qV n (a:Int) (b:Int)=some (Wb (a::b::l)):=by
     unfold qV Wb
     have k:((a:Int)==2)=decide (a=2):=by
      by_cases h:a=2
      ·simp [h]
      ·simp [h]; omega
     rw [k]
     by_cases e:a<=1
     ·by_cases f:b<=39
      ·rw [iI O3,iI O3]; simp [e,f]
      ·rw [iI O3,iH O3]; simp [f]
     ·rw [iH O3]; simp [e]
    rw [r];simp only [iG]
    cases t:Wb (a::b::l)with
    |true=>simp [g,c,lne,qe]
    |false=>simp
  ·rw [iH c,iH (fun h=>c h.2.2.1)]; rfl
 ·have:(if(decide (((zV 46 s).length:Int)<2))=true then some true else some (decide (((zV 46 s).length:Int)>12)))=some true:=by
   by_cases h:(zV 46 s).length<2
   ·rw [iI O3]
   ·rw [iH O3,decide_eq_true O0]
  rw [this,iH (fun h=>g ⟨h.1,h.2.1⟩)]; rfl
def XG {n:Nat} {s:Bs} (e:s.length<=100000000) (c:s.length+20<=n):uJ n s=some (kQ s).isSome:=by
 unfold uJ;rw [mq e c]
 cases h:kQ s with
 |none=>rfl
 | some l=>
  have:l≠ []:=by
   unfold kQ at h;split at h
   ·rename_i f; cases h;intro b;have:=congrArg List.length b;rw [List.length_map,List.length_nil]at this;omega
   ·cases h
  cases l with
  |nil=>exact absurd rfl this
  |cons a r=>rfl
def Ky {n:Nat} (p:Bs) (j:p.length<=10) (hd:p.all pm=true):∀(k i v:Nat),i<=p.length->p.length-i<k->v<10^i ->
  yZ n p k (v:Int) (i:Int)=some (((p.drop i).foldl (fun n c=>10*n+(c.toNat-48)) v:Nat):Int)
 |0,i,v,_,h,_=>O0
 | k+1,i,v,m,o,l=>by
  rw [yZ]
  by_cases b:i<p.length
  ·rw [iI O3,wr b];simp only [iG];have e:p.drop i=p[i]::p.drop (i+1):=iM b;have f:v<10000000000:=Nat.lt_of_lt_of_le l (Nat.le_trans (Nat.pow_le_pow_right O0 (show i<=10 by omega)) O1);have a:pm p[i]=true:=List.all_eq_true.1 hd _ (List.getElem_mem b);have g:=a;simp only [pm,iF,iJ]at g;rw [e,List.foldl_cons,V8 a O0,w1 O0];refine Ky p j hd k (i+1) _ O0 O0 ?_;rw [Nat.pow_succ]; omega
  ·have:i=p.length:=O0;subst this;rw [iH O2];simp
def Qb (out:List Nat):List Bs->Ctl (List Int×Bool) (List Int)
 | []=> .nxt (qe out)
 |p::ps=>if uw p=true∧out.length≠12 then Qb (out ++ [dval p]) ps else .ret ([],false)
def Pt (a b:Nat):((a:Int)==(b:Int))=decide (a=b):=by
 by_cases h:a=b
 ·subst h; simp
 ·simp [h]; omega
def tT {c d:UInt8}:((c.toNat:Int)==(d.toNat:Int))=decide (c=d):=by
 rw [Pt]
 by_cases h:c=d
 ·subst h; simp
 ·rw [decide_eq_false h,decide_eq_false];exact fun a=>h (UInt8.toNat_inj.1 a)
def fY (p:Bs) (m:Nat):(if((List.length p:Int)==0)=true then(some true)else(if(decide ((List.length p:Int)>10))=true then(some true)else(if(decide ((List.length p:Int)>1))=true then((xE p 0).bind fun x578=>
  if(x578==48)=true then(some true)else(some ((m:Int)==12)))else(some ((m:Int)==12)))))=some (decide (p.length=0∨10<p.length∨(1<p.length∧p.head? =some 48)∨m=12)):=by
 rw [show(12:Int)=((12:Nat):Int)from rfl,Pt]
 match p with
 | []=>simp
 | [c]=>simp
 | c ::d::r=>
  rw [iH O3]
  by_cases a:10<(c::d::r).length
  ·rw [iI O4,decide_eq_true (.inr (.inl a))]
  ·have f:xE (c::d::r) 0=some (c.toNat:Int):=by simp [xE]
   rw [iH O4,iI O3,f];simp only [iG];rw [show((c.toNat:Int)==48)=decide (c=48)from tT (d:=48)]
   by_cases b:c=48
   ·rw [iI (by simp [b]),decide_eq_true (.inr (.inr (.inl ⟨O2,by simp [b]⟩)))]
   ·rw [iH (by simp [b])]
    congr 1
    by_cases e:m=12
    ·rw [decide_eq_true e,decide_eq_true (.inr (.inr (.inr e)))]
    ·rw [decide_eq_false e,decide_eq_false];rintro(h|h|h|h)
     ·simp at h
     ·exact a h
     ·exact b (by simpa using h.2)
     ·exact e h
def Wx {n:Nat} (v:20<=n) (p:Bs) (out:List Nat) (b:List Bs) (j:Int) (go:List Int->Int->Option (Ctl (List Int×Bool) (List Int))) (hd:p.all pm=true) (w:out.length<=100000000)
  (hnext:uw p=true->go (qe (out ++ [dval p])) j=some (Qb (out ++ [dval p]) b)):
  xb ((if((List.length p:Int)==0)=true then(some true)else(if(decide ((List.length p:Int)>10))=true then(some true)else(if(decide ((List.length p:Int)>1))=true then((xE p 0).bind fun x578=>
      if(x578==48)=true then(some true)else(some ((List.length (qe out):Int)==12)))else(some ((List.length (qe out):Int)==12))))).bind fun y580=>
     if y580=true then(some (.ret (([]:(List Int)),false)))else((yZ n p n 0 0).bind fun y590=>
     if(decide (y590>2147483647))=true then(some (.ret (([]:(List Int)),false)))else((vF 8 (qe out) ([y590]:List Int)).bind fun x600=>
     some (.nxt (x600,j))))) (fun r=>some (.ret r)) (fun y567=>go y567.1 y567.2)=some (Qb out (p::b)):=by
 rw [YS,fY,Qb];simp only [iG]
 by_cases g:p.length=0∨10<p.length∨(1<p.length∧p.head? =some 48)∨out.length=12
 ·rw [decide_eq_true g,iI rfl,iH]
  ·rfl
  ·intro h;obtain⟨s,x,t,y,z⟩:=(bk p).1 h.1;rcases g with c|c|c|c
   ·exact s (List.eq_nil_of_length_eq_zero c)
   ·omega
   ·exact t c
   ·exact h.2 c
 ·simp only [not_or]at g;obtain⟨i,q,k,l⟩:=g;rw [decide_eq_false (by simp only [not_or]; exact⟨i,q,k,l⟩),iH O2];have a:=Ky (n:=n) p O0 hd n 0 0 O0 O0 O2;rw [show((0:Nat):Int)=0 from rfl,List.drop_zero]at a;rw [a];simp only [iG]
  by_cases o:dval p<=2147483647
  ·have f:uw p=true:=(bk p).2 ⟨fun h=>i (by rw [h]; rfl),O0,k,hd,o⟩;rw [iH (by show ¬decide (((dval p:Nat):Int)>2147483647)=true; simp; omega),iI ⟨f,l⟩,vG (by simp [YS]; omega)];simp only [iG,xb];have e:qe out ++ [((dval p:Nat):Int)]=qe (out ++ [dval p]):=by simp [qe]
   have m:=hnext f;rw [<-e]at m;exact m
  ·rw [iI (by show decide (((dval p:Nat):Int)>2147483647)=true; simp; omega),iH (fun h=>o ((bk p).1 h.1).2.2.2.2)]; rfl
def VU {n:Nat} (m:20<=n) (s:Bs) (A:s.length<=100000000):∀(k at_ i:Nat) (out:List Nat),at_<=i->i<=s.length->s.length-i+1<k->((s.take i).drop at_).all pm=true->out.length+(s.length-i)<=100000000 ->
  zX n s k (qe out) (at_:Int) (i:Int)=some (Qb out (zV 46 (s.drop at_)))
 |0,_,_,_,_,_,h,_,_=>O0
 | k + 1,at_,i,out,x,y,z,hd,E=>by
  have b:s.drop at_=(s.take i).drop at_++s.drop i:=by
   conv=>lhs; rw [<-List.take_append_drop i s]
   rw [List.drop_append_of_le_length O3]
  have f:(46:UInt8)∉(s.take i).drop at_:=fun h=>by
   have:=List.all_eq_true.1 hd _ h;exact absurd this O1
  rw [zX,iI O3]
  by_cases t:i<s.length
  ·have j:s.drop i=s[i]::s.drop (i+1):=iM t;rw [iI O3,wr t];simp only [iG]
   by_cases c:s[i]=46
   ·have p:(((s[i]).toNat:Int) !=46)=false:=by rw [c]; rfl
    rw [p,iH O2,Xx x y]
    have g:zV 46 (s.drop at_)=(s.take i).drop at_::zV 46 (s.drop (i+1)):=by
     rw [b,j,c]; exact(jK f).2 _
    rw [g]
    have:=Wx (n:=n) m ((s.take i).drop at_) out (zV 46 (s.drop (i+1))) ((i+1:Nat):Int) (fun o a=>zX n s k o a ((i+1:Nat):Int)) hd O0
     (fun v=>VU m s A k (i+1) (i+1) (out ++ [dval ((s.take i).drop at_)]) (iP _) O0 O0 O2 O3)
    rw [w1 O0];exact this
   ·have p:(((s[i]).toNat:Int) !=46)=true:=by
     have:(((s[i]).toNat:Int)==46)=decide (s[i]=46):=tT (d:=46);simp only [bne,this]; simp [c]
    rw [p,iI rfl]
    by_cases e:pm s[i]=true
    ·have w:=e;simp only [pm,iF,iJ]at w;rw [iH O3];simp only [iG];rw [iH O3,w1 O0];simp only [xb];refine VU m s A k at_ (i+1) out O0 O0 O0 ?_ O0;rw [List.take_succ_eq_append_getElem t,List.drop_append_of_le_length O3,List.all_append,hd]; simp [e]
    ·have w:s[i].toNat<48∨57<s[i].toNat:=by
      simp only [pm,iF,iJ]at e; omega
     have B:(if(decide (((s[i]).toNat:Int)<48))=true then some true else some (decide (((s[i]).toNat:Int)>57)))=some true:=by
      by_cases h:s[i].toNat<48
      ·rw [iI O3]
      ·rw [iH O3]; simp; omega
     rw [B];obtain⟨q,ps,C⟩:=B8 (r:=s.drop (i+1)) f c;rw [b,j,C,Qb,iH]
     ·rfl
     ·intro h;have:=((bk _).1 h.1).2.2.2.1;rw [List.all_append,List.all_cons]at this;simp [e]at this
  ·have l:i=s.length:=O0;rw [iH O3];simp only [iG,iT,if_false]
   have g:zV 46 (s.drop at_)=(s.take i).drop at_:: []:=by
    rw [b,l,List.drop_length,List.append_nil]; exact(jK (by rw [<-l]; exact f)).1
   rw [g,Xx x y,w1 O0];refine Wx (n:=n) m ((s.take i).drop at_) out [] ((i+1:Nat):Int) (fun o a=>zX n s k o a ((i+1:Nat):Int)) hd O0 (fun v=> ?_)
   match k,z with
   | k+1,z=>
    show zX n s (k+1) _ _ _=_;rw [zX,iH O3]; rfl
def Bx:∀(ps:List Bs) (out:List Nat),out.length<=12->Qb out ps=if ps.all uw=true∧out.length+ps.length<=12 then .nxt (qe (out++ps.map dval))else .ret ([],false)
 | [],out,h=>by rw [Qb,iI ⟨rfl,by simpa using h⟩]; simp
 | p ::ps,out,h=>by
  rw [Qb]
  by_cases c:uw p=true
  ·by_cases b:out.length=12
   ·rw [iH (fun a=>a.2 b),iH (fun a=>by have:=a.2; simp at this; omega)]
   ·rw [iI ⟨c,b⟩,Bx ps _ O3]
    have e:((p::ps).all uw=true∧out.length+(p::ps).length<=12)↔(ps.all uw=true∧(out ++ [dval p]).length+ps.length<=12):=by
     rw [List.all_cons,c,Bool.true_and]; simp; omega
    simp only [e]; simp
  ·rw [iH (fun a=>c a.1),iH (fun a=>c (by have:=a.1; rw [List.all_cons,iF]at this; exact this.1))]
def nl {n:Nat} {s:Bs} (k:s.length<=100000000) (q:s.length+20<=n):wU n s=some (match kQ s with|some l=>(qe l,true)|none=>([],false)):=by
 unfold wU kQ;have f:=VU (n:=n) O0 s k n 0 0 [] O0 O0 O0 O2 O3;rw [show((0:Nat):Int)=0 from rfl,List.drop_zero,show qe []= []from rfl,Bx _ _ O2]at f;rw [f];simp only [List.length_nil,Nat.zero_add,List.nil_append]
 by_cases c:(zV 46 s).all uw=true∧(zV 46 s).length<=12
 ·rw [iI c];simp only [xb,YS,List.length_map]
  by_cases g:2<=(zV 46 s).length
  ·rw [iH O3]
   match hd:(zV 46 s).map dval with
   | []=>have:=congrArg List.length hd; rw [List.length_map,List.length_nil]at this; omega
   | [x]=>have:=congrArg List.length hd; rw [List.length_map,List.length_singleton]at this; omega
   | a ::b::l=>
    have k0:yj (qe (a::b::l)) 0=some (a:Int):=by simp [yj,qe]
    have m:yj (qe (a::b::l)) 1=some (b:Int):=by simp [yj,qe]
    rw [k0,m];simp only [iG]
    have i:(if(decide ((a:Int)>2))=true then some true else if(decide ((a:Int)<2))=true then some (decide ((b:Int)>39))else some false)=some (!Wb (a::b::l)):=by
     show _=some (!(decide (a<=1)&&decide (b<=39)||decide (a=2)))
     by_cases o:2<a
     ·rw [iI O3,decide_eq_false (show ¬a<=1 by omega),decide_eq_false (show ¬a=2 by omega)]; rfl
     ·rw [iH O3]
      by_cases p:a<2
      ·rw [iI O3,decide_eq_true (show a<=1 by omega),decide_eq_false (show ¬a=2 by omega)]
       by_cases e:b<=39
       ·rw [decide_eq_true e,decide_eq_false O0]; rfl
       ·rw [decide_eq_false e,decide_eq_true O0]; rfl
      ·rw [iH O3,decide_eq_true (show a=2 by omega)]; simp
    rw [i];simp only [iG]
    cases j:Wb (a::b::l)with
    |true=>rw [iH O2,iI ⟨g,c.2,c.1,rfl⟩]
    |false=>rw [iI O2,iH (fun h=>by have:=h.2.2.2; simp at this)]
  ·rw [iI O3,iH (fun h=>g h.1)]; rfl
 ·rw [iH c,iH (fun h=>c ⟨h.2.2.1,h.2.1⟩)]; rfl
def pa {n:Nat} {s:Bs} (b:s.length<=100000000) (a:s.length+20<=n):yI n s=some (kQ s).isSome:=by
 unfold yI;rw [nl b a];cases kQ s<;>rfl
def ifb (a b:Bool):(if a=true then some true else some b)=some (a||b):=by cases a<;>rfl
def w9 (d:zc):Prop:=0<=d.xh∧d.xh<=(d.f_L.length:Int)∧d.f_L.length<=9223372036854775807
def Ju {α:Type} {l:List α} {i:Int} (a:0<=i) (b:i<(l.length:Int)):∃x,yj l i=some x∧x∈l:=by
 have h:i.toNat<l.length:=O0;exact⟨l[i.toNat],by simp [yj,a,h],O2⟩
def mc {n:Nat} {k:Int} {d:zc} (b:0<k) (l:k<=4611686018427387904) (hd:w9 d):
  ∃r e,zd n k d=some (r,e)∧0<=r∧r<k∧w9 e:=by
 obtain⟨f,i,g⟩:=hd;unfold zd
 by_cases a:d.xh≥(d.f_L.length:Int)
 ·exact⟨0,d,by simp [a],O0,O0,f,i,g⟩
 ·have h:wrap .i64 (d.xh+1)=d.xh+1:=jn O0;have j:wrap .i64 (wrap .i64 (d.xh+1)-1)=d.xh:=by rw [h,jn O0]; omega
  obtain⟨x,q,_⟩:=Ju f (Int.not_le.1 a)
  have m: -k<x.tmod k:=by
   have:=Int.lt_tmod_of_pos x b; omega
  have o:x.tmod k<k:=Int.tmod_lt_of_pos x b;have p:wrap .i64 (x.tmod k+k)=x.tmod k+k:=jn O0;refine⟨(x.tmod k+k).tmod k,⟨d.f_L,d.xh+1⟩, ?_, ?_, ?_, ?_⟩
  ·rw [j,q,h];have c:k≠0:=O0;simp [a,ny,c,p]
  ·exact Int.tmod_nonneg k O0
  ·exact Int.tmod_lt_of_pos _ b
  ·exact⟨O3,O3,g⟩
def wi {n:Nat} {k:Int} {d:zc} (c:0<k) (a:k<=4611686018427387904) (hd:w9 d):∃r b,zd n k d=some (r,b)∧0<=r∧r<k∧w9 b:=mc c a hd
abbrev Att:=za
def Q2 (pre:List Att) (a:Att):Int:=
 if(kQ a.wh).isSome=false then 11 else if a.vk= []∨Yn a.yF a.vk=false then 13 else if 64<a.vk.length then 2 else if(pre.any fun b=>b.wh==a.wh)=true then 10 else 0
def qF:List Att->List Att->Int
 |_,[]=>0
 |pre,a::r=>if Q2 pre a≠0 then Q2 pre a else qF (pre ++ [a]) r
def XQ (r:List Att):Int:=if r= []then 14 else if 4<r.length then 2 else qF [] r
def gg:List (List Att)->Int
 | []=>0
 |r::l=>if XQ r≠0 then XQ r else gg l
def uB (l:List (List Att)):Int:=if 8<l.length then 2 else gg l
def BdA (B:Nat) (a:Att):Prop:=a.wh.length<=B∧a.vk.length<=B
def BdR (B:Nat) (r:List Att):Prop:=r.length<=B∧∀a∈r,BdA B a
def BdN (B:Nat) (l:List (List Att)):Prop:=l.length<=B∧∀r∈l,BdR B r
def JV {α:Type} {l:List α} {i:Nat} (h:i<l.length):l.take (i+1)=l.take i ++ [l[i]]:=by
 rw [List.take_add_one,iK h]; rfl
def cN {n:Nat} (p:List Att) (a:Att) (f:p.length<=1000000):∀(k j:Nat),j<=p.length->p.length-j<k->xq n p a k (j:Int)=some (if((p.drop j).any fun b=>b.wh==a.wh)=true then .ret 10 else .nxt ())
 |0,j,_,h=>O0
 | k + 1,j,g,i=>by
  rw [xq]
  by_cases e:j<p.length
  ·rw [iI O4,xa e,iM e,List.any_cons];simp only [iG]
   by_cases c:(p[j].wh==a.wh)=true
   ·rw [iI c,c]; rfl
   ·rw [iH c,w1 O0,cN p a f k (j+1) O0 O0];rw [Bool.not_eq_true]at c;rw [c,Bool.false_or]
  ·rw [iH O4];have:j=p.length:=O0;subst this;simp
def cH {n B:Nat} (r:List Att) (g:BdR B r) (o:B<=1000000) (p:B+100<=n):∀(k i:Nat),i<=r.length->r.length-i<k->xb (yH n r k (i:Int)) (fun x=>some x) (fun _=>some 0)=some (qF (r.take i) (r.drop i))
 |0,i,_,h=>O0
 | k+1,i,s,t=>by
  have v:=g.1;rw [yH]
  by_cases j:i<r.length
  ·have f:=g.2 r[i] O2;rw [iI O4,xa j,iM j,qF];simp only [iG];rw [XG (by have:=f.1; omega) (by have:=f.1; omega),Du (by have:=f.2; omega) (by have:=f.2; omega)];simp only [iG];unfold Q2
   by_cases a:(kQ (r[i]).wh).isSome=false
   ·rw [iI a,iI (by rw [a]; rfl)]; rfl
   rw [iH a,iH (O7 a)];rw [ifb];simp only [iG]
   by_cases c:(r[i]).vk= []∨Yn (r[i]).yF (r[i]).vk=false
   ·rw [iI c,iI (O7 c)]; rfl
   rw [iH c,iH (O7 c)]
   by_cases l:64<(r[i]).vk.length
   ·rw [iI l,iI O4]; rfl
   rw [iH l,iH O4];have q:lsl r 0 (i:Int)=some (r.take i):=by unfold lsl; rw [iI ⟨O0,O0,O0⟩]; simp
   rw [q];simp only [iG];have m:=cN (n:=n) (r.take i) r[i] (by rw [List.length_take]; omega) n 0 O0 (by rw [List.length_take]; omega);rw [show((0:Nat):Int)=0 from rfl,List.drop_zero]at m;rw [m]
   by_cases e:((r.take i).any fun b=>b.wh==(r[i]).wh)=true
   ·rw [iI e,iI e]; rfl
   rw [iH e,iH e];rw [iH (show ¬((0:Int)≠0)by simp)];show xb (yH n r k (wrap .i64 ((i:Int)+1))) (fun x=>some x) (fun _=>some 0)=_;rw [w1 O0,cH r g o p k (i+1) O0 O0,JV j]
  ·rw [iH O4];have:i=r.length:=O0;subst this;simp [xb,qF]
def zeL {n B:Nat} {r:List Att} (c:BdR B r) (e:B<=1000000) (f:B+100<=n):wJ n r=some (XQ r):=by
 unfold wJ XQ;have g:=c.1
 by_cases a:r= []
 ·subst a; rfl
 rw [iH (O7 a),iH a]
 by_cases b:4<r.length
 ·rw [iI O4,iI b]
 rw [iH O4,iH b];have:=cH (n:=n) r c e f n 0 O0 O0;rw [show((0:Nat):Int)=0 from rfl,List.drop_zero,List.take_zero]at this;exact this
def BC {n B:Nat} (l:List (List Att)) (b:BdN B l) (c:B<=1000000) (f:B+100<=n):∀(k i:Nat),i<=l.length->l.length-i<k->xb (vi n ⟨l⟩ k (i:Int)) (fun x=>some x) (fun _=>some 0)=some (gg (l.drop i))
 |0,i,_,h=>O0
 | k + 1,i,g,j=>by
  have m:=b.1;rw [vi]
  by_cases e:i<l.length
  ·rw [iI (by rw [iJ]; show(i:Int)<(l.length:Int); omega)];simp only [xa e,iG];rw [iM e,gg,zeL (b.2 l[i] O2) c f];simp only [iG]
   by_cases a:XQ l[i]≠0
   ·rw [iI a,iI (O7 a)]; rfl
   ·rw [iH a,iH (O7 a),w1 O0];exact BC l b c f k (i+1) O0 O0
  ·rw [iH (by rw [iJ]; show ¬(i:Int)<(l.length:Int); omega)];have:i=l.length:=O0;subst this;simp [xb,gg]
def zaz {n B:Nat} {l:List (List Att)} (b:BdN B l) (c:B<=1000000) (e:B+100<=n):um n ⟨l⟩=some (uB l):=by
 unfold um uB;have f:=b.1
 by_cases a:8<l.length
 ·rw [iI (by rw [iJ]; show((l.length:Int)>8); omega),iI a]
 rw [iH (by rw [iJ]; show ¬((l.length:Int)>8); omega),iH a];have:=BC (n:=n) l b c e n 0 O0 O0;rw [show((0:Nat):Int)=0 from rfl,List.drop_zero]at this;exact this
def cJ {n:Nat} (r:List Att) (a:Att) (g:r.length<=1000000) (i:Nat) (hi:i<=r.length):∀(k j:Nat),j<=i->i-j<k->zZ n (i:Int) r a k (j:Int)=some (if(((r.take i).drop j).any fun b=>b.wh==a.wh)=true then .ret 10 else .nxt ())
 |0,j,_,h=>O0
 | k + 1,j,m,o=>by
  rw [zZ]
  by_cases l:j<i
  ·have e:j<(r.take i).length:=by rw [List.length_take]; omega
   have f:(r.take i)[j]=r[j]:=O2;rw [iI O4,xa O0,iM e,List.any_cons,f];simp only [iG]
   by_cases c:(r[j].wh==a.wh)=true
   ·rw [iI c,c]; rfl
   ·rw [iH c,w1 O0,cJ r a g i hi k (j+1) O0 O0];rw [Bool.not_eq_true]at c;rw [c,Bool.false_or]
  ·rw [iH O4];have:j=i:=O0;subst this;rw [List.drop_eq_nil_of_le (by rw [List.length_take]; omega)];rfl
def P9 {n B:Nat} (r:List Att) (g:BdR B r) (o:B<=1000000) (p:B+100<=n):∀(k i:Nat),i<=r.length->r.length-i<k->xb (zT n r k (i:Int)) (fun x=>some x) (fun _=>some 0)=some (qF (r.take i) (r.drop i))
 |0,i,_,h=>O0
 | k+1,i,q,s=>by
  have t:=g.1;rw [zT]
  by_cases j:i<r.length
  ·have f:=g.2 r[i] O2;rw [iI O4,xa j,iM j,qF];simp only [iG];rw [pa (by have:=f.1; omega) (by have:=f.1; omega),Jb (by have:=f.2; omega) (by have:=f.2; omega)];simp only [iG];unfold Q2
   by_cases a:(kQ (r[i]).wh).isSome=false
   ·rw [iI a,iI (by rw [a]; rfl)]; rfl
   rw [iH a,iH (O7 a)];rw [ifb];simp only [iG]
   by_cases c:(r[i]).vk= []∨Yn (r[i]).yF (r[i]).vk=false
   ·rw [iI c,iI (O7 c)]; rfl
   rw [iH c,iH (O7 c)]
   by_cases l:64<(r[i]).vk.length
   ·rw [iI l,iI O4]; rfl
   rw [iH l,iH O4];have m:=cJ (n:=n) r r[i] O0 i O0 n 0 O0 O0;rw [show((0:Nat):Int)=0 from rfl,List.drop_zero]at m;rw [m]
   by_cases e:((r.take i).any fun b=>b.wh==(r[i]).wh)=true
   ·rw [iI e,iI e]; rfl
   rw [iH e,iH e];rw [iH (show ¬((0:Int)≠0)by simp)];show xb (zT n r k (wrap .i64 ((i:Int)+1))) (fun x=>some x) (fun _=>some 0)=_;rw [w1 O0,P9 r g o p k (i+1) O0 O0,JV j]
  ·rw [iH O4];have:i=r.length:=O0;subst this;simp [xb,qF]
def zdQ {n B:Nat} {r:List Att} (a:BdR B r) (b:B<=1000000) (c:B+100<=n):yS n r=some (qF [] r):=by
 unfold yS;have e:=a.1;have:=P9 (n:=n) r a b c n 0 O0 O0;rw [show((0:Nat):Int)=0 from rfl,List.drop_zero,List.take_zero]at this;exact this
def BW {n B:Nat} (l:List (List Att)) (c:BdN B l) (f:B<=1000000) (j:B+100<=n):∀(k i:Nat),i<=l.length->l.length-i<k->xb (yA n ⟨l⟩ k (i:Int)) (fun x=>some x) (fun _=>some 0)=some (gg (l.drop i))
 |0,i,_,h=>O0
 | k + 1,i,m,o=>by
  have p:=c.1;rw [yA]
  by_cases g:i<l.length
  ·rw [iI (by rw [iJ]; show(i:Int)<(l.length:Int); omega)];simp only [xa g,iG];rw [iM g,gg,zdQ (c.2 l[i] O2) f j];simp only [iG];unfold XQ
   by_cases a:l[i]= []
   ·rw [iI (by rw [a]; rfl),iI a,iI O1]; rfl
   rw [iH (O7 a),iH a]
   by_cases e:4<(l[i]).length
   ·rw [iI O4,iI e,iI O1]; rfl
   rw [iH O4,iH e]
   by_cases b:qF [] l[i]≠0
   ·rw [iI b,iI (O7 b)]; rfl
   ·rw [iH b,iH (O7 b),w1 O0];exact BW l c f j k (i+1) O0 O0
  ·rw [iH (by rw [iJ]; show ¬(i:Int)<(l.length:Int); omega)];have:i=l.length:=O0;subst this;simp [xb,gg]
def zat {n B:Nat} {l:List (List Att)} (b:BdN B l) (c:B<=1000000) (e:B+100<=n):yh n ⟨l⟩=some (uB l):=by
 unfold yh uB;have f:=b.1
 by_cases a:8<l.length
 ·rw [iI (by rw [iJ]; show((l.length:Int)>8); omega),iI a]
 rw [iH (by rw [iJ]; show ¬((l.length:Int)>8); omega),iH a];have:=BW (n:=n) l b c e n 0 O0 O0;rw [show((0:Nat):Int)=0 from rfl,List.drop_zero]at this;exact this
def okK (k:zR):Bool:= !(decide (k.xd<0)||(decide (k.xd>8)||((k.bC.length:Int) !=16||(k.vK.length:Int) !=16)))
def zd0 {n:Nat} {k:zR}:v6 n k=some (if okK k=true then 0 else 18):=by
 unfold v6 okK;simp only [dro,iG];cases(decide (k.xd<0)||(decide (k.xd>8)||((k.bC.length:Int) !=16||(k.vK.length:Int) !=16)))<;>rfl
def zeG {n:Nat} {k:zR}:xr n k=some (if okK k=true then 0 else 18):=by
 unfold xr okK;simp only [dro,iG];cases(decide (k.xd<0)||(decide (k.xd>8)||((k.bC.length:Int) !=16||(k.vK.length:Int) !=16)))<;>rfl
def BdA.mono {A B:Nat} {a:Att} (hAB:A<=B) (h:BdA A a):BdA B a:=⟨Nat.le_trans h.1 hAB,Nat.le_trans h.2 hAB⟩
def BdR.mono {A B:Nat} {a:List Att} (hAB:A<=B) (h:BdR A a):BdR B a:=⟨Nat.le_trans h.1 hAB,fun x b=>(h.2 x b).mono hAB⟩
def BdN.mono {A B:Nat} {a:List (List Att)} (hAB:A<=B) (h:BdN A a):BdN B a:=⟨Nat.le_trans h.1 hAB,fun x b=>(h.2 x b).mono hAB⟩
abbrev Anc:=zg
def Ys (a:Anc):Int:=if uB a.zL.zu≠0 then uB a.zL.zu else if a.zL.zu= []then 14 else if okK a.xe=true then 0 else 18
def zd9 (a b c:Bool):(if a=true then some true else(if b=true then some true else some c))=some (a||(b||c)):=by cases a<;>cases b<;>rfl
def zdG (a b c d:Bool):(if a=true then some true else(if b=true then some true else(if c=true then some true else some d)))=some (a||(b||(c||d))):=by cases a<;>cases b<;>cases c<;>rfl
def sP {n:Nat} {r:Int} (a:100000<=n):∃s,vd n r=some s∧s.length=32:=by
 unfold vd;rw [show xI n r=some _ from rfl,iG,QF a _ O2 (by simp [b2s])];exact⟨_,rfl,tg _⟩
def zb7 {n:Nat} {d:zc} (h:100000<=n) (hd:w9 d):∃k a,vu n d=some (k,a)∧w9 a:=by
 unfold vu;obtain⟨r,w,b,o,t,l⟩:=wi (n:=n) (k:=50) O1 O1 hd;obtain⟨s,c,A⟩:=sP (n:=n) (r:=r) h;obtain⟨x,e⟩:=nh (s:=s) (i:=0) (j:=16) O0 O0 O0;obtain⟨y,f⟩:=nh (s:=s) (i:=16) (j:=(s.length:Nat)) O0 O0 O0;obtain⟨q,z,g,p,v,m⟩:=wi (n:=n) (k:=9) O1 O1 l;rw [b,iG]; simp only [];rw [c,iG,e,iG,f,iG,g];exact⟨_,_,rfl,m⟩
def bdN (B:Nat) (l:List (List Att)):Bool:=decide (l.length<=B)&&l.all fun r=>decide (r.length<=B)&&r.all fun a=>decide (a.wh.length<=B)&&decide (a.vk.length<=B)
def zce {B:Nat} {l:List (List Att)} (h:bdN B l=true):BdN B l:=by
 simp only [bdN,iF,iJ,List.all_eq_true]at h;exact⟨h.1,fun r b=>⟨(h.2 r b).1,fun a c=>(h.2 r b).2 a c⟩⟩
def Xe {n:Nat} {r:Int} (e:1000<=n) (b:0<=r) (c:r<16):∃x,yL n r=some x∧BdN 252 x.zu:=by
 obtain⟨m,rfl⟩:∃m,n=m+1000:=⟨n-1000,O0⟩
 have h:=List.all_eq_true.1 (show((List.range 16).all fun r:Nat=>match yL (m+1000) (r:Int)with|some x=>bdN 252 x.zu|none=>false)=true by kernel_rfl) r.toNat (by rw [List.mem_range]; omega);rw [show((r.toNat:Nat):Int)=r by omega]at h
 cases a:yL (m+1000) r with
 |none=>rw [a]at h; cases h
 |some x=>rw [a]at h; exact⟨x,rfl,zce h⟩
def si {n:Nat} {d:zc} (hd:w9 d):∃a b,wm n d=some (a,b)∧BdA 252 a∧w9 b:=by
 unfold wm;obtain⟨r,l,c,g,i,f⟩:=wi (n:=n) (k:=12) O1 O1 hd;rw [c,iG]; simp only [];obtain⟨m,rfl⟩:∃m:Nat,r=(m:Int):=⟨r.toNat,O0⟩
 have e:m<12:=O0
 match m,e with
 |0,_|1,_|2,_|3,_|4,_|5,_|6,_|7,_|8,_|9,_|10,_|11,_=>exact⟨_,_,rfl,⟨O1,O1⟩,f⟩
 |j+12,h=>omega
def QU {n:Nat}:∀(j k:Nat) (acc:List Att) (L:List Int) (At:Int),j<k->acc.length+j<=100->(∀a∈acc,BdA 252 a)->w9 ⟨L,At⟩ ->
  ∃acc' L' At',xk n k acc (j:Int) L At=some (acc',L',At')∧acc'.length<=acc.length+j∧(∀a∈acc',BdA 252 a)∧w9 ⟨L',At'⟩
 |j,0,_,_,_,h,_,_,_=>O0
 | 0,k+1,acc,L,At,_,_,e,hd=>by
  rw [xk,iH O1];exact⟨_,_,_,rfl,O0,e,hd⟩
 | j + 1,k+1,acc,L,At,w,z,e,hd=>by
  rw [xk,iI O4];obtain⟨a,b,q,p,o⟩:=si (n:=n) hd;have ew:wrap .i64 (((j+1:Nat):Int)-1)=(j:Int):=by rw [jn O0]; omega
  have key:∃c,(if((List.length acc:Int)==0)=true then(some true)else((yj acc 0).bind fun x2478=>some (!(x2478.wh==a.wh))))=some c:=by
   refine VS (fun _=>⟨_,rfl⟩) fun h=> ?_;obtain⟨x,t⟩:=pk (s:=acc) (i:=0) O0 (by rw [beq_iff_eq]at h; omega);rw [t]; exact⟨_,rfl⟩
  obtain⟨c,r⟩:=key;rw [q,iG]; simp only [];rw [r,iG,ew]
  cases c with
  | true=>
   rw [iI rfl,vG (by rw [List.length_singleton]; omega),iG,iG]
   obtain ⟨acc',L',At',f,m,g,l⟩:=QU (n:=n) j k (acc ++ [a]) b.f_L b.xh O0 (by rw [iO,List.length_singleton]; omega) (by
    intro y v; rcases List.mem_append.1 v with h|h
    ·exact e y h
    ·rw [List.mem_singleton]at h; subst h; exact p) o
   exact⟨acc',L',At',f,by rw [iO,List.length_singleton]at m; omega,g,l⟩
  | false=>
   rw [iH O2,iG];obtain⟨acc',L',At',f,m,g,l⟩:=QU (n:=n) j k acc b.f_L b.xh O0 O0 e o;exact⟨acc',L',At',f,O0,g,l⟩
def ef {n:Nat} (o:1000<=n):∀(j k:Nat) (acc:List (List Att)) (L:List Int) (At:Int),j<k->acc.length+j<=100->(∀r∈acc,BdR 252 r)->w9 ⟨L,At⟩ ->
  ∃acc' L' At',xj n k (j:Int) L At acc=some (L',At',acc')∧acc'.length<=acc.length+j∧(∀r∈acc',BdR 252 r)∧w9 ⟨L',At'⟩
 |j,0,_,_,_,h,_,_,_=>O0
 | 0,k+1,acc,L,At,_,_,a,hd=>by
  rw [xj,iH O1];exact⟨_,_,_,rfl,O0,a,hd⟩
 | j+1,k+1,acc,L,At,B,C,a,hd=>by
  rw [xj,iI O4];obtain⟨r,b,c,z,A,s⟩:=wi (n:=n) (k:=5) O1 O1 hd;have ew:wrap .i64 (((j+1:Nat):Int)-1)=(j:Int):=by rw [jn O0]; omega
  have ec:∃q:Nat,q<=2∧wrap .i64 ((1:Int)+wrap .i64 (Int.tdiv r 4))=(q:Int):=by
   obtain⟨m,rfl⟩:∃m:Nat,r=(m:Int):=⟨r.toNat,O0⟩
   have l:m<5:=O0
   match m,l with
   |0,_|1,_|2,_|3,_=>exact⟨1,O0,rfl⟩
   |4,_=>exact⟨2,O0,rfl⟩
   |j+5,h=>omega
  obtain⟨q,E,eq⟩:=ec;rw [c,iG]; simp only [];rw [eq];obtain⟨att,L2,At2,e,f,g,i⟩:=QU (n:=n) q n [] b.f_L b.xh O0 O3 O2 s;rw [e,iG]; simp only [];rw [vG (by rw [List.length_singleton]; omega),iG,ew]
  obtain ⟨acc',L',At',t,v,w,x⟩:=ef o j k (acc ++ [att]) L2 At2 O0 (by rw [iO,List.length_singleton]; omega) (by
   intro y p; rcases List.mem_append.1 p with h|h
   ·exact a y h
   ·rw [List.mem_singleton]at h; subst h; exact⟨by simp only [List.length_nil]at f; omega,g⟩) i
  exact⟨acc',L',At',t,by rw [iO,List.length_singleton]at v; omega,w,x⟩
def cF {n:Nat} {d:zc} (e:1000<=n) (hd:w9 d):∃x a,wx n d=some (x,a)∧BdN 252 x.zu∧w9 a:=by
 unfold wx;obtain⟨r,b,c,l,o,f⟩:=wi (n:=n) (k:=4) O1 O1 hd;obtain⟨m,rfl⟩:∃m:Nat,r=(m:Int):=⟨r.toNat,O0⟩
 obtain⟨acc',L',At',g,h,i,j⟩:=ef (n:=n) e m n [] b.f_L b.xh O0 O3 O2 f;rw [c,iG]; simp only [];rw [g];exact⟨_,_,rfl,⟨by show acc'.length<=_; simp only [List.length_nil]at h; omega,i⟩,j⟩
def KX {n:Nat} (r:List Att) (g:r.length<=8):∀(k i:Nat),i<=r.length->r.length-i<k->yp n r k (i:Int)=some (.ret false)∨(yp n r k (i:Int)=some (.nxt ())∧∀a∈r.drop i,BdA 200 a)
 |0,i,_,h=>O0
 | k + 1,i,j,l=>by
  rw [yp]
  by_cases e:i<r.length
  ·rw [iI O4,xa e,iG,ifb,iG]
   by_cases h:(decide ((List.length r[i].wh:Int)>200)||decide ((List.length r[i].vk:Int)>200))=true
   ·rw [iI h]; exact .inl rfl
   ·rw [iH h,w1 O0];rw [Bool.not_eq_true,Bool.or_eq_false_iff,decide_eq_false_iff_not,decide_eq_false_iff_not]at h;rcases KX (n:=n) r g k (i+1) O0 O0 with c|⟨c,f⟩
    ·exact .inl c
    ·refine .inr ⟨c,fun a b=> ?_⟩;rw [iM e]at b;rcases List.mem_cons.1 b with rfl|b
     ·exact⟨O0,O0⟩
     ·exact f a b
  ·rw [iH O4,List.drop_eq_nil_of_le O0];exact .inr ⟨rfl,O2⟩
def K3 {n:Nat} (l:List (List Att)) (m:l.length<=12) (o:1000<=n):∀(k i:Nat),i<=l.length->l.length-i<k->yn n ⟨l⟩ k (i:Int)=some (.ret false)∨(yn n ⟨l⟩ k (i:Int)=some (.nxt ())∧∀r∈l.drop i,BdR 200 r)
 |0,i,_,h=>O0
 | k + 1,i,p,q=>by
  rw [yn]
  by_cases g:i<l.length
  ·rw [iI (by rw [iJ]; show(i:Int)<(l.length:Int); omega)];simp only [xa g,iG]
   by_cases h:l[i].length>8
   ·rw [iI O4]; exact .inl rfl
   ·rw [iH O4];rcases KX (n:=n) l[i] O0 n 0 O0 O0 with b|⟨b,f⟩
    ·rw [show((0:Nat):Int)=0 from rfl]at b;rw [b]; exact .inl rfl
    ·rw [show((0:Nat):Int)=0 from rfl]at b;rw [List.drop_zero]at f;rw [b];simp only [xb];rw [w1 O0];rcases K3 (n:=n) l m o k (i+1) O0 O0 with e|⟨e,j⟩
     ·exact .inl e
     ·refine .inr ⟨e,fun a c=> ?_⟩;rw [iM g]at c;rcases List.mem_cons.1 c with rfl|c
      ·exact⟨O0,f⟩
      ·exact j a c
  ·rw [iH (by rw [iJ]; show ¬(i:Int)<(l.length:Int); omega),List.drop_eq_nil_of_le O0];exact .inr ⟨rfl,O2⟩
def Bq {n:Nat} (l:List (List Att)) (e:1000<=n):∃b,xy n ⟨l⟩=some b∧(b=true->BdN 252 l):=by
 unfold xy
 by_cases h:l.length>12
 ·rw [iI (by rw [iJ]; show(l.length:Int)>12; omega)]; exact⟨false,rfl,fun h=>by cases h⟩
 ·rw [iH (by rw [iJ]; show ¬(l.length:Int)>12; omega)];rcases K3 (n:=n) l O0 e n 0 O0 O0 with a|⟨a,c⟩
  ·rw [show((0:Nat):Int)=0 from rfl]at a;rw [a]; exact⟨false,rfl,fun h=>by cases h⟩
  ·rw [show((0:Nat):Int)=0 from rfl]at a;rw [List.drop_zero]at c;rw [a]; exact⟨true,rfl,fun _=>⟨O0,fun r f=>(c r f).mono O0⟩⟩
def Jg {n:Nat} {x:Int} (h:0<=x∧x<=8):∃s,wH n x=some s∧s.length<=100:=by
 have:x=0∨x=1∨x=2∨x=3∨x=4∨x=5∨x=6∨x=7∨x=8:=O0;rcases this with h|h|h|h|h|h|h|h|h<;>subst h<;>exact⟨_,rfl,O1⟩
def mK {n:Nat}:∀(j k:Nat) (acc:List Bs) (L:List Int) (At:Int),j<k->acc.length+j<=100->(∀s∈acc,s.length<=100)->w9 ⟨L,At⟩ ->
  ∃ps L' At',yO n k acc (j:Int) L At=some (ps,L',At')∧ps.length<=acc.length+j∧(∀s∈ps,s.length<=100)∧w9 ⟨L',At'⟩
 |_,0,_,_,_,h,_,_,_=>O0
 |0,k+1,acc,L,At,_,_,h,hd=>⟨acc,L,At,rfl,O0,h,hd⟩
 | j+1,k+1,acc,L,At,z,w,h,hd=>by
  obtain⟨r,f,o,t,v,p⟩:=wi (n:=n) (k:=5) O1 O1 hd
  have c:∃x,yj ([0,1,2,3,8]:List Int) r=some x∧0<=x∧x<=8:=by
   have:r=0∨r=1∨r=2∨r=3∨r=4:=O0;rcases this with h|h|h|h|h<;>subst h<;>exact⟨_,rfl,O1⟩
  obtain⟨x,c,e⟩:=c;obtain⟨s,q,b⟩:=Jg (n:=n) e;rw [yO,iI O4,o,iG,c,iG,q,iG,vG (by rw [List.length_singleton]; omega),iG,jn O0,show((j+1:Nat):Int)-1=(j:Int)by omega]
  obtain ⟨ps,L',At',g,i,l,m⟩:=mK j k (acc ++ [s]) f.f_L f.xh O0 (by rw [iO,List.length_singleton]; omega) (by
   intro y a; rcases List.mem_append.1 a with a|a
   ·exact h y a
   ·simp at a; subst a; exact b) p
  exact⟨ps,L',At',g,by rw [iO,List.length_singleton]at i; omega,l,m⟩
abbrev Gen:=zb
def BdG (B:Nat) (g:Gen):Prop:=g.wb.length<=B∧BdN B g.zL.zu
abbrev Qry:=zv
def lK {n:Nat} {k:Int} (a:0<=k) (b:k<4):∃x,vA n k=some x∧0<=x∧x<16:=by
 have:k=0∨k=1∨k=2∨k=3:=O0;rcases this with h|h|h|h<;>subst h<;>exact⟨_,rfl,O1⟩
def X5 {n:Nat} {k:Int} (h:100000<=n) (b:0<=k) (c:k<4):∃a,zP n k=some a∧BdN 252 a.zL.zu:=by
 unfold zP;obtain⟨x,ex,f,g⟩:=lK (n:=n) b c;obtain⟨y,ey,ly⟩:=Xe (n:=n) (r:=x) O0 f g
 have e:∃z,jV n k=some z:=by
  have:k=0∨k=1∨k=2∨k=3:=O0;rcases this with rfl|rfl|rfl|rfl
  ·exact Option.isSome_iff_exists.1 (ze0 n)
  ·exact Option.isSome_iff_exists.1 (zdZ n)
  ·exact Option.isSome_iff_exists.1 (zea n)
  ·exact Option.isSome_iff_exists.1 (zdB n)
 obtain⟨z,ez⟩:=e;rw [ex,iG,ey,iG,ez];exact⟨_,rfl,ly⟩
def zaC:List Bs:= [([97,110,110,64,101,120,97,109,112,108,101,46,111,114,103]:List UInt8),([65,78,78,64,101,120,97,109,112,108,101,46,111,114,103]:List UInt8),([97,110,110,64,69,120,97,109,112,108,101,46,79,82,71]:List UInt8),([98,46,99,64,109,97,105,108,46,101,120,97,109,112,108,101,46,111,114,103]:List UInt8),([120,64,111,114,103]:List UInt8),([97,39,98,64,97,46,98]:List UInt8)]
def zdh:List Bs:= [([101,120,97,109,112,108,101,46,111,114,103]:List UInt8),([119,119,119,46,101,120,97,109,112,108,101,46,111,114,103]:List UInt8),([87,87,87,46,69,120,97,109,112,108,101,46,111,114,103]:List UInt8),([42,46,101,120,97,109,112,108,101,46,111,114,103]:List UInt8),([97,46,98]:List UInt8),([111,114,103]:List UInt8),([109,121,101,120,97,109,112,108,101,46,111,114,103]:List UInt8)]
def ips:List Bs:= [([10,0,0,1]:List UInt8),([10,1,2,3]:List UInt8),([192,168,1,7]:List UInt8),([32,1,13,184,0,0,0,0,0,0,0,0,0,0,0,1]:List UInt8)]
def mT (n:Nat) (g:Gen):Prop:=BdG 252 g
def V5 {n:Nat} {kd r:Int} {l:List Bs} (h:(l.all fun s=>decide (s.length<=252))=true) (a:0<=r) (b:r<(l.length:Int)):∃x,yj l r=some x∧mT n ⟨kd,x,⟨[]⟩⟩:=by
 obtain⟨x,ex⟩:=pk (s:=l) (i:=r) a b
 have c:x∈l:=by
  unfold yj at ex;rw [iI a]at ex;exact iQ ex
 exact⟨x,ex,of_decide_eq_true (List.all_eq_true.1 h x c),O2,O2⟩
def ow {n:Nat} {l:List (List Att)} (h:BdN 252 l):mT n ⟨4,[],⟨l⟩⟩:=⟨O2,h⟩
def DR {n:Nat} {d:zc} (y:100000<=n) (hd:w9 d):∃g q,xl n d=some (g,q)∧mT n g∧w9 q:=by
 unfold xl;obtain⟨r,w,s,t,v,i⟩:=wi (n:=n) (k:=4) O1 O1 hd;rw [s,iG]; simp only []
 by_cases m:(r==0)=true
 ·rw [iI m];obtain⟨h,j,b,e,a,c⟩:=wi (n:=n) (k:=6) O1 O1 i;obtain⟨x,ex,f⟩:=V5 (n:=n) (kd:=1) (l:=zaC) O1 e (show h<((6:Nat):Int)from a);rw [b,iG]; simp only [];unfold zaC at ex; rw [ex];exact⟨_,_,rfl,f,c⟩
 ·rw [iH m]
  by_cases o:(r==1)=true
  ·rw [iI o];obtain⟨h,j,b,e,a,c⟩:=wi (n:=n) (k:=7) O1 O1 i;obtain⟨x,ex,f⟩:=V5 (n:=n) (kd:=2) (l:=zdh) O1 e (show h<((7:Nat):Int)from a);rw [b,iG]; simp only [];unfold zdh at ex; rw [ex];exact⟨_,_,rfl,f,c⟩
  ·rw [iH o]
   by_cases p:(r==2)=true
   ·rw [iI p];obtain⟨h,j,b,e,a,c⟩:=wi (n:=n) (k:=4) O1 O1 i;obtain⟨x,ex,f⟩:=V5 (n:=n) (kd:=7) (l:=ips) O1 e (show h<((4:Nat):Int)from a);rw [b,iG]; simp only [];unfold ips at ex; rw [ex];exact⟨_,_,rfl,f,c⟩
   ·rw [iH p];obtain⟨x,j,b,a,c⟩:=cF (n:=n) O0 i;rw [b];exact⟨_,_,rfl,ow a,c⟩
def Z6 {n:Nat} {v:List Bs} {x:Bs} (a:v.length<=100):∀(j k:Nat) (b:Bool),j<=v.length->j<k->∃r,yY n v x k b ((v.length-j:Nat):Int)=some r
 |j,0,_,_,h=>O0
 | 0,k+1,b,_,_=>by
  rw [yY,iH O4];exact⟨_,rfl⟩
 | j+1,k+1,b,c,e=>by
  rw [yY,iI O4];obtain⟨y,ey⟩:=pk (s:=v) (i:=((v.length-(j+1):Nat):Int)) O0 O0;rw [ey,iG,jn O0,show((v.length-(j+1):Nat):Int)+1=((v.length-j:Nat):Int)by omega]
  cases b with
  |true=>rw [iI rfl,iG]; exact Z6 a j k _ O0 O0
  |false=>rw [iH O1,iG]; exact Z6 a j k _ O0 O0
def YE {n:Nat} {a:List Bs} (g:200<=n) (f:a.length<=50) (e:∀s∈a,s.length<=100):∀(j k:Nat) (v:List Bs),j<=a.length->j<k->v.length<=a.length-j->(∀s∈v,s.length<=100) ->
  ∃r,yW n a k v ((a.length-j:Nat):Int)=some r∧r.length<=a.length∧∀s∈r,s.length<=100
 |j,0,_,_,h,_,_=>O0
 | 0,k+1,v,_,_,l,c=>by
  rw [yW,iH O4];exact⟨_,rfl,O0,c⟩
 | j+1,k+1,v,m,o,l,c=>by
  rw [yW,iI O4];obtain⟨y,ey⟩:=pk (s:=a) (i:=((a.length-(j+1):Nat):Int)) O0 O0
  have ly:y.length<=100:=by
   unfold yj at ey;rw [iI O0]at ey;exact e y (iQ ey)
  obtain⟨b,eb⟩:=Z6 (n:=n) (v:=v) (x:=y) O0 v.length n false O0 O0;rw [show((v.length-v.length:Nat):Int)=0 by omega]at eb;rw [ey,iG,eb,iG];rw [jn (x:=((a.length-(j+1):Nat):Int)+1) O0,show((a.length-(j+1):Nat):Int)+1=((a.length-j:Nat):Int)by omega]
  cases b with
  | true=>
   rw [iH O1,iG];exact YE g f e j k v O0 O0 O0 c
  | false=>
   rw [iI O1,vG (by rw [List.length_singleton]; omega),iG,iG];refine YE g f e j k (v ++ [y]) O0 O0 (by rw [iO,List.length_singleton]; omega) fun s h=> ?_;rcases List.mem_append.1 h with h|h
   ·exact c s h
   ·rw [List.mem_singleton]at h; subst h; exact ly
def sD {n:Nat} {a:List Bs} (g:200<=n) (f:a.length<=50) (h:∀s∈a,s.length<=100):∃r,wV n a=some r∧r.length<=a.length∧∀s∈r,s.length<=100:=by
 unfold wV;obtain⟨r,e,b,c⟩:=YE g f h a.length n [] O0 O0 O2 O2;rw [show((a.length-a.length:Nat):Int)=0 by omega]at e;rw [e];exact⟨r,rfl,b,c⟩
def rB {n:Nat} {d:zc} (l:10<=n) (hd:w9 d):∃ps a,wo n 3 d=some (ps,a)∧ps.length<=3∧(∀s∈ps,s.length<=100)∧w9 a:=by
 unfold wo;obtain⟨r,a,g,i,j,h⟩:=wi (n:=n) (k:=4) O1 O1 hd;rw [show wrap .i64 ((3:Int)+1)=4 from rfl,g,iG];obtain⟨ps,L',At',b,c,e,f⟩:=mK (n:=n) r.toNat n [] a.f_L a.xh O0 O3 O2 h;rw [show((r.toNat:Nat):Int)=r by omega]at b;simp only [];rw [b];exact⟨ps,_,rfl,by simp at c; omega,e,f⟩
def qn9 (n:Nat) (a:Int×zc):Option (List Int×Int×Bs×Int×List Gen×List Anc):=(if(a.1==1)=true then(some (a.2.f_L,a.2.xh,([49,46,51,46,54,46,49,46,53,46,53,46,55,46,51,46,49]:List UInt8),0,([]:List zb),([]:List zg)))else(if(a.1==2)=true then(some (a.2.f_L,a.2.xh,([]:List UInt8),1,([]:List zb),([]:List zg)))else(if(a.1==3)=true then((xl n a.2).bind fun b=>
 some (b.2.f_L,b.2.xh,([]:List UInt8),0,([(zb.mk b.1.yF b.1.wb (zJ.mk b.1.zL.zu))]:List zb),([]:List zg)))else(if(a.1==4)=true then((zd n 4 a.2).bind fun g=>
 (zP n g.1).bind fun c=>
 some (g.2.f_L,g.2.xh,([]:List UInt8),0,([]:List zb),([(zg.mk (zJ.mk c.zL.zu) (zR.mk c.xe.xd c.xe.bC c.xe.vK))]:List zg)))else(if(a.1==5)=true then((zd n 4 a.2).bind fun i=>
 (zP n i.1).bind fun e=>
 (zd n 4 i.2).bind fun h=>
 (zP n h.1).bind fun f=>
 some (h.2.f_L,h.2.xh,([]:List UInt8),0,([]:List zb),([(zg.mk (zJ.mk e.zL.zu) (zR.mk e.xe.xd e.xe.bC e.xe.vK)),(zg.mk (zJ.mk f.zL.zu) (zR.mk f.xe.xd f.xe.bC f.xe.vK))]:List zg)))else(some (a.2.f_L,a.2.xh,([]:List UInt8),0,([]:List zb),([]:List zg))))))))
def tO {n:Nat} {k:Int} {d:zc} (e:100000<=n) (hd:w9 d):∃L At pu B nm an,qn9 n (k,d)=some (L,At,pu,B,nm,an)∧w9 ⟨L,At⟩∧pu.length<=100∧(nm.length<=1∧∀g∈nm,mT n g)∧an.length<=2∧∀a∈an,BdN 252 a.zL.zu:=by
 unfold qn9;simp only []
 by_cases j:(k==1)=true
 ·rw [iI j]; exact⟨_,_,_,_,_,_,rfl,hd,O1,⟨O2,O2⟩,O2,O2⟩
 rw [iH j]
 by_cases l:(k==2)=true
 ·rw [iI l]; exact⟨_,_,_,_,_,_,rfl,hd,O1,⟨O2,O2⟩,O2,O2⟩
 rw [iH l]
 by_cases m:(k==3)=true
 ·rw [iI m];obtain⟨g,q,b,w,c⟩:=DR (n:=n) e hd;rw [b];exact⟨_,_,_,_,_,_,rfl,c,O1,⟨O2,by simpa using w⟩,O2,O2⟩
 rw [iH m]
 by_cases o:(k==4)=true
 ·rw [iI o];obtain⟨r,q,b,f,h,c⟩:=wi (n:=n) (k:=4) O1 O1 hd;obtain⟨x,ex,i⟩:=X5 (n:=n) e f h;rw [b,iG]; simp only []; rw [ex];exact⟨_,_,_,_,_,_,rfl,c,O1,⟨O2,O2⟩,O2,by simpa using i⟩
 rw [iH o]
 by_cases p:(k==5)=true
 ·rw [iI p];obtain⟨r,q,b,f,h,c⟩:=wi (n:=n) (k:=4) O1 O1 hd;obtain⟨x,ex,i⟩:=X5 (n:=n) e f h;obtain⟨E,C,v,s,t,A⟩:=wi (n:=n) (k:=4) O1 O1 c;obtain⟨y,ey,z⟩:=X5 (n:=n) e s t;rw [b,iG]; simp only []; rw [ex,iG,v,iG]; simp only []; rw [ey];exact⟨_,_,_,_,_,_,rfl,A,O1,⟨O2,O2⟩,O2,by simpa using ⟨i,z⟩⟩
 rw [iH p];exact⟨_,_,_,_,_,_,rfl,hd,O1,⟨O2,O2⟩,O2,O2⟩
def nX {n:Nat} {d:zc} (r:100000<=n) (hd:w9 d):∃t pu p ps w b2 x nm ml y an q,wI n d=some (t,pu,p,ps,w,b2,x,nm,ml,y,an,q)∧w9 q∧pu.length<=100∧(ps.length<=3∧∀s∈ps,s.length<=100)∧(nm.length<=1∧∀g∈nm,mT n g)∧an.length<=2∧∀a∈an,BdN 252 a.zL.zu:=by
 unfold wI;obtain⟨r1,W,A,_,_,K⟩:=wi (n:=n) (k:=4) O1 O1 hd;obtain⟨r2,X,B,_,_,M⟩:=wi (n:=n) (k:=6) O1 O1 K;obtain⟨r3,Y,C,_,_,N⟩:=wi (n:=n) (k:=6) O1 O1 M;obtain⟨r4,Z,E,_,_,O⟩:=wi (n:=n) (k:=6) O1 O1 N;obtain⟨r5,d5,F,_,_,P⟩:=wi (n:=n) (k:=3) O1 O1 O;obtain⟨U,d6,G,_,_,v⟩:=wi (n:=n) (k:=4) O1 O1 P;rw [A,iG,B,iG,C,iG,E,iG,F,iG,G,iG];simp only []
 by_cases c:(U==1)=true
 ·rw [iI c];obtain⟨ps,d7,H,p7,S,Q⟩:=rB (n:=n) O0 v;obtain⟨ps',I,p8,T⟩:=sD (n:=n) O0 (show ps.length<=50 by omega) S;obtain⟨o,z,b,_,_,m⟩:=wi (n:=n) (k:=8) O1 O1 Q;obtain⟨L,At,pu,p,nm,an,e,f,h,i,j,l⟩:=tO (n:=n) (k:=o) r m;unfold qn9 at e;rw [H,iG]; simp only []; rw [I,iG,b,iG,e];exact⟨_,_,_,_,_,_,_,_,_,_,_,_,rfl,f,h,⟨O0,T⟩,i,j,l⟩
 ·rw [iH c];obtain⟨o,z,b,_,_,m⟩:=wi (n:=n) (k:=8) O1 O1 v;obtain⟨L,At,pu,p,nm,an,e,f,h,i,j,l⟩:=tO (n:=n) (k:=o) r m;unfold qn9 at e;rw [b,iG,e];exact⟨_,_,_,_,_,_,_,_,_,_,_,_,rfl,f,h,⟨O2,O2⟩,i,j,l⟩
def Q5 {α:Type} {b:Nat} {l:List α} {x:α} (h:(l.length+1)*b<=140737488355328):pA b l [x]=some (l ++ [x]):=iI ⟨O2,by simpa using h⟩
end Go.Abs
end
