/- Closed runs. No condition. -/
import Derived.Test.YtkabooclnoiclaaGreatDoorK12
import Derived.Test.YtkabooclnoiclaaGreatDoorH1
set_option linter.all false
section
namespace Go.K
open Go.Abs
noncomputable def KV.free (v:KV):Bool:=KV.rec (motive_1:=fun _=>Bool) (motive_2:=fun _=>Bool) true (fun _=>true) (fun _ _=>true) (fun _ _=>true) (fun _ _=>false) true (fun _ _ _ _ _=>false) true true (fun _ _ _ a b=>a&&b) true (fun _=>false) (fun _ a=>a) (fun _ a=>a) (fun _=>false) true (fun _ _ a=>a) true true (fun _ _ a b=>a&&b) v
noncomputable def KV.frees (l:List KV):Bool:=List.rec (motive:=fun _=>Bool) true (fun v _ a=>v.free&&a) l
def KV.frees_rec:∀l:List KV,(KV.rec_1 (motive_1:=fun _=>Bool) (motive_2:=fun _=>Bool) true (fun _=>true) (fun _ _=>true) (fun _ _=>true) (fun _ _=>false) true (fun _ _ _ _ _=>false) true true (fun _ _ _ a b=>a&&b) true (fun _=>false) (fun _ a=>a) (fun _ a=>a) (fun _=>false) true (fun _ _ a=>a) true true (fun _ _ a b=>a&&b) l:Bool)=KV.frees l
 | []=>rfl
 | v::l=>by
  have:KV.frees (v::l)=(v.free&&KV.frees l):=rfl;rw [this,<-KV.frees_rec l]; rfl
def KV.frees_mem:∀ {l:List KV} (h:KV.frees l=true) {i:Nat} {v:KV},l[i]? =some v->v.free=true
 | [],h,i,v,e=>by simp at e
 | x::l,h,i,v,e=>by
  have h:(x.free&&KV.frees l)=true:=h;rw [iF]at h
  cases i with
  |zero=>simp at e; subst e; exact h.1
  |succ i=>exact KV.frees_mem h.2 (by simpa using e)
def KR.free {G:Gh} (G':Gh) {v:KV} {c:Value} (k:KR G v c):v.free=true->KR G' v c:=by
 induction k with
 |junk c=>exact fun _=> .junk c
 |bool b=>exact fun _=> .bool b
 |int k n=>exact fun _=> .int k n
 |str s=>exact fun _=> .str s
 |ptr a=>exact fun h=>by cases h
 |nilp=>exact fun _=> .nilp
 |sl a l r c=>exact fun h=>by cases h
 |slz a c=>exact fun _=> .slz a c
 |nilsl=>exact fun _=> .nilsl
 | @func fn m o y z t _ w _ p q=>
  intro h;have h:((KV.rec_1 (motive_1:=fun _=>Bool) (motive_2:=fun _=>Bool) true (fun _=>true) (fun _ _=>true) (fun _ _=>true) (fun _ _=>false) true (fun _ _ _ _ _=>false) true true (fun _ _ _ a b=>a&&b) true (fun _=>false) (fun _ a=>a) (fun _ a=>a) (fun _=>false) true (fun _ _ a=>a) true true (fun _ _ a b=>a&&b) m:Bool)&&(KV.rec_1 (motive_1:=fun _=>Bool) (motive_2:=fun _=>Bool) true (fun _=>true) (fun _ _=>true) (fun _ _=>true) (fun _ _=>false) true (fun _ _ _ _ _=>false) true true (fun _ _ _ a b=>a&&b) true (fun _=>false) (fun _ a=>a) (fun _ a=>a) (fun _=>false) true (fun _ _ a=>a) true true (fun _ _ a b=>a&&b) o:Bool))=true:=h;rw [KV.frees_rec,KV.frees_rec,iF]at h;exact .func t (fun i v c e f=>p i v c e f (KV.frees_mem h.1 e)) w (fun i v c e f=>q i v c e f (KV.frees_mem h.2 e))
 |nilfunc=>exact fun _=> .nilfunc
 |yield a=>exact fun h=>by cases h
 | @agg g c l _ i=>
  intro h;have h:(KV.rec_1 (motive_1:=fun _=>Bool) (motive_2:=fun _=>Bool) true (fun _=>true) (fun _ _=>true) (fun _ _=>true) (fun _ _=>false) true (fun _ _ _ _ _=>false) true true (fun _ _ _ a b=>a&&b) true (fun _=>false) (fun _ a=>a) (fun _ a=>a) (fun _=>false) true (fun _ _ a=>a) true true (fun _ _ a b=>a&&b) g:Bool)=true:=h;rw [KV.frees_rec]at h;exact .agg l fun j v x e f=>i j v x e f (KV.frees_mem h e)
 | @tuple g c l _ i=>
  intro h;have h:(KV.rec_1 (motive_1:=fun _=>Bool) (motive_2:=fun _=>Bool) true (fun _=>true) (fun _ _=>true) (fun _ _=>true) (fun _ _=>false) true (fun _ _ _ _ _=>false) true true (fun _ _ _ a b=>a&&b) true (fun _=>false) (fun _ a=>a) (fun _ a=>a) (fun _=>false) true (fun _ _ a=>a) true true (fun _ _ a b=>a&&b) g:Bool)=true:=h;rw [KV.frees_rec]at h;exact .tuple l fun j v x e f=>i j v x e f (KV.frees_mem h e)
 |map a=>exact fun h=>by cases h
 |nilmap=>exact fun _=> .nilmap
 |iface _ i=>exact fun h=> .iface (i h)
 |niliface=>exact fun _=> .niliface
def KRs.free {G:Gh} (G':Gh) {a:List KV} {cs:Array Value} (k:KRs G a cs) (h:KV.frees a=true):KRs G' a cs:=
 ⟨k.1,fun i v c b e=>(k.2 i v c b e).free G' (KV.frees_mem h b)⟩
def KRel.keep {B:xi} {G:Gh} {h:KH} {w w':World} {I:Nat->Nat->Option V} (r:KRel B G h w) (k:ZU ⟨w,fun _=>False,I⟩ w'):KRel B G h w' where
 kept:=r.kept.step k.os k.tape k.output k.size fun b i _=>k.heap b i (fun h=>h)
 blk:=fun id o e=>by
  obtain⟨b,kk,ob,a,c,f,g⟩:=r.blk id o e;exact⟨b,kk,ob,a,c,(k.heap b (r.lt _ _ _ a).1 (fun h=>h)).trans f,g⟩
 lt:=fun id b kk e=>⟨Nat.lt_of_lt_of_le (r.lt id b kk e).1 k.size,(r.lt id b kk e).2⟩
 sep:=r.sep
 top:=r.top
 res:=r.res
structure zc5 (P:Program) (h0:KH):Prop where
 top:h0.next<65000
 glob:P.globals.size<=h0.next
 ro:∀id o,h0.get id=some o->id<h0.next∧∃cs,o= .cells true cs∧KV.frees cs=true
def zc9 (a h:KH):Prop:=∀id o,a.get id=some o->h.get id=some o
def KCall.memo {P:Program} {f:FuncId} {args:List KV} {a m h:KH} {r:KV} (k:KCall P f args a r m) (s:zc5 P a) (W:zc9 a h) (Q:KV.frees args=true) (X:r.free=true):KCall P f args h r h:=by
 intro B G w l n T kr hargs;let G':Gh:=⟨fun id=>if id<a.next then G.at_ id else none,G.room⟩
 have p:∀ {id x},id<a.next->G.at_ id=some x->G'.at_ id=some x:=fun {id x} U e=>by show(if id<a.next then G.at_ id else none)=_; rw [iI U,e]
 have q:∀ {id x},G'.at_ id=some x->id<a.next∧G.at_ id=some x:=fun {id x} e=>by
  have e:(if id<a.next then G.at_ id else none)=some x:=e;split at e
  ·exact⟨by assumption,e⟩
  ·cases e
 have kr':KRel ⟨w,fun _=>False,fun _ _=>none⟩ G' a w:={
  kept:= .refl _ _ _
  blk:=fun id o e=>by
   obtain⟨C,Y,rfl,S⟩:=s.ro id o e;obtain⟨b,kk,ob,y,E,L,M⟩:=kr.blk id _ (W _ _ e);refine⟨b,kk,ob,p C y,(fun h=>by cases h),L, ?_⟩
   cases M with
   |cells F H I K=>exact .cells F H I fun i v c m z=>(K i v c m z).free G' (KV.frees_mem S m)
  lt:=fun id b kk e=>by
   obtain⟨m,z⟩:=q e;exact⟨(kr.lt _ _ _ z).1,m⟩
  sep:=fun i j oi oj b ki kj y E _ _=> .inr (by
   obtain⟨_,_,rfl,_⟩:=s.ro _ _ y;obtain⟨_,_,rfl,_⟩:=s.ro _ _ E
   exact⟨rfl,rfl⟩)
  top:=s.top
  res:=fun _ _ _ _ _ _=> .inl rfl}
 have A:Glob P G':=fun g t=>p (Nat.lt_of_lt_of_le t s.glob) (T g t);refine(k ⟨w,fun _=>False,fun _ _=>none⟩ G' w l n A kr' (hargs.free G' Q)).mono ?_;rintro en w1 ⟨c,G2,rfl,Z,N,O⟩;exact⟨c,G,rfl, .refl _,N.free G X,kr.keep O.kept⟩
def DO (w:World) (b i:Nat):Option V:=match w.cell? ⟨b,i,none⟩with
 |some (.string s)=>some (.str s.data.toList)
 |some (.int k n)=>some (.int k n)
 |some (.bool x)=>some (.bool x)
 |_=>none
def rU {w:World} {b i:Nat} {v:V} {G:Go.Abs.Gh} (h:DO w b i=some v):V.pcell v=true∧∃c,w.cell? ⟨b,i,none⟩=some c∧VR G v c:=by
 unfold DO at h;split at h<;>first|(cases h; done)|skip
 ·rename_i s e; cases h; exact⟨rfl,_,e, .str s⟩
 ·rename_i k n e; cases h; exact⟨rfl,_,e, .int k n⟩
 ·rename_i x e; cases h; exact⟨rfl,_,e, .bool x⟩
def J1 (w:World):Go.Abs.Gh:=⟨DO w,fun _=>none,fun _ _=>none,fun _=>0⟩
def n7 (w:World):Rel (fun _=> []) ⟨w,fun _=>False,DO w⟩ (J1 w) ⟨[],[]⟩ w where
 below:= .refl _ _ _
 vars:=fun id cells h=>by simp at h
 varlt:=fun id b h=>by simp at h
 sc:=fun id cells h=>by simp at h
 disj:=fun i j b ci cj h=>by simp at h
 imm:=fun b i v h=>rU h
 fam:=fun t p b e lim h=>by simp at h
 famdisj:=fun t k p f b e l a c h=>by simp at h
 glob:=fun g i v h=>by simp at h
 gfix:=fun g h=>absurd rfl h
 old:=fun b i _=>rfl
inductive KA (h:KH):KV->V->Prop
 |int (k:IntKind) (n:Int):KA h (.int k n) (.int k n)
 |bool (b:Bool):KA h (.bool b) (.bool b)
 |str (s:List UInt8):KA h (.str s.length (zi s)) (.str s)
 | strs {id off len:Nat} {c:Option Nat} {ro:Bool} {cs:List KV} {es:List (List UInt8)}:h.get id=some (.cells ro cs)->es.length=len->(∀(i:Nat) (s:List UInt8),es[i]? =some s->cs[off+i]? =some (.str s.length (zi s))) ->
   KA h (.sl id off len c 1) (.sl 1 (es.map fun s=> [V.str s]) .none)
def V.toK1:V->KV
 | .int k n=> .int k n
 | .bool b=> .bool b
 | .str s=> .str s.length (zi s)
 |_=> .junk
def V.toK:V->KV
 | .tuple a=> .tuple (a.map V.toK1)
 |v=>V.toK1 v
def eg {G:Go.Abs.Gh} {v:V} {c:Value} (G':Gh) (h:VR G v c):KR G' (V.toK1 v) c:=by
 cases h<;>first|exact .junk _|exact .int _ _|exact .bool _|skip
 rename_i s;have:s.data.toList.length=s.size:=Array.length_toList;show KR G' (.str s.data.toList.length _) _;rw [this]; exact .str s
def zbn {G:Go.Abs.Gh} {v:V} {c:Value} (G':Gh) (h:VR G v c):KR G' (V.toK v) c:=by
 cases h
 case tuple f g=>
  refine .tuple (by simpa using f) fun i x y a b=> ?_;rw [iV]at a;obtain⟨z,e,rfl⟩:=iR.1 a;exact eg G' (g i z y e b)
 case str s=>exact eg (G:=G) G' (.str s)
 all_goals first|exact KR.junk _|exact KR.int _ _|exact KR.bool _
def kr_str {G:Gh} {n m:Nat} {c:Value} (k:KR G (.str n m) c):∃t:ByteArray,c= .string t∧t.size=n∧zi t.data.toList=m:=by
 generalize a:KV.str n m=x at k
 cases k with
 |str s=>injection a with b e; exact⟨s,rfl,b.symm,e.symm⟩
 |_=>cases a
def zcG {B:xi} {G:Gh} {h:KH} {w:World} (kr:KRel B G h w) {x:KV} {v:V} {c:Value} (ka:KA h x v) (k:KR G x c):VR (J1 w) v c:=by
 cases ka with
 |int k n=>cases k; exact .int _ _
 |bool b=>cases k; exact .bool _
 | str s=>
  obtain⟨t,rfl,p,r⟩:=kr_str k;have:t.data.toList=s:=natOf_inj (by rw [Array.length_toList]; exact p) r;rw [<-this]; exact .str t
 | @strs id a len cc ro H y A Q S=>
  subst Q
  cases k with
  | @sl _ _ _ cap _ b o _ P F hroom K=>
   obtain⟨X,kk,ob,p,r,N,O⟩:=kr.blk id _ A;have:=P.symm.trans p;cases this
   cases O with
   | @cells _ _ C Y fz T U W M=>
    have f:(y.map fun s=> [V.str s]).length=y.length:=List.length_map _
    have q:u7 (J1 w) b (o+a) 1 (y.map fun s=> [V.str s]):=by
     intro i e m;rw [iV]at m
     cases l:y[i]? with
     |none=>rw [l]at m; simp at m
     | some s=>
      rw [l]at m;simp only [Option.map_some,iL]at m;subst m;refine⟨rfl,fun j v E=> ?_⟩
      cases j with
      |succ j=>simp at E
      | zero=>
       simp only [List.getElem?_cons_zero,iL]at E;subst E;have z:=S i s l
       have Z:a+i<H.length:=by
        rcases iS (a+i) H.length with h|h
        ·exact h
        ·rw [iN h]at z; cases z
       have I:o+(a+i)<C.size:=by omega
       have L:=M (a+i) _ C[o+(a+i)] z (by simp [I])
       have g:w.cell? ⟨b,o+a+i*1+0,none⟩=some C[o+(a+i)]:=by
        rw [xR N,show o+a+i*1+0=o+(a+i)by omega];simp [I]
       refine .of ?_;show DO w b (o+a+i*1+0)=some (.str s);unfold DO;rw [g];generalize C[o+(a+i)]=cv at L;obtain⟨t,rfl,p,r⟩:=kr_str L;have:t.data.toList=s:=natOf_inj (by rw [Array.length_toList]; exact p) r;simp only [this]
    have:=VR.sl (G:=J1 w) (tok:= .none) (cap:=cap) q trivial (by rw [f]; exact F);rw [f]at this;exact this
def KCall.ofA {P:Program} {f:FuncId} {args:List KV} {b:List V} {h:KH} {v:V} (s:xO P (fun _=> []) f b ⟨[],[]⟩ fun u _=>u=v) (l:args.length=b.length) (m:∀(i:Nat) (x:KV) (y:V),args[i]? =some x->b[i]? =some y->KA h x y):KCall P f args h (V.toK v) h:=by
 intro B G w a n C kr hargs
 have t:VRs (J1 w) b a:=⟨l▸hargs.1,fun i y c g o=>by
  have:i<args.length:=by
   rcases iS i b.length with h|h
   ·omega
   ·rw [iN h]at g; cases g
  exact zcG kr (m i args[i] y (by simp [this]) g) (hargs.2 i args[i] c (by simp [this]) o)⟩
 have j:V.scs ⟨[],[]⟩ b:=by
  refine(V.scs_iff _ _).2 fun y z=> ?_;obtain⟨i,k,rfl⟩:=List.getElem_of_mem z;have:=m i args[i] b[i] (by simp [l,k]) (by simp [k]);generalize b[i]=y,args[i]=x at this;cases this<;>trivial
 refine callsIn_wide.2 ((s.2 ⟨w,fun _=>False,DO w⟩ (J1 w) w a (n7 w) t j).mono ?_);rintro e E ⟨r,c,A,G2,rfl,rfl,p,_,q,_⟩;exact⟨c,G,rfl, .refl _,zbn G p,kr.keep q.below⟩
noncomputable def oz (X:QX) (n N0:Nat) (f:FuncId) (args:List KV) (h:KH):Option (KV×KH):=
 zq (KV.frees args) (Option.rec (motive:=fun _=>KH->Option (KV×KH)) (fun _=>none) (fun p h=>zq p.1.free (some (p.1,h)) none) ((qgo X n).call f args ⟨N64k.empty,N0⟩ fun v h=>some (v,h)) h) none
def nA {P:Program} {X:QX} (ok:X.Ok P) {n N0:Nat} (g:P.globals.size<=N0) (i:N0<65000) {f:FuncId} {args:List KV} {h h':KH} {v:KV} (e:oz X n N0 f args h=some (v,h')):KCall P f args h v h':=by
 unfold oz at e;rw [zo]at e;split at e
 ·rename_i j
  cases b:(qgo X n).call f args ⟨N64k.empty,N0⟩ (fun v h=>some (v,h))with
  |none=>rw [b]at e; cases e
  | some p=>
   rw [b]at e;have e:zq p.1.free (some (p.1,h)) none=some (v,h'):=e;rw [zo]at e;split at e
   ·rename_i k;cases e;obtain⟨v,c⟩:=p
    have emp:∀id o,(⟨N64k.empty,N0⟩:KH).get id=some o->False:=fun id o a=>by
     have:(⟨N64k.empty,N0⟩:KH).get id=none:=N64k.get_empty _;rw [this]at a; cases a
    exact(qgo_call ok b).memo ⟨i,g,fun id o a=>(emp id o a).elim⟩ (fun id o a=>(emp id o a).elim) j k
   ·cases e
 ·cases e
def pv:Nat->(Nat->Nat)->Nat
 |0,_=>0
 |n+1,f=>f 0+18446744073709551616*pv n fun i=>f (i+1)
def uk:∀n f g,pv n f+pv n g=pv n fun i=>f i+g i
 |0,f,g=>rfl
 |n+1,f,g=>by simp only [pv,<-uk n]; omega
def qw:∀n f c,pv n f*c=pv n fun i=>f i*c
 |0,f,c=>by simp [pv]
 |n+1,f,c=>by simp only [pv,<-qw n,Nat.add_mul,Nat.mul_assoc]
def qR:∀ {n f g},(∀i,i<n->f i=g i)->pv n f=pv n g
 |0,f,g,h=>rfl
 | n+1,f,g,h=>by
  simp only [pv];rw [h 0 (Nat.succ_pos n),qR (n:=n) (g:=fun i=>g (i+1)) fun i a=>h (i+1) (Nat.succ_lt_succ a)]
def Qn (x:Nat) {a:Nat} (h:a<18446744073709551616) (j:Nat):(a+18446744073709551616*x).testBit j=if j<64 then a.testBit j else x.testBit (j-64):=by
 rw [Nat.add_comm,show(18446744073709551616:Nat)=2^64 from rfl];exact Nat.testBit_two_pow_mul_add x h j
def zcE {a b:Nat} (x y:Nat) (c:a<18446744073709551616) (e:b<18446744073709551616):(a+18446744073709551616*x) ^^^ (b+18446744073709551616*y)=(a ^^^ b)+18446744073709551616*(x ^^^ y):=by
 refine Nat.eq_of_testBit_eq fun j=> ?_;rw [Nat.testBit_xor,Qn x c,Qn y e,Qn _ (Nat.xor_lt_two_pow (n:=64) c e)];split<;>rw [Nat.testBit_xor]
def zc8 {a b:Nat} (x y:Nat) (e:a<18446744073709551616) (c:b<18446744073709551616):(a+18446744073709551616*x) &&& (b+18446744073709551616*y)=(a &&& b)+18446744073709551616*(x &&& y):=by
 refine Nat.eq_of_testBit_eq fun j=> ?_;rw [Nat.testBit_and,Qn x e,Qn y c,Qn _ (Nat.and_lt_two_pow (n:=64) _ c)];split<;>rw [Nat.testBit_and]
def pb:∀ {n f g},(∀i,f i<18446744073709551616)->(∀i,g i<18446744073709551616)->pv n f ^^^ pv n g=pv n fun i=>f i ^^^ g i
 |0,f,g,_,_=>by simp [pv]
 | n+1,f,g,a,b=>by
  simp only [pv];rw [zcE _ _ (a 0) (b 0),pb (fun i=>a (i+1)) (fun i=>b (i+1))]
def Yu:∀ {n f g},(∀i,f i<18446744073709551616)->(∀i,g i<18446744073709551616)->pv n f &&& pv n g=pv n fun i=>f i &&& g i
 |0,f,g,_,_=>by simp [pv]
 | n+1,f,g,a,b=>by
  simp only [pv];rw [zc8 _ _ (a 0) (b 0),Yu (fun i=>a (i+1)) (fun i=>b (i+1))]
def zaG {m j:Nat} (b:m<4294967296) (a:32<=j):m.testBit j=false:=Nat.testBit_lt_two_pow (Nat.lt_of_lt_of_le b (Nat.pow_le_pow_right (n:=2) (by decide) a))
def nO {a m:Nat} (x y:Nat) {k:Nat} (h:k<=32) (f:a<18446744073709551616) (e:m<4294967296):((a+18446744073709551616*x) >>> k) &&& (m+18446744073709551616*y)=((a >>> k) &&& m)+18446744073709551616*((x >>> k) &&& y):=by
 have b:m<18446744073709551616:=by omega
 refine Nat.eq_of_testBit_eq fun j=> ?_;rw [Nat.testBit_and,Nat.testBit_shiftRight,Qn x f,Qn y b,Qn _ (Nat.and_lt_two_pow (n:=64) _ b)]
 by_cases g:j<32
 ·rw [iI (by omega),iI (by omega),iI (by omega),Nat.testBit_and,Nat.testBit_shiftRight]
 ·by_cases c:j<64
  ·rw [iI c,iI c,zaG e (by omega),Nat.testBit_and,zaG e (by omega),Bool.and_false,Bool.and_false]
  ·rw [iH (by omega),iH c,iH c,Nat.testBit_and,Nat.testBit_shiftRight,show k+j-64=k+(j-64)by omega]
def Qe {k:Nat} (b:k<=32) {m:Nat} (c:m<4294967296):∀ {n f},(∀i,f i<18446744073709551616)->(pv n f >>> k) &&& pv n (fun _=>m)=pv n fun i=>(f i >>> k) &&& m
 |0,f,_=>by simp [pv]
 | n+1,f,a=>by
  simp only [pv];rw [nO _ _ b (a 0) c,Qe b c (fun i=>a (i+1))]
def nN (x:Nat):x &&& 4294967295=x%4294967296:=Nat.and_two_pow_sub_one_eq_mod x 32
def zbT {n f} (a:∀i,f i<18446744073709551616):pv n f &&& pv n (fun _=>4294967295)=pv n fun i=>f i%4294967296:=by
 rw [Yu a (fun _=>by decide)];simp only [nN]
def lB:∀ {n f},(∀i,f i<18446744073709551616)->pv n f<2^(64*n)
 |0,f,_=>by simp [pv]
 | n+1,f,h=>by
  have a:=h 0;have b:=lB (n:=n) fun i=>h (i+1);have e:2^(64*(n+1))=18446744073709551616*2^(64*n):=by rw [Nat.mul_add,Nat.pow_add,Nat.mul_comm]
  rw [e]; simp only [pv]; omega
end Go.K
end
section
namespace Go.K
open Go Go.Abs
def pkW:List Nat->Nat
 | []=>0
 |x::l=>x+4294967296*pkW l
def Ba:∀(l:List Nat) (y:Nat),pkW (l ++ [y])=pkW l+4294967296^l.length*y
 | [],y=>by simp [pkW]
 | x::l,y=>by
  simp only [List.cons_append,pkW,Ba l y,List.length_cons,Nat.pow_succ,Nat.mul_add,Nat.add_assoc]
  congr 2
  rw [<-Nat.mul_assoc,Nat.mul_comm 4294967296 (4294967296^l.length)]
def Bu:∀(l:List Nat) (i:Nat),(∀x∈l,x<4294967296)->pkW l/4294967296^i%4294967296=l.getD i 0
 | [],i,h=>by simp [pkW]
 | x::l,0,h=>by
  have:=h x (by simp);simp only [pkW,Nat.pow_zero,Nat.div_one,List.getD_cons_zero];omega
 | x::l,i+1,h=>by
  have b:=h x (by simp);have e:(x+4294967296*pkW l)/4294967296=pkW l:=by omega
  rw [pkW,Nat.pow_succ,Nat.mul_comm (4294967296^i) 4294967296,<-Nat.div_div_eq_div_mul,e,List.getD_cons_succ];exact Bu l i fun y a=>h y (List.mem_cons_of_mem _ a)
def Uw {x n:Nat} (i:x<4294967296) (j:n<=32):(x*4294967297)/2^n%4294967296=rot x n:=by
 have a:(4294967296:Nat)=2^n*2^(32-n):=by rw [<-Nat.pow_add,show n+(32-n)=32 by omega]
 have e:x*4294967297=2^n*(x*2^(32-n))+x:=by
  rw [show x*4294967297=x*4294967296+x by omega,a]
  congr 1
  rw [<-Nat.mul_assoc,Nat.mul_comm x,Nat.mul_assoc (2^n)]
 have f:(x*4294967297)/2^n=x*2^(32-n)+x/2^n:=by rw [e,Nat.mul_add_div (Nat.two_pow_pos n)]
 have b:x/2^n<2^(32-n):=by
  rw [Nat.div_lt_iff_lt_mul (Nat.two_pow_pos n),Nat.mul_comm,<-a]; exact i
 have c:x*2^(32-n)%4294967296=2^(32-n)*(x%2^n):=by
  rw [a,Nat.mul_comm x,Nat.mul_comm (2^n),Nat.mul_mod_mul_left]
 have g:(x*2^(32-n)+x/2^n)%4294967296=2^(32-n)*(x%2^n)+x/2^n:=by
  rw [<-Nat.mod_add_mod,c];refine Nat.mod_eq_of_lt ?_;have h:x%2^n<2^n:=Nat.mod_lt _ (Nat.two_pow_pos n)
  calc 2^(32-n)*(x%2^n)+x/2^n<2^(32-n)*(x%2^n)+2^(32-n):=Nat.add_lt_add_left b _
   _=2^(32-n)*(x%2^n+1):=by rw [Nat.mul_add,Nat.mul_one]
   _<=2^(32-n)*2^n:=Nat.mul_le_mul_left _ h
   _=4294967296:=by rw [Nat.mul_comm,<-a]
 rw [f,g,Nat.two_pow_add_eq_or_of_lt b,rot,c,Nat.or_comm]
def ZS (a b:Nat):(a ^^^ b)%4294967296=a%4294967296 ^^^ b%4294967296:=Nat.xor_mod_two_pow (n:=32)
def xN (X i j k:Nat):Nat:=Nat.mod (Nat.xor (Nat.xor (Nat.div X i) (Nat.div X j)) (Nat.div X k)) 4294967296
def yN (X x i j k:Nat):Nat:=Nat.xor (Nat.mod (Nat.xor (Nat.div X i) (Nat.div X j)) 4294967296) (Nat.div x k)
def dbl (x:Nat):Nat:=Nat.mul x 4294967297
def zcV {x:Nat} (h:x<4294967296):xN (dbl x) 64 2048 33554432=bS1 x:=by
 show(((x*4294967297)/2^6 ^^^ (x*4294967297)/2^11) ^^^ (x*4294967297)/2^25)%4294967296=_;rw [ZS,ZS,Uw h (by decide),Uw h (by decide),Uw h (by decide)]; rfl
def zcI {x:Nat} (h:x<4294967296):xN (dbl x) 4 8192 4194304=bS0 x:=by
 show(((x*4294967297)/2^2 ^^^ (x*4294967297)/2^13) ^^^ (x*4294967297)/2^22)%4294967296=_;rw [ZS,ZS,Uw h (by decide),Uw h (by decide),Uw h (by decide)]; rfl
def zcz {x:Nat} (h:x<4294967296):yN (dbl x) x 128 262144 8=sg0 x:=by
 show(((x*4294967297)/2^7 ^^^ (x*4294967297)/2^18)%4294967296) ^^^ x/8=_;rw [ZS,Uw h (by decide),Uw h (by decide)]; rfl
def zcM {x:Nat} (h:x<4294967296):yN (dbl x) x 131072 524288 1024=sg1 x:=by
 show(((x*4294967297)/2^17 ^^^ (x*4294967297)/2^19)%4294967296) ^^^ x/1024=_;rw [ZS,Uw h (by decide),Uw h (by decide)]; rfl
section
variable {R:Type}
noncomputable def rdK (ks:List Nat):Nat->Nat->Nat->Nat->Nat->Nat->Nat->Nat->Nat->(Nat->Nat->Nat->Nat->Nat->Nat->Nat->Nat->R)->R:=
 List.rec (motive:=fun _=>Nat->Nat->Nat->Nat->Nat->Nat->Nat->Nat->Nat->(Nat->Nat->Nat->Nat->Nat->Nat->Nat->Nat->R)->R) (fun _ a b c d e f g h K=>K a b c d e f g h)
  (fun k _ ih W a b c d e f g h K=>nfc (dbl e) fun e2=>nfc (Nat.add (Nat.add (Nat.add (Nat.add h (xN e2 64 2048 33554432)) (Nat.xor (Nat.land e f) (Nat.land (Nat.xor 4294967295 e) g))) k) (Nat.mod W 4294967296)) fun t=>
   nfc (dbl a) fun a2=>nfc (Nat.mod (Nat.add t (Nat.add (xN a2 4 8192 4194304) (Nat.xor (Nat.xor (Nat.land a b) (Nat.land a c)) (Nat.land b c)))) 4294967296) fun na=>nfc (Nat.mod (Nat.add d t) 4294967296) fun ne=>
   nfc (Nat.mod (Nat.div W 4294967296) 4294967296) fun w1=>nfc (dbl w1) fun w12=>nfc (Nat.mod (Nat.div W (Nat.pow 4294967296 14)) 4294967296) fun w14=>nfc (dbl w14) fun w142=>
   nfc (Nat.add (Nat.div W 4294967296) (Nat.mul (Nat.pow 4294967296 15) (Nat.mod (Nat.add (Nat.add (Nat.add (Nat.mod W 4294967296) (yN w12 w1 128 262144 8)) (Nat.mod (Nat.div W (Nat.pow 4294967296 9)) 4294967296)) (yN w142 w14 131072 524288 1024)) 4294967296))) fun W2=>
   ih W2 na a b c ne e f g K) ks
end
def sA {l:List Nat} (a:l.length=16) (b:∀x∈l,x<4294967296):
  Nat.add (Nat.div (pkW l) 4294967296) (Nat.mul (Nat.pow 4294967296 15) (kX l))=pkW (l.drop 1 ++ [kX l]):=by
 match l,a with
 | x::l,a=>
  have c:=b x (by simp);have e:(x+4294967296*pkW l)/4294967296=pkW l:=by omega
  show(x+4294967296*pkW l)/4294967296+4294967296^15*kX (x::l)=_;rw [e,List.drop_one,List.tail_cons,Ba,show l.length=15 by simpa using a]
def lh (x:Nat) (l:List Nat) (h:16<=l.length):kX (x::l)=kX l:=by
 unfold kX;rw [List.length_cons,show l.length+1-16=(l.length-16)+1 by omega,show l.length+1-15=(l.length-15)+1 by omega,show l.length+1-7=(l.length-7)+1 by omega,show l.length+1-2=(l.length-2)+1 by omega];rfl
def Wn:∀(n x:Nat) {l:List Nat} (h:16<=l.length),v8 n (x::l)=x::v8 n l
 |0,x,l,h=>rfl
 | n+1,x,l,h=>by
  rw [v8,v8,lh x l h,List.cons_append,Wn n x (by simp; omega)]
def KU:∀(n:Nat) (l:List Nat),∃r,v8 n l=l++r
 |0,l=>⟨[],by simp [v8]⟩
 | n+1,l=>by
  obtain⟨r,h⟩:=KU n (l ++ [kX l]);exact⟨kX l::r,by rw [v8,h,List.append_assoc]; rfl⟩
def BF:∀(m n:Nat) (l:List Nat),v8 (m+n) l=v8 n (v8 m l)
 |0,n,l=>by simp [v8]
 |m+1,n,l=>by rw [show m+1+n=(m+n)+1 by omega,v8,BF m n]; rfl
def cE:∀(ks ws r:List Nat) (s:H8),ks.length<=ws.length->s.run ks (ws++r)=s.run ks ws
 | [],ws,r,s,h=>by simp [H8.run]
 |k::ks,[],r,s,h=>by simp at h
 | k::ks,w::ws,r,s,h=>by
  rw [List.cons_append,H8.run,H8.run];exact cE ks ws r _ (by simpa using h)
def mR {R:Type} (K:Nat->Nat->Nat->Nat->Nat->Nat->Nat->Nat->R):∀(ks:List Nat) (l:List Nat) (s:H8),l.length=16->(∀x∈l,x<4294967296)->s.lt->∀S:H8,S=s.run ks (v8 ks.length l)->rdK ks (pkW l) s.a s.b s.c s.d s.e s.f s.g s.h K=K S.a S.b S.c S.d S.e S.f S.g S.h
 | [],l,s,a,b,c,S,g=>by subst g; rfl
 | k ::ks,l,s,a,b,c,S,g=>by
  have p:=c.2.2.2.2.1;have o:=c.1;have lane:=fun i=>Bu l i b;have q:Nat.mod (pkW l) 4294967296=l.getD 0 0:=by have:=lane 0; rw [Nat.pow_zero,Nat.div_one]at this; exact this
  have r:Nat.mod (Nat.div (pkW l) 4294967296) 4294967296=l.getD 1 0:=by have:=lane 1; rw [Nat.pow_one]at this; exact this
  have t:Nat.mod (Nat.div (pkW l) (Nat.pow 4294967296 9)) 4294967296=l.getD 9 0:=lane 9;have m:Nat.mod (Nat.div (pkW l) (Nat.pow 4294967296 14)) 4294967296=l.getD 14 0:=lane 14;have n:=ZE b 1;have f:=ZE b 14
  have eN:Nat.mod (Nat.add (Nat.add (Nat.add (l.getD 0 0) (sg0 (l.getD 1 0))) (l.getD 9 0)) (sg1 (l.getD 14 0))) 4294967296=kX l:=by
   show(l.getD 0 0+sg0 (l.getD 1 0)+l.getD 9 0+sg1 (l.getD 14 0))%4294967296=_;unfold kX m32;rw [a];simp only [show 16-16=0 from rfl,show 16-15=1 from rfl,show 16-7=9 from rfl,show 16-2=14 from rfl];omega
  have step:rdK (k::ks) (pkW l) s.a s.b s.c s.d s.e s.f s.g s.h K=rdK ks (pkW (l.drop 1 ++ [kX l])) (s.step k (l.getD 0 0)).a (s.step k (l.getD 0 0)).b (s.step k (l.getD 0 0)).c (s.step k (l.getD 0 0)).d (s.step k (l.getD 0 0)).e (s.step k (l.getD 0 0)).f (s.step k (l.getD 0 0)).g (s.step k (l.getD 0 0)).h K:=by
   unfold rdK;dsimp only;simp only [zH];rw [q,r,t,m,zcV p,zcI o,zcz n,zcM f,eN,sA a b]
   have v:Nat.mod (Nat.add (Nat.add (Nat.add (Nat.add (Nat.add s.h (bS1 s.e)) (Nat.xor (Nat.land s.e s.f) (Nat.land (Nat.xor 4294967295 s.e) s.g))) k) (l.getD 0 0)) (Nat.add (bS0 s.a) (Nat.xor (Nat.xor (Nat.land s.a s.b) (Nat.land s.a s.c)) (Nat.land s.b s.c)))) 4294967296=(s.step k (l.getD 0 0)).a:=by
    show(s.h+bS1 s.e+chN s.e s.f s.g+k+l.getD 0 0+(bS0 s.a+mjN s.a s.b s.c))%4294967296=m32 (tN s k (l.getD 0 0)+m32 (bS0 s.a+mjN s.a s.b s.c));unfold tN m32;omega
   have w:Nat.mod (Nat.add s.d (Nat.add (Nat.add (Nat.add (Nat.add s.h (bS1 s.e)) (Nat.xor (Nat.land s.e s.f) (Nat.land (Nat.xor 4294967295 s.e) s.g))) k) (l.getD 0 0))) 4294967296=(s.step k (l.getD 0 0)).e:=by
    show(s.d+(s.h+bS1 s.e+chN s.e s.f s.g+k+l.getD 0 0))%4294967296=m32 (s.d+tN s k (l.getD 0 0));unfold tN m32;omega
   rw [v,w];rfl
  rw [step];refine mR K ks _ _ (by simp [a]) (fun x h=> ?_) (H8.step_lt c _ _) S ?_
  ·rcases List.mem_append.1 h with h|h
   ·exact b x (List.mem_of_mem_drop h)
   ·simp at h; subst h; exact Vr _
  ·rw [g]
   match l,a with
   | x::j,a=>
    have e:v8 (ks.length+1) (x::j)=x::v8 ks.length (j ++ [kX (x::j)]):=by
     rw [v8,List.cons_append,Wn _ _ (by simp at a ⊢; omega)]
    rw [List.length_cons,e];rfl
def lR (s:H8) (ws:List Nat) (h:ws.length=16):s.run kW (v8 kW.length ws)=s.run kW (v8 48 ws):=by
 rw [show kW.length=48+16 from rfl,BF];obtain⟨r,e⟩:=KU 16 (v8 48 ws);rw [e,cE _ _ _ _ (by rw [Xs,h]; decide)]
noncomputable def sW {R:Type} (W a b c d e f g h:Nat) (K:Nat->Nat->Nat->Nat->Nat->Nat->Nat->Nat->R):R:=
 rdK kW W a b c d e f g h fun a' b' c' d' e' f' g' h'=>nfc (Nat.mod (Nat.add a' a) 4294967296) fun a=>nfc (Nat.mod (Nat.add b' b) 4294967296) fun b=>nfc (Nat.mod (Nat.add c' c) 4294967296) fun c=>nfc (Nat.mod (Nat.add d' d) 4294967296) fun d=>nfc (Nat.mod (Nat.add e' e) 4294967296) fun e=>nfc (Nat.mod (Nat.add f' f) 4294967296) fun f=>nfc (Nat.mod (Nat.add g' g) 4294967296) fun g=>nfc (Nat.mod (Nat.add h' h) 4294967296) fun h=>K a b c d e f g h
def tk {R:Type} (ws:List Nat) (a:ws.length=16) (c:∀x∈ws,x<4294967296) (s:H8) (b:s.lt) (K:Nat->Nat->Nat->Nat->Nat->Nat->Nat->Nat->R):
  sW (pkW ws) s.a s.b s.c s.d s.e s.f s.g s.h K=K (s.block ws).a (s.block ws).b (s.block ws).c (s.block ws).d (s.block ws).e (s.block ws).f (s.block ws).g (s.block ws).h:=by
 unfold sW;rw [mR _ kW ws s a c b (s.run kW (v8 48 ws)) (lR s ws a).symm];simp only [zH]
 have e:∀x y:Nat,Nat.mod (Nat.add x y) 4294967296=m32 (y+x):=fun x y=>by
  show(x+y)%4294967296=m32 (y+x);rw [Nat.add_comm]; rfl
 simp only [e];rfl
def w4K (m:Nat):Nat:=Nat.add (Nat.add (Nat.add (Nat.mul (Nat.mod m 256) 16777216) (Nat.mul (Nat.mod (Nat.div m 256) 256) 65536)) (Nat.mul (Nat.mod (Nat.div m 65536) 256) 256)) (Nat.mod (Nat.div m 16777216) 256)
noncomputable def pbK (n:Nat):Nat->Nat:=Nat.rec (motive:=fun _=>Nat->Nat) (fun _=>0) (fun _ a m=>nfc (Nat.div m 4294967296) fun b=>Nat.add (w4K m) (Nat.mul 4294967296 (a b))) n
def mF:∀(n:Nat) (b:List UInt8),4*n<=b.length->pbK n (zi b)=pkW (z6 (b.take (4*n)))
 |0,b,h=>rfl
 | n+1,x::y::z::w::l,h=>by
  have a:pbK (n+1) (zi (x::y::z::w::l))=nfc (Nat.div (zi (x::y::z::w::l)) 4294967296) fun f=>Nat.add (w4K (zi (x::y::z::w::l))) (Nat.mul 4294967296 (pbK n f)):=rfl;have i:=x.toNat_lt; have j:=y.toNat_lt; have k:=z.toNat_lt; have g:=w.toNat_lt;have en:zi (x::y::z::w::l)=x.toNat+256*(y.toNat+256*(z.toNat+256*(w.toNat+256*zi l))):=rfl
  have c:Nat.div (zi (x::y::z::w::l)) 4294967296=zi l:=by
   show zi (x::y::z::w::l)/4294967296=_;rw [en]; omega
  have e:w4K (zi (x::y::z::w::l))=word4 x.toNat y.toNat z.toNat w.toNat:=by
   show(zi (x::y::z::w::l)%256)*16777216+(zi (x::y::z::w::l)/256%256)*65536+(zi (x::y::z::w::l)/65536%256)*256+zi (x::y::z::w::l)/16777216%256=_;rw [en]; unfold word4; omega
  rw [a,zH,c,e,mF n l (by simp at h; omega),show 4*(n+1)=4*n+1+1+1+1 by omega];rfl
 |n+1,[],h=>by simp at h
 |n+1,[_],h=>by simp at h; try omega
 |n+1,[_,_],h=>by simp at h; try omega
 |n+1,[_,_,_],h=>by simp at h; try omega
section
variable {R:Type}
noncomputable def Px (n:Nat):Nat->Nat->Nat->Nat->Nat->Nat->Nat->Nat->Nat->(Nat->Nat->Nat->Nat->Nat->Nat->Nat->Nat->R)->R:=
 Nat.rec (motive:=fun _=>Nat->Nat->Nat->Nat->Nat->Nat->Nat->Nat->Nat->(Nat->Nat->Nat->Nat->Nat->Nat->Nat->Nat->R)->R) (fun _ a b c d e f g h K=>K a b c d e f g h)
  (fun _ ih M a b c d e f g h K=>nfc (pbK 16 M) fun W=>nfc (Nat.div M (Nat.pow 256 64)) fun M=>sW W a b c d e f g h fun a b c d e f g h=>ih M a b c d e f g h K) n
def Bp (K:Nat->Nat->Nat->Nat->Nat->Nat->Nat->Nat->R):∀(n:Nat) (l:List UInt8) (s:H8),64*n<=l.length->s.lt->∀S:H8,S=H8.blk n s l->Px n (zi l) s.a s.b s.c s.d s.e s.f s.g s.h K=K S.a S.b S.c S.d S.e S.f S.g S.h
 |0,l,s,p,k,S,j=>by subst j; rfl
 | n+1,l,s,p,k,S,j=>by
  have m:Px (n+1) (zi l) s.a s.b s.c s.d s.e s.f s.g s.h K=nfc (pbK 16 (zi l)) fun W=>nfc (Nat.div (zi l) (Nat.pow 256 64)) fun M=>sW W s.a s.b s.c s.d s.e s.f s.g s.h fun a b c d e f g h=>Px n M a b c d e f g h K:=rfl;have o:Nat.div (zi l) (Nat.pow 256 64)=zi (l.drop 64):=(dW l 64).symm;have i:(z6 (l.take 64)).length=16:=X3 _ (by simp; omega);have ep:pbK 16 (zi l)=pkW (z6 (l.take 64)):=mF 16 l (by omega);rw [m,zH,zH,o,ep,tk _ i (dl _) s k];exact Bp K n (l.drop 64) (s.block (z6 (l.take 64))) (by simp; omega) (bI _ _) S j
end
def o4K (x:Nat):Nat:=Nat.add (Nat.mod (Nat.div x 16777216) 256) (Nat.mul 256 (Nat.add (Nat.mod (Nat.div x 65536) 256) (Nat.mul 256 (Nat.add (Nat.mod (Nat.div x 256) 256) (Nat.mul 256 (Nat.mod x 256))))))
def VJ (x:Nat):zi (be4 x)=o4K x:=by
 have h:∀y:Nat,(UInt8.ofNat y).toNat=y%256:=fun y=>by simp [UInt8.toNat_ofNat']
 show(UInt8.ofNat (x/16777216)).toNat+256*((UInt8.ofNat (x/65536)).toNat+256*((UInt8.ofNat (x/256)).toNat+256*((UInt8.ofNat x).toNat+256*0)))=_;rw [h,h,h,h]; rfl
def zbI (a b c d e f g h:Nat):Nat:=Nat.add (o4K a) (Nat.mul 4294967296 (Nat.add (o4K b) (Nat.mul 4294967296 (Nat.add (o4K c) (Nat.mul 4294967296 (Nat.add (o4K d) (Nat.mul 4294967296 (Nat.add (o4K e) (Nat.mul 4294967296 (Nat.add (o4K f) (Nat.mul 4294967296 (Nat.add (o4K g) (Nat.mul 4294967296 (o4K h))))))))))))))
def tG (s:H8):zi s.bytes=zbI s.a s.b s.c s.d s.e s.f s.g s.h:=by
 have a:∀(x:Nat) (l:List UInt8),zi (be4 x++l)=o4K x+4294967296*zi l:=fun x l=>by rw [wG,VJ,show(be4 x).length=4 from rfl,show(256:Nat)^4=4294967296 from rfl]
 unfold H8.bytes;simp only [List.append_assoc,a,VJ];rfl
noncomputable def beK (k x:Nat):Nat:=Nat.rec (motive:=fun _=>Nat) 0 (fun k a=>Nat.add (Nat.mod (Nat.div x (Nat.pow 256 k)) 256) (Nat.mul 256 a)) k
def nt (x:Nat):∀k,zi (u8s (beN k x))=beK k x
 |0=>rfl
 | k+1=>by
  have e:beK (k+1) x=x/256^k%256+256*beK k x:=rfl;rw [e,<-nt x k];show(UInt8.ofNat (x/256^k%256)).toNat+256*zi (u8s (beN k x))=_;rw [UInt8.toNat_ofNat',Nat.mod_mod]
noncomputable def sd (n:Nat):Nat:=nfc (Nat.mul 8 n) fun x=>Nat.add 128 (Nat.mul (Nat.pow 256 (Nat.add (Nat.mod (Nat.sub 119 (Nat.mod n 64)) 64) 1)) (beK 8 x))
def WC:∀p:Nat,zi (u8s (List.replicate p 0))=0
 |0=>rfl
 | p+1=>by
  show(UInt8.ofNat 0).toNat+256*zi (u8s (List.replicate p 0))=0;rw [WC p]; rfl
def rR (n:Nat):zi (u8s (ZV n))=sd n:=by
 unfold sd ZV;rw [zH];have e:u8s (128::(List.replicate (gJ n) 0++beN 8 (8*n)))=u8s [128]++(u8s (List.replicate (gJ n) 0)++u8s (beN 8 (8*n))):=by simp [u8s]
 rw [e,wG,wG,WC,nt];show 128+256*0+256^1*(0+256^(u8s (List.replicate (gJ n) 0)).length*beK 8 (8*n))=128+256^((119-n%64)%64+1)*beK 8 (8*n);rw [show(u8s (List.replicate (gJ n) 0)).length=gJ n by simp [u8s],Nat.pow_one,Nat.zero_add,<-Nat.mul_assoc,Nat.mul_comm 256 (256^gJ n),<-Nat.pow_succ];rfl
noncomputable def zbK {R:Type} (n m:Nat) (K:Nat->R):R:=
 nfc (Nat.add m (Nat.mul (Nat.pow 256 n) (sd n))) fun M=>Px (Nat.div (Nat.add n 72) 64) M 1779033703 3144134277 1013904242 2773480762 1359893119 2600822924 528734635 1541459225 fun a b c d e f g h=>nfc (zbI a b c d e f g h) K
def sK {R:Type} (l:List UInt8) (K:Nat->R):zbK l.length (zi l) K=K (zi (sha l)):=by
 unfold zbK
 have e:Nat.add (zi l) (Nat.mul (Nat.pow 256 l.length) (sd l.length))=zi (pad l):=by
  rw [pad,wG,rR]; rfl
 rw [zH,e];have:=Bp (fun a b c d e f g h=>nfc (zbI a b c d e f g h) K) ((l.length+72)/64) (pad l) wq (by rw [Xk]; omega) ZI (H8.blk ((l.length+72)/64) wq (pad l)) rfl;refine Eq.trans this ?_;rw [zH,<-tG]; rfl
end Go.K
end
section
namespace Go.K
open Go.Abs
def pkB (B:Nat):List Nat->Nat
 | []=>0
 |x::l=>x+B*pkB B l
def BR (B:Nat):∀(l:List Nat) (y:Nat),pkB B (l ++ [y])=pkB B l+B^l.length*y
 | [],y=>by simp [pkB]
 | x::l,y=>by
  simp only [List.cons_append,pkB,BR B l y,List.length_cons,Nat.pow_succ,Nat.mul_add,Nat.add_assoc]
  congr 2
  rw [<-Nat.mul_assoc,Nat.mul_comm B (B^l.length)]
def BZ {B:Nat} (a:0<B):∀(l:List Nat) (i:Nat),(∀x∈l,x<B)->pkB B l/B^i%B=l.getD i 0
 | [],i,h=>by simp [pkB,Nat.zero_div]
 | x::l,0,h=>by
  have:=h x (by simp);simp only [pkB,Nat.pow_zero,Nat.div_one,List.getD_cons_zero,Nat.add_mul_mod_self_left,Nat.mod_eq_of_lt this]
 | x::l,i+1,h=>by
  have b:=h x (by simp);have e:(x+B*pkB B l)/B=pkB B l:=by rw [Nat.add_mul_div_left _ _ a,Nat.div_eq_of_lt b,Nat.zero_add]
  rw [pkB,Nat.pow_succ,Nat.mul_comm (B^i) B,<-Nat.div_div_eq_div_mul,e,List.getD_cons_succ];exact BZ a l i fun y c=>h y (List.mem_cons_of_mem _ c)
def xP (M X i j k:Nat):Nat:=Nat.land (Nat.xor (Nat.xor (Nat.shiftRight X i) (Nat.shiftRight X j)) (Nat.shiftRight X k)) M
def yP (M X x i j k:Nat):Nat:=Nat.land (Nat.xor (Nat.xor (Nat.shiftRight X i) (Nat.shiftRight X j)) (Nat.shiftRight x k)) M
abbrev W32 (f:Nat->Nat):Prop:=∀i,f i<4294967296
def W32.d {f:Nat->Nat} (h:W32 f) (i:Nat):f i*4294967297<18446744073709551616:=by have:=h i; omega
def W32.u {f:Nat->Nat} (h:W32 f) (i:Nat):f i<18446744073709551616:=by have:=h i; omega
def Vs (a b m:Nat):(a ^^^ b) &&& m=(a &&& m) ^^^ (b &&& m):=Nat.and_xor_distrib_right
def nr {n:Nat} {f:Nat->Nat} (h:W32 f) {k:Nat} (a:k<=32):Nat.shiftRight (pv n fun i=>f i*4294967297) k &&& pv n (fun _=>4294967295)=pv n fun i=>rot (f i) k:=by
 have e:=Qe (n:=n) a (m:=4294967295) (by decide) (fun i=>h.d i);refine Eq.trans e (qR fun i _=> ?_);rw [nN,Nat.shiftRight_eq_div_pow,Uw (h i) a]
def shP {n:Nat} {f:Nat->Nat} (h:W32 f) {k:Nat} (a:k<=32):Nat.shiftRight (pv n f) k &&& pv n (fun _=>4294967295)=pv n fun i=>f i/2^k:=by
 have e:=Qe (n:=n) a (m:=4294967295) (by decide) (fun i=>h.u i);refine Eq.trans e (qR fun i _=> ?_);rw [nN,Nat.shiftRight_eq_div_pow,Nat.mod_eq_of_lt (j3 _ (h i))]
def zaw {n:Nat} {f:Nat->Nat} (h:W32 f) {i j k:Nat} (hi:i<=32) (a:j<=32) (b:k<=32):xP (pv n fun _=>4294967295) (pv n fun i=>f i*4294967297) i j k=pv n fun l=>rot (f l) i ^^^ rot (f l) j ^^^ rot (f l) k:=by
 show(((_ ^^^ _) ^^^ _) &&& _:Nat)=_;rw [Vs,Vs,nr h hi,nr h a,nr h b];rw [pb (fun i=>W32.u (fun i=>xL _ (h i)) i) (fun i=>W32.u (fun i=>xL _ (h i)) i),pb (fun i=>W32.u (fun i=>wt (xL _ (h i)) (xL _ (h i))) i) (fun i=>W32.u (fun i=>xL _ (h i)) i)]
def zaB {n:Nat} {f:Nat->Nat} (h:W32 f) {i j k:Nat} (hi:i<=32) (a:j<=32) (b:k<=32):yP (pv n fun _=>4294967295) (pv n fun i=>f i*4294967297) (pv n f) i j k=pv n fun l=>rot (f l) i ^^^ rot (f l) j ^^^ f l/2^k:=by
 show(((_ ^^^ _) ^^^ _) &&& _:Nat)=_;rw [Vs,Vs,nr h hi,nr h a,shP h b];rw [pb (fun i=>W32.u (fun i=>xL _ (h i)) i) (fun i=>W32.u (fun i=>xL _ (h i)) i),pb (fun i=>W32.u (fun i=>wt (xL _ (h i)) (xL _ (h i))) i) (fun i=>W32.u (fun i=>j3 _ (h i)) i)]
def zcB {n:Nat} {f:Nat->Nat} (h:W32 f):yP (pv n fun _=>4294967295) (pv n fun i=>f i*4294967297) (pv n f) 7 18 3=pv n fun l=>sg0 (f l):=zaB h (by decide) (by decide) (by decide)
def zcj {n:Nat} {f:Nat->Nat} (h:W32 f):yP (pv n fun _=>4294967295) (pv n fun i=>f i*4294967297) (pv n f) 17 19 10=pv n fun l=>sg1 (f l):=zaB h (by decide) (by decide) (by decide)
def zcO {n:Nat} {f:Nat->Nat} (h:W32 f):xP (pv n fun _=>4294967295) (pv n fun i=>f i*4294967297) 2 13 22=pv n fun l=>bS0 (f l):=zaw h (by decide) (by decide) (by decide)
def zdd {n:Nat} {f:Nat->Nat} (h:W32 f):xP (pv n fun _=>4294967295) (pv n fun i=>f i*4294967297) 6 11 25=pv n fun l=>bS1 (f l):=zaw h (by decide) (by decide) (by decide)
section
variable {R:Type}
noncomputable def rdP (M O b b9 b14 b15 BM:Nat) (ks:List Nat):Nat->Nat->Nat->Nat->Nat->Nat->Nat->Nat->Nat->(Nat->Nat->Nat->Nat->Nat->Nat->Nat->Nat->R)->R:=
 List.rec (motive:=fun _=>Nat->Nat->Nat->Nat->Nat->Nat->Nat->Nat->Nat->(Nat->Nat->Nat->Nat->Nat->Nat->Nat->Nat->R)->R) (fun _ a b c d e f g h K=>K a b c d e f g h)
  (fun k _ ih W a b' c d e f g h K=>nfc (Nat.mul e 4294967297) fun e2=>nfc (Nat.add (Nat.add (Nat.add (Nat.add h (xP M e2 6 11 25)) (Nat.xor (Nat.land e f) (Nat.land (Nat.xor M e) g))) (Nat.mul O k)) (Nat.land W BM)) fun t=>
   nfc (Nat.mul a 4294967297) fun a2=>nfc (Nat.land (Nat.add t (Nat.add (xP M a2 2 13 22) (Nat.xor (Nat.xor (Nat.land a b') (Nat.land a c)) (Nat.land b' c)))) M) fun na=>nfc (Nat.land (Nat.add d t) M) fun ne=>
   nfc (Nat.shiftRight W b) fun W1=>nfc (Nat.land W1 BM) fun w1=>nfc (Nat.land (Nat.shiftRight W b14) BM) fun w14=>
   nfc (Nat.add W1 (Nat.shiftLeft (Nat.land (Nat.add (Nat.add (Nat.add (Nat.land W BM) (yP M (Nat.mul w1 4294967297) w1 7 18 3)) (Nat.land (Nat.shiftRight W b9) BM)) (yP M (Nat.mul w14 4294967297) w14 17 19 10)) M) b15)) fun W2=>
   ih W2 na a b' c ne e f g K) ks
end
def wQ (V:List (Nat->Nat)) (n:Nat):List Nat:=V.map (pv n)
def GJ {α β:Type} (f:α->β) (d:α) {z:β} (l:List α) (i:Nat) (e:f d=z):(l.map f).getD i z=f (l.getD i d):=by
 simp only [List.getD,iV];cases l[i]? <;> simp [e]
def Km (n:Nat):pv n (fun _=>0)=0:=by
 induction n with
 |zero=>rfl
 |succ n a=>simp only [pv,a]
def zdn {n:Nat} {V:List (Nat->Nat)} (a:∀v∈V,W32 v) (i:Nat):Nat.land (Nat.shiftRight (pkB (2^(64*n)) (wQ V n)) (64*n*i)) (2^(64*n)-1)=pv n (V.getD i fun _=>0):=by
 show(pkB (2^(64*n)) (wQ V n) >>> (64*n*i)) &&& (2^(64*n)-1)=_
 rw [Nat.and_two_pow_sub_one_eq_mod,Nat.shiftRight_eq_div_pow,show 2^(64*n*i)=(2^(64*n))^i from Nat.pow_mul ..,BZ (Nat.two_pow_pos _) _ _ (fun x c=>by
  obtain⟨v,b,rfl⟩:=List.mem_map.1 c
  exact lB (a v b).u)]
 exact GJ (pv n) (fun _=>0) V i (Km n)
def rv {B:Nat} (e:0<B) {l:List Nat} {y b:Nat} (a:l.length=16) (f:∀x∈l,x<B) (c:B=2^b):Nat.add (Nat.shiftRight (pkB B l) b) (Nat.shiftLeft y (b*15))=pkB B (l.drop 1 ++ [y]):=by
 show(pkB B l >>> b)+(y <<< (b*15))=_
 match l,a with
 | x::l,a=>
  rw [Nat.shiftRight_eq_div_pow,<-c,pkB,Nat.add_mul_div_left _ _ e,Nat.div_eq_of_lt (f x (by simp)),Nat.zero_add,List.drop_one,List.tail_cons,BR,show l.length=15 by simpa using a,Nat.shiftLeft_eq,Nat.pow_mul,<-c,Nat.mul_comm y]
def J3 {V:List (Nat->Nat)} (b:∀v∈V,W32 v) (i:Nat):W32 (V.getD i fun _=>0):=fun j=>by
 rcases iS i V.length with a|a
 ·simp only [List.getD,iK a,Option.getD_some]; exact b _ (List.getElem_mem a) j
 ·simp [List.getD,iN a]
def oT (V:List (Nat->Nat)) (j i:Nat):(V.map fun v=>v i).getD j 0=(V.getD j fun _=>0) i:=GJ (fun v:Nat->Nat=>v i) (fun _=>0) V j rfl
def V3 {n:Nat} {f:Nat->Nat} (h:∀i,f i<18446744073709551616):Nat.land (pv n f) (pv n fun _=>4294967295)=pv n fun i=>f i%4294967296:=zbT h
def zb0 {n:Nat} {e f g:Nat->Nat} (a:W32 e) (b:W32 f) (c:W32 g):Nat.xor (Nat.land (pv n e) (pv n f)) (Nat.land (Nat.xor (pv n fun _=>4294967295) (pv n e)) (pv n g))=pv n fun i=>chN (e i) (f i) (g i):=by
 show(pv n e &&& pv n f) ^^^ ((pv n (fun _=>4294967295) ^^^ pv n e) &&& pv n g)=_;rw [Yu a.u b.u,pb (fun _=>by decide) a.u,Yu (W32.u fun i=>wt (by decide) (a i)) c.u,pb (W32.u fun i=>wL (b i)) (W32.u fun i=>wL (c i))];rfl
def zb2 {n:Nat} {a b c:Nat->Nat} (g:W32 a) (f:W32 b) (e:W32 c):Nat.xor (Nat.xor (Nat.land (pv n a) (pv n b)) (Nat.land (pv n a) (pv n c))) (Nat.land (pv n b) (pv n c))=pv n fun i=>mjN (a i) (b i) (c i):=by
 show((pv n a &&& pv n b) ^^^ (pv n a &&& pv n c)) ^^^ (pv n b &&& pv n c)=_;rw [Yu g.u f.u,Yu g.u e.u,Yu f.u e.u,pb (W32.u fun i=>wL (f i)) (W32.u fun i=>wL (e i)),pb (W32.u fun i=>wt (wL (f i)) (wL (e i))) (W32.u fun i=>wL (e i))];rfl
def za0 {e f g:Nat} (a:f<4294967296) (b:g<4294967296):chN e f g<4294967296:=wt (wL a) (wL b)
def zaV {a b c:Nat} (f:b<4294967296) (e:c<4294967296):mjN a b c<4294967296:=wt (wt (wL f) (wL e)) (wL e)
def nS (k:Nat) (ks:List Nat):∀(L:List Nat) (s:H8),L.length=16->s.run (k::ks) (v8 (ks.length+1) L)=(s.step k (L.getD 0 0)).run ks (v8 ks.length (L.drop 1 ++ [kX L]))
 | v::L,s,a=>by
  have e:v8 (ks.length+1) (v::L)=v::v8 ks.length (L ++ [kX (v::L)]):=by
   rw [v8,List.cons_append,Wn _ _ (by simp at a ⊢; omega)]
  rw [e];rfl
 | [],s,a=>by simp at a
def mo {R:Type} (n:Nat) (K:Nat->Nat->Nat->Nat->Nat->Nat->Nat->Nat->R):∀(ks:List Nat) (V:List (Nat->Nat)) (s:Nat->H8),(∀k∈ks,k<4294967296)->V.length=16->(∀v∈V,W32 v)->(∀i,(s i).lt)->∀S:Nat->H8,(∀i,S i=(s i).run ks (v8 ks.length (V.map fun v=>v i))) ->
  rdP (pv n fun _=>4294967295) (pv n fun _=>1) (64*n) (64*n*9) (64*n*14) (64*n*15) (2^(64*n)-1) ks (pkB (2^(64*n)) (wQ V n)) (pv n fun i=>(s i).a) (pv n fun i=>(s i).b) (pv n fun i=>(s i).c) (pv n fun i=>(s i).d) (pv n fun i=>(s i).e) (pv n fun i=>(s i).f) (pv n fun i=>(s i).g) (pv n fun i=>(s i).h) K=
   K (pv n fun i=>(S i).a) (pv n fun i=>(S i).b) (pv n fun i=>(S i).c) (pv n fun i=>(S i).d) (pv n fun i=>(S i).e) (pv n fun i=>(S i).f) (pv n fun i=>(S i).g) (pv n fun i=>(S i).h)
 | [],V,s,_,q,l,j,S,C=>by
  have:S=s:=funext fun i=>by rw [C i]; rfl
  subst this; rfl
 | k ::ks,V,s,Z,q,l,j,S,C=>by
  have hk0:=Z k (by simp);have A:W32 fun i=>(s i).a:=fun i=>(j i).1;have Q:W32 fun i=>(s i).b:=fun i=>(j i).2.1;have U:W32 fun i=>(s i).c:=fun i=>(j i).2.2.1;have hD:W32 fun i=>(s i).d:=fun i=>(j i).2.2.2.1;have B:W32 fun i=>(s i).e:=fun i=>(j i).2.2.2.2.1;have hF:W32 fun i=>(s i).f:=fun i=>(j i).2.2.2.2.2.1;have X:W32 fun i=>(s i).g:=fun i=>(j i).2.2.2.2.2.2.1;have hH:W32 fun i=>(s i).h:=fun i=>(j i).2.2.2.2.2.2.2;have r:0<2^(64*n):=Nat.two_pow_pos _;have lane:=fun i=>zdn (n:=n) l i;have l0:Nat.land (pkB (2^(64*n)) (wQ V n)) (2^(64*n)-1)=pv n (V.getD 0 fun _=>0):=lane 0;have l1:Nat.land (Nat.shiftRight (pkB (2^(64*n)) (wQ V n)) (64*n)) (2^(64*n)-1)=pv n (V.getD 1 fun _=>0):=by have:=lane 1; rwa [Nat.mul_one]at this
  have l9:=lane 9;have H:=lane 14;have I:=J3 l 0;have L:=J3 l 1;have b9:=J3 l 9;have p:=J3 l 14;let V':=V.drop 1 ++ [fun i=>kX (V.map fun v=>v i)]
  have E:∀v∈V',W32 v:=fun v F=>by
   rcases List.mem_append.1 F with h|h
   ·exact l v (List.mem_of_mem_drop h)
   ·simp at h; subst h; exact fun i=>Vr _
  have bS0':W32 fun i=>bS0 (s i).a:=fun i=>zbH (A i);have bS1':W32 fun i=>bS1 (s i).e:=fun i=>zaY (B i);have bch:W32 fun i=>chN (s i).e (s i).f (s i).g:=fun i=>za0 (hF i) (X i);have bmj:W32 fun i=>mjN (s i).a (s i).b (s i).c:=fun i=>zaV (Q i) (U i);have w:W32 fun i=>sg0 ((V.getD 1 fun _=>0) i):=fun i=>zbG (L i);have y:W32 fun i=>sg1 ((V.getD 14 fun _=>0) i):=fun i=>zbj (p i)
  have eN:Nat.land (Nat.add (Nat.add (Nat.add (pv n (V.getD 0 fun _=>0)) (yP (pv n fun _=>4294967295) (Nat.mul (pv n (V.getD 1 fun _=>0)) 4294967297) (pv n (V.getD 1 fun _=>0)) 7 18 3)) (pv n (V.getD 9 fun _=>0))) (yP (pv n fun _=>4294967295) (Nat.mul (pv n (V.getD 14 fun _=>0)) 4294967297) (pv n (V.getD 14 fun _=>0)) 17 19 10)) (pv n fun _=>4294967295)=pv n fun i=>kX (V.map fun v=>v i):=by
   show Nat.land (_+yP _ (_*4294967297) _ _ _ _+_+yP _ (_*4294967297) _ _ _ _) _=_;rw [qw,qw,zcB L,zcj p,uk,uk,uk];rw [V3 fun i=>by have N:=I i; have h9:=b9 i; have z:sg0 ((V.getD 1 fun _=>0) i)<4294967296:=w i; have P:sg1 ((V.getD 14 fun _=>0) i)<4294967296:=y i; omega];refine qR fun i _=> ?_;unfold kX m32;rw [List.length_map,q,oT,oT,oT,oT];show((V.getD 0 fun _=>0) i+sg0 ((V.getD 1 fun _=>0) i)+(V.getD 9 fun _=>0) i+sg1 ((V.getD 14 fun _=>0) i))%4294967296=((((V.getD 0 fun _=>0) i+sg0 ((V.getD 1 fun _=>0) i))%4294967296+(V.getD 9 fun _=>0) i)%4294967296+sg1 ((V.getD 14 fun _=>0) i))%4294967296;omega
  have eW:Nat.add (Nat.shiftRight (pkB (2^(64*n)) (wQ V n)) (64*n)) (Nat.shiftLeft (pv n fun i=>kX (V.map fun v=>v i)) (64*n*15))=pkB (2^(64*n)) (wQ V' n):=by
   rw [rv r (by simp [wQ,q]) (fun x G=>by
    obtain⟨v,F,rfl⟩:=List.mem_map.1 G
    exact lB (l v F).u) rfl]
   simp [wQ,V',List.map_append,List.map_drop]
  let T:Nat->Nat:=fun i=>(s i).h+bS1 (s i).e+chN (s i).e (s i).f (s i).g+1*k+(V.getD 0 fun _=>0) i
  have eT:Nat.add (Nat.add (Nat.add (Nat.add (pv n fun i=>(s i).h) (xP (pv n fun _=>4294967295) (Nat.mul (pv n fun i=>(s i).e) 4294967297) 6 11 25)) (Nat.xor (Nat.land (pv n fun i=>(s i).e) (pv n fun i=>(s i).f)) (Nat.land (Nat.xor (pv n fun _=>4294967295) (pv n fun i=>(s i).e)) (pv n fun i=>(s i).g)))) (Nat.mul (pv n fun _=>1) k)) (pv n (V.getD 0 fun _=>0))=pv n T:=by
   show _+xP _ (_*4294967297) _ _ _+_+_*k+_=_;rw [qw,qw,zdd B,zb0 B hF X,uk,uk,uk,uk]
  have Y:∀i,T i<30000000000:=fun i=>by
   have z:(s i).h<4294967296:=hH i; have P:bS1 (s i).e<4294967296:=bS1' i; have h3:chN (s i).e (s i).f (s i).g<4294967296:=bch i; have h4:=I i;show(s i).h+bS1 (s i).e+chN (s i).e (s i).f (s i).g+1*k+(V.getD 0 fun _=>0) i<_;omega
  have ea:Nat.land (Nat.add (pv n T) (Nat.add (xP (pv n fun _=>4294967295) (Nat.mul (pv n fun i=>(s i).a) 4294967297) 2 13 22) (Nat.xor (Nat.xor (Nat.land (pv n fun i=>(s i).a) (pv n fun i=>(s i).b)) (Nat.land (pv n fun i=>(s i).a) (pv n fun i=>(s i).c))) (Nat.land (pv n fun i=>(s i).b) (pv n fun i=>(s i).c))))) (pv n fun _=>4294967295)=pv n fun i=>((s i).step k ((V.getD 0 fun _=>0) i)).a:=by
   show Nat.land (_+(xP _ (_*4294967297) _ _ _+_)) _=_;rw [qw,zcO A,zb2 A Q U,uk,uk,V3 fun i=>by have N:=Y i; have z:bS0 (s i).a<4294967296:=bS0' i; have P:mjN (s i).a (s i).b (s i).c<4294967296:=bmj i; omega];refine qR fun i _=> ?_;show(T i+(bS0 (s i).a+mjN (s i).a (s i).b (s i).c))%4294967296=m32 (tN (s i) k ((V.getD 0 fun _=>0) i)+m32 (bS0 (s i).a+mjN (s i).a (s i).b (s i).c));show((s i).h+bS1 (s i).e+chN (s i).e (s i).f (s i).g+1*k+(V.getD 0 fun _=>0) i+(bS0 (s i).a+mjN (s i).a (s i).b (s i).c))%4294967296=_;unfold tN m32;omega
  have ee:Nat.land (Nat.add (pv n fun i=>(s i).d) (pv n T)) (pv n fun _=>4294967295)=pv n fun i=>((s i).step k ((V.getD 0 fun _=>0) i)).e:=by
   show Nat.land (_+_) _=_;rw [uk,V3 fun i=>by have N:=Y i; have z:(s i).d<4294967296:=hD i; omega];refine qR fun i _=> ?_;show((s i).d+((s i).h+bS1 (s i).e+chN (s i).e (s i).f (s i).g+1*k+(V.getD 0 fun _=>0) i))%4294967296=m32 ((s i).d+tN (s i) k ((V.getD 0 fun _=>0) i));unfold tN m32;omega
  have step:∀M O b o b14' m BM W a t c d e f g h,rdP M O b o b14' m BM (k::ks) W a t c d e f g h K=
   rdP M O b o b14' m BM ks (Nat.add (Nat.shiftRight W b) (Nat.shiftLeft (Nat.land (Nat.add (Nat.add (Nat.add (Nat.land W BM) (yP M (Nat.mul (Nat.land (Nat.shiftRight W b) BM) 4294967297) (Nat.land (Nat.shiftRight W b) BM) 7 18 3)) (Nat.land (Nat.shiftRight W o) BM)) (yP M (Nat.mul (Nat.land (Nat.shiftRight W b14') BM) 4294967297) (Nat.land (Nat.shiftRight W b14') BM) 17 19 10)) M) m))
    (Nat.land (Nat.add (Nat.add (Nat.add (Nat.add (Nat.add h (xP M (Nat.mul e 4294967297) 6 11 25)) (Nat.xor (Nat.land e f) (Nat.land (Nat.xor M e) g))) (Nat.mul O k)) (Nat.land W BM)) (Nat.add (xP M (Nat.mul a 4294967297) 2 13 22) (Nat.xor (Nat.xor (Nat.land a t) (Nat.land a c)) (Nat.land t c)))) M) a t c
    (Nat.land (Nat.add d (Nat.add (Nat.add (Nat.add (Nat.add h (xP M (Nat.mul e 4294967297) 6 11 25)) (Nat.xor (Nat.land e f) (Nat.land (Nat.xor M e) g))) (Nat.mul O k)) (Nat.land W BM))) M) e f g K:=by
   intros
   unfold rdP;dsimp only;simp only [zH]
  rw [step,l0,l1,l9,H,eN,eW,eT,ea,ee];refine mo n K ks V' (fun i=>(s i).step k ((V.getD 0 fun _=>0) i)) (fun x G=>Z x (by simp [G])) (by simp [V',q]) E (fun i=>H8.step_lt (j i) _ _) S fun i=> ?_;rw [C i];show(s i).run (k::ks) (v8 (ks.length+1) (V.map fun v=>v i))=_;rw [nS k ks _ (s i) (by simp [q]),oT];simp only [V',List.map_append,List.map_cons,List.map_nil,List.map_drop]
section
variable {R:Type}
noncomputable def sZ (M O b b9 b14 b15 BM:Nat) (W:Nat) (K:Nat->Nat->Nat->Nat->R):R:=
 nfc (Nat.mul O 1779033703) fun a0=>nfc (Nat.mul O 3144134277) fun b0=>nfc (Nat.mul O 1013904242) fun c0=>nfc (Nat.mul O 2773480762) fun d0=>
 rdP M O b b9 b14 b15 BM kW W a0 b0 c0 d0 (Nat.mul O 1359893119) (Nat.mul O 2600822924) (Nat.mul O 528734635) (Nat.mul O 1541459225) fun a' b' c' d' _ _ _ _=>
  nfc (Nat.land (Nat.add a' a0) M) fun a=>nfc (Nat.land (Nat.add b' b0) M) fun b=>nfc (Nat.land (Nat.add c' c0) M) fun c=>nfc (Nat.land (Nat.add d' d0) M) fun d=>K a b c d
end
def zcP:∀k∈kW,k<4294967296:=by decide
def cK {R:Type} (n:Nat) (V:List (Nat->Nat)) (b:V.length=16) (l:∀v∈V,W32 v) (K:Nat->Nat->Nat->Nat->R):
  sZ (pv n fun _=>4294967295) (pv n fun _=>1) (64*n) (64*n*9) (64*n*14) (64*n*15) (2^(64*n)-1) (pkB (2^(64*n)) (wQ V n)) K=
   K (pv n fun i=>(wq.block (V.map fun v=>v i)).a) (pv n fun i=>(wq.block (V.map fun v=>v i)).b) (pv n fun i=>(wq.block (V.map fun v=>v i)).c) (pv n fun i=>(wq.block (V.map fun v=>v i)).d):=by
 unfold sZ;simp only [zH]
 have ec:∀c:Nat,Nat.mul (pv n fun _=>1) c=pv n fun _=>c:=fun c=>by
  show(pv n fun _=>1)*c=_;rw [qw]; simp only [Nat.one_mul]
 simp only [ec]
 have h:=mo n (fun e g j k _ _ _ _=>K (Nat.land (Nat.add e (pv n fun _=>1779033703)) (pv n fun _=>4294967295)) (Nat.land (Nat.add g (pv n fun _=>3144134277)) (pv n fun _=>4294967295)) (Nat.land (Nat.add j (pv n fun _=>1013904242)) (pv n fun _=>4294967295)) (Nat.land (Nat.add k (pv n fun _=>2773480762)) (pv n fun _=>4294967295)))
  kW V (fun _=>wq) zcP b l (fun _=>ZI) (fun i=>wq.run kW (v8 48 (V.map fun v=>v i))) (fun i=>by
   show wq.run kW (v8 48 _)=wq.run kW (v8 kW.length _)
   rw [lR wq _ (by simp [b])])
 refine Eq.trans h ?_;have a:∀i,(wq.run kW (v8 48 (V.map fun v=>v i))).lt:=fun i=>H8.run_lt _ _ ZI
 have fin:∀(f:Nat->Nat) (c:Nat),W32 f->c<4294967296->Nat.land (Nat.add (pv n f) (pv n fun _=>c)) (pv n fun _=>4294967295)=pv n fun i=>m32 (c+f i):=fun f c m o=>by
  show Nat.land (_+_) _=_;rw [uk,V3 fun i=>by have:=m i; omega];refine qR fun i _=> ?_;rw [Nat.add_comm]; rfl
 rw [fin _ _ (fun i=>(a i).1) (by decide),fin _ _ (fun i=>(a i).2.1) (by decide),fin _ _ (fun i=>(a i).2.2.1) (by decide),fin _ _ (fun i=>(a i).2.2.2.1) (by decide)];rfl
def pT (A B C D:Nat):List UInt8:=be4 A++(be4 B++(be4 C++be4 D))
def Ue (id:List UInt8) (leaf c p:Nat) (v:List UInt8):List UInt8:=(sha (67::(id++(be4 leaf++(UInt8.ofNat c::UInt8.ofNat p::v))))).take 16
def WY (seed:List UInt8) (leaf c:Nat):List UInt8:=(sha (83::(seed++(be4 leaf ++ [UInt8.ofNat c])))).take 16
def oD (s:H8):s.bytes.take 16=pT s.a s.b s.c s.d:=rfl
def pF (leaf c p A B C D:Nat):List Nat:= [leaf%256*16777216+c*65536+p*256+A/16777216,A*256%4294967296+B/16777216,B*256%4294967296+C/16777216,C*256%4294967296+D/16777216,D*256%4294967296+128,0,0,0,0,0,312]
def lW {id:List UInt8} (i:id.length=16) {leaf c p A B C D:Nat} (E:c<256) (F:p<256) (w:A<4294967296) (x:B<4294967296) (y:C<4294967296) (z:D<4294967296):
  Ue id leaf c p (pT A B C D)=pT (wq.block (z6 (67::(id++(be4 leaf).take 3))++pF leaf c p A B C D)).a (wq.block (z6 (67::(id++(be4 leaf).take 3))++pF leaf c p A B C D)).b (wq.block (z6 (67::(id++(be4 leaf).take 3))++pF leaf c p A B C D)).c (wq.block (z6 (67::(id++(be4 leaf).take 3))++pF leaf c p A B C D)).d:=by
 match id,i with
 | [j,k,l,m,n,o,q,r,s,t,a,b,e,f,g,h],_=>
  have key:z6 ((pad (67::([j,k,l,m,n,o,q,r,s,t,a,b,e,f,g,h]++(be4 leaf++(UInt8.ofNat c::UInt8.ofNat p::pT A B C D))))).take 64)=z6 (67::([j,k,l,m,n,o,q,r,s,t,a,b,e,f,g,h]++(be4 leaf).take 3))++pF leaf c p A B C D:=by
   simp only [pad,ZV,gJ,u8s,List.cons_append,List.nil_append,be4,pT,List.length_cons,List.length_nil,List.take,List.replicate,beN,List.map_cons,List.map_nil,z6,pF,UInt8.toNat_ofNat',word4,List.cons.injEq,and_true,true_and];refine⟨?_, ?_, ?_, ?_, ?_⟩<;>omega
  unfold Ue sha;have v:((67::([j,k,l,m,n,o,q,r,s,t,a,b,e,f,g,h]++(be4 leaf++(UInt8.ofNat c::UInt8.ofNat p::pT A B C D)))).length+72)/64=1:=by simp [be4,pT]
  rw [v,H8.blk,H8.blk,key,oD]
def WB (leaf c:Nat):List Nat:= [leaf%256*16777216+c*65536+32768,0,0,0,0,0,304]
def te {seed:List UInt8} (M:seed.length=32) {leaf c:Nat} (N:c<256):
  WY seed leaf c=pT (wq.block (z6 (83::(seed++(be4 leaf).take 3))++WB leaf c)).a (wq.block (z6 (83::(seed++(be4 leaf).take 3))++WB leaf c)).b (wq.block (z6 (83::(seed++(be4 leaf).take 3))++WB leaf c)).c (wq.block (z6 (83::(seed++(be4 leaf).take 3))++WB leaf c)).d:=by
 match seed,M with
 | [o,p,q,r,s,t,v,w,x,y,a,b,e,f,g,h,z,A,B,C,E,F,G,H,I,K,i,j,k,l,m,n],_=>
  have key:z6 ((pad (83::([o,p,q,r,s,t,v,w,x,y,a,b,e,f,g,h,z,A,B,C,E,F,G,H,I,K,i,j,k,l,m,n]++(be4 leaf ++ [UInt8.ofNat c])))).take 64)=z6 (83::([o,p,q,r,s,t,v,w,x,y,a,b,e,f,g,h,z,A,B,C,E,F,G,H,I,K,i,j,k,l,m,n]++(be4 leaf).take 3))++WB leaf c:=by
   simp only [pad,ZV,gJ,u8s,List.cons_append,List.nil_append,be4,List.length_cons,List.length_nil,List.take,List.replicate,beN,List.map_cons,List.map_nil,z6,WB,UInt8.toNat_ofNat',word4,List.cons.injEq,and_true,true_and];omega
  unfold WY sha;have L:((83::([o,p,q,r,s,t,v,w,x,y,a,b,e,f,g,h,z,A,B,C,E,F,G,H,I,K,i,j,k,l,m,n]++(be4 leaf ++ [UInt8.ofNat c]))).length+72)/64=1:=by simp [be4]
  rw [L,H8.blk,H8.blk,key,oD]
def QA (B:Nat):∀(l r:List Nat),pkB B (l++r)=pkB B l+B^l.length*pkB B r
 | [],r=>by simp [pkB]
 | x::l,r=>by
  simp only [List.cons_append,pkB,QA B l r,List.length_cons,Nat.pow_succ,Nat.mul_add,Nat.add_assoc]
  congr 2
  rw [<-Nat.mul_assoc,Nat.mul_comm B (B^l.length)]
noncomputable def bcP (O b k:Nat):Nat->Nat:=Nat.rec (motive:=fun _=>Nat->Nat) (fun _=>0) (fun _ a m=>nfc (Nat.shiftRight m 32) fun c=>Nat.add (Nat.mul O (w4K m)) (Nat.shiftLeft (a c) b)) k
def De (n:Nat):∀(k:Nat) (l:List UInt8),4*k<=l.length->bcP (pv n fun _=>1) (64*n) k (zi l)=pkB (2^(64*n)) (wQ ((z6 (l.take (4*k))).map fun w _=>w) n)
 |0,l,h=>rfl
 | k+1,x::y::z::w::l,h=>by
  have a:bcP (pv n fun _=>1) (64*n) (k+1) (zi (x::y::z::w::l))=nfc (Nat.shiftRight (zi (x::y::z::w::l)) 32) fun e=>Nat.add (Nat.mul (pv n fun _=>1) (w4K (zi (x::y::z::w::l)))) (Nat.shiftLeft (bcP (pv n fun _=>1) (64*n) k e) (64*n)):=rfl;have g:=x.toNat_lt; have i:=y.toNat_lt; have j:=z.toNat_lt; have f:=w.toNat_lt;have en:zi (x::y::z::w::l)=x.toNat+256*(y.toNat+256*(z.toNat+256*(w.toNat+256*zi l))):=rfl
  have b:Nat.shiftRight (zi (x::y::z::w::l)) 32=zi l:=by
   show zi (x::y::z::w::l) >>> 32=_;rw [Nat.shiftRight_eq_div_pow,en]; omega
  have c:w4K (zi (x::y::z::w::l))=word4 x.toNat y.toNat z.toNat w.toNat:=by
   show(zi (x::y::z::w::l)%256)*16777216+(zi (x::y::z::w::l)/256%256)*65536+(zi (x::y::z::w::l)/65536%256)*256+zi (x::y::z::w::l)/16777216%256=_;rw [en]; unfold word4; omega
  rw [a,zH,b,c,De n k l (by simp at h; omega),show 4*(k+1)=4*k+1+1+1+1 by omega];show(pv n fun _=>1)*_+(_ <<< _)=_;rw [qw,Nat.shiftLeft_eq,Nat.mul_comm _ (2^(64*n))];simp only [Nat.one_mul];rfl
 |k+1,[],h=>by simp at h
 |k+1,[_],h=>by simp at h; try omega
 |k+1,[_,_],h=>by simp at h; try omega
 |k+1,[_,_,_],h=>by simp at h; try omega
end Go.K
end
