/- Closed runs. No condition. -/
import Derived.Test.YtkabooclnoiclaaGreatDoorK11
set_option linter.all false
noncomputable section
namespace Go.K
open Go.Abs
def lz:Nat:=1000000
attribute [irreducible] lz
abbrev QKE:=Exit->Sl->List KD->KH->QR
def Exit.onN (e:Exit) (a b:QR):QR:=Exit.rec (motive:=fun _=>QR) a (fun _=>b) (fun _=>b) b (fun _=>b) b e
def Exit.onN_some {e:Exit} {a b:QR} {r:KV×KH} (h:Exit.onN e a b=some r):(e= .normal∧a=some r)∨(e≠ .normal∧b=some r):=by
 cases e<;>first|exact .inl ⟨rfl,h⟩|exact .inr ⟨(fun x=>by cases x),h⟩
def KO.onLoop (o:KO) (f:ua->QR):QR:=KO.rec (motive:=fun _=>QR) (fun _ _=>none) (fun _ _=>none) (fun _ _ _=>none) (fun _ _ _ _=>none) f (fun _=>none) o
def KO.onDefd (o:KO) (f:QR):QR:=KO.rec (motive:=fun _=>QR) (fun _ _=>none) (fun _ _=>none) (fun _ _ _=>none) (fun _ _ _ _=>none) (fun _=>none)
 (fun c=>Option.rec (motive:=fun _=>QR) none (fun l=>List.rec (motive:=fun _=>QR) f (fun _ _ _=>none) l) c) o
def ua.turned (L:ua) (s:LoopState) (p:Option Code):ua:=ua.rec (motive:=fun _=>ua) (fun _ _ n l ps a b d=>⟨s,p,n,l,ps,a,b,d⟩) L
def ua.turned_eq (L:ua) (s:LoopState) (p:Option Code):L.turned s p={L with state:=s,pending:=p}:=rfl
def ua.hd (L:ua) (K:ua->QR):QR:=ua.rec (motive:=fun _=>QR) (fun s p n l ps a b d=>K ⟨s,p,n,l,ps,a,b,d⟩) L
def ua.hd_eq (L:ua) (K:ua->QR):L.hd K=K L:=rfl
def nq (p:Option Code) (K:Exit->QR):QR:=match pQ p with|some e=>K e|none=>none
def zav (s:LoopState) (K:QR):QR:=match s with| .busy=>none|_=>K
def oZ (s:LoopState) (K:QR):QR:=match s with| .ready=>K|_=>none
def QM (X:QX) (e:QE) (n:Nat) (g:KV) (ps:Array Tmp) (assign body:Code) (l:Sl) (b:List KD) (h:KH) (K:QKE):QR:=
 g.onFunc (fun fn first cap=>Fn.onFunc fn fun f=>uu h (.defd (some [])) fun i h=>uu h (.loop (QN ⟨n,l,b⟩ ps assign body i)) fun j h=>
  XT [.yield j] cap fun yc=>XT first yc fun a=>e.call f a h fun _ h=>qg h j fun o=>o.onLoop fun L=>zav L.state (nq L.pending fun ex=>(L.turned .exhausted L.pending).hd fun L=>pG h j (.loop L) fun h=>K ex l (.collected i::b) h))
  (fun _=>none) none
def zao (ic:Sl->List KD->KH->QKE->QR) (K:QKE) (m:Nat):Sl->List KD->KH->QR:=Nat.rec (motive:=fun _=>Sl->List KD->KH->QR) (fun _ _ _=>none) (fun _ again l a h=>ic l a h fun ex l a h=>Exit.onN ex (again l a h) (K ex l a h)) m
def WA (X:QX) (e:QE) (out:Bool) (n:Nat) (c:Code):Sl->List KD->KH->QKE->QR:=
 Code.rec (motive:=fun _=>Sl->List KD->KH->QKE->QR)
  (fun l f h K=>K .normal l f h)
  (fun _ ops draw l f h K=>(tH X.E X.S.M out n ops draw).run e l f h fun l f h=>K .normal l f h)
  (fun _ _ ia ib l f h K=>ia l f h fun ex l f h=>Exit.onN ex (ib l f h K) (K ex l f h))
  (fun c _ _ ia ib l f h K=>((cO X.E.ng c fun q=>q).ev l).onBool (fun t=>zq t (ia l f h K) (ib l f h K)) none)
  (fun id _ ic l f h K=>ic l f h fun ex l f h=>Exit.rec (motive:=fun _=>QR) (K .normal l f h) (fun i=>zq (Nat.beq i id) (K .normal l f h) (K (.exit i) l f h)) (fun g=>K (.goto g) l f h) (K .ret l f h) (fun p=>K (.panic p) l f h) (K .outgrown l f h) ex)
  (fun _ ic l f h K=>zao ic K lz l f h)
  (fun g ps a b _ _ l f h K=>zq out (QM X e n ((cO X.E.ng g fun q=>q).ev l) ps a b l f h K) none)
  (fun i l f h K=>K (.exit i) l f h)
  (fun _ ic l f h K=>ic l f h fun ex l f h=>Exit.rec (motive:=fun _=>QR) (K .normal l f h) (fun i=>K (.exit i) l f h) (fun _=>none) (K .ret l f h) (fun p=>K (.panic p) l f h) (K .outgrown l f h) ex)
  (fun _ l f h K=>K .normal l f h)
  (fun _ _ _ _ _=>none)
  (fun l f h K=>K .ret l f h)
  (fun _ _ _ _ _=>none) c
section
variable {P:Program} {X:QX} {e:QE}
def lq (ok:X.Ok P) (y:e.ok P X) {n:Nat} {g:Operand} {ps:Array Tmp} {assign body:Code} {l:Sl} {a:List KD} {h:KH} {K:QKE} {r:KV×KH} (q:QM X e n (zp X.E.ng l g) ps assign body l a h K=some r):
  ∃ex s ds' h',K ex s ds' h'=some r∧KC P none (.rangeFunc g ps assign body) ⟨n,l,a⟩ h ex ⟨n,s,ds'⟩ h':=by
 unfold QM at q;cases p:zp X.E.ng l g<;>rw [p]at q<;>first|(cases q; done)|skip
 rename_i fn first cap
 cases fn<;>first|(cases q; done)|skip
 rename_i f;simp only [KV.onFunc,Fn.onFunc,vX,pj]at q;split at q
 ·rename_i z;split at q
  ·rename_i i;obtain⟨v,x,⟨fn,cd,t,w⟩,k,q⟩:=y.call _ _ _ _ _ q;rw [uO]at q;have j:(h.push (.defd (some []))).next=h.next+1:=rfl
   rw [j]at q k
   cases b:x.get (h.next+1)with
   |none=>rw [b]at q; cases q
   | some o=>
    rw [b]at q;cases o<;>first|(cases q; done)|skip
    rename_i L;simp only [Option.elim_some,KO.onLoop,ua.hd_eq,ua.turned_eq,bz]at q
    have hroom:h.next+2<65000:=by
     have:wY (h.push (.defd (some [])))=true:=i;simpa [wY,xn,j] using this
    cases m:L.state<;>rw [m]at q<;>first|(cases q; done)|skip
    all_goals
     simp only [zav,nq]at q
     cases c:pQ L.pending with
     |none=>rw [c]at q; cases q
     | some ex=>
      rw [c]at q;exact⟨ex,l, .collected h.next::a,_,q,oR (fr:=⟨n,l,a⟩) ok.E ok.S hroom p t w (by rw [List.append_assoc]; exact k) b (by rw [m]; simp) c⟩
  ·cases q
 ·cases q
def Xv (ok:X.Ok P) (O:e.ok P X) {rd:Option Nat} {out:Bool} (Q:out=rd.isNone) (n:Nat):∀(c:Code) (l:Sl) (f:List KD) (h:KH) (K:QKE) (r:KV×KH),WA X e out n c l f h K=some r ->
  ∃ex B ds' h',K ex B ds' h'=some r∧KC P rd c ⟨n,l,f⟩ h ex ⟨n,B,ds'⟩ h':=by
 have F:=ok.E.ng;intro c
 induction c with
 |skip=>exact fun l f h K r q=>⟨_,_,_,_,q,tc⟩
 | region id ops draw=>
  intro l f h K r q;have q:(tH X.E X.S.M out n ops draw).run e l f h (fun l f h=>K .normal l f h)=some r:=q;subst Q;obtain⟨B,ds',h',C,k⟩:=rT (rd:=rd) (id:=id) ok O q;exact⟨_,_,_,_,C,k⟩
 | seq a b ia ib=>
  intro l f h K r q;obtain⟨ex,G,s,E,j,p⟩:=ia l f h _ r q;rcases Exit.onN_some j with⟨rfl,A⟩|⟨z,A⟩
  ·obtain⟨ex,I,v,H,x,w⟩:=ib G s E K r A;exact⟨_,_,_,_,x,zbh p w⟩
  ·exact⟨_,_,_,_,A,sw p z⟩
 | cond o a b ia ib=>
  intro l f h K r q;have q:((cO X.E.ng o fun q=>q).ev l).onBool (fun t=>zq t (WA X e out n a l f h K) (WA X e out n b l f h K)) none=some r:=q;obtain⟨qo,M,C⟩:=dw X.E.ng o fun q=>q;rw [C,M]at q;cases N:zp X.E.ng l o<;>rw [N]at q<;>first|(cases q; done)|skip
  rename_i t;simp only [KV.onBool,zo]at q
  cases t with
  |true=>obtain⟨ex,I,v,H,x,w⟩:=ia l f h K r q; exact⟨_,_,_,_,x,cC F (fr:=⟨n,l,f⟩) N w⟩
  |false=>obtain⟨ex,I,v,H,x,w⟩:=ib l f h K r q; exact⟨_,_,_,_,x,cC F (fr:=⟨n,l,f⟩) N w⟩
 | block id c ic=>
  intro l f h K r q;obtain⟨ex,G,s,E,j,p⟩:=ic l f h _ r q
  cases ex with
  | exit i=>
   simp only [zo,Nat.beq_eq]at j;split at j
   ·rename_i L; exact⟨_,_,_,_,j,bR p _ (by simp [L])⟩
   ·rename_i L; exact⟨_,_,_,_,j,bR p _ (by simp [L])⟩
  |normal=>exact⟨_,_,_,_,j,bR p _ rfl⟩
  |goto _=>exact⟨_,_,_,_,j,bR p _ rfl⟩
  |ret=>exact⟨_,_,_,_,j,bR p _ rfl⟩
  |panic _=>exact⟨_,_,_,_,j,bR p _ rfl⟩
  |outgrown=>exact⟨_,_,_,_,j,bR p _ rfl⟩
 | loop c ic=>
  intro l f h K r q
  have key:∀(m:Nat) (l:Sl) (f:List KD) (h:KH),zao (WA X e out n c) K m l f h=some r ->
    ∃ex B ds' h',K ex B ds' h'=some r∧KL P rd c ⟨n,l,f⟩ h ex ⟨n,B,ds'⟩ h':=by
   intro m
   induction m with
   |zero=>intro l f h q; cases q
   | succ m im=>
    intro l f h q;obtain⟨ex,G,s,E,j,p⟩:=ic l f h _ r q;rcases Exit.onN_some j with⟨rfl,A⟩|⟨z,A⟩
    ·obtain⟨ex,I,v,H,x,w⟩:=im G s E A;exact⟨_,_,_,_,x,sY p w⟩
    ·exact⟨_,_,_,_,A,zbO p z⟩
  obtain⟨ex,I,v,H,x,w⟩:=key lz l f h q;exact⟨_,_,_,_,x,sj w⟩
 | rangeFunc g ps a b _ _=>
  intro l f h K r q;have q:zq out (QM X e n ((cO X.E.ng g fun q=>q).ev l) ps a b l f h K) none=some r:=q;rw [zo]at q;split at q
  ·rename_i y;rw [Q]at y
   cases rd with
   |some _=>cases y
   | none=>
    obtain⟨qo,M,C⟩:=dw X.E.ng g fun q=>q;rw [C,M]at q;exact lq ok O q
  ·cases q
 |exit i=>exact fun l f h K r q=>⟨_,_,_,_,q,sR⟩
 | scope c ic=>
  intro l f h K r q;obtain⟨ex,G,s,E,j,p⟩:=ic l f h _ r q
  cases ex with
  |goto _=>cases j
  |normal=>exact⟨_,_,_,_,j,pW p (by simp)⟩
  |exit _=>exact⟨_,_,_,_,j,pW p (by simp)⟩
  |ret=>exact⟨_,_,_,_,j,pW p (by simp)⟩
  |panic _=>exact⟨_,_,_,_,j,pW p (by simp)⟩
  |outgrown=>exact⟨_,_,_,_,j,pW p (by simp)⟩
 |label _=>exact fun l f h K r q=>⟨_,_,_,_,q,oB⟩
 |goto _=>intro l f h K r q; cases q
 |ret=>exact fun l f h K r q=>⟨_,_,_,_,q,zbv⟩
 |refuse _=>intro l f h K r q; cases q
end
inductive QRv where
 |tmp (g:Sl->KV)
 |cell (g:Sl->KV) (ld:KV->KH->QK->QR)
inductive QFn where
 |no
 |mk (n:Nat) (c:Code) (rs:List QRv)
section
variable {S:Type}
def WW (E:KE) (b:List ResultVar) (K:List QRv->S) (F:S):S:=
 List.rec (motive:=fun _=>(List QRv->S)->S) (fun K=>K []) (fun x _ a K=>match x with
  | .tmp t=>Sel.rec (motive:=fun _=>S) (fun g=>a fun r=>K (.tmp g::r)) (dS t)
  | .cell x t=>zq ((E.T t).ok && !(j4 (E.T t).d)) (Sel.rec (motive:=fun _=>S) (fun g=>zq (E.T t).d.agg (nfc (E.T t).sz fun n=>a fun r=>K (.cell g (V0 n)::r)) (a fun r=>K (.cell g V4::r))) (dS x)) F) b K
end
def Br (c:List QRv) (l:Sl) (h:KH) (K:List KV->QR):QR:=
 List.rec (motive:=fun _=>(List KV->QR)->QR) (fun K=>K []) (fun x _ b K=>QRv.rec (motive:=fun _=>QR) (fun g=>(g l).hd fun v=>b fun a=>K (v::a)) (fun g ld=>ld (g l) h fun v _=>v.hd fun v=>b fun a=>K (v::a)) x) c K
def zcC (a:List KV) (K:KV->QR):QR:=List.rec (motive:=fun _=>QR) (K (.tuple [])) (fun v r _=>List.rec (motive:=fun _=>QR) (K v) (fun _ _ _=>K (.tuple (v::r))) r) a
def zcv:List KV->KV
 | [v]=>v
 |a=> .tuple a
def sx (a:List KV) (K:KV->QR):zcC a K=K (zcv a):=by
 match a with
 | []=>rfl
 | [v]=>rfl
 |v::u::r=>rfl
def G9 (E:KE) (s:List QRv) (b:List ResultVar):Prop:=∀l h K r,Br s l h K=some r->∃a,Y8 E h l b=some a∧K a=some r
def P3 {S:Type} (E:KE) (F:S):∀(a:List ResultVar) (K:List QRv->S),WW E a K F=F∨∃s,G9 E s a∧WW E a K F=K s
 | [],K=> .inr ⟨[],fun l h K r q=>⟨[],rfl,q⟩,rfl⟩
 | x ::a,K=>by
  have fin:∀(y:QRv),(∀l h (K:KV->QR) r,QRv.rec (motive:=fun _=>QR) (fun g=>(g l).hd K) (fun g ld=>ld (g l) h fun v _=>v.hd K) y=some r->∃v,JR E h l x=some v∧K v=some r) ->
    WW E (x::a) K F=WW E a (fun r=>K (y::r)) F->WW E (x::a) K F=F∨∃s,G9 E s (x::a)∧WW E (x::a) K F=K s:=by
   intro y A b;rcases P3 E F a (fun r=>K (y::r))with h|⟨s,z,h⟩
   ·exact .inl (b.trans h)
   ·refine .inr ⟨y::s, ?_,b.trans h⟩;intro l h K r q;have q:QRv.rec (motive:=fun _=>QR) (fun g=>(g l).hd fun v=>Br s l h fun m=>K (v::m)) (fun g ld=>ld (g l) h fun v _=>v.hd fun v=>Br s l h fun m=>K (v::m)) y=some r:=q;obtain⟨v,f,q⟩:=A l h _ r q;obtain⟨m,c,q⟩:=z _ _ _ _ q;exact⟨v::m,by simp only [Y8,f,c],q⟩
  cases x with
  | tmp t=>
   refine fin (.tmp fun l=>wD l t) ?_ ?_
   ·intro l h K r q;simp only [KV.hd_eq]at q;exact⟨_,rfl,q⟩
   ·have b:WW E (.tmp t::a) K F=Sel.rec (motive:=fun _=>S) (fun g=>WW E a (fun r=>K (.tmp g::r)) F) (dS t):=rfl;rw [b,BK]
  | cell x t=>
   have b:WW E (.cell x t::a) K F=zq ((E.T t).ok && !(j4 (E.T t).d)) (Sel.rec (motive:=fun _=>S) (fun g=>zq (E.T t).d.agg (nfc (E.T t).sz fun n=>WW E a (fun r=>K (.cell g (V0 n)::r)) F) (WW E a (fun r=>K (.cell g V4::r)) F)) (dS x)) F:=rfl;rw [zo]at b
   by_cases k:((E.T t).ok && !(j4 (E.T t).d))=true
   ·rw [iI k,BK]at b;simp only [zo,zH]at b;simp only [iF,Bool.not_eq_true']at k;have p:(E.T t).ok=true∧(E.T t).d≠ .other:=⟨k.1,bv _ k.2⟩
    by_cases j:(E.T t).d.agg=true
    ·rw [iI j]at b;refine fin (.cell (fun l=>wD l x) (V0 (E.T t).sz)) ?_ b;intro l h K r q;obtain⟨v,w,f,c⟩:=JH (wD l x) (E.T t).sz r q;obtain⟨u,o,i⟩:=iR.1 f;simp only [iW]at i;obtain⟨rfl,rfl⟩:=i;have c:u.hd K=some r:=c;rw [KV.hd_eq]at c;exact⟨u,by simp only [JR,iI p,j,o],c⟩
    ·rw [iH j]at b;rw [Bool.not_eq_true]at j;refine fin (.cell (fun l=>wD l x) V4) ?_ b;intro l h K r q;obtain⟨v,w,f,c⟩:=JM (wD l x) (E.T t).sz r q;obtain⟨u,o,i⟩:=iR.1 f;simp only [iW]at i;obtain⟨rfl,rfl⟩:=i;have c:u.hd K=some r:=c;rw [KV.hd_eq]at c;exact⟨u,by simp only [JR,iI p,j,o],c⟩
   ·rw [iH k]at b; exact .inl b
def cFn (X:QX) (f:FuncId):QFn:=match X.S.F f with
 |none=> .no
 | some fn=>match fn.body with
  |none=> .no
  |some c=>nfc fn.ntmps fun n=>WW X.E fn.results.toList (fun a=> .mk n c a) .no
def rD {X:QX} {f:FuncId} {n:Nat} {c:Code} {a:List QRv} (h:cFn X f= .mk n c a):∃fn,X.S.F f=some fn∧fn.body=some c∧fn.ntmps=n∧G9 X.E a fn.results.toList:=by
 unfold cFn at h;split at h
 ·cases h
 ·rename_i fn l;split at h
  ·cases h
  ·rename_i b k;rw [zH]at h;rcases P3 X.E QFn.no fn.results.toList (fun a=>QFn.mk fn.ntmps b a)with e|⟨s,m,e⟩
   ·rw [e]at h; cases h
   ·rw [e]at h;injection h with g i j;subst g i j;exact⟨fn,l,k,rfl,m⟩
def Ge (b:List KV) (i:Nat) (s:Sl) (K:Sl->QR):QR:=List.rec (motive:=fun _=>Nat->Sl->QR) (fun _ s=>K s) (fun v _ a i s=>Upd.rec (motive:=fun _=>QR) (fun u=>u (fun _ k=>k v) s fun s=>nfc (Nat.succ i) fun i=>a i s) (dU i)) b i s
def VC (K:Sl->QR):∀(a:List KV) (i:Nat) (s:Sl),Ge a i s K=K (GA a i s)
 | [],i,s=>rfl
 | v::a,i,s=>by
  have e:Ge (v::a) i s K=Upd.rec (motive:=fun _=>QR) (fun u=>u (fun _ k=>k v) s fun s=>nfc (Nat.succ i) fun i=>Ge a i s K) (dU i):=rfl;rw [e,lL];simp only [zH];exact VC K a (i+1) _
def my (c:List Tmp) (a:List KV) (n:Nat) (s:Sl) (K:Sl->QR):QR:=
 List.rec (motive:=fun _=>List KV->Sl->QR) (fun _ s=>K s) (fun t _ b a s=>List.rec (motive:=fun _=>QR) (K s) (fun v a _=>zq (Nat.blt t n) (Upd.rec (motive:=fun _=>QR) (fun u=>u (fun _ k=>k v) s fun s=>b a s) (dU t)) (b a s)) a) c a s
def Vm (n:Nat) (c:List KD) (K:Sl->QR):∀(a:List Tmp) (b:List KV) (s:Sl),my a b n s K=K (Ux a b ⟨n,s,c⟩).l∧Ux a b ⟨n,s,c⟩=⟨n,(Ux a b ⟨n,s,c⟩).l,c⟩
 | [],b,s=>⟨rfl,rfl⟩
 |t::a,[],s=>⟨rfl,rfl⟩
 | t::a,v::b,s=>by
  have e:my (t::a) (v::b) n s K=zq (Nat.blt t n) (Upd.rec (motive:=fun _=>QR) (fun u=>u (fun _ k=>k v) s fun s=>my a b n s K) (dU t)) (my a b n s K):=rfl;rw [e,lL,zo];simp only [Ux];have f:(KFr.mk n s c).put (some t) v=bif Nat.blt t n then⟨n,KK s t v,c⟩else⟨n,s,c⟩:=rfl;rw [f]
  cases g:Nat.blt t n with
  |true=>exact Vm n c K a b _
  |false=>exact Vm n c K a b _
def Ql (e:QE) (g:List KD) (h:KH) (K:KH->QR):QR:=List.rec (motive:=fun _=>KH->QR) K
 (fun d _ c h=>KD.rec (motive:=fun _=>QR) (fun fn cap b=>Fn.onFunc fn fun f=>XT b cap fun a=>e.calld f a h c) (fun id=>qg h id fun o=>o.onDefd (pG h id (.defd none) c)) d) g h
def nC (X:QX) (e:QE) (f:FuncId) (args:List KV) (h:KH) (K:QK):QR:=QFn.rec (motive:=fun _=>QR) none (fun n c b=>zq (Nat.ble args.length n) (Ge args 0 .none fun l=>WA X e true n c l [] h fun ex l a h=>
 (fun K=>Exit.rec (motive:=fun _=>QR) K (fun _=>none) (fun _=>none) K (fun _=>none) none ex) (Ql e a h fun h=>Br b l h fun g=>zcC g fun v=>K v h)) none) (cFn X f)
def DT (X:QX) (e:QE) (f:FuncId) (args:List KV) (h:KH) (K:KH->QR):QR:=QFn.rec (motive:=fun _=>QR) none (fun n c b=>zq (Nat.ble args.length n) (Ge args 0 .none fun l=>WA X e true n c l [] h fun ex l a h=>
 (fun K=>Exit.rec (motive:=fun _=>QR) K (fun _=>none) (fun _=>none) K (fun _=>none) none ex) (List.rec (motive:=fun _=>QR) (Br b l h fun _=>K h) (fun _ _ _=>none) a)) none) (cFn X f)
def ol (X:QX) (e:QE) (f:FuncId) (args:List KV) (h:KH) (K:QK):QR:=Option.rec (motive:=fun _=>QR) (nC X e f args h K) (fun g=>Option.rec (motive:=fun _=>QR) none (fun p=>Prod.rec (motive:=fun _=>QR) (fun v h=>K v h) p) (g args h)) (X.C f)
def zaf (ex:Exit) (K:Option Code->QR):QR:=match Y6 ex with|some j=>K j|none=>none
def DJ (X:QX) (e:QE) (id:Nat) (args:List KV) (h:KH) (K:QK):QR:=
 qg h id fun o=>o.onLoop fun L=>L.hd fun L=>zq (Nat.beq args.length L.params.size) (my L.params.toList args L.n L.l fun l=>WA X e false L.n L.assign l [] h fun ex m a g=>
  Exit.onN ex (qg g id fun o=>o.onLoop fun L1=>oZ L1.state ((L1.turned .busy L1.pending).hd fun L1=>pG g id (.loop L1) fun k=>WA X e false L.n L.body m a k fun b n i c=>
   zaf b fun j=>qg c id fun o=>o.onLoop fun L3=>zq j.isNone ((L3.turned .ready j).hd fun L3=>pG c id (.loop L3) fun f=>K (.bool true) f) ((L3.turned .done j).hd fun L3=>pG c id (.loop L3) fun f=>K (.bool false) f))) none) none
def qgo (X:QX) (n:Nat):QE:=Nat.rec (motive:=fun _=>QE) ⟨fun _ _ _ _=>none,fun _ _ _ _=>none,fun _ _ _ _=>none⟩ (fun _ e=>⟨ol X e,DJ X e,DT X e⟩) n
section
variable {P:Program} {X:QX} {e:QE}
def XI (j:e.ok P X):∀(b:List KD) (h:KH) (K:KH->QR) (r:KV×KH),Ql e b h K=some r->∃h',Zv P X.S b h h'∧K h'=some r
 | [],h,K,r,q=>⟨h, .nil,q⟩
 | d ::b,h,K,r,q=>by
  cases d with
  | fn fn cap g=>
   have q:Fn.onFunc fn (fun f=>XT g cap fun a=>e.calld f a h fun h=>Ql e b h K)=some r:=q;cases fn<;>first|(cases q; done)|skip
   rename_i f;simp only [Fn.onFunc,pj]at q;obtain⟨n,⟨fn,c,s,p⟩,k,q⟩:=j.calld _ _ _ _ _ q;obtain⟨i,m,q⟩:=XI j b n K r q;exact⟨i, .fn s p k m,q⟩
  | collected id=>
   have q:qg h id (fun o=>o.onDefd (pG h id (.defd none) fun h=>Ql e b h K))=some r:=q;rw [uO]at q
   cases l:h.get id with
   |none=>rw [l]at q; cases q
   | some o=>
    rw [l]at q;cases o<;>first|(cases q; done)|skip
    rename_i c
    cases c with
    |none=>cases q
    | some cl=>cases cl with
     |cons _ _=>cases q
     | nil=>
      simp only [Option.elim_some,KO.onDefd,bz]at q;obtain⟨i,m,q⟩:=XI j b _ K r q;exact⟨i, .collected l m,q⟩
def zdb {ex:Exit} {a:QR} {r:KV×KH} (q:(fun K=>Exit.rec (motive:=fun _=>QR) K (fun _=>none) (fun _=>none) K (fun _=>none) none ex) a=some r):(ex= .normal∨ex= .ret)∧a=some r:=by
 cases ex<;>first|exact⟨.inl rfl,q⟩|exact⟨.inr rfl,q⟩|cases q
def PH {E:KE} {h:KH} {l:Sl} {b:Array ResultVar} {a:List KV} (e:Y8 E h l b.toList=some a):eX E h l b=some (zcv a):=by
 unfold eX;rw [e]
 match a with
 | []=>rfl
 | [v]=>rfl
 |v::u::r=>rfl
def lA (ok:X.Ok P) (l:e.ok P X) {f:FuncId} {args:List KV} {h:KH} {K:QK} {r:KV×KH} (q:nC X e f args h K=some r):∃v h',(∃fn c,X.S.F f=some fn∧fn.body=some c)∧KCall P f args h v h'∧K v h'=some r:=by
 unfold nC at q
 cases b:cFn X f with
 |no=>rw [b]at q; cases q
 | mk n c x=>
  rw [b]at q;obtain⟨fn,m,j,p,i⟩:=rD b;subst p;simp only [zo,Nat.ble_eq,VC]at q;split at q
  ·rename_i a;obtain⟨ex,w,ds',t,q,k⟩:=Xv (rd:=none) ok l rfl fn.ntmps c _ [] h _ r q;obtain⟨g,q⟩:=zdb q;obtain⟨o,kl,q⟩:=XI l _ _ _ _ q;obtain⟨y,s,q⟩:=i _ _ _ _ q;rw [sx]at q;exact⟨_,o,⟨fn,c,m,j⟩,fJ ok.E ok.S (ok.S.F m).1 j a k g kl (PH s),q⟩
  ·cases q
def lk (ok:X.Ok P) (o:e.ok P X) {f:FuncId} {args:List KV} {h:KH} {K:KH->QR} {r:KV×KH} (q:DT X e f args h K=some r):∃h',(∃fn c,X.S.F f=some fn∧fn.body=some c)∧QJ P f args h h'∧K h'=some r:=by
 unfold DT at q
 cases b:cFn X f with
 |no=>rw [b]at q; cases q
 | mk n c v=>
  rw [b]at q;obtain⟨fn,l,j,p,i⟩:=rD b;subst p;simp only [zo,Nat.ble_eq,VC]at q;split at q
  ·rename_i a;obtain⟨ex,t,ds',m,q,k⟩:=Xv (rd:=none) ok o rfl fn.ntmps c _ [] h _ r q;obtain⟨g,q⟩:=zdb q
   cases ds' with
   |cons _ _=>cases q
   | nil=>
    obtain⟨w,s,q⟩:=i _ _ _ _ q;exact⟨m,⟨fn,c,l,j⟩,lf ok.E (ok.S.F l).1 j a k g rfl (PH s),q⟩
  ·cases q
def fk (ok:X.Ok P) (p:e.ok P X) {id:Nat} {args:List KV} {h:KH} {K:QK} {r:KV×KH} (q:DJ X e id args h K=some r):∃v h',rG P X.E.ng id args h v h'∧K v h'=some r:=by
 unfold DJ at q;rw [uO]at q
 cases i:h.get id with
 |none=>rw [i]at q; cases q
 | some o=>
  rw [i]at q;cases o<;>first|(cases q; done)|skip
  rename_i L;simp only [Option.elim_some,KO.onLoop,ua.hd_eq,zo,Nat.beq_eq]at q;split at q
  ·rename_i f;rw [(Vm L.n [] _ _ _ _).1]at q;obtain⟨ex,C,t,x,q,kA⟩:=Xv (rd:=some id) ok p rfl L.n L.assign _ [] h _ r q;rcases Exit.onN_some q with⟨rfl,q⟩|⟨_,q⟩
   ·rw [uO]at q
    cases a:x.get id with
    |none=>rw [a]at q; cases q
    | some o=>
     rw [a]at q;cases o<;>first|(cases q; done)|skip
     rename_i L1;simp only [Option.elim_some]at q;cases s:L1.state<;>rw [s]at q<;>first|(cases q; done)|skip
     simp only [oZ,ua.turned_eq,bz]at q;obtain⟨g,E,w,n,q,kB⟩:=Xv (rd:=some id) ok p rfl L.n L.body _ _ _ _ r q;unfold zaf at q
     cases m:Y6 g with
     |none=>rw [m]at q; cases q
     | some j=>
      rw [m]at q;simp only [uO]at q
      cases b:n.get id with
      |none=>rw [b]at q; cases q
      | some o=>
       rw [b]at q;cases o<;>first|(cases q; done)|skip
       rename_i L3;simp only [Option.elim_some]at q
       have key:∃v h',v=KV.bool j.isNone∧h'=n.set id (some (.loop {L3 with state:=if j.isNone then .ready else .done,pending:=j}))∧K v h'=some r:=by
        cases j with
        |none=>exact⟨_,_,rfl,rfl,q⟩
        |some c=>exact⟨_,_,rfl,rfl,q⟩
       obtain⟨v,h',rfl,rfl,q⟩:=key;refine⟨_,_, ?_,q⟩;intro rd o l cl fo A z B y;subst y;have k:Ux L.params.toList (cl.args.toList.map (zp X.E.ng l)) L.fr=⟨L.n,(Ux L.params.toList (cl.args.toList.map (zp X.E.ng l)) ⟨L.n,L.l,[]⟩).l,[]⟩:=(Vm L.n [] (fun _=>none) L.params.toList (cl.args.toList.map (zp X.E.ng l)) L.l).2;exact KDo.yield ok.E A z B i (by simpa using f) (by rw [k]; exact kA) a s kB m b
   ·cases q
  ·cases q
def rq (ok:X.Ok P):∀n,(qgo X n).ok P X
 |0=>⟨fun _ _ _ _ _ q=>(by cases q),fun _ _ _ _ _ q=>(by cases q),fun _ _ _ _ _ q=>(by cases q)⟩
 | n + 1=>by
  have c:=rq ok n;refine⟨fun f a h K r q=> ?_,fun id a h K r q=>fk ok c q,fun f a h K r q=>lk ok c q⟩;have q:ol X (qgo X n) f a h K=some r:=q;unfold ol at q
  cases b:X.C f with
  |none=>rw [b]at q; exact lA ok c q
  | some g=>
   rw [b]at q;obtain⟨k,l⟩:=ok.C b;simp only at q
   cases i:g a h with
   |none=>rw [i]at q; cases q
   | some p=>
    obtain⟨v,j⟩:=p;rw [i]at q;exact⟨v,j,k,l i,q⟩
def qgo_call (ok:X.Ok P) {n:Nat} {f:FuncId} {args:List KV} {h h':KH} {v:KV} (q:(qgo X n).call f args h (fun v h=>some (v,h))=some (v,h')):KCall P f args h v h':=by
 obtain⟨b,a,_,k,e⟩:=(rq ok n).call _ _ _ _ _ q;cases e;exact k
end
end Go.K
end
