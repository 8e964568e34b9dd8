/- Closed runs. No condition. -/
import Derived.Test.YtkabooclnoiclaaGreatDoorA29
set_option linter.all false
section
namespace Go.K
structure N16 (α:Type) where
 a0:α
 a1:α
 a2:α
 a3:α
 a4:α
 a5:α
 a6:α
 a7:α
 a8:α
 a9:α
 a10:α
 a11:α
 a12:α
 a13:α
 a14:α
 a15:α
section
variable {α R S:Type}
def N16.get (n:N16 α) (i:Nat):α:=match i with|0=>n.a0|1=>n.a1|2=>n.a2|3=>n.a3|4=>n.a4|5=>n.a5|6=>n.a6|7=>n.a7|8=>n.a8|9=>n.a9|10=>n.a10|11=>n.a11|12=>n.a12|13=>n.a13|14=>n.a14|_=>n.a15
def N16.set (n:N16 α) (i:Nat) (v:α):N16 α:=match n with|⟨j,k,l,m,o,p,q,r,s,t,a,b,c,e,f,g⟩=>match i with|0=>⟨v,k,l,m,o,p,q,r,s,t,a,b,c,e,f,g⟩|1=>⟨j,v,l,m,o,p,q,r,s,t,a,b,c,e,f,g⟩|2=>⟨j,k,v,m,o,p,q,r,s,t,a,b,c,e,f,g⟩|3=>⟨j,k,l,v,o,p,q,r,s,t,a,b,c,e,f,g⟩|4=>⟨j,k,l,m,v,p,q,r,s,t,a,b,c,e,f,g⟩|5=>⟨j,k,l,m,o,v,q,r,s,t,a,b,c,e,f,g⟩|6=>⟨j,k,l,m,o,p,v,r,s,t,a,b,c,e,f,g⟩|7=>⟨j,k,l,m,o,p,q,v,s,t,a,b,c,e,f,g⟩|8=>⟨j,k,l,m,o,p,q,r,v,t,a,b,c,e,f,g⟩|9=>⟨j,k,l,m,o,p,q,r,s,v,a,b,c,e,f,g⟩|10=>⟨j,k,l,m,o,p,q,r,s,t,v,b,c,e,f,g⟩|11=>⟨j,k,l,m,o,p,q,r,s,t,a,v,c,e,f,g⟩|12=>⟨j,k,l,m,o,p,q,r,s,t,a,b,v,e,f,g⟩|13=>⟨j,k,l,m,o,p,q,r,s,t,a,b,c,v,f,g⟩|14=>⟨j,k,l,m,o,p,q,r,s,t,a,b,c,e,v,g⟩|_=>⟨j,k,l,m,o,p,q,r,s,t,a,b,c,e,f,v⟩
def N16.all (v:α):N16 α:=⟨v,v,v,v,v,v,v,v,v,v,v,v,v,v,v,v⟩
def hY {p:Nat->Prop} (j:p 0) (k:p 1) (l:p 2) (m:p 3) (n:p 4) (o:p 5) (q:p 6) (r:p 7) (s:p 8) (t:p 9) (a:p 10) (b:p 11) (c:p 12) (e:p 13) (f:p 14) (g:p 15):∀i,i<16->p i:=by
 intro i v;have:i=0∨i=1∨i=2∨i=3∨i=4∨i=5∨i=6∨i=7∨i=8∨i=9∨i=10∨i=11∨i=12∨i=13∨i=14∨i=15:=by omega
 rcases this with rfl|rfl|rfl|rfl|rfl|rfl|rfl|rfl|rfl|rfl|rfl|rfl|rfl|rfl|rfl|rfl<;>assumption
def N16.get_set (n:N16 α) (v:α) (i j:Nat) (hi:i<16) (y:j<16):(n.set i v).get j=if j=i then v else n.get j:=by
 obtain⟨k,l,m,o,p,q,r,s,t,x,a,b,c,e,f,g⟩:=n
 revert i
 refine hY ?_ ?_ ?_ ?_ ?_ ?_ ?_ ?_ ?_ ?_ ?_ ?_ ?_ ?_ ?_ ?_<;>(revert j; refine hY ?_ ?_ ?_ ?_ ?_ ?_ ?_ ?_ ?_ ?_ ?_ ?_ ?_ ?_ ?_ ?_<;>rfl)
def N16.get_all (v:α) (i:Nat):(N16.all v).get i=v:=by
 unfold N16.get N16.all; split<;>rfl
def UG (i:Nat) (K:(N16 α->α)->S):S:=(bif Nat.blt i 8 then(bif Nat.blt i 4 then(bif Nat.blt i 2 then(bif Nat.blt i 1 then K N16.a0 else K N16.a1)else(bif Nat.blt i 3 then K N16.a2 else K N16.a3))else(bif Nat.blt i 6 then(bif Nat.blt i 5 then K N16.a4 else K N16.a5)else(bif Nat.blt i 7 then K N16.a6 else K N16.a7)))else(bif Nat.blt i 12 then(bif Nat.blt i 10 then(bif Nat.blt i 9 then K N16.a8 else K N16.a9)else(bif Nat.blt i 11 then K N16.a10 else K N16.a11))else(bif Nat.blt i 14 then(bif Nat.blt i 13 then K N16.a12 else K N16.a13)else(bif Nat.blt i 15 then K N16.a14 else K N16.a15))))
def df (K:(N16 α->α)->S):∀i,i<16->UG i K=K fun n=>n.get i:=by
 refine hY ?_ ?_ ?_ ?_ ?_ ?_ ?_ ?_ ?_ ?_ ?_ ?_ ?_ ?_ ?_ ?_<;>rfl
abbrev N256 (α:Type):=N16 (N16 α)
def N256.get (m:N256 α) (i:Nat):α:=(N16.get m (i/16)).get (i%16)
def N256.set (m:N256 α) (i:Nat) (v:α):N256 α:=N16.set m (i/16) ((N16.get m (i/16)).set (i%16) v)
def N256.all (v:α):N256 α:=N16.all (N16.all v)
def N256.get_all (v:α) (i:Nat):(N256.all v).get i=v:=by unfold N256.get N256.all; rw [N16.get_all,N16.get_all]
def N256.get_set (m:N256 α) (v:α) (i j:Nat) (hi:i<256) (b:j<256):(m.set i v).get j=if j=i then v else m.get j:=by
 unfold N256.set N256.get;rw [N16.get_set _ _ _ _ (by omega) (by omega)]
 by_cases h:j/16=i/16
 ·rw [iI h,N16.get_set _ _ _ _ (by omega) (by omega)]
  by_cases a:j%16=i%16
  ·rw [iI a,iI (by omega)]
  ·rw [iH a,iH (by omega),h]
 ·rw [iH h,iH (by omega)]
abbrev N64k (α:Type):=N256 (N256 (Option α))
def N64k.get (m:N64k α) (i:Nat):Option α:=if i<65536 then(N256.get m (i/256)).get (i%256)else none
def N64k.set (m:N64k α) (i:Nat) (v:Option α):N64k α:=if i<65536 then N256.set m (i/256) ((N256.get m (i/256)).set (i%256) v)else m
def N64k.empty:N64k α:=N256.all (N256.all none)
def N64k.get_empty (i:Nat):(N64k.empty:N64k α).get i=none:=by
 unfold N64k.get N64k.empty;split
 ·rw [N256.get_all,N256.get_all]
 ·rfl
def N64k.get_set (m:N64k α) (v:Option α) (i j:Nat) (hi:i<65536):(m.set i v).get j=if j=i then v else m.get j:=by
 unfold N64k.set N64k.get;rw [iI hi]
 by_cases a:j<65536
 ·rw [iI a,N256.get_set _ _ _ _ (by omega) (by omega)]
  by_cases h:j/256=i/256
  ·rw [iI h,N256.get_set _ _ _ _ (by omega) (by omega)]
   by_cases b:j%256=i%256
   ·rw [iI b,iI (by omega)]
   ·rw [iH b,iH (by omega),h,iI a]
  ·rw [iH h,iH (by omega),iI a]
 ·rw [iH a,iH a,iH (by omega)]
end
end Go.K
end
section
namespace Go.K
open Go.Abs
def zi:List UInt8->Nat
 | []=>0
 |b::r=>b.toNat+256*zi r
inductive KV where
 |junk
 |bool (b:Bool)
 |int (k:IntKind) (n:Int)
 |str (n s:Nat)
 |ptr (id off:Nat)
 |nilp
 |sl (id off len:Nat) (cap:Option Nat) (sz:Nat)
 |slz
 |nilsl
 |func (fn:Fn) (first captured:List KV)
 |nilfunc
 |yield (id:Nat)
 |agg (cs:List KV)
 |tuple (vs:List KV)
 |map (id:Nat)
 |nilmap
 |iface (t:TypeId) (v:KV)
 |niliface
 deriving Inhabited
def KV.cells:KV->List KV
 | .agg a=>a
 |v=> [v]
structure Gh where
 at_:Nat->Option (Nat×Nat)
 room:Nat->Nat
structure Gh.le (G G':Gh):Prop where
 at_:∀ {i x},G.at_ i=some x->G'.at_ i=some x
 room:∀ {i x},G.at_ i=some x->G'.room i=G.room i
def Gh.le.refl (G:Gh):G.le G:=⟨id,fun _=>rfl⟩
def Gh.le.trans {G G' G'':Gh} (h:G.le G') (k:G'.le G''):G.le G'':=⟨fun x=>k.at_ (h.at_ x),fun x=>(k.room (h.at_ x)).trans (h.room x)⟩
inductive KR (G:Gh):KV->Value->Prop
 |junk (c:Value):KR G .junk c
 |bool (b:Bool):KR G (.bool b) (.bool b)
 |int (k:IntKind) (n:Int):KR G (.int k n) (.int k n)
 |str (s:ByteArray):KR G (.str s.size (zi s.data.toList)) (.string s)
 |ptr {id off b o:Nat}:G.at_ id=some (b,o)->KR G (.ptr id off) (.pointer (some ⟨b,o+off,none⟩))
 |nilp:KR G .nilp (.pointer none)
 | sl {id off len cap sz b o:Nat} {c:Option Nat}:G.at_ id=some (b,o)->len<=cap->off+cap*sz<=G.room id->(∀x,c=some x->x=cap) ->
   KR G (.sl id off len c sz) (.slice (some ⟨b,o+off,none⟩) len cap)
 |slz (a:Addr) (cap:Nat):KR G .slz (.slice (some a) 0 cap)
 |nilsl:KR G .nilsl (.slice none 0 0)
 | func {fn:Fn} {f1 f2:List KV} {c1 c2:Array Value}:f1.length=c1.size->(∀(i:Nat) (v:KV) (c:Value),f1[i]? =some v->c1[i]? =some c->KR G v c) ->
   f2.length=c2.size->(∀(i:Nat) (v:KV) (c:Value),f2[i]? =some v->c2[i]? =some c->KR G v c)->KR G (.func fn f1 f2) (.func fn c1 c2)
 |nilfunc:KR G .nilfunc .nilFunc
 |yield {id b k:Nat}:G.at_ id=some (b,k)->KR G (.yield id) (.func (.yield b) #[] #[])
 |agg {cs:List KV} {c:Array Value}:cs.length=c.size->(∀(i:Nat) (v:KV) (x:Value),cs[i]? =some v->c[i]? =some x->KR G v x)->KR G (.agg cs) (.agg c)
 |tuple {cs:List KV} {c:Array Value}:cs.length=c.size->(∀(i:Nat) (v:KV) (x:Value),cs[i]? =some v->c[i]? =some x->KR G v x)->KR G (.tuple cs) (.tuple c)
 |map {id b o:Nat}:G.at_ id=some (b,o)->KR G (.map id) (.map (some b))
 |nilmap:KR G .nilmap (.map none)
 |iface {t:TypeId} {v:KV} {c:Value}:KR G v c->KR G (.iface t v) (.iface t c)
 |niliface:KR G .niliface .nilIface
def KRs (G:Gh) (a:List KV) (cs:Array Value):Prop:=
 a.length=cs.size∧∀(i:Nat) (v:KV) (c:Value),a[i]? =some v->cs[i]? =some c->KR G v c
def KR.le {G G':Gh} (h:G.le G') {v:KV} {c:Value} (k:KR G v c):KR G' v c:=by
 induction k with
 |junk c=>exact .junk c
 |bool b=>exact .bool b
 |int k n=>exact .int k n
 |str s=>exact .str s
 |ptr a=>exact .ptr (h.at_ a)
 |nilp=>exact .nilp
 |sl a l r c=>exact .sl (h.at_ a) l (by rw [h.room a]; exact r) c
 |slz a c=>exact .slz a c
 |nilsl=>exact .nilsl
 |func g _ j _ e f=>exact .func g e j f
 |nilfunc=>exact .nilfunc
 |yield a=>exact .yield (h.at_ a)
 |agg l _ i=>exact .agg l i
 |tuple l _ i=>exact .tuple l i
 |map a=>exact .map (h.at_ a)
 |nilmap=>exact .nilmap
 |iface _ i=>exact .iface i
 |niliface=>exact .niliface
def KRs.le {G G':Gh} (h:G.le G') {a:List KV} {cs:Array Value} (k:KRs G a cs):KRs G' a cs:=⟨k.1,fun i v c b e=>(k.2 i v c b e).le h⟩
inductive KD where
 |fn (fn:Fn) (captured args:List KV)
 |collected (id:Nat)
 deriving Inhabited
inductive KD.R (G:Gh):KD->Deferred->Prop
 |fn {fn:Fn} {c:List KV} {cc:Array Value} {a:List KV} {ca:Array Value}:KRs G c cc->KRs G a ca->KD.R G (.fn fn c a) ⟨.fn fn cc,ca⟩
 |collected {id b o:Nat}:G.at_ id=some (b,o)->KD.R G (.collected id) ⟨.collected b, #[]⟩
inductive KDs (G:Gh):List KD->List Deferred->Prop
 |nil:KDs G [] []
 |cons {d:KD} {x:Deferred} {l:List KD} {r:List Deferred}:d.R G x->KDs G l r->KDs G (d::l) (x::r)
def KD.R.le {G G':Gh} (h:G.le G') {d:KD} {x:Deferred}:d.R G x->d.R G' x
 | .fn a b=> .fn (a.le h) (b.le h)
 | .collected a=> .collected (h.at_ a)
def KDs.le {G G':Gh} (h:G.le G') {d:List KD} {x:List Deferred} (k:KDs G d x):KDs G' d x:=by
 induction k with
 |nil=>exact .nil
 |cons a _ i=>exact .cons (a.le h) i
def jJ (a b:Nat):Nat.beq a b=decide (a=b):=by
 rw [Bool.eq_iff_iff,Nat.beq_eq,iJ]
structure Sl where
 lo:N256 KV
 hi:List (Nat×KV)
def yG:List (Nat×KV)->Nat->KV
 | [],_=> .junk
 |(k,v)::r,t=>bif Nat.beq k t then v else yG r t
def Zs:List (Nat×KV)->Nat->KV->List (Nat×KV)
 | [],d,v=> [(d,v)]
 |(k,x)::r,d,v=>bif Nat.beq k d then(d,v)::r else(k,x)::Zs r d v
def bj (l:List (Nat×KV)) (d:Nat) (v:KV) (t:Nat):yG (Zs l d v) t=if t=d then v else yG l t:=by
 induction l with
 |nil=>simp only [Zs,yG,jJ,Bool.cond_decide,eq_comm]
 | cons x r c=>
  obtain⟨k,y⟩:=x;simp only [Zs,jJ,Bool.cond_decide]
  by_cases b:k=d
  ·subst b;simp only [if_true,yG,jJ,Bool.cond_decide]
   by_cases a:t=k
   ·subst a; simp
   ·simp [a,Ne.symm a]
  ·simp only [b,if_false,yG,jJ,Bool.cond_decide,c]
   by_cases a:t=d
   ·subst a; simp [b]
   ·simp [a]
def Sl.none:Sl:=⟨N256.all .junk,[]⟩
def wD (s:Sl) (t:Nat):KV:=if t<256 then N256.get s.lo t else yG s.hi t
def KK (s:Sl) (d:Nat) (v:KV):Sl:=if d<256 then⟨N256.set s.lo d v,s.hi⟩else⟨s.lo,Zs s.hi d v⟩
def fK (t:Nat):wD Sl.none t= .junk:=by
 unfold wD Sl.none;split
 ·exact N256.get_all _ _
 ·rfl
def Wo (l:Sl) (d:Nat) (v:KV) (t:Nat):wD (KK l d v) t=if t=d then v else wD l t:=by
 unfold wD KK
 by_cases hd:d<256
 ·rw [iI hd]
  by_cases a:t<256
  ·rw [iI a,iI a]; exact N256.get_set _ _ _ _ hd a
  ·rw [iH a,iH a,iH (by omega)]
 ·rw [iH hd]
  by_cases a:t<256
  ·rw [iI a,iI a,iH (by omega)]
  ·rw [iH a,iH a]; exact bj _ _ _ _
def N16.only (n:N16 KV) (p:Nat->Bool):N16 KV:=⟨bif p 0 then n.a0 else .junk,bif p 1 then n.a1 else .junk,bif p 2 then n.a2 else .junk,bif p 3 then n.a3 else .junk,bif p 4 then n.a4 else .junk,bif p 5 then n.a5 else .junk,bif p 6 then n.a6 else .junk,bif p 7 then n.a7 else .junk,bif p 8 then n.a8 else .junk,bif p 9 then n.a9 else .junk,bif p 10 then n.a10 else .junk,bif p 11 then n.a11 else .junk,bif p 12 then n.a12 else .junk,bif p 13 then n.a13 else .junk,bif p 14 then n.a14 else .junk,bif p 15 then n.a15 else .junk⟩
def N16.get_only (n:N16 KV) (p:Nat->Bool):∀i,i<16->(n.only p).get i=if p i then n.get i else .junk:=by
 have e:∀(b:Bool) (x y:KV),(bif b then x else y)=if b then x else y:=fun b x y=>by cases b<;>rfl
 refine hY ?_ ?_ ?_ ?_ ?_ ?_ ?_ ?_ ?_ ?_ ?_ ?_ ?_ ?_ ?_ ?_<;>exact e _ _ _
def Sl.filter (s:Sl) (p:Nat->Bool):Sl:=⟨⟨s.lo.a0.only fun i=>p (0+i),s.lo.a1.only fun i=>p (16+i),s.lo.a2.only fun i=>p (32+i),s.lo.a3.only fun i=>p (48+i),s.lo.a4.only fun i=>p (64+i),s.lo.a5.only fun i=>p (80+i),s.lo.a6.only fun i=>p (96+i),s.lo.a7.only fun i=>p (112+i),s.lo.a8.only fun i=>p (128+i),s.lo.a9.only fun i=>p (144+i),s.lo.a10.only fun i=>p (160+i),s.lo.a11.only fun i=>p (176+i),s.lo.a12.only fun i=>p (192+i),s.lo.a13.only fun i=>p (208+i),s.lo.a14.only fun i=>p (224+i),s.lo.a15.only fun i=>p (240+i)⟩,s.hi.filter fun x=>p x.1⟩
def BG (l:List (Nat×KV)) (p:Nat->Bool) (t:Nat):yG (l.filter fun x=>p x.1) t=if p t then yG l t else .junk:=by
 induction l with
 |nil=>simp [yG]
 | cons x r c=>
  obtain⟨k,v⟩:=x;simp only [List.filter_cons]
  by_cases a:p k=true
  ·simp only [a,if_true,yG,jJ,Bool.cond_decide]
   by_cases b:k=t
   ·subst b; simp [a]
   ·simp only [b,if_false,c]
  ·simp only [a,yG,if_false,iT,jJ,Bool.cond_decide]
   by_cases b:k=t
   ·subst b; rw [c,iH a,iH a]
   ·simp only [b,if_false,c]
def qW (l:Sl) (p:Nat->Bool) (t:Nat):wD (l.filter p) t=if p t then wD l t else .junk:=by
 unfold wD
 by_cases e:t<256
 ·rw [iI e,iI e]
  have key:∀a,a<16->∀b,b<16->(N16.get (N16.get (l.filter p).lo a) b)=if p (16*a+b)then N16.get (N16.get l.lo a) b else .junk:=by
   refine hY ?_ ?_ ?_ ?_ ?_ ?_ ?_ ?_ ?_ ?_ ?_ ?_ ?_ ?_ ?_ ?_
   ·exact fun b c=>N16.get_only l.lo.a0 (fun i=>p (0+i)) b c
   ·exact fun b c=>N16.get_only l.lo.a1 (fun i=>p (16+i)) b c
   ·exact fun b c=>N16.get_only l.lo.a2 (fun i=>p (32+i)) b c
   ·exact fun b c=>N16.get_only l.lo.a3 (fun i=>p (48+i)) b c
   ·exact fun b c=>N16.get_only l.lo.a4 (fun i=>p (64+i)) b c
   ·exact fun b c=>N16.get_only l.lo.a5 (fun i=>p (80+i)) b c
   ·exact fun b c=>N16.get_only l.lo.a6 (fun i=>p (96+i)) b c
   ·exact fun b c=>N16.get_only l.lo.a7 (fun i=>p (112+i)) b c
   ·exact fun b c=>N16.get_only l.lo.a8 (fun i=>p (128+i)) b c
   ·exact fun b c=>N16.get_only l.lo.a9 (fun i=>p (144+i)) b c
   ·exact fun b c=>N16.get_only l.lo.a10 (fun i=>p (160+i)) b c
   ·exact fun b c=>N16.get_only l.lo.a11 (fun i=>p (176+i)) b c
   ·exact fun b c=>N16.get_only l.lo.a12 (fun i=>p (192+i)) b c
   ·exact fun b c=>N16.get_only l.lo.a13 (fun i=>p (208+i)) b c
   ·exact fun b c=>N16.get_only l.lo.a14 (fun i=>p (224+i)) b c
   ·exact fun b c=>N16.get_only l.lo.a15 (fun i=>p (240+i)) b c
  have:=key (t/16) (by omega) (t%16) (by omega);rw [show 16*(t/16)+t%16=t by omega]at this;exact this
 ·rw [iH e,iH e]; exact BG _ _ _
structure SlR (G:Gh) (n:Nat) (l:Sl) (a:Array Value):Prop where
 size:a.size=n
 slot:∀t,KR G (wD l t) (a.getD t undef)
def SlR.le {G G':Gh} (h:G.le G') {n:Nat} {l:Sl} {a:Array Value} (k:SlR G n l a):SlR G' n l a:=⟨k.size,fun t=>(k.slot t).le h⟩
def SlR.put {G:Gh} {n:Nat} {l:Sl} {a:Array Value} (k:SlR G n l a) (d:Nat) {v:KV} {c:Value} (e:KR G v c) (hd:d<n):SlR G n (KK l d v) (a.setIfInBounds d c):=by
 refine⟨by rw [Array.size_setIfInBounds]; exact k.size,fun t=> ?_⟩;rw [Wo];have f:=k.size
 by_cases b:t=d
 ·subst b;rw [iI rfl]
  have:(a.setIfInBounds t c).getD t undef=c:=by
   rw [Array.getD_eq_getD_getElem?,Array.getElem?_setIfInBounds_self_of_lt (by omega)]; rfl
  rw [this]; exact e
 ·rw [iH b]
  have:(a.setIfInBounds d c).getD t undef=a.getD t undef:=by
   rw [Array.getD_eq_getD_getElem?,Array.getD_eq_getD_getElem?,Array.getElem?_setIfInBounds_ne (Ne.symm b)]
  rw [this]; exact k.slot t
structure ua where
 state:LoopState
 pending:Option Code
 n:Nat
 l:Sl
 params:Array Tmp
 assign:Code
 body:Code
 defers:Nat
inductive KO where
 |cells (ro:Bool) (cs:List KV)
 |map (es:List (KV×KV×Nat)) (clk:Nat)
 |sit (n s pos:Nat)
 |mit (m:Option Nat) (since:Nat) (seen:List Nat) (last:Nat)
 |loop (l:ua)
 |defd (calls:Option (List KD))
def KO.ro:KO->Bool
 | .cells ro _=>ro
 |_=>false
inductive KEs (G:Gh):List (KV×KV×Nat)->List MapEntry->Prop
 |nil:KEs G [] []
 |cons {k v:KV} {b:Nat} {ck cv:Value} {es:List (KV×KV×Nat)} {r:List MapEntry}:KR G k ck->KR G v cv->KEs G es r->KEs G ((k,v,b)::es) (⟨ck,cv,b⟩::r)
def KEs.le {G G':Gh} (h:G.le G') {es:List (KV×KV×Nat)} {r:List MapEntry} (k:KEs G es r):KEs G' es r:=by
 induction k with
 |nil=>exact .nil
 |cons a b _ i=>exact .cons (a.le h) (b.le h) i
def GZ (fz:Nat×Nat) (n:Nat):Prop:=∀i,i<n->¬(fz.1<=i∧i<fz.2)
def GZ.zero (n:Nat):GZ (0,0) n:=fun i _ h=>Nat.not_lt_zero _ h.2
inductive KO.R (G:Gh) (room o:Nat):KO->Obj->Prop
 | cells {ro:Bool} {cs:List KV} {C:Array Value} {el:TypeId} {fz:Nat×Nat}:cs.length<=room->o+room<=C.size->(ro=false->GZ fz C.size) ->
   (∀(i:Nat) (v:KV) (c:Value),cs[i]? =some v->C[o+i]? =some c->KR G v c)->KO.R G room o (.cells ro cs) (.cells C el fz)
 |map {es:List (KV×KV×Nat)} {ent:Array MapEntry} {clk:Nat}:KEs G es ent.toList->KO.R G room o (.map es clk) (.map ent clk)
 |sit (s:ByteArray) (pos:Nat):o=0->KO.R G room o (.sit s.size (zi s.data.toList) pos) (.stringIter s pos)
 | mit {m:Option Nat} {cm:Option Nat} {since:Nat} {seen:List Nat} {last:Nat}:o=0->(m=none∧cm=none∨∃i b k,m=some i∧cm=some b∧G.at_ i=some (b,k)) ->
   KO.R G room o (.mit m since seen last) (.mapIter cm since seen.toArray last)
 | loop {l:ua} {L:Loop} {k:Nat}:l.state=L.state->l.pending=L.pending->SlR G l.n l.l L.tmps->l.params=L.params->l.assign=L.assign->l.body=L.body ->
   G.at_ l.defers=some (L.defers,k)->KO.R G room o (.loop l) (.loop L)
 |defd0:KO.R G room o (.defd none) (.deferred none)
 |defd {ds:List KD} {r:List Deferred}:KDs G ds r->KO.R G room o (.defd (some ds)) (.deferred (some r))
def KO.R.le {G G':Gh} (h:G.le G') {room o:Nat} {x:KO} {y:Obj}:KO.R G room o x y->KO.R G' room o x y
 | .cells a b c d=> .cells a b c fun i v x n q=>(d i v x n q).le h
 | .map a=> .map (a.le h)
 | .sit s p z=> .sit s p z
 | .mit z a=> .mit z (a.imp id fun⟨i,b,k,j,l,m⟩=>⟨i,b,k,j,l,h.at_ m⟩)
 | .loop a b d e f g i=> .loop a b (d.le h) e f g (h.at_ i)
 | .defd0=> .defd0
 | .defd a=> .defd (a.le h)
structure KH where
 t:N64k KO
 next:Nat
def KH.get (h:KH) (id:Nat):Option KO:=N64k.get h.t id
def KH.set (h:KH) (id:Nat) (o:Option KO):KH:=⟨N64k.set h.t id o,h.next⟩
def KH.push (h:KH) (o:KO):KH:=⟨N64k.set h.t h.next (some o),h.next+1⟩
structure KRel (B:xi) (G:Gh) (h:KH) (w:World):Prop where
 kept:ZU B w
 blk:∀id o,h.get id=some o->∃b k ob,G.at_ id=some (b,k)∧(o.ro=false->B.mine b)∧w.heap[b]? =some ob∧o.R G (G.room id) k ob
 lt:∀id b k,G.at_ id=some (b,k)->b<w.heap.size∧id<h.next
 sep:∀i j oi oj b ki kj,h.get i=some oi->h.get j=some oj->G.at_ i=some (b,ki)->G.at_ j=some (b,kj)->i=j∨(oi.ro=true∧oj.ro=true)
 top:h.next<65000
 res:∀id o b k,h.get id=some o->G.at_ id=some (b,k)->B.I b 0=none∨B.w.heap.size<=b
def heap_lt {w:World} {b:Nat} {o:Obj} (h:w.heap[b]? =some o):b<w.heap.size:=Go.Abs.heap_lt h
section
variable {B:xi} {G:Gh} {h:KH} {w:World}
def KRel.id_lt (r:KRel B G h w) {id:Nat} {o:KO} (e:h.get id=some o):id<h.next:=by
 obtain⟨b,k,_,a,_⟩:=r.blk id o e;exact(r.lt _ _ _ a).2
def KRel.fresh (r:KRel B G h w):G.at_ h.next=none:=by
 cases e:G.at_ h.next with
 |none=>rfl
 |some x=>obtain⟨b,k⟩:=x; exact absurd (r.lt _ _ _ e).2 (Nat.lt_irrefl _)
def get_set (h:KH) {id:Nat} (hi:id<65000) (o:Option KO) (j:Nat):(h.set id o).get j=if j=id then o else h.get j:=N64k.get_set _ _ _ _ (by omega)
def qS (h:KH) (hi:h.next<65000) (o:KO) (j:Nat):(h.push o).get j=if j=h.next then some o else h.get j:=N64k.get_set _ _ _ _ (by omega)
def KRel.of_heap (r:KRel B G h w) {w':World} (a:w'.heap=w.heap) (b:w'.os=w.os) (e:w'.tape=w.tape) (c:w'.output=w.output):KRel B G h w' where
 kept:=r.kept.step b e c (by rw [a]; exact iP _) (fun k _ _=>by rw [a])
 blk:=by rw [a]; exact r.blk
 lt:=by rw [a]; exact r.lt
 sep:=r.sep
 top:=r.top
 res:=r.res
def KRel.drop (r:KRel B G h w) {id:Nat} (hi:id<h.next):KRel B G (h.set id none) w where
 kept:=r.kept
 blk:=fun j o e=>by
  rw [get_set h (by have:=r.top; omega)]at e;split at e
  ·cases e
  ·exact r.blk j o e
 lt:=r.lt
 sep:=fun i j oi oj b ki kj c f=>by
  rw [get_set h (by have:=r.top; omega)]at c f;split at c
  ·cases c
  ·split at f
   ·cases f
   ·exact r.sep i j oi oj b ki kj c f
 top:=r.top
 res:=fun j o b k e a=>by
  rw [get_set h (by have:=r.top; omega)]at e;split at e
  ·cases e
  ·exact r.res j o b k e a
def KRel.junk (r:KRel B G h w) (o:Obj):KRel B G h (w.alloc o) where
 kept:=r.kept.alloc o
 blk:=fun id x e=>by
  obtain⟨b,k,ob,c,f,a,g⟩:=r.blk id x e;refine⟨b,k,ob,c,f, ?_,g⟩;rw [Go.RowKit.Below.heap_alloc _ _ _ (heap_lt a)]; exact a
 lt:=fun id b k e=>⟨by have:=(r.lt id b k e).1; show b<(w.heap.push o).size; simp; omega,(r.lt id b k e).2⟩
 sep:=r.sep
 top:=r.top
 res:=r.res
def Gh.new (G:Gh) (id:Nat) (x:Nat×Nat) (room:Nat):Gh:=⟨fun i=>if i=id then some x else G.at_ i,fun i=>if i=id then room else G.room i⟩
def Gh.new_le (G:Gh) {id:Nat} (b:G.at_ id=none) (x:Nat×Nat) (room:Nat):G.le (G.new id x room) where
 at_:=fun {i y} e=>by
  show(if i=id then _ else _)=_
  by_cases a:i=id
  ·subst a; rw [b]at e; cases e
  ·rw [iH a]; exact e
 room:=fun {i y} e=>by
  show(if i=id then _ else _)=_
  by_cases a:i=id
  ·subst a; rw [b]at e; cases e
  ·rw [iH a]
def Gh.new_at (G:Gh) (id:Nat) (x:Nat×Nat) (room:Nat):(G.new id x room).at_ id=some x:=iI rfl
def Gh.new_room (G:Gh) (id:Nat) (x:Nat×Nat) (room:Nat):(G.new id x room).room id=room:=iI rfl
def KRel.alloc (r:KRel B G h w) (E:h.next+1<65000) {o:KO} {ob:Obj} {room:Nat} (F:o.R (G.new h.next (w.heap.size,0) room) room 0 ob):
  KRel B (G.new h.next (w.heap.size,0) room) (h.push o) (w.alloc ob) where
 kept:=r.kept.alloc ob
 blk:=fun id x e=>by
  rw [qS h r.top]at e
  by_cases c:id=h.next
  ·subst c;rw [iI rfl]at e; cases e;refine⟨w.heap.size,0,ob,Gh.new_at _ _ _ _,fun _=> .inl r.kept.size, ?_, ?_⟩
   ·show(w.heap.push ob)[w.heap.size]? =some ob; simp
   ·rw [Gh.new_room]; exact F
  ·rw [iH c]at e;obtain⟨b,k,ob',f,m,t,C⟩:=r.blk id x e;have s:=Gh.new_le G r.fresh (w.heap.size,0) room;refine⟨b,k,ob',s.at_ f,m, ?_, ?_⟩
   ·rw [Go.RowKit.Below.heap_alloc _ _ _ (heap_lt t)]; exact t
   ·rw [s.room f]; exact C.le s
 lt :=fun id b k e=>by
  by_cases c:id=h.next
  ·subst c;rw [Gh.new_at]at e; cases e;exact⟨by show _<(w.heap.push ob).size; simp,Nat.lt_succ_self _⟩
  ·have A:G.at_ id=some (b,k):=by
    have:(G.new h.next (w.heap.size,0) room).at_ id=G.at_ id:=iH c;rw [<-this]; exact e
   have:=r.lt id b k A;exact⟨by show _<(w.heap.push ob).size; simp; omega,Nat.lt_succ_of_lt this.2⟩
 sep :=fun i j oi oj b ki kj f m p n=>by
  rw [qS h r.top]at f m
  have old:∀ {x y z},x≠h.next->(G.new h.next (w.heap.size,0) room).at_ x=some (y,z)->G.at_ x=some (y,z):=fun {x y z} H e=>by
   have:(G.new h.next (w.heap.size,0) room).at_ x=G.at_ x:=iH H;rw [<-this]; exact e
  by_cases c:i=h.next
  ·by_cases g:j=h.next
   ·exact .inl (c.trans g.symm)
   ·have q:=old g n;have:=(r.lt _ _ _ q).1;subst c;rw [Gh.new_at]at p; cases p;exact absurd this (Nat.lt_irrefl _)
  ·have l:=old c p
   by_cases g:j=h.next
   ·have:=(r.lt _ _ _ l).1;subst g;rw [Gh.new_at]at n; cases n;exact absurd this (Nat.lt_irrefl _)
   ·rw [iH c]at f; rw [iH g]at m;exact r.sep i j oi oj b ki kj f m l (old g n)
 top:=E
 res :=fun id x b k e a=>by
  rw [qS h r.top]at e
  by_cases c:id=h.next
  ·subst c;rw [Gh.new_at]at a; cases a;exact .inr r.kept.size
  ·rw [iH c]at e
   have v:G.at_ id=some (b,k):=by
    have:(G.new h.next (w.heap.size,0) room).at_ id=G.at_ id:=iH c;rw [<-this]; exact a
   exact r.res id x b k e v
def KRel.chg (r:KRel B G h w) {id b k:Nat} {o o':KO} {ob:Obj} {w':World} (t:h.get id=some o) (n:o.ro=false) (E:o'.ro=false) (s:G.at_ id=some (b,k))
  (p:Chg w w' b ob) (L:o'.R G (G.room id) k ob):KRel B G (h.set id (some o')) w':=by
 have K:=r.id_lt t;have F:=r.top
 have hmine:B.mine b:=by
  obtain⟨c,q,_,l,m,_⟩:=r.blk id o t;rw [s]at l; cases l;exact m n
 refine⟨r.kept.step p.os p.tape p.output (by rw [p.size]; exact iP _) (fun x _ M=>p.other x (fun e=>M (e▸hmine))), ?_, ?_, ?_,r.top, ?_⟩
 ·intro j x e;rw [get_set h (by omega)]at e
  by_cases f:j=id
  ·subst f;rw [iI rfl]at e; cases e;exact⟨b,k,ob,s,fun _=>hmine,p.at_,L⟩
  ·rw [iH f]at e;obtain⟨c,q,ob',l,m,H,I⟩:=r.blk j x e
   have z:c≠b:=by
    intro z; subst z;rcases r.sep j id x o c q k e t l s with g|⟨_,C⟩
    ·exact f g
    ·rw [n]at C; cases C
   exact⟨c,q,ob',l,m,by rw [p.other c z]; exact H,I⟩
 ·intro j c q e;rw [p.size]; exact r.lt j c q e
 ·intro i j oi oj c ki kj l m v y;rw [get_set h (by omega)]at l m
  by_cases A:i=id
  ·by_cases f:j=id
   ·exact .inl (A.trans f.symm)
   ·rw [iH f]at m;subst A;rw [s]at v; cases v;rcases r.sep i j o oj _ _ _ t m s y with g|⟨g,_⟩
    ·exact .inl g
    ·rw [n]at g; cases g
  ·rw [iH A]at l
   by_cases f:j=id
   ·subst f;rw [s]at y; cases y;rcases r.sep i j oi o _ _ _ l t v s with g|⟨_,g⟩
    ·exact .inl g
    ·rw [n]at g; cases g
   ·rw [iH f]at m;exact r.sep i j oi oj c ki kj l m v y
 ·intro j x c q e a;rw [get_set h (by omega)]at e
  by_cases f:j=id
  ·subst f; exact r.res _ o c q t a
  ·rw [iH f]at e; exact r.res j x c q e a
def KRel.move (r:KRel B G h w) (T:h.next+1<65000) {id b k k' room:Nat} {o o':KO} {ob:Obj} {w':World} (F:h.get id=some o) (t:o.ro=false) (L:o'.ro=false) (E:G.at_ id=some (b,k))
  (p:Chg w w' b ob) (U:o'.R (G.new h.next (b,k') room) room k' ob):KRel B (G.new h.next (b,k') room) ((h.set id none).push o') w':=by
 have Q:=r.id_lt F;have M:=r.top
 have hmine:B.mine b:=by
  obtain⟨f,k',_,g,l,_⟩:=r.blk id o F;rw [E]at g; cases g;exact l t
 have H:=Gh.new_le G r.fresh (b,k') room
 have old:∀ {x y z},x≠h.next->(G.new h.next (b,k') room).at_ x=some (y,z)->G.at_ x=some (y,z):=fun {x y z} I e=>by
  have:(G.new h.next (b,k') room).at_ x=G.at_ x:=iH I;rw [<-this]; exact e
 have gp:∀j,((h.set id none).push o').get j=if j=h.next then some o' else if j=id then none else h.get j:=fun j=>by
  rw [qS _ (by exact r.top),get_set h (by omega)]; rfl
 have s:∀j x f kj,j≠id->h.get j=some x->G.at_ j=some (f,kj)->f≠b:=by
  intro j x f kj c e g s; subst s;rcases r.sep j id x o f kj k e F g E with P|⟨_,K⟩
  ·exact c P
  ·rw [t]at K; cases K
 refine⟨r.kept.step p.os p.tape p.output (by rw [p.size]; exact iP _) (fun x _ I=>p.other x (fun e=>I (e▸hmine))), ?_, ?_, ?_,T, ?_⟩
 ·intro j x e;rw [gp]at e
  by_cases c:j=h.next
  ·subst c;rw [iI rfl]at e; cases e;exact⟨b,k',ob,Gh.new_at _ _ _ _,fun _=>hmine,p.at_,by rw [Gh.new_room]; exact U⟩
  ·rw [iH c]at e
   by_cases n:j=id
   ·rw [iI n]at e; cases e
   ·rw [iH n]at e;obtain⟨f,v,ob',g,l,N,O⟩:=r.blk j x e;exact⟨f,v,ob',H.at_ g,l,by rw [p.other f (s j x f v n e g)]; exact N,by rw [H.room g]; exact O.le H⟩
 ·intro j f kj e;rw [p.size]
  by_cases c:j=h.next
  ·subst c;rw [Gh.new_at]at e; cases e;exact⟨(r.lt _ _ _ E).1,Nat.lt_succ_self _⟩
  ·exact⟨(r.lt j f kj (old c e)).1,Nat.lt_succ_of_lt (r.lt j f kj (old c e)).2⟩
 ·intro i j oi oj f ki kj g l A C;rw [gp]at g l
  by_cases n:i=h.next
  ·by_cases c:j=h.next
   ·exact .inl (n.trans c.symm)
   ·rw [iH c]at l
    by_cases m:j=id
    ·rw [iI m]at l; cases l
    ·rw [iH m]at l;subst n;rw [Gh.new_at]at A; cases A;exact absurd rfl (s j oj _ _ m l (old c C))
  ·rw [iH n]at g
   by_cases q:i=id
   ·rw [iI q]at g; cases g
   ·rw [iH q]at g
    by_cases c:j=h.next
    ·subst c;rw [Gh.new_at]at C; cases C;exact absurd rfl (s i oi _ _ q g (old n A))
    ·rw [iH c]at l
     by_cases m:j=id
     ·rw [iI m]at l; cases l
     ·rw [iH m]at l;exact r.sep i j oi oj f ki kj g l (old n A) (old c C)
 ·intro j x f kj e a;rw [gp]at e
  by_cases c:j=h.next
  ·subst c;rw [Gh.new_at]at a; cases a;exact r.res id o b k F E
  ·rw [iH c]at e
   by_cases n:j=id
   ·rw [iI n]at e; cases e
   ·rw [iH n]at e; exact r.res j x f kj e (old c a)
def xi.reserve (B:xi) (w:World) (R:Nat->Prop) [DecidablePred R]:xi:=⟨w,fun b=>B.mine b∧¬R b,fun b i=>if R b then some .junk else if b<B.w.heap.size then B.I b i else none⟩
def UX (h:KH) (G:Gh) (b:Nat):Prop:=∀id o k,h.get id=some o->G.at_ id≠some (b,k)
def KRel.reserve (r:KRel B G h w) (R:Nat->Prop) [DecidablePred R] (l:∀b,R b->UX h G b):KRel (xi.reserve B w R) G h w where
 kept:=ZU.refl w _ _
 blk:=fun id o e=>by
  obtain⟨b,k,ob,j,m,n,p⟩:=r.blk id o e;exact⟨b,k,ob,j,fun i=> .inr ⟨m i,fun f=>l b f id o k e j⟩,n,p⟩
 lt:=r.lt
 sep:=r.sep
 top:=r.top
 res:=fun id o b k e a=>by
  left;show(if R b then some V.junk else if b<B.w.heap.size then B.I b 0 else none)=none;rw [iH (fun f=>l b f id o k e a)];split
  ·rename_i g;rcases r.res id o b k e a with c|c
   ·exact c
   ·exact absurd g (Nat.not_lt_of_le c)
  ·rfl
def KRel.unreserve {h':KH} {G':Gh} {w':World} (r:KRel B G h w) (R:Nat->Prop) [DecidablePred R] (q:∀b,R b->b<w.heap.size) (f:KRel (xi.reserve B w R) G' h' w'):KRel B G' h' w'∧∀b,R b->w'.heap[b]? =w.heap[b]? ∧UX h' G' b:=by
 have i:=f.kept
 have mine:∀b,(xi.reserve B w R).mine b->B.mine b:=by
  intro b g;rcases g with c|c
  ·exact .inl (Nat.le_trans r.kept.size c)
  ·exact c.1
 refine⟨{kept:= ?_,blk:= ?_,lt:=f.lt,sep:=f.sep,top:=f.top,res:= ?_},fun b g=>⟨?_, ?_⟩⟩
 ·refine⟨i.os.trans r.kept.os,i.tape.trans r.kept.tape,i.output.trans r.kept.output,Nat.le_trans r.kept.size i.size,fun k c p=> ?_⟩;refine(i.heap k (Nat.lt_of_lt_of_le c r.kept.size) (fun n=> ?_)).trans (r.kept.heap k c p);rcases n.1 with j|j
  ·exact absurd c (Nat.not_lt_of_le j)
  ·exact p j
 ·intro id o e;obtain⟨b,k,ob,s,t,v,x⟩:=f.blk id o e;exact⟨b,k,ob,s,fun m=>mine b (t m),v,x⟩
 ·intro id o b k e a;rcases f.res id o b k e a with c|c
  ·have c:(if R b then some V.junk else if b<B.w.heap.size then B.I b 0 else none)=none:=c;split at c
   ·cases c
   ·split at c
    ·exact .inl c
    ·rename_i l; exact .inr (Nat.le_of_not_lt l)
  ·exact .inr (Nat.le_trans r.kept.size c)
 ·exact i.heap b (q b g) (fun n=>n.2 g)
 ·intro id o k e a;rcases f.res id o b k e a with c|c
  ·have c:(if R b then some V.junk else if b<B.w.heap.size then B.I b 0 else none)=none:=c;rw [iI g]at c; cases c
  ·exact absurd (q b g) (Nat.not_lt_of_le c)
def KRel.adopt (r:KRel B G h w) (L:h.next+1<65000) {b room:Nat} {o:KO} {ob:Obj} (A:w.heap[b]? =some ob) (K:B.mine b) (p:B.I b 0=none∨B.w.heap.size<=b) (C:UX h G b) (M:o.R (G.new h.next (b,0) room) room 0 ob):
  KRel B (G.new h.next (b,0) room) (h.push o) w where
 kept:=r.kept
 blk:=fun id x e=>by
  rw [qS h r.top]at e
  by_cases c:id=h.next
  ·subst c;rw [iI rfl]at e; cases e;exact⟨b,0,ob,Gh.new_at _ _ _ _,fun _=>K,A,by rw [Gh.new_room]; exact M⟩
  ·rw [iH c]at e;obtain⟨f,k,ob',g,l,H,I⟩:=r.blk id x e;have v:=Gh.new_le G r.fresh (b,0) room;exact⟨f,k,ob',v.at_ g,l,H,by rw [v.room g]; exact I.le v⟩
 lt :=fun id f k e=>by
  by_cases c:id=h.next
  ·subst c;rw [Gh.new_at]at e; cases e;exact⟨heap_lt A,Nat.lt_succ_self _⟩
  ·have F:G.at_ id=some (f,k):=by
    have:(G.new h.next (b,0) room).at_ id=G.at_ id:=iH c;rw [<-this]; exact e
   have:=r.lt id f k F;exact⟨this.1,Nat.lt_succ_of_lt this.2⟩
 sep :=fun i j oi oj f ki kj g l s q=>by
  rw [qS h r.top]at g l
  have old:∀ {x y z},x≠h.next->(G.new h.next (b,0) room).at_ x=some (y,z)->G.at_ x=some (y,z):=fun {x y z} N e=>by
   have:(G.new h.next (b,0) room).at_ x=G.at_ x:=iH N;rw [<-this]; exact e
  by_cases c:i=h.next
  ·by_cases m:j=h.next
   ·exact .inl (c.trans m.symm)
   ·have t:=old m q;rw [iH m]at l;subst c;rw [Gh.new_at]at s; cases s;exact absurd t (C j oj kj l)
  ·have n:=old c s;rw [iH c]at g
   by_cases m:j=h.next
   ·subst m;rw [Gh.new_at]at q; cases q;exact absurd n (C i oi ki g)
   ·rw [iH m]at l;exact r.sep i j oi oj f ki kj g l n (old m q)
 top:=L
 res :=fun id x f k e a=>by
  rw [qS h r.top]at e
  by_cases c:id=h.next
  ·subst c;rw [Gh.new_at]at a; cases a;exact p
  ·rw [iH c]at e
   have E:G.at_ id=some (f,k):=by
    have:(G.new h.next (b,0) room).at_ id=G.at_ id:=iH c;rw [<-this]; exact a
   exact r.res id x f k e E
end
def wG (a b:List UInt8):zi (a++b)=zi a+256^a.length*zi b:=by
 induction a with
 |nil=>simp [zi]
 | cons x r c=>
  simp only [List.cons_append,zi,c,List.length_cons,Nat.pow_succ];rw [Nat.mul_add,<-Nat.mul_assoc,Nat.mul_comm 256 (256^r.length)]; omega
def Gy (l:List UInt8):zi l<256^l.length:=by
 induction l with
 |nil=>simp [zi]
 | cons x r a=>
  simp only [zi,List.length_cons,Nat.pow_succ];have:=x.toNat_lt;omega
def natOf_inj:∀ {a b:List UInt8},a.length=b.length->zi a=zi b->a=b
 | [],[],_,_=>rfl
 | x::a,y::b,f,h=>by
  simp only [zi]at h;have:=x.toNat_lt; have:=y.toNat_lt;have c:x.toNat=y.toNat:=by omega
  have e:zi a=zi b:=by omega
  rw [UInt8.toNat_inj.1 c,natOf_inj (by simpa using f) e]
def dW (l:List UInt8):∀k,zi (l.drop k)=zi l/256^k:=by
 induction l with
 |nil=>intro k; simp [zi]
 | cons x r a=>
  intro k
  cases k with
  |zero=>simp
  | succ k=>
   rw [List.drop_succ_cons,a,zi,Nat.pow_succ,Nat.mul_comm (256^k) 256,<-Nat.div_div_eq_div_mul];have:=x.toNat_lt;rw [show(x.toNat+256*zi r)/256=zi r by omega]
def Yz (l:List UInt8):∀k,zi (l.take k)=zi l%256^k:=by
 intro k;rcases iS l.length k with h|h
 ·rw [List.take_of_length_le (by omega),Nat.mod_eq_of_lt];exact Nat.lt_of_lt_of_le (Gy l) (Nat.pow_le_pow_right (by omega) (by omega))
 ·have e:zi l=zi (l.take k)+256^k*zi (l.drop k):=by
   conv=>lhs; rw [<-List.take_append_drop k l,wG,List.length_take,Nat.min_eq_left h]
  rw [e,Nat.add_mul_mod_self_left,Nat.mod_eq_of_lt];have:=Gy (l.take k);rw [List.length_take,Nat.min_eq_left h]at this;exact this
def XB (l:List UInt8) (i:Nat) (h:i<l.length):zi l/256^i%256=l[i].toNat:=by
 rw [<-dW,iM h,zi];have:=l[i].toNat_lt;omega
def XO (k:Nat):2^(8*k)=256^k:=by rw [Nat.pow_mul]
def nV (n a m b:Nat):KV:= .str (n+m) (Nat.add a (Nat.shiftLeft b (Nat.mul 8 n)))
def de (s i:Nat):Nat:=Nat.mod (Nat.shiftRight s (Nat.mul 8 i)) 256
def tq (s l h:Nat):KV:= .str (h-l) (Nat.mod (Nat.shiftRight s (Nat.mul 8 l)) (Nat.shiftLeft 1 (Nat.mul 8 (Nat.sub h l))))
def kx (s:ByteArray):s.data.toList.length=s.size:=by rw [Array.length_toList]; rfl
section
variable {G:Gh}
def KR.cat (s t:ByteArray):KR G (nV s.size (zi s.data.toList) t.size (zi t.data.toList)) (.string (s++t)):=by
 have e:nV s.size (zi s.data.toList) t.size (zi t.data.toList)= .str (s++t).size (zi (s++t).data.toList):=by
  unfold nV;have a:(s++t).size=s.size+t.size:=ByteArray.size_append;have b:(s++t).data.toList=s.data.toList++t.data.toList:=by rw [ByteArray.data_append,Array.toList_append]
  rw [a,b,wG,kx]
  congr 1
  show _+(zi t.data.toList) <<< (8*s.size)=_;rw [Nat.shiftLeft_eq,XO,Nat.mul_comm]
 rw [e]; exact .str _
def KR.idx (s:ByteArray) {i:Nat} (h:i<s.size):de (zi s.data.toList) i=(s.data.toList[i]'(by rw [kx]; exact h)).toNat:=by
 show(zi s.data.toList >>> (8*i))%256=_;rw [Nat.shiftRight_eq_div_pow,XO,XB]
def KR.sub (s:ByteArray) {l h:Nat} (c:l<=h) (b:h<=s.size):KR G (tq (zi s.data.toList) l h) (.string (s.extract l h)):=by
 have e:(s.extract l h).data.toList=(s.data.toList.drop l).take (h-l):=by
  rw [ByteArray.data_extract,Array.toList_extract,List.extract_eq_take_drop]
 have z:(s.extract l h).size=h-l:=by rw [ByteArray.size_extract]; omega
 have a:tq (zi s.data.toList) l h= .str (s.extract l h).size (zi (s.extract l h).data.toList):=by
  unfold tq;rw [z,e,Yz,dW]
  congr 1
  show(zi s.data.toList >>> (8*l))%(1 <<< (8*(h-l)))=_;rw [Nat.shiftRight_eq_div_pow,Nat.shiftLeft_eq,XO,XO,Nat.one_mul]
 rw [a]; exact .str _
def DE (s t:ByteArray):(Nat.beq s.size t.size&&Nat.beq (zi s.data.toList) (zi t.data.toList))=(s.data.toList==t.data.toList):=by
 rw [Bool.eq_iff_iff,iF,Nat.beq_eq,Nat.beq_eq,beq_iff_eq];constructor
 ·rintro⟨a,b⟩;exact natOf_inj (by rw [kx,kx,a]) b
 ·intro h;rw [<-kx s,<-kx t,h]; exact⟨rfl,rfl⟩
end
def WM (n a m b:Nat):Nat->Nat->Bool
 |0,_=>Nat.blt n m
 |f+1,i=>bif (Nat.blt i n&&Nat.blt i m)then(bif Nat.beq (de a i) (de b i)then WM n a m b f (i+1)else Nat.blt (de a i) (de b i))else Nat.blt n m
def xn (a b:Nat):Nat.blt a b=decide (a<b):=by
 rw [Bool.eq_iff_iff,iJ];exact⟨fun h=>iD h,fun h=>Nat.ble_eq_true_of_le h⟩
def PA (a b:Nat):Nat.ble a b=decide (a<=b):=by
 rw [Bool.eq_iff_iff,iJ];exact⟨fun h=>iD h,fun h=>Nat.ble_eq_true_of_le h⟩
def JK {x y:List UInt8} {i:Nat} (c:i<=x.length) (e:i<=y.length) (f:min x.length y.length<=i):Nat.blt x.length y.length=Op.bytesLess (x.drop i) (y.drop i):=by
 rw [xn];rcases iS i y.length with a|a
 ·have b:x.length<=i:=by omega
  rw [List.drop_eq_nil_of_le b,iM a,Op.bytesLess,iJ]; omega
 ·rw [List.drop_eq_nil_of_le a];have:Op.bytesLess (List.drop i x) []=false:=by cases List.drop i x<;>rfl
  rw [this,decide_eq_false_iff_not]; omega
def Gd (x y:List UInt8):∀(f i:Nat),i<=x.length->i<=y.length->min x.length y.length<=i+f ->
  WM x.length (zi x) y.length (zi y) f i=Op.bytesLess (x.drop i) (y.drop i)
 |0,i,b,c,g=>JK b c g
 | f + 1,i,b,c,g=>by
  unfold WM;rw [xn,xn]
  by_cases h:i<x.length∧i<y.length
  ·obtain ⟨j,k⟩:=h;rw [decide_eq_true j,decide_eq_true k];simp only [Bool.and_self,cond_true]
   have ex:de (zi x) i=x[i].toNat:=by
    show(zi x >>> (8*i))%256=_;rw [Nat.shiftRight_eq_div_pow,XO,XB]
   have ey:de (zi y) i=y[i].toNat:=by
    show(zi y >>> (8*i))%256=_;rw [Nat.shiftRight_eq_div_pow,XO,XB]
   rw [iM j,iM k,ex,ey,jJ,Bool.cond_decide,Op.bytesLess]
   have l:Nat.blt x[i].toNat y[i].toNat=decide (x[i]<y[i]):=by
    rw [xn]; exact decide_eq_decide.2 UInt8.lt_iff_toNat_lt.symm
   by_cases a:x[i].toNat=y[i].toNat
   ·have e:x[i]=y[i]:=UInt8.toNat_inj.1 a;rw [iI a,Gd x y f (i+1) (by omega) (by omega) (by omega)];have:(decide (x[i]<y[i]))=false:=by rw [decide_eq_false_iff_not,UInt8.lt_iff_toNat_lt]; omega
    rw [this,beq_iff_eq.2 e,Bool.false_or,Bool.true_and]
   ·have e:(x[i]==y[i])=false:=by
     rw [beq_eq_false_iff_ne]; intro h; exact a (by rw [h])
    rw [iH a,l,e,Bool.false_and,Bool.or_false]
  ·have:(decide (i<x.length)&&decide (i<y.length))=false:=by
    rw [Bool.and_eq_false_iff,decide_eq_false_iff_not,decide_eq_false_iff_not]; omega
   rw [this];exact JK b c (by omega)
end Go.K
end
