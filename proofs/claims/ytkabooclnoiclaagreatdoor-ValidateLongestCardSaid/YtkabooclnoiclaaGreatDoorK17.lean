/- Closed runs: a part. No condition beyond each statement's own. -/
import Derived.Test.YtkabooclnoiclaaGreatDoorK16
set_option linter.all false
section
namespace Go.K
open Go.Abs
noncomputable def KV.ren (σ:Nat→Nat) (v:KV):KV:=KV.rec (motive_1:=fun _=>KV) (motive_2:=fun _=>List KV) .junk (fun b=> .bool b) (fun k n=> .int k n) (fun n s=> .str n s) (fun i o=> .ptr (σ i) o) .nilp (fun i o l c s=> .sl (σ i) o l c s) .slz .nilsl (fun f _ _ a b=> .func f a b) .nilfunc (fun i=> .yield i) (fun _ a=> .agg a) (fun _ a=> .tuple a) (fun i=> .map (σ i)) .nilmap (fun t _ a=> .iface t a) .niliface [] (fun _ _ a b=>a::b) v
noncomputable def KV.rens (σ:Nat→Nat) (l:List KV):List KV:=List.rec (motive:=fun _=>List KV) [] (fun v _ ih=>v.ren σ::ih) l
noncomputable def KV.all (A:Nat→Bool) (v:KV):Bool:=KV.rec (motive_1:=fun _=>Bool) (motive_2:=fun _=>Bool) true (fun _=>true) (fun _ _=>true) (fun _ _=>true) (fun i _=>A i) true (fun i _ _ _ _=>A i) true true (fun _ _ _ a b=>a&&b) true (fun _=>false) (fun _ a=>a) (fun _ a=>a) (fun i=>A i) true (fun _ _ a=>a) true true (fun _ _ a b=>a&&b) v
noncomputable def KV.alls (A:Nat→Bool) (l:List KV):Bool:=List.rec (motive:=fun _=>Bool) true (fun v _ ih=>v.all A&&ih) l
theorem KV.rens_rec (σ:Nat→Nat):∀l:List KV,(KV.rec_1 (motive_1:=fun _=>KV) (motive_2:=fun _=>List KV) .junk (fun b=> .bool b) (fun k n=> .int k n) (fun n s=> .str n s) (fun i o=> .ptr (σ i) o) .nilp (fun i o l c s=> .sl (σ i) o l c s) .slz .nilsl (fun f _ _ a b=> .func f a b) .nilfunc (fun i=> .yield i) (fun _ a=> .agg a) (fun _ a=> .tuple a) (fun i=> .map (σ i)) .nilmap (fun t _ a=> .iface t a) .niliface [] (fun _ _ a b=>a::b) l:List KV)=KV.rens σ l
 | []=>rfl
 | v::l=>by
  have:KV.rens σ (v::l)=v.ren σ::KV.rens σ l:=rfl
  rw [this,←KV.rens_rec σ l]; rfl
theorem KV.alls_rec (A:Nat→Bool):∀l:List KV,(KV.rec_1 (motive_1:=fun _=>Bool) (motive_2:=fun _=>Bool) true (fun _=>true) (fun _ _=>true) (fun _ _=>true) (fun i _=>A i) true (fun i _ _ _ _=>A i) true true (fun _ _ _ a b=>a&&b) true (fun _=>false) (fun _ a=>a) (fun _ a=>a) (fun i=>A i) true (fun _ _ a=>a) true true (fun _ _ a b=>a&&b) l:Bool)=KV.alls A l
 | []=>rfl
 | v::l=>by
  have:KV.alls A (v::l)=(v.all A&&KV.alls A l):=rfl
  rw [this,←KV.alls_rec A l]; rfl
theorem KV.rens_len (σ:Nat→Nat):∀l:List KV,(KV.rens σ l).length=l.length
 | []=>rfl
 |v::l=>by show(KV.rens σ l).length+1=_; rw [KV.rens_len σ l]; rfl
theorem KV.rens_get (σ:Nat→Nat):∀(l:List KV) (i:Nat),(KV.rens σ l)[i]? =(l[i]?).map (KV.ren σ)
 | [],i=>rfl
 |v::l,0=>rfl
 | v::l,i+1=>by
  show(v.ren σ::KV.rens σ l)[i+1]? =_
  rw [List.getElem?_cons_succ,List.getElem?_cons_succ,KV.rens_get σ l i]
theorem KV.alls_mem {A:Nat→Bool}:∀ {l:List KV} (h:KV.alls A l=true) {i:Nat} {v:KV},l[i]? =some v→v.all A=true
 | [],h,i,v,e=>by simp at e
 | x::l,h,i,v,e=>by
  have h:(x.all A&&KV.alls A l)=true:=h
  rw [iF]at h
  cases i with
  |zero=>simp at e; subst e; exact h.1
  |succ i=>exact KV.alls_mem h.2 (by simpa using e)
theorem KR.ren {G G':Gh} {σ:Nat→Nat} {A:Nat→Bool} (hA:∀i,A i=true→G'.at_ (σ i)=G.at_ i∧G'.room (σ i)=G.room i) {v:KV} {c:Value} (k:KR G v c):v.all A=true→KR G' (v.ren σ) c:=by
 induction k with
 |junk c=>exact fun _=> .junk c
 |bool b=>exact fun _=> .bool b
 |int k n=>exact fun _=> .int k n
 |str s=>exact fun _=> .str s
 |ptr a=>exact fun h=> .ptr ((hA _ h).1.trans a)
 |nilp=>exact fun _=> .nilp
 |sl a l r c=>exact fun h=> .sl ((hA _ h).1.trans a) l (by rw [(hA _ h).2]; exact r) c
 |slz a c=>exact fun _=> .slz a c
 |nilsl=>exact fun _=> .nilsl
 | @func fn f1 f2 c1 c2 l1 _ l2 _ i1 i2=>
  intro h
  have h:((KV.rec_1 (motive_1:=fun _=>Bool) (motive_2:=fun _=>Bool) true (fun _=>true) (fun _ _=>true) (fun _ _=>true) (fun i _=>A i) true (fun i _ _ _ _=>A i) true true (fun _ _ _ a b=>a&&b) true (fun _=>false) (fun _ a=>a) (fun _ a=>a) (fun i=>A i) true (fun _ _ a=>a) true true (fun _ _ a b=>a&&b) f1:Bool)&&(KV.rec_1 (motive_1:=fun _=>Bool) (motive_2:=fun _=>Bool) true (fun _=>true) (fun _ _=>true) (fun _ _=>true) (fun i _=>A i) true (fun i _ _ _ _=>A i) true true (fun _ _ _ a b=>a&&b) true (fun _=>false) (fun _ a=>a) (fun _ a=>a) (fun i=>A i) true (fun _ _ a=>a) true true (fun _ _ a b=>a&&b) f2:Bool))=true:=h
  rw [KV.alls_rec,KV.alls_rec,iF]at h
  have e:KV.ren σ (.func fn f1 f2)= .func fn (KV.rens σ f1) (KV.rens σ f2):=by rw [←KV.rens_rec,←KV.rens_rec]; rfl
  rw [e]
  refine .func (by rw [KV.rens_len]; exact l1) (fun i v c e1 e2=> ?_) (by rw [KV.rens_len]; exact l2) (fun i v c e1 e2=> ?_)
  ·rw [KV.rens_get]at e1
   obtain⟨u,e3,rfl⟩:=Option.map_eq_some_iff.1 e1
   exact i1 i u c e3 e2 (KV.alls_mem h.1 e3)
  ·rw [KV.rens_get]at e1
   obtain⟨u,e3,rfl⟩:=Option.map_eq_some_iff.1 e1
   exact i2 i u c e3 e2 (KV.alls_mem h.2 e3)
 |nilfunc=>exact fun _=> .nilfunc
 |yield a=>exact fun h=>by cases h
 | @agg cs c l _ i1=>
  intro h
  have h:(KV.rec_1 (motive_1:=fun _=>Bool) (motive_2:=fun _=>Bool) true (fun _=>true) (fun _ _=>true) (fun _ _=>true) (fun i _=>A i) true (fun i _ _ _ _=>A i) true true (fun _ _ _ a b=>a&&b) true (fun _=>false) (fun _ a=>a) (fun _ a=>a) (fun i=>A i) true (fun _ _ a=>a) true true (fun _ _ a b=>a&&b) cs:Bool)=true:=h
  rw [KV.alls_rec]at h
  have e:KV.ren σ (.agg cs)= .agg (KV.rens σ cs):=by rw [←KV.rens_rec]; rfl
  rw [e]
  refine .agg (by rw [KV.rens_len]; exact l) (fun i v c e1 e2=> ?_)
  rw [KV.rens_get]at e1
  obtain⟨u,e3,rfl⟩:=Option.map_eq_some_iff.1 e1
  exact i1 i u c e3 e2 (KV.alls_mem h e3)
 | @tuple cs c l _ i1=>
  intro h
  have h:(KV.rec_1 (motive_1:=fun _=>Bool) (motive_2:=fun _=>Bool) true (fun _=>true) (fun _ _=>true) (fun _ _=>true) (fun i _=>A i) true (fun i _ _ _ _=>A i) true true (fun _ _ _ a b=>a&&b) true (fun _=>false) (fun _ a=>a) (fun _ a=>a) (fun i=>A i) true (fun _ _ a=>a) true true (fun _ _ a b=>a&&b) cs:Bool)=true:=h
  rw [KV.alls_rec]at h
  have e:KV.ren σ (.tuple cs)= .tuple (KV.rens σ cs):=by rw [←KV.rens_rec]; rfl
  rw [e]
  refine .tuple (by rw [KV.rens_len]; exact l) (fun i v c e1 e2=> ?_)
  rw [KV.rens_get]at e1
  obtain⟨u,e3,rfl⟩:=Option.map_eq_some_iff.1 e1
  exact i1 i u c e3 e2 (KV.alls_mem h e3)
 |map a=>exact fun h=> .map ((hA _ h).1.trans a)
 |nilmap=>exact fun _=> .nilmap
 |iface _ i=>exact fun h=> .iface (i h)
 |niliface=>exact fun _=> .niliface
def wu:KH→List (List KV)→KH
 |h,[]=>h
 |h,cs::os=>wu (h.push (.cells false cs)) os
theorem jK:∀(os:List (List KV)) (h:KH),(wu h os).next=h.next+os.length
 | [],h=>rfl
 |cs::os,h=>by rw [wu,jK os]; show h.next+1+os.length=_; simp; omega
theorem qI:∀(os:List (List KV)) (h:KH),h.next+os.length<65000→(∀id o,h.get id=some o→id<h.next)→∀id,(wu h os).get id=if id<h.next then h.get id else(os[id-h.next]?).map (.cells false)
 | [],h,hn,hl,id=>by
  rw [wu]
  split
  ·rfl
  ·cases hg:h.get id with
   |none=>simp
   |some o=>exact absurd (hl id o hg) (by assumption)
 | cs::os,h,hn,hl,id=>by
  have hn':h.next+1+os.length<65000:=by simp at hn; omega
  have e1:=xJ h (by omega) (.cells false cs)
  rw [wu,qI os (h.push (.cells false cs)) hn' (fun i o e=>by
   rw [e1]at e
   show i<h.next+1
   split at e
   ·omega
   ·have:=hl i o e; omega) id]
  show(if id<h.next+1 then(h.push (.cells false cs)).get id else(os[id-(h.next+1)]?).map (.cells false))=_
  rw [e1]
  by_cases h1:id<h.next
  ·rw [if_pos (by omega),if_neg (by omega),if_pos h1]
  ·by_cases h2:id=h.next
   ·subst h2
    rw [if_pos (by omega),if_pos rfl,if_neg h1,Nat.sub_self]; rfl
   ·rw [if_neg (by omega),if_neg h1,show id-h.next=(id-(h.next+1))+1 by omega,List.getElem?_cons_succ]
def xl (ids:List Nat) (i:Nat):Nat:=ids.findIdx (·==i)
theorem KCall.move {P:Program} {f:FuncId} {args:List KV} {r:KV} {h1 h:KH} {N0:Nat} (k:KCall P f args ⟨N64k.empty,N0⟩ r h1) (hN:N0<65000) (hP:P.globals.size≤N0) (ha:KV.frees args=true)
  {ids:List Nat} {os:List (List KV)} (hd:ids.Nodup) (hlen:os.length=ids.length) (hr:r.all (fun i=>ids.contains i)=true)
  (ho:∀(j:Nat) (id:Nat),ids[j]? =some id→∃cs,h1.get id=some (.cells false cs)∧KV.alls (fun i=>ids.contains i) cs=true∧os[j]? =some (KV.rens (fun i=>h.next+xl ids i) cs)) (htop:h.next+os.length<65000):
  KCall P f args h (r.ren fun i=>h.next+xl ids i) (wu h os):=by
 intro B G w cargs n hg kr hargs
 have emp:∀id,(⟨N64k.empty,N0⟩:KH).get id=none:=fun id=>N64k.get_empty _
 let G0:Gh:=⟨fun id=>if id<N0 then(if id<P.globals.size then G.at_ id else none)else none,G.room⟩
 have hat':∀ {id x},G0.at_ id=some x→id<N0∧G.at_ id=some x:=fun {id x} e=>by
  have e:(if id<N0 then(if id<P.globals.size then G.at_ id else none)else none)=some x:=e
  split at e
  ·split at e
   ·exact⟨by assumption,e⟩
   ·cases e
  ·cases e
 have kr0:KRel ⟨w,fun _=>False,fun _ _=>none⟩ G0 ⟨N64k.empty,N0⟩ w:={
  kept:= .refl _ _ _
  blk:=fun id o e=>by rw [emp]at e; cases e
  lt:=fun id b kk e=>by
   obtain⟨h1,h2⟩:=hat' e
   exact⟨(kr.lt _ _ _ h2).1,h1⟩
  sep:=fun i j oi oj b ki kj e1=>by rw [emp]at e1; cases e1
  top:=hN
  res:=fun _ _ _ _ _ _=> .inl rfl}
 have hg0:Glob P G0:=fun g hgl=>by
  show(if g<N0 then(if g<P.globals.size then G.at_ g else none)else none)=_
  rw [if_pos (by omega),if_pos hgl,hg g hgl]
 refine(k ⟨w,fun _=>False,fun _ _=>none⟩ G0 w cargs n hg0 kr0 (hargs.free G0 ha)).mono ?_
 rintro en w1 ⟨c,G2,rfl,g1,g2,g3⟩
 let G':Gh:=⟨fun id=>if id<h.next then G.at_ id else(ids[id-h.next]?).bind G2.at_,fun id=>if id<h.next then G.room id else((ids[id-h.next]?).map G2.room).getD 0⟩
 have krk:KRel B G h w1:=kr.keep g3.kept
 have hle:G.le G':=⟨fun {i x} e=>by
  show(if i<h.next then G.at_ i else _)=some x
  rw [if_pos (kr.lt i x.1 x.2 e).2]; exact e,fun {i x} e=>by
  show(if i<h.next then G.room i else _)=G.room i
  rw [if_pos (kr.lt i x.1 x.2 e).2]⟩
 have hpos:∀i,ids.contains i=true→xl ids i<ids.length∧ids[xl ids i]? =some i:=fun i hi=>by
  have hm:i∈ids:=by simpa using hi
  have hlt:xl ids i<ids.length:=List.findIdx_lt_length_of_exists ⟨i,hm,by simp⟩
  refine⟨hlt, ?_⟩
  have:=List.findIdx_getElem (xs:=ids) (p:=(·==i)) (w:=hlt)
  rw [List.getElem?_eq_getElem hlt]
  exact congrArg some (eq_of_beq this)
 have hA:∀i,ids.contains i=true→G'.at_ (h.next+xl ids i)=G2.at_ i∧G'.room (h.next+xl ids i)=G2.room i:=fun i hi=>by
  obtain⟨h2,h3⟩:=hpos i hi
  constructor
  ·show(if h.next+xl ids i<h.next then _ else(ids[h.next+xl ids i-h.next]?).bind G2.at_)=_
   rw [if_neg (by omega),Nat.add_sub_cancel_left,h3]; rfl
  ·show(if h.next+xl ids i<h.next then _ else((ids[h.next+xl ids i-h.next]?).map G2.room).getD 0)=_
   rw [if_neg (by omega),Nat.add_sub_cancel_left,h3]; rfl
 have hget:=qI os h htop (fun id o e=>kr.id_lt e)
 have hnext:=jK os h
 have hin:∀id b kk,¬id<h.next→G'.at_ id=some (b,kk)→∃i,ids[id-h.next]? =some i∧G2.at_ i=some (b,kk):=fun id b kk hn e=>by
  have e:(if id<h.next then G.at_ id else(ids[id-h.next]?).bind G2.at_)=some (b,kk):=e
  rw [if_neg hn]at e
  exact Option.bind_eq_some_iff.1 e
 have hold:∀id,id<h.next→G'.at_ id=G.at_ id:=fun id hi=>if_pos hi
 have hnew:∀id o,¬id<h.next→(wu h os).get id=some o→∃i cs,ids[id-h.next]? =some i∧h1.get i=some (.cells false cs)∧KV.alls (fun i=>ids.contains i) cs=true∧o= .cells false (KV.rens (fun i=>h.next+xl ids i) cs):=fun id o hn e=>by
  rw [hget,if_neg hn]at e
  obtain⟨cs',e1,rfl⟩:=Option.map_eq_some_iff.1 e
  have hlt:id-h.next<ids.length:=by
   rcases Nat.lt_or_ge (id-h.next) os.length with h|h
   ·omega
   ·rw [List.getElem?_eq_none h]at e1; cases e1
  obtain⟨cs,e2,e3,e4⟩:=ho (id-h.next) ids[id-h.next] (List.getElem?_eq_getElem hlt)
  rw [e4]at e1
  cases e1
  exact⟨_,cs,List.getElem?_eq_getElem hlt,e2,e3,rfl⟩
 have hfresh:∀i cs b kk,h1.get i=some (.cells false cs)→G2.at_ i=some (b,kk)→w.heap.size≤b:=fun i cs b kk e e2=>by
  obtain⟨b',kk',ob,q1,q2,_⟩:=g3.blk i _ e
  rw [e2]at q1
  simp only [Option.some.injEq,Prod.mk.injEq]at q1
  obtain⟨rfl,rfl⟩:=q1
  exact(q2 rfl).elim id False.elim
 refine⟨c,G',rfl,hle,g2.ren hA hr, ?_⟩
 exact {
  kept:=krk.kept
  blk :=fun id o e=>by
   by_cases hn:id<h.next
   ·rw [hget,if_pos hn]at e
    obtain⟨b,kk,ob,q1,q2,q3,q4⟩:=krk.blk id o e
    exact⟨b,kk,ob,hle.at_ q1,q2,q3,by rw [hle.room q1]; exact q4.le hle⟩
   ·obtain ⟨i,cs,e1,e2,e3,rfl⟩:=hnew id o hn e
    obtain⟨b,kk,ob,q1,q2,q3,q4⟩:=g3.blk i _ e2
    refine⟨b,kk,ob, ?_,fun _=> .inl (Nat.le_trans kr.kept.size (hfresh i cs b kk e2 q1)),q3, ?_⟩
    ·show(if id<h.next then G.at_ id else(ids[id-h.next]?).bind G2.at_)=_
     rw [if_neg hn,e1]; exact q1
    ·have er:G'.room id=G2.room i:=by
      show(if id<h.next then G.room id else((ids[id-h.next]?).map G2.room).getD 0)=_
      rw [if_neg hn,e1]; rfl
     rw [er]
     cases q4 with
     | cells a1 a2 a3 a4=>
      refine .cells (by rw [KV.rens_len]; exact a1) a2 a3 fun j v x h2 h3=> ?_
      rw [KV.rens_get]at h2
      obtain⟨u,h4,rfl⟩:=Option.map_eq_some_iff.1 h2
      exact(a4 j u x h4 h3).ren hA (KV.alls_mem e3 h4)
  lt :=fun id b kk e=>by
   by_cases hn:id<h.next
   ·rw [hold id hn]at e
    exact⟨(krk.lt _ _ _ e).1,by rw [hnext]; omega⟩
   ·obtain ⟨i,e1,e2⟩:=hin id b kk hn e
    have hlt:id-h.next<ids.length:=by
     rcases Nat.lt_or_ge (id-h.next) ids.length with h|h
     ·exact h
     ·rw [List.getElem?_eq_none h]at e1; cases e1
    exact⟨(g3.lt _ _ _ e2).1,by rw [hnext,hlen]; omega⟩
  sep :=fun i j oi oj b ki kj e1 e2 e3 e4=>by
   by_cases hi:i<h.next
   ·by_cases hj:j<h.next
    ·rw [hget,if_pos hi]at e1
     rw [hget,if_pos hj]at e2
     rw [hold i hi]at e3
     rw [hold j hj]at e4
     exact krk.sep i j oi oj b ki kj e1 e2 e3 e4
    ·rw [hold i hi]at e3
     obtain⟨j',cs,q1,q2,_,rfl⟩:=hnew j oj hj e2
     obtain⟨j2,q3,q4⟩:=hin j b kj hj e4
     rw [q1]at q3; cases q3
     have h5:=hfresh _ _ _ _ q2 q4
     have h6:=(kr.lt i b ki e3).1
     omega
   ·by_cases hj:j<h.next
    ·rw [hold j hj]at e4
     obtain⟨i',cs,q1,q2,_,rfl⟩:=hnew i oi hi e1
     obtain⟨i2,q3,q4⟩:=hin i b ki hi e3
     rw [q1]at q3; cases q3
     have h5:=hfresh _ _ _ _ q2 q4
     have h6:=(kr.lt j b kj e4).1
     omega
    ·obtain ⟨i',cs,q1,q2,_,rfl⟩:=hnew i oi hi e1
     obtain⟨j',cs',p1,p2,_,rfl⟩:=hnew j oj hj e2
     obtain⟨i2,q3,q4⟩:=hin i b ki hi e3
     obtain⟨j2,p3,p4⟩:=hin j b kj hj e4
     rw [q1]at q3; cases q3
     rw [p1]at p3; cases p3
     rcases g3.sep i' j' _ _ b ki kj q2 p2 q4 p4 with h5|h5
     ·subst h5
      have hli:i-h.next<ids.length:=by
       rcases Nat.lt_or_ge (i-h.next) ids.length with h|h
       ·exact h
       ·rw [List.getElem?_eq_none h]at q1; cases q1
      have hlj:j-h.next<ids.length:=by
       rcases Nat.lt_or_ge (j-h.next) ids.length with h|h
       ·exact h
       ·rw [List.getElem?_eq_none h]at p1; cases p1
      rw [List.getElem?_eq_getElem hli]at q1
      rw [List.getElem?_eq_getElem hlj]at p1
      have:i-h.next=j-h.next:=(List.getElem_inj hd).1 (by
       have a:=Option.some.inj q1; have b:=Option.some.inj p1
       exact a.trans b.symm)
      exact .inl (by omega)
     ·exact absurd h5.1 (by simp [KO.ro])
  top:=by rw [hnext]; exact htop
  res:=fun id o b kk e e2=>by
   by_cases hn:id<h.next
   ·rw [hget,if_pos hn]at e
    rw [hold id hn]at e2
    exact krk.res id o b kk e e2
   ·obtain⟨i,cs,q1,q2,_,rfl⟩:=hnew id o hn e
    obtain⟨i2,q3,q4⟩:=hin id b kk hn e2
    rw [q1]at q3; cases q3
    exact .inr (Nat.le_trans kr.kept.size (hfresh _ _ _ _ q2 q4))}
noncomputable def bZ (i:Nat) (l:List Nat):Bool:=List.rec (motive:=fun _=>Bool) false (fun x _ ih=>zb (Nat.beq x i) true ih) l
theorem ga (i:Nat):∀l,bZ i l=l.contains i
 | []=>rfl
 | x::l=>by
  have e:bZ i (x::l)=zb (Nat.beq x i) true (bZ i l):=rfl
  rw [e,za,ga i l,List.contains_cons]
  by_cases h:x=i
  ·subst h; simp
  ·have h1:¬(Nat.beq x i=true):=fun q=>h (iE q)
   have h2:(i==x)=false:=by simpa using fun q:i=x=>h q.symm
   rw [if_neg h1,h2,Bool.false_or]
noncomputable def k8 (l:List Nat) (i:Nat):Nat:=List.rec (motive:=fun _=>Nat) 0 (fun x _ ih=>zb (Nat.beq x i) 0 (Nat.succ ih)) l
theorem gY:∀(l:List Nat) (i:Nat),k8 l i=xl l i
 | [],i=>rfl
 | x::l,i=>by
  have e:k8 (x::l) i=zb (Nat.beq x i) 0 (Nat.succ (k8 l i)):=rfl
  rw [e,za,gY l i]
  unfold xl
  rw [List.findIdx_cons]
  by_cases h:x=i
  ·subst h; simp
  ·have h1:¬(Nat.beq x i=true):=fun q=>h (iE q)
   have h2:(x==i)=false:=by simpa using h
   rw [if_neg h1,h2]; rfl
noncomputable def ndK (l:List Nat):Bool:=List.rec (motive:=fun _=>Bool) true (fun x r ih=>zb (bZ x r) false ih) l
theorem Jw:∀ {l:List Nat},ndK l=true→l.Nodup
 | [],h=> .nil
 | x::l,h=>by
  have h:zb (bZ x l) false (ndK l)=true:=h
  rw [za]at h
  split at h
  ·cases h
  ·rename_i hm
   rw [ga]at hm
   exact List.nodup_cons.2 ⟨by simpa using hm,Jw h⟩
noncomputable def V4 (i:Nat) (acc:List Nat) (K:List Nat→QR):QR:=zb (bZ i acc) (K acc) (nfc i fun i=>K (i::acc))
noncomputable def Wp (v:KV):List Nat→(List Nat→QR)→QR:=KV.rec (motive_1:=fun _=>List Nat→(List Nat→QR)→QR) (motive_2:=fun _=>List Nat→(List Nat→QR)→QR) (fun a K=>K a) (fun _ a K=>K a) (fun _ _ a K=>K a) (fun _ _ a K=>K a) (fun i _ a K=>V4 i a K) (fun a K=>K a) (fun i _ _ _ _ a K=>V4 i a K) (fun a K=>K a) (fun a K=>K a) (fun _ _ _ x y a K=>x a fun a=>y a K) (fun a K=>K a) (fun _ a K=>K a) (fun _ x a K=>x a K) (fun _ x a K=>x a K) (fun i a K=>V4 i a K) (fun a K=>K a) (fun _ _ x a K=>x a K) (fun a K=>K a) (fun a K=>K a) (fun _ _ x y a K=>x a fun a=>y a K) v
noncomputable def Yo (l:List KV):List Nat→(List Nat→QR)→QR:=List.rec (motive:=fun _=>List Nat→(List Nat→QR)→QR) (fun a K=>K a) (fun v _ ih a K=>Wp v a fun a=>ih a K) l
noncomputable def QF (h:KH) (l:List Nat):List Nat→(List Nat→QR)→QR:=List.rec (motive:=fun _=>List Nat→(List Nat→QR)→QR) (fun a K=>K a) (fun i _ ih a K=>xX h i fun o=>o.onCells fun _ cs=>Yo cs a fun a=>ih a K) l
noncomputable def UR (l:List Nat):Nat:=List.rec (motive:=fun _=>Nat) 0 (fun _ _ ih=>Nat.succ ih) l
noncomputable def kO (h:KH) (m:Nat):List Nat→(List Nat→QR)→QR:=Nat.rec (motive:=fun _=>List Nat→(List Nat→QR)→QR) (fun a K=>K a) (fun _ ih a K=>QF h a a fun b=>zb (Nat.beq (UR a) (UR b)) (K b) (ih b K)) m
noncomputable def Pd (all:List Nat) (h:KH) (l:List Nat):(List KV→QR)→QR:=List.rec (motive:=fun _=>(List KV→QR)→QR) (fun K=>K []) (fun i _ ih K=>xX h i fun o=>o.onCells fun ro cs=>zb ro none (zb (KV.alls (fun i=>bZ i all) cs) (KV.fcs (KV.rens (k8 all) cs) fun cs=>ih fun os=>K (.agg cs::os)) none)) l
noncomputable def KP (v:KV) (h:KH):QR:=Wp v [] fun a=>kO h 20 a fun ids=>zb (ndK ids) (zb (v.all fun i=>bZ i ids) (Pd ids h ids fun os=>(v.ren (k8 ids)).fc fun r=>some (.tuple [r, .tuple os],h)) none) none
theorem Wh {i:Nat} {a:List Nat} {K:List Nat→QR} {r:KV×KH} (h:V4 i a K=some r):∃b,K b=some r:=by
 unfold V4 at h
 rw [za]at h
 split at h
 ·exact⟨_,h⟩
 ·rw [zi]at h; exact⟨_,h⟩
theorem gk:∀(l:List KV) (a:List Nat) (K:List Nat→QR),(KV.rec_1 (motive_1:=fun _=>List Nat→(List Nat→QR)→QR) (motive_2:=fun _=>List Nat→(List Nat→QR)→QR) (fun a K=>K a) (fun _ a K=>K a) (fun _ _ a K=>K a) (fun _ _ a K=>K a) (fun i _ a K=>V4 i a K) (fun a K=>K a) (fun i _ _ _ _ a K=>V4 i a K) (fun a K=>K a) (fun a K=>K a) (fun _ _ _ x y a K=>x a fun a=>y a K) (fun a K=>K a) (fun _ a K=>K a) (fun _ x a K=>x a K) (fun _ x a K=>x a K) (fun i a K=>V4 i a K) (fun a K=>K a) (fun _ _ x a K=>x a K) (fun a K=>K a) (fun a K=>K a) (fun _ _ x y a K=>x a fun a=>y a K) l:List Nat→(List Nat→QR)→QR) a K=Yo l a K
 | [],a,K=>rfl
 | v::l,a,K=>by
  have e:Yo (v::l) a K=Wp v a fun a=>Yo l a K:=rfl
  rw [e]
  have:(fun a=>Yo l a K)=fun a=>_:=funext fun a=>(gk l a K).symm
  rw [this]; rfl
theorem jk:(∀(v:KV) (a:List Nat) (K:List Nat→QR) (r:KV×KH),Wp v a K=some r→∃b,K b=some r)∧∀(l:List KV) (a:List Nat) (K:List Nat→QR) (r:KV×KH),Yo l a K=some r→∃b,K b=some r:=by
  refine ⟨fun v=>KV.rec (motive_1:=fun v=>∀(a:List Nat) (K:List Nat→QR) (r:KV×KH),Wp v a K=some r→∃b,K b=some r) (motive_2:=fun l=>∀(a:List Nat) (K:List Nat→QR) (r:KV×KH),Yo l a K=some r→∃b,K b=some r) ?_ ?_ ?_ ?_ ?_ ?_ ?_ ?_ ?_ ?_ ?_ ?_ ?_ ?_ ?_ ?_ ?_ ?_ ?_ ?_ v,
    fun l=>KV.rec_1 (motive_1:=fun v=>∀(a:List Nat) (K:List Nat→QR) (r:KV×KH),Wp v a K=some r→∃b,K b=some r) (motive_2:=fun l=>∀(a:List Nat) (K:List Nat→QR) (r:KV×KH),Yo l a K=some r→∃b,K b=some r) ?_ ?_ ?_ ?_ ?_ ?_ ?_ ?_ ?_ ?_ ?_ ?_ ?_ ?_ ?_ ?_ ?_ ?_ ?_ ?_ l⟩
  all_goals first
    |exact fun a K r h=>⟨a,h⟩
    |exact fun _ a K r h=>⟨a,h⟩
    |exact fun _ _ a K r h=>⟨a,h⟩
    |exact fun i _ a K r h=>Wh h
    |exact fun i _ _ _ _ a K r h=>Wh h
    |exact fun i a K r h=>Wh h
    | exact fun fn f1 f2 h1 h2 a K r h=>by
        have h:Wp (.func fn f1 f2) a K=some r:=h
        unfold Wp at h
        obtain⟨b,h3⟩:=h1 a _ r ((gk f1 a _).symm.trans h)
        exact h2 b K r ((gk f2 b K).symm.trans h3)
    |exact fun cs h1 a K r h=>h1 a K r ((gk cs a K).symm.trans h)
    |exact fun t v h1 a K r h=>h1 a K r h
    | exact fun v l h1 h2 a K r h=>by
        obtain⟨b,h3⟩:=h1 a _ r h
        exact h2 b K r h3
theorem vY {o:KO} {f:Bool→List KV→QR} {r:KV×KH} (h:o.onCells f=some r):∃ro cs,o= .cells ro cs∧f ro cs=some r:=by
 cases o<;>first|exact⟨_,_,rfl,h⟩|cases h
theorem jY {h:KH} {i:Nat} {f:KO→QR} {r:KV×KH} (q:xX h i f=some r):∃o,h.get i=some o∧f o=some r:=by
 rw [xo]at q
 cases hg:h.get i with
 |none=>rw [hg]at q; cases q
 |some o=>rw [hg]at q; exact⟨o,rfl,q⟩
theorem XG {h:KH}:∀(l a:List Nat) (K:List Nat→QR) (r:KV×KH),QF h l a K=some r→∃b,K b=some r
 | [],a,K,r,q=>⟨a,q⟩
 | i::l,a,K,r,q=>by
  obtain⟨o,_,q⟩:=jY (f:=fun o=>o.onCells fun _ cs=>Yo cs a fun a=>QF h l a K) q
  obtain⟨ro,cs,_,q⟩:=vY q
  obtain⟨b,q⟩:=jk.2 _ _ _ _ q
  exact XG l b K r q
theorem uC {h:KH}:∀(m:Nat) (a:List Nat) (K:List Nat→QR) (r:KV×KH),kO h m a K=some r→∃b,K b=some r
 |0,a,K,r,q=>⟨a,q⟩
 | m+1,a,K,r,q=>by
  obtain⟨b,q⟩:=XG a a (fun b=>zb (Nat.beq (UR a) (UR b)) (K b) (kO h m b K)) r q
  rw [za]at q
  split at q
  ·exact⟨b,q⟩
  ·exact uC m b K r q
theorem qE (all:List Nat):(fun i=>bZ i all)=fun i=>all.contains i:=funext fun i=>ga i all
theorem UZ (all:List Nat):k8 all=xl all:=funext fun i=>gY all i
theorem VJ {all:List Nat} {h:KH}:∀(l:List Nat) (K:List KV→QR) (r:KV×KH),Pd all h l K=some r→∃os:List (List KV),os.length=l.length∧K (os.map .agg)=some r ∧
  ∀(j:Nat) (id:Nat),l[j]? =some id→∃cs,h.get id=some (.cells false cs)∧KV.alls (fun i=>all.contains i) cs=true∧os[j]? =some (KV.rens (xl all) cs)
 | [],K,r,q=>⟨[],rfl,q,fun j id e=>by simp at e⟩
 | i ::l,K,r,q=>by
  obtain⟨o,hg,q⟩:=jY (f:=fun o=>o.onCells fun ro cs=>zb ro none (zb (KV.alls (fun i=>bZ i all) cs) (KV.fcs (KV.rens (k8 all) cs) fun cs=>Pd all h l fun os=>K (.agg cs::os)) none)) q
  obtain⟨ro,cs,ho,q1⟩:=vY q
  subst ho
  clear q
  simp only [za]at q1
  split at q1
  ·cases q1
  ·rename_i hro
   split at q1
   ·rename_i ha
    rw [KV.fcs_eq]at q1
    obtain⟨os,h1,h2,h3⟩:=VJ l (fun os=>K (.agg (KV.rens (k8 all) cs)::os)) r q1
    refine⟨KV.rens (k8 all) cs::os,by simp [h1],h2,fun j id e=> ?_⟩
    cases j with
    | zero=>
     simp at e; subst e
     rw [qE]at ha
     exact⟨cs,by rw [hg]; cases ro<;>first|rfl|exact absurd rfl hro,ha,by rw [UZ]; rfl⟩
    | succ j=>
     obtain⟨cs',g1,g2,g3⟩:=h3 j id (by simpa using e)
     exact⟨cs',g1,g2,by simpa using g3⟩
   ·cases q1
theorem DH {v:KV} {h:KH} {r:KV×KH} (q:KP v h=some r):∃(ids:List Nat) (os:List (List KV)),ids.Nodup∧os.length=ids.length∧v.all (fun i=>ids.contains i)=true∧r.1= .tuple [v.ren (xl ids), .tuple (os.map .agg)] ∧
  ∀(j:Nat) (id:Nat),ids[j]? =some id→∃cs,h.get id=some (.cells false cs)∧KV.alls (fun i=>ids.contains i) cs=true∧os[j]? =some (KV.rens (xl ids) cs):=by
 unfold KP at q
 obtain⟨a,q⟩:=jk.1 _ _ _ _ q
 obtain⟨ids,q⟩:=uC _ _ _ _ q
 simp only [za]at q
 split at q
 ·rename_i hnd
  split at q
  ·rename_i ha
   obtain⟨os,h1,h2,h3⟩:=VJ _ _ _ q
   rw [KV.fc_eq,UZ]at h2
   cases h2
   rw [qE]at ha
   exact⟨ids,os,Jw hnd,h1,ha,rfl,h3⟩
  ·cases q
 ·cases q
theorem KV.ren_ren (f g:Nat→Nat):(∀v:KV,(v.ren f).ren g=v.ren fun i=>g (f i))∧∀l:List KV,KV.rens g (KV.rens f l)=KV.rens (fun i=>g (f i)) l:=by
  refine ⟨fun v=>KV.rec (motive_1:=fun v=>(v.ren f).ren g=v.ren fun i=>g (f i)) (motive_2:=fun l=>KV.rens g (KV.rens f l)=KV.rens (fun i=>g (f i)) l) ?_ ?_ ?_ ?_ ?_ ?_ ?_ ?_ ?_ ?_ ?_ ?_ ?_ ?_ ?_ ?_ ?_ ?_ ?_ ?_ v,
    fun l=>KV.rec_1 (motive_1:=fun v=>(v.ren f).ren g=v.ren fun i=>g (f i)) (motive_2:=fun l=>KV.rens g (KV.rens f l)=KV.rens (fun i=>g (f i)) l) ?_ ?_ ?_ ?_ ?_ ?_ ?_ ?_ ?_ ?_ ?_ ?_ ?_ ?_ ?_ ?_ ?_ ?_ ?_ ?_ l⟩
  all_goals first
    |rfl
    |exact fun _=>rfl
    |exact fun _ _=>rfl
    |exact fun _ _ _ _ _=>rfl
    | exact fun fn f1 f2 h1 h2=>by
        have e:∀(σ:Nat→Nat) (a b:List KV),KV.ren σ (.func fn a b)= .func fn (KV.rens σ a) (KV.rens σ b):=fun σ a b=>by rw [←KV.rens_rec,←KV.rens_rec]; rfl
        rw [e,e,e,h1,h2]
    | exact fun cs h1=>by
        have e:∀(σ:Nat→Nat) (a:List KV),KV.ren σ (.agg a)= .agg (KV.rens σ a):=fun σ a=>by rw [←KV.rens_rec]; rfl
        rw [e,e,e,h1]
    | exact fun cs h1=>by
        have e:∀(σ:Nat→Nat) (a:List KV),KV.ren σ (.tuple a)= .tuple (KV.rens σ a):=fun σ a=>by rw [←KV.rens_rec]; rfl
        rw [e,e,e,h1]
    | exact fun t v h1=>by
        show KV.iface t _=KV.iface t _
        congr 1
    | exact fun v l h1 h2=>by
        show(v.ren f).ren g::KV.rens g (KV.rens f l)=(v.ren fun i=>g (f i))::KV.rens (fun i=>g (f i)) l
        rw [h1,h2]
noncomputable def Ks (base:Nat) (os:List KV):KH→(KH→QR)→QR:=List.rec (motive:=fun _=>KH→(KH→QR)→QR) (fun h K=>K h) (fun o _ ih h K=>o.onAgg (fun cs=>KV.fcs (KV.rens (Nat.add base) cs) fun cs=>yQ h (.cells false cs) fun _ h=>ih h K) none) os
theorem Ug (base:Nat) {K:KH→QR} {r:KV×KH}:∀(os:List (List KV)) (h:KH),Ks base (os.map .agg) h K=some r→(os≠ []→h.next+os.length<65000)∧K (wu h (os.map (KV.rens (Nat.add base))))=some r
 | [],h,q=>⟨fun x=>absurd rfl x,q⟩
 | cs::os,h,q=>by
  have q:(KV.fcs (KV.rens (Nat.add base) cs) fun cs=>yQ h (.cells false cs) fun _ h=>Ks base (os.map .agg) h K)=some r:=q
  rw [KV.fcs_eq,yI]at q
  split at q
  ·rename_i hr
   obtain⟨h1,h2⟩:=Ug base os _ q
   refine⟨fun _=> ?_,h2⟩
   have hr:h.next+1<65000:=by simpa [yw,zL] using hr
   by_cases ho:os= []
   ·subst ho; simpa using hr
   ·have:=h1 ho
    have e:(h.push (.cells false (KV.rens (Nat.add base) cs))).next=h.next+1:=rfl
    rw [e]at this
    simp; omega
  ·cases q
noncomputable def eq (X:QX) (n N0:Nat) (f:FuncId) (args:List KV) (h:KH):Option (KV×KH):=
 zb (KV.frees args) (Option.rec (motive:=fun _=>KH→Option (KV×KH)) (fun _=>none) (fun p h=>p.1.onTuple (fun l=>List.rec (motive:=fun _=>QR) none (fun r t _=>List.rec (motive:=fun _=>QR) none (fun o _ _=>o.onTuple (fun os=>nfc h.next fun base=>zb (Nat.blt base 65000) (Ks base os h fun h=>(r.ren (Nat.add base)).fc fun r=>some (r,h)) none) none) t) l) none) ((qgo X n).call f args ⟨N64k.empty,N0⟩ KP) h) none
theorem De {P:Program} {X:QX} (ok:X.Ok P) {n N0:Nat} (h1:P.globals.size≤N0) (h2:N0<65000) {f:FuncId} {args:List KV} {h h':KH} {v:KV} (e:eq X n N0 f args h=some (v,h')):KCall P f args h v h':=by
 unfold eq at e
 rw [za]at e
 split at e
 ·rename_i ha
  cases hc:(qgo X n).call f args ⟨N64k.empty,N0⟩ KP with
  |none=>rw [hc]at e; cases e
  | some p=>
   rw [hc]at e
   obtain⟨r,g1,_,k,q⟩:=(pk ok n).call _ _ _ _ _ hc
   obtain⟨ids,os,t1,t2,t3,t4,t5⟩:=DH q
   obtain⟨T,hT⟩:=p
   simp only at t4
   subst t4
   have e:(nfc h.next fun base=>zb (Nat.blt base 65000) (Ks base (os.map .agg) h fun h=>((r.ren (xl ids)).ren (Nat.add base)).fc fun r=>some (r,h)) none)=some (v,h'):=e
   rw [zi,za]at e
   split at e
   ·rename_i hb
    have hb:h.next<65000:=iD hb
    obtain⟨i1,i2⟩:=Ug h.next os h e
    rw [KV.fc_eq]at i2
    simp only [Option.some.injEq,Prod.mk.injEq]at i2
    obtain⟨rfl,rfl⟩:=i2
    have htop:h.next+(os.map (KV.rens (Nat.add h.next))).length<65000:=by
     rw [List.length_map]
     by_cases ho:os= []
     ·subst ho; simpa using hb
     ·exact i1 ho
    have key:=KCall.move k h2 h1 ha (ids:=ids) (os:=os.map (KV.rens (Nat.add h.next))) (h:=h) t1 (by rw [List.length_map]; exact t2) t3 (fun j id hj=>by
     obtain⟨cs,c1,c2,c3⟩:=t5 j id hj
     refine⟨cs,c1,c2, ?_⟩
     rw [List.getElem?_map,c3,Option.map_some,(KV.ren_ren _ _).2]
     rfl) htop
    rw [(KV.ren_ren _ _).1]
    exact key
   ·cases e
 ·cases e
def ww:KH→List (List KV)→KH
 |h,[]=>h
 |h,cs::os=>ww (h.push (.cells true cs)) os
theorem py:∀(os:List (List KV)) (h:KH),(ww h os).next=h.next+os.length
 | [],h=>rfl
 |cs::os,h=>by rw [ww,py os]; show h.next+1+os.length=_; simp; omega
theorem Yk:∀(os:List (List KV)) (h:KH),h.next+os.length<65000→(∀id o,h.get id=some o→id<h.next)→∀id,(ww h os).get id=if id<h.next then h.get id else(os[id-h.next]?).map (.cells true)
 | [],h,hn,hl,id=>by
  rw [ww]
  split
  ·rfl
  ·cases hg:h.get id with
   |none=>simp
   |some o=>exact absurd (hl id o hg) (by assumption)
 | cs::os,h,hn,hl,id=>by
  have hn':h.next+1+os.length<65000:=by simp at hn; omega
  have e1:=xJ h (by omega) (.cells true cs)
  rw [ww,Yk os (h.push (.cells true cs)) hn' (fun i o e=>by
   rw [e1]at e
   show i<h.next+1
   split at e
   ·omega
   ·have:=hl i o e; omega) id]
  show(if id<h.next+1 then(h.push (.cells true cs)).get id else(os[id-(h.next+1)]?).map (.cells true))=_
  rw [e1]
  by_cases h1:id<h.next
  ·rw [if_pos (by omega),if_neg (by omega),if_pos h1]
  ·by_cases h2:id=h.next
   ·subst h2
    rw [if_pos (by omega),if_pos rfl,if_neg h1,Nat.sub_self]; rfl
   ·rw [if_neg (by omega),if_neg h1,show id-h.next=(id-(h.next+1))+1 by omega,List.getElem?_cons_succ]
theorem Km {ids:List Nat} {i:Nat} (hi:ids.contains i=true):xl ids i<ids.length∧ids[xl ids i]? =some i:=by
 have hm:i∈ids:=by simpa using hi
 have hlt:xl ids i<ids.length:=List.findIdx_lt_length_of_exists ⟨i,hm,by simp⟩
 refine⟨hlt, ?_⟩
 have:=List.findIdx_getElem (xs:=ids) (p:=(·==i)) (w:=hlt)
 rw [List.getElem?_eq_getElem hlt]
 exact congrArg some (eq_of_beq this)
theorem KRs.ren {G G':Gh} {σ:Nat→Nat} {A:Nat→Bool} (hA:∀i,A i=true→G'.at_ (σ i)=G.at_ i∧G'.room (σ i)=G.room i) {vs:List KV} {cs:Array Value} (k:KRs G vs cs) (h:KV.alls A vs=true):KRs G' (KV.rens σ vs) cs:=
 ⟨by rw [KV.rens_len]; exact k.1,fun i v c e1 e2=>by
  rw [KV.rens_get]at e1
  obtain⟨u,e3,rfl⟩:=Option.map_eq_some_iff.1 e1
  exact(k.2 i u c e3 e2).ren hA (KV.alls_mem h e3)⟩
def back (N0:Nat) (ids0 ids:List Nat) (base i:Nat):Nat:=if i<N0+ids0.length then ids0.getD (i-N0) 0 else base+xl ids i
theorem KCall.move2 {P:Program} {f:FuncId} {args:List KV} {r:KV} {h1 h:KH} {N0:Nat} {ids0 ids:List Nat} {os0 os:List (List KV)}
  (k:KCall P f (KV.rens (fun i=>N0+xl ids0 i) args) (ww ⟨N64k.empty,N0⟩ os0) r h1) (hN:N0+os0.length<65000) (hP:P.globals.size≤N0) (ha:KV.alls (fun i=>ids0.contains i) args=true) (hlen0:os0.length=ids0.length)
  (ho0:∀(j:Nat) (id:Nat),ids0[j]? =some id→∃ro cs,h.get id=some (.cells ro cs)∧KV.alls (fun i=>ids0.contains i) cs=true∧os0[j]? =some (KV.rens (fun i=>N0+xl ids0 i) cs))
  (hd:ids.Nodup) (hlen:os.length=ids.length) {A:Nat→Bool} (hAd:∀i,A i=true→(N0≤i∧i<N0+ids0.length)∨(N0+ids0.length≤i∧ids.contains i=true)) (hr:r.all A=true)
  (ho:∀(j:Nat) (id:Nat),ids[j]? =some id→∃cs,h1.get id=some (.cells false cs)∧KV.alls A cs=true∧os[j]? =some (KV.rens (back N0 ids0 ids h.next) cs)) (htop:h.next+os.length<65000):
  KCall P f args h (r.ren (back N0 ids0 ids h.next)) (wu h os):=by
 intro B G w cargs n hg kr hargs
 have emp:∀id,(⟨N64k.empty,N0⟩:KH).get id=none:=fun id=>N64k.get_empty _
 have get0:∀id,(ww ⟨N64k.empty,N0⟩ os0).get id=if id<N0 then none else(os0[id-N0]?).map (.cells true):=fun id=>by
  have:=Yk os0 ⟨N64k.empty,N0⟩ hN (fun i o e=>by rw [emp]at e; cases e) id
  rw [this,emp]
 have next0:(ww ⟨N64k.empty,N0⟩ os0).next=N0+os0.length:=py os0 _
 let G0:Gh:=⟨fun id=>if id<N0 then(if id<P.globals.size then G.at_ id else none)else(ids0[id-N0]?).bind G.at_,fun id=>if id<N0 then G.room id else((ids0[id-N0]?).map G.room).getD 0⟩
 have hA0:∀i,ids0.contains i=true→G0.at_ (N0+xl ids0 i)=G.at_ i∧G0.room (N0+xl ids0 i)=G.room i:=fun i hi=>by
  obtain⟨h2,h3⟩:=Km hi
  constructor
  ·show(if N0+xl ids0 i<N0 then _ else(ids0[N0+xl ids0 i-N0]?).bind G.at_)=_
   rw [if_neg (by omega),Nat.add_sub_cancel_left,h3]; rfl
  ·show(if N0+xl ids0 i<N0 then _ else((ids0[N0+xl ids0 i-N0]?).map G.room).getD 0)=_
   rw [if_neg (by omega),Nat.add_sub_cancel_left,h3]; rfl
 have kr0:KRel ⟨w,fun _=>False,fun _ _=>none⟩ G0 (ww ⟨N64k.empty,N0⟩ os0) w:={
  kept:= .refl _ _ _
  blk :=fun id o e=>by
   rw [get0]at e
   split at e
   ·cases e
   ·rename_i hn
    obtain⟨cs',e1,rfl⟩:=Option.map_eq_some_iff.1 e
    have hlt:id-N0<ids0.length:=by
     rcases Nat.lt_or_ge (id-N0) os0.length with h|h
     ·omega
     ·rw [List.getElem?_eq_none h]at e1; cases e1
    obtain⟨ro,cs,e2,e3,e4⟩:=ho0 (id-N0) ids0[id-N0] (List.getElem?_eq_getElem hlt)
    rw [e4]at e1; cases e1
    obtain⟨b,kk,ob,q1,q2,q3,q4⟩:=kr.blk _ _ e2
    refine⟨b,kk,ob, ?_,fun x=>(by cases x),q3, ?_⟩
    ·show(if id<N0 then _ else(ids0[id-N0]?).bind G.at_)=_
     rw [if_neg hn,List.getElem?_eq_getElem hlt]; exact q1
    ·have er:G0.room id=G.room ids0[id-N0]:=by
      show(if id<N0 then _ else((ids0[id-N0]?).map G.room).getD 0)=_
      rw [if_neg hn,List.getElem?_eq_getElem hlt]; rfl
     rw [er]
     cases q4 with
     | cells a1 a2 a3 a4=>
      refine .cells (by rw [KV.rens_len]; exact a1) a2 (fun x=>(by cases x)) fun j v x h2 h3=> ?_
      rw [KV.rens_get]at h2
      obtain⟨u,h4,rfl⟩:=Option.map_eq_some_iff.1 h2
      exact(a4 j u x h4 h3).ren hA0 (KV.alls_mem e3 h4)
  lt :=fun id b kk e=>by
   have e:(if id<N0 then(if id<P.globals.size then G.at_ id else none)else(ids0[id-N0]?).bind G.at_)=some (b,kk):=e
   rw [next0]
   split at e
   ·split at e
    ·exact⟨(kr.lt _ _ _ e).1,by omega⟩
    ·cases e
   ·obtain ⟨i,e1,e2⟩:=Option.bind_eq_some_iff.1 e
    have hlt:id-N0<ids0.length:=by
     rcases Nat.lt_or_ge (id-N0) ids0.length with h|h
     ·exact h
     ·rw [List.getElem?_eq_none h]at e1; cases e1
    exact⟨(kr.lt _ _ _ e2).1,by omega⟩
  sep :=fun i j oi oj b ki kj e1 e2 _ _=> .inr (by
   rw [get0]at e1 e2
   split at e1
   ·cases e1
   ·split at e2
    ·cases e2
    ·obtain⟨_,_,rfl⟩:=Option.map_eq_some_iff.1 e1
     obtain⟨_,_,rfl⟩:=Option.map_eq_some_iff.1 e2
     exact⟨rfl,rfl⟩)
  top:=by rw [next0]; exact hN
  res:=fun _ _ _ _ _ _=> .inl rfl}
 have hg0:Glob P G0:=fun g hgl=>by
  show(if g<N0 then(if g<P.globals.size then G.at_ g else none)else _)=_
  rw [if_pos (by omega),if_pos hgl,hg g hgl]
 refine(k ⟨w,fun _=>False,fun _ _=>none⟩ G0 w cargs n hg0 kr0 (hargs.ren hA0 ha)).mono ?_
 rintro en w1 ⟨c,G2,rfl,g1,g2,g3⟩
 let G':Gh:=⟨fun id=>if id<h.next then G.at_ id else(ids[id-h.next]?).bind G2.at_,fun id=>if id<h.next then G.room id else((ids[id-h.next]?).map G2.room).getD 0⟩
 have krk:KRel B G h w1:=kr.keep g3.kept
 have hle:G.le G':=⟨fun {i x} e=>by
  show(if i<h.next then G.at_ i else _)=some x
  rw [if_pos (kr.lt i x.1 x.2 e).2]; exact e,fun {i x} e=>by
  show(if i<h.next then G.room i else _)=G.room i
  rw [if_pos (kr.lt i x.1 x.2 e).2]⟩
 have hA:∀i,A i=true→G'.at_ (back N0 ids0 ids h.next i)=G2.at_ i∧G'.room (back N0 ids0 ids h.next i)=G2.room i:=fun i hi=>by
  unfold back
  rcases hAd i hi with⟨hi1,hi2⟩|⟨hi1,hi2⟩
  ·rw [if_pos hi2]
   have hlt:i-N0<ids0.length:=by omega
   have hgd:ids0.getD (i-N0) 0=ids0[i-N0]:=by simp [List.getD,List.getElem?_eq_getElem hlt]
   obtain⟨ro,cs,e2,_,_⟩:=ho0 (i-N0) ids0[i-N0] (List.getElem?_eq_getElem hlt)
   obtain⟨b,kk,ob,q1,_⟩:=kr.blk _ _ e2
   have hb:ids0[i-N0]<h.next:=(kr.lt _ _ _ q1).2
   have q0:G0.at_ i=some (b,kk):=by
    show(if i<N0 then _ else(ids0[i-N0]?).bind G.at_)=_
    rw [if_neg (by omega),List.getElem?_eq_getElem hlt]; exact q1
   have r0:G0.room i=G.room ids0[i-N0]:=by
    show(if i<N0 then _ else((ids0[i-N0]?).map G.room).getD 0)=_
    rw [if_neg (by omega),List.getElem?_eq_getElem hlt]; rfl
   rw [hgd,g1.at_ q0,g1.room q0,r0]
   constructor
   ·show(if ids0[i-N0]<h.next then G.at_ ids0[i-N0]else _)=_
    rw [if_pos hb]; exact q1
   ·show(if ids0[i-N0]<h.next then G.room ids0[i-N0]else _)=_
    rw [if_pos hb]
  ·rw [if_neg (by omega)]
   obtain⟨h2,h3⟩:=Km hi2
   constructor
   ·show(if h.next+xl ids i<h.next then _ else(ids[h.next+xl ids i-h.next]?).bind G2.at_)=_
    rw [if_neg (by omega),Nat.add_sub_cancel_left,h3]; rfl
   ·show(if h.next+xl ids i<h.next then _ else((ids[h.next+xl ids i-h.next]?).map G2.room).getD 0)=_
    rw [if_neg (by omega),Nat.add_sub_cancel_left,h3]; rfl
 have hget:=qI os h htop (fun id o e=>kr.id_lt e)
 have hnext:=jK os h
 have hin:∀id b kk,¬id<h.next→G'.at_ id=some (b,kk)→∃i,ids[id-h.next]? =some i∧G2.at_ i=some (b,kk):=fun id b kk hn e=>by
  have e:(if id<h.next then G.at_ id else(ids[id-h.next]?).bind G2.at_)=some (b,kk):=e
  rw [if_neg hn]at e
  exact Option.bind_eq_some_iff.1 e
 have hold:∀id,id<h.next→G'.at_ id=G.at_ id:=fun id hi=>if_pos hi
 have hnew:∀id o,¬id<h.next→(wu h os).get id=some o→∃i cs,ids[id-h.next]? =some i∧h1.get i=some (.cells false cs)∧KV.alls A cs=true∧o= .cells false (KV.rens (back N0 ids0 ids h.next) cs):=fun id o hn e=>by
  rw [hget,if_neg hn]at e
  obtain⟨cs',e1,rfl⟩:=Option.map_eq_some_iff.1 e
  have hlt:id-h.next<ids.length:=by
   rcases Nat.lt_or_ge (id-h.next) os.length with h|h
   ·omega
   ·rw [List.getElem?_eq_none h]at e1; cases e1
  obtain⟨cs,e2,e3,e4⟩:=ho (id-h.next) ids[id-h.next] (List.getElem?_eq_getElem hlt)
  rw [e4]at e1
  cases e1
  exact⟨_,cs,List.getElem?_eq_getElem hlt,e2,e3,rfl⟩
 have hfresh:∀i cs b kk,h1.get i=some (.cells false cs)→G2.at_ i=some (b,kk)→w.heap.size≤b:=fun i cs b kk e e2=>by
  obtain⟨b',kk',ob,q1,q2,_⟩:=g3.blk i _ e
  rw [e2]at q1
  simp only [Option.some.injEq,Prod.mk.injEq]at q1
  obtain⟨rfl,rfl⟩:=q1
  exact(q2 rfl).elim id False.elim
 refine⟨c,G',rfl,hle,g2.ren hA hr, ?_⟩
 exact {
  kept:=krk.kept
  blk :=fun id o e=>by
   by_cases hn:id<h.next
   ·rw [hget,if_pos hn]at e
    obtain⟨b,kk,ob,q1,q2,q3,q4⟩:=krk.blk id o e
    exact⟨b,kk,ob,hle.at_ q1,q2,q3,by rw [hle.room q1]; exact q4.le hle⟩
   ·obtain ⟨i,cs,e1,e2,e3,rfl⟩:=hnew id o hn e
    obtain⟨b,kk,ob,q1,q2,q3,q4⟩:=g3.blk i _ e2
    refine⟨b,kk,ob, ?_,fun _=> .inl (Nat.le_trans kr.kept.size (hfresh i cs b kk e2 q1)),q3, ?_⟩
    ·show(if id<h.next then G.at_ id else(ids[id-h.next]?).bind G2.at_)=_
     rw [if_neg hn,e1]; exact q1
    ·have er:G'.room id=G2.room i:=by
      show(if id<h.next then G.room id else((ids[id-h.next]?).map G2.room).getD 0)=_
      rw [if_neg hn,e1]; rfl
     rw [er]
     cases q4 with
     | cells a1 a2 a3 a4=>
      refine .cells (by rw [KV.rens_len]; exact a1) a2 a3 fun j v x h2 h3=> ?_
      rw [KV.rens_get]at h2
      obtain⟨u,h4,rfl⟩:=Option.map_eq_some_iff.1 h2
      exact(a4 j u x h4 h3).ren hA (KV.alls_mem e3 h4)
  lt :=fun id b kk e=>by
   by_cases hn:id<h.next
   ·rw [hold id hn]at e
    exact⟨(krk.lt _ _ _ e).1,by rw [hnext]; omega⟩
   ·obtain ⟨i,e1,e2⟩:=hin id b kk hn e
    have hlt:id-h.next<ids.length:=by
     rcases Nat.lt_or_ge (id-h.next) ids.length with h|h
     ·exact h
     ·rw [List.getElem?_eq_none h]at e1; cases e1
    exact⟨(g3.lt _ _ _ e2).1,by rw [hnext,hlen]; omega⟩
  sep :=fun i j oi oj b ki kj e1 e2 e3 e4=>by
   by_cases hi:i<h.next
   ·by_cases hj:j<h.next
    ·rw [hget,if_pos hi]at e1
     rw [hget,if_pos hj]at e2
     rw [hold i hi]at e3
     rw [hold j hj]at e4
     exact krk.sep i j oi oj b ki kj e1 e2 e3 e4
    ·rw [hold i hi]at e3
     obtain⟨j',cs,q1,q2,_,rfl⟩:=hnew j oj hj e2
     obtain⟨j2,q3,q4⟩:=hin j b kj hj e4
     rw [q1]at q3; cases q3
     have h5:=hfresh _ _ _ _ q2 q4
     have h6:=(kr.lt i b ki e3).1
     omega
   ·by_cases hj:j<h.next
    ·rw [hold j hj]at e4
     obtain⟨i',cs,q1,q2,_,rfl⟩:=hnew i oi hi e1
     obtain⟨i2,q3,q4⟩:=hin i b ki hi e3
     rw [q1]at q3; cases q3
     have h5:=hfresh _ _ _ _ q2 q4
     have h6:=(kr.lt j b kj e4).1
     omega
    ·obtain ⟨i',cs,q1,q2,_,rfl⟩:=hnew i oi hi e1
     obtain⟨j',cs',p1,p2,_,rfl⟩:=hnew j oj hj e2
     obtain⟨i2,q3,q4⟩:=hin i b ki hi e3
     obtain⟨j2,p3,p4⟩:=hin j b kj hj e4
     rw [q1]at q3; cases q3
     rw [p1]at p3; cases p3
     rcases g3.sep i' j' _ _ b ki kj q2 p2 q4 p4 with h5|h5
     ·subst h5
      have hli:i-h.next<ids.length:=by
       rcases Nat.lt_or_ge (i-h.next) ids.length with h|h
       ·exact h
       ·rw [List.getElem?_eq_none h]at q1; cases q1
      have hlj:j-h.next<ids.length:=by
       rcases Nat.lt_or_ge (j-h.next) ids.length with h|h
       ·exact h
       ·rw [List.getElem?_eq_none h]at p1; cases p1
      rw [List.getElem?_eq_getElem hli]at q1
      rw [List.getElem?_eq_getElem hlj]at p1
      have:i-h.next=j-h.next:=(List.getElem_inj hd).1 (by
       have a:=Option.some.inj q1; have b:=Option.some.inj p1
       exact a.trans b.symm)
      exact .inl (by omega)
     ·exact absurd h5.1 (by simp [KO.ro])
  top:=by rw [hnext]; exact htop
  res:=fun id o b kk e e2=>by
   by_cases hn:id<h.next
   ·rw [hget,if_pos hn]at e
    rw [hold id hn]at e2
    exact krk.res id o b kk e e2
   ·obtain⟨i,cs,q1,q2,_,rfl⟩:=hnew id o hn e
    obtain⟨i2,q3,q4⟩:=hin id b kk hn e2
    rw [q1]at q3; cases q3
    exact .inr (Nat.le_trans kr.kept.size (hfresh _ _ _ _ q2 q4))}
noncomputable def Vb (σ:Nat→Nat) (all:List Nat) (h:KH) (l:List Nat):(List KV→QR)→QR:=List.rec (motive:=fun _=>(List KV→QR)→QR) (fun K=>K []) (fun i _ ih K=>xX h i fun o=>o.onCells fun _ cs=>zb (KV.alls (fun i=>bZ i all) cs) (KV.fcs (KV.rens σ cs) fun cs=>ih fun os=>K (.agg cs::os)) none) l
noncomputable def roK (os:List KV):KH→(KH→QR)→QR:=List.rec (motive:=fun _=>KH→(KH→QR)→QR) (fun h K=>K h) (fun o _ ih h K=>o.onAgg (fun cs=>yQ h (.cells true cs) fun _ h=>ih h K) none) os
noncomputable def sU (m:Nat) (l:List Nat):List Nat:=List.rec (motive:=fun _=>List Nat) [] (fun x _ ih=>zb (Nat.ble m x) (x::ih) ih) l
noncomputable def inK (N0 m:Nat) (ids:List Nat) (i:Nat):Bool:=zb (Nat.blt i m) (Nat.ble N0 i) (bZ i ids)
noncomputable def tK (m:Nat) (ids:List Nat) (i:Nat):Nat:=zb (Nat.blt i m) i (Nat.add m (k8 ids i))
noncomputable def Js (A:Nat→Bool) (σ:Nat→Nat) (h:KH) (l:List Nat):(List KV→QR)→QR:=List.rec (motive:=fun _=>(List KV→QR)→QR) (fun K=>K []) (fun i _ ih K=>xX h i fun o=>o.onCells fun ro cs=>zb ro none (zb (KV.alls A cs) (KV.fcs (KV.rens σ cs) fun cs=>ih fun os=>K (.agg cs::os)) none)) l
noncomputable def jL (N0 m:Nat) (v:KV) (h:KH):QR:=Wp v [] fun a=>kO h 20 a fun all=>lfc (sU m all) fun ids=>zb (ndK ids) (zb (v.all (inK N0 m ids)) (Js (inK N0 m ids) (tK m ids) h ids fun os=>(v.ren (tK m ids)).fc fun r=>some (.tuple [r, .tuple os],h)) none) none
noncomputable def eY (l:List Nat) (j:Nat):Nat:=List.rec (motive:=fun _=>Nat→Nat) (fun _=>0) (fun x _ ih j=>Nat.rec (motive:=fun _=>Nat) x (fun j _=>ih j) j) l j
theorem Q1:∀(l:List Nat) (j:Nat),eY l j=l.getD j 0
 | [],j=>rfl
 |x::l,0=>rfl
 | x::l,j+1=>by
  have e:eY (x::l) (j+1)=eY l j:=rfl
  rw [e,Q1 l j,List.getD_cons_succ]
noncomputable def uK (N0 m base:Nat) (ids0:List Nat) (i:Nat):Nat:=zb (Nat.blt i m) (eY ids0 (Nat.sub i N0)) (Nat.add base (Nat.sub i m))
noncomputable def dY (τ:Nat→Nat) (os:List KV):KH→(KH→QR)→QR:=List.rec (motive:=fun _=>KH→(KH→QR)→QR) (fun h K=>K h) (fun o _ ih h K=>o.onAgg (fun cs=>KV.fcs (KV.rens τ cs) fun cs=>yQ h (.cells false cs) fun _ h=>ih h K) none) os
noncomputable def DJ (X:QX) (n N0:Nat) (f:FuncId) (args:List KV) (h:KH):Option (KV×KH):=
 Yo args [] fun a=>kO h 20 a fun ids0=>zb (KV.alls (fun i=>bZ i ids0) args) (Vb (fun i=>Nat.add N0 (k8 ids0 i)) ids0 h ids0 fun os0=>KV.fcs (KV.rens (fun i=>Nat.add N0 (k8 ids0 i)) args) fun args0=>roK os0 ⟨N64k.empty,N0⟩ fun h0=>
  nfc (Nat.add N0 (UR ids0)) fun m=>zb (Nat.blt m 65000) (Option.rec (motive:=fun _=>QR) none (fun p=>p.1.onTuple (fun l=>List.rec (motive:=fun _=>QR) none (fun r t _=>List.rec (motive:=fun _=>QR) none (fun o _ _=>o.onTuple (fun os=>nfc h.next fun base=>zb (Nat.blt base 65000) (dY (uK N0 m base ids0) os h fun h=>(r.ren (uK N0 m base ids0)).fc fun r=>some (r,h)) none) none) t) l) none) ((qgo X n).call f args0 h0 (jL N0 m))) none) none
theorem pd {σ:Nat→Nat} {all:List Nat} {h:KH}:∀(l:List Nat) (K:List KV→QR) (r:KV×KH),Vb σ all h l K=some r→∃os:List (List KV),os.length=l.length∧K (os.map .agg)=some r ∧
  ∀(j:Nat) (id:Nat),l[j]? =some id→∃ro cs,h.get id=some (.cells ro cs)∧KV.alls (fun i=>all.contains i) cs=true∧os[j]? =some (KV.rens σ cs)
 | [],K,r,q=>⟨[],rfl,q,fun j id e=>by simp at e⟩
 | i ::l,K,r,q=>by
  obtain⟨o,hg,q⟩:=jY (f:=fun o=>o.onCells fun _ cs=>zb (KV.alls (fun i=>bZ i all) cs) (KV.fcs (KV.rens σ cs) fun cs=>Vb σ all h l fun os=>K (.agg cs::os)) none) q
  obtain⟨ro,cs,ho,q1⟩:=vY q
  subst ho
  clear q
  rw [za]at q1
  split at q1
  ·rename_i ha
   rw [KV.fcs_eq]at q1
   obtain⟨os,h1,h2,h3⟩:=pd l (fun os=>K (.agg (KV.rens σ cs)::os)) r q1
   refine⟨KV.rens σ cs::os,by simp [h1],h2,fun j id e=> ?_⟩
   cases j with
   | zero=>
    simp at e; subst e
    rw [qE]at ha
    exact⟨ro,cs,hg,ha,rfl⟩
   | succ j=>
    obtain⟨ro',cs',g1,g2,g3⟩:=h3 j id (by simpa using e)
    exact⟨ro',cs',g1,g2,by simpa using g3⟩
  ·cases q1
theorem Xv {A:Nat→Bool} {σ:Nat→Nat} {h:KH}:∀(l:List Nat) (K:List KV→QR) (r:KV×KH),Js A σ h l K=some r→∃os:List (List KV),os.length=l.length∧K (os.map .agg)=some r ∧
  ∀(j:Nat) (id:Nat),l[j]? =some id→∃cs,h.get id=some (.cells false cs)∧KV.alls A cs=true∧os[j]? =some (KV.rens σ cs)
 | [],K,r,q=>⟨[],rfl,q,fun j id e=>by simp at e⟩
 | i ::l,K,r,q=>by
  obtain⟨o,hg,q⟩:=jY (f:=fun o=>o.onCells fun ro cs=>zb ro none (zb (KV.alls A cs) (KV.fcs (KV.rens σ cs) fun cs=>Js A σ h l fun os=>K (.agg cs::os)) none)) q
  obtain⟨ro,cs,ho,q1⟩:=vY q
  subst ho
  clear q
  simp only [za]at q1
  split at q1
  ·cases q1
  ·rename_i hro
   split at q1
   ·rename_i ha
    rw [KV.fcs_eq]at q1
    obtain⟨os,h1,h2,h3⟩:=Xv l (fun os=>K (.agg (KV.rens σ cs)::os)) r q1
    refine⟨KV.rens σ cs::os,by simp [h1],h2,fun j id e=> ?_⟩
    cases j with
    | zero=>
     simp at e; subst e
     exact⟨cs,by rw [hg]; cases ro<;>first|rfl|exact absurd rfl hro,ha,rfl⟩
    | succ j=>
     obtain⟨cs',g1,g2,g3⟩:=h3 j id (by simpa using e)
     exact⟨cs',g1,g2,by simpa using g3⟩
   ·cases q1
theorem J6 {K:KH→QR} {r:KV×KH}:∀(os:List (List KV)) (h:KH),roK (os.map .agg) h K=some r→(os≠ []→h.next+os.length<65000)∧K (ww h os)=some r
 | [],h,q=>⟨fun x=>absurd rfl x,q⟩
 | cs::os,h,q=>by
  have q:(yQ h (.cells true cs) fun _ h=>roK (os.map .agg) h K)=some r:=q
  rw [yI]at q
  split at q
  ·rename_i hr
   obtain⟨h1,h2⟩:=J6 os _ q
   refine⟨fun _=> ?_,h2⟩
   have hr:h.next+1<65000:=by simpa [yw,zL] using hr
   by_cases ho:os= []
   ·subst ho; simpa using hr
   ·have:=h1 ho
    have e:(h.push (.cells true cs)).next=h.next+1:=rfl
    rw [e]at this
    simp; omega
  ·cases q
theorem dL {τ:Nat→Nat} {K:KH→QR} {r:KV×KH}:∀(os:List (List KV)) (h:KH),dY τ (os.map .agg) h K=some r→(os≠ []→h.next+os.length<65000)∧K (wu h (os.map (KV.rens τ)))=some r
 | [],h,q=>⟨fun x=>absurd rfl x,q⟩
 | cs::os,h,q=>by
  have q:(KV.fcs (KV.rens τ cs) fun cs=>yQ h (.cells false cs) fun _ h=>dY τ (os.map .agg) h K)=some r:=q
  rw [KV.fcs_eq,yI]at q
  split at q
  ·rename_i hr
   obtain⟨h1,h2⟩:=dL os _ q
   refine⟨fun _=> ?_,h2⟩
   have hr:h.next+1<65000:=by simpa [yw,zL] using hr
   by_cases ho:os= []
   ·subst ho; simpa using hr
   ·have:=h1 ho
    have e:(h.push (.cells false (KV.rens τ cs))).next=h.next+1:=rfl
    rw [e]at this
    simp; omega
  ·cases q
theorem Xn {N0 m:Nat} {v:KV} {h:KH} {r:KV×KH} (q:jL N0 m v h=some r):∃(ids:List Nat) (os:List (List KV)),ids.Nodup∧os.length=ids.length∧v.all (inK N0 m ids)=true∧r.1= .tuple [v.ren (tK m ids), .tuple (os.map .agg)] ∧
  ∀(j:Nat) (id:Nat),ids[j]? =some id→∃cs,h.get id=some (.cells false cs)∧KV.alls (inK N0 m ids) cs=true∧os[j]? =some (KV.rens (tK m ids) cs):=by
 unfold jL at q
 obtain⟨a,q⟩:=jk.1 _ _ _ _ q
 obtain⟨all,q⟩:=uC _ _ _ _ q
 rw [qL]at q
 generalize sU m all=ids at q
 simp only [za]at q
 split at q
 ·rename_i hnd
  split at q
  ·rename_i ha
   obtain⟨os,h1,h2,h3⟩:=Xv _ _ _ q
   rw [KV.fc_eq]at h2
   cases h2
   exact⟨ids,os,Jw hnd,h1,ha,rfl,h3⟩
  ·cases q
 ·cases q
theorem W8:∀l:List Nat,UR l=l.length
 | []=>rfl
 |x::l=>by show Nat.succ (UR l)=_; rw [W8 l]; rfl
theorem mJ {N0 base:Nat} {ids0 ids:List Nat} (i:Nat):uK N0 (N0+ids0.length) base ids0 (tK (N0+ids0.length) ids i)=back N0 ids0 ids base i:=by
 unfold uK tK back
 simp only [za,Q1,gY]
 by_cases hi:i<N0+ids0.length
 ·have h1:(Nat.blt i (N0+ids0.length))=true:=by rw [Nat.blt_eq]; exact hi
  rw [if_pos h1,if_pos h1,if_pos hi]; rfl
 ·have h1:¬(Nat.blt i (N0+ids0.length))=true:=fun x=>hi (by rwa [Nat.blt_eq]at x)
  rw [if_neg h1,if_neg hi]
  have h2:¬(Nat.blt (Nat.add (N0+ids0.length) (xl ids i)) (N0+ids0.length))=true:=fun x=>by
   rw [Nat.blt_eq]at x
   have x:N0+ids0.length+xl ids i<N0+ids0.length:=x
   omega
  rw [if_neg h2]
  show base+(N0+ids0.length+xl ids i-(N0+ids0.length))=_
  omega
theorem Pt {P:Program} {X:QX} (ok:X.Ok P) {n N0:Nat} (h1:P.globals.size≤N0) (h2:N0<65000) {f:FuncId} {args:List KV} {h h':KH} {v:KV} (e:DJ X n N0 f args h=some (v,h')):KCall P f args h v h':=by
 unfold DJ at e
 obtain⟨a,e⟩:=jk.2 _ _ _ _ e
 obtain⟨ids0,e⟩:=uC _ _ _ _ e
 rw [za]at e
 split at e
 ·rename_i ha
  rw [qE]at ha
  obtain⟨os0,o1,e,o3⟩:=pd _ _ _ e
  rw [KV.fcs_eq]at e
  obtain⟨r1,e⟩:=J6 _ _ e
  rw [zi,za,W8]at e
  split at e
  ·rename_i hm
   have hm:N0+ids0.length<65000:=iD hm
   have hσ:(fun i=>Nat.add N0 (k8 ids0 i))=fun i=>N0+xl ids0 i:=funext fun i=>by rw [gY]; rfl
   rw [hσ]at o3 e
   cases hc:(qgo X n).call f (KV.rens (fun i=>N0+xl ids0 i) args) (ww ⟨N64k.empty,N0⟩ os0) (jL N0 (Nat.add N0 ids0.length))with
   |none=>rw [hc]at e; cases e
   | some p=>
    rw [hc]at e
    obtain⟨r,g1,_,k,q⟩:=(pk ok n).call _ _ _ _ _ hc
    obtain⟨ids,os,t1,t2,t3,t4,t5⟩:=Xn q
    obtain⟨T,hT⟩:=p
    simp only at t4
    subst t4
    have e:(nfc h.next fun base=>zb (Nat.blt base 65000) (dY (uK N0 (N0+ids0.length) base ids0) (os.map .agg) h fun h=>((r.ren (tK (N0+ids0.length) ids)).ren (uK N0 (N0+ids0.length) base ids0)).fc fun r=>some (r,h)) none)=some (v,h'):=e
    rw [zi,za]at e
    split at e
    ·rename_i hb
     have hb:h.next<65000:=iD hb
     obtain⟨i1,i2⟩:=dL os h e
     rw [KV.fc_eq]at i2
     simp only [Option.some.injEq,Prod.mk.injEq]at i2
     obtain⟨rfl,rfl⟩:=i2
     have hτ:(fun i=>uK N0 (N0+ids0.length) h.next ids0 (tK (N0+ids0.length) ids i))=back N0 ids0 ids h.next:=funext fun i=>mJ i
     have htop:h.next+(os.map (KV.rens (uK N0 (N0+ids0.length) h.next ids0))).length<65000:=by
      rw [List.length_map]
      by_cases ho:os= []
      ·subst ho; simpa using hb
      ·exact i1 ho
     have key:=KCall.move2 (N0:=N0) (ids0:=ids0) (ids:=ids) (os0:=os0) (os:=os.map (KV.rens (uK N0 (N0+ids0.length) h.next ids0))) (A:=inK N0 (N0+ids0.length) ids) (h:=h) k (by rw [o1]; exact hm) h1 ha o1 o3 t1 (by rw [List.length_map]; exact t2)
      (fun i hi=>by
       unfold inK at hi
       rw [za]at hi
       split at hi
       ·rename_i hlt
        exact .inl ⟨iD hi,iD hlt⟩
       ·rename_i hlt
        rw [ga]at hi
        exact .inr ⟨Nat.le_of_not_lt fun x=>hlt (by rw [Nat.blt_eq]; exact x),hi⟩) t3
      (fun j id hj=>by
       obtain⟨cs,c1,c2,c3⟩:=t5 j id hj
       refine⟨cs,c1,c2, ?_⟩
       rw [List.getElem?_map,c3,Option.map_some,(KV.ren_ren _ _).2]
       exact congrArg (fun τ=>some (KV.rens τ cs)) hτ) htop
     rw [(KV.ren_ren _ _).1,hτ]
     exact key
    ·cases e
  ·cases e
 ·cases e
noncomputable def D7 (ρ:List KV→List KV→Nat→Option KV) (N0:Nat) (args:List KV) (h:KH):Option (KV×KH):=
 Yo args [] fun a=>kO h 20 a fun ids0=>zb (KV.alls (fun i=>bZ i ids0) args) (Vb (fun i=>Nat.add N0 (k8 ids0 i)) ids0 h ids0 fun os0=>KV.fcs (KV.rens (fun i=>Nat.add N0 (k8 ids0 i)) args) fun args0=>
  nfc (Nat.add N0 (UR ids0)) fun m=>zb (Nat.blt m 65000) (Option.rec (motive:=fun _=>QR) none (fun T=>T.onTuple (fun l=>List.rec (motive:=fun _=>QR) none (fun r t _=>List.rec (motive:=fun _=>QR) none (fun o _ _=>o.onTuple (fun os=>nfc h.next fun base=>zb (Nat.blt base 65000) (dY (uK N0 m base ids0) os h fun h=>(r.ren (uK N0 m base ids0)).fc fun r=>some (r,h)) none) none) t) l) none) (ρ args0 os0 m)) none) none
theorem cE {P:Program} {X:QX} (ok:X.Ok P) {n N0:Nat} (h1:P.globals.size≤N0) (h2:N0<65000) {f:FuncId} {ρ:List KV→List KV→Nat→Option KV} (hρ:∀(args0:List KV) (os0:List (List KV)) (T:KV),ρ args0 (os0.map .agg) (N0+os0.length)=some T→∃hT,(qgo X n).call f args0 (ww ⟨N64k.empty,N0⟩ os0) (jL N0 (N0+os0.length))=some (T,hT))
  {args:List KV} {h h':KH} {v:KV} (e:D7 ρ N0 args h=some (v,h')):KCall P f args h v h':=by
 unfold D7 at e
 obtain⟨a,e⟩:=jk.2 _ _ _ _ e
 obtain⟨ids0,e⟩:=uC _ _ _ _ e
 rw [za]at e
 split at e
 ·rename_i ha
  rw [qE]at ha
  obtain⟨os0,o1,e,o3⟩:=pd _ _ _ e
  rw [KV.fcs_eq]at e
  rw [zi,za,W8]at e
  split at e
  ·rename_i hm
   have hm:N0+ids0.length<65000:=iD hm
   have hσ:(fun i=>Nat.add N0 (k8 ids0 i))=fun i=>N0+xl ids0 i:=funext fun i=>by rw [gY]; rfl
   rw [hσ]at o3 e
   cases hd:ρ (KV.rens (fun i=>N0+xl ids0 i) args) (os0.map .agg) (Nat.add N0 ids0.length)with
   |none=>rw [hd]at e; cases e
   | some T=>
    rw [hd]at e
    obtain⟨hT,hc⟩:=hρ _ os0 T (by rw [o1]; exact hd)
    rw [o1]at hc
    obtain⟨r,g1,_,k,q⟩:=(pk ok n).call _ _ _ _ _ hc
    obtain⟨ids,os,t1,t2,t3,t4,t5⟩:=Xn q
    simp only at t4
    subst t4
    have e:(nfc h.next fun base=>zb (Nat.blt base 65000) (dY (uK N0 (N0+ids0.length) base ids0) (os.map .agg) h fun h=>((r.ren (tK (N0+ids0.length) ids)).ren (uK N0 (N0+ids0.length) base ids0)).fc fun r=>some (r,h)) none)=some (v,h'):=e
    rw [zi,za]at e
    split at e
    ·rename_i hb
     have hb:h.next<65000:=iD hb
     obtain⟨i1,i2⟩:=dL os h e
     rw [KV.fc_eq]at i2
     simp only [Option.some.injEq,Prod.mk.injEq]at i2
     obtain⟨rfl,rfl⟩:=i2
     have hτ:(fun i=>uK N0 (N0+ids0.length) h.next ids0 (tK (N0+ids0.length) ids i))=back N0 ids0 ids h.next:=funext fun i=>mJ i
     have htop:h.next+(os.map (KV.rens (uK N0 (N0+ids0.length) h.next ids0))).length<65000:=by
      rw [List.length_map]
      by_cases ho:os= []
      ·subst ho; simpa using hb
      ·exact i1 ho
     have key:=KCall.move2 (N0:=N0) (ids0:=ids0) (ids:=ids) (os0:=os0) (os:=os.map (KV.rens (uK N0 (N0+ids0.length) h.next ids0))) (A:=inK N0 (N0+ids0.length) ids) (h:=h) k (by rw [o1]; exact hm) h1 ha o1 o3 t1 (by rw [List.length_map]; exact t2)
      (fun i hi=>by
       unfold inK at hi
       rw [za]at hi
       split at hi
       ·rename_i hlt
        exact .inl ⟨iD hi,iD hlt⟩
       ·rename_i hlt
        rw [ga]at hi
        exact .inr ⟨Nat.le_of_not_lt fun x=>hlt (by rw [Nat.blt_eq]; exact x),hi⟩) t3
      (fun j id hj=>by
       obtain⟨cs,c1,c2,c3⟩:=t5 j id hj
       refine⟨cs,c1,c2, ?_⟩
       rw [List.getElem?_map,c3,Option.map_some,(KV.ren_ren _ _).2]
       exact congrArg (fun τ=>some (KV.rens τ cs)) hτ) htop
     rw [(KV.ren_ren _ _).1,hτ]
     exact key
    ·cases e
  ·cases e
 ·cases e
structure TE where
 args:List KV
 os:List (List KV)
 T:KV
noncomputable def QV (t:List TE) (args os:List KV):Option KV:=List.rec (motive:=fun _=>Option KV) none (fun e _ ih=>zb (jr e.args args) (zb (jr (e.os.map .agg) os) (some e.T) ih) ih) t
theorem bq {args os:List KV} {T:KV}:∀ {t:List TE},QV t args os=some T→∃e∈t,e.args=args∧e.os.map .agg=os∧e.T=T
 | [],h=>by cases h
 | e ::t,h=>by
  have h:zb (jr e.args args) (zb (jr (e.os.map .agg) os) (some e.T) (QV t args os)) (QV t args os)=some T:=h
  simp only [za]at h
  split at h
  ·rename_i h1
   split at h
   ·rename_i h2
    cases h
    exact⟨e, .head _,xV _ _ h1,xV _ _ h2,rfl⟩
   ·obtain⟨e',h3,h4⟩:=bq h
    exact⟨e', .tail _ h3,h4⟩
  ·obtain⟨e',h3,h4⟩:=bq h
   exact⟨e', .tail _ h3,h4⟩
def wU (X:QX) (n N0:Nat) (f:FuncId) (t:List TE):Prop:=∀e∈t,∃hT,(qgo X n).call f e.args (ww ⟨N64k.empty,N0⟩ e.os) (jL N0 (N0+e.os.length))=some (e.T,hT)
noncomputable def fI (t:List TE) (N0:Nat) (args:List KV) (h:KH):Option (KV×KH):=D7 (fun a o _=>QV t a o) N0 args h
noncomputable def QC (T:KV) (r:QR):Bool:=Option.rec (motive:=fun _=>Bool) false (fun p=>xy p.1 T) r
theorem BX {T:KV} {r:QR} (h:QC T r=true):∃hT,r=some (T,hT):=by
 cases r with
 |none=>cases h
 | some p=>
  obtain⟨v,hT⟩:=p
  have h:xy v T=true:=h
  exact⟨hT,by rw [w9 _ _ h]⟩
theorem Kh:∀ {a b:List (List KV)},a.map KV.agg=b.map KV.agg→a=b
 | [],[],_=>rfl
 | [],_::_,h=>by simp at h
 |_::_,[],h=>by simp at h
 | x::a,y::b,h=>by
  simp only [List.map_cons,List.cons.injEq,KV.agg.injEq]at h
  rw [h.1,Kh h.2]
theorem Ws {P:Program} {X:QX} (ok:X.Ok P) {n N0:Nat} (h1:P.globals.size≤N0) (h2:N0<65000) {f:FuncId} {t:List TE} (ht:wU X n N0 f t) {args:List KV} {h h':KH} {v:KV} (e:fI t N0 args h=some (v,h')):KCall P f args h v h':=
 cE ok h1 h2 (fun args0 os0 T hl=>by
  obtain⟨x,hx,e1,e2,e3⟩:=bq hl
  obtain⟨hT,hr⟩:=ht x hx
  have e2:=Kh e2
  subst e1 e2 e3
  exact⟨hT,hr⟩) e
end Go.K
end
section
namespace Go.K
open Go Go.Abs Go.Proofs
def uY:List (Nat×Nat):= [(12725707683775666000302814738504099093,106435922212087617089263139067213656769005017651812643755006322942407154877074),(188545991767399300246383999770736327635,111825699021894413452298923695497208821234468752023785523217680600707366416539),(129007313541863090308702653736847911794,54967253478094640474904006820005203784724201575334798011888301524421222968876),(118586307966089301700146650516496502549,62945824017989252872913906997001986320777313712189729283714431032379016149823),(90484985760608241103099294836509834893,85010709446449582241315799880555295176934249965802174470519043693130238573457),(329191072699994746415341912359511606127,63709653389580343451589975865475144555245453803958445710867943048998925228511),(240294353576658090839126703083171867714,29075055961723821492703770638560127153437316825577720414005412365900100326957),(128711221776638471773247237290104101200,3472070592169079030495999569721045308245582589052054138322261170441750118911)]
theorem ku:qu uY:=by
 have h:(uY.all fun p=>Nat.blt p.1 (Nat.pow 256 16)&&Nat.blt p.2 (Nat.pow 256 32))=true:=by kernel_rfl
 intro p hp
 have:=List.all_eq_true.1 h p hp
 rw [iF]at this
 exact⟨iD this.1,iD this.2⟩
theorem uk:Tryz.prog.globals.size≤1000:=by
 have h:Nat.ble Tryz.prog.globals.size 1000=true:=by kernel_rfl
 exact iD h
theorem B2:yes ((qgo (X0 uY) 300).call 10 [] hE0 fun v h=>some (v,h))=true:=by kernel_rfl
theorem PR (h:KH):KCall Tryz.prog 10 [] h (.bool true) h:=Gk (Pb ku) uk rfl B2 h
noncomputable def eD (os:List (List KV)):List KV:=List.rec (motive:=fun _=>List KV) [] (fun o _ ih=> .agg o::ih) os
theorem Us:∀os,eD os=os.map .agg
 | []=>rfl
 |o::os=>congrArg (KV.agg o:: ·) (Us os)
noncomputable def oZ (os:List (List KV)):Nat:=List.rec (motive:=fun _=>Nat) 0 (fun _ _ ih=>Nat.succ ih) os
theorem Bh:∀os,oZ os=os.length
 | []=>rfl
 |o::os=>congrArg Nat.succ (Bh os)
noncomputable def KZ (X:QX) (n N0:Nat) (f:FuncId) (e:TE):Bool:=
 TE.rec (motive:=fun _=>Bool) (fun args os T=>nfc (Nat.add N0 (oZ os)) fun m=>QC T (roK (eD os) ⟨N64k.empty,N0⟩ fun h0=>(qgo X n).call f args h0 (jL N0 m))) e
theorem DF {X:QX} {n N0:Nat} {f:FuncId} {e:TE} (h:KZ X n N0 f e=true):∃hT,(qgo X n).call f e.args (ww ⟨N64k.empty,N0⟩ e.os) (jL N0 (N0+e.os.length))=some (e.T,hT):=by
 obtain⟨args,os,T⟩:=e
 have h:(nfc (Nat.add N0 (oZ os)) fun m=>QC T (roK (eD os) ⟨N64k.empty,N0⟩ fun h0=>(qgo X n).call f args h0 (jL N0 m)))=true:=h
 rw [zi]at h
 obtain⟨hT,q⟩:=BX h
 rw [Us,Bh]at q
 obtain⟨_,q⟩:=J6 os _ q
 exact⟨hT,q⟩
theorem PY {X:QX} {n N0:Nat} {f:FuncId}:wU X n N0 f []:=fun e h=>by cases h
theorem Gc {X:QX} {n N0:Nat} {f:FuncId} {e:TE} {t:List TE} (h:KZ X n N0 f e=true) (ht:wU X n N0 f t):wU X n N0 f (e::t):=fun x hx=>by
 rcases List.mem_cons.1 hx with rfl|hx
 ·exact DF h
 ·exact ht x hx
noncomputable def jJ (X:QX) (n N0:Nat) (f:FuncId) (t:List TE):Bool:=List.rec (motive:=fun _=>Bool) true (fun e _ ih=>zb (KZ X n N0 f e) ih false) t
theorem uT {X:QX} {n N0:Nat} {f:FuncId}:∀ {t:List TE},jJ X n N0 f t=true→wU X n N0 f t
 | [],_=>PY
 | e::t,h=>by
  have h:zb (KZ X n N0 f e) (jJ X n N0 f t) false=true:=h
  rw [za]at h
  split at h
  ·rename_i he; exact Gc he (uT h)
  ·cases h
theorem gv {X:QX} {n N0:Nat} {f:FuncId} {t u:List TE} (h:wU X n N0 f t) (hu:wU X n N0 f u):wU X n N0 f (t++u):=fun e he=>by
 rcases List.mem_append.1 he with he|he
 ·exact h e he
 ·exact hu e he
noncomputable def eS (X:QX) (f0:FuncId) (g:List KV→KH→Option (KV×KH)):QX:=⟨X.E,X.S,fun f=>zb (Nat.beq f f0) (some g) (X.C f)⟩
theorem WZ {P:Program} {X:QX} (ok:X.Ok P) {f0:FuncId} {g:List KV→KH→Option (KV×KH)} (hb:∃fn c,X.S.F f0=some fn∧fn.body=some c) (hg:∀ {args h v h'},g args h=some (v,h')→KCall P f0 args h v h'):(eS X f0 g).Ok P:=by
 refine⟨ok.E,ok.S,fun {f g'} h=> ?_,ok.mixed⟩
 replace h:zb (Nat.beq f f0) (some g) (X.C f)=some g':=h
 rw [za]at h
 split at h
 ·rename_i hf
  have hf:=iE hf
  subst hf
  cases h
  exact⟨hb,hg⟩
 ·exact ok.C h
noncomputable def fT (X:QX) (M:Nat) (g:FuncId→List KV→KH→Option (KV×KH)):QX:=⟨X.E,X.S,fun f=>zb (Nat.beq (Nat.land (Nat.shiftRight M f) 1) 1) (some (g f)) (X.C f)⟩
theorem Wt {P:Program} {X:QX} (ok:X.Ok P) {M:Nat} {g:FuncId→List KV→KH→Option (KV×KH)} (hb:∀f,tb M f=true→∃fn c,X.S.F f=some fn∧fn.body=some c) (hg:∀ {f args h v h'},g f args h=some (v,h')→KCall P f args h v h'):(fT X M g).Ok P:=by
 refine⟨ok.E,ok.S,fun {f g'} h=> ?_,ok.mixed⟩
 replace h:zb (tb M f) (some (g f)) (X.C f)=some g':=h
 rw [za]at h
 split at h
 ·rename_i hf
  injection h with h
  subst h
  exact⟨hb f hf,hg⟩
 ·exact ok.C h
noncomputable def Zb (M n:Nat):Bool:=Nat.rec (motive:=fun _=>Bool) true (fun k ih=>zb (tb M k) (zb (Option.any (fun fn:Func=>fn.body.isSome) Tryz.prog.funcs[k]?) ih false) ih) n
theorem Yc {M:Nat}:∀n,Zb M n=true→∀f,f<n→tb M f=true→xI f
 |0,_,f,h,_=>absurd h (Nat.not_lt_zero f)
 | n + 1,hb,f,h,hf=>by
  have hb:zb (tb M n) (zb (Option.any (fun fn:Func=>fn.body.isSome) Tryz.prog.funcs[n]?) (Zb M n) false) (Zb M n)=true:=hb
  simp only [za]at hb
  by_cases e:f=n
  ·subst e
   rw [if_pos hf]at hb
   split at hb
   ·rename_i hh
    exact yz hh
   ·cases hb
  ·refine Yc n ?_ f (by omega) hf
   split at hb
   ·split at hb
    ·exact hb
    ·cases hb
   ·exact hb
theorem qZ {M n:Nat} (h:Zb M n=true) (hM:Nat.blt M (Nat.pow 2 n)=true) (f:FuncId) (hf:tb M f=true):xI f:=by
 refine Yc n h f ?_ hf
 rw [uw]at hf
 have hM:M<2^n:=iD hM
 apply Nat.lt_of_not_le
 intro hle
 rw [Nat.testBit_lt_two_pow (Nat.lt_of_lt_of_le hM (Nat.pow_le_pow_right (by decide) hle))]at hf
 cases hf
noncomputable def M1:Nat:=1231312693637327475383720011086659713965332985517589325707176141687624304062879287723599479177119701881916661694464
noncomputable def M2:Nat:=4961431563698438132994146304
noncomputable def M3:Nat:=220855883097298041197912187592864814478435487109452369765200775161577472
noncomputable def Y1 (t:List (Nat×Nat)):QX:=fT (X0 t) M1 (K0 (X0 t) 300 1000)
noncomputable def Y2 (t:List (Nat×Nat)):QX:=fT (fT (Y1 t) M3 (eq (Y1 t) 300 1000)) M2 (DJ (Y1 t) 300 1000)
theorem Dh {t:List (Nat×Nat)} (ht:qu t):(Y1 t).Ok Tryz.prog:=Wt (Pb ht) (qZ (n:=600) (by kernel_rfl) (by kernel_rfl)) (fun e=>V3 (Pb ht) uk (by decide) e)
theorem Dg {t:List (Nat×Nat)} (ht:qu t):(Y2 t).Ok Tryz.prog:=
 Wt (Wt (Dh ht) (qZ (n:=600) (by kernel_rfl) (by kernel_rfl)) (fun e=>De (Dh ht) uk (by decide) e)) (qZ (n:=600) (by kernel_rfl) (by kernel_rfl)) (fun e=>Pt (Dh ht) uk (by decide) e)
noncomputable def GQ (c:Code):Bool:=match c with| .seq _ _=>true|_=>false
theorem Pp {c:Code} (h:GQ c=true):c= .seq (D6 c) (J5 c):=by
 cases c<;>first|(cases h; done)|rfl
noncomputable def po (k:Nat):Code→Code:=Nat.rec (motive:=fun _=>Code→Code) (fun c=>c) (fun _ ih c=>ih (J5 c)) k
noncomputable def mL (k:Nat):Code→Bool:=Nat.rec (motive:=fun _=>Code→Bool) (fun _=>true) (fun _ ih c=>zb (GQ c) (ih (J5 c)) false) k
noncomputable def Ys (X:QX) (m n k:Nat):Code→(Sl→List KD→KH→QKE→QR)→Sl→List KD→KH→QKE→QR:=Nat.rec (motive:=fun _=>Code→(Sl→List KD→KH→QKE→QR)→Sl→List KD→KH→QKE→QR) (fun _ S=>S) (fun _ ih c S=>n8 (qd X (qgo X m) true n (D6 c)) (ih (J5 c) S)) k
theorem wy.pre {P:Program} {X:QX} (ok:X.Ok P) (m n:Nat):∀(k:Nat) {c:Code} {S:Sl→List KD→KH→QKE→QR},mL k c=true→wy P n (po k c) S→wy P n c (Ys X m n k c S)
 |0,c,S,_,st=>st
 | k+1,c,S,h,st=>by
  have h:zb (GQ c) (mL k (J5 c)) false=true:=h
  rw [za]at h
  split at h
  ·rename_i hc
   have st1:wy P n (.seq (D6 c) (J5 c)) (n8 (qd X (qgo X m) true n (D6 c)) (Ys X m n k (J5 c) S)):=(wy.of ok m n (D6 c)).seq (wy.pre ok m n k h st)
   have e:=Pp hc
   intro l ds h' K r q
   obtain⟨ex,l',ds',h1,q1,k1⟩:=st1 l ds h' K r q
   exact⟨ex,l',ds',h1,q1,by rw [e]; exact k1⟩
  ·cases h
noncomputable def nR (N:Nat) (f:Nat→Bool):Bool:=Nat.rec (motive:=fun _=>Bool) true (fun k ih=>zb (f k) ih false) N
theorem WQ {f:Nat→Bool}:∀ {N:Nat},nR N f=true→∀k,k<N→f k=true
 |0,_,k,h=>absurd h (Nat.not_lt_zero k)
 | N+1,h,k,hk=>by
  have h:zb (f N) (nR N f) false=true:=h
  rw [za]at h
  split at h
  ·by_cases e:k=N
   ·subst e; assumption
   ·exact WQ h k (by omega)
  ·cases h
noncomputable def bo (n:Int) (h:KH):KH:=(h.push (.cells false [.int .i64 n])).push (.cells false [.sl h.next 0 1 (some 1) 1, .int .i64 1])
end Go.K
end
