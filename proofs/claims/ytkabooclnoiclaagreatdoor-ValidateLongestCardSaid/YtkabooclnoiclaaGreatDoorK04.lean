/- Closed runs: a part. No condition beyond each statement's own. -/
import Derived.Test.YtkabooclnoiclaaGreatDoorK03
set_option linter.all false
section
namespace Go.K
open Go.Abs
def vR (s:Nat):Nat→Nat→List KV
 |0,_=> []
 |n+1,i=> .int .u8 (Int.ofNat (jq s i))::vR s n (i+1)
def u7 (h:KH) (id off m:Nat):Option (List KV):=
 match h.get id with
 |some (.cells _ cs)=>if((cs.drop off).take m).length=m∧KV.isCells ((cs.drop off).take m)=true then some ((cs.drop off).take m)else none
 |_=>none
def Gj (h:KH) (d:TD) (sz:Nat) (x:KV):Option (Nat×List KV):=
 match d,x with
 | .slice _ sz1 _, .sl id off len _ sz'=>if sz=sz'∧sz1=sz then(match u7 h id off (len*sz)with|some l=>some (len,l)|none=>none)else none
 | .slice .., .nilsl=>some (0,[])
 | .slice .., .slz=>some (0,[])
 | .str, .str n s=>if sz=1 then some (n,vR s n 0)else none
 |_,_=>none
def jM (h:KH) (T:TypeId→TI) (d dx:TD) (s x:KV):Option (KV×KH):=
 match d with
 | .slice e sz bytes=>
  if(T e).zok=true∧(T e).zero.cells.length=sz∧0<bytes∧yw h=true then
  match Gj h dx sz x with
  |none=>none
  | some (n,new)=>
   if n=0 then(match s with| .sl .. | .nilsl| .slz=>some (s,h)|_=>none)else
   match s with
   | .nilsl=>if n*bytes≤140737488355328 then some (.sl h.next 0 n none sz,h.push (.cells false new))else none
   | .sl id off len c sz'=>
    if sz'=sz∧(len+n)*bytes≤140737488355328 then
     match u7 h id off (len*sz)with
     |none=>none
     | some old=>
      match c with
      | some c=>
       if len+n≤c then(match h.get id with
        |some (.cells false cs)=>if off+len*sz+new.length≤cs.length then some (.sl id off (len+n) (some c) sz,h.set id (some (.cells false (cs.take (off+len*sz)++new++cs.drop (off+len*sz+new.length)))))else none
        |_=>none)
       else some (.sl h.next 0 (len+n) none sz,h.push (.cells false (old++new)))
      | none=>match h.get id with
       |some (.cells false cs)=>some (.sl h.next 0 (len+n) none sz,(h.set id none).push (.cells false (old++new)))
       |_=>none
    else none
   |_=>none
  else none
 |_=>none
theorem q9 {P:Program} (w:World) (t tx ty e:TypeId) (i:TypeInfo) (ht:P.underlying t=some (.slice e)) (hi:P.info? e=some i) (b off sLen sCap:Nat) (x:Value) (n:Nat) (news:List Value)
  (hs:Src P i.size tx x n news w) (hroom:sLen+n≤sCap) (C:Array Value) (el:TypeId) {fz:Nat×Nat} (hb:w.heap[b]? =some (.cells C el fz)) (hfz:Jj fz C.size) (hfit:off+sLen*i.size+news.length≤C.size):
  (Builtin.append_ #[t,tx] ty #[.slice (some ⟨b,off,none⟩) sLen sCap,x]).run P w= .ok (.slice (some ⟨b,off,none⟩) (sLen+n) sCap)
   (w.setRow b (C.toList.take (off+sLen*i.size)++news++C.toList.drop (off+sLen*i.size+news.length)).toArray):=by
 have hst:=vx (P:=P) b (off+sLen*i.size) el fz news 0 C w hb hfz (by simpa using hfit) hs.one
 simp only [Nat.add_zero]at hst
 rcases hs.kind with⟨e',hk⟩|hk<;>simp [Builtin.append_,run_underlying ht,run_underlying hk,sizeOf,typeInfo,hi,hs.len,hroom,hs.cells,Addr.add_lit,hst]
section
variable {P:Program} {B:zJ} {G:Gh} {h:KH} {w:World} {fr:KFr} {a:Act}
theorem bw (r:KRel B G h w) {id off m b o:Nat} {l:List KV} (e:u7 h id off m=some l) (ha:G.at_ id=some (b,o)):
  ∃ro cs,h.get id=some (.cells ro cs)∧l=(cs.drop off).take m∧l.length=m∧∃vs:List Value,vs.length=m∧(∀(j:Nat) u,vs[j]? =some u→w.cell? ⟨b,o+off+j,none⟩=some u)∧(∀u∈vs,u.oneCell'=true)∧KRs G l vs.toArray:=by
 unfold u7 at e
 split at e
 ·rename_i ro cs hg
  split at e
  ·rename_i hc
   obtain⟨hl,hcell⟩:=hc
   injection e with e; subst e
   refine⟨ro,cs,hg,rfl,hl, ?_⟩
   have hcs:∀j,j<m→∃c u,w.cell? ⟨b,o+(off+j),none⟩=some c∧cs[off+j]? =some u∧KR G u c:=by
    intro j hj
    have hlt:off+j<cs.length:=by
     simp only [List.length_take,List.length_drop]at hl; omega
    obtain⟨c,h1,h2⟩:=r.cell hg ha (off+j) _ (List.getElem?_eq_getElem hlt)
    exact⟨c,_,h1,List.getElem?_eq_getElem hlt,h2⟩
   have hrel:KRs G ((cs.drop off).take m) (((List.range m).map fun j=>(w.cell? ⟨b,o+(off+j),none⟩).getD undef).toArray):=by
    refine⟨by simpa using hl, ?_⟩
    intro j u x hu hx
    have hj:j<m:=by
     have:=yo hu
     omega
    obtain⟨c,u',h1,h2,h3⟩:=hcs j hj
    simp only [List.getElem?_toArray,List.getElem?_map,List.getElem?_range hj,Option.map_some,h1,Option.getD_some]at hx
    injection hx with hx; subst hx
    rw [List.getElem?_take,if_pos hj,List.getElem?_drop,h2]at hu
    injection hu with hu; subst hu
    exact h3
   refine⟨_,by simp, ?_, ?_,hrel⟩
   ·intro j u hu
    rw [List.getElem?_map]at hu
    obtain⟨j',hj',rfl⟩:=Option.map_eq_some_iff.1 hu
    have hjm:j<m:=by
     have:=yo hj'
     simpa using this
    rw [List.getElem?_range hjm]at hj'
    injection hj' with hj'; subst hj'
    obtain⟨c,u',h1,_⟩:=hcs j hjm
    rw [Nat.add_assoc,h1]; rfl
   ·intro u hu
    obtain⟨j,hj⟩:=List.getElem?_of_mem hu
    have hjm:j<m:=by
     have:=yo hj
     simpa using this
    have hx:((cs.drop off).take m)[j]? =some (((cs.drop off).take m)[j]'(by omega)):=List.getElem?_eq_getElem _
    have:=hrel.2 j _ u hx (by rw [List.getElem?_toArray]; exact hj)
    exact qT this (by
     simp only [KV.isCells,List.all_eq_true]at hcell
     exact hcell _ (List.getElem_mem _))
  ·cases e
 ·cases e
theorem Z5 (s:Nat):∀(n i j:Nat),(vR s n i)[j]? =if j<n then some (.int .u8 (Int.ofNat (jq s (i+j))))else none
 |0,i,j=>by simp [vR]
 |n+1,i,0=>by simp [vR]
 | n+1,i,j+1=>by
  simp only [vR,List.getElem?_cons_succ,Z5 s n (i+1) j,Nat.add_lt_add_iff_right]
  rw [show i+1+j=i+(j+1)by omega]
theorem uu (s:Nat):∀(n i:Nat),(vR s n i).length=n
 |0,i=>rfl
 |n+1,i=>by simp [vR,uu s n (i+1)]
theorem ZC (s:ByteArray):KRs G (vR (zc s.data.toList) s.size 0) (byteCells s).toArray:=by
 refine⟨by simp [uu,byteCells], ?_⟩
 intro j v c hv hc
 rw [Z5]at hv
 split at hv
 ·rename_i hj
  injection hv with hv; subst hv
  have hl:j<s.data.toList.length:=by rw [vN]; exact hj
  simp only [byteCells,List.getElem?_toArray,List.getElem?_map,List.getElem?_eq_getElem hl,Option.map_some]at hc
  injection hc with hc; subst hc
  rw [Nat.zero_add,KR.idx s hj]
  exact .int _ _
 ·cases hv
theorem UB (r:KRel B G h w) {tx:TypeId} {sz:Nat} {x:KV} {c:Value} {n:Nat} {new:List KV} (hx:KR G x c) (e:Gj h (ti P tx).d sz x=some (n,new)):
  ∃news:List Value,Src P sz tx c n news w∧KRs G new news.toArray∧new.length=n*sz:=by
 unfold Gj at e
 split at e
 ·rename_i el sz1 by_ id off len cp sz' hd
  split at e
  ·rename_i hh; obtain⟨rfl,rfl⟩:=hh
   split at e
   ·rename_i l hl
    simp only [Option.some.injEq,Prod.mk.injEq]at e
    obtain⟨rfl,rfl⟩:=e
    obtain⟨hu,i,hi,_,_⟩:=zn hd
    cases hx with
    | sl ha h1 h2 h3=>
     rename_i cap b o
     obtain⟨ro,cs,g1,g2,g3,vs,v1,v2,v3,v4⟩:=bw r hl ha
     exact⟨vs,Src.ofSlice (P:=P) w hu ⟨b,o+off,none⟩ len cap vs v1 (fun j u hj=>by rw [yj]; exact v2 j u hj) v3,v4,g3⟩
   ·cases e
  ·cases e
 ·rename_i hd
  simp only [Option.some.injEq,Prod.mk.injEq]at e
  obtain⟨rfl,rfl⟩:=e
  obtain⟨hu,_⟩:=zn hd
  cases hx
  exact⟨[],Src.ofNil (P:=P) w hu 0,⟨rfl,by simp⟩,by simp⟩
 ·rename_i hd
  simp only [Option.some.injEq,Prod.mk.injEq]at e
  obtain⟨rfl,rfl⟩:=e
  obtain⟨hu,_⟩:=zn hd
  cases hx with
  |slz ad cap=>exact⟨[],Src.ofSlice (P:=P) w hu ad 0 cap [] (by simp) (by simp) (by simp),⟨rfl,by simp⟩,by simp⟩
 ·rename_i n' s hd
  split at e
  ·rename_i h1; subst h1
   simp only [Option.some.injEq,Prod.mk.injEq]at e
   obtain⟨rfl,rfl⟩:=e
   cases hx with
   |str s=>exact⟨byteCells s,Src.ofString (P:=P) w (yO hd) s,ZC s,by simp [uu]⟩
  ·cases e
 ·cases e
theorem vM {t tx ty e:TypeId} {i:TypeInfo} (ht:P.underlying t=some (.slice e)) (hi:P.info? e=some i) (base:Option Addr) (sLen sCap:Nat) (hc:sLen≤sCap) (x:Value) (news:List Value)
  (hs:Src P i.size tx x 0 news w):(Builtin.append_ #[t,tx] ty #[.slice base sLen sCap,x]).run P w= .ok (.slice base sLen sCap) w:=by
 have hn:news= []:=List.eq_nil_of_length_eq_zero (by rw [hs.newsLen]; simp)
 subst hn
 rcases hs.kind with⟨e',hk⟩|hk<;>cases base<;>simp [Builtin.append_,run_underlying ht,run_underlying hk,sizeOf,typeInfo,hi,hs.len,hc,hs.cells,storeCells]
theorem GP (r:KRel B G h w) (hrm:yw h=true) {t tx ty e:TypeId} {sz by_:Nat} (ht:(ti P t).d= .slice e sz by_) (hz:(ti P e).zok=true) (hzl:(ti P e).zero.cells.length=sz) (hb0:0<by_)
  {base:Option Addr} {len sCap n:Nat} {old new:List KV} {x:Value} {olds news:List Value} (hs:Src P sz tx x n news w) (hv:KRs G new news.toArray) (hnl:new.length=n*sz) (hold:KRs G old olds.toArray) (hol:old.length=len*sz)
  (g3:(Builtin.firstCells sz len (.slice base len sCap)).run P w.drew= .ok olds.toArray w.drew) (hcap:sCap<len+n) (hbd:(len+n)*by_≤140737488355328):
  KS P B G w (Builtin.append_ #[t,tx] ty #[.slice base len sCap,x]) (.sl h.next 0 (len+n) none sz) (h.push (.cells false (old++new))):=by
 obtain⟨hu,i,hi,hsz,hby⟩:=zn ht
 obtain⟨i',z,hi',hzz,hzv⟩:=wH hz
 rw [hi]at hi'; injection hi' with hi'; subst hi'
 have hneed:len+n≤(len+n)*by_:=Nat.le_mul_of_pos_right _ hb0
 have hrun:=run_append_grow_src (P:=P) w t tx ty e i z hu hi hzz base len sCap olds (hsz▸g3) x n news (hsz▸hs) hcap (by omega)
  (growslice_fits hcap (by rw [←hby]; exact hbd))
 have hcapge:=grownCap_ge w (len+n) sCap e
 have hzs:z.cells.size=sz:=by rw [←V.of_cells_length,←hzv]; exact hzl
 have r1:=r.of_heap (w':=w.drew) rfl rfl rfl rfl
 have hn':h.next+1<65000:=by simpa [yw,zL] using hrm
 have hle:=Gh.new_le G r.fresh (w.heap.size,0) (grownCap w (len+n) sCap e*sz)
 have h1:old.length=olds.length:=by have:=hold.1; simpa using this
 have h2:new.length=news.length:=by have:=hv.1; simpa using this
 have hm:(len+n)*sz≤grownCap w (len+n) sCap e*sz:=Nat.mul_le_mul_right _ hcapge
 have hsub:(grownCap w (len+n) sCap e-(len+n))*sz+(len+n)*sz=grownCap w (len+n) sCap e*sz:=by
  rw [←Nat.add_mul]; congr 1; omega
 rw [Nat.add_mul]at hm hsub
 have hr:=r1.alloc hn' (o:= .cells false (old++new)) (ob:= .cells ((olds++news).toArray++Builtin.zeroCells z.cells (grownCap w (len+n) sCap e-(len+n))) e) (room:=grownCap w (len+n) sCap e*sz)
  (.cells (by rw [List.length_append]; omega) (by simp only [Array.size_append,List.size_toArray,List.length_append,Builtin.zeroCells,Array.size_map,Array.size_range,hzs]; omega) (fun _=> .zero _) (fun j v c hvj hc=>by
   rw [Nat.zero_add]at hc
   refine KR.le hle ?_
   rcases Nat.lt_or_ge j old.length with hj|hj
   ·rw [List.getElem?_append_left hj]at hvj
    rw [Array.getElem?_append_left (by simp only [List.size_toArray,List.length_append]; omega),List.getElem?_toArray,List.getElem?_append_left (by omega)]at hc
    exact hold.2 j v c hvj (by simpa using hc)
   ·rw [List.getElem?_append_right hj]at hvj
    have hj2:=yo hvj
    rw [Array.getElem?_append_left (by simp only [List.size_toArray,List.length_append]; omega),List.getElem?_toArray,List.getElem?_append_right (by omega),←h1]at hc
    exact hv.2 _ v c hvj (by simpa using hc)))
 exact⟨_,_,_,hrun,hle, .sl (off:=0) (o:=0) (Gh.new_at _ _ _ _) hcapge (by rw [Gh.new_room]; omega) (by simp),hr⟩
theorem Vy (r : KRel B G h w) {t tx ty:TypeId} {s x v:KV} {c cx:Value} {h':KH} (hs:KR G s c) (hx:KR G x cx) (e:jM h (ti P) (ti P t).d (ti P tx).d s x=some (v,h')):
  KS P B G w (Builtin.append_ #[t,tx] ty #[c,cx]) v h':=by
 unfold jM at e
 split at e
 ·rename_i el sz by_ hd
  split at e
  ·rename_i hc
   obtain⟨hz,hzl,hb0,hrm⟩:=hc
   obtain⟨hu,i,hi,hsz,hby⟩:=zn hd
   split at e
   ·cases e
   ·rename_i n new hsrc
    obtain⟨news,s1,s2,s3⟩:=UB r hx hsrc
    split at e
    ·rename_i hn0
     subst hn0
     split at e
     ·simp only [Option.some.injEq,Prod.mk.injEq]at e
      obtain⟨rfl,rfl⟩:=e
      cases hs with
      |sl ha h1 h2 h3=>exact .same r (vM hu hi _ _ _ h1 _ _ (hsz▸s1)) (.sl ha h1 h2 h3)
     ·simp only [Option.some.injEq,Prod.mk.injEq]at e
      obtain⟨rfl,rfl⟩:=e
      cases hs
      exact .same r (vM hu hi _ _ _ (Nat.le_refl _) _ _ (hsz▸s1)) .nilsl
     ·simp only [Option.some.injEq,Prod.mk.injEq]at e
      obtain⟨rfl,rfl⟩:=e
      cases hs with
      |slz ad cap=>exact .same r (vM hu hi _ _ _ (Nat.zero_le _) _ _ (hsz▸s1)) (.slz _ _)
     ·cases e
    ·rename_i hn0
     split at e
     ·split at e
      ·rename_i hbd
       simp only [Option.some.injEq,Prod.mk.injEq]at e
       obtain⟨rfl,rfl⟩:=e
       cases hs
       have:=GP r hrm hd hz hzl hb0 (base:=none) (len:=0) (sCap:=0) (old:= []) (olds:= []) (ty:=ty) s1 s2 s3 ⟨rfl,by simp⟩ (by simp) (run_firstCells_none w.drew _ _ _ _) (by omega) (by rw [Nat.zero_add]; exact hbd)
       simpa using this
      ·cases e
     ·rename_i id off len cp sz'
      split at e
      ·rename_i hbd
       obtain⟨rfl,hbd⟩:=hbd
       split at e
       ·cases e
       ·rename_i old hold
        cases hs with
        | sl ha h1 h2 h3=>
         rename_i cap b o
         obtain⟨ro,cs,g1,g2,g3,vs,v1,v2,v3,v4⟩:=bw r hold ha
         have hfc:(Builtin.firstCells sz' len (.slice (some ⟨b,o+off,none⟩) len cap)).run P w.drew= .ok vs.toArray w.drew:=
          run_firstCells_some w.drew sz' len ⟨b,o+off,none⟩ len cap vs v1 (fun j u hj=>by rw [yj]; exact v2 j u hj)
         split at e
         ·rename_i cc
          obtain rfl:=h3 cc rfl
          split at e
          ·rename_i hle
           split at e
           ·rename_i cs' hg
            split at e
            ·rename_i hfit
             simp only [Option.some.injEq,Prod.mk.injEq]at e
             obtain⟨rfl,rfl⟩:=e
             obtain⟨C,cel,fz,k1,k2,k3,k4,k5⟩:=r.cells hg ha
             have k4:=k4 rfl
             have h2':new.length=news.length:=by have:=s2.1; simpa using this
             have hrun:=q9 (P:=P) w t tx ty el i hu hi b (o+off) len cc cx n news (hsz▸s1) hle C cel k1 k4 (by rw [←hsz]; omega)
             have hsp:=r.splice hg ha k1 k4 s2 (off+len*sz') hfit
             rw [←hsz]at hrun
             simp only [List.size_toArray]at hsp
             refine⟨_,_,G,hrun, .refl _, .sl ha hle h2 (fun y hy=>by cases hy; rfl), ?_⟩
             rw [Nat.add_assoc o off]
             exact hsp
            ·cases e
           ·cases e
          ·rename_i hgt
           simp only [Option.some.injEq,Prod.mk.injEq]at e
           obtain⟨rfl,rfl⟩:=e
           exact GP r hrm hd hz hzl hb0 s1 s2 s3 v4 g3 hfc (by omega) hbd
         ·split at e
          ·rename_i cs' hg
           simp only [Option.some.injEq,Prod.mk.injEq]at e
           obtain⟨rfl,rfl⟩:=e
           rw [g1]at hg; injection hg with hg; injection hg with hg1 hg2; subst hg1 hg2
           have hid:=r.id_lt g1
           by_cases hle:len+n≤cap
           ·obtain ⟨C,cel,fz,k1,k2,k3,k4,k5⟩:=r.cells g1 ha
            have k4:=k4 rfl
            have h2':new.length=news.length:=by have:=s2.1; simpa using this
            have hn':h.next+1<65000:=by simpa [yw,zL] using hrm
            have hm:(len+n)*sz'≤cap*sz':=Nat.mul_le_mul_right _ hle
            rw [Nat.add_mul]at hm
            have hrun:=q9 (P:=P) w t tx ty el i hu hi b (o+off) len cap cx n news (hsz▸s1) hle C cel k1 k4 (by rw [←hsz]; omega)
            rw [←hsz]at hrun
            have hle':=Gh.new_le G r.fresh (b,o+off) (cap*sz')
            have hget:∀j,(C.toList.take (o+off+len*sz')++news++C.toList.drop (o+off+len*sz'+news.length))[j]? =if j<o+off+len*sz' then C.toList[j]? else if j<o+off+len*sz'+news.length then news[j-(o+off+len*sz')]? else C.toList[j]? :=
             fun j=>uB C.toList news (o+off+len*sz') j (by simp only [Array.length_toList]; omega)
            have hmv:=r.move hn' (k':=o+off) (room:=cap*sz') (o':= .cells false (old++new)) g1 rfl rfl ha (vl w (C':=(C.toList.take (o+off+len*sz')++news++C.toList.drop (o+off+len*sz'+news.length)).toArray) k1)
             (.cells (by rw [List.length_append]; omega) (by simp only [List.size_toArray,List.length_append,List.length_take,List.length_drop,Array.length_toList]; omega) (fun _ i hi=>k4 i (by simp only [List.size_toArray,List.length_append,List.length_take,List.length_drop,Array.length_toList]at hi; omega)) (by
              intro j v c hvj hcj
              refine KR.le hle' ?_
              rw [List.getElem?_toArray,hget]at hcj
              rcases Nat.lt_or_ge j old.length with hj|hj
              ·rw [List.getElem?_append_left hj,g2,List.getElem?_take,if_pos (by omega),List.getElem?_drop]at hvj
               rw [if_pos (by omega),Array.getElem?_toList,Nat.add_assoc]at hcj
               exact k5 _ v c hvj hcj
              ·rw [List.getElem?_append_right hj]at hvj
               have hj2:=yo hvj
               rw [if_neg (by omega),if_pos (by omega)]at hcj
               refine s2.2 _ v c hvj ?_
               rw [show o+off+j-(o+off+len*sz')=j-old.length by omega]at hcj
               simpa using hcj))
            exact⟨_,_,_,hrun,hle', .sl (off:=0) (Gh.new_at _ _ _ _) hle (by rw [Gh.new_room]; omega) (by simp),hmv⟩
           ·have:=GP (h:=h.set id none) (r.drop hid) (show yw (h.set id none)=true from hrm) hd hz hzl hb0 (ty:=ty) s1 s2 s3 v4 g3 hfc (by omega) hbd
            exact this
          ·cases e
      ·cases e
     ·cases e
  ·cases e
 ·cases e
end
def bH:List KV→Option Nat
 | []=>some 0
 | .int .u8 n::r=>match bH r with|some s=>bif Int.toNat n|>.blt 256 then some (Nat.add (Int.toNat n) (Nat.mul 256 s))else none|none=>none
 |_=>none
def vV (h:KH) (T:TypeId→TI) (s d:TypeId) (x:KV):Option (KV×KH):=
 if (T s).ok=true then
  match x with
  | .int _ n=>match(T d).d with
   | .int k=>some (.int k (k.wrap n),h)
   |_=>none
  | .str n b=>match(T d).d with
   | .str=>some (.str n b,h)
   | .slice e 1 _=>if(T e).d= .int .u8∧(T s).d= .str∧yw h=true then some (.sl h.next 0 n none 1,h.push (.cells false (vR b n 0)))else none
   |_=>none
  | .nilsl=>match(T s).d,(T d).d with
   | .slice e _ _, .str=>if(T e).d= .int .u8 then some (.str 0 0,h)else none
   |_,_=>none
  | .slz=>match(T s).d,(T d).d with
   | .slice e _ _, .str=>if(T e).d= .int .u8 then some (.str 0 0,h)else none
   |_,_=>none
  | .sl id off len _ 1=>match(T s).d,(T d).d with
   | .slice e _ _, .str=>if(T e).d= .int .u8 then(match u7 h id off len with
    |some l=>match bH l with|some b=>some (.str len b,h)|none=>none
    |none=>none)else none
   |_,_=>none
  |_=>none
 else none
def Z7 (h:KH) (d dx:TD) (x y:KV):Option (KV×KH):=
 match d,x with
 | .slice _ sz _, .sl id off len _ sz'=>if sz=sz' then(match Gj h dx sz y with
   | some (n,new)=>if n≤len then(match h.get id with
    |some (.cells false cs)=>if off+new.length≤cs.length then some (.int .i64 n,h.set id (some (.cells false (cs.take off++new++cs.drop (off+new.length)))))else none
    |_=>none)else none
   |none=>none)else none
 |_,_=>none
section
variable {P:Program} {B:zJ} {G:Gh} {h:KH} {w:World} {fr:KFr} {a:Act}
theorem BC (r:KRel B G h w) {t:TypeId} {l c v:KV} {cl cc:Value} {h':KH} (hl:KR G l cl) (hc:KR G c cc) (e:Yf h (ti P) (kz P) (ti P t).d l c=some (v,h')):
  KS P B G w (Instr.makeSlice t cl cc) v h':=by
 unfold Yf at e
 split at e
 ·rename_i el sz by_ k1 li k2 ci hd
  split at e
  ·rename_i hh
   obtain⟨h0,h1,h2,h3,hz,hzl,hrm⟩:=hh
   simp only [Option.some.injEq,Prod.mk.injEq]at e
   obtain⟨rfl,rfl⟩:=e
   cases hl; cases hc
   obtain⟨hu,i,hi,hsz,hby⟩:=zn hd
   obtain⟨i',z,hi',hzz,hzv⟩:=qU hz
   rw [hi]at hi'; injection hi' with hi'; subst hi'
   have hz0:KRs G (kz P el).cells z.cells:=by rw [hzv]; exact KRs.of_zero
   have w1:IntKind.i64.wrap li=li:=IntWalk.i64_in _ (by omega)
   have w2:IntKind.i64.wrap ci=ci:=IntWalk.i64_in _ (by omega)
   have hrow:=jR hz0 ci.toNat
   rw [hzl]at hrow
   have hrun:(Instr.makeSlice t (.int k1 li) (.int k2 ci)).run P w= .ok (.slice (some ⟨w.heap.size,0,none⟩) li.toNat ci.toNat) (w.alloc (.cells ((Array.range (ci.toNat*sz)).map (z.cells[· % z.cells.size]!)) el)):=by
    have hb1:¬((i.bytes:Int)*ci>2^48):=by
     have h48:(2:Int)^48=281474976710656:=by decide
     rw [←hby,h48]; omega
    have hb2:¬(ci<0):=by omega
    have hb3:¬(li<0):=by omega
    have hb4:¬(li>ci):=by omega
    simp only [Instr.makeSlice,iB,run_underlying hu,iA,asInt,asIntOf,iC,typeInfo,run_program,hi,w1,w2]
    simp only [hb1,hb2,hb3,hb4,decide_false,Bool.or_false,Bool.false_eq_true,if_false,run_askRoom,iA,iB,iC,Bool.or_self,zk hi,←hsz]
    by_cases hc0:ci.toNat*sz=0
    ·simp only [hc0,if_true,iB,iC,iA]
     have he:((Array.range 0).map ((#[]:Array Value)[· % (#[]:Array Value).size]!))=(Array.range 0).map (z.cells[· % z.cells.size]!):=by simp
     rw [he]
     rfl
    ·simp only [hc0,if_false,iB,zp hi hzz,iC,iA]
     rfl
   obtain⟨G',g1,g2,g3⟩:=Q0 r hrm hrow el li.toNat sz ci.toNat (by omega) (by rw [vm,hzl]; exact Nat.le_refl _)
   exact⟨_,_,G',hrun,g1,g2,g3⟩
  ·cases e
 ·cases e
theorem ZI {b o:Nat}:∀ {o:Nat} {l:List KV} {s:Nat},(∀(j:Nat) v,l[j]? =some v→∃c,w.cell? ⟨b,o+j,none⟩=some c∧KR G v c)→bH l=some s →
  ∃ns:List Int,ns.length=l.length∧s=zc (ns.map fun n=>UInt8.ofNat n.toNat)∧∀i,i<l.length→w.cell? ⟨b,o+i,none⟩=some (.int .u8 (ns.getD i 0))
 |o,[],s,hc,e=>by simp only [bH]at e; injection e with e; subst e; exact⟨[],rfl,rfl,fun i hi=>by simp at hi⟩
 | o, v ::r,s,hc,e=>by
  unfold bH at e
  split at e
  ·rename_i heq; cases heq
  ·rename_i n r' heq
   injection heq with h1 h2; subst h1 h2
   split at e
   ·rename_i y h2
    rw [zL,Bool.cond_decide]at e
    split at e
    ·rename_i hn
     injection e with e; subst e
     obtain ⟨ns,n1,n2,n3⟩:=ZI (b:=b) (o:=o+1) (fun i v hv=>by
      have:=hc (i+1) v (by simpa using hv)
      rw [show o+(i+1)=o+1+i by omega]at this
      exact this) h2
     refine⟨n::ns,by simp [n1], ?_, ?_⟩
     ·simp only [List.map_cons,zc,←n2]
      have:(UInt8.ofNat n.toNat).toNat=n.toNat:=by
       rw [UInt8.toNat_ofNat']; exact Nat.mod_eq_of_lt hn
      rw [this]; rfl
     ·intro i hi
      cases i with
      | zero=>
       obtain⟨c,hc',hv⟩:=hc 0 _ rfl
       cases hv
       simpa using hc'
      | succ i=>
       have:=n3 i (by simpa using hi)
       rw [show o+(i+1)=o+1+i by omega,this]
       rfl
    ·cases e
   ·cases e
  ·cases e
theorem YC {src e:TypeId} (hs:P.underlying src=some (.slice e)) (he:P.underlying e=some (.int .u8)) (a:Addr) (cap:Nat) {dst:TypeId} (hd:P.underlying dst=some .string):
  (convert src dst (.slice (some a) 0 cap)).run P w= .ok (.string ByteArray.empty) w:=by
 have hl:(loadCells a 0).run P w= .ok (([]:List Int).map (Value.int .u8)).toArray w:=by
  simpa using run_loadCells_list (P:=P) w a [] (fun j v hj=>by simp at hj)
 rw [run_convert_bytes_string w src dst e _ 0 cap hs he hd,run_bytesToString w _ 0 cap [] hl]
 rfl
theorem Bu (r:KRel B G h w) {s d:TypeId} {x v:KV} {a:Value} {h':KH} (hx:KR G x a) (e:vV h (ti P) s d x=some (v,h')):KS P B G w (convert s d a) v h':=by
 unfold vV at e
 split at e
 ·rename_i hok
  obtain⟨is,ds,his,hds,_,_⟩:=qc hok
  split at e
  ·rename_i k n
   cases hx
   split at e
   ·rename_i k' hd
    simp only [Option.some.injEq,Prod.mk.injEq]at e
    obtain⟨rfl,rfl⟩:=e
    exact .same r (c:= .int k' (k'.wrap n)) (by simp only [convert,iB,run_underlying hds,run_underlying (wQ hd),iA]; cases ds<;>rfl) (.int _ _)
   ·cases e
  ·rename_i n b
   cases hx with
   | str s'=>
    split at e
    ·rename_i hd
     simp only [Option.some.injEq,Prod.mk.injEq]at e
     obtain⟨rfl,rfl⟩:=e
     exact .same r (c:= .string s') (by simp only [convert,iB,run_underlying hds,run_underlying (yO hd),iA]; cases ds<;>rfl) (.str _)
    ·rename_i el by_ hd
     split at e
     ·rename_i hcond
      simp only [Option.some.injEq,Prod.mk.injEq]at e
      obtain⟨rfl,rfl⟩:=e
      obtain⟨hu,i,hi,_,_⟩:=zn hd
      have hrun:=run_bytes_of_string (P:=P) w s d el s' (yO hcond.2.1) hu (wQ hcond.1)
      have hcap:=grownCap_ge w s'.size 0 el
      have hn':h.next+1<65000:=by simpa [yw,zL] using hcond.2.2
      have hle:=Gh.new_le G r.fresh (w.heap.size,0) (grownCap w s'.size 0 el)
      have hsz:(bytesRow s' (grownCap w s'.size 0 el)).size=grownCap w s'.size 0 el:=by
       have:s'.data.size=s'.size:=rfl
       simp only [bytesRow,Array.size_append,Array.size_map,Array.size_replicate,this]; omega
      have hr:=(r.of_heap (w':=w.drew) rfl rfl rfl rfl).alloc hn' (o:= .cells false (vR (zc s'.data.toList) s'.size 0)) (room:=grownCap w s'.size 0 el)
       (ob:= .cells (bytesRow s' (grownCap w s'.size 0 el)) el ((bytesRow s' (grownCap w s'.size 0 el)).size,(bytesRow s' (grownCap w s'.size 0 el)).size+1))
       (.cells (by rw [uu]; omega) (by rw [hsz]; omega) (fun _ i hi hf=>absurd hf.1 (by simp only; omega)) (by
        intro j v c hv hc
        refine KR.le hle ?_
        have hj:j<s'.size:=by have:=yo hv; rw [uu]at this; exact this
        rw [Nat.zero_add,bytesRow,Array.getElem?_append_left (by simp only [Array.size_map]; exact hj)]at hc
        refine(ZC s').2 j v c hv ?_
        rw [←hc]
        simp only [byteCells,List.getElem?_toArray,List.getElem?_map,Array.getElem?_map,Array.getElem?_toList]))
      exact⟨_,_,_,hrun,hle, .sl (off:=0) (o:=0) (Gh.new_at _ _ _ _) hcap (by rw [Gh.new_room]; omega) (by simp),hr⟩
     ·cases e
    ·cases e
  ·split at e
   ·rename_i el _ _ hs hd
    cases hx
    split at e
    ·rename_i he
     simp only [Option.some.injEq,Prod.mk.injEq]at e
     obtain⟨rfl,rfl⟩:=e
     exact .same r (c:= .string ByteArray.empty) (run_convert_bytes_nil (P:=P) w s _ (zn hs).1 (wQ he) 0 0 d (yO hd)) (.str ByteArray.empty)
    ·cases e
   ·cases e
  ·split at e
   ·rename_i el _ _ hs hd
    cases hx with
    | slz ad cap=>
     split at e
     ·rename_i he
      simp only [Option.some.injEq,Prod.mk.injEq]at e
      obtain⟨rfl,rfl⟩:=e
      exact .same r (c:= .string ByteArray.empty) (YC (zn hs).1 (wQ he) ad cap (yO hd)) (.str ByteArray.empty)
     ·cases e
   ·cases e
  ·rename_i id off len cp
   split at e
   ·rename_i el _ _ hs hd
    split at e
    ·rename_i he
     split at e
     ·rename_i l hl
      split at e
      ·rename_i bs hbs
       simp only [Option.some.injEq,Prod.mk.injEq]at e
       obtain⟨rfl,rfl⟩:=e
       cases hx with
       | sl ha h1 h2 h3=>
        rename_i cap b o
        obtain⟨ro,cs,g1,g2,g3,_⟩:=bw r hl ha
        obtain ⟨ns,n1,n2,n3⟩:=ZI (G:=G) (w:=w) (b:=b) (o:=o+off) (fun j v hv=>by
         rw [g2,List.getElem?_take]at hv
         split at hv
         ·rw [List.getElem?_drop]at hv
          have:=r.cell g1 ha _ v hv
          rw [Nat.add_assoc]; exact this
         ·cases hv) hbs
        rw [g3]at n1 n3
        refine .same r (c:= .string (strOfNums ns)) (run_convert_bytes_arg (P:=P) w s el (zn hs).1 (wQ he) b (o+off) len cap ns n1 n3 d (yO hd)) ?_
        have e1:len=(strOfNums ns).size:=by rw [strOfNums_size,n1]
        rw [n2,←strOfNums_data,e1]
        exact .str _
      ·cases e
     ·cases e
    ·cases e
   ·cases e
  ·cases e
 ·cases e
theorem BU (r:KRel B G h w) {t tx ty:TypeId} {x y v:KV} {c cy:Value} {h':KH} (hx:KR G x c) (hy:KR G y cy) (e:Z7 h (ti P t).d (ti P tx).d x y=some (v,h')):
  KS P B G w (Builtin.copy_ #[t,tx] ty #[c,cy]) v h':=by
 unfold Z7 at e
 split at e
 ·rename_i el sz by_ id off len cp sz' hd
  split at e
  ·rename_i hsz'
   subst hsz'
   split at e
   ·rename_i n new hsrc
    obtain⟨news,s1,s2,s3⟩:=UB r hy hsrc
    split at e
    ·rename_i hn
     split at e
     ·rename_i cs hg
      split at e
      ·rename_i hfit
       simp only [Option.some.injEq,Prod.mk.injEq]at e
       obtain⟨rfl,rfl⟩:=e
       obtain⟨hu,i,hi,hsz,_⟩:=zn hd
       cases hx with
       | sl ha h1 h2 h3=>
        rename_i cap b o
        obtain⟨C,cel,fz,k1,k2,k3,k4,k5⟩:=r.cells hg ha
        have k4:=k4 rfl
        have h2':new.length=news.length:=by have:=s2.1; simpa using this
        have hst:=vx (P:=P) b (o+off) cel fz news 0 C w k1 k4 (by omega) s1.one
        have hsp:=r.splice hg ha k1 k4 s2 off hfit
        simp only [List.size_toArray,Nat.add_zero]at hsp hst
        refine⟨goInt n,_,G, ?_, .refl _, .int _ _,hsp⟩
        have hmin:Nat.min n len=n:=Nat.min_eq_left hn
        simp only [Builtin.copy_,List.getElem?_toArray,List.getElem?_cons_zero,List.getElem?_cons_succ,iB,run_underlying hu,iA,s1.len,hmin,zk hi,←hsz,s1.cells,hst,iC]
      ·cases e
     ·cases e
    ·cases e
   ·cases e
  ·cases e
 ·cases e
end
end Go.K
end
