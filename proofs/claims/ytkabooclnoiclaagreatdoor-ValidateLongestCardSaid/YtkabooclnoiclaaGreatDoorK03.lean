/- Closed runs: a part. No condition beyond each statement's own. -/
import Derived.Test.YtkabooclnoiclaaGreatDoorK02
set_option linter.all false
section
namespace Go.K
open Go.Abs
def KH.size (h:KH) (id:Nat):Option Nat:=match h.get id with|some (.cells _ cs)=>some cs.length|_=>none
section
variable {P:Program} {B:zJ} {G:Gh} {h:KH} {w:World} {fr:KFr} {a:Act}
theorem V9 {id off len cap sz b o l h':Nat} {c:Option Nat} {lo hi mx:Option KV} {v:KV} {clo chi cmx:Option Value} (hlo:KO' G lo clo) (hhi:KO' G hi chi) (hmx:KO' G mx cmx) (ha:G.at_ id=some (b,o))
  (h1:len≤cap) (h2:off+cap*sz≤G.room id) (h3:∀x,c=some x→x=cap) (isS:Bool) (e:KN id off len c sz lo hi mx=some v):
  ∃l h' m,(Instr.sliceBounds isS len cap clo chi cmx).run P w= .ok (l,h',m) w∧KR G v (.slice (some (if m=l then⟨b,o+off,none⟩else⟨b,o+off+l*sz,none⟩)) (h'-l) (m-l)):=by
 have hc0:len≤c.getD len∧c.getD len≤cap:=by
  cases c with
  |none=>exact⟨Nat.le_refl _,h1⟩
  |some x=>rw [h3 x rfl]; exact⟨h1,Nat.le_refl _⟩
 have fits:∀ {l m:Nat},l≤m→m≤cap→off+l*sz+(m-l)*sz≤G.room id:=fun {l m} k1 k2=>by
  have:l*sz+(m-l)*sz=m*sz:=by rw [←Nat.add_mul]; congr 1; omega
  have:m*sz≤cap*sz:=Nat.mul_le_mul_right _ k2
  omega
 unfold KN at e
 split at e
 ·rename_i l h' m hb
  injection e with e; subst e
  obtain⟨k1,k2,k3,k4,_⟩:=vG (P:=P) (w:=w) hlo hhi hmx hc0.1 hc0.2 isS hb
  simp only [Option.getD_some]at k1 k3 k4
  refine⟨l,h',m,k1, ?_⟩
  by_cases hm:m=l
  ·rw [if_pos hm,if_pos hm]
   refine .sl ha (by omega) ?_ (fun x hx=>by cases hx; rfl)
   have:(m-l)*sz=0:=by rw [hm]; simp
   omega
  ·rw [if_neg hm,if_neg hm,Nat.add_assoc]
   exact .sl ha (by omega) (fits (by omega) (by omega)) (fun x hx=>by cases hx; rfl)
 ·rename_i l h' hb
  obtain⟨k1,k2,k3,k4,_⟩:=vG (P:=P) (w:=w) hlo hhi hmx hc0.1 hc0.2 isS hb
  simp only [Option.getD_none]at k1 k3 k4
  refine⟨l,h',cap,k1, ?_⟩
  split at e
  ·rename_i c'
   obtain rfl:=h3 c' rfl
   simp only [Option.getD_some]at k3
   injection e with e; subst e
   by_cases hm:c'=l
   ·rw [if_pos hm,if_pos hm]
    refine .sl ha (by omega) ?_ (fun x hx=>by cases hx; rfl)
    have:(c'-l)*sz=0:=by rw [hm]; simp
    omega
   ·rw [if_neg hm,if_neg hm,Nat.add_assoc]
    exact .sl ha (by omega) (fits (by omega) (Nat.le_refl _)) (fun x hx=>by cases hx; rfl)
  ·simp only [Option.getD_none]at k3
   split at e
   ·rename_i hl0
    subst hl0
    injection e with e; subst e
    have:(if cap=0 then(⟨b,o+off,none⟩:Addr)else⟨b,o+off+0*sz,none⟩)=⟨b,o+off,none⟩:=by split<;>simp
    rw [this]
    exact .sl ha (by omega) (by simpa using h2) (by simp)
   ·split at e
    ·rename_i hl
     injection e with e; subst e
     rw [if_neg (by omega),Nat.add_assoc]
     exact .sl ha (by omega) (fits (by omega) (Nat.le_refl _)) (by simp)
    ·split at e
     ·rename_i hh
      injection e with e; subst e
      rw [hh,Nat.sub_self]
      exact .slz _ _
     ·cases e
 ·cases e
theorem Jc (r:KRel B G h w) {t:TypeId} {x v:KV} {c:Value} {lo hi mx:Option KV} {clo chi cmx:Option Value} (hx:KR G x c) (hlo:KO' G lo clo) (hhi:KO' G hi chi) (hmx:KO' G mx cmx)
  (e:JA h.size (ti P t).d x lo hi mx=some v):KS P B G w (Instr.sliceAt t c clo chi cmx) v h:=by
 unfold JA at e
 split at e
 ·rename_i n s hd
  have hu:=yO hd
  split at e
  ·split at e
   ·rename_i l h' m hb
    injection e with e; subst e
    cases hmx
    cases hx with
    | str s=>
     obtain⟨k1,k2,k3,_,_⟩:=vG (P:=P) (w:=w) hlo hhi .none (Nat.le_refl _) (Nat.le_refl _) false hb
     have hm:m=none:=by
      unfold uP at hb
      simp only at hb
      split at hb
      ·split at hb
       ·simp only [Option.some.injEq,Prod.mk.injEq]at hb; exact hb.2.2.symm
       ·cases hb
      ·cases hb
     subst hm
     simp only [Option.getD_none]at k1 k3
     refine .same r (c:= .string (s.extract l h')) ?_ (KR.sub s k2 k3)
     simp only [Instr.sliceAt,iB,run_underlying hu,iA,Instr.slice]
     simp [k1]
   ·cases e
  ·cases e
 ·rename_i el sz by_ id off len c' sz' hd
  split at e
  ·rename_i hs
   subst hs
   obtain⟨hu,i,hi',hsz,_⟩:=zn hd
   cases hx with
   | sl ha h1 h2 h3=>
    rename_i cap b o
    obtain⟨l,h',m,k1,k2⟩:=V9 (P:=P) (w:=w) (l:=0) (h':=0) hlo hhi hmx ha h1 h2 h3 true e
    refine .same r ?_ k2
    simp only [Instr.sliceAt,iB,run_underlying hu,iA,Instr.slice,k1,zk hi',iC,←hsz]
    by_cases hm:m=l
    ·simp [hm]
    ·simp [hm,yj]
  ·cases e
 ·rename_i el sz by_ hd
  obtain⟨hu,i,hi',hsz,_⟩:=zn hd
  split at e
  ·split at e
   ·rename_i hb
    injection e with e; subst e
    cases hmx
    cases hx with
    | slz ad cap=>
     rename_i q
     obtain⟨l,h',m⟩:=q
     obtain⟨k1,k2,k3,_,_⟩:=vG (P:=P) (w:=w) (cap:=cap) hlo hhi .none (Nat.le_refl _) (Nat.zero_le _) true hb
     have hm:m=none:=by
      unfold uP at hb
      simp only at hb
      split at hb
      ·split at hb
       ·simp only [Option.some.injEq,Prod.mk.injEq]at hb; exact hb.2.2.symm
       ·cases hb
      ·cases hb
     subst hm
     simp only [Option.getD_none]at k1 k3
     have hl0:l=0:=by omega
     have hh0:h'=0:=by omega
     subst hl0 hh0
     refine .same r (c:= .slice (some ad) 0 cap) ?_ (.slz _ _)
     simp only [Instr.sliceAt,iB,run_underlying hu,iA,Instr.slice,k1,zk hi',iC]
     by_cases hc:cap=0
     ·simp [hc]
     ·simp [hc,Addr.add]
   ·cases e
  ·cases e
 ·rename_i el sz by_ hd
  obtain⟨hu,i,hi',hsz,_⟩:=zn hd
  split at e
  ·rename_i q hb
   obtain⟨l,h',m⟩:=q
   injection e with e; subst e
   cases hx with
   | nilsl=>
    obtain⟨k1,k2,k3,k4,_⟩:=vG (P:=P) (w:=w) hlo hhi hmx (Nat.le_refl 0) (Nat.le_refl 0) true hb
    have hl0:l=0:=by omega
    have hh0:h'=0:=by omega
    have hm0:m.getD 0=0:=by omega
    subst hl0 hh0
    rw [hm0]at k1
    refine .same r (c:= .slice none 0 0) ?_ .nilsl
    simp only [Instr.sliceAt,iB,run_underlying hu,iA,Instr.slice,k1,zk hi',iC]
    simp
  ·cases e
 ·rename_i n sz id off hd
  split at e
  ·rename_i k hk
   split at e
   ·rename_i hfit
    obtain⟨el,ie,hu,hi',hsz⟩:=qw hd
    cases hx with
    | ptr ha=>
     rename_i b o
     have hroom:off+n*sz≤G.room id:=by
      unfold KH.size at hk
      split at hk
      ·rename_i ro cs hg
       injection hk with hk
       obtain⟨_,_,_,_,_,⟨h4,_⟩,_⟩:=r.cells hg ha
       omega
      ·cases hk
     obtain⟨l,h',m,k1,k2⟩:=V9 (P:=P) (w:=w) (l:=0) (h':=0) hlo hhi hmx ha (Nat.le_refl n) hroom (fun x hx=>by cases hx; rfl) false e
     refine .same r ?_ k2
     simp only [Instr.sliceAt,iB,run_underlying hu,iA,Instr.sureAddr,iC,k1,zk hi',←hsz]
     by_cases hm:m=l
     ·simp [hm]
     ·simp [hm,yj]
   ·cases e
  ·cases e
 ·cases e
end
def kz (P:Program) (t:TypeId):KV:=match P.info? t with
 |some i=>(match i.zero with|some z=>KV.of z|none=> .junk)
 |none=> .junk
def jB (place:Nat→Option (Nat×Nat)) (cells:List KV):List (Nat×KV)→Option (List KV)
 | []=>some cells
 | (i,v)::rest=>
  match place i with
  |none=>none
  | some (off,size)=>
   if v.cells.length=size∧off+v.cells.length≤cells.length∧KV.isCells v.cells=true then jB place (cells.take off++v.cells++cells.drop (off+size)) rest else none
def ZO (t:TI) (z:KV) (parts:List (Nat×KV)):Option KV:=
 if t.zok=true then
 match t.d with
 | .struct fs=>match jB (fun i=>fs[i]?) z.cells parts with|some cells=>some (.agg cells)|none=>none
 | .arr _ sz=>match jB (fun i=>some (i*sz,sz)) z.cells parts with|some cells=>some (.agg cells)|none=>none
 |_=>none
 else none
def wb (n:Nat) (z:List KV):List KV:=(List.replicate n z).flatten
def yw (h:KH):Bool:=Nat.blt (h.next+1) 65000
def vK (h:KH) (T:TypeId→TI) (Z:TypeId→KV) (d:TD) (len:Nat) (parts:List (Nat×KV)):Option (KV×KH):=
 match d with
 | .slice e sz _=>
  if len*sz≤16777216∧(T e).zok=true∧(Z e).cells.length=sz∧yw h=true then
   match jB (fun i=>some (i*sz,sz)) (wb len (Z e).cells) parts with
   |some cells=>some (.sl h.next 0 len (some len) sz,h.push (.cells false cells))
   |none=>none
  else none
 |_=>none
def j8 (s:TI) (T:TypeId→TI) (x:KV) (f:Nat):Option KV:=
 match s.d,x with
 | .struct fs, .agg cs=>match fs[f]?,s.fts[f]? with
  |some (off,_),some ft=>if(T ft).ok=true∧(T ft).d≠ .other then krd cs off (T ft).sz (T ft).d.agg else none
  |_,_=>none
 |_,_=>none
def Yf (h:KH) (T:TypeId→TI) (Z:TypeId→KV) (d:TD) (l c:KV):Option (KV×KH):=
 match d,l,c with
 | .slice e sz bytes, .int _ l, .int _ c=>
  if 0≤l∧l≤c∧bytes*c≤140737488355328∧c≤140737488355328∧(T e).zok=true∧(Z e).cells.length=sz∧yw h=true then
   some (.sl h.next 0 l.toNat (some c.toNat) sz,h.push (.cells false (wb c.toNat (Z e).cells)))
  else none
 |_,_,_=>none
section
variable {P:Program} {B:zJ} {G:Gh} {h:KH} {w:World} {fr:KFr} {a:Act}
theorem qU {t:TypeId} (hz:(ti P t).zok=true):∃i z,P.info? t=some i∧i.zero=some z∧kz P t=KV.of z:=by
 obtain⟨i,z,h1,h2,_⟩:=wH hz
 exact⟨i,z,h1,h2,by simp only [kz,h1,h2]⟩
theorem KRs.of_zero {z:Value}:KRs G (KV.of z).cells z.cells:=by
 have one:KV.of z=KV.ofCell z→z.cells= #[z]→(KV.ofCell z).cells= [KV.ofCell z]→KRs G (KV.of z).cells z.cells:=by
  intro h1 h2 h3
  rw [h1,h2,h3]
  refine⟨rfl, ?_⟩
  intro i v c hv hc
  cases i with
  |zero=>simp at hv hc; subst hv hc; exact KR.ofCell z
  |succ i=>simp at hv
 cases z with
 |agg cs=>exact KRs.ofCells cs
 | tuple cs=>
  refine⟨rfl, ?_⟩
  intro i v c hv hc
  cases i with
  |zero=>simp [KV.of,KV.cells,Value.cells]at hv hc; subst hv hc; exact KR.of (.tuple cs)
  |succ i=>simp [KV.of,KV.cells]at hv
 |slice a l c=>exact one rfl rfl (by unfold KV.ofCell; split<;>rfl)
 |pointer a=>exact one rfl rfl (by cases a<;>rfl)
 |map a=>exact one rfl rfl (by cases a<;>rfl)
 |_=>exact one rfl rfl rfl
theorem jf (place:Nat→Option (Nat×Nat)):∀(parts:List (Nat×KV)) (cparts:List (Nat×Value)) (cells r:List KV) (C:Array Value),KRs G cells C→parts.length=cparts.length →
  (∀(j:Nat) i v i' x,parts[j]? =some (i,v)→cparts[j]? =some (i',x)→i=i'∧KR G v x)→jB place cells parts=some r →
  ∃R,Instr.fill place C cparts=some R∧KRs G r R∧r.length=cells.length
 | [],cparts,cells,r,C,hv,hl,hp,h=>by
  have:cparts= []:=List.eq_nil_of_length_eq_zero hl.symm
  subst this
  simp only [jB]at h; injection h with h; subst h
  exact⟨C,rfl,hv,rfl⟩
 |(i,v)::rest,[],cells,r,C,hv,hl,hp,h=>by simp at hl
 | (i, v)::rest,(i',x)::crest,cells,r,C,hv,hl,hp,h=>by
  obtain⟨rfl,hvx⟩:=hp 0 i v i' x rfl rfl
  simp only [jB]at h
  split at h
  ·cases h
  ·rename_i off size hpl
   split at h
   ·rename_i hc
    obtain⟨h1,h2,h3⟩:=hc
    obtain⟨⟨hxl,hxr⟩,_⟩:=kF hvx h3
    have hfs:=dI off x.cells.toList 0 C (by simp [←hxl,←hv.1]; omega)
    simp only [Nat.add_zero]at hfs
    have hsz:=(hfs 0).2
    have hfold:x.cells.zipIdx.foldl (fun cs (c,j)=>cs.setIfInBounds (off+j) c) C=(x.cells.toList.zipIdx 0).foldl (fun cs (c,i)=>cs.setIfInBounds (off+i) c) C:=by
     rw [←Array.foldl_toList,Array.toList_zipIdx]
    obtain ⟨R,hR,hRv,hRl⟩:=jf place rest crest (cells.take off++v.cells++cells.drop (off+size)) r ((x.cells.toList.zipIdx 0).foldl (fun cs (c,i)=>cs.setIfInBounds (off+i) c) C) (by
     refine⟨?_, ?_⟩
     ·rw [hsz,←hv.1]; simp [h1]; omega
     ·intro j u y hu hy
      rw [(hfs j).1]at hy
      rw [←h1]at hu
      rw [uB cells v.cells off j (by omega)]at hu
      by_cases c1:j<off
      ·rw [if_pos c1]at hu
       rw [if_neg (by omega)]at hy
       exact hv.2 j u y hu hy
      ·rw [if_neg c1]at hu
       by_cases c2:j<off+v.cells.length
       ·rw [if_pos c2]at hu
        rw [if_pos (by simp [←hxl]; omega)]at hy
        exact hxr _ u y hu (by simpa using hy)
       ·rw [if_neg c2]at hu
        rw [if_neg (by simp [←hxl]; omega)]at hy
        exact hv.2 j u y hu hy) (by simpa using hl) (fun j i v i' x h1 h2=>hp (j+1) i v i' x (by simpa using h1) (by simpa using h2)) h
    refine⟨R, ?_,hRv,by rw [hRl]; simp; omega⟩
    simp only [Instr.fill,hpl]
    rw [if_neg]
    ·rw [hfold]; exact hR
    ·simp only [Bool.or_eq_true,bne_iff_ne,ne_eq,decide_eq_true_eq,not_or]
     refine⟨by simp [←hxl,h1], ?_⟩
     rw [←hxl,←hv.1]
     show ¬(off+v.cells.length>cells.length)
     omega
   ·cases h
theorem Qx (r:KRel B G h w) {t:TypeId} {parts:List (Nat×KV)} {cparts:Array (Nat×Value)} {v:KV} (hl:parts.length=cparts.size)
  (hp:∀(j:Nat) i v i' x,parts[j]? =some (i,v)→cparts[j]? =some (i',x)→i=i'∧KR G v x) (e:ZO (ti P t) (kz P t) parts=some v):
  KS P B G w (Instr.build t cparts) v h:=by
 unfold ZO at e
 split at e
 ·rename_i hz
  obtain⟨i,z,hi,hzz,hzv⟩:=qU hz
  have hz0:KRs G (kz P t).cells z.cells:=by rw [hzv]; exact KRs.of_zero
  split at e
  ·rename_i fs hd
   split at e
   ·rename_i cells hf
    injection e with e; subst e
    obtain⟨fields,hu,hfs,hok⟩:=ua hd
    obtain⟨R,hR,hRv,_⟩:=jf (G:=G) _ parts cparts.toList _ _ _ hz0 (by simpa using hl) (fun j i v i' x h1 h2=>hp j i v i' x h1 (by simpa using h2)) hf
    refine .same r (c:= .agg R) ?_ (.agg hRv.1 hRv.2)
    have hm:(fields.mapM (m:=Sem) fun f=>do pure (f.offset,←sizeOf f.type)).run P w= .ok fs.toArray w:=by
     rw [Array.mapM_eq_mapM_toList]
     simp only [Sem.run_map,bI fields.toList hok,iA,hfs]
    have hplace:((fun i=>fs.toArray[i]?):Nat→Option (Nat×Nat))=fun i=>fs[i]? :=by funext i; simp
    simp only [Instr.build,iB,zp hi hzz,iA,run_underlying hu,hm,hplace,hR,iC]
   ·cases e
  ·rename_i n sz hd
   split at e
   ·rename_i cells hf
    injection e with e; subst e
    obtain⟨el,ie,hu,hie,hsz⟩:=qw hd
    obtain⟨R,hR,hRv,_⟩:=jf (G:=G) _ parts cparts.toList _ _ _ hz0 (by simpa using hl) (fun j i v i' x h1 h2=>hp j i v i' x h1 (by simpa using h2)) hf
    refine .same r (c:= .agg R) ?_ (.agg hRv.1 hRv.2)
    simp only [Instr.build,iB,zp hi hzz,iA,run_underlying hu,zk hie,←hsz,hR,iC]
   ·cases e
  ·cases e
 ·cases e
theorem vm (n:Nat) (z:List KV):(wb n z).length=n*z.length:=by simp [wb]
theorem jR {z:Value} {zs:List KV} (hz:KRs G zs z.cells) (n:Nat):KRs G (wb n zs) ((Array.range (n*zs.length)).map (z.cells[· % z.cells.size]!)):=by
 have hget:∀(n j:Nat),j<n*zs.length→(wb n zs)[j]? =zs[j%zs.length]? :=by
  intro n
  induction n with
  |zero=>intro j hj; omega
  | succ n ih=>
   intro j hj
   have hz:wb (n+1) zs=zs++wb n zs:=by simp [wb,List.replicate_succ]
   rw [hz]
   rcases Nat.lt_or_ge j zs.length with h'|h'
   ·rw [List.getElem?_append_left h',Nat.mod_eq_of_lt h']
   ·rw [List.getElem?_append_right h',ih _ (by rw [Nat.add_mul]at hj; omega),Nat.mod_eq_sub_mod h']
 refine⟨by simp [vm], ?_⟩
 intro i v c hv hc
 have hi:i<n*zs.length:=by
  have:=yo hv
  rw [vm]at this; exact this
 rw [hget n i hi]at hv
 simp only [Array.getElem?_map,Array.getElem?_range,hi,if_true,Option.map_some]at hc
 injection hc with hc; subst hc
 have hpos:0<zs.length:=by
  rcases Nat.eq_zero_or_pos zs.length with h0|h0
  ·rw [h0]at hi; omega
  ·exact h0
 have hm:i%zs.length<zs.length:=Nat.mod_lt _ hpos
 refine hz.2 (i%zs.length) v _ hv ?_
 rw [←hz.1]
 have:i%zs.length<z.cells.size:=by rw [←hz.1]; exact hm
 rw [getElem!_pos z.cells (i%zs.length) this]
 simp [this]
theorem Q0 (r:KRel B G h w) (hn:yw h=true) {cells:List KV} {R:Array Value} (hr:KRs G cells R) (e:TypeId) (len sz cap:Nat) (hl:len≤cap) (hc:cap*sz≤cells.length):
  ∃G',G.le G'∧KR G' (.sl h.next 0 len (some cap) sz) (.slice (some ⟨w.heap.size,0,none⟩) len cap)∧KRel B G' (h.push (.cells false cells)) (w.alloc (.cells R e)):=by
 have hn':h.next+1<65000:=by simpa [yw,zL] using hn
 have hle:=Gh.new_le G r.fresh (w.heap.size,0) cells.length
 refine ⟨_,hle, ?_,r.alloc hn' (o:= .cells false cells) (ob:= .cells R e) (room:=cells.length) (.cells (Nat.le_refl _) (by have:=hr.1; omega) (fun _=> .zero _)
  (fun i u c h1 h2=>(hr.2 i u c h1 (by simpa using h2)).le hle))⟩
 exact .sl (off:=0) (o:=0) (Gh.new_at _ _ _ _) hl (by rw [Gh.new_room]; omega) (fun x hx=>by cases hx; rfl)
theorem pK (r:KRel B G h w) {t:TypeId} {len:Nat} {parts:List (Nat×KV)} {cparts:Array (Nat×Value)} {v:KV} {h':KH} (hl:parts.length=cparts.size)
  (hp:∀(j:Nat) i v i' x,parts[j]? =some (i,v)→cparts[j]? =some (i',x)→i=i'∧KR G v x) (e:vK h (ti P) (kz P) (ti P t).d len parts=some (v,h')):
  KS P B G w (Instr.buildSlice t len cparts) v h':=by
 unfold vK at e
 split at e
 ·rename_i el sz by_ hd
  split at e
  ·rename_i hc
   obtain⟨hbig,hz,hzl,hrm⟩:=hc
   split at e
   ·rename_i cells hf
    simp only [Option.some.injEq,Prod.mk.injEq]at e
    obtain⟨rfl,rfl⟩:=e
    obtain⟨hu,i,hi,hsz,_⟩:=zn hd
    obtain⟨i',z,hi',hzz,hzv⟩:=qU hz
    rw [hi]at hi'; injection hi' with hi'; subst hi'
    have hz0:KRs G (kz P el).cells z.cells:=by rw [hzv]; exact KRs.of_zero
    have hrow:=jR hz0 len
    rw [hzl]at hrow
    obtain⟨R,hR,hRv,hRl⟩:=jf (G:=G) _ parts cparts.toList _ _ _ hrow (by simpa using hl) (fun j i v i' x h1 h2=>hp j i v i' x h1 (by simpa using h2)) hf
    rw [vm,hzl]at hRl
    obtain⟨G',g1,g2,g3⟩:=Q0 r hrm hRv el len sz len (Nat.le_refl _) (by omega)
    refine⟨_,_,G', ?_,g1,g2,g3⟩
    simp only [Instr.buildSlice,iB,run_underlying hu,iA,zk hi,←hsz]
    rw [if_neg (by simp; omega)]
    by_cases hl0:len*sz=0
    ·simp only [hl0,if_true,iB,iC,iA]at hR ⊢
     have he:((Array.range 0).map ((#[]:Array Value)[· % (#[]:Array Value).size]!))=(Array.range 0).map (z.cells[· % z.cells.size]!):=by simp
     rw [he,hR]
     rfl
    ·rw [if_neg hl0]
     simp only [iB,zp hi hzz,iA,iC,hR]
     rfl
   ·cases e
  ·cases e
 ·cases e
theorem J4 (r:KRel B G h w) {s:TypeId} {x v:KV} {c:Value} {f:Nat} (hx:KR G x c) (e:j8 (ti P s) (ti P) x f=some v):KS P B G w (Instr.field s c f) v h:=by
 unfold j8 at e
 split at e
 ·rename_i fs cs hd
  split at e
  ·rename_i off sz ft hf1 hf2
   split at e
   ·rename_i hh
    obtain⟨hok,hne⟩:=hh
    obtain⟨fields,hu,hfs,_⟩:=ua hd
    have hfts:(ti P s).fts=fields.toList.map (·.type):=by simp only [ti,hu]
    rw [hfts,List.getElem?_map]at hf2
    obtain⟨fl,hfl,hft⟩:=Option.map_eq_some_iff.1 hf2
    subst hft
    rw [hfs,List.getElem?_map,hfl]at hf1
    simp only [Option.map_some,Option.some.injEq,Prod.mk.injEq]at hf1
    obtain⟨ho,_⟩:=hf1
    obtain⟨i,d,hi,hdd,hsz,htd⟩:=qc hok
    have hag:(ti P fl.type).d.agg=ja d:=by rw [htd]at hne ⊢; exact jj hne
    cases hx with
    | @agg _ ca hl hr=>
     have hfa:fields[f]? =some fl:=by rw [←Array.getElem?_toList]; exact hfl
     simp only [krd]at e
     by_cases ha:(ti P fl.type).d.agg=true
     ·simp only [ha,if_true]at e
      split at e
      ·rename_i hlen
       injection e with e; subst e
       have hlen2:=hlen
       simp only [List.length_take,List.length_drop]at hlen
       by_cases hz:i.size=0
       ·refine .same r (c:= .agg (ca.extract fl.offset (fl.offset+i.size))) ?_ (.agg (by rw [hlen2,hsz,hz]; simp; omega) ?_)
        ·simp only [Instr.field,iB,run_underlying hu,iA,hfa,part,asAgg,iC,xx hdd,←hag,ha,if_true,zk hi]
        ·intro j u y hu' hy
         rw [List.getElem?_eq_none (by rw [hlen2,hsz,hz]; omega)]at hu'; cases hu'
       ·have hle:fl.offset+i.size≤ca.size:=by rw [←hl,ho]; omega
        refine .same r (c:= .agg (ca.extract fl.offset (fl.offset+i.size))) ?_ (.agg (by rw [hlen2,hsz]; simp; omega) ?_)
        ·simp only [Instr.field,iB,run_underlying hu,iA,hfa,part,asAgg,iC,xx hdd,←hag,ha,if_true,zk hi]
        ·intro j u y hu' hy
         have hj:j<i.size:=by
          rcases Nat.lt_or_ge j i.size with h'|h'
          ·exact h'
          ·rw [List.getElem?_eq_none (by rw [hlen2,hsz]; exact h')]at hu'; cases hu'
         rw [q6 _ _ _ _ hj hle]at hy
         rw [hsz,List.getElem?_take,if_pos hj,List.getElem?_drop]at hu'
         exact hr _ u y (by rw [ho]; exact hu') hy
      ·cases e
     ·have ha':(ti P fl.type).d.agg=false:=by simpa using ha
      simp only [ha',if_false,Bool.false_eq_true]at e
      have hlt:off<ca.size:=by rw [←hl]; exact yo e
      refine .same r (c:=ca[off]) ?_ (hr off v _ e (by simp [hlt]))
      simp only [Instr.field,iB,run_underlying hu,iA,hfa,part,asAgg,iC,xx hdd,←hag,ha',ho,Bool.false_eq_true,if_false]
      have:ca[off]? =some ca[off]:=by simp [hlt]
      rw [this]; rfl
   ·cases e
  ·cases e
 ·cases e
end
end Go.K
end
