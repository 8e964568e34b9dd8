/- Abstract values: a part. No condition beyond each statement's own. -/
import Derived.Test.YthfhicembdpjpaaGreatDoorA09
set_option linter.all false
section
namespace Go.Abs
open Go.RowKit (Below)
section
variable {P:Program} {gl:Nat→List V} {w0:qQ} {G:Gh} {st:St} {w:World}
theorem UI (off:Nat):∀(vs:List Value) (k:Nat) (cs:Array Value),off+k+vs.length≤cs.size →
  ∀ j:Nat,((vs.zipIdx k).foldl (fun cs (c,i)=>cs.setIfInBounds (off+i) c) cs)[j]? =(if off+k≤j∧j<off+k+vs.length then vs[j-(off+k)]? else cs[j]?) ∧
   ((vs.zipIdx k).foldl (fun cs (c,i)=>cs.setIfInBounds (off+i) c) cs).size=cs.size
 | [],k,cs,h,j=>by
  simp only [List.zipIdx_nil,List.foldl_nil,List.length_nil,Nat.add_zero]
  rw [if_neg O0]; simp
 | v ::vs,k,cs,h,j=>by
  simp only [List.zipIdx_cons,List.foldl_cons]
  simp only [List.length_cons]at h
  obtain⟨h1,h2⟩:=UI off vs (k+1) (cs.setIfInBounds (off+k) v) O3 j
  refine⟨?_,by rw [h2]; simp⟩
  rw [h1]
  by_cases c1:off+(k+1)≤j∧j<off+(k+1)+vs.length
  ·rw [if_pos c1,if_pos (by simp only [List.length_cons]; omega)]
   rw [show j-(off+k)=(j-(off+(k+1)))+1 by omega,List.getElem?_cons_succ]
  ·rw [if_neg c1]
   by_cases c2:j=off+k
   ·subst c2
    rw [if_pos (by simp only [List.length_cons]; omega)]
    simp only [Nat.sub_self,List.getElem?_cons_zero]
    rw [Array.getElem?_setIfInBounds,if_pos rfl,if_pos O0]
   ·rw [if_neg (by simp only [List.length_cons]; omega),Array.getElem?_setIfInBounds,if_neg (Ne.symm c2)]
theorem ZW (place:Nat→Option (Nat×Nat)):∀(parts:List (Nat×V)) (cparts:List (Nat×Value)) (cells r:List V) (C:Array Value),VRs G cells C→parts.length=cparts.length →
  (∀(j:Nat) i v i' x,parts[j]? =some (i,v)→cparts[j]? =some (i',x)→i=i'∧VR G v x)→d8 place cells parts=some r →
  ∃R,Instr.fill place C cparts=some R∧VRs G r R
 | [],cparts,cells,r,C,hv,hl,hp,h=>by
  have:cparts= []:=List.eq_nil_of_length_eq_zero hl.symm
  subst this
  simp only [d8]at h; injection h with h; subst h
  exact⟨C,rfl,hv⟩
 |(i,v)::rest,[],cells,r,C,hv,hl,hp,h=>by simp at hl
 | (i, v)::rest,(i',x)::crest,cells,r,C,hv,hl,hp,h=>by
  obtain⟨rfl,hvx⟩:=hp 0 i v i' x rfl rfl
  simp only [d8]at h
  split at h
  ·cases h
  ·rename_i off size hpl
   split at h
   ·rename_i hc
    obtain⟨h1,h2,h3⟩:=hc
    obtain⟨⟨hxl,hxr⟩,_⟩:=Wc hvx h3
    have hfs:=UI off x.cells.toList 0 C (by simp [←hxl,←hv.1]; omega)
    simp only [Nat.add_zero]at hfs
    have hsz:=(hfs 0).2
    have hfold:x.cells.zipIdx.foldl (fun cs (c,j)=>cs.setIfInBounds (off+j) c) C=(x.cells.toList.zipIdx 0).foldl (fun cs (c,i)=>cs.setIfInBounds (off+i) c) C:=by
     rw [←Array.foldl_toList,Array.toList_zipIdx]
    obtain ⟨R,hR,hRv⟩:=ZW place rest crest (cells.take off++v.cells++cells.drop (off+size)) r ((x.cells.toList.zipIdx 0).foldl (fun cs (c,i)=>cs.setIfInBounds (off+i) c) C) (by
     refine⟨?_, ?_⟩
     ·rw [hsz,←hv.1]; simp [h1]; omega
     ·intro j u y hu hy
      rw [(hfs j).1]at hy
      rw [←h1]at hu
      rw [XP cells v.cells off j O0]at hu
      by_cases c1:j<off
      ·rw [if_pos c1]at hu
       rw [if_neg O0]at hy
       exact hv.2 j u y hu hy
      ·rw [if_neg c1]at hu
       by_cases c2:j<off+v.cells.length
       ·rw [if_pos c2]at hu
        rw [if_pos (by simp [←hxl]; omega)]at hy
        exact hxr _ u y hu (O7 hy)
       ·rw [if_neg c2]at hu
        rw [if_neg (by simp [←hxl]; omega)]at hy
        exact hv.2 j u y hu hy) (O7 hl) (fun j i v i' x h1 h2=>hp (j+1) i v i' x (O7 h1) (O7 h2)) h
    refine⟨R, ?_,hRv⟩
    simp only [Instr.fill,hpl]
    rw [if_neg]
    ·rw [hfold]; exact hR
    ·simp only [Bool.or_eq_true,bne_iff_ne,ne_eq,decide_eq_true_eq,not_or]
     refine⟨by simp [←hxl,h1], ?_⟩
     rw [←hxl,←hv.1]
     show ¬(off+v.cells.length>cells.length)
     omega
   ·cases h
theorem VRs.of_zero {z:Value}:VRs G (V.of z).cells z.cells:=by
 cases z with
 |agg cs=>exact VRs.ofCells G cs
 | tuple cs=>
  refine⟨rfl, ?_⟩
  intro i v c hv hc
  cases i with
  |zero=>simp [V.of,V.cells,Value.cells]at hv hc; subst hv hc; exact VR.of G (.tuple cs)
  |succ i=>simp [V.of,V.cells]at hv
 | _=>
  refine⟨by rw [V.of_cells_length], ?_⟩
  intro i v c hv hc
  simp only [V.of]at hv
  have hcell:∀q:Value,(V.ofCell q).cells= [V.ofCell q]:=by intro q; unfold V.ofCell; split<;>rfl
  rw [hcell]at hv
  cases i with
  |zero=>simp [Value.cells]at hv hc; subst hv hc; exact VR.ofCell G _
  |succ i=>simp at hv
theorem VF (place:Nat→Option (Nat×Nat)):∀(parts:List (Nat×V)) (cells r:List V),V.scs st cells→(∀p∈parts,V.sc st p.2)→d8 place cells parts=some r→V.scs st r
 | [],cells,r,hc,hp,h=>by simp only [d8]at h; injection h with h; subst h; exact hc
 | (i,v)::rest,cells,r,hc,hp,h=>by
  simp only [d8]at h
  split at h
  ·cases h
  ·split at h
   ·refine VF place rest _ r ?_ (fun p hp'=>hp p (List.mem_cons_of_mem _ hp')) h
    have h1:=(V.scs_iff st _).1 hc
    have h2:=(V.scs_iff st _).1 (Wh (hp (i,v) O2))
    rw [V.scs_iff]
    intro u hu
    rcases List.mem_append.1 hu with hu|hu
    ·rcases List.mem_append.1 hu with hu|hu
     ·exact h1 u (List.mem_of_mem_take hu)
     ·exact h2 u hu
    ·exact h1 u (List.mem_of_mem_drop hu)
   ·cases h
theorem VH:∀(l:List Field),(∀f∈l,(P.info? f.type).isSome=true)→(l.mapM (m:=Sem) fun f=>do pure (f.offset,←sizeOf f.type)).run P w= .ok (l.map fun f=>(f.offset,P.cellsOf f.type)) w
 | [],_=>rfl
 | f::r,h=>by
  obtain⟨i,hi⟩:=Option.isSome_iff_exists.1 (h f O2)
  have ih:=VH r (fun f hf=>h f (List.mem_cons_of_mem _ hf))
  simp only [List.mapM_cons,iB,xA hi,iA,iC,ih,List.map_cons]
  simp [Program.cellsOf,hi]
theorem QJ {t:TypeId} {parts:List (Nat×V)} {cparts:Array (Nat×Value)} {v:V} (hl:parts.length=cparts.size)
  (hp:∀(j:Nat) i v i' x,parts[j]? =some (i,v)→cparts[j]? =some (i',x)→i=i'∧VR G v x) (hs:∀p∈parts,V.sc st p.2) (h:VJ (ti P t) parts=some v):
  ∃c,(Instr.build t cparts).run P w= .ok c w∧VR G v c∧V.sc st v:=by
 unfold VJ at h
 split at h
 ·rename_i hz
  obtain⟨i,z,hi,hzz,hzv⟩:=dH hz
  have hz0:VRs G (ti P t).zero.cells z.cells:=by rw [hzv]; exact VRs.of_zero
  have hsc0:V.scs st (ti P t).zero.cells:=by rw [hzv]; exact Wh (V.sc_of_pure st _ (V.pure_of z))
  split at h
  ·rename_i fs hd
   split at h
   ·rename_i cells hf
    injection h with h; subst h
    obtain⟨fields,hu,hfs,hok⟩:=WK hd
    obtain⟨R,hR,hRv⟩:=ZW (G:=G) _ parts cparts.toList _ _ _ hz0 (O7 hl) (fun j i v i' x h1 h2=>hp j i v i' x h1 (O7 h2)) hf
    refine⟨.agg R, ?_, .agg hRv.1 hRv.2,by simp only [V.sc]; exact VF _ _ _ _ hsc0 hs hf⟩
    have hm:(fields.mapM (m:=Sem) fun f=>do pure (f.offset,←sizeOf f.type)).run P w= .ok fs.toArray w:=by
     rw [Array.mapM_eq_mapM_toList]
     simp only [Sem.run_map,VH fields.toList hok,iA,hfs]
    have hplace:((fun i=>fs.toArray[i]?):Nat→Option (Nat×Nat))=fun i=>fs[i]? :=by funext i; simp
    simp only [Instr.build,iB,vO hi hzz,iA,run_underlying hu,hm,hplace,hR,iC]
   ·cases h
  ·rename_i n sz hd
   split at h
   ·rename_i cells hf
    injection h with h; subst h
    obtain⟨e,ie,hu,hie,hsz⟩:=UW hd
    obtain⟨R,hR,hRv⟩:=ZW (G:=G) _ parts cparts.toList _ _ _ hz0 (O7 hl) (fun j i v i' x h1 h2=>hp j i v i' x h1 (O7 h2)) hf
    refine⟨.agg R, ?_, .agg hRv.1 hRv.2,by simp only [V.sc]; exact VF _ _ _ _ hsc0 hs hf⟩
    simp only [Instr.build,iB,vO hi hzz,iA,run_underlying hu,xA hie,←hsz,hR,iC]
   ·cases h
  ·cases h
 ·cases h
theorem Wp (place:Nat→Option (Nat×Nat)):∀(parts:List (Nat×V)) (cells r:List V),d8 place cells parts=some r→r.length=cells.length
 | [],cells,r,h=>by simp only [d8]at h; injection h with h; subst h; rfl
 | (i,v)::rest,cells,r,h=>by
  simp only [d8]at h
  split at h
  ·cases h
  ·split at h
   ·rename_i hc
    have:=Wp place rest _ r h
    rw [this]; simp; omega
   ·cases h
theorem YM {z:Value} {zs:List V} (h:VRs G zs z.cells) (n:Nat):VRs G (uh n zs) ((Array.range (n*zs.length)).map (z.cells[· % z.cells.size]!)):=by
 have hlen:∀n,(uh n zs).length=n*zs.length:=by
  intro n; simp [uh]
 have hget:∀(n j:Nat),j<n*zs.length→(uh n zs)[j]? =zs[j%zs.length]? :=by
  intro n
  induction n with
  |zero=>intro j hj; omega
  | succ n ih=>
   intro j hj
   have hz:uh (n+1) zs=zs++uh n zs:=by simp [uh,List.replicate_succ]
   rw [hz]
   rcases Nat.lt_or_ge j zs.length with h'|h'
   ·rw [List.getElem?_append_left h',Nat.mod_eq_of_lt h']
   ·rw [List.getElem?_append_right h',ih _ (by rw [Nat.add_mul]at hj; omega),Nat.mod_eq_sub_mod h']
 refine⟨by simp [hlen], ?_⟩
 intro i v c hv hc
 have hi:i<n*zs.length:=by
  rcases Nat.lt_or_ge i (n*zs.length)with h'|h'
  ·exact h'
  ·rw [List.getElem?_eq_none (by rw [hlen]; exact h')]at hv; cases hv
 rw [hget n i hi]at hv
 simp only [Array.getElem?_map,Array.getElem?_range,hi,if_true,Option.map_some]at hc
 injection hc with hc; subst hc
 have hpos:0<zs.length:=by
  rcases Nat.eq_zero_or_pos zs.length with h0|h0
  ·rw [h0]at hi; omega
  ·exact h0
 have hm:i%zs.length<zs.length:=Nat.mod_lt _ hpos
 refine h.2 (i%zs.length) v _ hv ?_
 rw [←h.1]
 have:i%zs.length<z.cells.size:=by rw [←h.1]; exact hm
 rw [getElem!_pos z.cells (i%zs.length) this]
 simp [this]
theorem WS (h:Rel gl w0 G st w) {t:TypeId} {len:Nat} {parts:List (Nat×V)} {cparts:Array (Nat×Value)} {v:V} (hl:parts.length=cparts.size)
  (hp:∀(j:Nat) i v i' x,parts[j]? =some (i,v)→cparts[j]? =some (i',x)→i=i'∧VR G v x) (hv:gR P (ti P t).d len parts=some v):
  SOK P gl w0 G st w (Instr.buildSlice t len cparts) v st:=by
 unfold gR at hv
 split at hv
 ·rename_i e sz by_ hd
  split at hv
  ·rename_i hc
   obtain⟨hbig,hz,hzl,hsz0⟩:=hc
   split at hv
   ·rename_i cells hf
    split at hv
    ·rename_i hpc
     injection hv with hv; subst hv
     obtain⟨hu,i,hi,hsz,_⟩:=xM hd
     obtain⟨i',z,hi',hzz,hzv⟩:=dH hz
     rw [hi]at hi'; injection hi' with hi'; subst hi'
     have hz0:VRs G (ti P e).zero.cells z.cells:=by rw [hzv]; exact VRs.of_zero
     have hzs:z.cells.size=sz:=by rw [←V.of_cells_length,←hzv]; exact hzl
     have hrow:=YM hz0 len
     rw [hzl]at hrow
     obtain⟨R,hR,hRv⟩:=ZW (G:=G) _ parts cparts.toList _ _ _ hrow (O7 hl) (fun j i v i' x h1 h2=>hp j i v i' x h1 (O7 h2)) hf
     have hcl:cells.length=len*sz:=by rw [Wp _ _ _ _ hf]; simp [uh,hzl]
     obtain⟨c1,c2,c3⟩:=Xc sz len cells hcl
     obtain ⟨hr,hx⟩:=h.newRow (fun j=>cells[j]?) R e (0,0) (by
      intro j v hj
      refine⟨?_, ?_⟩
      ·exact List.all_eq_true.1 hpc v (List.mem_of_getElem? hj)
      ·have hjl:j<cells.length:=by
        rcases Nat.lt_or_ge j cells.length with h'|h'
        ·exact h'
        ·rw [List.getElem?_eq_none h']at hj; cases hj
       have hjr:j<R.size:=by rw [←hRv.1]; exact hjl
       exact⟨R[j],by simp [hjr],hRv.2 j v _ hj (by simp [hjr])⟩)
     refine⟨.slice (some ⟨w.heap.size,0,none⟩) len len,w.alloc (.cells R e),_, ?_, ?_,by simp [V.sc],hr,hx, .refl _⟩
     ·simp only [Instr.buildSlice,iB,run_underlying hu,iA,xA hi,←hsz]
      rw [if_neg O3]
      by_cases hl0:len*sz=0
      ·have hlen0:len=0:=by
        rcases Nat.mul_eq_zero.1 hl0 with h'|h'
        ·exact h'
        ·omega
       subst hlen0
       simp only [Nat.zero_mul,if_true,iB,iC,iA]at hR ⊢
       have he:((Array.range 0).map ((#[]:Array Value)[· % (#[]:Array Value).size]!))=(Array.range 0).map (z.cells[· % z.cells.size]!):=O2
       rw [he,hR]
       rfl
      ·rw [if_neg hl0]
       simp only [iB,vO hi hzz,iA,iC,hR]
       rfl
     ·have:VR (G.setImm w.heap.size fun j=>cells[j]?) (.sl sz (bw sz len cells) .exact) (.slice (some ⟨w.heap.size,0,none⟩) (bw sz len cells).length len):=by
       refine .sl (p7 c3 ?_) (by simp [BS,c1]) O0
       intro j v hj
       rw [c2]at hj
       show(if w.heap.size=w.heap.size then cells[0+j]? else G.imm w.heap.size (0+j))=some v
       rw [if_pos rfl,Nat.zero_add]; exact hj
      rw [c1]at this
      exact this
    ·cases hv
   ·cases hv
  ·cases hv
 ·cases hv
theorem Vk (h:Rel gl w0 G st w) {t:TypeId} {len:Nat} {parts:List (Nat×V)} {cparts:Array (Nat×Value)} {v:V} (hl:parts.length=cparts.size)
  (hp:∀(j:Nat) i v i' x,parts[j]? =some (i,v)→cparts[j]? =some (i',x)→i=i'∧VR G v x) (hv:Zt P (ti P t).d len parts=some v):
  SOK P gl w0 G st w (Instr.buildSlice t len cparts) v st:=by
 have hv':gR P (ti P t).d len (parts.map fun p=>(p.1,V.pur p.2))=some v:=hv
 refine WS h (O7 hl) ?_ hv'
 intro j i v i' x h1 h2
 rw [List.getElem?_map]at h1
 obtain⟨p,hp1,hp2⟩:=Option.map_eq_some_iff.1 h1
 injection hp2 with e1 e2; subst e1 e2
 obtain⟨q1,q2⟩:=hp j p.1 p.2 i' x hp1 h2
 exact⟨q1,q2.pur⟩
theorem Qp (c:Array Value) (off n j:Nat) (hj:j<n) (h:off+n≤c.size):(c.extract off (off+n))[j]? =c[off+j]? :=by
 rw [Array.getElem?_extract]
 have:min (off+n) c.size=off+n:=O0
 rw [this,if_pos O0]
theorem QW (h:Rel gl w0 G st w) {s:TypeId} {x v:V} {c:Value} {f:Nat} (hx:VR G x c) (hs:V.sc st x) (hv:U9 (ti P s) (ti P) x f=some v):
  SOK P gl w0 G st w (Instr.field s c f) v st:=by
 unfold U9 at hv
 split at hv
 ·rename_i fs cs hd
  split at hv
  ·rename_i off sz ft hf1 hf2
   split at hv
   ·rename_i hh
    obtain⟨hok,hne,hpos⟩:=hh
    obtain⟨fields,hu,hfs,_⟩:=WK hd
    have hfts:(ti P s).fts=fields.toList.map (·.type):=by simp only [ti,hu]
    rw [hfts,List.getElem?_map]at hf2
    obtain⟨fl,hfl,hft⟩:=Option.map_eq_some_iff.1 hf2
    subst hft
    rw [hfs,List.getElem?_map,hfl]at hf1
    simp only [Option.map_some,Option.some.injEq,Prod.mk.injEq]at hf1
    obtain⟨ho,_⟩:=hf1
    obtain⟨i,d,hi,hdd,hsz,htd⟩:=KE hok
    have hag:(ti P fl.type).d.agg=W0 d:=by rw [htd]at hne ⊢; exact JM hne
    cases hx with
    | @agg _ ca hl hr=>
     have hsc:∀u∈cs,V.sc st u:=by simpa [V.sc,V.scs_iff] using hs
     have hfa:fields[f]? =some fl:=by rw [←Array.getElem?_toList]; exact hfl
     simp only [rd]at hv
     by_cases ha:(ti P fl.type).d.agg=true
     ·simp only [ha,if_true]at hv
      split at hv
      ·rename_i hlen
       injection hv with hv; subst hv
       have hlen2:=hlen
       simp only [List.length_take,List.length_drop]at hlen
       ·have hle:fl.offset+i.size≤ca.size:=by rw [←hl,ho]; omega
        refine SOK.same h (c:= .agg (ca.extract fl.offset (fl.offset+i.size))) ?_ ?_ ?_
        ·simp only [Instr.field,iB,run_underlying hu,iA,hfa,part,asAgg,iC,Xf hdd,←hag,ha,if_true,xA hi]
        ·refine .agg (by rw [hlen2,hsz]; simp; omega) ?_
         intro j u y hu' hy
         have hj:j<i.size:=by
          rcases Nat.lt_or_ge j i.size with h'|h'
          ·exact h'
          ·rw [List.getElem?_eq_none (by rw [hlen2,hsz]; exact h')]at hu'; cases hu'
         rw [Qp _ _ _ _ hj hle]at hy
         rw [hsz,List.getElem?_take,if_pos hj,List.getElem?_drop]at hu'
         exact hr _ u y (by rw [ho]; exact hu') hy
        ·simp only [V.sc,V.scs_iff]
         intro u hu'
         exact hsc u (List.mem_of_mem_drop (List.mem_of_mem_take hu'))
      ·cases hv
     ·have ha':(ti P fl.type).d.agg=false:=by simpa using ha
      simp only [ha',if_false,Bool.false_eq_true]at hv
      have hlt:off<ca.size:=by rw [←hl]; exact yj hv
      refine SOK.same h (c:=ca[off]) ?_ (hr off v _ hv (by simp [hlt])) (hsc v (List.mem_of_getElem? hv))
      simp only [Instr.field,iB,run_underlying hu,iA,hfa,part,asAgg,iC,Xf hdd,←hag,ha',ho,Bool.false_eq_true,if_false]
      have:ca[off]? =some ca[off]:=by simp [hlt]
      rw [this]; rfl
   ·cases hv
  ·cases hv
 ·cases hv
theorem Wu (h:Rel gl w0 G st w) {t:TypeId} {len:Nat} {parts:List (Nat×V)} {cparts:Array (Nat×Value)} {v:V} {st':St} (hl:parts.length=cparts.size)
  (hp:∀(j:Nat) i v i' x,parts[j]? =some (i,v)→cparts[j]? =some (i',x)→i=i'∧VR G v x) (hv:Yq P st (ti P t).d len parts=some (v,st')):
  SOK P gl w0 G st w (Instr.buildSlice t len cparts) v st':=by
 unfold Yq at hv
 split at hv
 ·rename_i e sz by_ hd
  split at hv
  ·rename_i hh
   obtain⟨hb,hz,hzl,hs0,hlen0⟩:=hh
   split at hv
   ·rename_i cells hf
    split at hv
    ·rename_i hpc
     injection hv with hv; injection hv with hv1 hv2; subst hv1 hv2
     obtain⟨hu,i,hi,hsz,_⟩:=xM hd
     obtain⟨i',z,hi',hzz,hzv⟩:=dH hz
     rw [hi]at hi'; injection hi' with hi'; subst hi'
     have hz0:VRs G (ti P e).zero.cells z.cells:=by rw [hzv]; exact VRs.of_zero
     have hzs:z.cells.size=sz:=by rw [←V.of_cells_length,←hzv]; exact hzl
     have hrow:=YM hz0 len
     rw [hzl]at hrow
     have hp':∀(j:Nat) i v i' x,(parts.map fun p=>(p.1,V.pur p.2))[j]? =some (i,v)→cparts[j]? =some (i',x)→i=i'∧VR G v x:=by
      intro j i v i' x h1 h2
      rw [List.getElem?_map]at h1
      obtain⟨p,hp1,hp2⟩:=Option.map_eq_some_iff.1 h1
      injection hp2 with e1 e2; subst e1 e2
      obtain⟨q1,q2⟩:=hp j p.1 p.2 i' x hp1 h2
      exact⟨q1,q2.pur⟩
     obtain⟨R,hR,hRv⟩:=ZW (G:=G) _ (parts.map fun p=>(p.1,V.pur p.2)) cparts.toList _ _ _ hrow (O7 hl) (fun j i v i' x h1 h2=>hp' j i v i' x h1 (O7 h2)) hf
     have hcl:cells.length=len*sz:=by rw [Wp _ _ _ _ hf]; simp [uh,hzl]
     obtain⟨hr,hx⟩:=h.newObj [.buf cells] (.cells R e) (len*sz) (.buf (fun v hv=>List.all_eq_true.1 hpc v hv) (by rw [hRv.1]; exact Nat.le_refl _) (fun j v c hvj hc=>hRv.2 j v c hvj hc) (by rw [←hRv.1,hcl]; exact Nat.le_refl _)) (by simp [V.scs,V.sc])
     refine⟨.slice (some ⟨w.heap.size,0,none⟩) len len,w.alloc (.cells R e),_, ?_, ?_,by simp [V.sc,St.push],hr,hx,St.le_push _ _⟩
     ·simp only [Instr.buildSlice,iB,run_underlying hu,iA,xA hi,←hsz]
      rw [if_neg O3]
      have hl0:¬len*sz=0:=by
       intro h0
       rcases Nat.mul_eq_zero.1 h0 with h'|h'<;>omega
      rw [if_neg hl0]
      simp only [iB,vO hi hzz,iA,iC,hR]
      rfl
     ·exact .own hlen0 (by simp [Gh.setVar]) (Nat.le_refl _) (by simp [Gh.setVar])
    ·cases hv
   ·cases hv
  ·cases hv
 ·cases hv
theorem JV:∀(l:List V) (x v:V) (a:Value) (cl:List Value),VR G x a→VRs G l cl.toArray→QV x l=some v →
  ∃c,(cl.foldlM Builtin.min2 a).run P w= .ok c w∧VR G v c∧V.sc st v∨(l= []∧v=x∧cl= [])
 | [],x,v,a,cl,hx,hl,h=>by
  simp only [QV]at h; injection h with h; subst h
  exact⟨a, .inr ⟨rfl,rfl,List.eq_nil_of_length_eq_zero (by simpa using hl.1.symm)⟩⟩
 |y::r,x,v,a,[],hx,hl,h=>absurd hl.1 O2
 | y ::r,x,v,a,c::cr,hx,hl,h=>by
  have hy:=hl.2 0 y c rfl rfl
  simp only [QV]at h
  split at h
  ·rename_i k m k' n
   cases hx; cases hy
   obtain⟨c',hc'⟩:=JV r _ v (.int k (if n<m then n else m)) cr (.int k _) ⟨by simpa using hl.1,fun i v c h1 h2=>hl.2 (i+1) v c (O7 h1) (O7 h2)⟩ h
   have hstep:((Value.int k' n::cr).foldlM Builtin.min2 (.int k m)).run P w=(cr.foldlM Builtin.min2 (.int k (if n<m then n else m))).run P w:=by
    simp only [List.foldlM_cons,Builtin.min2,iB,iC,iA]
   rcases hc' with⟨h1,h2,h3⟩|⟨h1,h2,h3⟩
   ·exact⟨c', .inl ⟨by rw [hstep]; exact h1,h2,h3⟩⟩
   ·subst h1 h2 h3
    exact⟨_, .inl ⟨by rw [hstep]; rfl, .int _ _,by simp [V.sc]⟩⟩
  ·cases h
theorem BM (h:Rel gl w0 G st w) {t:TypeId} {l c v:V} {cl cc:Value} {st':St} (hl:VR G l cl) (hc:VR G c cc) (hv:BR P st (ti P t).d l c=some (v,st')):
  SOK P gl w0 G st w (Instr.makeSlice t cl cc) v st':=by
 unfold BR at hv
 split at hv
 ·rename_i e sz by_ k1 li k2 ci hd
  split at hv
  ·rename_i hh
   obtain⟨h0,h1,h2,h3,hz,hzl,hs0,hpz⟩:=hh
   cases hl; cases hc
   obtain⟨hu,i,hi,hsz,hby⟩:=xM hd
   obtain⟨i',z,hi',hzz,hzv⟩:=dH hz
   rw [hi]at hi'; injection hi' with hi'; subst hi'
   have hz0:VRs G (ti P e).zero.cells z.cells:=by rw [hzv]; exact VRs.of_zero
   have hzs:z.cells.size=sz:=by rw [←V.of_cells_length,←hzv]; exact hzl
   have w1:IntKind.i64.wrap li=li:=IntWalk.i64_in _ O0
   have w2:IntKind.i64.wrap ci=ci:=IntWalk.i64_in _ O0
   have hrow:=YM hz0 ci.toNat
   rw [hzl]at hrow
   have hrl:∀n,(uh n (ti P e).zero.cells).length=n*sz:=by intro n; simp [uh,hzl]
   have hrun:(Instr.makeSlice t (.int k1 li) (.int k2 ci)).run P w= .ok (.slice (some ⟨w.heap.size,0,none⟩) li.toNat ci.toNat) (w.alloc (.cells ((Array.range (ci.toNat*sz)).map (z.cells[· % z.cells.size]!)) e)):=by
    have hb1:¬((i.bytes:Int)*ci>2^48):=by
     have h48:(2:Int)^48=281474976710656:=O1
     rw [←hby,h48]; omega
    have hb2:¬(ci<0):=O0
    have hb3:¬(li<0):=O0
    have hb4:¬(li>ci):=O0
    simp only [Instr.makeSlice,iB,run_underlying hu,iA,asInt,asIntOf,iC,typeInfo,run_program,hi,w1,w2]
    simp only [hb1,hb2,hb3,hb4,decide_false,Bool.or_false,Bool.false_eq_true,if_false,run_askRoom,iA,iB,iC,Bool.or_self,xA hi,←hsz]
    by_cases hc0:ci.toNat*sz=0
    ·have hc1:ci.toNat=0:=by
      rcases Nat.mul_eq_zero.1 hc0 with h'|h'
      ·exact h'
      ·omega
     simp only [hc1,Nat.zero_mul,if_true,iB,iC,iA]
     have he:((Array.range 0).map ((#[]:Array Value)[· % (#[]:Array Value).size]!))=(Array.range 0).map (z.cells[· % z.cells.size]!):=O2
     rw [he]
     rfl
    ·simp only [hc0,if_false,iB,vO hi hzz,iC,iA]
     rfl
   split at hv
   ·rename_i hl0
    subst hl0
    injection hv with hv; injection hv with hv1 hv2; subst hv1 hv2
    obtain⟨hr,hx⟩:=h.newRow (fun _=>none) ((Array.range (ci.toNat*sz)).map (z.cells[· % z.cells.size]!)) e (0,0) (by intro j v hj; cases hj)
    obtain ⟨hr2,hx2⟩:=hr.newFam (p:=0) (b:=w.heap.size) (e:=0) (lim:=ci.toNat*sz) (.inl h.below.size) (YR w _) O2 (by
     intro j _
     show(if w.heap.size=w.heap.size then none else G.imm w.heap.size j)=none
     rw [if_pos rfl]) (fun id cs hid _ hb=>Nat.lt_irrefl _ (h.var_lt (Zo hid) hb)) (by
     intro t' q' e' l' h1 h2
     obtain⟨k2,C2,el2,k3,_⟩:=h.fam t' q' _ _ _ h1 h2
     exact Nat.lt_irrefl _ (qA k3))
    refine⟨_,_,_,hrun, ?_,⟨0,by simp [St.pushFam],Nat.le_refl _⟩,hr2,hx.trans (.refl _) hx2,St.le_pushFam _ _⟩
    exact VR.sl (es:= []) (b:=w.heap.size) (o:=0) (cap:=ci.toNat) (by intro j e he; simp at he) ⟨ci.toNat*sz,by simp [Gh.setTip],O0⟩ (Nat.zero_le _)
   ·rename_i hl0
    injection hv with hv; injection hv with hv1 hv2; subst hv1 hv2
    have hle:li.toNat≤ci.toNat:=O0
    have hm:li.toNat*sz≤ci.toNat*sz:=Nat.mul_le_mul_right _ hle
    obtain ⟨hr,hx⟩:=h.newObj [.buf (uh li.toNat (ti P e).zero.cells)] (.cells ((Array.range (ci.toNat*sz)).map (z.cells[· % z.cells.size]!)) e) (ci.toNat*sz) (.buf (by
      intro v hv
      simp only [uh,List.mem_flatten,List.mem_replicate]at hv
      obtain⟨l,⟨_,rfl⟩,hv⟩:=hv
      exact List.all_eq_true.1 hpz v hv) (by
      rw [hrl]; simpa using hm) (by
      intro j v c hvj hc
      refine hrow.2 j v c ?_ hc
      have hsplit:uh ci.toNat (ti P e).zero.cells=uh li.toNat (ti P e).zero.cells++uh (ci.toNat-li.toNat) (ti P e).zero.cells:=by
       simp only [uh]
       rw [←List.flatten_append,List.replicate_append_replicate]
       congr 2; omega
      rw [hsplit,List.getElem?_append_left (yj hvj)]; exact hvj) O2) (by simp [V.scs,V.sc])
    refine⟨_,_,_,hrun, ?_,by simp [V.sc,St.push],hr,hx,St.le_push _ _⟩
    exact .own O0 (by simp [Gh.setVar]) hle (by simp [Gh.setVar])
  ·cases hv
 ·cases hv
theorem VW (l:List MapEntry):(l.flatMap fun e=> [e.key,e.val]).length=2*l.length:=by
 induction l with
 |nil=>rfl
 |cons a r ih=>simp only [List.flatMap_cons,List.length_append,ih,List.length_cons,List.length_nil]; omega
inductive EV (G:Gh):List V→List MapEntry→Prop
 |nil:EV G [] []
 |cons {k x:V} {r:List V} {e:MapEntry} {er:List MapEntry}:VR G k e.key→VR G x e.val→EV G r er→EV G (k::x::r) (e::er)
theorem EV.ofVRs:∀ {es:List V} {l:List MapEntry},VRs G es (l.flatMap fun e=> [e.key,e.val]).toArray→EV G es l
 | [],[],_=> .nil
 | [],e::er,h=>by have:=h.1; simp at this
 | [k],[],h=>by have:=h.1; simp at this
 | [k],e::er,h=>by have:=h.1; simp [VW]at this
 |k::x::r,[],h=>by have:=h.1; simp at this
 | k::x::r,e::er,h=>by
  refine .cons (h.2 0 k e.key rfl rfl) (h.2 1 x e.val rfl rfl) (EV.ofVRs ⟨?_, ?_⟩)
  ·have:=h.1; simpa using this
  ·intro i v c hv hc
   exact h.2 (i+2) v c (O7 hv) (O7 hc)
theorem EV.toVRs {es:List V} {l:List MapEntry} (h:EV G es l):VRs G es (l.flatMap fun e=> [e.key,e.val]).toArray:=by
 induction h with
 |nil=>exact⟨rfl,O2⟩
 | @cons k x r e er hk hx _ ih=>
  refine⟨by have:=ih.1; simpa using this, ?_⟩
  intro i v c hv hc
  match i with
  |0=>simp at hv hc; subst hv hc; exact hk
  |1=>simp at hv hc; subst hv hc; exact hx
  |i+2=>exact ih.2 i v c (O7 hv) (O7 hc)
theorem DY {a b:ByteArray}:(a.data.toList=b.data.toList)↔a=b:=by
 constructor
 ·intro h
  obtain⟨a⟩:=a; obtain⟨b⟩:=b
  obtain⟨a⟩:=a; obtain⟨b⟩:=b
  simp at h; subst h; rfl
 ·rintro rfl; rfl
theorem VQ (a b:ByteArray):(a==b)=decide (a=b):=by
 obtain⟨⟨a⟩⟩:=a; obtain⟨⟨b⟩⟩:=b
 rw [Bool.eq_iff_iff,decide_eq_true_iff]
 constructor
 ·intro h
  have h':(⟨a⟩:Array UInt8)==⟨b⟩:=h
  have:=eq_of_beq h'
  rw [this]
 ·intro h
  rw [h]
  show((⟨b⟩:Array UInt8)==⟨b⟩)=true
  exact beq_self_eq_true _
theorem VZ {b:ByteArray} {v:V} {cv:Value} (hvv:VR G v cv) (clk:Nat):∀ {es es':List V} {l:List MapEntry} (k:Nat),EV G es l→Xn (.str b.data.toList) v es=some es' →
  (Instr.findNow .string (.string b) l k=some none∧EV G es' (l ++ [{key:= .string b,val:=cv,born:=clk}])) ∨
  (∃(j:Nat) (x:Value) (old:MapEntry),Instr.findNow .string (.string b) l k=some (some (k+j,x))∧l[j]? =some old∧old.key= .string b∧EV G es' (l.modify j fun e=> {e with key:= .string b,val:=cv}))
 | _,es',_,k, .nil,h=>by
  simp only [Xn]at h; injection h with h; subst h
  exact .inl ⟨rfl, .cons (.str b) hvv .nil⟩
 | _, es',_,k, .cons (k:=kv) (x:=xv) (r:=r) (e:=e) (er:=er) hk hx hr,h=>by
  obtain⟨ek,ev,eb⟩:=e
  simp only at hk
  cases hk<;>simp only [Xn]at h<;>try (cases h; done)
  rename_i a
  by_cases hab:b=a
  ·subst hab
   rw [if_pos rfl]at h
   injection h with h; subst h
   refine .inr ⟨0,ev,⟨.string b,ev,eb⟩,by simp [Instr.findNow,Instr.sameNow,VQ],rfl,rfl, ?_⟩
   exact .cons (.str b) hvv hr
  ·rw [if_neg (fun h'=>hab (DY.1 h'))]at h
   split at h
   ·rename_i r' hr'
    injection h with h; subst h
    have hf:∀k,Instr.findNow .string (.string b) ({key:= .string a,val:=ev,born:=eb}::er) k=Instr.findNow .string (.string b) er (k+1):=by
     intro k
     have:(b==a)=false:=by rw [VQ]; simpa using hab
     simp [Instr.findNow,Instr.sameNow,this]
    rcases VZ hvv clk (k+1) hr hr' with⟨g1,g2⟩|⟨j,x,old,g1,g2,g3,g4⟩
    ·exact .inl ⟨by rw [hf]; exact g1, .cons (.str a) hx g2⟩
    ·refine .inr ⟨j+1,x,old, ?_,by simpa using g2,g3, ?_⟩
     ·rw [hf,g1]; congr 3; omega
     ·exact .cons (.str a) hx g4
   ·cases h
theorem VD {b:List UInt8} {v:V} (hv:V.pure v=true):∀ {es es':List V},(∀u∈es,V.pure u=true)→Xn (.str b) v es=some es'→∀u∈es',V.pure u=true
 | [],es',_,h=>by simp only [Xn]at h; injection h with h; subst h; intro u hu; simp at hu; rcases hu with rfl|rfl; rfl; exact hv
 | [x],es',_,h=>by cases x<;>simp [Xn]at h
 | k ::x::r,es',hs,h=>by
  cases k<;>simp only [Xn]at h<;>try (cases h; done)
  split at h
  ·injection h with h; subst h
   intro u hu
   simp only [List.mem_cons]at hu
   rcases hu with rfl|rfl|hu
   ·rfl
   ·exact hv
   ·exact hs u (by simp [hu])
  ·split at h
   ·rename_i r' hr'
    injection h with h; subst h
    have ih:=VD hv (fun u hu=>hs u (by simp [hu])) hr'
    intro u hu
    simp only [List.mem_cons]at hu
    rcases hu with rfl|rfl|hu
    ·rfl
    ·exact hs u O2
    ·exact ih u hu
   ·cases h
theorem Xu {b:ByteArray}:∀ {es:List V} {l:List MapEntry} {r:Option V} (k:Nat),EV G es l→UL b.data.toList es=some r →
  (r=none∧Instr.findNow .string (.string b) l k=some none)∨(∃(j:Nat) (x:Value) (v:V),r=some v∧Instr.findNow .string (.string b) l k=some (some (j,x))∧VR G v x∧v∈es)
 |_,_,r,k, .nil,h=>by simp only [UL]at h; injection h with h; subst h; exact .inl ⟨rfl,rfl⟩
 | _,_,r,k, .cons (k:=kv) (x:=xv) (r:=rr) (e:=e) (er:=er) hk hx hr,h=>by
  obtain⟨ek,ev,eb⟩:=e
  simp only at hk
  cases hk<;>simp only [UL]at h<;>try (cases h; done)
  rename_i a
  by_cases hab:b=a
  ·subst hab
   rw [if_pos rfl]at h
   injection h with h; subst h
   exact .inr ⟨k,ev,xv,rfl,by simp [Instr.findNow,Instr.sameNow,VQ],hx,O2⟩
  ·rw [if_neg (fun h'=>hab (DY.1 h'))]at h
   have hf:∀k,Instr.findNow .string (.string b) ({key:= .string a,val:=ev,born:=eb}::er) k=Instr.findNow .string (.string b) er (k+1):=by
    intro k
    have:(b==a)=false:=by rw [VQ]; simpa using hab
    simp [Instr.findNow,Instr.sameNow,this]
   rcases Xu (k+1) hr h with⟨g1,g2⟩|⟨j,x,v,g1,g2,g3,g4⟩
   ·exact .inl ⟨g1,by rw [hf]; exact g2⟩
   ·exact .inr ⟨j,x,v,g1,by rw [hf]; exact g2,g3,by simp [g4]⟩
theorem Kr {t k e:TypeId} (h:(ti P t).d= .map k e):P.underlying t=some (.map k e):=by
 obtain⟨d,hd,h2⟩:=Ju h O2
 rw [hd]
 cases d with
 |map a b=>simp only [tiD]at h2; injection h2 with h3 h4; rw [h3,h4]
 |slice e=>simp only [tiD]at h2; split at h2<;>cases h2
 |array n e=>simp only [tiD]at h2; split at h2<;>cases h2
 |struct fs=>simp only [tiD]at h2; split at h2<;>cases h2
 |_=>simp [tiD]at h2
theorem Rel.mapOf (h:Rel gl w0 G st w) {id b:Nat} {es:List V} (hcs:st.vars[id]? =some [.mp es]) (hb:G.var id=some b):
  ∃ent clk,w.heap[b]? =some (.map ent clk)∧EV G es ent.toList∧∀v∈es,V.pure v=true:=by
 obtain⟨b',o,h1,h2,h3,h4,h5⟩:=h.vars id _ hcs rfl
 rw [hb]at h1; injection h1 with h1; subst h1
 cases h4 with
 | cells k1 k2 k3=>
  rename_i C el
  exfalso
  have:0<C.size:=by have:=k1; simp at this; omega
  have:=k2 0 (.mp es) C[0] rfl (by simp [this])
  cases this
 |mp h0 hv=>exact⟨_,_,h3,EV.ofVRs hv,h0⟩
theorem bm {b:Nat} {ent:Array MapEntry} {clk:Nat} (h:w.heap[b]? =some (.map ent clk)):(getObj b).run P w= .ok (.map ent clk) w:=by
 unfold getObj
 simp only [Sem.run,h]
theorem Y0 {b:Nat} {s:ByteArray} {pos:Nat} (h:w.heap[b]? =some (.stringIter s pos)):(getObj b).run P w= .ok (.stringIter s pos) w:=by
 unfold getObj
 simp only [Sem.run,h]
theorem KH (w:World) {b:Nat} {o:Obj} (o':Obj) (h:w.heap[b]? =some o) (hk:(∃e c,o= .map e c)∨∃s p,o= .stringIter s p):∃w',(setObj b o').run P w= .ok () w'∧Chg w w' b o':=by
 have hlt:=qA h
 refine⟨{w with heap:=w.heap.setIfInBounds b o'}, ?_,⟨rfl,rfl,rfl,O2,by simp [hlt],fun k hk=>by simp [Array.getElem?_setIfInBounds,Ne.symm hk]⟩⟩
 unfold setObj
 rcases hk with⟨e,c,rfl⟩|⟨s,p,rfl⟩<;>simp only [Sem.run,h]
theorem ZX {kt:TypeId} (hu:P.underlying kt=some .string) (em:Bool) (s:ByteArray):(Instr.checkKey em 10000 kt (.string s)).run P w= .ok () w:=by
 have:∀n,(Instr.checkKey em (n+1) kt (.string s)).run P w= .ok () w:=by
  intro n
  simp only [Instr.checkKey,iB,run_underlying hu,iA,iC]
 exact this 9999
theorem YV (s:ByteArray):(Instr.keyThatStays (.string s) (.string s)).run P w= .ok (.string s) w:=by
 have:Instr.sameBits 10000 (.string s) (.string s)=true:=by
  have:∀n,Instr.sameBits (n+1) (.string s) (.string s)=true:=by
   intro n
   simp only [Instr.sameBits]
   exact(VQ s s).trans O2
  exact this 9999
 simp only [Instr.keyThatStays,this,if_true,iC]
theorem U0 (h:Rel gl w0 G st w) {t:TypeId}:SOK P gl w0 G st w (Instr.makeMap t none) (.mapv st.vars.length) (st.push [.mp []]):=by
 obtain⟨hr,hx⟩:=h.newObj [.mp []] (.map #[] 0) 0 (.mp O2 ⟨rfl,by simp [GD]⟩) (by simp [V.scs,V.sc])
 exact⟨.map (some w.heap.size),_,_,rfl, .mapv (by simp [Gh.setVar]),by simp [V.sc,St.push],hr,hx,St.le_push _ _⟩
theorem Uj (h:Rel gl w0 G st w) {t:TypeId} {m k v:V} {cm ck cv:Value} (hm:VR G m cm) (hk:VR G k ck) (hvv:VR G v cv) (hsv:V.sc st v) {st':St} (hv:XD P st (ti P t).d m k v=some st'):
  ∃w',(Instr.mapUpdate t cm ck cv).run P w= .ok () w'∧Rel gl w0 G st' w'∧st.le st':=by
 unfold XD at hv
 split at hv
 ·rename_i kt et id b hd
  split at hv
  ·rename_i hkt
   obtain⟨hkt,hpv⟩:=hkt
   split at hv
   ·rename_i es hcs
    split at hv
    ·rename_i es' hput
     injection hv with hv; subst hv
     cases hm with
     | mapv hb=>
      rename_i bl
      cases hk
      rename_i s
      obtain⟨ent,clk,hheap,hev,hpu⟩:=h.mapOf hcs hb
      have hu:=Kr hd
      have huk:=br hkt
      have hpu':=VD hpv hpu hput
      have fin:∀(ent':Array MapEntry) (clk':Nat),EV G es' ent'.toList→(Instr.mapUpdate t (.map (some bl)) (.string s) cv).run P w=(setObj bl (.map ent' clk')).run P w →
        ∃w',(Instr.mapUpdate t (.map (some bl)) (.string s) cv).run P w= .ok () w'∧Rel gl w0 G (st.put id [.mp es']) w'∧st.le (st.put id [.mp es']):=by
       intro ent' clk' hev' hrun
       obtain⟨w',g1,g2⟩:=KH (P:=P) w (.map ent' clk') hheap (.inl ⟨_,_,rfl⟩)
       exact⟨w',by rw [hrun]; exact g1,h.storeO hcs rfl hb g2 (.mp hpu' hev'.toVRs) (by simp [V.scs,V.sc]),St.le_put _ _ _⟩
      have hck:=ZX (P:=P) (w:=w) huk false s
      rcases VZ (G:=G) hvv clk 0 hev hput with⟨g1,g2⟩|⟨j,x,old,g1,g2,g3,g4⟩
      ·refine fin (ent.push {key:= .string s,val:=cv,born:=clk}) (clk+1) (O7 g2) ?_
       simp only [Instr.mapUpdate,iB,run_underlying hu,iA,bm hheap,hck,Instr.findKey,run_underlying huk,g1,iC]
      ·refine fin (ent.modify j fun e=> {e with key:= .string s,val:=cv}) clk (O7 g4) ?_
       have hold:(((ent[j]?).map (·.key)).getD (.string s))= .string s:=by
        rw [←Array.getElem?_toList,g2]; simp [g3]
       simp only [Instr.mapUpdate,iB,run_underlying hu,iA,bm hheap,hck,Instr.findKey,run_underlying huk,g1,iC,Nat.zero_add,hold,YV]
    ·cases hv
   ·cases hv
  ·cases hv
 ·cases hv
theorem Qz (h:Rel gl w0 G st w) {t:TypeId} {m k v:V} {cm ck:Value} {ok:Bool} (hm:VR G m cm) (hk:VR G k ck) (hv:Jd P st (ti P t).d m k ok=some v):
  SOK P gl w0 G st w (Instr.lookup t cm ck ok) v st:=by
 unfold Jd at hv
 split at hv
 ·rename_i kt et id b hd
  split at hv
  ·rename_i hc
   obtain⟨hkt,hz⟩:=hc
   obtain⟨i,z,hi,hzz,hzv⟩:=dH hz
   split at hv
   ·rename_i es hcs
    cases hm with
    | mapv hb=>
     rename_i bl
     cases hk
     rename_i s
     obtain⟨ent,clk,hheap,hev,hpu⟩:=h.mapOf hcs hb
     have hu:=Kr hd
     have huk:=br hkt
     have hck:=ZX (P:=P) (w:=w) huk ent.isEmpty s
     split at hv
     ·rename_i x hg
      injection hv with hv; subst hv
      rcases Xu (G:=G) 0 hev hg with⟨g1,_⟩|⟨j,c,u,g1,g2,g3,g4⟩
      ·cases g1
      ·injection g1 with g1; subst g1
       have hsx:=V.sc_of_pure st x (hpu x g4)
       refine SOK.same h (c:=if ok then .tuple #[c, .bool true]else c) ?_ ?_ ?_
       ·simp only [Instr.lookup,iB,run_underlying hu,iA,bm hheap,iC,hck,Instr.findKey,run_underlying huk,g2]
       ·cases ok
        ·exact g3
        ·refine .tuple rfl ?_
         intro i v c hv hc
         match i with
         |0=>simp at hv hc; subst hv hc; exact g3
         |1=>simp at hv hc; subst hv hc; exact .bool _
         |i+2=>simp at hv
       ·cases ok
        ·exact hsx
        ·simp [V.sc,V.scs]; exact hsx
     ·rename_i hg
      injection hv with hv; subst hv
      rcases Xu (G:=G) 0 hev hg with⟨_,g2⟩|⟨j,c,u,g1,_⟩
      ·have hzr:VR G (ti P et).zero z:=by rw [hzv]; exact VR.of G z
       have hzs:V.sc st (ti P et).zero:=by rw [hzv]; exact V.sc_of_pure st _ (V.pure_of z)
       refine SOK.same h (c:=if ok then .tuple #[z, .bool false]else z) ?_ ?_ ?_
       ·simp only [Instr.lookup,iB,run_underlying hu,iA,bm hheap,iC,hck,Instr.findKey,run_underlying huk,g2,vO hi hzz]
       ·cases ok
        ·exact hzr
        ·refine .tuple rfl ?_
         intro i v c hv hc
         match i with
         |0=>simp at hv hc; subst hv hc; exact hzr
         |1=>simp at hv hc; subst hv hc; exact .bool _
         |i+2=>simp at hv
       ·cases ok
        ·exact hzs
        ·simp [V.sc,V.scs]; exact hzs
      ·cases g1
     ·cases hv
   ·cases hv
  ·cases hv
 ·cases hv
theorem Kg (h:Rel gl w0 G st w) {t:TypeId} {s:List UInt8} {c:Value} (hd:(ti P t).d= .str) (hx:VR G (.str s) c):
  SOK P gl w0 G st w (Instr.range t c) (.iter st.vars.length) (st.push [.sit s 0]):=by
 cases hx
 rename_i s'
 obtain⟨hr,hx⟩:=h.newObj [.sit s'.data.toList 0] (.stringIter s' 0) 0 (.sit s' 0) (by simp [V.scs,V.sc])
 refine⟨.pointer (some ⟨w.heap.size,0,none⟩),_,_, ?_, .iter (by simp [Gh.setVar]),by simp [V.sc,St.push],hr,hx,St.le_push _ _⟩
 simp only [Instr.range,iB,run_underlying (br hd),iA,iC]
 rfl
theorem Rel.sitOf (h:Rel gl w0 G st w) {id b:Nat} {s:List UInt8} {pos:Nat} (hcs:st.vars[id]? =some [.sit s pos]) (hb:G.var id=some b):
  ∃s':ByteArray,s=s'.data.toList∧w.heap[b]? =some (.stringIter s' pos):=by
 obtain⟨b',o,h1,h2,h3,h4,h5⟩:=h.vars id _ hcs rfl
 rw [hb]at h1; injection h1 with h1; subst h1
 cases h4 with
 | cells k1 k2 k3=>
  rename_i C el
  exfalso
  have:0<C.size:=by have:=k1; simp at this; omega
  have:=k2 0 (.sit s pos) C[0] rfl (by simp [this])
  cases this
 |sit s' pos=>exact⟨s',rfl,h3⟩
theorem Bo (h:Rel gl w0 G st w) {t:TypeId} {it v:V} {c:Value} {st':St} (hx:VR G it c) (hv:W3 st it=some (v,st')):
  SOK P gl w0 G st w (Instr.next c true t) v st':=by
 unfold W3 at hv
 split at hv
 ·rename_i id
  split at hv
  ·rename_i s pos hcs
   cases hx with
   | iter hb=>
    rename_i b
    obtain⟨s',rfl,hheap⟩:=h.sitOf hcs hb
    have hba:(⟨s'.data.toList.toArray⟩:ByteArray)=s':=by obtain⟨⟨l⟩⟩:=s'; rfl
    rw [hba]at hv
    split at hv
    ·rename_i hlt
     injection hv with hv; injection hv with hv1 hv2; subst hv1 hv2
     obtain⟨w',g1,g2⟩:=KH (P:=P) w (.stringIter s' (pos+(Utf8.decode s' pos).2)) hheap (.inr ⟨_,_,rfl⟩)
     have hr:=h.storeO (cells:= [.sit s'.data.toList (pos+(Utf8.decode s' pos).2)]) hcs rfl hb g2 (.sit s' _) (by simp [V.scs,V.sc])
     refine⟨.tuple #[.bool true,goInt pos, .int .i32 (Utf8.decode s' pos).1],w',G, ?_, ?_,by simp [V.sc,V.scs],hr, .refl _ _,St.le_put _ _ _⟩
     ·have hlt':pos<s'.size:=by simpa using hlt
      simp only [Instr.next,iB,Y0 hheap,iA,hlt',if_true,g1,iC]
     ·refine .tuple rfl ?_
      intro i v c hv hc
      match i with
      |0=>simp at hv hc; subst hv hc; exact .bool _
      |1=>simp at hv hc; subst hv hc; exact .int _ _
      |2=>simp at hv hc; subst hv hc; exact .int _ _
      |i+3=>simp at hv
    ·rename_i hlt
     injection hv with hv; injection hv with hv1 hv2; subst hv1 hv2
     refine SOK.same h (c:= .tuple #[.bool false]) ?_ ?_ (by simp [V.sc,V.scs])
     ·have hlt':¬pos<s'.size:=by simpa using hlt
      simp only [Instr.next,iB,Y0 hheap,iA,hlt',if_false,iC]
     ·refine .tuple rfl ?_
      intro i v c hv hc
      match i with
      |0=>simp at hv hc; subst hv hc; exact .bool _
      |i+1=>simp at hv
  ·cases hv
 ·cases hv
theorem UB {d:TypeDesc} (h:tiD P (some d)= .iface):∃ms,d= .interface ms:=by
 cases d<;>simp only [tiD]at h<;>first|exact⟨_,rfl⟩|(cases h; done)|(split at h<;>cases h)
theorem Vd (n:Nat) {t:TypeId} {ms:Array (String×TypeId)} (hd:P.underlying t=some (.interface ms)) (w:World):(Op.equalIn (n+1) t .nilIface .nilIface).run P w= .ok true w:=by
 simp only [Op.equalIn,iB,run_underlying hd,iA,iC]
theorem Vj (n:Nat) {t:TypeId} {ms:Array (String×TypeId)} (hd:P.underlying t=some (.interface ms)) (u:TypeId) (c:Value) (w:World):(Op.equalIn (n+1) t (.iface u c) .nilIface).run P w= .ok false w:=by
 simp only [Op.equalIn,iB,run_underlying hd,iA,iC]
theorem BI (op:BinOp) {t:TypeId} {x v:V} {y:Operand} {a b:Value} (hx:VR G x a) (h:KK op (ti P t).d x y=some v) (ox:Operand) (hb:y= .const .nilIface→b= .nilIface):
  ∃c,(do eqGuard op t ox y a b; binOp op t a b).run P w= .ok c w∧VR G v c∧V.sc st v:=by
 unfold KK at h
 split at h
 ·rename_i hd
  obtain⟨d,hu,htd⟩:=Ju hd O2
  obtain⟨ms,rfl⟩:=UB htd
  cases hx
  have hb:=hb rfl
  subst hb
  have hg:(eqGuard op t ox (.const .nilIface) .nilIface .nilIface).run P w= .ok () w:=by
   cases op<;>simp [eqGuard]
  have key:∀op,op=BinOp.eql∨op= .neq→(binOp op t .nilIface .nilIface).run P w= .ok (.bool (if op= .eql then true else !true)) w:=fun op ho=>
   kr ho (fun w=>Vd 9999 hu w) ⟨rfl,rfl⟩
  split at h
  ·injection h with h; subst h
   exact⟨_,by simp only [iB,hg,iA]; exact key _ (.inl rfl), .bool _,by simp [V.sc]⟩
  ·injection h with h; subst h
   exact⟨_,by simp only [iB,hg,iA]; exact key _ (.inr rfl), .bool _,by simp [V.sc]⟩
  ·cases h
 ·rename_i u v' hd
  obtain⟨d,hu,htd⟩:=Ju hd O2
  obtain⟨ms,rfl⟩:=UB htd
  cases hx with
  | iface hx'=>
   rename_i cu
   have hb:=hb rfl
   subst hb
   have hg:(eqGuard op t ox (.const .nilIface) (.iface u cu) .nilIface).run P w= .ok () w:=Zs ⟨O2,O2⟩
   have key:∀op,op=BinOp.eql∨op= .neq→(binOp op t (.iface u cu) .nilIface).run P w= .ok (.bool (if op= .eql then false else !false)) w:=fun op ho=>
    kr ho (fun w=>Vj 9999 hu u cu w) ⟨rfl,rfl⟩
   split at h
   ·injection h with h; subst h
    exact⟨_,by simp only [iB,hg,iA]; exact key _ (.inl rfl), .bool _,by simp [V.sc]⟩
   ·injection h with h; subst h
    exact⟨_,by simp only [iB,hg,iA]; exact key _ (.inr rfl), .bool _,by simp [V.sc]⟩
   ·cases h
 ·cases h
theorem JQ (h:Rel gl w0 G st w) {x v:V} {c:Value} {xt t:TypeId} {ok:Bool} (hx:VR G x c) (hs:V.sc st x) (e:UT P x t ok=some v):SOK P gl w0 G st w (Instr.typeAssert c xt t ok) v st:=by
 unfold UT at e
 split at e
 ·rename_i hc
  obtain⟨hok,hni,hno⟩:=hc
  obtain⟨d,hu,htd⟩:=Ju (P:=P) (t:=t) rfl hno
  have hd:∀ms,d≠ .interface ms:=fun ms hh=>by subst hh; rw [←htd]at hni; simp [tiD]at hni
  have pair:∀ {u:V} {cu:Value} (b:Bool),VR G u cu→VR G (.tuple [u, .bool b]) (.tuple #[cu, .bool b]):=fun b hu=>by
   refine .tuple rfl ?_
   intro i v c hv hc
   match i with
   |0=>simp at hv hc; subst hv hc; exact hu
   |1=>simp at hv hc; subst hv hc; exact .bool _
   |i+2=>simp at hv
  have miss:ok=true→(ti P t).zok=true→∀ {cc:Value},cc= .nilIface∨(∃t' x,cc= .iface t' x∧t'≠t)→SOK P gl w0 G st w (Instr.typeAssert cc xt t ok) (.tuple [(ti P t).zero, .bool false]) st:=by
   intro h1 h2 cc hcc
   obtain⟨i,z,hi,hzz,hzv⟩:=dH h2
   have hzr:VR G (ti P t).zero z:=by rw [hzv]; exact VR.of G z
   have hzs:V.sc st (ti P t).zero:=by rw [hzv]; exact V.sc_of_pure st _ (V.pure_of z)
   refine SOK.same h (c:= .tuple #[z, .bool false]) ?_ (pair false hzr) (by simp [V.sc,V.scs]; exact hzs)
   rcases hcc with rfl|⟨t',x,rfl,hne⟩
   ·cases d<;>first|(exact absurd rfl (hd _))|simp [Instr.typeAssert,run_underlying hu,h1,vO hi hzz]
   ·cases d<;>first|(exact absurd rfl (hd _))|simp [Instr.typeAssert,run_underlying hu,h1,vO hi hzz,hne]
  split at e
  ·rename_i u v'
   cases hx with
   | iface hx'=>
    rename_i cu
    split at e
    ·rename_i ht
     subst ht
     injection e with e; subst e
     have hs':V.sc st v':=by simpa [V.sc] using hs
     refine SOK.same h (c:=if ok=true then .tuple #[cu, .bool true]else cu) ?_ ?_ ?_
     ·cases d<;>first|(exact absurd rfl (hd _))|simp [Instr.typeAssert,run_underlying hu]
     ·cases ok
      ·exact hx'
      ·exact pair true hx'
     ·cases ok
      ·exact hs'
      ·simp [V.sc,V.scs]; exact hs'
    ·rename_i ht
     split at e
     ·rename_i hcc
      injection e with e; subst e
      exact miss hcc.1 hcc.2 (.inr ⟨u,cu,rfl,ht⟩)
     ·cases e
  ·cases hx
   split at e
   ·rename_i hcc
    injection e with e; subst e
    exact miss hcc.1 hcc.2 (.inl rfl)
   ·cases e
  ·cases e
 ·cases e
theorem JU (h:Rel gl w0 G st w) {t ty:TypeId} {kt et:TypeId} {id:Nat} {es:List V} {c:Value} (hd:(ti P t).d= .map kt et) (hcs:st.vars[id]? =some [.mp es]) (hx:VR G (.mapv id) c):
  (Builtin.len_ #[t] ty #[c]).run P w= .ok (goInt (es.length/2:Nat)) w:=by
 cases hx with
 | mapv hb=>
  rename_i b
  obtain⟨ent,clk,hheap,hev,hpu⟩:=h.mapOf hcs hb
  have hl:es.length/2=ent.size:=by
   have:=hev.toVRs.1
   simp only [List.size_toArray,VW,Array.length_toList]at this
   omega
  rw [hl]
  simp [Builtin.len_,run_underlying (Kr hd),bm hheap]
end
end Go.Abs
end
