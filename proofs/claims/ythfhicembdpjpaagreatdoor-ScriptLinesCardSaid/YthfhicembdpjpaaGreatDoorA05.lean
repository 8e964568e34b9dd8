/- Abstract values: a part. No condition beyond each statement's own. -/
import Derived.Test.YthfhicembdpjpaaGreatDoorA04
set_option linter.all false
section
namespace Go.Abs
open Go.RowKit (Below)
def SOK (P:Program) (gl:Nat→List V) (w0:qQ) (G:Gh) (st:St) (w:World) (s:Sem Value) (v:V) (st':St):Prop:=
 ∃c w' G',s.run P w= .ok c w'∧VR G' v c∧V.sc st' v∧Rel gl w0 G' st' w'∧Ext st G G'∧st.le st'
section
variable {P:Program} {gl:Nat→List V} {w0:qQ} {G:Gh} {st:St} {w:World}
theorem SOK.same (h:Rel gl w0 G st w) {s:Sem Value} {v:V} {c:Value} (hr:s.run P w= .ok c w) (hv:VR G v c) (hs:V.sc st v):SOK P gl w0 G st w s v st:=
 ⟨c,w,G,hr,hv,hs,h, .refl _ _, .refl _⟩
theorem j6 (b o k:Nat):(⟨b,o,none⟩:Addr).add k=⟨b,o+k,none⟩:=by
 unfold Addr.add; split
 ·rename_i h; subst h; rfl
 ·rfl
theorem KE {t:TypeId} (h:(ti P t).ok=true):∃i d,P.info? t=some i∧P.underlying t=some d∧(ti P t).sz=i.size∧(ti P t).d=tiD P (some d):=by
 simp only [ti,iE,Option.isSome_iff_exists]at h
 obtain⟨⟨i,hi⟩,d,hd⟩:=h
 exact⟨i,d,hi,hd,by simp [ti,Program.cellsOf,hi],by simp [ti,hd]⟩
theorem xA {t:TypeId} {i:TypeInfo} (h:P.info? t=some i) (w:World):(sizeOf t).run P w= .ok i.size w:=by
 simp [sizeOf,typeInfo,h]
def W0:TypeDesc→Bool
 | .struct _| .array _ _=>true
 |_=>false
theorem Xf {t:TypeId} {d:TypeDesc} (h:P.underlying t=some d) (w:World):(isAgg t).run P w= .ok (W0 d) w:=by
 simp only [isAgg,iB,run_underlying h,iA]
 cases d<;>rfl
theorem JM {d:TypeDesc} (h:tiD P (some d)≠ .other):(tiD P (some d)).agg=W0 d:=by
 cases d with
 |slice e=>simp only [tiD]at *; split at h<;>simp_all [TD.agg,W0]
 |array n e=>simp only [tiD]at *; split at h<;>simp_all [TD.agg,W0]
 | struct fs=>
  simp only [tiD]at *
  split at h
  ·rename_i hh; rw [if_pos hh]; rfl
  ·exact absurd rfl h
 |_=>rfl
theorem Js (w:World) (b o:Nat) (t:TypeId) (cells:List V) (off n:Nat) (v:V) (i:TypeInfo) (d:TypeDesc) (hi:P.info? t=some i) (hd:P.underlying t=some d) (hn:n=i.size)
  (hag:(ti P t).d≠ .other)
  (hc:∀(j:Nat) (u:V),cells[j]? =some u→∃c,w.cell? ⟨b,o+j,none⟩=some c∧VR G u c)
  (h:rd cells off n (ti P t).d.agg=some v):∃c,(loadVar t ⟨b,o+off,none⟩).run P w= .ok c w∧VR G v c∧(∀q:St,V.scs q cells→V.sc q v):=by
 have hda:(ti P t).d.agg=W0 d:=by
  have:(ti P t).d=tiD P (some d):=by simp [ti,hd]
  rw [this]at hag ⊢
  exact JM hag
 simp only [rd]at h
 simp only [loadVar,iB,Xf hd,iA]
 rw [←hda]
 by_cases ha:(ti P t).d.agg=true
 ·simp only [ha,if_true]at h ⊢
  split at h
  ·rename_i hl
   injection h with h; subst h
   have hcs:∀j,j<n→∃c u,w.cell? ⟨b,o+(off+j),none⟩=some c∧cells[off+j]? =some u∧VR G u c:=by
    intro j hj
    have hlt:off+j<cells.length:=by
     simp only [List.length_take,List.length_drop]at hl; omega
    obtain⟨c,h1,h2⟩:=hc (off+j) _ (List.getElem?_eq_getElem hlt)
    exact⟨c,_,h1,List.getElem?_eq_getElem hlt,h2⟩
   have hcell:∀j,j<n→w.cell? ((⟨b,o+off,none⟩:Addr).add j)=some ((w.cell? ⟨b,o+(off+j),none⟩).getD undef):=by
    intro j hj
    obtain⟨c,u,h1,_⟩:=hcs j hj
    rw [j6,Nat.add_assoc,h1]; rfl
   have hl2:=run_loadCells (P:=P) w ⟨b,o+off,none⟩ n (fun j=>(w.cell? ⟨b,o+(off+j),none⟩).getD undef) hcell
   refine⟨.agg ((List.range n).map fun j=>(w.cell? ⟨b,o+(off+j),none⟩).getD undef).toArray, ?_, ?_, ?_⟩
   ·simp only [iB,xA hi,iA,←hn,hl2,iC]
   ·refine .agg (O7 hl) ?_
    intro j u x hu hx
    have hj:j<n:=by
     rcases Nat.lt_or_ge j n with h'|h'
     ·exact h'
     ·rw [List.getElem?_eq_none O0]at hu; cases hu
    obtain⟨c,u',h1,h2,h3⟩:=hcs j hj
    simp only [List.getElem?_toArray,List.getElem?_map,List.getElem?_range hj,Option.map_some,h1,Option.getD_some]at hx
    injection hx with hx; subst hx
    rw [List.getElem?_take,if_pos hj,List.getElem?_drop,h2]at hu
    injection hu with hu; subst hu
    exact h3
   ·intro q hq
    simp only [V.sc,V.scs_iff]at hq ⊢
    intro u hu
    exact hq u (List.mem_of_mem_drop (List.mem_of_mem_take hu))
  ·cases h
 ·have ha':(ti P t).d.agg=false:=by simpa using ha
  simp only [ha',if_false,Bool.false_eq_true]at h ⊢
  obtain⟨c,h1,h2⟩:=hc off v h
  refine⟨c, ?_,h2, ?_⟩
  ·rw [run_load,h1]
  ·intro q hq
   exact(V.scs_iff q _).1 hq v (List.mem_of_getElem? h)
theorem V.live_ne {cells:List V} (h:V.live cells=true):V.gone cells=false:=by
 unfold V.live at h
 unfold V.gone
 split at h<;>first|(cases h; done)|skip
 split<;>simp_all
theorem V.live_plain {cells:List V} (h:V.live cells=true):V.plain cells=true:=by
 match cells,h with
 | [v],h=>cases v<;>first|rfl|cases h
 |_::_::_,_=>simp [V.plain]
theorem Rel.live (h:Rel gl w0 G st w) {id b:Nat} {cells:List V} (hcs:st.vars[id]? =some cells) (hl:V.live cells=true) (hb:G.var id=some b):
  ∃C el,w0.mine b∧w.heap[b]? =some (.cells C el (0,0))∧cells.length≤C.size∧(∀(i:Nat) (v:V) (c:Value),cells[i]? =some v→C[i]? =some c→VR G v c)∧G.room id≤C.size:=by
 obtain⟨b',o,h1,h2,h3,h4,h5⟩:=h.vars id cells hcs (V.live_ne hl)
 rw [hb]at h1; injection h1 with h1; subst h1
 obtain⟨C,el,rfl,k1,k2,k3⟩:=h4.plain (V.live_plain hl)
 exact⟨C,el,h2,h3,k1,k2,k3⟩
theorem Rel.bufOf (h:Rel gl w0 G st w) {id b:Nat} {cs:List V} (hcs:st.vars[id]? =some [.buf cs]) (hl:0<cs.length) (hb:G.var id=some b):
  ∃C el,w0.mine b∧w.heap[b]? =some (.cells C el (0,0))∧(∀v∈cs,V.pcell v=true)∧cs.length≤C.size∧(∀(i:Nat) (v:V) (c:Value),cs[i]? =some v→C[i]? =some c→VR G v c)∧G.room id≤C.size:=by
 have hg:V.gone [.buf cs]=false:=by cases cs with|nil=>simp at hl|cons a r=>rfl
 obtain⟨b',o,h1,h2,h3,h4,h5⟩:=h.vars id _ hcs hg
 rw [hb]at h1; injection h1 with h1; subst h1
 cases h4 with
 | cells k1 k2 k3=>
  rename_i C el
  exfalso
  have:0<C.size:=by have:=k1; simp at this; omega
  have:=k2 0 (.buf cs) C[0] rfl (by simp [this])
  cases this
 |buf k0 k1 k2 k3=>exact⟨_,_,h2,h3,k0,k1,k2,k3⟩
theorem V.gone_buf {cs:List V} (h:0<cs.length):V.gone [.buf cs]=false:=by cases cs with|nil=>simp at h|cons a r=>rfl
theorem yj {α:Type} {l:List α} {i:Nat} {x:α} (h:l[i]? =some x):i<l.length:=Zo h
theorem V2 (h:Rel gl w0 G st w) {t:TypeId} (hok:(ti P t).ok=true) (hd:(ti P t).d≠ .other) {p v:V} {c:Value} (hv:VR G p c) (hs:V.sc st p)
  (hl:X9 gl st p (ti P t).sz (ti P t).d.agg=some v):∃x,(Instr.loadAt t c).run P w= .ok x w∧VR G v x∧V.sc st v:=by
 obtain⟨i,d,hi,hdd,hsz,_⟩:=KE hok
 simp only [X9]at hl
 split at hl
 ·rename_i id off
  split at hl
  ·rename_i cells hcs
   split at hl
   ·cases hl
   ·rename_i hpos
    cases hv with
    | ptr hb=>
     rename_i b
     obtain⟨C,el,h2,h3,h4,h5,h5',h6⟩:=h.bufOf hcs O0 hb
     obtain ⟨x,hx,hvx,hsx⟩:=Js (P:=P) (G:=G) w b 0 t cells off (ti P t).sz v i d hi hdd hsz hd (by
      intro j u hu
      have hj:j<C.size:=Nat.lt_of_lt_of_le (yj hu) h5
      refine⟨C[j],by rw [cell_of_heap h3]; simp [hj],h5' j u _ hu (by simp [hj])⟩) hl
     refine⟨x, ?_,hvx,hsx st ((V.scs_iff st _).2 fun u hu=>V.sc_of_pure st u (V.pure_of_pcell (h4 u hu)))⟩
     simp only [Instr.loadAt,Instr.sureAddr,iB,iC,iA]
     simpa using hx
  ·rename_i cells _ hcs
   split at hl
   ·rename_i hlive
    cases hv with
    | ptr hb=>
     rename_i b
     obtain⟨C,el,h2,h3,h4,h4',h5⟩:=h.live hcs hlive hb
     obtain ⟨x,hx,hvx,hsx⟩:=Js (P:=P) (G:=G) w b 0 t cells off (ti P t).sz v i d hi hdd hsz hd (by
      intro j u hu
      have hj:j<C.size:=Nat.lt_of_lt_of_le (yj hu) h4
      refine⟨C[j],by rw [cell_of_heap h3]; simp [hj],h4' j u _ hu (by simp [hj])⟩) hl
     refine⟨x, ?_,hvx,hsx st (h.sc id cells hcs)⟩
     simp only [Instr.loadAt,Instr.sureAddr,iB,iC,iA]
     simpa using hx
   ·cases hl
  ·cases hl
 ·rename_i e off
  cases hv with
  | eptr hr=>
   rename_i b o
   obtain ⟨x,hx,hvx,hsx⟩:=Js (P:=P) (G:=G) w b o t e off (ti P t).sz v i d hi hdd hsz hd (by
    intro j u hu
    obtain⟨_,c,hc,hvr⟩:=h.im (hr j u hu)
    exact⟨c,hc,hvr⟩) hl
   refine⟨x, ?_,hvx,hsx st ?_⟩
   ·simp only [Instr.loadAt,Instr.sureAddr,iB,iC,iA]
    exact hx
   ·rw [V.scs_iff]
    intro u hu
    obtain⟨j,hj⟩:=List.getElem?_of_mem hu
    exact V.sc_of_pure st u (V.pure_of_pcell (h.im (hr j u hj)).1)
 ·rename_i g off
  cases hv with
  | gptr=>
   obtain ⟨x,hx,hvx,hsx⟩:=Js (P:=P) (G:=G) w g 0 t (gl g) off (ti P t).sz v i d hi hdd hsz hd (by
    intro j u hu
    obtain⟨_,c,hc,hvr⟩:=h.imm _ _ _ (h.glob g j u hu)
    exact⟨c,by simpa using hc,hvr⟩) hl
   refine⟨x, ?_,hvx,hsx st ?_⟩
   ·simp only [Instr.loadAt,Instr.sureAddr,iB,iC,iA]
    simpa using hx
   ·rw [V.scs_iff]
    intro u hu
    obtain⟨j,hj⟩:=List.getElem?_of_mem hu
    exact V.sc_of_pure st u (V.pure_of_pcell (h.imm _ _ _ (h.glob g j u hj)).1)
 ·cases hl
theorem BN (h:Rel gl w0 G st w) {t:TypeId} (hok:(ti P t).ok=true) (hd:(ti P t).d≠ .other) {p v:V} {c:Value} (hv:VR G p c) (hs:V.sc st p)
  (hl:X9 gl st p (ti P t).sz (ti P t).d.agg=some v):SOK P gl w0 G st w (Instr.loadAt t c) v st:=by
 obtain⟨x,h1,h2,h3⟩:=V2 h hok hd hv hs hl
 exact SOK.same h h1 h2 h3
theorem Yu (w:World) {b:Nat} {C C':Array Value} {el:TypeId} {fz:Nat×Nat} (h:w.heap[b]? =some (.cells C el fz)):Chg w (w.setRow b C') b (.cells C' el fz):=
 ⟨rfl,rfl,rfl,setRow_size ..,setRow_heap w b C C' el fz h,fun k hk=>setRow_other w b k C' hk⟩
theorem XH {v:V} {c:Value} (h:VR G v c) (hc:v.isCell=true):c.oneCell'=true:=by
 cases h<;>simp_all [V.isCell,Value.oneCell']
theorem Wc {v:V} {c:Value} (h:VR G v c) (hc:V.isCells v.cells=true):VRs G v.cells c.cells∧∀x∈c.cells.toList,x.oneCell'=true:=by
 have one:v.isCell=true→v.cells= [v]→c.cells= #[c]→VRs G v.cells c.cells∧∀x∈c.cells.toList,x.oneCell'=true:=by
  intro h1 h2 h3
  rw [h2,h3]
  refine⟨⟨rfl, ?_⟩, ?_⟩
  ·intro i u x hu hx
   cases i with
   |zero=>simp at hu hx; subst hu hx; exact h
   |succ i=>simp at hu
  ·simp; exact XH h h1
 cases h with
 | agg hl hr=>
  rename_i cs c
  refine⟨⟨hl,hr⟩, ?_⟩
  intro x hx
  obtain⟨i,hi⟩:=List.getElem?_of_mem hx
  simp only [Value.cells,Array.getElem?_toList]at hi
  have hil:i<cs.length:=by
   rw [hl]
   rcases Nat.lt_or_ge i c.size with h'|h'
   ·exact h'
   ·rw [Array.getElem?_eq_none h']at hi; cases hi
  have:=hr i _ x (List.getElem?_eq_getElem hil) hi
  refine XH this ?_
  simp only [V.isCells,V.cells,List.all_eq_true]at hc
  exact hc _ (List.getElem_mem hil)
 |junk=>simp [V.isCells,V.cells,V.isCell]at hc
 |tuple=>simp [V.isCells,V.cells,V.isCell]at hc
 |_=>exact one rfl rfl rfl
theorem Wh {st:St} {v:V} (h:V.sc st v):V.scs st v.cells:=by
 cases v<;>first|(simp only [V.cells,V.scs,and_true]; exact h)|exact h
theorem Q0 (h:Rel gl w0 G st w) {t:TypeId} (hok:(ti P t).ok=true) {p v:V} {c x:Value} (hv:VR G p c) (hs:V.sc st p) (hvx:VR G v x) (hsx:V.sc st v) {st':St}
  (hl:XK st p v (ti P t).sz=some st'):∃w',(Instr.storeAt t c x).run P w= .ok () w'∧Rel gl w0 G st' w'∧st.le st':=by
 obtain⟨i,d,hi,hdd,hsz,_⟩:=KE hok
 simp only [XK]at hl
 split at hl
 ·rename_i id off
  split at hl
  ·rename_i cells hcs
   split at hl
   ·rename_i hcond
    obtain⟨hn,hpos,hoff,hpc⟩:=hcond
    injection hl with hl; subst hl
    cases hv with
    | ptr hb=>
     rename_i b
     obtain⟨C,el,h2,h3,h4,h5,h5',h6⟩:=h.bufOf hcs O0 hb
     have hpc':∀u∈v.cells,V.pcell u=true:=fun u hu=>List.all_eq_true.1 hpc u hu
     obtain⟨⟨hxl,hxr⟩,hone⟩:=Wc hvx (by simp only [V.isCells,List.all_eq_true]; exact fun u hu=>V.isCell_of_pcell (hpc' u hu))
     have hrun:=run_storeCells_at P b off el x.cells.toList 0 C w h3 (by simp [←hxl,hn]; omega) hone
     refine⟨w.setRow b (C.toList.take (off+0)++x.cells.toList++C.toList.drop (off+0+x.cells.toList.length)).toArray, ?_, ?_,St.le_put _ _ _⟩
     ·simp only [Instr.storeAt,Instr.sureAddr,storeVar,iB,iC,iA,xA hi]
      rw [←hxl,hn,hsz]
      simp only [ne_eq,not_true,if_false,iC,iA,hrun]
     ·refine h.store hcs (V.gone_buf O0) hb (Yu w h3) ?_ (by simp [V.scs,V.sc])
      refine .buf ?_ ?_ ?_ ?_
      ·intro u hu
       rcases List.mem_append.1 hu with hu|hu
       ·rcases List.mem_append.1 hu with hu|hu
        ·exact h4 u (List.mem_of_mem_take hu)
        ·exact hpc' u hu
       ·exact h4 u (List.mem_of_mem_drop hu)
      ·simp [←hxl,hn]; omega
      ·intro j u y hu hy
       have hju:j<cells.length:=by
        have:=yj hu
        simp [hn]at this; omega
       simp only [Nat.add_zero,List.getElem?_toArray,List.getElem?_append,List.length_append,List.length_take,Array.length_toList,←hxl,hn,List.getElem?_take,List.getElem?_drop]at hu hy
       have hmin:min off cells.length=off:=O0
       have hmin2:min off C.size=off:=O0
       rw [hmin]at hu
       rw [hmin2]at hy
       by_cases c1:j<off
       ·have c2:j<off+(ti P t).sz:=O0
        simp only [c1,c2,if_true]at hu hy
        exact h5' j u y hu (O7 hy)
       ·by_cases c2:j<off+(ti P t).sz
        ·simp only [c1,c2,if_true,if_false]at hu hy
         exact hxr _ u y hu (O7 hy)
        ·simp only [c1,c2,if_false]at hu hy
         refine h5' _ u y hu ?_
         simpa using hy
      ·simp [←hxl,hn]; omega
   ·cases hl
  ·rename_i cells _ hcs
   split at hl
   ·rename_i hcond
    obtain⟨hn,hoff,hcell,hlive⟩:=hcond
    injection hl with hl; subst hl
    cases hv with
    | ptr hb=>
     rename_i b
     obtain⟨C,el,h2,h3,h4,h4',h5⟩:=h.live hcs hlive hb
     obtain⟨⟨hxl,hxr⟩,hone⟩:=Wc hvx hcell
     have hrun:=run_storeCells_at P b off el x.cells.toList 0 C w h3 (by simp [←hxl,hn]; omega) hone
     refine⟨w.setRow b (C.toList.take (off+0)++x.cells.toList++C.toList.drop (off+0+x.cells.toList.length)).toArray, ?_, ?_,St.le_put _ _ _⟩
     ·simp only [Instr.storeAt,Instr.sureAddr,storeVar,iB,iC,iA,xA hi]
      rw [←hxl,hn,hsz]
      simp only [ne_eq,not_true,if_false,iC,iA,hrun]
     ·refine h.store hcs (V.live_ne hlive) hb (Yu w h3) ?_ ?_
      ·refine .cells ?_ ?_ ?_
       ·simp [←hxl,hn]; omega
       ·intro j u y hu hy
        have hju:j<cells.length:=by
         have:=yj hu
         simp [hn]at this; omega
        simp only [Nat.add_zero,List.getElem?_toArray,List.getElem?_append,List.length_append,List.length_take,Array.length_toList,←hxl,hn,List.getElem?_take,List.getElem?_drop]at hu hy
        have hmin:min off cells.length=off:=O0
        have hmin2:min off C.size=off:=O0
        rw [hmin]at hu
        rw [hmin2]at hy
        by_cases c1:j<off
        ·have c2:j<off+(ti P t).sz:=O0
         simp only [c1,c2,if_true]at hu hy
         exact h4' j u y hu (O7 hy)
        ·by_cases c2:j<off+(ti P t).sz
         ·simp only [c1,c2,if_true,if_false]at hu hy
          exact hxr _ u y hu (O7 hy)
         ·simp only [c1,c2,if_false]at hu hy
          refine h4' _ u y hu ?_
          simpa using hy
       ·simp [←hxl,hn]; omega
      ·rw [V.scs_iff]
       have ho:=(V.scs_iff st _).1 (h.sc id cells hcs)
       have hnw:=(V.scs_iff st _).1 (Wh hsx)
       intro u hu
       rcases List.mem_append.1 hu with hu|hu
       ·rcases List.mem_append.1 hu with hu|hu
        ·exact ho u (List.mem_of_mem_take hu)
        ·exact hnw u hu
       ·exact ho u (List.mem_of_mem_drop hu)
   ·cases hl
  ·cases hl
 ·cases hl
theorem KP (h:Rel gl w0 G st w) {t:TypeId} {v:V} {x:Value} (hvx:VR G v x) (hsx:V.sc st v) (hc:V.isCells v.cells=true):
  SOK P gl w0 G st w (do pure (.pointer (some (←newVar t x)))) (.ptr st.vars.length 0) (st.push v.cells):=by
 obtain⟨hr,hx⟩:=h.newVar v.cells x.cells t (Wc hvx hc).1 (Wh hsx)
 exact⟨.pointer (some ⟨w.heap.size,0,none⟩),w.alloc (.cells x.cells t),_,rfl, .ptr (by simp [Gh.setVar]),by simp [V.sc,St.push],hr,hx,St.le_push _ _⟩
end
end Go.Abs
end
