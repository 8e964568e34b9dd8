/- Abstract values: a part. No condition beyond each statement's own. -/
import Derived.Test.YthfhicembdpjpaaGreatDoorA01
set_option linter.all false
section
namespace Go.Abs
open Go.RowKit (Below)
structure Chg (w w':World) (b:Nat) (o:Obj):Prop where
 os:w'.os=w.os
 tape:w'.tape=w.tape
 output:w'.output=w.output
 size:w'.heap.size=w.heap.size
 at_:w'.heap[b]? =some o
 other:∀k,k≠b→w'.heap[k]? =w.heap[k]?
structure qQ where
 w:World
 S:Nat→Prop
 I:Nat→Nat→Option V
def qQ.mine (B:qQ) (b:Nat):Prop:=B.w.heap.size≤b∨B.S b
structure XO (B:qQ) (w:World):Prop where
 os:w.os=B.w.os
 tape:w.tape=B.w.tape
 output:w.output=B.w.output
 size:B.w.heap.size≤w.heap.size
 heap:∀k,k<B.w.heap.size→¬B.S k→w.heap[k]? =B.w.heap[k]?
theorem XO.refl (w:World) (S:Nat→Prop) (I:Nat→Nat→Option V):XO ⟨w,S,I⟩ w:=⟨rfl,rfl,rfl,Nat.le_refl _,fun _ _ _=>rfl⟩
theorem XO.step {B:qQ} {w w':World} (h:XO B w) (ho:w'.os=w.os) (ht:w'.tape=w.tape) (hp:w'.output=w.output) (hs:w.heap.size≤w'.heap.size)
  (hk:∀k,k<w.heap.size→¬B.mine k→w'.heap[k]? =w.heap[k]?):XO B w':=
 ⟨ho.trans h.os,ht.trans h.tape,hp.trans h.output,Nat.le_trans h.size hs,fun k h1 h2=>
  (hk k (Nat.lt_of_lt_of_le h1 h.size) (fun hm=>hm.elim (fun x=>absurd x (Nat.not_le_of_lt h1)) h2)).trans (h.heap k h1 h2)⟩
theorem XO.alloc {B:qQ} {w:World} (h:XO B w) (o:Obj):XO B (w.alloc o):=
 h.step rfl rfl rfl (by show _≤(w.heap.push o).size; simp) (fun k hk _=>Below.heap_alloc _ _ _ hk)
def GD (ent:Array MapEntry):List Value:=ent.toList.flatMap fun e=> [e.key,e.val]
inductive VO (G:Gh) (room:Nat):List V→Obj→Prop
 | cells {cells:List V} {C:Array Value} {el:TypeId}:cells.length≤C.size→(∀(i:Nat) (v:V) (c:Value),cells[i]? =some v→C[i]? =some c→VR G v c)→room≤C.size →
   VO G room cells (.cells C el (0,0))
 |mp {es:List V} {ent:Array MapEntry} {clk:Nat}:(∀v∈es,V.pure v=true)→VRs G es (GD ent).toArray→VO G room [.mp es] (.map ent clk)
 |sit (s:ByteArray) (pos:Nat):VO G room [.sit s.data.toList pos] (.stringIter s pos)
 | buf {cs:List V} {C:Array Value} {el:TypeId}:(∀v∈cs,V.pcell v=true)→cs.length≤C.size→(∀(i:Nat) (v:V) (c:Value),cs[i]? =some v→C[i]? =some c→VR G v c)→room≤C.size →
   VO G room [.buf cs] (.cells C el (0,0))
 | bobj {id k:Nat} {T:TypeId} {s:List UInt8} {p v:Value}:(p= .pointer none∨∃b,G.var id=some b∧p= .pointer (some ⟨b,0,none⟩)) →
   ((s= []∧v= .slice none 0 0)∨(s≠ []∧∃b,G.var k=some b∧v= .slice (some ⟨b,0,none⟩) s.length (G.room k)))→VO G room [.bobj id k T s] (.cells #[p,v] T (0,0))
 | bbuf {e:TypeId} {s:List UInt8} {C:Array Value}:s≠ []→C.size=room→s.length≤room→room≤maxLen→C.toList.take s.length=s.map (fun b=>Value.int .u8 b.toNat) →
   VO G room [.bbuf e s] (.cells C e (0,0))
def V.plain:List V→Bool
 | [.mp _]=>false
 | [.sit _ _]=>false
 | [.buf _]=>false
 | [.bobj ..]=>false
 | [.bbuf ..]=>false
 |_=>true
def V.gone:List V→Bool
 | []=>true
 | [.buf []]=>true
 | [.bbuf _ []]=>true
 |_=>false
theorem VO.plain {G:Gh} {room:Nat} {cells:List V} {o:Obj} (h:VO G room cells o) (hp:V.plain cells=true):
  ∃C el,o= .cells C el (0,0)∧cells.length≤C.size∧(∀(i:Nat) (v:V) (c:Value),cells[i]? =some v→C[i]? =some c→VR G v c)∧room≤C.size:=by
 cases h with
 |cells h1 h2 h3=>exact⟨_,_,rfl,h1,h2,h3⟩
 |mp _ _=>simp [V.plain]at hp
 |sit _ _=>simp [V.plain]at hp
 |buf _ _ _ _=>simp [V.plain]at hp
 |bobj _ _=>simp [V.plain]at hp
 |bbuf _ _ _ _ _=>simp [V.plain]at hp
theorem VRs.vo {G:Gh} {cells:List V} {C:Array Value} (el:TypeId) (h:VRs G cells C) (r:Nat) (hr:r≤C.size):VO G r cells (.cells C el (0,0)):=
 .cells (Nat.le_of_eq h.1) h.2 hr
structure Rel (gl:Nat→List V) (w0:qQ) (G:Gh) (st:St) (w:World):Prop where
 below:XO w0 w
 vars:∀(id:Nat) (cells:List V),st.vars[id]? =some cells→V.gone cells=false→∃b o,G.var id=some b∧w0.mine b∧w.heap[b]? =some o ∧
  VO G (G.room id) cells o∧(∀i,G.imm b i=none)
 varlt:∀id b,id<st.vars.length→G.var id=some b→b<w.heap.size
 sc:∀(id:Nat) (cells:List V),st.vars[id]? =some cells→V.scs st cells
 disj:∀(i j b:Nat) (ci cj:List V),st.vars[i]? =some ci→V.gone ci=false→st.vars[j]? =some cj→V.gone cj=false→G.var i=some b→G.var j=some b→i=j
 imm:∀b i v,G.imm b i=some v→V.pcell v=true∧∃c,w.cell? ⟨b,i,none⟩=some c∧VR G v c
 fam:∀(t p b e lim:Nat),st.fams[t]? =some p→G.tip t p=some (b,e,lim)→w0.mine b∧∃C el,w.heap[b]? =some (.cells C el (0,0))∧lim≤C.size ∧
  (∀i,e≤i→G.imm b i=none)∧(∀(id:Nat) (cs:List V),st.vars[id]? =some cs→V.gone cs=false→G.var id≠some b)
 famdisj:∀(t t' p p' b e l e' l':Nat),st.fams[t]? =some p→st.fams[t']? =some p'→G.tip t p=some (b,e,l)→G.tip t' p'=some (b,e',l')→t=t'
 glob:∀(g i:Nat) (v:V),(gl g)[i]? =some v→G.imm g i=some v
 gfix:∀g,gl g≠ []→¬w0.mine g∧∃C el fz,w0.w.heap[g]? =some (.cells C el fz)∧C.size=(gl g).length
 old:∀(b i:Nat),¬w0.mine b→G.imm b i=w0.I b i
theorem Vv {w:World} {b i:Nat} {c:Value} (h:w.cell? ⟨b,i,none⟩=some c):b<w.heap.size:=by
 unfold World.cell? at h
 rcases Nat.lt_or_ge b w.heap.size with h'|h'
 ·exact h'
 ·simp [Array.getElem?_eq_none h']at h
theorem qA {w:World} {b:Nat} {o:Obj} (h:w.heap[b]? =some o):b<w.heap.size:=by
 rcases Nat.lt_or_ge b w.heap.size with h'|h'
 ·exact h'
 ·simp [Array.getElem?_eq_none h']at h
theorem cell_of_heap {w:World} {b i:Nat} {C:Array Value} {el:TypeId} {fz:Nat×Nat} (h:w.heap[b]? =some (.cells C el fz)):w.cell? ⟨b,i,none⟩=C[i]? :=by
 simp [World.cell?,h]
theorem gx {w w':World} {b i:Nat} (h:w'.heap[b]? =w.heap[b]?):w'.cell? ⟨b,i,none⟩=w.cell? ⟨b,i,none⟩:=by
 simp [World.cell?,h]
section
variable {gl:Nat→List V} {w0:qQ} {G:Gh} {st:St} {w:World}
theorem Rel.var_lt (h:Rel gl w0 G st w) {id b:Nat} (hid:id<st.vars.length) (hb:G.var id=some b):b<w.heap.size:=h.varlt id b hid hb
theorem Rel.im (h:Rel gl w0 G st w) {b i:Nat} {v:V} (hv:G.Im b i v):V.pcell v=true∧∃c,w.cell? ⟨b,i,none⟩=some c∧VR G v c:=by
 obtain⟨u,h1,h2⟩:=hv
 obtain⟨hp,c,hc,hr⟩:=h.imm b i u h1
 rcases h2 with rfl|⟨x,y,rfl,rfl⟩
 ·exact⟨hp,c,hc,hr⟩
 ·refine⟨by simpa [V.pcell,V.pure,V.isCell] using hp,c,hc, ?_⟩
  cases hr with
  |sl h1 h2 h3=>exact .sl (fun i e he=>by simp at he) trivial h3
  |slnil=>exact .slnil _ _
  |slz=>exact .slz _ _
theorem Rel.imm_lt (h:Rel gl w0 G st w) {b i:Nat} {v:V} (hb:G.imm b i=some v):b<w.heap.size:=by
 obtain⟨_,c,hc,_⟩:=h.imm b i v hb
 exact Vv hc
theorem Rel.imm_new (h:Rel gl w0 G st w) (i:Nat):G.imm w.heap.size i=none:=by
 cases hx:G.imm w.heap.size i with
 |none=>rfl
 |some v=>exact absurd (h.imm_lt hx) (Nat.lt_irrefl _)
theorem Rel.of_heap (h:Rel gl w0 G st w) {w':World} (hh:w'.heap=w.heap) (ho:w'.os=w.os) (ht:w'.tape=w.tape) (hp:w'.output=w.output):Rel gl w0 G st w' where
 below:=h.below.step ho ht hp (by rw [hh]; exact Nat.le_refl _) (fun k _ _=>by rw [hh])
 vars:=by rw [hh]; exact h.vars
 varlt:=by rw [hh]; exact h.varlt
 sc:=h.sc
 disj:=h.disj
 imm:=fun b i v hv=>by
  obtain⟨hp,c,hc,hr⟩:=h.imm b i v hv
  exact⟨hp,c,by rw [gx (w:=w) (by rw [hh])]; exact hc,hr⟩
 fam:=by rw [hh]; exact h.fam
 famdisj:=h.famdisj
 glob:=h.glob
 gfix:=h.gfix
 old:=h.old
theorem Rel.grow (h:Rel gl w0 G st w) (o:Obj):Rel gl w0 G st (w.alloc o) where
 below:=h.below.alloc o
 vars:=fun id cells hc hn=>by
  obtain⟨b,o',h1,h2,h3,h4,h5⟩:=h.vars id cells hc hn
  exact⟨b,o',h1,h2,by rw [Below.heap_alloc _ _ _ (qA h3)]; exact h3,h4,h5⟩
 varlt:=fun id b hi hb=>Nat.lt_of_lt_of_le (h.varlt id b hi hb) (by show _≤(w.heap.push o).size; simp)
 sc:=h.sc
 disj:=h.disj
 imm:=fun b i v hv=>by
  obtain⟨hp,c,hc,hr⟩:=h.imm b i v hv
  exact⟨hp,c,by rw [gx (w:=w) (Below.heap_alloc _ _ _ (Vv hc))]; exact hc,hr⟩
 fam:=fun t p b e lim ht h1=>by
  obtain⟨h2,C,el,h3,h4⟩:=h.fam t p b e lim ht h1
  exact⟨h2,C,el,by rw [Below.heap_alloc _ _ _ (qA h3)]; exact h3,h4⟩
 famdisj:=h.famdisj
 glob:=h.glob
 gfix:=h.gfix
 old:=h.old
theorem YR (w:World) (o:Obj):(w.alloc o).heap[w.heap.size]? =some o:=by
 show(w.heap.push o)[w.heap.size]? =_
 simp
theorem Ki (w:World) (o:Obj):(w.alloc o).heap.size=w.heap.size+1:=by
 show(w.heap.push o).size=_
 simp
def Gh.setVar (G:Gh) (id b:Nat) (r:Nat:=0):Gh:={G with var:=fun k=>if k=id then some b else G.var k,room:=fun k=>if k=id then r else G.room k}
def Gh.setTip (G:Gh) (t p:Nat) (x:Nat×Nat×Nat):Gh:={G with tip:=fun t' p'=>if t'=t∧p'=p then some x else G.tip t' p'}
def Gh.setImm (G:Gh) (b:Nat) (f:Nat→Option V):Gh:={G with imm:=fun b' i=>if b'=b then f i else G.imm b' i}
def St.push (st:St) (cells:List V):St:={st with vars:=st.vars ++ [cells]}
def St.pushFam (st:St) (p:Nat):St:={st with fams:=st.fams ++ [p]}
def St.setFam (st:St) (t p:Nat):St:={st with fams:=st.fams.set t p}
def St.put (st:St) (id:Nat) (cells:List V):St:={st with vars:=st.vars.set id cells}
theorem St.le_push (st:St) (cells:List V):st.le (st.push cells):=⟨by simp [St.push],fun t p h=>⟨p,h,Nat.le_refl _⟩⟩
theorem St.le_put (st:St) (id:Nat) (cells:List V):st.le (st.put id cells):=⟨by simp [St.put],fun t p h=>⟨p,h,Nat.le_refl _⟩⟩
theorem St.le_pushFam (st:St) (p:Nat):st.le (st.pushFam p):=
 ⟨by simp [St.pushFam],fun t q h=>⟨q,by
  have:t<st.fams.length:=by
   rcases Nat.lt_or_ge t st.fams.length with h'|h'
   ·exact h'
   ·simp [List.getElem?_eq_none h']at h
  simp [St.pushFam,List.getElem?_append_left this,h],Nat.le_refl _⟩⟩
theorem St.le_setFam (st:St) {t p q:Nat} (h:st.fams[t]? =some q) (hq:q≤p):st.le (st.setFam t p):=
 ⟨by simp [St.setFam],fun t' p' h'=>by
  have hlt:t<st.fams.length:=by
   rcases Nat.lt_or_ge t st.fams.length with h'|h'
   ·exact h'
   ·simp [List.getElem?_eq_none h']at h
  by_cases e:t'=t
  ·subst e
   rw [h]at h'; injection h' with h'; subst h'
   exact⟨p,by simp [St.setFam,hlt],hq⟩
  ·exact⟨p',by simp [St.setFam,Ne.symm e,h'],Nat.le_refl _⟩⟩
theorem VRs.ext {G':Gh} (hx:Ext st G G') {vs:List V} {cs:Array Value} (h:VRs G vs cs) (hs:V.scs st vs):VRs G' vs cs:=
 ⟨h.1,fun i v c hv hc=>(h.2 i v c hv hc).ext hx ((V.scs_iff st vs).1 hs v (List.mem_of_getElem? hv))⟩
theorem VO.ext {G':Gh} (hx:Ext st G G') {r:Nat} {vs:List V} {o:Obj} (h:VO G r vs o) (hs:V.scs st vs):VO G' r vs o:=by
 cases h with
 |cells h1 h2 h3=>exact .cells h1 (fun i v c hv hc=>(h2 i v c hv hc).ext hx ((V.scs_iff st vs).1 hs v (List.mem_of_getElem? hv))) h3
 |mp h0 h1=>exact .mp h0 ⟨h1.1,fun i v c hv hc=>(h1.2 i v c hv hc).pure_ext hx.imm (h0 v (List.mem_of_getElem? hv))⟩
 |sit _ _=>exact .sit _ _
 |buf h0 h1 h2 h3=>exact .buf h0 h1 (fun i v c hv hc=>(h2 i v c hv hc).pure_ext hx.imm (V.pure_of_pcell (h0 v (List.mem_of_getElem? hv)))) h3
 | bobj h1 h2=>
  have hs':_∧_:=hs.1
  refine .bobj (h1.imp id fun⟨b,q1,q2⟩=>⟨b,by rw [hx.var _ hs'.1]; exact q1,q2⟩) (h2.imp id fun⟨q0,b,q1,q2⟩=>⟨q0,b,by rw [hx.var _ hs'.2]; exact q1,by rw [hx.room _ hs'.2]; exact q2⟩)
 |bbuf h0 h1 h2 h3 h4=>exact .bbuf h0 h1 h2 h3 h4
theorem Zo {α:Type} {l:List α} {i:Nat} {x:α} (h:l[i]? =some x):i<l.length:=by
 rcases Nat.lt_or_ge i l.length with h'|h'
 ·exact h'
 ·simp [List.getElem?_eq_none h']at h
theorem V.scs_gone (st:St) {c:List V} (h:V.gone c=true):V.scs st c:=by
 unfold V.gone at h
 split at h
 ·trivial
 ·simp [V.scs,V.sc]
 ·simp [V.scs,V.sc]
 ·cases h
theorem Rel.newObj (h:Rel gl w0 G st w) (cells:List V) (o:Obj) (r:Nat) (hv:VO G r cells o) (hs:V.scs st cells):
  Rel gl w0 (G.setVar st.vars.length w.heap.size r) (st.push cells) (w.alloc o)∧Ext st G (G.setVar st.vars.length w.heap.size r):=by
 have hx:Ext st G (G.setVar st.vars.length w.heap.size r):=⟨fun _ _ _ h=>h,fun id hid=>by simp [Gh.setVar,Nat.ne_of_lt hid],fun _ _ _ _ _=>rfl,fun id hid=>by simp [Gh.setVar,Nat.ne_of_lt hid]⟩
 have hl:=St.le_push st cells
 refine⟨?_,hx⟩
 have hg:=h.grow o
 have key:∀(id:Nat) (cs:List V),(st.push cells).vars[id]? =some cs→(id<st.vars.length∧st.vars[id]? =some cs)∨(id=st.vars.length∧cs=cells):=by
  intro id cs hc
  simp only [St.push]at hc
  rcases Nat.lt_or_ge id st.vars.length with h'|h'
  ·rw [List.getElem?_append_left h']at hc
   exact .inl ⟨h',hc⟩
  ·rw [List.getElem?_append_right h']at hc
   have:id-st.vars.length=0:=by
    rcases Nat.eq_zero_or_pos (id-st.vars.length)with h0|h0
    ·exact h0
    ·rw [List.getElem?_eq_none O3]at hc; simp at hc
   rw [this]at hc
   simp at hc
   exact .inr ⟨O0,hc.symm⟩
 exact {
  below:=hg.below
  vars:=by
   intro id cs hc hn
   rcases key id cs hc with⟨hlt,hc⟩|⟨rfl,rfl⟩
   ·obtain⟨b,o',h1,h2,h3,h4,h6⟩:=hg.vars id cs hc hn
    exact⟨b,o',by rw [hx.var id hlt]; exact h1,h2,h3,by rw [hx.room id hlt]; exact h4.ext hx (h.sc id cs hc),h6⟩
   ·exact⟨w.heap.size,o,by simp [Gh.setVar], .inl h.below.size,YR w _,by simpa [Gh.setVar] using hv.ext hx hs,fun i=>h.imm_new i⟩
  varlt:=by
   intro id b hi hb
   simp only [St.push,List.length_append,List.length_singleton]at hi
   rw [Ki]
   by_cases e:id=st.vars.length
   ·simp [Gh.setVar,e]at hb; omega
   ·simp [Gh.setVar,e]at hb
    have:=h.varlt id b O0 hb
    omega
  sc:=by
   intro id cs hc
   rcases key id cs hc with⟨hlt,hc⟩|⟨rfl,rfl⟩
   ·exact V.scs_mono hl _ (h.sc id cs hc)
   ·exact V.scs_mono hl _ hs
  disj:=by
   intro i j b ci cj hi hni hj hnj h1 h2
   simp only [Gh.setVar]at h1 h2
   rcases key i ci hi with⟨li,hi⟩|⟨rfl,rfl⟩<;>rcases key j cj hj with⟨lj,hj⟩|⟨rfl,rfl⟩
   ·simp [Nat.ne_of_lt li]at h1; simp [Nat.ne_of_lt lj]at h2
    exact h.disj i j b ci cj hi hni hj hnj h1 h2
   ·simp [Nat.ne_of_lt li]at h1; simp at h2
    have:=h.var_lt li h1
    omega
   ·simp at h1; simp [Nat.ne_of_lt lj]at h2
    have:=h.var_lt lj h2
    omega
   ·rfl
  imm:=by
   intro b i v hv
   obtain⟨hp,c,hc,hr⟩:=hg.imm b i v hv
   exact⟨hp,c,hc,hr.pure_ext hx.imm (V.pure_of_pcell hp)⟩
  fam:=by
   intro t p b e lim ht h1
   obtain⟨h2,C',el',h3,h4,h6,h7⟩:=hg.fam t p b e lim ht h1
   refine⟨h2,C',el',h3,h4,h6, ?_⟩
   intro id cs hcs hn
   simp only [Gh.setVar]
   rcases key id cs hcs with⟨li,hi⟩|⟨rfl,rfl⟩
   ·simp only [Nat.ne_of_lt li,if_false]
    exact h7 id cs hi hn
   ·simp only [if_true]
    intro hh; injection hh with hh
    obtain⟨g2,C2,el2,g3,_⟩:=h.fam t p b e lim ht h1
    have:=qA g3
    omega
  famdisj:=h.famdisj
  glob:=h.glob
  gfix:=h.gfix
  old:=h.old}
theorem Rel.newVar (h:Rel gl w0 G st w) (cells:List V) (C:Array Value) (el:TypeId) (hv:VRs G cells C) (hs:V.scs st cells):
  Rel gl w0 (G.setVar st.vars.length w.heap.size) (st.push cells) (w.alloc (.cells C el))∧Ext st G (G.setVar st.vars.length w.heap.size):=
 h.newObj cells _ 0 (hv.vo el 0 (Nat.zero_le _)) hs
theorem St.put_get {st:St} {id id':Nat} {cells cs:List V} (hc:(st.put id cells).vars[id']? =some cs):
  (id'=id∧cs=cells)∨(id'≠id∧st.vars[id']? =some cs):=by
 simp only [St.put,List.getElem?_set]at hc
 by_cases e:id=id'
 ·subst e
  simp only [if_true]at hc
  split at hc
  ·injection hc with hc; exact .inl ⟨rfl,hc.symm⟩
  ·cases hc
 ·simp only [e,if_false]at hc
  exact .inr ⟨fun x=>e x.symm,hc⟩
theorem Rel.storeO (h:Rel gl w0 G st w) {id b:Nat} {w':World} {cells0 cells:List V} {o:Obj}
  (hid:st.vars[id]? =some cells0) (hne:V.gone cells0=false) (hb:G.var id=some b) (hc:Chg w w' b o) (hv:VO G (G.room id) cells o) (hs:V.scs st cells):Rel gl w0 G (st.put id cells) w':=by
 have hbB:w0.mine b∧∀i,G.imm b i=none:=by
  obtain⟨b',o',h1,h2,h3,h4,h6⟩:=h.vars id _ hid hne
  rw [hb]at h1; injection h1 with h1; subst h1
  exact⟨h2,h6⟩
 have hl:=St.le_put st id cells
 have hlen:(st.put id cells).vars.length=st.vars.length:=by simp [St.put]
 exact {
  below:=h.below.step hc.os hc.tape hc.output (by rw [hc.size]; exact Nat.le_refl _) (fun k _ hm=>hc.other k (fun e=>hm (e▸hbB.1)))
  vars:=by
   intro id' cs hcs hn
   rcases St.put_get hcs with⟨rfl,rfl⟩|⟨hne',hcs⟩
   ·exact⟨b,o,hb,hbB.1,hc.at_,hv,hbB.2⟩
   ·obtain⟨b',o',h1,h2,h3,h4⟩:=h.vars id' cs hcs hn
    have:b'≠b:=fun e=>hne' (h.disj id' id b _ _ hcs hn hid hne (e▸h1) hb)
    exact⟨b',o',h1,h2,by rw [hc.other b' this]; exact h3,h4⟩
  varlt:=by rw [hlen,hc.size]; exact h.varlt
  sc:=by
   intro id' cs hcs
   rcases St.put_get hcs with⟨rfl,rfl⟩|⟨hne,hcs⟩
   ·exact V.scs_mono hl _ hs
   ·exact V.scs_mono hl _ (h.sc id' cs hcs)
  disj:=by
   intro i j b' ci cj hi hni hj hnj h1 h2
   have k:∀(x:Nat) (c:List V),(st.put id cells).vars[x]? =some c→V.gone c=false→∃c',st.vars[x]? =some c'∧V.gone c'=false:=by
    intro x c hx hn
    rcases St.put_get hx with⟨rfl,rfl⟩|⟨_,hx⟩
    ·exact⟨_,hid,hne⟩
    ·exact⟨_,hx,hn⟩
   obtain⟨_,a1,a2⟩:=k i ci hi hni
   obtain⟨_,a3,a4⟩:=k j cj hj hnj
   exact h.disj i j b' _ _ a1 a2 a3 a4 h1 h2
  imm:=by
   intro b' i v hv'
   obtain⟨hp,c,hc',hr⟩:=h.imm b' i v hv'
   refine⟨hp,c, ?_,hr⟩
   have:b'≠b:=by
    rintro rfl
    rw [hbB.2 i]at hv'; cases hv'
   rw [gx (w:=w) (hc.other b' this)]; exact hc'
  fam:=by
   intro t p b' e lim ht h1
   obtain⟨h2,C',el',h3,h4,h6,h7⟩:=h.fam t p b' e lim ht h1
   have:b'≠b:=by
    rintro rfl
    exact h7 id _ hid hne hb
   refine⟨h2,C',el',by rw [hc.other b' this]; exact h3,h4,h6, ?_⟩
   intro x c hx hn
   rcases St.put_get hx with⟨rfl,rfl⟩|⟨_,hx⟩
   ·exact h7 x _ hid hne
   ·exact h7 x c hx hn
  famdisj:=h.famdisj
  glob:=h.glob
  gfix:=h.gfix
  old:=h.old}
theorem Rel.store (h:Rel gl w0 G st w) {id b:Nat} {w':World} {cells0 cells:List V} {C:Array Value} {el:TypeId}
  (hid:st.vars[id]? =some cells0) (hne:V.gone cells0=false) (hb:G.var id=some b) (hc:Chg w w' b (.cells C el (0,0))) (hv:VO G (G.room id) cells (.cells C el (0,0))) (hs:V.scs st cells):Rel gl w0 G (st.put id cells) w':=
 h.storeO hid hne hb hc hv hs
theorem Rel.kill (h:Rel gl w0 G st w) (id:Nat):Rel gl w0 G (st.put id []) w:=by
 have k:∀(x:Nat) (c:List V),(st.put id []).vars[x]? =some c→V.gone c=false→st.vars[x]? =some c:=by
  intro x c hx hn
  rcases St.put_get hx with⟨rfl,rfl⟩|⟨_,hx⟩
  ·exact absurd hn (by simp [V.gone])
  ·exact hx
 exact {
  below:=h.below
  vars:=fun x c hx hn=>h.vars x c (k x c hx hn) hn
  varlt:=by
   have hlen:(st.put id []).vars.length=st.vars.length:=by simp [St.put]
   rw [hlen]; exact h.varlt
  sc:=by
   intro x c hx
   rcases St.put_get hx with⟨rfl,rfl⟩|⟨_,hx⟩
   ·trivial
   ·exact V.scs_mono (St.le_put st id []) _ (h.sc x c hx)
  disj:=fun i j b ci cj hi hni hj hnj=>h.disj i j b ci cj (k i ci hi hni) hni (k j cj hj hnj) hnj
  imm:=h.imm
  fam:=fun t p b e lim ht h1=>by
   obtain⟨h2,C',el',h3,h4,h6,h7⟩:=h.fam t p b e lim ht h1
   exact⟨h2,C',el',h3,h4,h6,fun x c hx hn=>h7 x c (k x c hx hn) hn⟩
  famdisj:=h.famdisj
  glob:=h.glob
  gfix:=h.gfix
  old:=h.old}
theorem Gh.setNone_ext (G:Gh) (st:St):Ext st G {G with var:=fun k=>if k=st.vars.length then none else G.var k}:=
 ⟨fun _ _ _ h=>h,fun id hid=>by simp [Nat.ne_of_lt hid],fun _ _ _ _ _=>rfl,fun _ _=>rfl⟩
theorem Rel.nilVarG (h:Rel gl w0 G st w) {cells:List V} (hgo:V.gone cells=true):Rel gl w0 {G with var:=fun k=>if k=st.vars.length then none else G.var k} (st.push cells) w:=by
 have hx:=Gh.setNone_ext G st
 have hl:=St.le_push st cells
 have k:∀(x:Nat) (c:List V),(st.push cells).vars[x]? =some c→V.gone c=false→x<st.vars.length∧st.vars[x]? =some c:=by
  intro x c hc hn
  simp only [St.push]at hc
  rcases Nat.lt_or_ge x st.vars.length with h'|h'
  ·rw [List.getElem?_append_left h']at hc; exact⟨h',hc⟩
  ·rw [List.getElem?_append_right h']at hc
   rcases Nat.eq_zero_or_pos (x-st.vars.length)with h0|h0
   ·rw [h0]at hc; simp at hc; subst hc; exact absurd hn (by simp [hgo])
   ·rw [List.getElem?_eq_none O3]at hc; simp at hc
 exact {
  below:=h.below
  vars:=fun x c hc hn=>by
   obtain⟨lx,hc⟩:=k x c hc hn
   obtain⟨b,o,h1,h2,h3,h4,h5⟩:=h.vars x c hc hn
   exact⟨b,o,by rw [hx.var x lx]; exact h1,h2,h3,by rw [hx.room x lx]; exact h4.ext hx (h.sc x c hc),h5⟩
  varlt:=by
   intro id b hi hb
   simp only [St.push,List.length_append,List.length_singleton]at hi
   by_cases e:id=st.vars.length
   ·simp [e]at hb
   ·simp [e]at hb
    exact h.varlt id b O0 hb
  sc:=by
   intro x c hc
   cases hg:V.gone c with
   |true=>exact V.scs_gone _ hg
   |false=>exact V.scs_mono hl _ (h.sc x _ (k x _ hc hg).2)
  disj:=by
   intro i j b ci cj hi hni hj hnj h1 h2
   obtain⟨li,hi⟩:=k i ci hi hni
   obtain⟨lj,hj⟩:=k j cj hj hnj
   simp only [Nat.ne_of_lt li,Nat.ne_of_lt lj,if_false]at h1 h2
   exact h.disj i j b ci cj hi hni hj hnj h1 h2
  imm:=by
   intro b i v hv
   obtain⟨hp,c,hc,hr⟩:=h.imm b i v hv
   exact⟨hp,c,hc,hr.pure_ext hx.imm (V.pure_of_pcell hp)⟩
  fam:=by
   intro t p b e lim ht h1
   obtain⟨h2,C',el',h3,h4,h6,h7⟩:=h.fam t p b e lim ht h1
   refine⟨h2,C',el',h3,h4,h6, ?_⟩
   intro id cs hcs hn
   obtain⟨li,hi⟩:=k id cs hcs hn
   simp only [Nat.ne_of_lt li,if_false]
   exact h7 id cs hi hn
  famdisj:=h.famdisj
  glob:=h.glob
  gfix:=h.gfix
  old:=h.old}
theorem Rel.nilVar (h:Rel gl w0 G st w):Rel gl w0 {G with var:=fun k=>if k=st.vars.length then none else G.var k} (st.push [.buf []]) w:=h.nilVarG rfl
theorem Rel.moveVar (h:Rel gl w0 G st w) {id b:Nat} {cells:List V} (hid:st.vars[id]? =some cells) (hne:V.gone cells=false) (hb:G.var id=some b):
  Rel gl w0 (G.setVar st.vars.length b (G.room id)) ((st.put id []).push cells) w∧Ext st G (G.setVar st.vars.length b (G.room id)):=by
 have hx:Ext st G (G.setVar st.vars.length b (G.room id)):=⟨fun _ _ _ h=>h,fun id hid=>by simp [Gh.setVar,Nat.ne_of_lt hid],fun _ _ _ _ _=>rfl,fun id hid=>by simp [Gh.setVar,Nat.ne_of_lt hid]⟩
 refine⟨?_,hx⟩
 have hlen:(st.put id []).vars.length=st.vars.length:=by simp [St.put]
 have hl:st.le ((st.put id []).push cells):=(St.le_put st id []).trans (St.le_push _ _)
 have lid:=Zo hid
 have key:∀(x:Nat) (cs:List V),((st.put id []).push cells).vars[x]? =some cs→V.gone cs=false→(x<st.vars.length∧x≠id∧st.vars[x]? =some cs)∨(x=st.vars.length∧cs=cells):=by
  intro x cs hc hn
  simp only [St.push]at hc
  rcases Nat.lt_or_ge x st.vars.length with h'|h'
  ·rw [List.getElem?_append_left (by rw [hlen]; exact h')]at hc
   rcases St.put_get hc with⟨rfl,rfl⟩|⟨hne,hx⟩
   ·exact absurd hn (by simp [V.gone])
   ·exact .inl ⟨h',hne,hx⟩
  ·rw [List.getElem?_append_right (by rw [hlen]; exact h'),hlen]at hc
   have:x-st.vars.length=0:=by
    rcases Nat.eq_zero_or_pos (x-st.vars.length)with h0|h0
    ·exact h0
    ·rw [List.getElem?_eq_none O3]at hc; simp at hc
   rw [this]at hc
   simp at hc
   exact .inr ⟨O0,hc.symm⟩
 obtain⟨b0,o,v1,v2,v3,v4,v5⟩:=h.vars id cells hid hne
 rw [hb]at v1; injection v1 with v1; subst v1
 have hsc:=h.sc id cells hid
 exact {
  below:=h.below
  vars:=by
   intro x cs hc hn
   rcases key x cs hc hn with⟨lx,_,hc⟩|⟨rfl,rfl⟩
   ·obtain⟨b',o',h1,h2,h3,h4,h5⟩:=h.vars x cs hc hn
    exact⟨b',o',by rw [hx.var x lx]; exact h1,h2,h3,by rw [hx.room x lx]; exact h4.ext hx (h.sc x cs hc),h5⟩
   ·exact⟨b,o,by simp [Gh.setVar],v2,v3,by simpa [Gh.setVar] using v4.ext hx hsc,v5⟩
  varlt:=by
   intro x b' hi hb'
   simp only [St.push,List.length_append,List.length_singleton,hlen]at hi
   by_cases e:x=st.vars.length
   ·simp [Gh.setVar,e]at hb'; subst hb'; exact qA v3
   ·simp [Gh.setVar,e]at hb'
    exact h.varlt x b' O0 hb'
  sc :=by
   intro x cs hc
   cases hg:V.gone cs with
   |true=>exact V.scs_gone _ hg
   | false=>
    rcases key x _ hc hg with⟨_,_,hc'⟩|⟨_,hc'⟩
    ·exact V.scs_mono hl _ (h.sc x _ hc')
    ·rw [hc']; exact V.scs_mono hl _ hsc
  disj:=by
   intro i j b' ci cj hi hni hj hnj h1 h2
   simp only [Gh.setVar]at h1 h2
   rcases key i ci hi hni with⟨li,ni,hi'⟩|⟨ei,_⟩<;>rcases key j cj hj hnj with⟨lj,nj,hj'⟩|⟨ej,_⟩
   ·simp [Nat.ne_of_lt li]at h1; simp [Nat.ne_of_lt lj]at h2
    exact h.disj i j b' ci cj hi' hni hj' hnj h1 h2
   ·simp [Nat.ne_of_lt li]at h1; simp [ej]at h2; subst h2
    exact absurd (h.disj i id b _ _ hi' hni hid hne h1 hb) ni
   ·simp [ei]at h1; simp [Nat.ne_of_lt lj]at h2; subst h1
    exact absurd (h.disj j id b _ _ hj' hnj hid hne h2 hb) nj
   ·rw [ei,ej]
  imm:=by
   intro b' i v hv
   obtain⟨hp,c,hc,hr⟩:=h.imm b' i v hv
   exact⟨hp,c,hc,hr.pure_ext hx.imm (V.pure_of_pcell hp)⟩
  fam:=by
   intro t p b' e lim ht h1
   obtain⟨h2,C',el',h3,h4,h6,h7⟩:=h.fam t p b' e lim ht h1
   refine⟨h2,C',el',h3,h4,h6, ?_⟩
   intro x cs hcs hn
   simp only [Gh.setVar]
   rcases key x cs hcs hn with⟨li,_,hi⟩|⟨rfl,rfl⟩
   ·simp only [Nat.ne_of_lt li,if_false]
    exact h7 x cs hi hn
   ·simp only [if_true]
    intro hh; injection hh with hh; subst hh
    exact h7 id _ hid hne hb
  famdisj:=h.famdisj
  glob:=h.glob
  gfix:=h.gfix
  old:=h.old}
theorem Rel.newRow (h:Rel gl w0 G st w) (f:Nat→Option V) (C:Array Value) (el:TypeId) (fz:Nat×Nat)
  (hf:∀i v,f i=some v→V.pcell v=true∧∃c,C[i]? =some c∧VR G v c):
  Rel gl w0 (G.setImm w.heap.size f) st (w.alloc (.cells C el fz))∧Ext st G (G.setImm w.heap.size f):=by
 have himm:∀b i v,G.imm b i=some v→(G.setImm w.heap.size f).imm b i=some v:=by
  intro b i v hv
  have:=h.imm_lt hv
  simp [Gh.setImm,Nat.ne_of_lt this,hv]
 have hx:Ext st G (G.setImm w.heap.size f):=⟨himm,fun _ _=>rfl,fun _ _ _ _ _=>rfl,fun _ _=>rfl⟩
 have hg:=h.grow (.cells C el fz)
 refine ⟨{
  below:=hg.below
  vars:=by
   intro id cs hcs hn
   obtain⟨b,o',h1,h2,h3,h4,h6⟩:=hg.vars id cs hcs hn
   refine⟨b,o',h1,h2,h3,h4.ext hx (h.sc id cs hcs), ?_⟩
   intro i
   have hlt:id<st.vars.length:=by
    rcases Nat.lt_or_ge id st.vars.length with h'|h'
    ·exact h'
    ·simp [List.getElem?_eq_none h']at hcs
   have:=h.var_lt hlt h1
   simp [Gh.setImm,Nat.ne_of_lt this,h6 i]
  sc:=h.sc
  varlt:=hg.varlt
  disj:=h.disj
  imm:=by
   intro b i v hv
   by_cases e:b=w.heap.size
   ·subst e
    simp only [Gh.setImm,if_true]at hv
    obtain⟨hp,c,hc,hr⟩:=hf i v hv
    exact⟨hp,c,by rw [cell_of_heap (YR w _)]; exact hc,hr.pure_ext himm (V.pure_of_pcell hp)⟩
   ·simp only [Gh.setImm,e,if_false]at hv
    obtain⟨hp,c,hc,hr⟩:=hg.imm b i v hv
    exact⟨hp,c,hc,hr.pure_ext himm (V.pure_of_pcell hp)⟩
  fam:=by
   intro t p b e lim ht h1
   obtain⟨h2,C',el',h3,h4,h6,h7⟩:=hg.fam t p b e lim ht h1
   refine⟨h2,C',el',h3,h4, ?_,h7⟩
   obtain⟨g2,C2,el2,g3,_⟩:=h.fam t p b e lim ht h1
   have:=qA g3
   intro i hi
   simp [Gh.setImm,Nat.ne_of_lt this,h6 i hi]
  famdisj:=h.famdisj
  glob:=fun g i v hv=>himm g i v (h.glob g i v hv)
  gfix:=h.gfix
  old:=by
   intro b i hm
   have:b≠w.heap.size:=fun e=>hm (.inl (e▸h.below.size))
   simp only [Gh.setImm,this,if_false]
   exact h.old b i hm},hx⟩
theorem Rel.newFam (h:Rel gl w0 G st w) {b e lim p:Nat} {C:Array Value} {el:TypeId} (hbB:w0.mine b)
  (hb:w.heap[b]? =some (.cells C el (0,0))) (hlim:lim≤C.size) (hi':∀i,e≤i→G.imm b i=none)
  (hv:∀(id:Nat) (cs:List V),st.vars[id]? =some cs→V.gone cs=false→G.var id≠some b)
  (hd:∀(t q e' l':Nat),st.fams[t]? =some q→G.tip t q≠some (b,e',l')):
  Rel gl w0 (G.setTip st.fams.length p (b,e,lim)) (st.pushFam p) w∧Ext st G (G.setTip st.fams.length p (b,e,lim)):=by
 have hlt:∀(t q:Nat),st.fams[t]? =some q→t<st.fams.length:=by
  intro t q h'
  rcases Nat.lt_or_ge t st.fams.length with h1|h1
  ·exact h1
  ·simp [List.getElem?_eq_none h1]at h'
 have hx:Ext st G (G.setTip st.fams.length p (b,e,lim)):=⟨fun _ _ _ h=>h,fun _ _=>rfl,fun t q _ hq _=>by
  have:=hlt t _ hq
  simp [Gh.setTip,Nat.ne_of_lt this],fun _ _=>rfl⟩
 have hl:=St.le_pushFam st p
 have key:∀(t q:Nat),(st.pushFam p).fams[t]? =some q→(t<st.fams.length∧st.fams[t]? =some q)∨(t=st.fams.length∧q=p):=by
  intro t q hc
  simp only [St.pushFam]at hc
  rcases Nat.lt_or_ge t st.fams.length with h'|h'
  ·rw [List.getElem?_append_left h']at hc
   exact .inl ⟨h',hc⟩
  ·rw [List.getElem?_append_right h']at hc
   have:t-st.fams.length=0:=by
    rcases Nat.eq_zero_or_pos (t-st.fams.length)with h0|h0
    ·exact h0
    ·rw [List.getElem?_eq_none O3]at hc; simp at hc
   rw [this]at hc
   simp at hc
   exact .inr ⟨O0,hc.symm⟩
 refine ⟨{
  below:=h.below
  vars:=by
   intro id cs hcs hn
   obtain⟨b',o',h1,h2,h3,h4,h5⟩:=h.vars id cs hcs hn
   exact⟨b',o',h1,h2,h3,h4.ext hx (h.sc id cs hcs),h5⟩
  varlt:=h.varlt
  sc:=fun id cs hcs=>V.scs_mono hl _ (h.sc id cs hcs)
  disj:=h.disj
  imm:=by
   intro b' i v hv'
   obtain⟨hp,c,hc,hr⟩:=h.imm b' i v hv'
   exact⟨hp,c,hc,hr.pure_ext hx.imm (V.pure_of_pcell hp)⟩
  fam:=by
   intro t q b' e' lim' ht hm
   rcases key t q ht with⟨h1,h2⟩|⟨rfl,rfl⟩
   ·exact h.fam t q b' e' lim' h2 (by rw [hx.tip t q q h2 (Nat.le_refl _)]at hm; exact hm)
   ·simp [Gh.setTip]at hm
    obtain⟨rfl,rfl,rfl⟩:=hm
    exact⟨hbB,C,el,hb,hlim,hi',hv⟩
  famdisj:=by
   intro t t' q q' b1 e1 l1 e2 l2 ht ht' g1 g2
   rcases key t q ht with⟨h1,h2⟩|⟨rfl,rfl⟩<;>rcases key t' q' ht' with⟨k1,k2⟩|⟨rfl,rfl⟩
   ·rw [hx.tip t q q h2 (Nat.le_refl _)]at g1
    rw [hx.tip t' q' q' k2 (Nat.le_refl _)]at g2
    exact h.famdisj t t' q q' b1 e1 l1 e2 l2 h2 k2 g1 g2
   ·rw [hx.tip t q q h2 (Nat.le_refl _)]at g1
    simp [Gh.setTip]at g2
    obtain⟨rfl,_⟩:=g2
    exact absurd g1 (hd t q _ _ h2)
   ·rw [hx.tip t' q' q' k2 (Nat.le_refl _)]at g2
    simp [Gh.setTip]at g1
    obtain⟨rfl,_⟩:=g1
    exact absurd g2 (hd t' q' _ _ k2)
   ·rfl
  glob:=h.glob
  gfix:=h.gfix
  old:=h.old},hx⟩
theorem Rel.nilFam (h:Rel gl w0 G st w):∃G',Rel gl w0 G' (st.pushFam 0) w∧Ext st G G':=by
 refine⟨{G with tip:=fun t' p'=>if t'=st.fams.length then none else G.tip t' p'}, ?_, ?_⟩
 ·have hlt:∀(t q:Nat),st.fams[t]? =some q→t<st.fams.length:=by
   intro t q h'
   rcases Nat.lt_or_ge t st.fams.length with h1|h1
   ·exact h1
   ·simp [List.getElem?_eq_none h1]at h'
  have hl:=St.le_pushFam st 0
  have key:∀(t q:Nat) (x:Nat×Nat×Nat),(st.pushFam 0).fams[t]? =some q→(if t=st.fams.length then none else G.tip t q)=some x→st.fams[t]? =some q∧G.tip t q=some x:=by
   intro t q x hc hx
   split at hx
   ·cases hx
   ·rename_i hne
    simp only [St.pushFam]at hc
    rcases Nat.lt_or_ge t st.fams.length with h'|h'
    ·rw [List.getElem?_append_left h']at hc
     exact⟨hc,hx⟩
    ·rw [List.getElem?_append_right h',List.getElem?_eq_none O3]at hc; cases hc
  have hx:Ext st G {G with tip:=fun t' p'=>if t'=st.fams.length then none else G.tip t' p'}:=⟨fun _ _ _ h=>h,fun _ _=>rfl,fun t p q hq _=>by simp [Nat.ne_of_lt (hlt t q hq)],fun _ _=>rfl⟩
  exact {
   below:=h.below
   vars:=by
    intro id cs hcs hn
    obtain⟨b',o',h1,h2,h3,h4,h5⟩:=h.vars id cs hcs hn
    exact⟨b',o',h1,h2,h3,h4.ext hx (h.sc id cs hcs),h5⟩
   varlt:=h.varlt
   sc:=fun id cs hcs=>V.scs_mono hl _ (h.sc id cs hcs)
   disj:=h.disj
   imm:=by
    intro b' i v hv'
    obtain⟨hp,c,hc,hr⟩:=h.imm b' i v hv'
    exact⟨hp,c,hc,hr.pure_ext hx.imm (V.pure_of_pcell hp)⟩
   fam:=by
    intro t p b e lim ht h1
    obtain⟨k1,k2⟩:=key t p _ ht h1
    exact h.fam t p b e lim k1 k2
   famdisj:=by
    intro t t' p p' b e l e' l' h1 h2 g1 g2
    obtain⟨k1,k2⟩:=key t p _ h1 g1
    obtain⟨k3,k4⟩:=key t' p' _ h2 g2
    exact h.famdisj t t' p p' b e l e' l' k1 k3 k2 k4
   glob:=h.glob
   gfix:=h.gfix
   old:=h.old}
 ·exact ⟨fun _ _ _ h=>h,fun _ _=>rfl,fun t p q hq _=>by
   have:t<st.fams.length:=by
    rcases Nat.lt_or_ge t st.fams.length with h1|h1
    ·exact h1
    ·simp [List.getElem?_eq_none h1]at hq
   simp [Nat.ne_of_lt this],fun _ _=>rfl⟩
theorem Rel.moveFam (h:Rel gl w0 G st w) {t p q b e lim:Nat} {C:Array Value} {el:TypeId} (ht:st.fams[t]? =some p) (hq:p<q) (hbB:w0.mine b)
  (hb:w.heap[b]? =some (.cells C el (0,0))) (hlim:lim≤C.size) (hi':∀i,e≤i→G.imm b i=none)
  (hv:∀(id:Nat) (cs:List V),st.vars[id]? =some cs→V.gone cs=false→G.var id≠some b)
  (hd:∀(t' q' e' l':Nat),st.fams[t']? =some q'→G.tip t' q'=some (b,e',l')→t'=t):
  Rel gl w0 (G.setTip t q (b,e,lim)) (st.setFam t q) w∧Ext st G (G.setTip t q (b,e,lim)):=by
 have hx:Ext st G (G.setTip t q (b,e,lim)):=⟨fun _ _ _ h=>h,fun _ _=>rfl,fun t' p' q' hq' hp'=>by
  simp only [Gh.setTip]
  rw [if_neg]
  rintro⟨rfl,rfl⟩
  rw [ht]at hq'; injection hq' with hq'
  omega,fun _ _=>rfl⟩
 have hl:=St.le_setFam st ht (Nat.le_of_lt hq)
 have hlt:t<st.fams.length:=by
  rcases Nat.lt_or_ge t st.fams.length with h1|h1
  ·exact h1
  ·simp [List.getElem?_eq_none h1]at ht
 have key:∀(t' q':Nat),(st.setFam t q).fams[t']? =some q'→(t'≠t∧st.fams[t']? =some q')∨(t'=t∧q'=q):=by
  intro t' q' hc
  simp only [St.setFam,List.getElem?_set]at hc
  by_cases e:t=t'
  ·subst e; simp [hlt]at hc; exact .inr ⟨rfl,hc.symm⟩
  ·simp [e]at hc; exact .inl ⟨Ne.symm e,hc⟩
 refine ⟨{
  below:=h.below
  vars:=by
   intro id cs hcs hn
   obtain⟨b',o',h1,h2,h3,h4,h5⟩:=h.vars id cs hcs hn
   exact⟨b',o',h1,h2,h3,h4.ext hx (h.sc id cs hcs),h5⟩
  varlt:=h.varlt
  sc:=fun id cs hcs=>V.scs_mono hl _ (h.sc id cs hcs)
  disj:=h.disj
  imm:=by
   intro b' i v hv'
   obtain⟨hp,c,hc,hr⟩:=h.imm b' i v hv'
   exact⟨hp,c,hc,hr.pure_ext hx.imm (V.pure_of_pcell hp)⟩
  fam:=by
   intro t' q' b' e' lim' ht' hm
   rcases key t' q' ht' with⟨h1,h2⟩|⟨rfl,rfl⟩
   ·exact h.fam t' q' b' e' lim' h2 (by rw [hx.tip t' q' q' h2 (Nat.le_refl _)]at hm; exact hm)
   ·simp [Gh.setTip]at hm
    obtain⟨rfl,rfl,rfl⟩:=hm
    exact⟨hbB,C,el,hb,hlim,hi',hv⟩
  famdisj:=by
   intro t1 t2 q1 q2 b1 e1 l1 e2 l2 h1 h2 g1 g2
   rcases key t1 q1 h1 with⟨h1,h1'⟩|⟨rfl,rfl⟩<;>rcases key t2 q2 h2 with⟨h2,h2'⟩|⟨rfl,rfl⟩
   ·rw [hx.tip _ _ _ h1' (Nat.le_refl _)]at g1
    rw [hx.tip _ _ _ h2' (Nat.le_refl _)]at g2
    exact h.famdisj _ _ _ _ b1 e1 l1 e2 l2 h1' h2' g1 g2
   ·rw [hx.tip _ _ _ h1' (Nat.le_refl _)]at g1
    simp [Gh.setTip]at g2
    obtain⟨rfl,_⟩:=g2
    exact hd _ _ _ _ h1' g1
   ·rw [hx.tip _ _ _ h2' (Nat.le_refl _)]at g2
    simp [Gh.setTip]at g1
    obtain⟨rfl,_⟩:=g1
    exact(hd _ _ _ _ h2' g2).symm
   ·rfl
  glob:=h.glob
  gfix:=h.gfix
  old:=h.old},hx⟩
def Gh.fill (G:Gh) (b e:Nat) (f:Nat→Option V):Gh:={G with imm:=fun b' i=>if b'=b∧e≤i then f i else G.imm b' i}
theorem Rel.fill (h:Rel gl w0 G st w) {t p q b e e2 lim:Nat} {w':World} {C:Array Value} {el:TypeId} {f:Nat→Option V} (ht:st.fams[t]? =some p) (hq:p<q)
  (htip:G.tip t p=some (b,e,lim)) (hold:∀(C0:Array Value) el0 fz0,w.heap[b]? =some (.cells C0 el0 fz0)→el=el0∧(0,0)=fz0∧C.size=C0.size∧∀i:Nat,i<e→C[i]? =C0[i]?)
  (hc:Chg w w' b (.cells C el (0,0))) (he:e≤e2)
  (hf:∀i v,f i=some v→i<e2∧V.pcell v=true∧∃c,C[i]? =some c∧VR G v c):
  Rel gl w0 ((G.fill b e f).setTip t q (b,e2,lim)) (st.setFam t q) w'∧Ext st G ((G.fill b e f).setTip t q (b,e2,lim)):=by
 obtain⟨g2,C0,el0,g3,g4,g6,g7⟩:=h.fam t p b e lim ht htip
 obtain⟨o1,o2,o3,o4⟩:=hold _ _ _ g3
 subst o1
 have himm:∀b' i v,G.imm b' i=some v→(G.fill b e f).imm b' i=some v:=by
  intro b' i v hv
  simp only [Gh.fill]
  split
  ·rename_i hh
   obtain⟨rfl,hh⟩:=hh
   rw [g6 i hh]at hv; cases hv
  ·exact hv
 have hx1:Ext st G (G.fill b e f):=⟨himm,fun _ _=>rfl,fun _ _ _ _ _=>rfl,fun _ _=>rfl⟩
 have hother:∀b',b'≠b→w'.heap[b']? =w.heap[b']? :=hc.other
 have hx:Ext st G ((G.fill b e f).setTip t q (b,e2,lim)):=⟨himm,fun _ _=>rfl,fun t' p' q' hq' hp'=>by
  simp only [Gh.setTip,Gh.fill]
  rw [if_neg]
  rintro⟨rfl,rfl⟩
  rw [ht]at hq'; injection hq' with hq'
  omega,fun _ _=>rfl⟩
 have hl:=St.le_setFam st ht (Nat.le_of_lt hq)
 have hlt:t<st.fams.length:=by
  rcases Nat.lt_or_ge t st.fams.length with h1|h1
  ·exact h1
  ·simp [List.getElem?_eq_none h1]at ht
 have key:∀(t' q':Nat),(st.setFam t q).fams[t']? =some q'→(t'≠t∧st.fams[t']? =some q')∨(t'=t∧q'=q):=by
  intro t' q' hc
  simp only [St.setFam,List.getElem?_set]at hc
  by_cases e:t=t'
  ·subst e; simp [hlt]at hc; exact .inr ⟨rfl,hc.symm⟩
  ·simp [e]at hc; exact .inl ⟨Ne.symm e,hc⟩
 refine ⟨{
  below:=h.below.step hc.os hc.tape hc.output (by rw [hc.size]; exact Nat.le_refl _) (fun k _ hm=>hc.other k (fun e=>hm (e▸g2)))
  vars:=by
   intro id cs hcs hn
   obtain⟨b',o',k1,k2,k3,k4,k6⟩:=h.vars id cs hcs hn
   have hne:b'≠b:=fun hh=>g7 id cs hcs hn (hh▸k1)
   refine⟨b',o',k1,k2,by rw [hother b' hne]; exact k3,k4.ext hx (h.sc id cs hcs), ?_⟩
   intro i
   show(if b'=b∧e≤i then f i else G.imm b' i)=none
   rw [if_neg (fun hh=>hne hh.1)]; exact k6 i
  varlt:=by rw [hc.size]; exact h.varlt
  sc:=fun id cs hcs=>V.scs_mono hl _ (h.sc id cs hcs)
  disj:=h.disj
  imm :=by
   intro b' i v hv
   by_cases hb':b'=b∧e≤i
   ·obtain⟨rfl,hi⟩:=hb'
    simp only [Gh.setTip,Gh.fill,hi,and_self,if_true]at hv
    obtain⟨_,hp,c,hcc,hr⟩:=hf i v hv
    exact⟨hp,c,by rw [cell_of_heap hc.at_]; exact hcc,hr.pure_ext hx.imm (V.pure_of_pcell hp)⟩
   ·simp only [Gh.setTip,Gh.fill,hb',if_false]at hv
    obtain⟨hp,c,hcc,hr⟩:=h.imm b' i v hv
    refine⟨hp,c, ?_,hr.pure_ext hx.imm (V.pure_of_pcell hp)⟩
    by_cases hbb:b'=b
    ·subst hbb
     rw [cell_of_heap hc.at_,o4 i O0,←cell_of_heap g3]; exact hcc
    ·rw [gx (w:=w) (hother b' hbb)]; exact hcc
  fam :=by
   intro t' q' b' e' lim' ht' m1
   rcases key t' q' ht' with⟨k1,k2⟩|⟨rfl,rfl⟩
   ·rw [hx.tip t' q' q' k2 (Nat.le_refl _)]at m1
    obtain⟨m2,C',el',m3,m4,m6,m7⟩:=h.fam t' q' b' e' lim' k2 m1
    have hne:b'≠b:=by
     rintro rfl
     exact k1 (h.famdisj _ _ _ _ _ _ _ _ _ k2 ht m1 htip)
    exact ⟨m2,C',el',by rw [hother b' hne]; exact m3,m4,
     fun i hi=>by simp [Gh.setTip,Gh.fill,hne,m6 i hi],m7⟩
   ·simp [Gh.setTip]at m1
    obtain⟨rfl,rfl,rfl⟩:=m1
    refine⟨g2,C,el,hc.at_,O0, ?_,g7⟩
    intro i hi
    have:e≤i:=O0
    simp only [Gh.setTip,Gh.fill,this,and_self,if_true]
    cases hfi:f i with
    |none=>rfl
    |some v=>have:=(hf i v hfi).1; omega
  famdisj:=by
   intro t1 t2 q1 q2 b1 e1 l1 e2' l2 h1 h2 k1 k2
   rcases key t1 q1 h1 with⟨h1,h1'⟩|⟨rfl,rfl⟩<;>rcases key t2 q2 h2 with⟨h2,h2'⟩|⟨rfl,rfl⟩
   ·rw [hx.tip _ _ _ h1' (Nat.le_refl _)]at k1
    rw [hx.tip _ _ _ h2' (Nat.le_refl _)]at k2
    exact h.famdisj _ _ _ _ b1 e1 l1 e2' l2 h1' h2' k1 k2
   ·rw [hx.tip _ _ _ h1' (Nat.le_refl _)]at k1
    simp [Gh.setTip]at k2
    obtain⟨rfl,_⟩:=k2
    exact h.famdisj _ _ _ _ _ _ _ _ _ h1' ht k1 htip
   ·rw [hx.tip _ _ _ h2' (Nat.le_refl _)]at k2
    simp [Gh.setTip]at k1
    obtain⟨rfl,_⟩:=k1
    exact(h.famdisj _ _ _ _ _ _ _ _ _ h2' ht k2 htip).symm
   ·rfl
  glob:=fun g i v hv=>himm g i v (h.glob g i v hv)
  gfix:=h.gfix
  old:=by
   intro b' i hm
   have:b'≠b:=fun e=>hm (e▸g2)
   show(if b'=b∧e≤i then f i else G.imm b' i)=_
   rw [if_neg (fun hh=>this hh.1)]
   exact h.old b' i hm},hx⟩
theorem Rel.forget (h:Rel gl w0 G st w) {st':St} (hv:st'.vars.length≤st.vars.length) (hf:∀(t p:Nat),st'.fams[t]? =some p→st.fams[t]? =some p)
  (hc:∀(id:Nat) (cs:List V),st'.vars[id]? =some cs→V.scs st' cs∧(V.gone cs=false→∃c0,st.vars[id]? =some c0∧V.gone c0=false∧∀r o,VO G r c0 o→VO G r cs o)):Rel gl w0 G st' w where
 below:=h.below
 vars:=by
  intro id cs hcs hn
  obtain⟨c0,a1,a2,a3⟩:=(hc id cs hcs).2 hn
  obtain⟨b',o',k1,k2,k3,k4,k5⟩:=h.vars id c0 a1 a2
  exact⟨b',o',k1,k2,k3,a3 _ _ k4,k5⟩
 varlt:=fun id b hi hb=>h.varlt id b (Nat.lt_of_lt_of_le hi hv) hb
 sc:=fun id cs hcs=>(hc id cs hcs).1
 disj:=by
  intro i j b ci cj hi hni hj hnj h1 h2
  obtain⟨_,a1,a2,_⟩:=(hc i ci hi).2 hni
  obtain⟨_,a3,a4,_⟩:=(hc j cj hj).2 hnj
  exact h.disj i j b _ _ a1 a2 a3 a4 h1 h2
 imm:=h.imm
 fam:=by
  intro t p b' e' lim' ht m1
  obtain⟨m2,C',el',m3,m4,m6,m7⟩:=h.fam t p b' e' lim' (hf t p ht) m1
  refine⟨m2,C',el',m3,m4,m6,fun id cs hcs hn=> ?_⟩
  obtain⟨c0,a1,a2,_⟩:=(hc id cs hcs).2 hn
  exact m7 id c0 a1 a2
 famdisj:=fun t t' p p' b e l e' l' h1 h2=>h.famdisj t t' p p' b e l e' l' (hf _ _ h1) (hf _ _ h2)
 glob:=h.glob
 gfix:=h.gfix
 old:=h.old
end
end Go.Abs
end
