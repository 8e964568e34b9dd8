/- Abstract values: a part. No condition beyond each statement's own. -/
import Derived.Test.YthfhicembdpjpaaGreatDoorA27
set_option linter.all false
section
namespace Go.Abs
open Go.RowKit (Below)
section
variable {gl:Nat→List V} {w0:qQ} {G:Gh} {st:St} {w:World}
theorem Rel.goneVar (h:Rel gl w0 G st w) (id:Nat) {cells:List V} (hg:V.gone cells=true) (o:Option Nat) (r:Nat) (ho:∀b,o=some b→b<w.heap.size):
  Rel gl w0 {G with var:=fun k=>if k=st.vars.length then o else G.var k,room:=fun k=>if k=st.vars.length then r else G.room k} ((st.put id []).push cells) w ∧
  Ext st G {G with var:=fun k=>if k=st.vars.length then o else G.var k,room:=fun k=>if k=st.vars.length then r else G.room k}:=by
 have hx:Ext st G {G with var:=fun k=>if k=st.vars.length then o else G.var k,room:=fun k=>if k=st.vars.length then r else G.room k}:=
  ⟨fun _ _ _ h=>h,fun id hid=>by simp [Nat.ne_of_lt hid],fun _ _ _ _ _=>rfl,fun id hid=>by simp [Nat.ne_of_lt hid]⟩
 have hlen:(st.put id []).vars.length=st.vars.length:=by simp [St.put]
 have hl:st.le ((st.put id []).push cells):=(St.le_put st id []).trans (St.le_push _ _)
 have k:∀(x:Nat) (c:List V),((st.put id []).push cells).vars[x]? =some c→V.gone c=false→x<st.vars.length∧st.vars[x]? =some c:=by
  intro x c hc hn
  simp only [St.push]at hc
  rcases Nat.lt_or_ge x st.vars.length with h'|h'
  ·rw [List.getElem?_append_left (by rw [hlen]; exact h')]at hc
   rcases St.put_get hc with⟨rfl,rfl⟩|⟨_,hx⟩
   ·exact absurd hn (by simp [V.gone])
   ·exact⟨h',hx⟩
  ·rw [List.getElem?_append_right (by rw [hlen]; exact h'),hlen]at hc
   rcases Nat.eq_zero_or_pos (x-st.vars.length)with h0|h0
   ·rw [h0]at hc; simp at hc; subst hc; rw [hg]at hn; cases hn
   ·rw [List.getElem?_eq_none O3]at hc; simp at hc
 refine ⟨{
  below:=h.below
  vars:=fun x c hc hn=>by
   obtain⟨lx,hc⟩:=k x c hc hn
   obtain⟨b,o',h1,h2,h3,h4,h5⟩:=h.vars x c hc hn
   exact⟨b,o',by rw [hx.var x lx]; exact h1,h2,h3,by rw [hx.room x lx]; exact h4.ext hx (h.sc x c hc),h5⟩
  varlt:=by
   intro id' b hi hb
   simp only [St.push,List.length_append,List.length_singleton,hlen]at hi
   by_cases e:id'=st.vars.length
   ·simp [e]at hb; exact ho b hb
   ·simp [e]at hb
    exact h.varlt id' b O0 hb
  sc:=by
   intro x c hc
   cases hg':V.gone c with
   |true=>exact V.scs_gone _ hg'
   |false=>exact V.scs_mono hl _ (h.sc x _ (k x _ hc hg').2)
  disj:=by
   intro i j b ci cj hi hni hj hnj h1 h2
   obtain⟨li,hi⟩:=k i ci hi hni
   obtain⟨lj,hj⟩:=k j cj hj hnj
   simp only [Nat.ne_of_lt li,Nat.ne_of_lt lj,if_false]at h1 h2
   exact h.disj i j b ci cj hi hni hj hnj h1 h2
  imm:=by
   intro b i v hv
   obtain⟨hp,c,hc,hr⟩:=h.imm b i v hv
   exact⟨hp,c,hc,hr.pure_ext hx.imm (V.pure_of_pcell hp)⟩
  fam:=by
   intro t p b e lim ht h1
   obtain⟨h2,C',el',h3,h4,h6,h7⟩:=h.fam t p b e lim ht h1
   refine⟨h2,C',el',h3,h4,h6, ?_⟩
   intro id cs hcs hn
   obtain⟨li,hi⟩:=k id cs hcs hn
   simp only [Nat.ne_of_lt li,if_false]
   exact h7 id cs hi hn
  famdisj:=h.famdisj
  glob:=h.glob
  gfix:=h.gfix
  old:=h.old},hx⟩
theorem Rel.moveAny (h:Rel gl w0 G st w) {id:Nat} {cells:List V} (hid:st.vars[id]? =some cells):
  ∃G',Rel gl w0 G' ((st.put id []).push cells) w∧Ext st G G'∧G'.var st.vars.length=G.var id∧G'.room st.vars.length=G.room id:=by
 cases hg:V.gone cells with
 | true=>
  obtain⟨h1,h2⟩:=h.goneVar id hg (G.var id) (G.room id) (fun b hb=>h.varlt id b (Zo hid) hb)
  exact⟨_,h1,h2,O2,O2⟩
 | false=>
  obtain⟨b,o,k1,_⟩:=h.vars id cells hid hg
  obtain⟨h1,h2⟩:=h.moveVar hid hg k1
  exact⟨_,h1,h2,by simp [Gh.setVar,k1],by simp [Gh.setVar]⟩
theorem Rel.freeze (h:Rel gl w0 G st w) {id b n sz cap:Nat} {cs:List V} (hid:st.vars[id]? =some [.buf cs]) (hb:G.var id=some b) (hn:0<n) (hsz:0<sz) (hlen:n*sz≤cs.length) (hcap:n≤cap) (hroom:cap*sz≤G.room id) (p:Nat):
  ∃G',Rel gl w0 G' ((st.put id []).pushFam p) w∧Ext st G G'∧VR G' (.sl sz (bw sz n (cs.take (n*sz))) (.fam st.fams.length p)) (.slice (some ⟨b,0,none⟩) n cap):=by
 have hpos:0<n*sz:=Nat.mul_pos hn hsz
 have hg:=V.gone_buf (cs:=cs) O0
 obtain⟨C,el,h2,h3,hpc,h4,h4',h5⟩:=h.bufOf hid O0 hb
 obtain⟨_,_,_,_,_,_,himm⟩:=h.vars id _ hid hg
 have hbi:∀i,G.imm b i=none:=by
  obtain⟨b',o,k1,k2,k3,k4,k5⟩:=h.vars id _ hid hg
  rw [hb]at k1; injection k1 with k1; subst k1; exact k5
 let f:Nat→Option V:=fun i=>(cs.take (n*sz))[i]?
 have hi0:∀b' i v,G.imm b' i=some v→(G.setImm b f).imm b' i=some v:=by
  intro b' i v hv
  simp only [Gh.setImm]
  split
  ·rename_i e; subst e; rw [hbi i]at hv; cases hv
  ·exact hv
 have hx:Ext st G (G.setImm b f):=⟨hi0,fun _ _=>rfl,fun _ _ _ _ _=>rfl,fun _ _=>rfl⟩
 have hk:=h.kill id
 have hxk:Ext (st.put id []) G (G.setImm b f):=⟨hi0,fun _ _=>rfl,fun _ _ _ _ _=>rfl,fun _ _=>rfl⟩
 have hne:∀(x:Nat) (c:List V),(st.put id []).vars[x]? =some c→V.gone c=false→G.var x≠some b:=by
  intro x c hc hn hb'
  rcases St.put_get hc with⟨rfl,rfl⟩|⟨hne,hc⟩
  ·exact absurd hn (by simp [V.gone])
  ·exact hne (h.disj x id b _ _ hc hn hid hg hb' hb)
 have hnf:∀(t q e l:Nat),st.fams[t]? =some q→G.tip t q≠some (b,e,l):=by
  intro t q e l ht h1
  obtain⟨_,_,_,_,_,_,h7⟩:=h.fam t q b e l ht h1
  exact h7 id _ hid hg hb
 have hr1:Rel gl w0 (G.setImm b f) (st.put id []) w:={
  below:=hk.below
  vars:=by
   intro x c hc hn
   obtain⟨b',o,k1,k2,k3,k4,k5⟩:=hk.vars x c hc hn
   have:b'≠b:=fun e=>hne x c hc hn (e▸k1)
   exact⟨b',o,k1,k2,k3,k4.ext hxk (hk.sc x c hc),fun i=>by simp [Gh.setImm,this,k5 i]⟩
  varlt:=hk.varlt
  sc:=hk.sc
  disj:=hk.disj
  imm :=by
   intro b' i v hv
   by_cases e:b'=b
   ·subst e
    simp only [Gh.setImm,if_true]at hv
    have hv':cs[i]? =some v:=by
     simp only [f,List.getElem?_take]at hv
     split at hv
     ·exact hv
     ·cases hv
    have hp:=hpc v (List.mem_of_getElem? hv')
    have hj:i<C.size:=Nat.lt_of_lt_of_le (Zo hv') h4
    exact⟨hp,C[i],by rw [cell_of_heap h3]; simp [hj],(h4' i v _ hv' (by simp [hj])).pure_ext hi0 (V.pure_of_pcell hp)⟩
   ·simp only [Gh.setImm,e,if_false]at hv
    obtain⟨hp,c,hc,hr⟩:=hk.imm b' i v hv
    exact⟨hp,c,hc,hr.pure_ext hi0 (V.pure_of_pcell hp)⟩
  fam:=by
   intro t q b' e l ht h1
   obtain⟨m2,C',el',m3,m4,m6,m7⟩:=hk.fam t q b' e l ht h1
   have:b'≠b:=fun e'=>hnf t q e l ht (e'▸h1)
   exact⟨m2,C',el',m3,m4,fun i hi=>by simp [Gh.setImm,this,m6 i hi],m7⟩
  famdisj:=hk.famdisj
  glob:=fun g i v hv=>hi0 g i v (hk.glob g i v hv)
  gfix:=hk.gfix
  old:=by
   intro b' i hm
   have:b'≠b:=fun e=>hm (e▸h2)
   simp only [Gh.setImm,this,if_false]
   exact hk.old b' i hm}
 obtain ⟨hr2,hx2⟩:=hr1.newFam (p:=p) (b:=b) (e:=n*sz) (lim:=cap*sz) h2 h3 (Nat.le_trans hroom h5) (by
  intro i hi
  simp only [Gh.setImm,if_true,f,List.getElem?_take]
  rw [if_neg O0]) hne hnf
 have hfl:(st.put id []).fams.length=st.fams.length:=rfl
 refine⟨_,hr2,hx.trans (St.le_put st id []) hx2, ?_⟩
 have hcl:(cs.take (n*sz)).length=n*sz:=O3
 obtain⟨c1,c2,c3⟩:=Xc sz n (cs.take (n*sz)) hcl
 have:=VR.sl (G:=(G.setImm b f).setTip (st.put id []).fams.length p (b,n*sz,cap*sz)) (sz:=sz) (es:=bw sz n (cs.take (n*sz))) (tok:= .fam st.fams.length p) (b:=b) (o:=0) (cap:=cap)
  (p7 c3 (by
   intro i v hv
   rw [c2]at hv
   show(if b=b then f (0+i)else G.imm b (0+i))=some v
   rw [if_pos rfl,Nat.zero_add]; exact hv)) ⟨cap*sz,by simp [Gh.setTip,c1,hfl],O0⟩ O0
 rw [c1]at this
 exact this
end
section
variable {s0 st:St} {fr:AFr}
theorem Wk.move (t id n sz:Nat) {cells:List V} (h:wh fr.l t= .own id n sz) (hid:st.vars[id]? =some cells) (ht:t<fr.n):Wk s0 fr st (fr.put (some t) (.own st.vars.length n sz)) ((st.put id []).push cells):=by
 intro gl w0 G0 G w a g1 g2 g3 g4
 obtain⟨G',h1,h2,h3,h4⟩:=g3.moveAny hid
 have hl:st.le ((st.put id []).push cells):=(St.le_put st id []).trans (St.le_push _ _)
 have g5:=g4.ext h2 hl
 refine⟨g1.trans hl,G',g2.trans g1 h2,h1,g4.defers,by simp only [AFr.put]; split<;>exact g4.size, ?_⟩
 intro t'
 have h':=g5.slot t'
 simp only [AFr.put,ht,if_true,dz]
 split
 ·rename_i e; subst e
  have hs:=(g4.slot t').2
  rw [h]at hs
  refine⟨by simp [V.sc,St.push,St.put], ?_⟩
  generalize a.tmps.getD t' undef=c at hs
  cases hs with
  |own k0 k1 k2 k3=>exact .own k0 (by rw [h3]; exact k1) k2 (by rw [h4]; exact k3)
  |ownnil=>exact .ownnil _ _
  |ownz=>exact .ownz _ _ _ _
 ·exact h'
theorem Wk.freeze (t id n sz p:Nat) {cs:List V} (h:wh fr.l t= .own id n sz) (hid:st.vars[id]? =some [.buf cs]) (hsz:0<sz) (hlen:n*sz≤cs.length) (ht:t<fr.n):
  Wk s0 fr st (fr.put (some t) (.sl sz (bw sz n (cs.take (n*sz))) .none)) (st.put id []):=by
 intro gl w0 G0 G w a g1 g2 g3 g4
 have hs:=(g4.slot t).2
 rw [h]at hs
 generalize hq:a.tmps.getD t undef=c at hs
 have hl:st.le (st.put id []):=St.le_put st id []
 cases hs with
 | own k0 k1 k2 k3=>
  obtain⟨G',h1,h2,h3⟩:=g3.freeze hid k1 k0 hsz hlen k2 k3 n
  have hf:Rel gl w0 G' (st.put id []) w:=by
   refine h1.forget (by simp [St.pushFam,St.put]) ?_ ?_
   ·intro t' q ht'
    have:t'<st.fams.length:=Zo ht'
    simp only [St.pushFam,St.put]at ht' ⊢
    rw [List.getElem?_append_left this]; exact ht'
   ·intro x c hc
    exact⟨(g3.kill id).sc x c hc,fun hn=>⟨c,hc,hn,fun _ _ x=>x⟩⟩
  have hx:Ext st G G':=h2
  have g5:=g4.ext hx hl
  refine⟨g1.trans hl,G',g2.trans g1 hx,hf,g4.defers,by simp only [AFr.put]; split<;>exact g4.size, ?_⟩
  intro t'
  have h':=g5.slot t'
  simp only [AFr.put,ht,if_true,dz]
  split
  ·rename_i e; subst e
   refine⟨by simp [V.sc], ?_⟩
   rw [hq]
   have:=h3.pur
   simpa [V.pur] using this
  ·exact h'
 | ownnil=>
  refine⟨g1.trans hl,G,g2,g3.kill id,g4.defers,by simp only [AFr.put]; split<;>exact g4.size, ?_⟩
  intro t'
  have h':=g4.slot t'
  simp only [AFr.put,ht,if_true,dz]
  split
  ·rename_i e; subst e
   refine⟨by simp [V.sc], ?_⟩
   rw [hq]
   simp only [Nat.zero_mul,List.take_zero,bw]
   exact .slnil _ _
  ·exact⟨V.sc_mono hl _ h'.1,h'.2⟩
 | ownz id1 sz1 b1 cap1=>
  refine⟨g1.trans hl,G,g2,g3.kill id,g4.defers,by simp only [AFr.put]; split<;>exact g4.size, ?_⟩
  intro t'
  have h':=g4.slot t'
  simp only [AFr.put,ht,if_true,dz]
  split
  ·rename_i e; subst e
   refine⟨by simp [V.sc], ?_⟩
   rw [hq]
   simp only [Nat.zero_mul,List.take_zero,bw]
   exact .sl (es:= []) (fun i e he=>by simp at he) trivial (Nat.zero_le _)
  ·exact⟨V.sc_mono hl _ h'.1,h'.2⟩
end
section
variable {P:Program} {T:TypeId→TI} {gl:Nat→List V} {ops:Array Oper} {K:AFr→St→Prop} {E:List Nat} {B:List (List Nat)}
theorem kIf {Q:Prop} (b:Bool) (ht:b=true→Q) (hf:b=false→Q):Q:=by
 cases b with
 |true=>exact ht rfl
 |false=>exact hf rfl
theorem Pc (hT:T=ti P) {i:Nat} {x:Cfg} (k m f id:Nat) {cell:Option (List V)} {q:St→Option (V×St)} {v:V} {F:St→St}
  (hq:∀st:St,st.vars.length=m→st.fams.length=f→st.vars[id]? =cell→q st=some (v,F st)) (hik:Nat.ble i k=true)
  (he:((ve T gl ops i k x).2.vars.length,(ve T gl ops i k x).2.fams.length,(ve T gl ops i k x).2.vars[id]?,gy T gl ops i k x)=(m,f,cell,q (ve T gl ops i k x).2))
  (h:y0 P gl ops (k+1) (bg (ve T gl ops i k x) (we ops k) v F) K):y0 P gl ops i x K:=by
 injection he with he1 he; injection he with he2 he; injection he with he3 he4
 have h1:=hq _ he1 he2 he3
 rw [qO]at he1 he2 he3 he4 h1
 rw [YT]at he4
 rw [qO,pw]at h
 unfold y0 at h ⊢
 exact V6 hT k h1 hik he4 h
end
section
variable {P:Program} {gl:Nat→List V} {ops:Array Oper} {s0:St} {cs:List Code} {AQ:Exit→AFr→St→Prop}
theorem Kn {id:Nat} {fr:AFr} {st:St} (h:y0 P gl ops 0 (fr,st) (zE P gl s0 cs AQ)):zE P gl s0 (.region id ops false::cs) AQ fr st:=by
 unfold y0 at h
 exact gI.of (uj.region (pB (fun _ _ h=>h) _ _ _ h))
theorem Uh {i:Nat} {x:Cfg} (fr':AFr) (st':St) (hcl:Cl s0 (zE P gl s0 cs AQ)) (h:y0 P gl ops i x (toW s0 fr' st')) (h2:zE P gl s0 cs AQ fr' st'):y0 P gl ops i x (zE P gl s0 cs AQ):=by
 unfold y0 at h ⊢
 exact pB (fun _ _ hw=>hcl _ _ _ _ hw h2) _ _ _ h
end
section
variable {P:Program} {gl:Nat→List V} {s0:St} {c:Code} {cs:List Code} {AQ:Exit→AFr→St→Prop} {fr:AFr} {st:St}
end
def vI (k:IntKind) (n:Int):V:= .int k n
def vS (s:List UInt8):V:= .str s
def U1 {α:Type} (c:α→V):Prop:=∀x,V.pcell (c x)=true
theorem uI (k:IntKind):U1 (vI k):=fun _=>rfl
theorem uS:U1 vS:=fun _=>rfl
def pJ (n:Nat) (i:Int):Option Nat:=if 0≤i∧i<n then some i.toNat else none
theorem XF {n id:Nat} {i:Int} {j:Nat} {e:TypeId} {sz b:Nat} (h:pJ n i=some j):kp (.slice e sz b) (.own id n sz) i=some (.ptr id (j*sz)):=by
 unfold pJ at h
 split at h
 ·rename_i hc; injection h with h; subst h
  simp [kp,hc]
 ·cases h
theorem Dw {α:Type} {c:α→V} {l:List α} {off:Nat} {x:α} (h:l[off]? =some x):rd (l.map c) off 1 false=some (c x):=by
 simp [rd,h]
theorem KV {α:Type} {c:α→V} {l:List α} {off:Nat} {x:α} (h:l[off]? =some x):(if(l.map c).length=0 then none else rd (l.map c) off 1 false)=some (c x):=by
 have:(l.map c).length≠0:=by
  have:=yj h
  simp; intro h'; subst h'; simp at this
 rw [if_neg this]; exact Dw h
def VT {α:Type} (l:List α) (off:Nat) (x:α):Option (List α):=if off<l.length then some (l.set off x)else none
theorem YZ {α:Type} {T:TypeId→TI} {c:α→V} (U:U1 c) {l l':List α} {off id m f:Nat} {x:α} {t:TypeId} (hok:(T t).ok=true) (h:VT l off x=some l'):
  ∀st:St,st.vars.length=m→st.fams.length=f→st.vars[id]? =some [.buf (l.map c)]→(match XK st (.ptr id off) (c x) 1 with|some st'=>if(T t).ok=true then some (V.junk,st')else none|none=>none)=some (.junk,st.put id [.buf (l'.map c)]):=by
 intro st _ _ hc
 unfold VT at h
 split at h
 ·rename_i hlt
  injection h with h; subst h
  have hu:=U x
  have hcells:(c x).cells= [c x]:=by
   have:=V.isCell_of_pcell hu
   cases hq:c x<;>rw [hq]at this<;>first|rfl|(simp [V.isCell]at this)
  have hset:List.take off (l.map c) ++ [c x]++List.drop (off+1) (l.map c)=(l.set off x).map c:=by
   rw [List.map_set,List.set_eq_take_append_cons_drop,if_pos (O7 hlt)]
   simp
  have hp:V.pcells [c x]=true:=by rw [V.pcells,List.all_cons,hu]; rfl
  simp only [XK,hc,hcells,List.length_singleton,List.length_map,hp,hok,and_self,if_true]
  rw [if_pos ⟨trivial,O0,O0,trivial⟩]
  simp only [hset]
 ·cases h
def GA {α:Type} (bytes n:Nat) (l l2:List α):Option (List α):=if l.length=n∧l2.length≠0∧0<n∧(n+l2.length)*bytes≤140737488355328 then some (l++l2)else none
theorem Pb {α:Type} {T:TypeId→TI} {c:α→V} {l l2 l':List α} {n id m f:Nat} {e e2:TypeId} {bytes b2:Nat} {tok2:Tok} (ho:gC T e 1 bytes=true) (h:GA bytes n l l2=some l'):
  ∀ st:St,st.vars.length=m→st.fams.length=f→st.vars[id]? =some [.buf (l.map c)] →
   vL T st (.slice e 1 bytes) (.slice e2 1 b2) (.own id n 1) (.sl 1 (l2.map fun x=> [c x]) tok2)=some (.own m (n+l2.length) 1,(st.put id []).push [.buf (l'.map c)]):=by
 intro st hm _ hc
 simp only [gC,iE,beq_iff_eq,decide_eq_true_eq]at ho
 obtain⟨⟨⟨h1,h2⟩,h3⟩,h4⟩:=ho
 unfold GA at h
 split at h
 ·rename_i hb; injection h with h; subst h
  obtain⟨hb1,hb2,hb4,hb3⟩:=hb
  have hfl:(l2.map fun x=> [c x]).flatten=l2.map c:=by
   generalize l2=l3
   induction l3 with
   |nil=>rfl
   |cons a r ih=>simp [ih]
  simp only [vL,h1,h2,h3,Wb,and_self,if_true,List.length_map,hb2,if_false,hb3,hb4,h4,hc,hm,hfl,Nat.mul_one,hb1,List.map_append]
 ·cases h
def Un (bytes:Nat) (li ci:Int):Option Nat:=if 0<li∧li≤ci∧bytes*ci≤140737488355328∧ci≤140737488355328 then some li.toNat else none
theorem K8 {α:Type} {T:TypeId→TI} {c:α→V} (U:U1 c) (z:α) {li ci:Int} {k1 k2:IntKind} {n id m f:Nat} {cell:Option (List V)} {e:TypeId} {bytes:Nat} (hz:((T e).zok=true∧(T e).zero.cells= [c z])) (h:Un bytes li ci=some n):
  ∀st:St,st.vars.length=m→st.fams.length=f→st.vars[id]? =cell→Vz T st (.slice e 1 bytes) (.int k1 li) (.int k2 ci)=some (.own m n 1,st.push [.buf ((List.replicate n z).map c)]):=by
 intro st hm _ _
 unfold Un at h
 split at h
 ·rename_i hc; injection h with h; subst h
  obtain⟨h1,h2,h3,h4⟩:=hc
  have hp:V.pcells [c z]=true:=by rw [V.pcells,List.all_cons,U z]; rfl
  have hne:¬(li=0):=O0
  have hle:0≤li:=O0
  have hzr:uh li.toNat [c z]=(List.replicate li.toNat z).map c:=by
   simp only [uh,List.map_replicate]
   generalize li.toNat=n
   induction n with
   |zero=>rfl
   |succ n ih=>simp [List.replicate_succ,ih]
  simp only [Vz,hz.1,hz.2,hle,h2,h3,h4,hp,List.length_singleton,Nat.lt_one_iff,and_self,if_true,hne,if_false,hm,hzr]
 ·cases h
def QP (bytes:Nat) (ci:Int):Option Unit:=if 0≤ci∧bytes*ci≤140737488355328∧ci≤140737488355328 then some ()else none
theorem Gv {α:Type} {T:TypeId→TI} {c:α→V} (U:U1 c) (z:α) {ci:Int} {k1 k2:IntKind} {id m f:Nat} {cell:Option (List V)} {e:TypeId} {bytes:Nat} {u:Unit} (hz:((T e).zok=true∧(T e).zero.cells= [c z])) (h:QP bytes ci=some u):
  ∀st:St,st.vars.length=m→st.fams.length=f→st.vars[id]? =cell→Vz T st (.slice e 1 bytes) (.int k1 0) (.int k2 ci)=some (.sl 1 [] (.fam f 0),st.pushFam 0):=by
 intro st _ hf _
 unfold QP at h
 split at h
 ·rename_i hc
  obtain⟨h1,h2,h3⟩:=hc
  have hp:V.pcells [c z]=true:=by rw [V.pcells,List.all_cons,U z]; rfl
  simp only [Vz,hz.1,hz.2,h1,h2,h3,hp,List.length_singleton,Nat.lt_one_iff,Int.le_refl,and_self,if_true,hf]
 ·cases h
def osl (n:Nat) (hi:Int):Option Nat:=if 0≤hi∧hi≤n then some hi.toNat else none
theorem Qm {n id h:Nat} {hi:Int} {k:IntKind} {e:TypeId} {sz b:Nat} (hh:osl n hi=some h):bt (.slice e sz b) (.own id n sz) none (some (.int k hi)) none=some (.own id h sz):=by
 unfold osl at hh
 split at hh
 ·rename_i hc; injection hh with hh; subst hh
  have h1:0≤hi∧hi≤((n:Nat):Int):=⟨O0,hc.2⟩
  simp [bt,qM,h1]
 ·cases hh
theorem UK {α:Type} (c:α→V):∀l:List α,bw 1 l.length (l.map c)=l.map fun x=> [c x]
 | []=>rfl
 |x::r=>by simp only [List.length_cons,List.map_cons,bw]; rw [←UK c r]; simp
def Jj {α:Type} (n:Nat) (l:List α):Option (List α):=if n≤l.length then some (l.take n)else none
theorem Wk.frz {s0 st:St} {fr:AFr} {α:Type} {c:α→V} {l l':List α} (t id n:Nat) (hh:Jj n l=some l') (h:(wh fr.l t,st.vars[id]?,Nat.blt t fr.n)=(.own id n 1,some [.buf (l.map c)],true)):
  Wk s0 fr st (fr.put (some t) (.sl 1 (l'.map fun x=> [c x]) .none)) (st.put id []):=by
 unfold Jj at hh
 split at hh
 ·rename_i hc; injection hh with hh; subst hh
  injection h with h1 h; injection h with h2 h3
  have:=Wk.freeze (s0:=s0) t id n 1 0 h1 h2 O0 (O7 hc) (iD h3)
  have hl:(l.take n).length=n:=O3
  have e:bw 1 n ((l.map c).take (n*1))=(l.take n).map fun x=> [c x]:=by
   rw [Nat.mul_one,←List.map_take,←UK c (l.take n),hl]
  rw [e]at this
  exact this
 ·cases hh
def YI (s:List UInt8) (pos:Nat):Nat×Nat:=Utf8.decode ⟨s.toArray⟩ pos
theorem JZ {s:List UInt8} {pos id m f:Nat} (h:Nat.blt pos s.length=true):
  ∀st:St,st.vars.length=m→st.fams.length=f→st.vars[id]? =some [.sit s pos]→W3 st (.iter id)=some (.tuple [.bool true, .int .i64 pos, .int .i32 ((YI s pos).1:Nat)],st.put id [.sit s (pos+(YI s pos).2)]):=by
 intro st _ _ hc
 have:pos<s.length:=iD h
 simp only [W3,hc,this,if_true,YI]
theorem Qb {s:List UInt8} {pos id m f:Nat} (h:Nat.blt pos s.length=false):
  ∀st:St,st.vars.length=m→st.fams.length=f→st.vars[id]? =some [.sit s pos]→W3 st (.iter id)=some (.tuple [.bool false],st):=by
 intro st _ _ hc
 have:¬pos<s.length:=fun h'=>by
  have:=Nat.ble_eq_true_of_le h'
  rw [show Nat.ble (pos+1) s.length=Nat.blt pos s.length from rfl,h]at this; cases this
 simp only [W3,hc,this,if_false]
def lne {α:Type} (l:List α):Option Unit:=match l with
 | []=>none
 |_::_=>some ()
theorem Bk {α:Type} {c:α→List V} {l:List α} {u:Unit} {e:TypeId} {sz b:Nat} {tok:Tok} (h:lne l=some u):XW .neq (.slice e sz b) (.sl sz (l.map c) tok) .nilsl=some (.bool true):=by
 cases l with
 |nil=>cases h
 |cons x r=>rfl
def Ul {α:Type} (bytes:Nat) (l2:List α):Option (List α):=if l2.length*bytes≤140737488355328 then some l2 else none
theorem Do {α:Type} {T:TypeId→TI} {c:α→V} {l2 l':List α} {id m f:Nat} {cell:Option (List V)} {e e2:TypeId} {bytes b2:Nat} {tok2:Tok} (ho:gC T e 1 bytes=true) (h:Ul bytes l2=some l'):
  ∀ st:St,st.vars.length=m→st.fams.length=f→st.vars[id]? =cell →
   Z3 T st (.slice e 1 bytes) (.slice e2 1 b2) (.sl 1 (l2.map fun x=> [c x]) tok2)=some (.own m l'.length 1,st.push [.buf (l'.map c)]):=by
 intro st hm _ _
 simp only [gC,iE,beq_iff_eq,decide_eq_true_eq]at ho
 obtain⟨⟨⟨h1,h2⟩,h3⟩,h4⟩:=ho
 unfold Ul at h
 split at h
 ·rename_i hb; injection h with h; subst h
  have hfl:(l2.map fun x=> [c x]).flatten=l2.map c:=by
   generalize l2=l3
   induction l3 with
   |nil=>rfl
   |cons a r ih=>simp [ih]
  simp only [Z3,h1,h2,h3,h4,Wb,and_self,if_true,List.length_map,hb,hm,hfl]
 ·cases h
def KC {α:Type} (bytes:Nat) (l l2:List α):Option (List α):=if l2.length≠0∧(l.length+l2.length)*bytes≤140737488355328 then some (l++l2)else none
theorem Pq {α:Type} {T:TypeId→TI} {c:α→List V} {l l2 l':List α} {e e2:TypeId} {sz bytes b2:Nat} {tok2:Tok} {id m f:Nat} {cell:Option (List V)} (ho:gC T e sz bytes=true) (h:KC bytes l l2=some l'):
  ∀ st:St,st.vars.length=m→st.fams.length=f→st.vars[id]? =cell →
   vL T st (.slice e sz bytes) (.slice e2 sz b2) (.sl sz (l.map c) .exact) (.sl sz (l2.map c) tok2)=some (.sl sz (l'.map c) (.fam f l'.length),st.pushFam l'.length):=by
 intro st _ hf _
 simp only [gC,iE,beq_iff_eq,decide_eq_true_eq]at ho
 obtain⟨⟨⟨h1,h2⟩,h3⟩,h4⟩:=ho
 unfold KC at h
 split at h
 ·rename_i hb; injection h with h; subst h
  simp only [vL,h1,h2,h3,Wb,and_self,if_true,List.length_map,hb.1,if_false,h4,hb.2,hf,List.map_append,List.length_append]
 ·cases h
end Go.Abs
end
