/- Abstract values: a part. No condition beyond each statement's own. -/
import Derived.Test.YtkabooclnoiclaaGreatDoorA27
set_option linter.all false
section
namespace Go.Abs
open Go.RowKit (Below)
section
variable {gl:Nat→List V} {w0:zJ} {G:Gh} {st:St} {w:World}
theorem Rel.goneVar (h:Rel gl w0 G st w) (id:Nat) {cells:List V} (hg:V.gone cells=true) (o:Option Nat) (r:Nat) (ho:∀b,o=some b→b<w.heap.size):
  Rel gl w0 {G with var:=fun k=>if k=st.vars.length then o else G.var k,room:=fun k=>if k=st.vars.length then r else G.room k} ((st.put id []).push cells) w ∧
  Ext st G {G with var:=fun k=>if k=st.vars.length then o else G.var k,room:=fun k=>if k=st.vars.length then r else G.room k}:=by
 have hx:Ext st G {G with var:=fun k=>if k=st.vars.length then o else G.var k,room:=fun k=>if k=st.vars.length then r else G.room k}:=
  ⟨fun _ _ _ h=>h,fun id hid=>by simp [Nat.ne_of_lt hid],fun _ _ _ _ _=>rfl,fun id hid=>by simp [Nat.ne_of_lt hid]⟩
 have hlen:(st.put id []).vars.length=st.vars.length:=by simp [St.put]
 have hl:st.le ((st.put id []).push cells):=(St.le_put st id []).trans (St.le_push _ _)
 have k:∀(x:Nat) (c:List V),((st.put id []).push cells).vars[x]? =some c→V.gone c=false→x<st.vars.length∧st.vars[x]? =some c:=by
  intro x c hc hn
  simp only [St.push]at hc
  rcases Nat.lt_or_ge x st.vars.length with h'|h'
  ·rw [List.getElem?_append_left (by rw [hlen]; exact h')]at hc
   rcases St.put_get hc with⟨rfl,rfl⟩|⟨_,hx⟩
   ·exact absurd hn (by simp [V.gone])
   ·exact⟨h',hx⟩
  ·rw [List.getElem?_append_right (by rw [hlen]; exact h'),hlen]at hc
   rcases Nat.eq_zero_or_pos (x-st.vars.length)with h0|h0
   ·rw [h0]at hc; simp at hc; subst hc; rw [hg]at hn; cases hn
   ·rw [List.getElem?_eq_none O3]at hc; simp at hc
 refine ⟨{
  below:=h.below
  vars:=fun x c hc hn=>by
   obtain⟨lx,hc⟩:=k x c hc hn
   obtain⟨b,o',h1,h2,h3,h4,h5⟩:=h.vars x c hc hn
   exact⟨b,o',by rw [hx.var x lx]; exact h1,h2,h3,by rw [hx.room x lx]; exact h4.ext hx (h.sc x c hc),h5⟩
  varlt:=by
   intro id' b hi hb
   simp only [St.push,List.length_append,List.length_singleton,hlen]at hi
   by_cases e:id'=st.vars.length
   ·simp [e]at hb; exact ho b hb
   ·simp [e]at hb
    exact h.varlt id' b O0 hb
  sc:=by
   intro x c hc
   cases hg':V.gone c with
   |true=>exact V.scs_gone _ hg'
   |false=>exact V.scs_mono hl _ (h.sc x _ (k x _ hc hg').2)
  disj:=by
   intro i j b ci cj hi hni hj hnj h1 h2
   obtain⟨li,hi⟩:=k i ci hi hni
   obtain⟨lj,hj⟩:=k j cj hj hnj
   simp only [Nat.ne_of_lt li,Nat.ne_of_lt lj,if_false]at h1 h2
   exact h.disj i j b ci cj hi hni hj hnj h1 h2
  imm:=by
   intro b i v hv
   obtain⟨hp,c,hc,hr⟩:=h.imm b i v hv
   exact⟨hp,c,hc,hr.pure_ext hx.imm (V.pure_of_pcell hp)⟩
  fam:=by
   intro t p b e lim ht h1
   obtain⟨h2,C',el',h3,h4,h6,h7⟩:=h.fam t p b e lim ht h1
   refine⟨h2,C',el',h3,h4,h6, ?_⟩
   intro id cs hcs hn
   obtain⟨li,hi⟩:=k id cs hcs hn
   simp only [Nat.ne_of_lt li,if_false]
   exact h7 id cs hi hn
  famdisj:=h.famdisj
  glob:=h.glob
  gfix:=h.gfix
  old:=h.old},hx⟩
theorem Rel.moveAny (h:Rel gl w0 G st w) {id:Nat} {cells:List V} (hid:st.vars[id]? =some cells):
  ∃G',Rel gl w0 G' ((st.put id []).push cells) w∧Ext st G G'∧G'.var st.vars.length=G.var id∧G'.room st.vars.length=G.room id:=by
 cases hg:V.gone cells with
 | true=>
  obtain⟨h1,h2⟩:=h.goneVar id hg (G.var id) (G.room id) (fun b hb=>h.varlt id b (yo hid) hb)
  exact⟨_,h1,h2,O2,O2⟩
 | false=>
  obtain⟨b,o,k1,_⟩:=h.vars id cells hid hg
  obtain⟨h1,h2⟩:=h.moveVar hid hg k1
  exact⟨_,h1,h2,by simp [Gh.setVar,k1],by simp [Gh.setVar]⟩
theorem Rel.freeze (h:Rel gl w0 G st w) {id b n sz cap:Nat} {cs:List V} (hid:st.vars[id]? =some [.buf cs]) (hb:G.var id=some b) (hn:0<n) (hsz:0<sz) (hlen:n*sz≤cs.length) (hcap:n≤cap) (hroom:cap*sz≤G.room id) (p:Nat):
  ∃G',Rel gl w0 G' ((st.put id []).pushFam p) w∧Ext st G G'∧VR G' (.sl sz (wh sz n (cs.take (n*sz))) (.fam st.fams.length p)) (.slice (some ⟨b,0,none⟩) n cap):=by
 have hpos:0<n*sz:=Nat.mul_pos hn hsz
 have hg:=V.gone_buf (cs:=cs) O0
 obtain⟨C,el,h2,h3,hpc,h4,h4',h5⟩:=h.bufOf hid O0 hb
 obtain⟨_,_,_,_,_,_,himm⟩:=h.vars id _ hid hg
 have hbi:∀i,G.imm b i=none:=by
  obtain⟨b',o,k1,k2,k3,k4,k5⟩:=h.vars id _ hid hg
  rw [hb]at k1; injection k1 with k1; subst k1; exact k5
 let f:Nat→Option V:=fun i=>(cs.take (n*sz))[i]?
 have hi0:∀b' i v,G.imm b' i=some v→(G.setImm b f).imm b' i=some v:=by
  intro b' i v hv
  simp only [Gh.setImm]
  split
  ·rename_i e; subst e; rw [hbi i]at hv; cases hv
  ·exact hv
 have hx:Ext st G (G.setImm b f):=⟨hi0,fun _ _=>rfl,fun _ _ _ _ _=>rfl,fun _ _=>rfl⟩
 have hk:=h.kill id
 have hxk:Ext (st.put id []) G (G.setImm b f):=⟨hi0,fun _ _=>rfl,fun _ _ _ _ _=>rfl,fun _ _=>rfl⟩
 have hne:∀(x:Nat) (c:List V),(st.put id []).vars[x]? =some c→V.gone c=false→G.var x≠some b:=by
  intro x c hc hn hb'
  rcases St.put_get hc with⟨rfl,rfl⟩|⟨hne,hc⟩
  ·exact absurd hn (by simp [V.gone])
  ·exact hne (h.disj x id b _ _ hc hn hid hg hb' hb)
 have hnf:∀(t q e l:Nat),st.fams[t]? =some q→G.tip t q≠some (b,e,l):=by
  intro t q e l ht h1
  obtain⟨_,_,_,_,_,_,h7⟩:=h.fam t q b e l ht h1
  exact h7 id _ hid hg hb
 have hr1:Rel gl w0 (G.setImm b f) (st.put id []) w:={
  below:=hk.below
  vars:=by
   intro x c hc hn
   obtain⟨b',o,k1,k2,k3,k4,k5⟩:=hk.vars x c hc hn
   have:b'≠b:=fun e=>hne x c hc hn (e▸k1)
   exact⟨b',o,k1,k2,k3,k4.ext hxk (hk.sc x c hc),fun i=>by simp [Gh.setImm,this,k5 i]⟩
  varlt:=hk.varlt
  sc:=hk.sc
  disj:=hk.disj
  imm :=by
   intro b' i v hv
   by_cases e:b'=b
   ·subst e
    simp only [Gh.setImm,if_true]at hv
    have hv':cs[i]? =some v:=by
     simp only [f,List.getElem?_take]at hv
     split at hv
     ·exact hv
     ·cases hv
    have hp:=hpc v (List.mem_of_getElem? hv')
    have hj:i<C.size:=Nat.lt_of_lt_of_le (yo hv') h4
    exact⟨hp,C[i],by rw [yh h3]; simp [hj],(h4' i v _ hv' (by simp [hj])).pure_ext hi0 (V.pure_of_pcell hp)⟩
   ·simp only [Gh.setImm,e,if_false]at hv
    obtain⟨hp,c,hc,hr⟩:=hk.imm b' i v hv
    exact⟨hp,c,hc,hr.pure_ext hi0 (V.pure_of_pcell hp)⟩
  fam:=by
   intro t q b' e l ht h1
   obtain⟨m2,C',el',m3,m4,m6,m7⟩:=hk.fam t q b' e l ht h1
   have:b'≠b:=fun e'=>hnf t q e l ht (e'▸h1)
   exact⟨m2,C',el',m3,m4,fun i hi=>by simp [Gh.setImm,this,m6 i hi],m7⟩
  famdisj:=hk.famdisj
  glob:=fun g i v hv=>hi0 g i v (hk.glob g i v hv)
  gfix:=hk.gfix
  old:=by
   intro b' i hm
   have:b'≠b:=fun e=>hm (e▸h2)
   simp only [Gh.setImm,this,if_false]
   exact hk.old b' i hm}
 obtain ⟨hr2,hx2⟩:=hr1.newFam (p:=p) (b:=b) (e:=n*sz) (lim:=cap*sz) h2 h3 (Nat.le_trans hroom h5) (by
  intro i hi
  simp only [Gh.setImm,if_true,f,List.getElem?_take]
  rw [if_neg O0]) hne hnf
 have hfl:(st.put id []).fams.length=st.fams.length:=rfl
 refine⟨_,hr2,hx.trans (St.le_put st id []) hx2, ?_⟩
 have hcl:(cs.take (n*sz)).length=n*sz:=O3
 obtain⟨c1,c2,c3⟩:=kR sz n (cs.take (n*sz)) hcl
 have:=VR.sl (G:=(G.setImm b f).setTip (st.put id []).fams.length p (b,n*sz,cap*sz)) (sz:=sz) (es:=wh sz n (cs.take (n*sz))) (tok:= .fam st.fams.length p) (b:=b) (o:=0) (cap:=cap)
  (uy c3 (by
   intro i v hv
   rw [c2]at hv
   show(if b=b then f (0+i)else G.imm b (0+i))=some v
   rw [if_pos rfl,Nat.zero_add]; exact hv)) ⟨cap*sz,by simp [Gh.setTip,c1,hfl],O0⟩ O0
 rw [c1]at this
 exact this
end
section
variable {s0 st:St} {fr:AFr}
theorem Wk.move (t id n sz:Nat) {cells:List V} (h:zq fr.l t= .own id n sz) (hid:st.vars[id]? =some cells) (ht:t<fr.n):Wk s0 fr st (fr.put (some t) (.own st.vars.length n sz)) ((st.put id []).push cells):=by
 intro gl w0 G0 G w a g1 g2 g3 g4
 obtain⟨G',h1,h2,h3,h4⟩:=g3.moveAny hid
 have hl:st.le ((st.put id []).push cells):=(St.le_put st id []).trans (St.le_push _ _)
 have g5:=g4.ext h2 hl
 refine⟨g1.trans hl,G',g2.trans g1 h2,h1,g4.defers,by simp only [AFr.put]; split<;>exact g4.size, ?_⟩
 intro t'
 have h':=g5.slot t'
 simp only [AFr.put,ht,if_true,wC]
 split
 ·rename_i e; subst e
  have hs:=(g4.slot t').2
  rw [h]at hs
  refine⟨by simp [V.sc,St.push,St.put], ?_⟩
  generalize a.tmps.getD t' undef=c at hs
  cases hs with
  |own k0 k1 k2 k3=>exact .own k0 (by rw [h3]; exact k1) k2 (by rw [h4]; exact k3)
  |ownnil=>exact .ownnil _ _
 ·exact h'
theorem Wk.freeze (t id n sz p:Nat) {cs:List V} (h:zq fr.l t= .own id n sz) (hid:st.vars[id]? =some [.buf cs]) (hsz:0<sz) (hlen:n*sz≤cs.length) (ht:t<fr.n):
  Wk s0 fr st (fr.put (some t) (.sl sz (wh sz n (cs.take (n*sz))) .none)) (st.put id []):=by
 intro gl w0 G0 G w a g1 g2 g3 g4
 have hs:=(g4.slot t).2
 rw [h]at hs
 generalize hq:a.tmps.getD t undef=c at hs
 have hl:st.le (st.put id []):=St.le_put st id []
 cases hs with
 | own k0 k1 k2 k3=>
  obtain⟨G',h1,h2,h3⟩:=g3.freeze hid k1 k0 hsz hlen k2 k3 n
  have hf:Rel gl w0 G' (st.put id []) w:=by
   refine h1.forget (by simp [St.pushFam,St.put]) ?_ ?_
   ·intro t' q ht'
    have:t'<st.fams.length:=yo ht'
    simp only [St.pushFam,St.put]at ht' ⊢
    rw [List.getElem?_append_left this]; exact ht'
   ·intro x c hc
    exact⟨(g3.kill id).sc x c hc,fun hn=>⟨c,hc,hn,fun _ _ x=>x⟩⟩
  have hx:Ext st G G':=h2
  have g5:=g4.ext hx hl
  refine⟨g1.trans hl,G',g2.trans g1 hx,hf,g4.defers,by simp only [AFr.put]; split<;>exact g4.size, ?_⟩
  intro t'
  have h':=g5.slot t'
  simp only [AFr.put,ht,if_true,wC]
  split
  ·rename_i e; subst e
   refine⟨by simp [V.sc], ?_⟩
   rw [hq]
   have:=h3.pur
   simpa [V.pur] using this
  ·exact h'
 | ownnil=>
  refine⟨g1.trans hl,G,g2,g3.kill id,g4.defers,by simp only [AFr.put]; split<;>exact g4.size, ?_⟩
  intro t'
  have h':=g4.slot t'
  simp only [AFr.put,ht,if_true,wC]
  split
  ·rename_i e; subst e
   refine⟨by simp [V.sc], ?_⟩
   rw [hq]
   simp only [Nat.zero_mul,List.take_zero,wh]
   exact .slnil _ _
  ·exact⟨V.sc_mono hl _ h'.1,h'.2⟩
end
section
variable {P:Program} {T:TypeId→TI} {gl:Nat→List V} {ops:Array Oper} {K:AFr→St→Prop} {E:List Nat} {B:List (List Nat)}
theorem nE (hT:T=ti P) {i:Nat} {x:Cfg} (k m f id:Nat) {cell:Option (List V)} {q:St→Option (V×St)} {v:V} {F:St→St}
  (hq:∀st:St,st.vars.length=m→st.fams.length=f→st.vars[id]? =cell→q st=some (v,F st)) (hik:Nat.ble i k=true)
  (he:((wm T gl ops i k x).2.vars.length,(wm T gl ops i k x).2.fams.length,(wm T gl ops i k x).2.vars[id]?,qz T gl ops i k x)=(m,f,cell,q (wm T gl ops i k x).2))
  (h:ym P gl ops (k+1) (wW (wm T gl ops i k x) (z2 ops k) v F) K):ym P gl ops i x K:=by
 injection he with he1 he; injection he with he2 he; injection he with he3 he4
 have h1:=hq _ he1 he2 he3
 rw [u1]at he1 he2 he3 he4 h1
 rw [ZP]at he4
 rw [u1,gS]at h
 unfold ym at h ⊢
 exact Qf hT k h1 hik he4 h
theorem oa (hT:T=ti P) {fx:List (Nat×Option V×V)} (hf:dm fx) {i:Nat} {rest seen:List Nat} {x:Cfg} (m f id:Nat) {cell:Option (List V)} {q:St→Option (V×St)} {v:V} {F:St→St}
  (hq:∀st:St,st.vars.length=m→st.fams.length=f→st.vars[id]? =cell→q st=some (v,F st)) (hb:E.contains i=true)
  (he:(x.2.vars.length,x.2.fams.length,x.2.vars[id]?,BN T gl ops i x)=(m,f,cell,q x.2))
  (hs:(stX T gl ops E B i seen (wW x (z2 ops i) v F),svX ops E B fx i seen (wW x (z2 ops i) v F))=(stY T gl ops E B fx i seen (wW x (z2 ops i) v F),svY ops E B fx i seen (wW x (z2 ops i) v F)))
  (h:aDC P gl ops E B rest (i::seen) (wW x (z2 ops i) v F) K):aDC P gl ops E B (i::rest) seen x K:=by
 have hst:=dD hT hf hs
 obtain⟨⟨n,l0⟩,st⟩:=x
 rw [gS]at h hst
 injection he with he1 he; injection he with he3 he; injection he with he4 he2
 have h1:=hq _ he1 he3 he4
 rw [h1]at he2
 simp only [BN,atI]at he2
 cases ho:ops.toList[i]? with
 |none=>rw [ho]at he2; cases he2
 | some o=>
  rw [ho]at he2
  simp only at he2
  unfold aDC at h ⊢
  simp only [aD]
  rw [if_pos hb]
  cases hr:jb ops o n l0 with
  |none=>rw [hr]at he2; cases he2
  | some b=>
   rw [hr]at he2
   cases b with
   |false=>cases he2
   | true=>
    simp only at he2
    rw [hT,wA]at he2
    simp only [z2,ho]at h hst
    exact(p8 hT ho).1 hr (gc he2 ⟨hst,h⟩)
end
section
variable {P:Program} {gl:Nat→List V} {ops:Array Oper} {s0:St} {cs:List Code} {AQ:Exit→AFr→St→Prop}
end
section
variable {P:Program} {gl:Nat→List V} {s0:St} {c:Code} {cs:List Code} {AQ:Exit→AFr→St→Prop} {fr:AFr} {st:St}
def xT (P:Program) (gl:Nat→List V) (s0:St) (c:Code) (AQ:Exit→AFr→St→Prop):Nat→AFr→St→Prop
 |0,_,_=>False
 |n+1,fr,st=>ze P gl s0 [c] (yG (xT P gl s0 c AQ n) AQ) fr st
theorem VK (n:Nat) (h:xT P gl s0 c AQ n fr st):ze P gl s0 (.loop c::cs) AQ fr st:=by
 have key:∀(n:Nat) (fr:AFr) (st:St) (w0:zJ) (G0 G:Gh) (w:World) (a:Act),xT P gl s0 c AQ n fr st→s0.le st→Ext s0 G0 G→Rel gl w0 G st w→yi G st fr a →
   Code.rounds P c (BQ gl s0 w0 G0 (yG (fun fr st=>ze P gl s0 cs AQ fr st) AQ)) n a w:=by
  intro n
  induction n with
  |zero=>intro fr st w0 G0 G w a h; exact h.elim
  | succ n ih=>
   intro fr st w0 G0 G w a h h1 h2 h3 h4
   have h':wJ P gl s0 c (yG (xT P gl s0 c AQ n) AQ) fr st:=by
    have:=h
    simp only [xT,ze,jV]at this; exact this
   refine wp_mono (h' w0 G0 G w a h1 h2 h3 h4) ?_
   intro e a' w' hq
   cases e with
   | normal=>
    obtain⟨fr',st',G',k1,k2,k3,k4,k5⟩:=hq
    exact ih fr' st' w0 G0 G' w' a' k1 k5 k4 k2 k3
   |_=>exact hq
 intro w0 G0 G w a h1 h2 h3 h4
 exact wp_loop_rounds n (key n fr st w0 G0 G w a h h1 h2 h3 h4)
theorem fe {n:Nat} (h:ze P gl s0 [c] (yG (xT P gl s0 c AQ n) AQ) fr st):xT P gl s0 c AQ (n+1) fr st:=h
theorem GK {n:Nat} (h:ze P gl s0 [c] (yG (xT P gl s0 c AQ n) AQ) fr st):yG (xT P gl s0 c AQ (n+1)) AQ .normal fr st:=h
theorem yU {n:Nat}:Cl s0 (yG (xT P gl s0 c AQ n) AQ .normal):=by
 cases n with
 |zero=>intro fr st fr' st' hw h; exact h.elim
 |succ n=>exact zF
end
def vI (k:IntKind) (n:Int):V:= .int k n
def U1 {α:Type} (c:α→V):Prop:=∀x,V.pcell (c x)=true
theorem uI (k:IntKind):U1 (vI k):=fun _=>rfl
def wZ (n:Nat) (i:Int):Option Nat:=if 0≤i∧i<n then some i.toNat else none
theorem Pv {n id:Nat} {i:Int} {j:Nat} {e:TypeId} {sz b:Nat} (h:wZ n i=some j):yX (.slice e sz b) (.own id n sz) i=some (.ptr id (j*sz)):=by
 unfold wZ at h
 split at h
 ·rename_i hc; injection h with h; subst h
  simp [yX,hc]
 ·cases h
theorem zT {n id off:Nat} {i:Int} {j:Nat} {sz:Nat} (h:wZ n i=some j):yX (.arr n sz) (.ptr id off) i=some (.ptr id (off+j*sz)):=by
 unfold wZ at h
 split at h
 ·rename_i hc; injection h with h; subst h
  simp [yX,hc,V.add]
 ·cases h
theorem hJ {α:Type} {c:α→V} {l:List α} {off:Nat} {x:α} (h:l[off]? =some x):rd (l.map c) off 1 false=some (c x):=by
 simp [rd,h]
theorem zR {α:Type} {c:α→V} {l:List α} {off:Nat} {x:α} (h:l[off]? =some x):(if(l.map c).length=0 then none else rd (l.map c) off 1 false)=some (c x):=by
 have:(l.map c).length≠0:=by
  have:=zj h
  simp; intro h'; subst h'; simp at this
 rw [if_neg this]; exact hJ h
def gA {α:Type} (l:List α) (off:Nat) (x:α):Option (List α):=if off<l.length then some (l.set off x)else none
theorem jw {α:Type} {T:TypeId→TI} {c:α→V} (U:U1 c) {l l':List α} {off id m f:Nat} {x:α} {t:TypeId} (hok:(T t).ok=true) (h:gA l off x=some l'):
  ∀st:St,st.vars.length=m→st.fams.length=f→st.vars[id]? =some [.buf (l.map c)]→(match bS st (.ptr id off) (c x) 1 with|some st'=>if(T t).ok=true then some (V.junk,st')else none|none=>none)=some (.junk,st.put id [.buf (l'.map c)]):=by
 intro st _ _ hc
 unfold gA at h
 split at h
 ·rename_i hlt
  injection h with h; subst h
  have hu:=U x
  have hcells:(c x).cells= [c x]:=by
   have:=V.isCell_of_pcell hu
   cases hq:c x<;>rw [hq]at this<;>first|rfl|(simp [V.isCell]at this)
  have hset:List.take off (l.map c) ++ [c x]++List.drop (off+1) (l.map c)=(l.set off x).map c:=by
   rw [List.map_set,List.set_eq_take_append_cons_drop,if_pos (O5 hlt)]
   simp
  have hp:V.pcells [c x]=true:=by rw [V.pcells,List.all_cons,hu]; rfl
  simp only [bS,hc,hcells,List.length_singleton,List.length_map,hp,hok,and_self,if_true]
  rw [if_pos ⟨trivial,O0,O0,trivial⟩]
  simp only [hset]
 ·cases h
def Ga {α:Type} (bytes n:Nat) (l l2:List α):Option (List α):=if l.length=n∧l2.length≠0∧(n+l2.length)*bytes≤140737488355328 then some (l++l2)else none
theorem nD {α:Type} {T:TypeId→TI} {c:α→V} {l l2 l':List α} {n id m f:Nat} {e e2:TypeId} {bytes b2:Nat} {tok2:Tok} (ho:bm T e 1 bytes=true) (h:Ga bytes n l l2=some l'):
  ∀ st:St,st.vars.length=m→st.fams.length=f→st.vars[id]? =some [.buf (l.map c)] →
   wn T st (.slice e 1 bytes) (.slice e2 1 b2) (.own id n 1) (.sl 1 (l2.map fun x=> [c x]) tok2)=some (.own m (n+l2.length) 1,(st.put id []).push [.buf (l'.map c)]):=by
 intro st hm _ hc
 simp only [bm,iF,beq_iff_eq,decide_eq_true_eq]at ho
 obtain⟨⟨⟨h1,h2⟩,h3⟩,h4⟩:=ho
 unfold Ga at h
 split at h
 ·rename_i hb; injection h with h; subst h
  obtain⟨hb1,hb2,hb3⟩:=hb
  have hfl:(l2.map fun x=> [c x]).flatten=l2.map c:=by
   generalize l2=l3
   induction l3 with
   |nil=>rfl
   |cons a r ih=>simp [ih]
  simp only [wn,h1,h2,h3,YQ,and_self,if_true,List.length_map,hb2,if_false,hb3,h4,hc,hm,hfl,Nat.mul_one,hb1,List.map_append]
 ·cases h
def U7 (bytes:Nat) (li ci:Int):Option Nat:=if 0<li∧li≤ci∧bytes*ci≤140737488355328∧ci≤140737488355328 then some li.toNat else none
theorem lS {α:Type} {T:TypeId→TI} {c:α→V} (U:U1 c) (z:α) {li ci:Int} {k1 k2:IntKind} {n id m f:Nat} {cell:Option (List V)} {e:TypeId} {bytes:Nat} (hz:((T e).zok=true∧(T e).zero.cells= [c z])) (h:U7 bytes li ci=some n):
  ∀st:St,st.vars.length=m→st.fams.length=f→st.vars[id]? =cell→Zz T st (.slice e 1 bytes) (.int k1 li) (.int k2 ci)=some (.own m n 1,st.push [.buf ((List.replicate n z).map c)]):=by
 intro st hm _ _
 unfold U7 at h
 split at h
 ·rename_i hc; injection h with h; subst h
  obtain⟨h1,h2,h3,h4⟩:=hc
  have hp:V.pcells [c z]=true:=by rw [V.pcells,List.all_cons,U z]; rfl
  have hne:¬(li=0):=O0
  have hle:0≤li:=O0
  have hzr:yp li.toNat [c z]=(List.replicate li.toNat z).map c:=by
   simp only [yp,List.map_replicate]
   generalize li.toNat=n
   induction n with
   |zero=>rfl
   |succ n ih=>simp [List.replicate_succ,ih]
  simp only [Zz,hz.1,hz.2,hle,h2,h3,h4,hp,List.length_singleton,Nat.lt_one_iff,and_self,if_true,hne,if_false,hm,hzr]
 ·cases h
def Wg (bytes:Nat) (ci:Int):Option Unit:=if 0≤ci∧bytes*ci≤140737488355328∧ci≤140737488355328 then some ()else none
theorem Pw {α:Type} {T:TypeId→TI} {c:α→V} (U:U1 c) (z:α) {ci:Int} {k1 k2:IntKind} {id m f:Nat} {cell:Option (List V)} {e:TypeId} {bytes:Nat} {u:Unit} (hz:((T e).zok=true∧(T e).zero.cells= [c z])) (h:Wg bytes ci=some u):
  ∀st:St,st.vars.length=m→st.fams.length=f→st.vars[id]? =cell→Zz T st (.slice e 1 bytes) (.int k1 0) (.int k2 ci)=some (.sl 1 [] (.fam f 0),st.pushFam 0):=by
 intro st _ hf _
 unfold Wg at h
 split at h
 ·rename_i hc
  obtain⟨h1,h2,h3⟩:=hc
  have hp:V.pcells [c z]=true:=by rw [V.pcells,List.all_cons,U z]; rfl
  simp only [Zz,hz.1,hz.2,h1,h2,h3,hp,List.length_singleton,Nat.lt_one_iff,Int.le_refl,and_self,if_true,hf]
 ·cases h
theorem Wi (l:List Int):xf (l.map (vI .u8))=some (b2s l):=by
 induction l with
 |nil=>rfl
 |cons n r ih=>simp only [List.map_cons,vI,xf]at *; rw [ih]; rfl
def eC (n:Nat) (l:List Int):Option (List UInt8):=if n≤l.length then some (b2s (l.take n))else none
theorem nY {n:Nat} {l:List Int} {s:List UInt8} (h:eC n l=some s):
  (if n≤(l.map (vI .u8)).length then(match xf ((l.map (vI .u8)).take n)with|some b=>some (V.str b)|none=>none)else none)=some (.str s):=by
 unfold eC at h
 split at h
 ·rename_i hc; injection h with h; subst h
  rw [if_pos (O5 hc),←List.map_take,Wi]
 ·cases h
theorem dK {α:Type} (c:α→V):∀l:List α,wh 1 l.length (l.map c)=l.map fun x=> [c x]
 | []=>rfl
 |x::r=>by simp only [List.length_cons,List.map_cons,wh]; rw [←dK c r]; simp
def YT {α:Type} (n:Nat) (l:List α):Option (List α):=if n≤l.length then some (l.take n)else none
theorem Wk.frz {s0 st:St} {fr:AFr} {α:Type} {c:α→V} {l l':List α} (t id n:Nat) (hh:YT n l=some l') (h:(zq fr.l t,st.vars[id]?,Nat.blt t fr.n)=(.own id n 1,some [.buf (l.map c)],true)):
  Wk s0 fr st (fr.put (some t) (.sl 1 (l'.map fun x=> [c x]) .none)) (st.put id []):=by
 unfold YT at hh
 split at hh
 ·rename_i hc; injection hh with hh; subst hh
  injection h with h1 h; injection h with h2 h3
  have:=Wk.freeze (s0:=s0) t id n 1 0 h1 h2 O0 (O5 hc) (iD h3)
  have hl:(l.take n).length=n:=O3
  have e:wh 1 n ((l.map c).take (n*1))=(l.take n).map fun x=> [c x]:=by
   rw [Nat.mul_one,←List.map_take,←dK c (l.take n),hl]
  rw [e]at this
  exact this
 ·cases hh
def pH {α:Type} (bytes:Nat) (l2:List α):Option (List α):=if l2.length*bytes≤140737488355328 then some l2 else none
theorem Ka {α:Type} {T:TypeId→TI} {c:α→V} {l2 l':List α} {id m f:Nat} {cell:Option (List V)} {e e2:TypeId} {bytes b2:Nat} {tok2:Tok} (ho:bm T e 1 bytes=true) (h:pH bytes l2=some l'):
  ∀ st:St,st.vars.length=m→st.fams.length=f→st.vars[id]? =cell →
   dX T st (.slice e 1 bytes) (.slice e2 1 b2) (.sl 1 (l2.map fun x=> [c x]) tok2)=some (.own m l'.length 1,st.push [.buf (l'.map c)]):=by
 intro st hm _ _
 simp only [bm,iF,beq_iff_eq,decide_eq_true_eq]at ho
 obtain⟨⟨⟨h1,h2⟩,h3⟩,h4⟩:=ho
 unfold pH at h
 split at h
 ·rename_i hb; injection h with h; subst h
  have hfl:(l2.map fun x=> [c x]).flatten=l2.map c:=by
   generalize l2=l3
   induction l3 with
   |nil=>rfl
   |cons a r ih=>simp [ih]
  simp only [dX,h1,h2,h3,h4,YQ,and_self,if_true,List.length_map,hb,hm,hfl]
 ·cases h
end Go.Abs
end
