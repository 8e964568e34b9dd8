/- Abstract values: a part. No condition beyond each statement's own. -/
import Derived.Test.YthfhicembdpjpaaGreatDoorA10
set_option linter.all false
section
namespace Go.Abs
open Go.RowKit (Below)
def OOK (P:Program) (gl:Nat→List V) (w0:qQ) (G:Gh) (st:St) (w:World) (a:Act) (o:Oper) (v:V) (st':St):Prop:=
 ∃c w' G',((execOp a.eval o).run P w= .ok (.value c) w'∨((execOp a.eval o).run P w= .ok .skip w'∧c=undef))∧VR G' v c∧V.sc st' v∧Rel gl w0 G' st' w'∧Ext st G G'∧st.le st'
section
variable {P:Program} {gl:Nat→List V} {w0:qQ} {G:Gh} {st:St} {w:World} {a:Act} {fr:AFr}
theorem OOK.of {o:Oper} {s:Sem Value} {v:V} {st':St} (h:SOK P gl w0 G st w s v st') (he:execOp a.eval o=(do pure (.value (←s)))):OOK P gl w0 G st w a o v st':=by
 obtain⟨c,w',G',h1,h2⟩:=h
 exact⟨c,w',G', .inl (by rw [he]; simp only [iB,h1,iA,iC]),h2⟩
theorem XV {lo:Option Operand} (hf:vX G st fr a):(∀v c,lo.map fr.eval=some v→lo.map a.eval=some c→VR G v c)∧(lo.map fr.eval).isSome=(lo.map a.eval).isSome:=by
 cases lo with
 |none=>simp
 |some x=>simp; exact(hf.eval x).2
theorem WT (hf:vX G st fr a) (parts:Array (Nat×Operand)):
  (parts.toList.map fun(i,x)=>(i,fr.eval x)).length=(parts.map fun(i,x)=>(i,a.eval x)).size ∧
  (∀(j:Nat) i v i' x,(parts.toList.map fun(i,x)=>(i,fr.eval x))[j]? =some (i,v)→(parts.map fun(i,x)=>(i,a.eval x))[j]? =some (i',x)→i=i'∧VR G v x) ∧
  ∀p∈(parts.toList.map fun(i,x)=>(i,fr.eval x)),V.sc st p.2:=by
 refine⟨O2, ?_, ?_⟩
 ·intro j i v i' x h1 h2
  simp only [List.getElem?_map,Array.getElem?_toList,Array.getElem?_map]at h1 h2
  cases hq:parts[j]? with
  |none=>rw [hq]at h1; cases h1
  | some q=>
   rw [hq]at h1 h2
   simp at h1 h2
   obtain⟨rfl,rfl⟩:=h1
   obtain⟨rfl,rfl⟩:=h2
   exact⟨rfl,(hf.eval _).2⟩
 ·intro p hp
  obtain⟨q,_,rfl⟩:=List.mem_map.1 hp
  exact(hf.eval _).1
theorem VL (h:Rel gl w0 G st w) (hf:vX G st fr a) {b:Builtin} {args:Array Operand} {tys:Array TypeId} {ty:TypeId} {cs:Array Bool} {v:V} {st':St}
  (he:dO P st b (tys.toList.map (ti P)) (args.toList.map fr.eval)=some (v,st')):
  ∃s:Sem Value,builtin b tys ty cs (args.map a.eval)=(do pure (.value (←s)))∧SOK P gl w0 G st w s v st':=by
 obtain⟨args⟩:=args
 obtain⟨tys⟩:=tys
 unfold dO at he
 split at he
 ·rename_i t x h1 h2
  match tys,args,h1,h2 with
  |_,[],h1,h2=>simp at h2
  |_,_::_::_,h1,h2=>simp at h2
  | [t0],[x0],h1,h2=>
   simp only [List.map_cons,List.map_nil,List.cons.injEq,and_true]at h1 h2
   subst h1
   split at he
   ·rename_i kt et es hd hcs
    injection he with he; injection he with he1 he2; subst he1 he2
    have hx:=hf.eval x0
    rw [h2]at hx
    have h3:=JU (ty:=ty) h hd hcs hx.2
    exact⟨_,rfl,SOK.same h (c:=goInt (es.length/2:Nat)) (O7 h3) (.int _ _) (by simp [V.sc])⟩
   ·cases he
 ·rename_i t x h1 h2
  match tys,args,h1,h2 with
  | [t0],[x0],h1,h2=>
   simp only [List.map_cons,List.map_nil,List.cons.injEq,and_true]at h1 h2
   subst h1 h2
   split at he
   ·rename_i v' hv
    injection he with he; injection he with he1 he2; subst he1 he2
    obtain⟨r,h3,h4,h5⟩:=GR (P:=P) (w:=w) (G:=G) (st:=st) (ty:=ty) (hf.eval x0).2 hv
    exact⟨_,rfl,SOK.same h (O7 h3) h4 h5⟩
   ·cases he
 ·rename_i t tx s x h1 h2
  match tys,args,h1,h2 with
  | [t0,t1],[s0,x0],h1,h2=>
   simp only [List.map_cons,List.map_nil,List.cons.injEq,and_true]at h1 h2
   obtain⟨rfl,rfl⟩:=h1
   obtain⟨rfl,rfl⟩:=h2
   have:=Qy (ty:=ty) h (hf.eval s0).2 (hf.eval s0).1 (hf.eval x0).2 he
   exact⟨_,rfl,by simpa using this⟩
 ·rename_i x r h2
  match args,h2 with
  | x0::r0,h2=>
   simp only [List.map_cons,List.cons.injEq]at h2
   obtain⟨rfl,rfl⟩:=h2
   split at he
   ·rename_i v' hv
    injection he with he; injection he with he1 he2; subst he1 he2
    have hvs:=(hf.evals r0)
    obtain⟨c,hc⟩:=JV (P:=P) (w:=w) (G:=G) (st:=st) (r0.map fr.eval) _ _ _ (r0.map a.eval) (hf.eval x0).2 hvs.2 hv
    rcases hc with⟨h3,h4,h5⟩|⟨h3,h4,h5⟩
    ·exact⟨_,rfl,SOK.same h (by simpa [Builtin.min_] using h3) h4 h5⟩
    ·subst h4
     refine⟨_,rfl,SOK.same h (c:=a.eval x0) ?_ (hf.eval x0).2 (hf.eval x0).1⟩
     have:r0= []:=by simpa using h5
     subst this
     simp [Builtin.min_]
   ·cases he
 ·cases he
theorem YB {P:Program} {st:St} {b:Builtin} {args:List Operand} {tys:List TypeId} {ev:Operand→V} {r:V×St} (h:gG P st b args tys ev=some r):
  (∃x t tx,b= .append∧args= [.const (.slice none 0 0),x]∧tys= [t,tx]∧dT P st (ti P t).d (ti P tx).d (ev x)=some r)∨dO P st b (tys.map (ti P)) (args.map ev)=some r:=by
 unfold gG at h
 split at h
 ·exact .inl ⟨_,_,_,rfl,rfl,rfl,h⟩
 ·exact .inr h
theorem JG (h:Rel gl w0 G st w) (hf:vX G st fr a) (o:Oper) {v:V} {st':St} (he:xY P gl fr st o.op=some (v,st')):OOK P gl w0 G st w a o v st':=by
 obtain⟨dst,op,ty,pos,after,guard⟩:=o
 simp only at he
 cases op with
 | move x=>
  simp only [xY]at he; injection he with he; injection he with he1 he2; subst he1 he2
  exact⟨a.eval x,w,G, .inl rfl,(hf.eval x).2,(hf.eval x).1,h, .refl _ _, .refl _⟩
 | assign x=>
  simp only [xY]at he; injection he with he; injection he with he1 he2; subst he1 he2
  exact⟨a.eval x,w,G, .inl rfl,(hf.eval x).2,(hf.eval x).1,h, .refl _ _, .refl _⟩
 | pick c x y=>
  simp only [xY]at he
  have hc:=(hf.eval c).2
  split at he
  ·rename_i t ht
   rw [ht]at hc
   injection he with he; injection he with he1 he2; subst he1 he2
   have hc':a.eval c= .bool t:=by generalize a.eval c=q at hc; cases hc; rfl
   refine⟨if t then a.eval x else a.eval y,w,G, .inl ?_, ?_, ?_,h, .refl _ _, .refl _⟩
   ·simp only [execOp,hc',asBool,iB,iC,iA]
   ·cases t
    ·exact(hf.eval y).2
    ·exact(hf.eval x).2
   ·cases t
    ·exact(hf.eval y).1
    ·exact(hf.eval x).1
  ·cases he
 | alloc e=>
  simp only [xY]at he
  split at he
  ·rename_i hc
   injection he with he; injection he with he1 he2; subst he1 he2
   obtain⟨i,z,hi,hz,hzv⟩:=dH hc.1
   have hn:=KP (P:=P) (t:=e) h (v:=(ti P e).zero) (x:=z) (by rw [hzv]; exact VR.of G z) (by rw [hzv]; exact V.sc_of_pure st _ (V.pure_of z)) hc.2
   refine OOK.of (s:=Instr.alloc e true (.tuple #[])) ?_ rfl
   obtain⟨c,w',G',h1,h2⟩:=hn
   exact⟨c,w',G',by simp only [Instr.alloc,iB,vO hi hz,iA]; exact h1,h2⟩
  ·cases he
 | box e x=>
  simp only [xY]at he
  split at he
  ·rename_i hc
   injection he with he; injection he with he1 he2; subst he1 he2
   exact OOK.of (KP (P:=P) (t:=e) h (hf.eval x).2 (hf.eval x).1 hc) rfl
  ·cases he
 | build t parts=>
  simp only [xY]at he
  split at he
  ·rename_i v' hv
   injection he with he; injection he with he1 he2; subst he1 he2
   obtain⟨h1,h2,h3⟩:=WT hf parts
   obtain⟨c,k1,k2,k3⟩:=QJ (P:=P) (w:=w) h1 h2 h3 hv
   exact OOK.of (SOK.same h k1 k2 k3) rfl
  ·cases he
 | buildSlice t len parts=>
  simp only [xY]at he
  split at he
  ·rename_i v' hv
   injection he with he; injection he with he1 he2; subst he1 he2
   obtain⟨h1,h2,h3⟩:=WT hf parts
   exact OOK.of (Vk h h1 h2 hv) rfl
  ·cases he
 | load t x=>
  simp only [xY]at he
  split at he
  ·rename_i v' hv
   split at he
   ·rename_i hc
    injection he with he; injection he with he1 he2; subst he1 he2
    exact OOK.of (BN h hc.1 hc.2 (hf.eval x).2 (hf.eval x).1 hv) rfl
   ·cases he
  ·cases he
 | store t x y=>
  simp only [xY]at he
  split at he
  ·rename_i s' hv
   split at he
   ·rename_i hc
    injection he with he; injection he with he1 he2; subst he1 he2
    obtain⟨w',h1,h2,h3⟩:=Q0 h hc (hf.eval x).2 (hf.eval x).1 (hf.eval y).2 (hf.eval y).1 hv
    refine⟨undef,w',G, .inr ⟨?_,rfl⟩, .junk _,by simp [V.sc],h2, .refl _ _,h3⟩
    simp only [execOp,iB,h1,iA,iC]
   ·cases he
  ·cases he
 | nilCheck x=>
  simp only [xY]at he
  have hx:=hf.eval x
  split at he
  ·rename_i id off hx'
   injection he with he; injection he with he1 he2; subst he1 he2
   rw [hx']at hx
   generalize hq:a.eval x=q at hx
   obtain⟨hs,hv⟩:=hx
   cases hv with
   |ptr hb=>exact OOK.of (s:=pure (a.eval x)) (SOK.same h rfl (by rw [hq]; exact .ptr hb) hs) (by simp only [execOp,hq]; rfl)
  ·rename_i p1 p2 hx'
   injection he with he; injection he with he1 he2; subst he1 he2
   rw [hx']at hx
   generalize hq:a.eval x=q at hx
   obtain⟨hs,hv⟩:=hx
   cases hv with
   |eptr hb=>exact OOK.of (s:=pure (a.eval x)) (SOK.same h rfl (by rw [hq]; exact .eptr hb) hs) (by simp only [execOp,hq]; rfl)
  ·rename_i g off hx'
   injection he with he; injection he with he1 he2; subst he1 he2
   rw [hx']at hx
   generalize hq:a.eval x=q at hx
   obtain⟨hs,hv⟩:=hx
   cases hv with
   |gptr=>exact OOK.of (s:=pure (a.eval x)) (SOK.same h rfl (by rw [hq]; exact .gptr _ _) hs) (by simp only [execOp,hq]; rfl)
  ·rename_i f q1 q2 hx'
   injection he with he; injection he with he1 he2; subst he1 he2
   rw [hx']at hx
   generalize hq:a.eval x=q at hx
   obtain⟨hs,hv⟩:=hx
   cases hv with
   |func h1 h2 h3 h4=>exact OOK.of (s:=pure (a.eval x)) (SOK.same h rfl (by rw [hq]; exact .func h1 h2 h3 h4) hs) (by simp only [execOp,hq]; rfl)
  ·cases he
 | binOp op t x y yt=>
  simp only [xY]at he
  split at he
  ·rename_i hne
   split at he
   ·rename_i v' hv
    injection he with he; injection he with he1 he2; subst he1 he2
    have hdd:(P.underlying t).isSome:=by
     cases hq:P.underlying t with
     |none=>exact absurd (by simp [ti,hq,tiD]) hne
     |some d=>rfl
    obtain⟨d,hd⟩:=Option.isSome_iff_exists.1 hdd
    obtain⟨c,h1,h2,h3,h4,h5⟩:=GP (P:=P) (w:=w) (st:=st) op hd (hf.eval x).2 (hf.eval y).2 hv
    refine OOK.of (s:=do eqGuard op t x y (a.eval x) (a.eval y); binOp op t (a.eval x) (a.eval y)) (SOK.same h ?_ h2 h3) rfl
    simp only [iB,Zs ⟨h4,h5⟩,iA]
    exact h1
   ·split at he
    ·rename_i v' hv
     injection he with he; injection he with he1 he2; subst he1 he2
     obtain⟨c,h1,h2,h3⟩:=BK (P:=P) (w:=w) (st:=st) op (hf.eval x).2 (hf.eval y).2 hv x y
     exact OOK.of (s:=do eqGuard op t x y (a.eval x) (a.eval y); binOp op t (a.eval x) (a.eval y)) (SOK.same h h1 h2 h3) rfl
    ·split at he
     ·rename_i v' hv
      injection he with he; injection he with he1 he2; subst he1 he2
      obtain⟨c,h1,h2,h3⟩:=BI (P:=P) (w:=w) (st:=st) (b:=a.eval y) op (hf.eval x).2 hv x (fun hy=>by rw [hy]; rfl)
      exact OOK.of (s:=do eqGuard op t x y (a.eval x) (a.eval y); binOp op t (a.eval x) (a.eval y)) (SOK.same h h1 h2 h3) rfl
     ·cases he
  ·cases he
 | field s x f=>
  simp only [xY]at he
  split at he
  ·rename_i v' hv
   injection he with he; injection he with he1 he2; subst he1 he2
   exact OOK.of (QW h (hf.eval x).2 (hf.eval x).1 hv) rfl
  ·cases he
 | unOp op t x=>
  simp only [xY]at he
  split at he
  ·rename_i v' hv
   injection he with he; injection he with he1 he2; subst he1 he2
   obtain⟨c,h1,h2,h3⟩:=DQ (P:=P) (w:=w) (st:=st) (hf.eval x).2 hv
   exact OOK.of (SOK.same h h1 h2 h3) rfl
  ·cases he
 | convert s d x=>
  simp only [xY]at he
  split at he
  ·rename_i v' hv
   injection he with he; injection he with he1 he2; subst he1 he2
   exact OOK.of (Bq h (hf.eval x).2 (hf.eval x).1 hv) rfl
  ·cases he
 | extract t ix=>
  simp only [xY]at he
  have hx:=hf.eval t
  split at he
  ·rename_i vs hvs
   split at he
   ·rename_i v' hv
    injection he with he; injection he with he1 he2; subst he1 he2
    rw [hvs]at hx
    generalize hq:a.eval t=q at hx
    obtain⟨hs,hvr⟩:=hx
    cases hvr with
    | tuple hl hr=>
     rename_i c
     have hix:ix<c.size:=by
      rw [←hl]
      rcases Nat.lt_or_ge ix vs.length with h'|h'
      ·exact h'
      ·rw [List.getElem?_eq_none h']at hv; cases hv
     refine OOK.of (s:=Instr.extract (a.eval t) ix) (SOK.same h (c:=c[ix]) ?_ (hr ix v' _ hv (by simp [hix])) ?_) rfl
     ·rw [hq]; simp [Instr.extract,hix]
     ·simp only [V.sc,V.scs_iff]at hs
      exact hs v' (List.mem_of_getElem? hv)
   ·cases he
  ·cases he
 | fieldAddr s x f=>
  simp only [xY]at he
  split at he
  ·rename_i fs hd
   split at he
   ·rename_i off n hfn
    split at he
    ·cases he
    ·rename_i hn
     split at he
     ·rename_i v' hv
      injection he with he; injection he with he1 he2; subst he1 he2
      exact OOK.of (J3 h hd hfn hn (hf.eval x).2 (hf.eval x).1 hv) rfl
     ·cases he
   ·cases he
  ·cases he
 | indexAddr t x i=>
  simp only [xY]at he
  have hi:=(hf.eval i).2
  split at he
  ·rename_i k n hie
   rw [hie]at hi
   split at he
   ·rename_i v' hv
    injection he with he; injection he with he1 he2; subst he1 he2
    generalize hq:a.eval i=q at hi
    cases hi
    refine OOK.of (s:=Instr.indexAt t (a.eval x) (a.eval i)) ?_ rfl
    rw [hq]
    exact Jv h (hf.eval x).2 (hf.eval x).1 hv
   ·cases he
  ·cases he
 | index t x i=>
  simp only [xY]at he
  have hi:=(hf.eval i).2
  split at he
  ·rename_i k n hie
   rw [hie]at hi
   split at he
   ·rename_i v' hv
    injection he with he; injection he with he1 he2; subst he1 he2
    generalize hq:a.eval i=q at hi
    cases hi
    obtain⟨r,h1,h2,h3⟩:=QZ (P:=P) (w:=w) (st:=st) (k:=k) (hf.eval x).2 hv
    refine OOK.of (s:=Instr.index t (a.eval x) (a.eval i)) (SOK.same h ?_ h2 h3) rfl
    rw [hq]; exact h1
   ·cases he
  ·cases he
 | slice t x lo hi mx=>
  simp only [xY]at he
  split at he
  ·rename_i v' hv
   injection he with he; injection he with he1 he2; subst he1 he2
   exact OOK.of (QY h (hf.eval x).2 (hf.eval x).1 (XV hf).1 (XV hf).1 (XV hf).2 (XV hf).2 (XV hf).2 hv) rfl
  ·cases he
 | makeSlice t l c=>
  simp only [xY]at he
  exact OOK.of (BM h (hf.eval l).2 (hf.eval c).2 he) rfl
 | makeMap t r=>
  cases r with
  | none=>
   simp only [xY]at he
   injection he with he; injection he with he1 he2; subst he1 he2
   exact OOK.of (U0 h) rfl
  |some r=>simp [xY]at he
 | mapUpdate t m k x=>
  simp only [xY]at he
  split at he
  ·rename_i s' hv
   injection he with he; injection he with he1 he2; subst he1 he2
   obtain⟨w',h1,h2,h3⟩:=Uj h (hf.eval m).2 (hf.eval k).2 (hf.eval x).2 (hf.eval x).1 hv
   refine⟨undef,w',G, .inr ⟨?_,rfl⟩, .junk _,by simp [V.sc],h2, .refl _ _,h3⟩
   simp only [execOp,iB,h1,iA,iC]
  ·cases he
 | lookup t m k ok=>
  simp only [xY]at he
  split at he
  ·rename_i v' hv
   injection he with he; injection he with he1 he2; subst he1 he2
   exact OOK.of (Qz h (hf.eval m).2 (hf.eval k).2 hv) rfl
  ·cases he
 | range t x=>
  simp only [xY]at he
  split at he
  ·rename_i s hd hx
   injection he with he; injection he with he1 he2; subst he1 he2
   have:=(hf.eval x).2
   rw [hx]at this
   exact OOK.of (Kg h hd this) rfl
  ·cases he
 | next it b=>
  cases b with
  |false=>simp [xY]at he
  | true=>
   simp only [xY]at he
   exact OOK.of (Bo h (hf.eval it).2 he) rfl
 | makeInterface t x=>
  simp only [xY]at he
  split at he
  ·rename_i hc
   injection he with he; injection he with he1 he2; subst he1 he2
   have hok:(P.info? t).isSome=true∧(P.underlying t).isSome=true:=by have:=hc.1; simpa [ti] using this
   obtain⟨d,hd⟩:=Option.isSome_iff_exists.1 hok.2
   have htd:(ti P t).d=tiD P (some d):=by simp [ti,hd]
   refine OOK.of (s:=Instr.makeInterface t (a.eval x)) (SOK.same h (c:= .iface t (a.eval x)) ?_ (.iface (hf.eval x).2) (by simpa [V.sc] using (hf.eval x).1)) rfl
   have:∀ms,d≠ .interface ms:=fun ms hh=>by subst hh; exact hc.2 (by rw [htd]; rfl)
   cases d<;>first|(exact absurd rfl (this _))|simp [Instr.makeInterface,run_underlying hd]
  ·cases he
 | typeAssert x xt t ok=>
  simp only [xY]at he
  split at he
  ·rename_i v' hv
   injection he with he; injection he with he1 he2; subst he1 he2
   exact OOK.of (JQ h (hf.eval x).2 (hf.eval x).1 hv) rfl
  ·cases he
 | makeFunc fn first captured=>
  simp only [xY]at he
  injection he with he; injection he with he1 he2; subst he1 he2
  obtain⟨s1,v1⟩:=hf.evals first.toList
  obtain⟨s2,v2⟩:=hf.evals captured.toList
  refine OOK.of (s:=Instr.makeFunc fn (first.map a.eval) (captured.map a.eval)) (SOK.same h rfl ?_ ⟨s1,s2⟩) rfl
  have e1:(first.toList.map a.eval).toArray=first.map a.eval:=by rw [←Array.toList_map,Array.toArray_toList]
  have e2:(captured.toList.map a.eval).toArray=captured.map a.eval:=by rw [←Array.toList_map,Array.toArray_toList]
  rw [e1]at v1; rw [e2]at v2
  exact .func v1.1 v1.2 v2.1 v2.2
 | call c=>
  obtain⟨callee,args,tys⟩:=c
  cases callee with
  | builtin b=>
   simp only [xY]at he
   rcases YB he with⟨x,t,tx,rfl,hargs,htys,he⟩|he
   ·obtain⟨args⟩:=args
    obtain⟨tys⟩:=tys
    simp only at hargs htys
    subst hargs htys
    have hrun:=U8 (ty:=ty) h (hf.eval x).2 he
    have h1:builtin .append ⟨[t,tx]⟩ ty ((⟨[.const (.slice none 0 0),x]⟩:Array Operand).map fun| .const _=>true|_=>false) ((⟨[.const (.slice none 0 0),x]⟩:Array Operand).map a.eval)=(do pure (.value (←Builtin.append_ ⟨[t,tx]⟩ ty ((⟨[.const (.slice none 0 0),x]⟩:Array Operand).map a.eval)))):=rfl
    refine OOK.of (s:=Builtin.append_ ⟨[t,tx]⟩ ty ((⟨[.const (.slice none 0 0),x]⟩:Array Operand).map a.eval)) (by simpa [Act.eval] using hrun) ?_
    show(do let d ←resolve a.eval ⟨.builtin .append,⟨[.const (.slice none 0 0),x]⟩,⟨[t,tx]⟩⟩ ty; invoke d.target d.args)=_
    rw [←h1]
    rfl
   obtain⟨s,h1,h2⟩:=VL (ty:=ty) (cs:=args.map fun| .const _=>true|_=>false) h hf he
   refine OOK.of h2 ?_
   show(do let d ←resolve a.eval ⟨.builtin b,args,tys⟩ ty; invoke d.target d.args)=_
   rw [←h1]
   rfl
  |_=>simp [xY]at he
 |_=>simp [xY]at he
end
end Go.Abs
end
