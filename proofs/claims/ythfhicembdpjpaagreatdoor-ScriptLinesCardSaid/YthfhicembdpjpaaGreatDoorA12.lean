/- Abstract values: a part. No condition beyond each statement's own. -/
import Derived.Test.YthfhicembdpjpaaGreatDoorA11
set_option linter.all false
section
namespace Go.Abs
open Go.RowKit (Below)
def YL (P:Program) (f:FuncId):Bool:=
 match P.funcs[f]? with
 | some fn => fn.body.isSome && !(fn.name == "runtime.NumGoroutine")
 |none=>false
def wn (P:Program) (gl:Nat→List V) (f:FuncId) (args:List V) (st:St) (Q:V→St→Prop):Prop:=
 YL P f=true∧∀(w0:qQ) (G:Gh) (w:World) (cargs:Array Value),Rel gl w0 G st w→VRs G args cargs→V.scs st args →
  Calls P f cargs w fun e w'=>∃r c st' G',e= .returned c∧Q r st'∧VR G' r c∧V.sc st' r∧Rel gl w0 G' st' w'∧Ext st G G'∧st.le st'
theorem wn.mono {P:Program} {gl:Nat→List V} {f:FuncId} {args:List V} {st:St} {Q Q':V→St→Prop} (h:wn P gl f args st Q) (hq:∀r st',Q r st'→Q' r st'):wn P gl f args st Q':=
 ⟨h.1,fun w0 G w cargs h1 h2 h3=>(h.2 w0 G w cargs h1 h2 h3).mono fun e w' ⟨r,c,st',G',g1,g2,g3⟩=>⟨r,c,st',G',g1,hq _ _ g2,g3⟩⟩
def LQ (gl:Nat→List V) (w0:qQ) (st0:St) (G0:Gh) (AQ:Exit→AFr→St→Prop):Exit→Act→World→Prop:=
 fun e a w=>∃fr st G,AQ e fr st∧Rel gl w0 G st w∧vX G st fr a∧Ext st0 G0 G∧st0.le st
def uj (P:Program) (gl:Nat→List V) (c:Code) (AQ:Exit→AFr→St→Prop) (fr:AFr) (st:St):Prop:=
 ∀(w0:qQ) (G:Gh) (w:World) (a:Act),Rel gl w0 G st w→vX G st fr a→c.wp P (LQ gl w0 st G AQ) a w
section
variable {P:Program} {gl:Nat→List V} {st:St} {fr:AFr} {AQ:Exit→AFr→St→Prop}
theorem LQ.lift {w0:qQ} {st0 st1:St} {G0 G1:Gh} (hx:Ext st0 G0 G1) (hl:st0.le st1) {e:Exit} {a:Act} {w:World} (h:LQ gl w0 st1 G1 AQ e a w):LQ gl w0 st0 G0 AQ e a w:=by
 obtain⟨fr,st,G,h1,h2,h3,h4,h5⟩:=h
 exact⟨fr,st,G,h1,h2,h3,hx.trans hl h4,hl.trans h5⟩
theorem uj.mono {c:Code} {AQ':Exit→AFr→St→Prop} (h:uj P gl c AQ fr st) (hq:∀e fr st,AQ e fr st→AQ' e fr st):uj P gl c AQ' fr st:=
 fun w0 G w a h1 h2=>wp_mono (h w0 G w a h1 h2) fun e a w ⟨fr,st,G,g1,g2⟩=>⟨fr,st,G,hq _ _ _ g1,g2⟩
theorem uj.skip (h:AQ .normal fr st):uj P gl .skip AQ fr st:=
 fun w0 G w a h1 h2=>wp_skip ⟨fr,st,G,h,h1,h2, .refl _ _, .refl _⟩
theorem uj.ret (h:AQ .ret fr st):uj P gl .ret AQ fr st:=
 fun w0 G w a h1 h2=>wp_ret ⟨fr,st,G,h,h1,h2, .refl _ _, .refl _⟩
theorem uj.exit {id:Nat} (h:AQ (.exit id) fr st):uj P gl (.exit id) AQ fr st:=
 fun w0 G w a h1 h2=>wp_exit ⟨fr,st,G,h,h1,h2, .refl _ _, .refl _⟩
def jl (K:AFr→St→Prop) (AQ:Exit→AFr→St→Prop):Exit→AFr→St→Prop
 | .normal,fr,st=>K fr st
 |e,fr,st=>AQ e fr st
theorem uj.seq {x y:Code} (h:∀K:AFr→St→Prop,(∀fr st,uj P gl y AQ fr st→K fr st)→uj P gl x (jl K AQ) fr st):uj P gl (.seq x y) AQ fr st:=by
 intro w0 G w a h1 h2
 refine wp_seq (wp_mono (h (fun fr st=>uj P gl y AQ fr st) (fun _ _ h=>h) w0 G w a h1 h2) ?_)
 intro e a' w' hq
 cases e with
 | normal=>
  obtain⟨fr',st',G',g1,g2,g3,g4,g5⟩:=hq
  exact wp_mono (g1 w0 G' w' a' g2 g3) fun e a w h=>h.lift g4 g5
 |_=>exact hq
theorem uj.cond {c:Operand} {x y:Code} {t:Bool} (hc:fr.eval c= .bool t) (h1:t=true→uj P gl x AQ fr st) (h2:t=false→uj P gl y AQ fr st):uj P gl (.cond c x y) AQ fr st:=by
 intro w0 G w a h3 h4
 have hv:=(h4.eval c).2
 rw [hc]at hv
 have hc':a.eval c= .bool t:=by generalize a.eval c=q at hv; cases hv; rfl
 exact wp_cond_split hc' (fun ht=>h1 ht w0 G w a h3 h4) (fun ht=>h2 ht w0 G w a h3 h4)
def bV (id:Nat) (AQ:Exit→AFr→St→Prop):Exit→AFr→St→Prop
 | .exit id',fr,st=>if id'=id then AQ .normal fr st else AQ (.exit id') fr st
 |e,fr,st=>AQ e fr st
theorem uj.block {id:Nat} {c:Code} (h:uj P gl c (bV id AQ) fr st):uj P gl (.block id c) AQ fr st:=by
 intro w0 G w a h1 h2
 refine wp_block (wp_mono (h w0 G w a h1 h2) ?_)
 rintro e a' w' ⟨fr',st',G',g1,g2⟩
 cases e with
 | exit id'=>
  simp only [bV]at g1
  simp only [Exit.inBlock]
  split
  ·rename_i he; rw [if_pos he]at g1; exact⟨fr',st',G',g1,g2⟩
  ·rename_i he; rw [if_neg he]at g1; exact⟨fr',st',G',g1,g2⟩
 |_=>exact⟨fr',st',G',g1,g2⟩
structure WI (fr fr':AFr) (st st':St):Prop where
 n:fr'.n=fr.n
 slot:∀t,wh fr'.l t= .junk∨(wh fr'.l t=wh fr.l t∧V.sc st' (wh fr'.l t))
 vars:st'.vars.length≤st.vars.length
 fams:∀(t p:Nat),st'.fams[t]? =some p→st.fams[t]? =some p
 cells:∀(id:Nat) (cs:List V),st'.vars[id]? =some cs→V.scs st' cs∧st.vars[id]? =some cs
theorem WI.rel {fr fr':AFr} {st st':St} (h:WI fr fr' st st') {w0:qQ} {w:World} {G:Gh} {a:Act} (hr:Rel gl w0 G st w) (hf:vX G st fr a):Rel gl w0 G st' w∧vX G st' fr' a:=by
 refine⟨hr.forget h.vars h.fams ?_,hf.defers,by rw [hf.size,h.n], ?_⟩
 ·intro id cs hcs
  obtain⟨h1,h2⟩:=h.cells id cs hcs
  exact⟨h1,fun hn=>⟨cs,h2,hn,fun _ _ x=>x⟩⟩
 ·intro t
  rcases h.slot t with hj|⟨he,hs⟩
  ·rw [hj]; exact⟨by simp [V.sc], .junk _⟩
  ·exact⟨hs,by rw [he]; exact(hf.slot t).2⟩
theorem Yk {p:Nat→Prop} (h:∃n,p n):∃n,p n∧∀m,p m→n≤m:=by
 obtain⟨n,hn⟩:=h
 induction n using Nat.strongRecOn with
 | _ n ih=>
  by_cases hm:∃m,m<n∧p m
  ·obtain⟨m,h1,h2⟩:=hm; exact ih m h1 h2
  ·refine⟨n,hn,fun m hm'=> ?_⟩
   rcases Nat.lt_or_ge m n with h1|h1
   ·exact absurd ⟨m,h1,hm'⟩ hm
   ·exact h1
open Classical in
noncomputable def dM (p:Nat→Prop):Nat:=if h:∃n,p n then Classical.choose (Yk h)else 0
theorem XS {p:Nat→Prop} (h:∃n,p n):p (dM p):=by
 unfold dM; rw [dif_pos h]; exact(Classical.choose_spec (Yk h)).1
theorem VI {p:Nat→Prop} {m:Nat} (h:p m):dM p≤m:=by
 have hx:∃n,p n:=⟨m,h⟩
 unfold dM; rw [dif_pos hx]; exact(Classical.choose_spec (Yk hx)).2 m h
theorem uj.loop {c:Code} (I:AFr→St→Prop) (μ:AFr→St→Nat) (h0:∃fr1 st1,WI fr fr1 st st1∧I fr1 st1) (hle:∀fr1 st1,I fr1 st1→st.le st1)
  (round:∀fr1 st1,I fr1 st1→uj P gl c (jl (fun fr2 st2=>∃fr3 st3,WI fr2 fr3 st2 st3∧I fr3 st3∧μ fr3 st3<μ fr1 st1) AQ) fr1 st1):uj P gl (.loop c) AQ fr st:=by
 intro w0 G w a h1 h2
 let Good:Nat→Act→World→Prop:=fun n a w=>∃fr1 st1 G1,I fr1 st1∧μ fr1 st1=n∧Rel gl w0 G1 st1 w∧vX G1 st1 fr1 a∧Ext st G G1
 have key:∀n a w,Good n a w→(Code.loop c).wp P (LQ gl w0 st G AQ) a w:=by
  intro n a w hg
  refine wp_loop (fun a w=>∃m,Good m a w) (fun a w=>dM fun m=>Good m a w) ⟨n,hg⟩ ?_
  intro a w hI
  have hmin:=XS hI
  obtain⟨fr1,st1,G1,g1,g2,g3,g4,g5⟩:=hmin
  refine wp_mono (round fr1 st1 g1 w0 G1 w a g3 g4) ?_
  rintro e a' w' ⟨fr2,st2,G2,k1,k2,k3,k4,k5⟩
  cases e with
  | normal=>
   obtain⟨fr3,st3,m1,m2,m3⟩:=k1
   obtain⟨r1,r2⟩:=m1.rel k2 k3
   have hg':Good (μ fr3 st3) a' w':=⟨fr3,st3,G2,m2,rfl,r1,r2,g5.trans (hle _ _ g1) k4⟩
   refine⟨⟨_,hg'⟩, ?_⟩
   have:=VI (p:=fun m=>Good m a' w') hg'
   show dM (fun m=>Good m a' w')<dM (fun m=>Good m a w)
   omega
  |_=>exact⟨fr2,st2,G2,k1,k2,k3,g5.trans (hle _ _ g1) k4,(hle _ _ g1).trans k5⟩
 obtain⟨fr1,st1,hw,hi⟩:=h0
 obtain⟨r1,r2⟩:=hw.rel h1 h2
 exact key _ a w ⟨fr1,st1,G,hi,rfl,r1,r2, .refl _ _⟩
end
end Go.Abs
end
