/- Abstract values. No condition. -/
import Derived.Test.YtkabooclnoiclaaGreatDoorA19
set_option linter.all false
section
namespace Go.Abs
open Go.RowKit (Below)
section
variable {P:Program} {gl:Nat->List V} {s0:St}
def BQ (gl:Nat->List V) (s0:St) (w0:xi) (G0:Gh) (AQ:Exit->AFr->St->Prop):Exit->Act->World->Prop:=
 fun e a w=>∃fr st G,AQ e fr st∧Rel gl w0 G st w∧wP G st fr a∧Ext s0 G0 G∧s0.le st
def jR (P:Program) (gl:Nat->List V) (s0:St) (c:Code) (AQ:Exit->AFr->St->Prop) (fr:AFr) (st:St):Prop:=
 ∀(b:xi) (G0 G:Gh) (w:World) (a:Act),s0.le st->Ext s0 G0 G->Rel gl b G st w->wP G st fr a->c.wp P (BQ gl s0 b G0 AQ) a w
def zh (P:Program) (gl:Nat->List V) (s0:St):List Code->(Exit->AFr->St->Prop)->AFr->St->Prop
 | [],AQ,fr,st=>AQ .normal fr st
 |c::cs,AQ,fr,st=>jR P gl s0 c (wE (fun fr st=>zh P gl s0 cs AQ fr st) AQ) fr st
def Wk (s0:St) (fr:AFr) (st:St) (fr':AFr) (st':St):Prop:=
 ∀(gl:Nat->List V) (b:xi) (G0 G:Gh) (w:World) (a:Act),s0.le st->Ext s0 G0 G->Rel gl b G st w->wP G st fr a->s0.le st'∧∃G',Ext s0 G0 G'∧Rel gl b G' st' w∧wP G' st' fr' a
def Wk.refl (s0:St) (fr:AFr) (st:St):Wk s0 fr st fr st:=fun _ _ _ G _ _ a b e f=>⟨a,G,b,e,f⟩
def Wk.trans {fr fr' fr'':AFr} {st st' st'':St} (h:Wk s0 fr st fr' st') (k:Wk s0 fr' st' fr'' st''):Wk s0 fr st fr'' st'':=fun gl b G0 G w a j l m n=>by
 obtain⟨e,G',f,g,i⟩:=h gl b G0 G w a j l m n;exact k gl b G0 G' w a e f g i
variable {c:Code} {cs:List Code} {AQ AQ':Exit->AFr->St->Prop} {fr fr':AFr} {st st':St}
def jR.of (h:WH P gl c AQ fr st):jR P gl s0 c AQ fr st:=by
 intro o G0 G w a b f g i;refine wp_mono (h o G w a g i) ?_;rintro e p q ⟨fr',st',G',j,k,l,m,n⟩;exact⟨fr',st',G',j,k,l,f.trans b m,b.trans n⟩
def jR.mono (h:jR P gl s0 c AQ fr st) (j:∀e fr st,AQ e fr st->AQ' e fr st):jR P gl s0 c AQ' fr st:=by
 intro m G0 G w a b f g i;refine wp_mono (h m G0 G w a b f g i) ?_;rintro e n o ⟨fr',st',G',k,l⟩;exact⟨fr',st',G',j _ _ _ k,l⟩
def jR.wk (n:Wk s0 fr st fr' st') (h:jR P gl s0 c AQ fr' st'):jR P gl s0 c AQ fr st:=by
 intro b G0 G w a j k l m;obtain⟨e,G',f,g,i⟩:=n gl b G0 G w a j k l m;exact h b G0 G' w a e f g i
def zex (a:Wk s0 fr st fr' st') (h:zh P gl s0 (c::cs) AQ fr' st'):zh P gl s0 (c::cs) AQ fr st:=jR.wk a h
def cW (h:zh P gl s0 [c] AQ fr st):jR P gl s0 c AQ fr st:=by
 simp only [zh,pc]at h; exact h
def zcZ {a b:Code} (h:zh P gl s0 (a::b::cs) AQ fr st):zh P gl s0 (.seq a b::cs) AQ fr st:=by
 intro g G0 G w ac j k l m;refine wp_seq (wp_mono (h g G0 G w ac j k l m) ?_);intro e i s f
 cases e with
 | normal=>
  obtain⟨fr',st',G',n,o,p,q,r⟩:=f;exact n g G0 G' s i r q o p
 |_=>exact f
def zaO (h:zh P gl s0 cs AQ fr st):zh P gl s0 (.skip::cs) AQ fr st:=
 fun i G0 G w a b e f g=>wp_skip ⟨fr,st,G,h,f,g,e,b⟩
def zcD (h:AQ .ret fr st):zh P gl s0 (.ret::cs) AQ fr st:=
 fun i G0 G w a b e f g=>wp_ret ⟨fr,st,G,h,f,g,e,b⟩
def zbM {id:Nat} (h:AQ (.exit id) fr st):zh P gl s0 (.exit id::cs) AQ fr st:=
 fun i G0 G w a b e f g=>wp_exit ⟨fr,st,G,h,f,g,e,b⟩
def Cl (s0:St) (K:AFr->St->Prop):Prop:=∀fr st fr' st',Wk s0 fr st fr' st'->K fr' st'->K fr st
def zO:Cl s0 (zh P gl s0 (c::cs) AQ):=fun _ _ _ _ h k=>jR.wk h k
def kq (h:Cl s0 (AQ .normal)):Cl s0 (zh P gl s0 [] AQ):=h
def toW (s0:St) (fr':AFr) (st':St):AFr->St->Prop:=fun fr st=>Wk s0 fr st fr' st'
def zb8 {c:Operand} {x y:Code} (t:Bool) (n:fr.eval c= .bool t) (l:t=true->zh P gl s0 (x::cs) AQ fr st) (m:t=false->zh P gl s0 (y::cs) AQ fr st):zh P gl s0 (.cond c x y::cs) AQ fr st:=by
 intro k G0 G w a h i j b;have g:=(b.eval c).2;rw [n]at g;have e:a.eval c= .bool t:=by generalize a.eval c=q at g; cases g; rfl
 exact wp_cond_split e (fun f=>l f k G0 G w a h i j b) (fun f=>m f k G0 G w a h i j b)
def PU {id:Nat} (h:zh P gl s0 [c] (qd id (wE (zh P gl s0 cs AQ) AQ)) fr st):zh P gl s0 (.block id c::cs) AQ fr st:=by
 intro m G0 G w a i j k l;refine wp_block (wp_mono (h m G0 G w a i j k l) ?_);rintro e n o ⟨fr',st',G',b,g⟩
 cases e with
 | exit id'=>
  simp only [qd,wE]at b;simp only [Exit.inBlock];split
  ·rename_i f; rw [iI f]at b; exact⟨fr',st',G',b,g⟩
  ·rename_i f; rw [iH f]at b; exact⟨fr',st',G',b,g⟩
 |_=>exact⟨fr',st',G',b,g⟩
def ga (s0:St) {X:Type} (F:X->AFr) (S:X->St) (L:X->Prop):AFr->St->Prop:=fun fr st=>∃x,L x∧Wk s0 fr st (F x) (S x)
def zaQ {X:Type} (F:X->AFr) (S:X->St) (L:Nat->X->Prop) (N:∀x,¬L 0 x) (n:Nat) (j:X) (Q:L n j) (U:Wk s0 fr st (F j) (S j))
  (round:∀k x,L (k+1) x->zh P gl s0 [c] (wE (ga s0 F S (L k)) AQ) (F x) (S x)):zh P gl s0 (.loop c::cs) AQ fr st:=by
 intro g G0 G w a H I K M;let Good:Nat->Act->World->Prop:=fun n a w=>∃x G,L n x∧s0.le (S x)∧Ext s0 G0 G∧Rel gl g G (S x) w∧wP G (S x) (F x) a
 have key:∀n a w,Good n a w->(Code.loop c).wp P (BQ gl s0 g G0 (wE (fun fr st=>zh P gl s0 cs AQ fr st) AQ)) a w:=by
  intro n a w T;refine wp_loop (fun a w=>∃m,Good m a w) (fun a w=>dO fun m=>Good m a w) ⟨n,T⟩ ?_;intro a w O;have b:=J2 O;generalize hm:dO (fun m=>Good m a w)=m at b;obtain⟨x,G1,E,W,Y,Z,l5⟩:=b
  cases m with
  |zero=>exact absurd E (N x)
  | succ m=>
   have v:=round m x E;simp only [zh,pc]at v;refine wp_mono (v g G0 G1 w a W Y Z l5) ?_;rintro e h i ⟨l,t,G2,y,z,A,B,C⟩
   cases e with
   | normal=>
    obtain⟨x',m1,m2⟩:=y;obtain⟨o,G3,q,r,s⟩:=m2 gl g G0 G2 i h C B z A;have f:Good m h i:=⟨x',G3,m1,o,q,r,s⟩
    refine⟨⟨m,f⟩, ?_⟩;have:=Do (p:=fun m=>Good m h i) f;show dO (fun m=>Good m h i)<_;omega
   |_=>exact⟨l,t,G2,y,z,A,B,C⟩
 obtain⟨o,G',q,r,s⟩:=U gl g G0 G w a H I K M;exact key n a w ⟨j,G',Q,o,q,r,s⟩
def bA (P:Program) (gl:Nat->List V) (s0:St) (fn:Func) (Q:V->St->Prop):Exit->AFr->St->Prop:=fun e fr st=>
 (e= .normal∨e= .ret)∧∃r st',Q r st'∧∀(b:xi) (G0 G:Gh) (w:World) (a:Act),s0.le st->Ext s0 G0 G->Rel gl b G st w->wP G st fr a ->
  a.defers= []∧s0.le st'∧∃G' c,(results fn a.tmps).run P w= .ok c w∧VR G' r c∧V.sc st' r∧Rel gl b G' st' w∧Ext s0 G0 G'
def P0 {fn:Func} {Q:V->St->Prop} {e:Exit}:Cl s0 (bA P gl s0 fn Q e):=by
 rintro fr st fr' st' n ⟨l,r,b,m,h⟩;refine⟨l,r,b,m, ?_⟩;intro f G0 G w a g i j k;obtain⟨o,G',p,q,s⟩:=n gl f G0 G w a g i j k;exact h f G0 G' w a o p q s
def bA.ends {fn:Func} {Q:V->St->Prop} {e:Exit} {b:List V} (r:V) (st':St) (m:e= .normal∨e= .ret) (p:jf P gl fr st fn.results.toList=some b)
  (q:Wk s0 ⟨1,[(0,Qw b)]⟩ st ⟨1,[(0,r)]⟩ st') (o:Q r st'):bA P gl s0 fn Q e fr st:=by
 refine⟨m,r,st',o, ?_⟩;intro z G0 G w a h i f g;obtain⟨c,j,k,l⟩:=BI f g p
 have n:wP G st ⟨1,[(0,Qw b)]⟩ {tmps:= #[c],defers:= []}:=by
  refine⟨rfl,rfl, ?_⟩;intro t;simp only [yG]
  cases t with
  |zero=>exact⟨l,k⟩
  |succ t=>simp [V.sc]; exact .junk _
 obtain⟨s,G',v,x,y⟩:=q gl z G0 G w _ h i f n;have:=y.slot 0;exact⟨g.defers,s,G',c,j,this.2,this.1,x,v⟩
def xO.ofB {f : FuncId} {fn : Func} {c : Code} {args : List V} {st : St} {Q : V → St → Prop} (hf : P.funcs[f]? = some fn) (hb : fn.body = some c) (hn : (fn.name == "runtime.NumGoroutine") = false) (hl : args.length ≤ fn.ntmps)
  (h:zh P gl st [c] (bA P gl st fn Q) (UR fn.ntmps args) st):xO P gl f args st Q:=by
 refine⟨by simp [XC,hf,hb,hn], ?_⟩;intro w0 G w cargs hr hv hs;refine calls_of_wp hf hb ?_;have hsz:args.length=cargs.size:=hv.1
 have hfr:wP G st (UR fn.ntmps args) {tmps:=cargs++Array.replicate (fn.ntmps-cargs.size) undef,defers:= []}:=by
  refine⟨rfl,by simp [UR]; omega, ?_⟩;intro t;simp only [UR,fg args 0 t,Nat.zero_le,if_true,Nat.sub_zero]
  cases hq:args[t]? with
  |none=>simp [V.sc]; exact .junk _
  | some v=>
   have ht:t<cargs.size:=by rw [<-hsz]; exact zB hq
   refine⟨(V.scs_iff st _).1 hs v (iQ hq), ?_⟩;simp only [Option.getD_some,Array.getD_eq_getD_getElem?];rw [Array.getElem?_append_left ht];simp only [ht,getElem?_pos,Option.getD_some];exact hv.2 t v _ hq (by simp [ht])
 refine wp_mono (cW h w0 G G w _ (.refl _) (.refl _ _) hr hfr) ?_;rintro e a' w' ⟨fr',st1,G1,⟨he,r,st2,hq,hend⟩,m2,m3,m4,m5⟩;obtain⟨hd,q1,G',c',h1,h2,h3,h4,h5⟩:=hend w0 G G1 w' a' m5 m4 m2 m3
 have fin:∃v,(results fn a'.tmps).run P w'= .ok v w'∧(∃r c st' G',Ending.returned v= .returned c∧Q r st'∧VR G' r c∧V.sc st' r∧Rel gl w0 G' st' w'∧Ext st G G'∧st.le st'):=
  ⟨c',h1,r,c',st2,G',rfl,hq,h2,h3,h4,h5,q1⟩
 rcases he with rfl|rfl
 ·exact⟨hd,fin⟩
 ·exact⟨hd,fin⟩
mutual
def V.lts (nv nf:Nat):V->Bool
  | .ptr id _=>decide (id<nv)
  | .rsl id _ _ _ _=>decide (id<nv)
  | .sl _ _ (.fam t _)=>decide (t<nf)
  | .func _ a b=>V.ltss nv nf a&&V.ltss nv nf b
  | .agg cs=>V.ltss nv nf cs
  | .tuple cs=>V.ltss nv nf cs
  | .own id _ _=>decide (id<nv)
  | .mapv id=>decide (id<nv)
  | .iter id=>decide (id<nv)
  | .iface _ v=>V.lts nv nf v
  |_=>true
def V.ltss (nv nf:Nat):List V->Bool
  | []=>true
  |v::a=>V.lts nv nf v&&V.ltss nv nf a
end
def V.sc_of_ren {R:Ren} {st1 st:St} (hσ:∀k,k<st1.vars.length->k<R.σ.length) (A:∀(k p:Nat),st1.fams[k]? =some p->∃i,R.τ[k]? =some i∧st.fams[i]? =some p):
  ∀v:V,V.lts st1.vars.length st1.fams.length v=true->V.sc st (V.ren R v)->V.sc st1 v:=by
 intro v
 refine V.rec (motive_1:=fun v=>V.lts st1.vars.length st1.fams.length v=true->V.sc st (V.ren R v)->V.sc st1 v) (motive_2:=fun l=>V.ltss st1.vars.length st1.fams.length l=true->V.scs st (V.rens R l)->V.scs st1 l) (motive_3:=fun _=>True)
  ?_ ?_ ?_ ?_ ?_ ?_ ?_ ?_ ?_ ?_ ?_ ?_ ?_ ?_ ?_ ?_ ?_ ?_ ?_ ?_ ?_ ?_ ?_ ?_ ?_ ?_ ?_ v
 all_goals try (intros; trivial)
 ·intro id o h _; simpa [V.sc,V.lts] using h
 ·intro s C r _ h e
  cases r with
  | fam t p=>
   simp only [V.sc,V.ren,V.lts,iJ]at *;obtain⟨i,w,x⟩:=A t _ (iK h);obtain⟨q,g,B⟩:=e;have:rn R.τ R.m t=i:=by simp [rn,w]
   rw [this,x]at g; injection g with g;exact⟨_,iK h,by rw [g]; exact B⟩
  |_=>simp [V.sc]
 ·intro id o len cap s h _; simpa [V.sc,V.lts] using h
 ·intro fn a b y z h e; simp only [V.sc,V.ren,V.lts,iF]at *; exact⟨y h.1 e.1,z h.2 e.2⟩
 ·intro cs f h e; simp only [V.sc,V.ren,V.lts]at *; exact f h e
 ·intro cs f h e; simp only [V.sc,V.ren,V.lts]at *; exact f h e
 ·intro id n s h _; simpa [V.sc,V.lts] using h
 ·intro id h _; simpa [V.sc,V.lts] using h
 ·intro id h _; simpa [V.sc,V.lts] using h
 ·intro t v f h e; simp only [V.sc,V.ren,V.lts]at *; exact f h e
 ·intro v E j m h e; simp only [V.scs,V.rens,V.ltss,iF]at *; exact⟨j h.1 e.1,m h.2 e.2⟩
def V.scs_of_ren {R:Ren} {st1 st:St} (hσ:∀k,k<st1.vars.length->k<R.σ.length) (b:∀(k p:Nat),st1.fams[k]? =some p->∃i,R.τ[k]? =some i∧st.fams[i]? =some p):
  ∀l:List V,V.ltss st1.vars.length st1.fams.length l=true->V.scs st (V.rens R l)->V.scs st1 l
 | [],_,_=>trivial
 | v::e,h,a=>by
  simp only [V.scs,V.rens,V.ltss,iF]at *;exact⟨V.sc_of_ren hσ b v h.1 a.1,V.scs_of_ren hσ b e h.2 a.2⟩
def zaE (s0:St) (R:Ren):Bool:=decide (s0.vars.length<=R.σ.length)&&(List.range s0.vars.length).all (fun k=>R.σ[k]? ==some k)&&decide (s0.fams.length<=R.τ.length)&&(List.range s0.fams.length).all (fun k=>R.τ[k]? ==some k)
def Wk.asBuf (id:Nat) (cs:List V) (hi:st.vars[id]? =some cs) (m:V.pcells cs=true) (k:0<cs.length):Wk s0 fr st fr (st.put id [.buf cs]):=by
 intro gl C G0 G w a q s n e;have j:=St.le_put st id [V.buf cs];refine⟨q.trans j,G,s,n.forget O2 (fun t p h=>h) ?_,e.defers,e.size,fun t=>⟨V.sc_mono j _ (e.slot t).1,(e.slot t).2⟩⟩;intro id' c f;rcases St.put_get f with⟨rfl,rfl⟩|⟨A,f⟩
 ·refine ⟨by simp [V.scs,V.sc],fun _=>⟨cs,hi, ?_, ?_⟩⟩
  ·cases cs with
   |nil=>simp at k
   | cons a r=>
    cases i:V.gone (a::r)with
    |false=>rfl
    | true=>
     unfold V.gone at i;split at i
     ·rename_i g; cases g
     ·rename_i g; rw [g]at m; simp [V.pcells,V.pcell,V.isCell]at m
     ·cases i
  ·intro r o l;have b:∀v∈cs,V.pcell v=true:=fun v B=>List.all_eq_true.1 m v B
   cases l with
   |cells x y z=>exact .buf b x y z
   |mp _ _=>have:=b _ (List.mem_singleton.2 rfl); simp [V.pcell,V.isCell]at this
   |sit _ _=>have:=b _ (List.mem_singleton.2 rfl); simp [V.pcell,V.isCell]at this
   |buf _ _ _ _=>have:=b _ (List.mem_singleton.2 rfl); simp [V.pcell,V.isCell]at this
 ·exact⟨V.scs_mono j _ (n.sc _ _ f),fun k=>⟨c,f,k,fun r o l=>l⟩⟩
def Wk.nilFam:Wk s0 fr st fr (st.pushFam 0):=by
 intro gl j G0 G w a b f g h;obtain⟨G',i,e⟩:=g.nilFam;exact⟨b.trans (St.le_pushFam st 0),G',f.trans b e,i,h.ext e (St.le_pushFam st 0)⟩
end
end Go.Abs
end
