/- Abstract values. No condition. -/
import Derived.Test.YtkabooclnoiclaaGreatDoorA12
set_option linter.all false
section
namespace Go.Abs
open Go.RowKit (Below)
def ZJ (v:V) (args:List V):Option (FuncId×List V):=
 match v with
 | .func (.func f) first captured=>some (f,first++args++captured)
 |_=>none
def nZ (P:Program) (o:Op) (fr:AFr) (st:St) (K:V->St->Prop):Prop:=
 match o with
 | .buildSlice t len b=>match ph P st (ti P t).d len (b.toList.map fun(i,x)=>(i,fr.eval x))with
  |some (v,c)=>K v c
  |none=>False
 |_=>False
def gI (P:Program) (gl:Nat->List V) (o:Oper) (fr:AFr) (st:St) (K:V->St->Prop):Prop:=
 match o.op with
 | .call ⟨.value f,b,_⟩=>
  match ZJ (fr.eval f) (b.toList.map fr.eval)with
  |some (g,e)=>xO P gl g e st K
  |none=>False
 | op=>match xc P gl fr st op with
  |some (v,c)=>K v c∨nZ P op fr st K
  |none=>False
def aOp (P:Program) (gl:Nat->List V) (o:Oper) (fr:AFr) (st:St) (K:AFr->St->Prop):Prop:=
 gI P gl o fr st fun v b=>K (fr.put o.dst v) b
def uM (ops:Array Oper) (fr:AFr) (j:Nat):Option (Option Bool):=
 match ops[j]? with
 | some o=>match o.dst with
  | some d=>match yG fr.l d with
   | .bool b=>some (some b)
   | .tuple []=>some none
   |_=>none
  |none=>none
 |none=>none
def hJ (p A B:Prop):Prop:=(p->A)∧(¬p->B)
def u9 (P:Program) (gl:Nat->List V) (ops:Array Oper):List Oper->AFr->St->(AFr->St->Prop)->Prop
 | [],fr,st,K=>K fr st
 | o::c,fr,st,K=>
  match o.guard with
  |none=>aOp P gl o fr st fun fr st=>u9 P gl ops c fr st K
  | some (j,e)=>match uM ops fr j with
   |some b=>hJ (b=some e) (aOp P gl o fr st fun fr st=>u9 P gl ops c fr st K) (u9 P gl ops c (fr.put o.dst (.tuple [])) st K)
   |none=>False
section
variable {P:Program} {gl:Nat->List V} {w0:xi} {G:Gh} {st:St} {w:World} {a:Act} {fr:AFr}
def J6 {f:FuncId} (h:XC P f=true) (args:Array Value) (w:World):(callFunc f args).run P w= .ok (.enter f args) w:=by
 unfold XC at h;unfold callFunc;simp only [iB,run_program,iA];split at h
 ·rename_i fn b;rw [b];simp only [iF,Bool.not_eq_true']at h
  have e:fn.body.isNone=false:=by
   cases g:fn.body with
   |none=>rw [g]at h; simp at h
   |some c=>rfl
  simp only [h.2,e,iT,if_false,iC]
 ·cases h
def Yd {Q:Exit->Act->World->Prop} {next:Act->World->Prop} {o:Oper} {K:V->St->Prop} (h:gI P gl o fr st K) (U:Rel gl w0 G st w) (M:wP G st fr a)
  (I:∀v c st' G' w',K v st'->VR G' v c->V.sc st' v->Rel gl w0 G' st' w'->Ext st G G'->st.le st'->next (a.put o.dst c) w'):o.wp P a w next Q:=by
 have plain:∀ {v st'},xc P gl fr st o.op=some (v,st')->K v st'->o.wp P a w next Q:=by
  intro v st' B N;obtain⟨c,w',G',p,H,O,h4,h5,h6⟩:=KZ U M o B;rcases p with p|⟨p,rfl⟩
  ·simp only [Oper.wp,p,Oper.upon];exact I _ _ _ _ _ N H O h4 h5 h6
  ·simp only [Oper.wp,p,Oper.upon];exact I _ _ _ _ _ N H O h4 h5 h6
 have own:nZ P o.op fr st K->o.wp P a w next Q:=by
  intro h;unfold nZ at h;split at h
  ·rename_i t len A s;split at h
   ·rename_i v st' j;obtain⟨p,H,O⟩:=X9 M A;obtain⟨c,w',G',k1,k2,k3,k4,k5,k6⟩:=XF U p H j
    have B:(execOp a.eval o).run P w= .ok (.value c) w':=by
     simp only [execOp,s,iB,k1,iA,iC]
    simp only [Oper.wp,B,Oper.upon];exact I _ _ _ _ _ h k2 k3 k4 k5 k6
   ·exact h.elim
  ·exact h.elim
 unfold gI at h;split at h
 ·rename_i f b tys s;split at h
  ·rename_i g vs k;obtain⟨T,hcalls⟩:=h;have l:=M.eval f;generalize hq:a.eval f=q at l;obtain⟨m,l⟩:=l;unfold ZJ at k;split at k
   ·rename_i f' first captured S
    injection k with k; injection k with X Y; subst X Y;rw [S]at l m
    cases l with
    | func l1 r1 l2 r2=>
     rename_i Z c2;obtain⟨as_,av⟩:=M.evals b.toList;have e1:(b.toList.map a.eval).toArray=b.map a.eval:=by rw [<-Array.toList_map,Array.toArray_toList]
     rw [e1]at av;simp only [V.sc]at m
     have E:(execOp a.eval o).run P w= .ok (.enter f' (Z++b.map a.eval++c2)) w:=by
      simp only [execOp,s,resolve,hq,Deferred.ofValue,iB,iC,iA,invoke];exact J6 T _ w
     simp only [Oper.wp,E,Oper.upon]
     have n:∀ {x y:List V} {cx cy:Array Value},VRs G x cx->VRs G y cy->VRs G (x++y) (cx++cy):=by
      intro x y cx cy z hy;refine⟨by simp [z.1,hy.1], ?_⟩;intro i v c j L;rcases iS i x.length with C|C
      ·rw [iU C]at j;rw [Array.getElem?_append_left (by rw [<-z.1]; exact C)]at L;exact z.2 i v c j L
      ·rw [List.getElem?_append_right C]at j;rw [Array.getElem?_append_right (by rw [<-z.1]; exact C),<-z.1]at L;exact hy.2 _ v c j L
     have F:V.scs st (first++b.toList.map fr.eval++captured):=by
      rw [V.scs_iff];intro v j;rcases List.mem_append.1 j with j|j
      ·rcases List.mem_append.1 j with j|j
       ·exact(V.scs_iff st _).1 m.1 v j
       ·exact(V.scs_iff st _).1 as_ v j
      ·exact(V.scs_iff st _).1 m.2 v j
     refine(hcalls w0 G w (Z++b.map a.eval++c2) U (n (n ⟨l1,r1⟩ av) ⟨l2,r2⟩) F).mono ?_;rintro e w' ⟨r,c,st',G',rfl,N,j,hs,W,z,hl⟩;exact I _ _ _ _ _ N j hs W z hl
   ·cases k
  ·exact h.elim
 ·split at h
  ·rename_i v st' B;rcases h with h|h
   ·exact plain B h
   ·exact own h
  ·exact h.elim
def JY {Q:Exit->Act->World->Prop} {next:Act->World->Prop} {o:Oper} {K:AFr->St->Prop} (h:aOp P gl o fr st K) (l:Rel gl w0 G st w) (f:wP G st fr a)
  (j:∀fr' st' G' e w',K fr' st'->Rel gl w0 G' st' w'->wP G' st' fr' e->Ext st G G'->st.le st'->next e w'):o.wp P a w next Q:=
 Yd (K:=fun v st'=>K (fr.put o.dst v) st') h l f fun v c st' G' w' k n m b i g=>j _ _ _ _ _ k b ((f.ext i g).put o.dst m n) i g
theorem VR.undef_eq {G:Gh} {c:Value} (h:VR G (.tuple []) c):c=undef:=by
  cases h with
  | tuple h1 h2 => rename_i c; have:c= #[]:=by apply Array.eq_empty_of_size_eq_zero; simpa using h1.symm
                   subst this; rfl
def VR.undef (G:Gh):VR G (.tuple []) Go.undef:= .tuple rfl (by intro i v x h; simp at h)
def Xd {ops:Array Oper} {j:Nat} {y:Option Bool} (i:wP G st fr a) (h:uM ops fr j=some y):yielded ops a.tmps j=y:=by
 unfold uM at h;split at h
 ·rename_i o g;split at h
  ·rename_i d hd;have c:=(i.slot d).2;split at h
   ·rename_i k f;cases h;rw [f]at c;generalize b:a.tmps.getD d undef=q at c;cases c;unfold yielded;simp only [g,iG,hd];rw [Array.getD_eq_getD_getElem?]at b
    cases e:a.tmps[d]? with
    |none=>rw [e]at b; simp [Go.undef]at b
    |some x=>rw [e]at b; simp at b; subst b; rfl
   ·rename_i f;cases h;rw [f]at c;have b:=c.undef_eq;unfold yielded;simp only [g,iG,hd];rw [Array.getD_eq_getD_getElem?]at b
    cases e:a.tmps[d]? with
    |none=>rfl
    |some x=>rw [e]at b; simp at b; subst b; rfl
   ·cases h
  ·cases h
 ·cases h
def Yt {ops:Array Oper} {Q:Exit->Act->World->Prop} {K:AFr->St->Prop}:∀(l:List Oper) (k:Nat) (fr:AFr) (st:St) (G:Gh) (w:World) (a:Act),ops.toList.drop k=l->u9 P gl ops l fr st K->Rel gl w0 G st w->wP G st fr a ->
  (∀fr' st' G' f w',K fr' st'->Rel gl w0 G' st' w'->wP G' st' fr' f->Ext st G G'->st.le st'->Q .normal f w')->wpOps P ops Q (List.range' k l.length) a w
 | [],k,fr,st,G,w,a,hd,h,i,g,q=>q fr st G a w h i g (.refl _ _) (.refl _)
 | o ::c,k,fr,st,G,w,a,hd,h,i,g,q=>by
  have E:ops[k]? =some o:=by
   have:(ops.toList.drop k)[0]? =some o:=by rw [hd]; rfl
   rw [List.getElem?_drop,Nat.add_zero,Array.getElem?_toList]at this;exact this
  have r:ops.toList.drop (k+1)=c:=by
   have:=congrArg (List.drop 1) hd;rw [List.drop_drop]at this;simpa using this
  simp only [List.length_cons,List.range'_succ,wpOps,E];simp only [u9]at h
  have cont:∀fr' st' G' f w',u9 P gl ops c fr' st' K->Rel gl w0 G' st' w'->wP G' st' fr' f->Ext st G G'->st.le st'->wpOps P ops Q (List.range' (k+1) c.length) f w':=
   fun fr' st' G' f w' y z A B t=>Yt c (k+1) fr' st' G' w' f r y z A (fun p s G2 x N F H I L M=>q p s G2 x N F H I (B.trans t L) (t.trans M))
  split at h
  ·rename_i n;rw [iI (by simp [Region.wanted,n])];exact .inl (JY h i g cont)
  ·rename_i j m n;split at h
   ·rename_i b C;have v:=Xd g C
    by_cases e:b=some m
    ·rw [iI (by simp [Region.wanted,n,v,e])];exact .inl (JY (h.1 e) i g cont)
    ·rw [iH (by simp [Region.wanted,n,v,e])];exact cont _ _ G _ _ (h.2 e) i (g.put o.dst (by simp [V.sc,V.scs]) (.undef _)) (.refl _ _) (.refl _)
   ·exact h.elim
def WH.region {id:Nat} {ops:Array Oper} {AQ:Exit->AFr->St->Prop} (h:u9 P gl ops ops.toList fr st (AQ .normal)):WH P gl (.region id ops false) AQ fr st:=by
 intro w0 G w a e f;refine wp_region ?_;have:=Yt (P:=P) (gl:=gl) (w0:=w0) (ops:=ops) (Q:=LQ gl w0 st G AQ) ops.toList 0 fr st G w a rfl h e f (fun b c G' m n g i j k l=>⟨b,c,G',g,i,j,k,l⟩);rw [List.range_eq_range'];simpa using this
end
def St.ok (st:St):Prop:=∀(id:Nat) (b:List V),st.vars[id]? =some b->V.scs st b
def VLe (v u:V):Prop:=∀(G:Gh) (c:Value),VR G u c->VR G v c
def VLe.refl (v:V):VLe v v:=fun _ _ h=>h
def VLe.sl (sz:Nat) (es:List (List V)) (tok:Tok):VLe (.sl sz es .none) (.sl sz es tok):=fun _ _ h=>by
 cases h with
 |sl a b c=>exact .sl a trivial c
 |slnil=>exact .slnil _ _
 |slz=>exact .slz _ _
def VLe.nil (sz:Nat) (tok:Tok):VLe (.sl sz [] tok) .nilsl:=fun _ _ h=>by cases h; exact .slnil _ _
def VLe.agg {a b:List V} (h:a.length=b.length) (l:∀(i:Nat) (u v:V),a[i]? =some u->b[i]? =some v->VLe u v):VLe (.agg a) (.agg b):=fun G c e=>by
 cases e with
 | agg j k=>
  refine .agg (by rw [h,j]) ?_;intro i u x f m
  have g:i<b.length:=by
   rw [<-h];rcases iS i a.length with e|e
   ·exact e
   ·rw [iN e]at f; cases f
  exact l i u _ f (iK g) G x (k i _ x (iK g) m)
def VLe.tuple {a b:List V} (h:a.length=b.length) (l:∀(i:Nat) (u v:V),a[i]? =some u->b[i]? =some v->VLe u v):VLe (.tuple a) (.tuple b):=fun G c e=>by
 cases e with
 | tuple j k=>
  refine .tuple (by rw [h,j]) ?_;intro i u x f m
  have g:i<b.length:=by
   rw [<-h];rcases iS i a.length with e|e
   ·exact e
   ·rw [iN e]at f; cases f
  exact l i u _ f (iK g) G x (k i _ x (iK g) m)
def pe (P:Program) (gl:Nat->List V) (fr:AFr) (st:St):ResultVar->Option V
 | .tmp t=>some (yG fr.l t)
 | .cell a t=>match Xc gl st (yG fr.l a) (ti P t).sz (ti P t).d.agg with
  |some v=>if(ti P t).ok=true∧(ti P t).d≠ .other then some v else none
  |none=>none
def jf (P:Program) (gl:Nat->List V) (fr:AFr) (st:St):List ResultVar->Option (List V)
 | []=>some []
 | r::b=>match pe P gl fr st r,jf P gl fr st b with
  |some v,some c=>some (v::c)
  |_,_=>none
def Qw:List V->V
 | [v]=>v
 |b=> .tuple b
def UR (n:Nat) (args:List V):AFr:=⟨n,args.zipIdx.map fun(v,i)=>(i,v)⟩
def fg (args:List V):∀(k t:Nat),yG ((args.zipIdx k).map fun(v,i)=>(i,v)) t=if k<=t then(args[t-k]?).getD .junk else .junk:=by
 induction args with
 |nil=>intro k t; simp [yG]
 | cons v r c=>
  intro k t;simp only [List.zipIdx_cons,List.map_cons,yG,c]
  by_cases h:k=t
  ·subst h; simp
  ·rw [iH h]
   by_cases b:k+1<=t
   ·rw [iI b,iI O0,show t-k=(t-(k+1))+1 by omega,List.getElem?_cons_succ]
   ·rw [iH b,iH O0]
section
variable {P:Program} {gl:Nat->List V} {w0:xi} {G:Gh} {st:St} {w:World} {a:Act} {fr:AFr}
def Gm (h:Rel gl w0 G st w) (i:wP G st fr a) {r:ResultVar} {v:V} (b:pe P gl fr st r=some v):
  ∃c,((match r with| .tmp t=>(pure (a.tmps.getD t undef):Sem Value)| .cell x t=>do loadVar t (<-asAddr (a.tmps.getD x undef))).run P w= .ok c w)∧VR G v c∧V.sc st v:=by
 cases r with
 |tmp t=>simp only [pe]at b; cases b; exact⟨_,rfl,(i.slot t).2,(i.slot t).1⟩
 | cell x t=>
  simp only [pe]at b;split at b
  ·rename_i o j;split at b
   ·rename_i l;cases b;have g:=i.slot x;obtain⟨c,k,m,n⟩:=Uj h l.1 l.2 g.2 g.1 j
    have f:∃ad,a.tmps.getD x undef= .pointer (some ad):=by
     generalize a.tmps.getD x undef=q at g;generalize yG fr.l x=y at g j
     cases g.2 with
     |ptr _=>exact⟨_,rfl⟩
     |eptr _=>exact⟨_,rfl⟩
     |gptr=>exact⟨_,rfl⟩
     |_=>simp [Xc]at j
    obtain⟨ad,e⟩:=f;rw [e]at k;refine⟨c, ?_,m,n⟩;simp only [e,iB,asAddr,iC,iA];simpa [Instr.loadAt,Instr.sureAddr] using k
   ·cases b
  ·cases b
def Xz (h:Rel gl w0 G st w) (k:wP G st fr a):∀(l:List ResultVar) (f:List V),jf P gl fr st l=some f ->
  ∃cs:List Value,(l.mapM (m:=Sem) fun r=>match r with| .tmp t=>pure (a.tmps.getD t undef)| .cell x t=>do loadVar t (<-asAddr (a.tmps.getD x undef))).run P w= .ok cs w∧VRs G f cs.toArray∧V.scs st f
 | [],f,b=>by simp only [jf]at b; cases b; exact⟨[],rfl,⟨rfl,O2⟩,trivial⟩
 | r ::l,f,b=>by
  simp only [jf]at b;split at b
  ·rename_i v vs' s y;cases b;obtain⟨c,e,p,q⟩:=Gm h k s;obtain⟨cs,n,o,z⟩:=Xz h k l vs' y;refine⟨c::cs, ?_,⟨by simpa using o.1, ?_⟩,q,z⟩
   ·simp only [List.mapM_cons,iB,iC]at *
    cases r with
    |tmp t=>simp only [iC,iA,n]at e ⊢; injection e with e; rw [e]
    |cell x t=>simp only [iB]at e ⊢; simp only [e,n,iA,iC]
   ·intro i u x g j
    cases i with
    |zero=>simp at g j; subst g j; exact p
    |succ i=>exact o.2 i u x (O7 g) (O7 j)
  ·cases b
def BI (h:Rel gl w0 G st w) (n:wP G st fr a) {fn:Func} {e:List V} (p:jf P gl fr st fn.results.toList=some e):∃c,(results fn a.tmps).run P w= .ok c w∧VR G (Qw e) c∧V.sc st (Qw e):=by
 obtain⟨b,l,f,j⟩:=Xz h n fn.results.toList e p
 have o:(fn.results.mapM (m:=Sem) fun r=>match r with| .tmp t=>pure (a.tmps.getD t undef)| .cell x t=>do loadVar t (<-asAddr (a.tmps.getD x undef))).run P w= .ok b.toArray w:=by
  rw [Array.mapM_eq_mapM_toList];simp only [Sem.run_map,l,iA]
 have g:e.length=b.length:=by simpa using f.1
 have fin:(results fn a.tmps).run P w= .ok (if h:b.toArray.size=1 then b.toArray[0]else .tuple b.toArray) w:=by
  unfold results;rw [iB]
  erw [o]
  rfl
 cases e with
 | nil=>
  have:b= []:=List.eq_nil_of_length_eq_zero g.symm;subst this;exact⟨.tuple #[],by rw [fin]; rfl, .tuple rfl O2,by simp [Qw,V.sc,V.scs]⟩
 | cons q e=>
  cases b with
  |nil=>simp at g
  | cons i b=>
   cases e with
   | nil=>
    have:b= []:=List.eq_nil_of_length_eq_zero (by simpa using g.symm);subst this;exact⟨i,by rw [fin]; rfl,f.2 0 q i rfl rfl,j.1⟩
   | cons s r=>
    cases b with
    |nil=>simp at g
    | cons k cr=>
     refine⟨.tuple (i::k::cr).toArray, ?_, .tuple f.1 f.2,j⟩;rw [fin,dif_neg O2]
end
@[congr] theorem hJ.congr {p b A A' B B' : Prop} (f : p = b) (c : b -> A = A') (e : ¬b -> B = B') : hJ p A B = hJ b A' B' := by
 subst f;apply propext;exact⟨fun h=>⟨fun x=>(c x)▸h.1 x,fun x=>(e x)▸h.2 x⟩,fun h=>⟨fun x=>(c x).symm▸h.1 x,fun x=>(e x).symm▸h.2 x⟩⟩
@[congr] theorem xO.congrArgs {P : Program} {gl : Nat -> List V} {f c : FuncId} {args b : List V} {st st' : St} {Q : V -> St -> Prop} (g : f = c) (e : args = b) (h : st = st') : xO P gl f args st Q = xO P gl c b st' Q := by
 subst g e h; rfl
attribute [simp ↓] u9 aOp gI
attribute [simp] uM ZJ xc AFr.eval AFr.put yG Zs qN YN QP fq aun GQ vN P5 Xc YD rd TD.agg V.isCells V.isCell V.cells V.of V.ofCell V.add V.isNil wE qd jf pe Qw jk W0 Y7 Ds V.pure V.pures V.pcell V.pcells V.sc V.scs UR
attribute [simp] List.getElem?_cons_zero List.getElem?_cons_succ List.getElem?_nil IntKind.bits
@[simp] theorem St.put_vars_length (st : St) (id : Nat) (c : List V) : (st.put id c).vars.length = st.vars.length := by simp [St.put]
end Go.Abs
end
