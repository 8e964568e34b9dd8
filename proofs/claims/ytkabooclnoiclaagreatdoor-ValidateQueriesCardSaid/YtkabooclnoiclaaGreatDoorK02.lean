/- Closed runs. No condition. -/
import Derived.Test.YtkabooclnoiclaaGreatDoorK01
set_option linter.all false
section
namespace Go.K
open Go.Abs
def KV.ofCell:Value->KV
 | .bool b=> .bool b
 | .int k n=> .int k n
 | .string s=> .str s.size (zi s.data.toList)
 | .pointer none=> .nilp
 | .slice none 0 0=> .nilsl
 | .map none=> .nilmap
 | .nilFunc=> .nilfunc
 | .nilIface=> .niliface
 |_=> .junk
def KV.of:Value->KV
 | .agg b=> .agg (b.toList.map KV.ofCell)
 | .tuple b=> .tuple (b.toList.map KV.ofCell)
 |v=>KV.ofCell v
section
variable {G:Gh}
def KR.ofCell (v:Value):KR G (KV.ofCell v) v:=by
 unfold KV.ofCell;split<;>first|exact .bool _|exact .int _ _|exact .str _|exact .nilp|exact .nilsl|exact .nilmap|exact .nilfunc|exact .niliface|exact .junk _
def KRs.ofCells (cs:Array Value):KRs G (cs.toList.map KV.ofCell) cs:=by
 refine⟨by simp, ?_⟩;intro i v c b e;rw [iV,Array.getElem?_toList,e]at b;simp at b; subst b;exact KR.ofCell c
def KR.of (v:Value):KR G (KV.of v) v:=by
 cases v with
 |agg b=>exact .agg (KRs.ofCells (G:=G) b).1 (KRs.ofCells b).2
 |tuple b=>exact .tuple (KRs.ofCells (G:=G) b).1 (KRs.ofCells b).2
 |_=>simp only [KV.of]; exact KR.ofCell _
end
def rM (a b:Nat):Nat.blt a b=decide (a<b):=xn a b
structure KFr where
 n:Nat
 l:Sl
 d:List KD
def zp (ng:Nat) (l:Sl):Operand->KV
 | .tmp t=>wD l t
 | .const v=>KV.of v
 | .global g=>bif Nat.blt g ng then .ptr g 0 else .junk
 | .func f=> .func (.func f) [] []
structure FrR (G:Gh) (fr:KFr) (a:Act):Prop where
 sl:SlR G fr.n fr.l a.tmps
 ds:KDs G fr.d a.defers
def FrR.le {G G':Gh} (h:G.le G') {fr:KFr} {a:Act} (k:FrR G fr a):FrR G' fr a:=⟨k.sl.le h,k.ds.le h⟩
def Glob (P:Program) (G:Gh):Prop:=∀g,g<P.globals.size->G.at_ g=some (g,0)
section
variable {P:Program} {B:xi} {G:Gh} {h:KH} {w:World} {fr:KFr} {a:Act}
def FrR.eval (c:Glob P G) {ng:Nat} (j:ng<=P.globals.size) (b:FrR G fr a) (x:Operand):KR G (zp ng fr.l x) (a.eval x):=by
 cases x with
 |tmp t=>exact b.sl.slot t
 |const v=>exact KR.of v
 | global g=>
  simp only [zp,rM,Bool.cond_decide];split
  ·rename_i i;have e:=c g (by omega);exact KR.ptr (off:=0) e
  ·exact .junk _
 |func f=>exact .func rfl (by simp) rfl (by simp)
def KS (P:Program) (B:xi) (G:Gh) (w:World) (s:Sem Value) (v:KV) (h':KH):Prop:=
 ∃c b G',s.run P w= .ok c b∧G.le G'∧KR G' v c∧KRel B G' h' b
def KS.same (r:KRel B G h w) {s:Sem Value} {v:KV} {c:Value} (b:s.run P w= .ok c w) (e:KR G v c):KS P B G w s v h:=⟨c,w,G,b, .refl _,e,r⟩
def B2:V->Option KV
 | .bool b=>some (.bool b)
 | .int k n=>some (.int k n)
 |_=>none
def Va {g:Abs.Gh} {v:V} {k:KV} {c:Value} (b:VR g v c) (e:B2 v=some k):KR G k c:=by
 unfold B2 at e;split at e
 ·cases e; cases b; exact .bool _
 ·cases e; cases b; exact .int _ _
 ·cases e
def Qf (k:IntKind) (op:BinOp) (x y:Int):Option KV:=
 match op with
 | .add=>some (.int k (k.wrap (x+y)))
 | .sub=>some (.int k (k.wrap (x-y)))
 | .mul=>some (.int k (k.wrap (x*y)))
 | .eql=>some (.bool (x==y))
 | .neq=>some (.bool (!(x==y)))
 | .lss=>some (.bool (decide (x<y)))
 | .leq=>some (.bool (decide (x<=y)))
 | .gtr=>some (.bool (decide (x>y)))
 | .geq=>some (.bool (decide (x≥y)))
 |op=>(QP k op x y).bind B2
def Pd (k:IntKind) (op:BinOp) (x y:Int):Option KV:=
 if y<0 then none else match op with
 | .shl=>some (.int k (k.wrap (x*2^(min y.toNat k.bits))))
 | .shr=>some (.int k (x.fdiv (2^(min y.toNat k.bits))))
 |_=>none
def Q1 (op:BinOp) (n a m b:Nat):Option KV:=
 match op with
 | .add=>bif Nat.ble (n+m) 9223372036854775807 then some (nV n a m b)else none
 | .eql=>some (.bool (Nat.beq n m&&Nat.beq a b))
 | .neq=>some (.bool (!(Nat.beq n m&&Nat.beq a b)))
 | .lss=>some (.bool (WM n a m b (min n m) 0))
 | .leq=>some (.bool (WM n a m b (min n m) 0||(Nat.beq n m&&Nat.beq a b)))
 | .gtr=>some (.bool (!(WM n a m b (min n m) 0||(Nat.beq n m&&Nat.beq a b))))
 | .geq=>some (.bool (!(WM n a m b (min n m) 0)))
 |_=>none
def zcb (d:TD) (x y:KV):Option Bool:=
 match d,x,y with
 | .ptr _, .nilp, .nilp=>some true
 | .ptr _, .ptr _ _, .nilp=>some false
 | .ptr _, .nilp, .ptr _ _=>some false
 | .slice .., .nilsl, .nilsl=>some true
 | .slice .., .sl .., .nilsl=>some false
 | .slice .., .slz, .nilsl=>some false
 | .map _ _, .nilmap, .nilmap=>some true
 | .map _ _, .map _, .nilmap=>some false
 | .func, .nilfunc, .nilfunc=>some true
 | .func, .func .., .nilfunc=>some false
 | .iface, .iface .., .niliface=>some false
 |_,_,_=>none
def QW (op:BinOp) (d:TD) (x y:KV):Option KV:=
 match x,y with
 | .int k a, .int c b=>
  match op with
  | .shl| .shr=>Pd k op a b
  |_=>if k=c then Qf k op a b else none
 | .str n a, .str m b=>Q1 op n a m b
 | .bool a, .bool b=>match op,d with
  | .eql, .bool=>some (.bool (a==b))
  | .neq, .bool=>some (.bool (!(a==b)))
  |_,_=>none
 | x,y=>match op,zcb d x y with
  | .eql,some t=>some (.bool t)
  | .neq,some t=>some (.bool (!t))
  |_,_=>none
def oo {k:IntKind} {op:BinOp} {x y:Int} {v:KV} (t:TypeId) (e:Qf k op x y=some v):∃c,(binOp op t (.int k x) (.int k y)).run P w= .ok c w∧KR G v c:=by
 have key:∀u,QP k op x y=some u->B2 u=some v->∃c,(binOp op t (.int k x) (.int k y)).run P w= .ok c w∧KR G v c:=fun u b f=>by
  obtain⟨c,g,i,_⟩:=GM (P:=P) (w:=w) (G:=(⟨fun _ _=>none,fun _=>none,fun _ _=>none,fun _=>0⟩:Abs.Gh)) (st:=⟨[],[]⟩) t b;exact⟨c,g,Va i f⟩
 have fin:(QP k op x y).bind B2=some v->∃c,(binOp op t (.int k x) (.int k y)).run P w= .ok c w∧KR G v c:=fun e=>by
  obtain⟨u,b,f⟩:=Option.bind_eq_some_iff.1 e;exact key u b f
 unfold Qf at e;split at e<;>first|exact fin e|(cases e; exact key _ rfl rfl)
def VX {k k':IntKind} {op:BinOp} {x y:Int} {v:KV} (t:TypeId) (e:Pd k op x y=some v):∃c,(binOp op t (.int k x) (.int k' y)).run P w= .ok c w∧KR G v c:=by
 unfold Pd at e;split at e
 ·cases e
 ·rename_i b;split at e
  ·cases e;exact⟨_,by simp only [binOp,Op.shift,b,if_false]; rfl, .int _ _⟩
  ·cases e;exact⟨_,by simp only [binOp,Op.shift,b,if_false]; rfl, .int _ _⟩
  ·cases e
def lE {op:BinOp} {x y:ByteArray} {v:KV} (t:TypeId) (e:Q1 op x.size (zi x.data.toList) y.size (zi y.data.toList)=some v):
  ∃c,(binOp op t (.string x) (.string y)).run P w= .ok c w∧KR G v c:=by
 have j:WM x.size (zi x.data.toList) y.size (zi y.data.toList) (min x.size y.size) 0=Op.bytesLess x.data.toList y.data.toList:=by
  have:=Gd x.data.toList y.data.toList (min x.size y.size) 0 (by omega) (by omega) (by rw [kx,kx]; omega);rw [kx,kx]at this;exact this
 have key:∀u,fq op x.data.toList y.data.toList=some u->B2 u=some v->∃c,(binOp op t (.string x) (.string y)).run P w= .ok c w∧KR G v c:=fun u b f=>by
  obtain⟨c,g,i,_⟩:=BX (P:=P) (w:=w) (G:=(⟨fun _ _=>none,fun _=>none,fun _ _=>none,fun _=>0⟩:Abs.Gh)) (st:=⟨[],[]⟩) t b;exact⟨c,g,Va i f⟩
 unfold Q1 at e;rw [j,DE]at e;split at e
 ·rw [PA,Bool.cond_decide]at e;split at e
  ·rename_i k;cases e;refine⟨.string (x++y), ?_,KR.cat x y⟩
   have:¬((x.size+y.size:Nat):Int)>IntKind.i64.max:=by
    show ¬((x.size+y.size:Nat):Int)>9223372036854775807;omega
   simp only [binOp,Op.stringOp,iH this]; rfl
  ·cases e
 all_goals first|(cases e; exact key _ rfl rfl)|cases e
def QB {op:BinOp} {t:TypeId} {ox oy:Operand} {x y:Value} (b:∀p q,¬(x= .agg p∧y= .agg q)) (c:¬(x= .nilIface∧y= .nilIface)):(eqGuard op t ox oy x y).run P w= .ok () w:=
 ge ⟨b,c⟩
def Gz {t:TypeId} {d:TypeDesc} (hd:P.underlying t=some d) {x y:KV} {a b:Value} (g:KR G x a) (i:KR G y b) {r:Bool} (e:zcb (tiD P (some d)) x y=some r) (n:Nat):
    (∀ w,(Op.equalIn (n+1) t a b).run P w= .ok r w)∧(∀p q,¬(a= .agg p∧b= .agg q))∧¬(a= .nilIface∧b= .nilIface) ∧
      (binOp .eql t a b)=(do pure (.bool (<-Op.equal t a b)))∧(binOp .neq t a b)=(do pure (.bool (!(<-Op.equal t a b)))):=by
  unfold zcb at e;split at e
  all_goals first|cases e|skip
  all_goals rename_i c
  all_goals cases g
  all_goals cases i
  all_goals refine⟨fun w=> ?_,by simp,by simp,rfl,rfl⟩
  all_goals first
    |(obtain rfl:=Qc c; simp [Op.equalIn,run_underlying hd,iB]; done)
    |(obtain⟨rfl,_⟩:=bg c; simp [Op.equalIn,run_underlying hd,iB]; done)
    |(obtain⟨_,_,_,rfl⟩:=mS c; simp [Op.equalIn,run_underlying hd,iB]; done)
    | (have f:∃k e,d= .map k e:=by
        cases d<;>simp_all [tiD]
        all_goals (split at c<;>cases c)
       obtain⟨_,_,rfl⟩:=f
       simp [Op.equalIn,run_underlying hd,iB]; done)
    | (have f:∃k,d= .interface k:=by
        cases d<;>simp_all [tiD]
        all_goals (split at c<;>cases c)
       obtain⟨_,rfl⟩:=f
       simp [Op.equalIn,run_underlying hd,iB]; done)
def lw (op:BinOp) {t:TypeId} (o:(ti P t).d≠ .other) {x y v:KV} {a b:Value} (l:KR G x a) (m:KR G y b) (e:QW op (ti P t).d x y=some v) (ox oy:Operand):
  ∃c,(do eqGuard op t ox oy a b; binOp op t a b:Sem Value).run P w= .ok c w∧KR G v c:=by
 have lift:∀ {c:Value},(∀p q,¬(a= .agg p∧b= .agg q))->¬(a= .nilIface∧b= .nilIface)->(binOp op t a b).run P w= .ok c w->(do eqGuard op t ox oy a b; binOp op t a b:Sem Value).run P w= .ok c w:=
  fun f g j=>by simp only [iB,QB f g,iA,j]
 obtain⟨d,hd,k⟩:=Kw (P:=P) (t:=t) rfl o;unfold QW at e;split at e
 ·cases l; cases m;split at e
  ·obtain⟨c,f,g⟩:=VX (P:=P) (G:=G) (w:=w) t e;exact⟨c,lift (by simp) (by simp) f,g⟩
  ·obtain⟨c,f,g⟩:=VX (P:=P) (G:=G) (w:=w) t e;exact⟨c,lift (by simp) (by simp) f,g⟩
  ·split at e
   ·rename_i i;subst i;obtain⟨c,f,g⟩:=oo (P:=P) (G:=G) (w:=w) t e;exact⟨c,lift (by simp) (by simp) f,g⟩
   ·cases e
 ·cases l; cases m;obtain⟨c,f,g⟩:=lE (P:=P) (G:=G) (w:=w) t e;exact⟨c,lift (by simp) (by simp) f,g⟩
 ·rename_i p q;cases l; cases m;rw [<-k]at e;split at e
  ·rename_i i;cases e;obtain rfl:=bP i;exact⟨_,lift (by simp) (by simp) (vO (.inl rfl) (fun w=>run_equalIn_bool' w 9999 t p q hd) ⟨rfl,rfl⟩), .bool _⟩
  ·rename_i i;cases e;obtain rfl:=bP i;exact⟨_,lift (by simp) (by simp) (vO (.inr rfl) (fun w=>run_equalIn_bool' w 9999 t p q hd) ⟨rfl,rfl⟩), .bool _⟩
  ·cases e
 ·rw [<-k]at e;split at e
  ·rename_i s i;cases e;obtain⟨f,g,j,n⟩:=Gz (P:=P) hd l m i 9999;exact⟨_,lift g j (vO (.inl rfl) f n), .bool _⟩
  ·rename_i s i;cases e;obtain⟨f,g,j,n⟩:=Gz (P:=P) hd l m i 9999;exact⟨_,lift g j (vO (.inr rfl) f n), .bool _⟩
  ·cases e
end
def KV.isCell:KV->Bool
 | .agg _| .tuple _| .junk=>false
 |_=>true
def KV.isCells (l:List KV):Bool:=l.all KV.isCell
def krd (cells:List KV) (off n:Nat) (agg:Bool):Option KV:=
 if agg then(if((cells.drop off).take n).length=n then some (.agg ((cells.drop off).take n))else none)else cells[off]?
def pE (h:KH) (p:KV) (n:Nat) (agg:Bool):Option KV:=
 match p with
 | .ptr id b=>match h.get id with
  |some (.cells _ c)=>krd c b n agg
  |_=>none
 |_=>none
def Wh (h:KH) (p v:KV) (n:Nat):Option KH:=
 match p with
 | .ptr id b=>match h.get id with
  |some (.cells false c)=>if v.cells.length=n∧b+n<=c.length∧KV.isCells v.cells=true then some (h.set id (some (.cells false (c.take b++v.cells++c.drop (b+n)))))else none
  |_=>none
 |_=>none
def qz (d:TD) (x:KV) (f:Nat):Option KV:=
 match d,x with
 | .struct c, .ptr id b=>match c[f]? with
  |some (o,n)=>if n≠0 then some (.ptr id (b+o))else none
  |none=>none
 |_,_=>none
def qj (d:TD) (x:KV) (i:Int):Option KV:=
 match d,x with
 | .arr n c, .ptr id b=>if 0<=i∧i<n then some (.ptr id (b+i.toNat*c))else none
 | .slice _ c _, .sl id b len _ e=>if c=e∧0<=i∧i<len then some (.ptr id (b+i.toNat*c))else none
 |_,_=>none
section
variable {P:Program} {B:xi} {G:Gh} {h:KH} {w:World} {fr:KFr} {a:Act}
def KRel.cells (r:KRel B G h w) {id b o:Nat} {ro:Bool} {cs:List KV} (q:h.get id=some (.cells ro cs)) (p:G.at_ id=some (b,o)):
  ∃C el fz,w.heap[b]? =some (.cells C el fz)∧o+cs.length<=C.size∧(cs.length<=G.room id∧o+G.room id<=C.size)∧(ro=false->GZ fz C.size)∧∀(i:Nat) (v:KV) (c:Value),cs[i]? =some v->C[o+i]? =some c->KR G v c:=by
 obtain⟨s,k,ob,e,_,f,g⟩:=r.blk id _ q;rw [p]at e; cases e
 cases g with
 |cells j l m n=>exact⟨_,_,_,f,by omega,⟨j,l⟩,m,n⟩
def PX (w:World) (b o:Nat) (t:TypeId) (cells:List KV) (off n:Nat) (v:KV) (i:TypeInfo) (d:TypeDesc) (hi:P.info? t=some i) (hd:P.underlying t=some d) (I:n=i.size)
  (m:(ti P t).d≠ .other)
  (E:∀(j:Nat) (u:KV),cells[j]? =some u->∃c,w.cell? ⟨b,o+j,none⟩=some c∧KR G u c)
  (h:krd cells off n (ti P t).d.agg=some v):∃c,(loadVar t ⟨b,o+off,none⟩).run P w= .ok c w∧KR G v c:=by
 have y:(ti P t).d.agg=gN d:=by
  have:(ti P t).d=tiD P (some d):=by simp [ti,hd]
  rw [this]at m ⊢;exact gX m
 simp only [krd]at h;simp only [loadVar,iB,uq hd,iA];rw [<-y]
 by_cases C:(ti P t).d.agg=true
 ·simp only [C,if_true]at h ⊢;split at h
  ·rename_i F;cases h
   have p:∀j,j<n->∃c u,w.cell? ⟨b,o+(off+j),none⟩=some c∧cells[off+j]? =some u∧KR G u c:=by
    intro j g
    have q:off+j<cells.length:=by
     simp only [List.length_take,List.length_drop]at F; omega
    obtain⟨c,e,l⟩:=E (off+j) _ (iK q);exact⟨c,_,e,iK q,l⟩
   have f:∀j,j<n->w.cell? ((⟨b,o+off,none⟩:Addr).add j)=some ((w.cell? ⟨b,o+(off+j),none⟩).getD undef):=by
    intro j g;obtain⟨c,u,e,_⟩:=p j g;rw [wn,Nat.add_assoc,e]; rfl
   have z:=run_loadCells (P:=P) w ⟨b,o+off,none⟩ n (fun j=>(w.cell? ⟨b,o+(off+j),none⟩).getD undef) f;refine⟨.agg ((List.range n).map fun j=>(w.cell? ⟨b,o+(off+j),none⟩).getD undef).toArray, ?_, ?_⟩
   ·simp only [iB,zF hi,iA,<-I,z,iC]
   ·refine .agg (by simpa using F) ?_;intro j u x k r
    have g:j<n:=by
     rcases iS j n with A|A
     ·exact A
     ·rw [iN (by omega)]at k; cases k
    obtain⟨c,K,e,l,H⟩:=p j g;simp only [List.getElem?_toArray,iV,List.getElem?_range g,Option.map_some,e,Option.getD_some]at r;cases r;rw [List.getElem?_take,iI g,List.getElem?_drop,l]at k;cases k;exact H
  ·cases h
 ·have s:(ti P t).d.agg=false:=by simpa using C
  simp only [s,if_false,iT]at h ⊢;obtain⟨c,e,l⟩:=E off v h;exact⟨c,by rw [run_load,e],l⟩
def KRel.cell (r:KRel B G h w) {id b o:Nat} {ro:Bool} {cs:List KV} (k:h.get id=some (.cells ro cs)) (i:G.at_ id=some (b,o)):
  ∀(j:Nat) (u:KV),cs[j]? =some u->∃c,w.cell? ⟨b,o+j,none⟩=some c∧KR G u c:=by
 obtain⟨C,l,fz,f,m,_,_,g⟩:=r.cells k i;intro j u e;have n:j<cs.length:=wF e;refine⟨C[o+j]'(by omega), ?_,g j u _ e (Array.getElem?_eq_getElem (by omega))⟩;rw [xR f]; exact Array.getElem?_eq_getElem (by omega)
def fA (r:KRel B G h w) {t:TypeId} (g:(ti P t).ok=true) (hd:(ti P t).d≠ .other) {p v:KV} {c:Value} (z:KR G p c) (e:pE h p (ti P t).sz (ti P t).d.agg=some v):
  KS P B G w (Instr.loadAt t c) v h:=by
 obtain⟨i,d,y,f,j,_⟩:=pB g;unfold pE at e;split at e
 ·rename_i id k;split at e
  ·rename_i ro l s
   cases z with
   | ptr q=>
    rename_i b o;obtain⟨x,m,n⟩:=PX (P:=P) w b o t l k _ v i d y f j hd (r.cell s q) e;exact .same r (by simp only [Instr.loadAt,Instr.sureAddr,iB,iC,iA,m]) n
  ·cases e
 ·cases e
def Zd {v:KV} {c:Value} (h:KR G v c) (b:v.isCell=true):c.oneCell'=true:=by
 cases h<;>simp_all [KV.isCell,Value.oneCell']
def ZC {v:KV} {c:Value} (h:KR G v c) (e:KV.isCells v.cells=true):KRs G v.cells c.cells∧∀x∈c.cells.toList,x.oneCell'=true:=by
 have one:v.isCell=true->v.cells= [v]->c.cells= #[c]->KRs G v.cells c.cells∧∀x∈c.cells.toList,x.oneCell'=true:=by
  intro o p q;rw [p,q];refine⟨⟨rfl, ?_⟩, ?_⟩
  ·intro i u x k g
   cases i with
   |zero=>simp at k g; subst k g; exact h
   |succ i=>simp at k
  ·simp; exact Zd h o
 cases h with
 | agg l m=>
  rename_i n c;refine⟨⟨l,m⟩, ?_⟩;intro x g;obtain⟨i,f⟩:=List.getElem?_of_mem g;simp only [Value.cells,Array.getElem?_toList]at f
  have b:i<n.length:=by
   rw [l];rcases iS i c.size with j|j
   ·exact j
   ·rw [Array.getElem?_eq_none j]at f; cases f
  have:=m i _ x (iK b) f;refine Zd this ?_;simp only [KV.isCells,KV.cells,List.all_eq_true]at e;exact e _ (List.getElem_mem b)
 |junk=>simp [KV.isCells,KV.cells,KV.isCell]at e
 |tuple=>simp [KV.isCells,KV.cells,KV.isCell]at e
 |_=>exact one rfl rfl rfl
def qH (g o:Nat) (t:TypeId) (fz:Nat×Nat):∀(m:List Value) (i:Nat) (cur:Array Value) (w:World),w.heap[g]? =some (.cells cur t fz)->GZ fz cur.size->o+i+m.length<=cur.size->(∀v∈m,v.oneCell'=true) ->
  (storeCells ⟨g,o,none⟩ m i).run P w= .ok () (w.setRow g (cur.toList.take (o+i)++m++cur.toList.drop (o+i+m.length)).toArray)
 | [],i,cur,w,f,_,_,_=>by
  simp only [storeCells,List.append_nil,List.length_nil,Nat.add_zero,List.take_append_drop,Array.toArray_toList];rw [setRow_self w g cur t fz f];rfl
 | v::b,i,cur,w,f,l,n,q=>by
  have r:o+i<cur.size:=by simp at n; omega
  have j:(⟨g,o,none⟩:Addr).add i=⟨g,o+i,none⟩:=by unfold Addr.add; split<;>simp_all
  have c:w.cell? ⟨g,o+i,none⟩=some cur[o+i]:=by simp [World.cell?,f,r]
  have k:w.frozen? ⟨g,o+i,none⟩=false:=by
   have:=l (o+i) r;obtain⟨lo,s⟩:=fz;simp only [World.frozen?,f,Bool.and_eq_false_iff,decide_eq_false_iff_not];simp only at this;omega
  have p:(store ((⟨g,o,none⟩:Addr).add i) v).run P w= .ok () (w.setRow g (cur.setIfInBounds (o+i) v)):=by
   rw [j,run_store P w _ v _ (q v (by simp)),c];simp [k,setCell_eq_setRow w g (o+i) cur t fz v f]
  have z:=qH g o t fz b (i+1) (cur.setIfInBounds (o+i) v) (w.setRow g (cur.setIfInBounds (o+i) v)) (setRow_heap w g cur _ t _ f) (by rw [Array.size_setIfInBounds]; exact l) (by simp at n ⊢; omega) (fun x y=>q x (by simp [y]));simp only [storeCells,iB,p,iA,z,setRow_setRow]
  congr 3
  have e:=list_seg_step cur.toList (o+i) v b (by simp at n ⊢; omega);simpa [Array.toList_setIfInBounds,Nat.add_assoc] using e
def KRel.splice (r:KRel B G h w) {id b o:Nat} {cs new:List KV} {xs:Array Value} {C:Array Value} {el:TypeId} {k:Nat×Nat} (z:h.get id=some (.cells false cs)) (x:G.at_ id=some (b,o))
  (v:w.heap[b]? =some (.cells C el k)) (p:GZ k C.size) (A:KRs G new xs) (off:Nat) (L:off+new.length<=cs.length):
  KRel B G (h.set id (some (.cells false (cs.take off++new++cs.drop (off+new.length))))) (w.setRow b (C.toList.take (o+off)++xs.toList++C.toList.drop (o+off+xs.toList.length)).toArray):=by
 obtain⟨C',el',fz,s,H,I,K,t⟩:=r.cells z x;rw [v]at s; cases s;have q:=A.1;refine r.chg z rfl rfl x (qA w v) (.cells ?_ ?_ (fun _=> ?_) ?_)
 ·simp only [iO,List.length_take,List.length_drop]; omega
 ·simp only [iO,List.length_take,List.length_drop,List.size_toArray,Array.length_toList]; omega
 ·intro i E;refine p i ?_;simp only [iO,List.length_take,List.length_drop,List.size_toArray,Array.length_toList]at E; omega
 ·intro j u y e c
  have F:j<cs.length:=by
   have:=wF e;simp only [iO,List.length_take,List.length_drop]at this; omega
  simp only [List.getElem?_toArray,List.getElem?_append,iO,List.length_take,Array.length_toList,<-q,List.getElem?_take,List.getElem?_drop]at e c;have l:min off cs.length=off:=by omega
  have hmin2:min (o+off) C.size=o+off:=by omega
  rw [l]at e;rw [hmin2]at c
  by_cases n:j<off
  ·have m:j<off+new.length:=by omega
   have f:o+j<o+off:=by omega
   have g:o+j<o+off+new.length:=by omega
   simp only [n,m,f,g,if_true]at e c;exact t j u y e (by simpa using c)
  ·by_cases m:j<off+new.length
   ·have f:¬o+j<o+off:=by omega
    have g:o+j<o+off+new.length:=by omega
    simp only [n,m,f,g,if_true,if_false]at e c;exact A.2 _ u y e (by rw [show o+j-(o+off)=j-off by omega]at c; simpa using c)
   ·have f:¬o+j<o+off:=by omega
    have g:¬o+j<o+off+new.length:=by omega
    simp only [n,m,f,g,if_false]at e c;refine t _ u y e ?_;rw [show o+j-(o+off+new.length)=j-(off+new.length)by omega,show o+off+new.length+(j-(off+new.length))=o+(off+new.length+(j-(off+new.length)))by omega]at c;simpa using c
def Pj (r:KRel B G h w) {t:TypeId} (y:(ti P t).ok=true) {p v:KV} {c x:Value} (M:KR G p c) (N:KR G v x) {h':KH} (e:Wh h p v (ti P t).sz=some h'):
  ∃w',(Instr.storeAt t c x).run P w= .ok () w'∧KRel B G h' w':=by
 obtain⟨i,d,L,K,z,_⟩:=pB y;unfold Wh at e;split at e
 ·rename_i id n;split at e
  ·rename_i O F;split at e
   ·rename_i hcond;obtain⟨s,H,g⟩:=hcond;cases e
    cases M with
    | ptr E=>
     rename_i b o;obtain⟨C,I,fz,A,Q,S,q,T⟩:=r.cells F E;have q:=q rfl;obtain⟨k,j⟩:=ZC N g;have m:=k.1;have f:=qH (P:=P) b (o+n) I fz x.cells.toList 0 C w A q (by simp [<-m,s]; omega) j;have l:=r.splice F E A q k n (by omega);rw [s]at l;refine⟨_, ?_,l⟩;simp only [Instr.storeAt,Instr.sureAddr,storeVar,iB,iC,iA,zF L];rw [<-m,s,z];simp only [Nat.add_zero]at f;simp only [ne_eq,not_true,if_false,iC,iA,f]
   ·cases e
  ·cases e
 ·cases e
def Bg (r:KRel B G h w) (k:h.next+1<65000) {t:TypeId} {v:KV} {x:Value} (m:KR G v x) (j:KV.isCells v.cells=true):
  KS P B G w (do pure (.pointer (some (<-newVar t x)))) (.ptr h.next 0) (h.push (.cells false v.cells)):=by
 obtain⟨e,_⟩:=ZC m j;have b:=Gh.new_le G r.fresh (w.heap.size,0) v.cells.length
 have l:=r.alloc k (o:= .cells false v.cells) (ob:= .cells x.cells t) (room:=v.cells.length) (.cells (iP _) (by have:=e.1; omega) (fun _=> .zero _)
  (fun i u c f g=>(e.2 i u c f (by simpa using g)).le b))
 exact⟨.pointer (some ⟨w.heap.size,0,none⟩),w.alloc (.cells x.cells t),_,rfl,b, .ptr (off:=0) (Gh.new_at _ _ _ _),l⟩
def Uk (r:KRel B G h w) {s:TypeId} {x v:KV} {c:Value} (H:KR G x c) {f:Nat} (e:qz (ti P s).d x f=some v):KS P B G w (Instr.fieldAt s c f) v h:=by
 unfold qz at e;split at e
 ·rename_i I id p hd;split at e
  ·rename_i o n q;split at e
   ·rename_i C;cases e
    cases H with
    | ptr y=>
     rename_i b k;obtain⟨fields,F,rfl,hinfo⟩:=bh hd;rw [iV,Array.getElem?_toList]at q;obtain⟨fd,g,A⟩:=iR.1 q;injection A with j l;refine .same r (c:= .pointer (some ⟨b,k+(p+o),none⟩)) ?_ (.ptr y)
     have E:(P.info? fd.type).isSome=true:=hinfo fd (by
      have:=Array.mem_of_getElem? g
      simpa using this)
     obtain⟨i,t⟩:=Option.isSome_iff_exists.1 E;have z:P.cellsOf fd.type=i.size:=by simp [Program.cellsOf,t]
     have m:i.size≠0:=by rw [<-z,l]; exact C
     simp only [Instr.fieldAt,iB,run_underlying F,iA,g,Instr.sureAddr,iC,fieldPlace,zF t,m,if_false,wn,j];rw [Nat.add_assoc]
   ·cases e
  ·cases e
 ·cases e
end
def Yj (d:TD) (x:KV) (i:Int):Option KV:=
 match d,x with
 | .str, .str n s=>if 0<=i∧i.toNat<n then some (.int .u8 (de s i.toNat))else none
 |_,_=>none
def Dd (d:TD) (x:KV):Option KV:=
 match d,x with
 | .str, .str n _=>some (.int .i64 n)
 | .slice .., .sl _ _ len _ _=>some (.int .i64 len)
 | .slice .., .slz=>some (.int .i64 0)
 | .slice .., .nilsl=>some (.int .i64 0)
 |_,_=>none
def qx (x:Option KV) (d y:Nat):Option Nat:=
 match x with
 |none=>some d
 |some (.int _ i)=>if 0<=i∧i<=y then some i.toNat else none
 |_=>none
def gc (len c:Nat) (lo hi mx:Option KV):Option (Nat×Nat×Option Nat):=
 match mx with
 | none=>match qx hi len c with
  |some h=>match qx lo 0 h with|some l=>some (l,h,none)|none=>none
  |none=>none
 | some m=>match qx (some m) 0 c with
  | some m=>match hi with
   | some hi=>match qx (some hi) 0 m with
    |some h=>match qx lo 0 h with|some l=>some (l,h,some m)|none=>none
    |none=>none
   |none=>none
  |none=>none
def cA (id off len:Nat) (c:Option Nat) (sz:Nat) (lo hi mx:Option KV):Option KV:=
 match gc len (c.getD len) lo hi mx with
 |some (l,h,some m)=>some (.sl id (if m=l then off else off+l*sz) (h-l) (some (m-l)) sz)
 | some (l,h,none)=>match c with
  |some c=>some (.sl id (if c=l then off else off+l*sz) (h-l) (some (c-l)) sz)
  |none=>if l=0 then some (.sl id off h none sz)else if l<len then some (.sl id (off+l*sz) (h-l) none sz)else if h=l then some .slz else none
 |none=>none
def Dh (cellsAt:Nat->Option Nat) (d:TD) (x:KV) (lo hi mx:Option KV):Option KV:=
 match d,x with
 | .str, .str n s=>match mx with
  | none=>match gc n n lo hi none with
   |some (l,h,_)=>some (tq s l h)
   |none=>none
  |some _=>none
 | .slice _ e _, .sl id b len c f=>if e=f then cA id b len c e lo hi mx else none
 | .slice .., .slz=>match mx with
  | none=>match gc 0 0 lo hi none with
   |some _=>some .slz
   |none=>none
  |some _=>none
 | .slice .., .nilsl=>match gc 0 0 lo hi mx with
  |some _=>some .nilsl
  |none=>none
 | .arr n e, .ptr id b=>match cellsAt id with
  |some k=>if b+n*e<=k then cA id b n (some n) e lo hi mx else none
  |none=>none
 |_,_=>none
section
variable {P:Program} {B:xi} {G:Gh} {h:KH} {w:World} {fr:KFr} {a:Act}
def Uy (r:KRel B G h w) {t:TypeId} {x v:KV} {c:Value} {k:IntKind} {i:Int} (s:KR G x c) (e:qj (ti P t).d x i=some v):KS P B G w (Instr.indexAt t c (.int k i)) v h:=by
 unfold qj at e;split at e
 ·rename_i n q id g hd;split at e
  ·rename_i l;cases e;obtain⟨y,ie,p,m,f⟩:=pN hd
   cases s with
   | ptr j=>
    rename_i b o;refine .same r (c:= .pointer (some ⟨b,o+(g+i.toNat*q),none⟩)) ?_ (.ptr j);simp only [Instr.indexAt,asIntOf,iB,iC,iA,run_underlying p,Instr.sureAddr];simp only [l,and_self,if_true,iB,zF m,iA,iC,wn,f,Nat.add_assoc]
  ·cases e
 ·rename_i y q by_ id g len cap C hd;split at e
  ·rename_i l;obtain⟨rfl,z,A⟩:=l;cases e;obtain⟨p,ie,m,f,_⟩:=zM hd
   cases s with
   | sl j E F H=>
    rename_i cap b o;refine .same r (c:= .pointer (some ⟨b,o+(g+i.toNat*q),none⟩)) ?_ (.ptr j);simp only [Instr.indexAt,asIntOf,iB,iC,iA,run_underlying p];simp only [z,A,and_self,if_true,iB,zF m,iA,iC,wn,f,Nat.add_assoc]
  ·cases e
 ·cases e
def G8 (r:KRel B G h w) {t:TypeId} {x v:KV} {c:Value} {k:IntKind} {i:Int} (j:KR G x c) (e:Yj (ti P t).d x i=some v):KS P B G w (Instr.index t c (.int k i)) v h:=by
 unfold Yj at e;split at e
 ·rename_i n s hd;split at e
  ·rename_i f;obtain⟨g,b⟩:=f;cases e
   cases j with
   | str s=>
    have l:i.toNat<s.data.toList.length:=by rw [kx]; exact b
    have f:s[i.toNat]? =some s.data.toList[i.toNat]:=by
     rw [ByteArray.getElem?_lt' s i.toNat b]; rfl
    refine .same r (c:= .int .u8 s.data.toList[i.toNat].toNat) ?_ ?_
    ·simp only [Instr.index,asIntOf,iB,iC,iA,run_underlying (vf hd),g,if_true,f]
    ·rw [KR.idx s b]; exact .int _ _
  ·cases e
 ·cases e
def mr (r:KRel B G h w) {t ty:TypeId} {x v:KV} {c:Value} (b:KR G x c) (e:Dd (ti P t).d x=some v):KS P B G w (Builtin.len_ #[t] ty #[c]) v h:=by
 unfold Dd at e;split at e
 ·rename_i n s hd;cases e
  cases b with
  |str s=>exact .same r (c:=goInt s.size) (by simp [Builtin.len_,run_underlying (vf hd)]) (.int _ _)
 ·rename_i hd;cases e
  cases b with
  | sl j f g i=>
   rename_i len _ _ cap _ _;exact .same r (c:=goInt len) (by simp [Builtin.len_,run_underlying (zM hd).1]) (.int _ _)
 ·rename_i hd;cases e
  cases b with
  |slz=>exact .same r (c:=goInt 0) (by simp [Builtin.len_,run_underlying (zM hd).1]) (.int _ _)
 ·rename_i hd;cases e
  cases b with
  |nilsl=>exact .same r (c:=goInt 0) (by simp [Builtin.len_,run_underlying (zM hd).1]) (.int _ _)
 ·cases e
def bK {x:KV} {c:Value} (j:KR G x c) {d y f l:Nat} (m:y<=f) (code:BoundsCode) (e:qx (some x) d y=some l):(Instr.sliceBound c f code).run P w= .ok l w∧l<=y:=by
 unfold qx at e;split at e
 ·rename_i h; cases h
 ·rename_i k i h;cases h;cases j;split at e
  ·rename_i g;cases e;have b:0<=i∧i<=(f:Int):=⟨g.1,by omega⟩
   exact⟨by simp only [Instr.sliceBound,asIntOf,iB,iC,iA,b,and_self,if_true],by omega⟩
  ·cases e
 ·cases e
inductive KO' (G:Gh):Option KV->Option Value->Prop
 |none:KO' G none none
 |some {v:KV} {c:Value}:KR G v c->KO' G (some v) (some c)
def qX {len g cap:Nat} {lo hi mx:Option KV} {clo chi cmx:Option Value} (c:KO' G lo clo) (i:KO' G hi chi) (p:KO' G mx cmx) (F:len<=g) (y:g<=cap) (isS:Bool) {l h:Nat} {m:Option Nat}
  (e:gc len g lo hi mx=some (l,h,m)):(Instr.sliceBounds isS len cap clo chi cmx).run P w= .ok (l,h,m.getD cap) w∧l<=h∧h<=m.getD g∧m.getD g<=g∧(mx=none->m=none):=by
 unfold gc at e
 cases p with
 | none=>
  simp only at e;split at e
  ·rename_i j eh;split at e
   ·rename_i q b;simp only [iL,iW]at e;obtain⟨rfl,rfl,rfl⟩:=e
    have z:(match chi with|some v=>Instr.sliceBound v cap (if isS then .sliceAcap else .sliceAlen)|none=>pure len:Sem Nat).run P w= .ok j w∧j<=g:=by
     cases i with
     |none=>simp only [qx,iL]at eh; subst eh; exact⟨rfl,F⟩
     |some f=>exact bK f y _ eh
    have k:∀code,(match clo with|some v=>Instr.sliceBound v j code|none=>pure 0:Sem Nat).run P w= .ok q w∧q<=j:=by
     intro code
     cases c with
     |none=>simp only [qx,iL]at b; subst b; exact⟨rfl,Nat.zero_le _⟩
     |some f=>exact bK f (iP _) _ b
    refine⟨?_,(k .index).2,z.2,iP _,fun _=>rfl⟩;have o:=z.1;have n:=(k (if(none:Option Value).isSome=true then .slice3C else .sliceB)).1
    cases i with
    | none=>
     simp only [qx,iL]at eh; subst eh
     cases c with
     |none=>simp only [qx,iL]at b; subst b; rfl
     |some f=>simp only [Instr.sliceBounds,iB,iC,iA]; simp only at n; rw [n]; rfl
    | some A=>
     simp only at o
     cases c with
     | none=>
      simp only [qx,iL]at b; subst b;simp only [Instr.sliceBounds,iB,iC,iA,o]; rfl
     |some f=>simp only [Instr.sliceBounds,iB,iC,iA,o]; simp only at n; rw [n]; rfl
   ·cases e
  ·cases e
 | some H=>
  simp only at e;split at e
  ·rename_i I em;split at e
   ·rename_i f;split at e
    ·rename_i j eh;split at e
     ·rename_i q b;simp only [iL,iW]at e;obtain⟨rfl,rfl,rfl⟩:=e
      cases i with
      | some A=>
       obtain⟨r,s⟩:=bK (P:=P) (w:=w) H y (if isS then .slice3Acap else .slice3Alen) em;obtain⟨t,x⟩:=bK (P:=P) (w:=w) A (iP I) .slice3B eh
       cases c with
       | none=>
        simp only [qx,iL]at b; subst b;exact⟨by simp only [Instr.sliceBounds,iB,iC,iA,r,t]; rfl,Nat.zero_le _,x,s,by simp⟩
       | some f=>
        obtain⟨C,E⟩:=bK (P:=P) (w:=w) f (iP j) .slice3C b;exact⟨by simp only [Instr.sliceBounds,iB,iC,iA,r,t,Option.isSome_some,if_true,C]; rfl,E,x,s,by simp⟩
     ·cases e
    ·cases e
   ·cases e
  ·cases e
end
def KH.size (h:KH) (id:Nat):Option Nat:=match h.get id with|some (.cells _ b)=>some b.length|_=>none
section
variable {P:Program} {B:xi} {G:Gh} {h:KH} {w:World} {fr:KFr} {a:Act}
def BN {id off len cap sz b o l h':Nat} {c:Option Nat} {lo hi mx:Option KV} {v:KV} {clo chi cmx:Option Value} (p:KO' G lo clo) (n:KO' G hi chi) (q:KO' G mx cmx) (j:G.at_ id=some (b,o))
  (C:len<=cap) (F:off+cap*sz<=G.room id) (E:∀x,c=some x->x=cap) (isS:Bool) (e:cA id off len c sz lo hi mx=some v):
  ∃l h' m,(Instr.sliceBounds isS len cap clo chi cmx).run P w= .ok (l,h',m) w∧KR G v (.slice (some (if m=l then⟨b,o+off,none⟩else⟨b,o+off+l*sz,none⟩)) (h'-l) (m-l)):=by
 have g:len<=c.getD len∧c.getD len<=cap:=by
  cases c with
  |none=>exact⟨iP _,C⟩
  |some x=>rw [E x rfl]; exact⟨C,iP _⟩
 have fits:∀ {l m:Nat},l<=m->m<=cap->off+l*sz+(m-l)*sz<=G.room id:=fun {l m} k z=>by
  have:l*sz+(m-l)*sz=m*sz:=by rw [<-Nat.add_mul]; congr 1; omega
  have:m*sz<=cap*sz:=Nat.mul_le_mul_right _ z;omega
 unfold cA at e;split at e
 ·rename_i l h' m t;cases e;obtain⟨k,z,r,A,_⟩:=qX (P:=P) (w:=w) p n q g.1 g.2 isS t;simp only [Option.getD_some]at k r A;refine⟨l,h',m,k, ?_⟩
  by_cases f:m=l
  ·rw [iI f,iI f];refine .sl j (by omega) ?_ (fun x i=>by cases i; rfl);have:(m-l)*sz=0:=by rw [f]; simp
   omega
  ·rw [iH f,iH f,Nat.add_assoc];exact .sl j (by omega) (fits (by omega) (by omega)) (fun x i=>by cases i; rfl)
 ·rename_i l h' t;obtain⟨k,z,r,A,_⟩:=qX (P:=P) (w:=w) p n q g.1 g.2 isS t;simp only [Option.getD_none]at k r A;refine⟨l,h',cap,k, ?_⟩;split at e
  ·rename_i s;obtain rfl:=E s rfl;simp only [Option.getD_some]at r;cases e
   by_cases f:s=l
   ·rw [iI f,iI f];refine .sl j (by omega) ?_ (fun x i=>by cases i; rfl);have:(s-l)*sz=0:=by rw [f]; simp
    omega
   ·rw [iH f,iH f,Nat.add_assoc];exact .sl j (by omega) (fits (by omega) (iP _)) (fun x i=>by cases i; rfl)
  ·simp only [Option.getD_none]at r;split at e
   ·rename_i y;subst y;cases e;have:(if cap=0 then(⟨b,o+off,none⟩:Addr)else⟨b,o+off+0*sz,none⟩)=⟨b,o+off,none⟩:=by split<;>simp
    rw [this];exact .sl j (by omega) (by simpa using F) (by simp)
   ·split at e
    ·rename_i I;cases e;rw [iH (by omega),Nat.add_assoc];exact .sl j (by omega) (fits (by omega) (iP _)) (by simp)
    ·split at e
     ·rename_i H;cases e;rw [H,Nat.sub_self];exact .slz _ _
     ·cases e
 ·cases e
def GS (r:KRel B G h w) {t:TypeId} {x v:KV} {c:Value} {lo hi mx:Option KV} {clo chi cmx:Option Value} (I:KR G x c) (y:KO' G lo clo) (p:KO' G hi chi) (z:KO' G mx cmx)
  (e:Dh h.size (ti P t).d x lo hi mx=some v):KS P B G w (Instr.sliceAt t c clo chi cmx) v h:=by
 unfold Dh at e;split at e
 ·rename_i n s hd;have E:=vf hd;split at e
  ·split at e
   ·rename_i l h' m f;cases e;cases z
    cases I with
    | str s=>
     obtain⟨j,K,M,_,_⟩:=qX (P:=P) (w:=w) y p .none (iP _) (iP _) false f
     have C:m=none:=by
      unfold gc at f;simp only at f;split at f
      ·split at f
       ·simp only [iL,iW]at f; exact f.2.2.symm
       ·cases f
      ·cases f
     subst C;simp only [Option.getD_none]at j M;refine .same r (c:= .string (s.extract l h')) ?_ (KR.sub s K M);simp only [Instr.sliceAt,iB,run_underlying E,iA,Instr.slice];simp [j]
   ·cases e
  ·cases e
 ·rename_i S Q by_ id N len c' sz' hd;split at e
  ·rename_i hs;subst hs;obtain⟨E,i,g,A,_⟩:=zM hd
   cases I with
   | sl O X Y Z=>
    rename_i cap b o;obtain⟨l,h',m,j,K⟩:=BN (P:=P) (w:=w) (l:=0) (h':=0) y p z O X Y Z true e;refine .same r ?_ K;simp only [Instr.sliceAt,iB,run_underlying E,iA,Instr.slice,j,zF g,iC,<-A]
    by_cases C:m=l
    ·simp [C]
    ·simp [C,wn]
  ·cases e
 ·rename_i S Q by_ hd;obtain⟨E,i,g,A,_⟩:=zM hd;split at e
  ·split at e
   ·rename_i f;cases e;cases z
    cases I with
    | slz ad cap=>
     rename_i q;obtain⟨l,h',m⟩:=q;obtain⟨j,K,M,_,_⟩:=qX (P:=P) (w:=w) (cap:=cap) y p .none (iP _) (Nat.zero_le _) true f
     have C:m=none:=by
      unfold gc at f;simp only at f;split at f
      ·split at f
       ·simp only [iL,iW]at f; exact f.2.2.symm
       ·cases f
      ·cases f
     subst C;simp only [Option.getD_none]at j M;have H:l=0:=by omega
     have F:h'=0:=by omega
     subst H F;refine .same r (c:= .slice (some ad) 0 cap) ?_ (.slz _ _);simp only [Instr.sliceAt,iB,run_underlying E,iA,Instr.slice,j,zF g,iC]
     by_cases U:cap=0
     ·simp [U]
     ·simp [U,Addr.add]
   ·cases e
  ·cases e
 ·rename_i S Q by_ hd;obtain⟨E,i,g,A,_⟩:=zM hd;split at e
  ·rename_i q f;obtain⟨l,h',m⟩:=q;cases e
   cases I with
   | nilsl=>
    obtain⟨j,K,M,k4,_⟩:=qX (P:=P) (w:=w) y p z (iP 0) (iP 0) true f;have H:l=0:=by omega
    have F:h'=0:=by omega
    have T:m.getD 0=0:=by omega
    subst H F;rw [T]at j;refine .same r (c:= .slice none 0 0) ?_ .nilsl;simp only [Instr.sliceAt,iB,run_underlying E,iA,Instr.slice,j,zF g,iC];simp
  ·cases e
 ·rename_i n Q id N hd;split at e
  ·rename_i k L;split at e
   ·rename_i W;obtain⟨S,ie,E,g,A⟩:=pN hd
    cases I with
    | ptr O=>
     rename_i b o
     have hroom:N+n*Q<=G.room id:=by
      unfold KH.size at L;split at L
      ·rename_i ro cs hg;injection L with L;obtain⟨_,_,_,_,_,⟨h4,_⟩,_⟩:=r.cells hg O;omega
      ·cases L
     obtain⟨l,h',m,j,K⟩:=BN (P:=P) (w:=w) (l:=0) (h':=0) y p z O (iP n) hroom (fun x I=>by cases I; rfl) false e;refine .same r ?_ K;simp only [Instr.sliceAt,iB,run_underlying E,iA,Instr.sureAddr,iC,j,zF g,<-A]
     by_cases C:m=l
     ·simp [C]
     ·simp [C,wn]
   ·cases e
  ·cases e
 ·cases e
end
def kz (P:Program) (t:TypeId):KV:=match P.info? t with
 |some i=>(match i.zero with|some z=>KV.of z|none=> .junk)
 |none=> .junk
def dv (place:Nat->Option (Nat×Nat)) (cells:List KV):List (Nat×KV)->Option (List KV)
 | []=>some cells
 | (i,v)::c=>
  match place i with
  |none=>none
  | some (b,size)=>
   if v.cells.length=size∧b+v.cells.length<=cells.length∧KV.isCells v.cells=true then dv place (cells.take b++v.cells++cells.drop (b+size)) c else none
def VV (t:TI) (z:KV) (b:List (Nat×KV)):Option KV:=
 if t.zok=true then
 match t.d with
 | .struct e=>match dv (fun i=>e[i]?) z.cells b with|some cells=>some (.agg cells)|none=>none
 | .arr _ c=>match dv (fun i=>some (i*c,c)) z.cells b with|some cells=>some (.agg cells)|none=>none
 |_=>none
 else none
def jh (n:Nat) (z:List KV):List KV:=(List.replicate n z).flatten
def wY (h:KH):Bool:=Nat.blt (h.next+1) 65000
def kf (h:KH) (T:TypeId->TI) (Z:TypeId->KV) (d:TD) (len:Nat) (b:List (Nat×KV)):Option (KV×KH):=
 match d with
 | .slice e c _=>
  if len*c<=16777216∧(T e).zok=true∧(Z e).cells.length=c∧wY h=true then
   match dv (fun i=>some (i*c,c)) (jh len (Z e).cells) b with
   |some cells=>some (.sl h.next 0 len (some len) c,h.push (.cells false cells))
   |none=>none
  else none
 |_=>none
def pq (s:TI) (T:TypeId->TI) (x:KV) (f:Nat):Option KV:=
 match s.d,x with
 | .struct e, .agg c=>match e[f]?,s.fts[f]? with
  |some (b,_),some ft=>if(T ft).ok=true∧(T ft).d≠ .other then krd c b (T ft).sz (T ft).d.agg else none
  |_,_=>none
 |_,_=>none
def Ur (h:KH) (T:TypeId->TI) (Z:TypeId->KV) (d:TD) (l c:KV):Option (KV×KH):=
 match d,l,c with
 | .slice e b bytes, .int _ l, .int _ c=>
  if 0<=l∧l<=c∧bytes*c<=140737488355328∧c<=140737488355328∧(T e).zok=true∧(Z e).cells.length=b∧wY h=true then
   some (.sl h.next 0 l.toNat (some c.toNat) b,h.push (.cells false (jh c.toNat (Z e).cells)))
  else none
 |_,_,_=>none
section
variable {P:Program} {B:xi} {G:Gh} {h:KH} {w:World} {fr:KFr} {a:Act}
def Zf {t:TypeId} (e:(ti P t).zok=true):∃i z,P.info? t=some i∧i.zero=some z∧kz P t=KV.of z:=by
 obtain⟨i,z,b,c,_⟩:=jZ e;exact⟨i,z,b,c,by simp only [kz,b,c]⟩
def KRs.of_zero {z:Value}:KRs G (KV.of z).cells z.cells:=by
 have one:KV.of z=KV.ofCell z->z.cells= #[z]->(KV.ofCell z).cells= [KV.ofCell z]->KRs G (KV.of z).cells z.cells:=by
  intro g j k;rw [g,j,k];refine⟨rfl, ?_⟩;intro i v c b e
  cases i with
  |zero=>simp at b e; subst b e; exact KR.ofCell z
  |succ i=>simp at b
 cases z with
 |agg f=>exact KRs.ofCells f
 | tuple f=>
  refine⟨rfl, ?_⟩;intro i v c b e
  cases i with
  |zero=>simp [KV.of,KV.cells,Value.cells]at b e; subst b e; exact KR.of (.tuple f)
  |succ i=>simp [KV.of,KV.cells]at b
 |slice a l c=>exact one rfl rfl (by unfold KV.ofCell; split<;>rfl)
 |pointer a=>exact one rfl rfl (by cases a<;>rfl)
 |map a=>exact one rfl rfl (by cases a<;>rfl)
 |_=>exact one rfl rfl rfl
def gU (place:Nat->Option (Nat×Nat)):∀(e:List (Nat×KV)) (cparts:List (Nat×Value)) (cells r:List KV) (C:Array Value),KRs G cells C->e.length=cparts.length ->
  (∀(j:Nat) i v o x,e[j]? =some (i,v)->cparts[j]? =some (o,x)->i=o∧KR G v x)->dv place cells e=some r ->
  ∃R,Instr.fill place C cparts=some R∧KRs G r R∧r.length=cells.length
 | [],cparts,cells,r,C,k,s,t,h=>by
  have:cparts= []:=List.eq_nil_of_length_eq_zero s.symm;subst this;simp only [dv]at h; cases h;exact⟨C,rfl,k,rfl⟩
 |(i,v)::l,[],cells,r,C,k,s,t,h=>by simp at s
 | (i, v)::l,(o,x)::crest,cells,r,C,k,s,t,h=>by
  obtain⟨rfl,H⟩:=t 0 i v o x rfl rfl;simp only [dv]at h;split at h
  ·cases h
  ·rename_i b size E;split at h
   ·rename_i Q;obtain⟨q,M,N⟩:=Q;obtain⟨⟨f,I⟩,_⟩:=ZC H N;have m:=XU b x.cells.toList 0 C (by simp [<-f,<-k.1]; omega);simp only [Nat.add_zero]at m;have F:=(m 0).2
    have hfold:x.cells.zipIdx.foldl (fun p (c,j)=>p.setIfInBounds (b+j) c) C=(x.cells.toList.zipIdx 0).foldl (fun p (c,i)=>p.setIfInBounds (b+i) c) C:=by
     rw [<-Array.foldl_toList,Array.toList_zipIdx]
    obtain ⟨R,O,A,z⟩:=gU place l crest (cells.take b++v.cells++cells.drop (b+size)) r ((x.cells.toList.zipIdx 0).foldl (fun p (c,i)=>p.setIfInBounds (b+i) c) C) (by
     refine⟨?_, ?_⟩
     ·rw [F,<-k.1]; simp [q]; omega
     ·intro j u y g n;rw [(m j).1]at n;rw [<-q]at g;rw [bQ cells v.cells b j (by omega)]at g
      by_cases K:j<b
      ·rw [iI K]at g;rw [iH (by omega)]at n;exact k.2 j u y g n
      ·rw [iH K]at g
       by_cases L:j<b+v.cells.length
       ·rw [iI L]at g;rw [iI (by simp [<-f]; omega)]at n;exact I _ u y g (by simpa using n)
       ·rw [iH L]at g;rw [iH (by simp [<-f]; omega)]at n
        exact k.2 j u y g n) (by simpa using s) (fun j i v o x q M=>t (j+1) i v o x (by simpa using q) (by simpa using M)) h
    refine⟨R, ?_,A,by rw [z]; simp; omega⟩;simp only [Instr.fill,E];rw [iH]
    ·rw [hfold]; exact O
    ·simp only [Bool.or_eq_true,bne_iff_ne,ne_eq,iJ,not_or];refine⟨by simp [<-f,q], ?_⟩;rw [<-f,<-k.1];show ¬(b+v.cells.length>cells.length);omega
   ·cases h
def Ph (r:KRel B G h w) {t:TypeId} {b:List (Nat×KV)} {cparts:Array (Nat×Value)} {v:KV} (M:b.length=cparts.size)
  (N:∀(j:Nat) i v k x,b[j]? =some (i,v)->cparts[j]? =some (k,x)->i=k∧KR G v x) (e:VV (ti P t) (kz P t) b=some v):
  KS P B G w (Instr.build t cparts) v h:=by
 unfold VV at e;split at e
 ·rename_i Q;obtain⟨i,z,L,o,K⟩:=Zf Q;have l:KRs G (kz P t).cells z.cells:=by rw [K]; exact KRs.of_zero
  split at e
  ·rename_i p hd;split at e
   ·rename_i cells A;cases e;obtain⟨fields,I,C,F⟩:=bh hd;obtain⟨R,y,g,_⟩:=gU (G:=G) _ b cparts.toList _ _ _ l (by simpa using M) (fun j i v k x q s=>N j i v k x q (by simpa using s)) A;refine .same r (c:= .agg R) ?_ (.agg g.1 g.2)
    have O:(fields.mapM (m:=Sem) fun f=>do pure (f.offset,<-sizeOf f.type)).run P w= .ok p.toArray w:=by
     rw [Array.mapM_eq_mapM_toList];simp only [Sem.run_map,Yp fields.toList F,iA,C]
    have hplace:((fun i=>p.toArray[i]?):Nat->Option (Nat×Nat))=fun i=>p[i]? :=by funext i; simp
    simp only [Instr.build,iB,zU L o,iA,run_underlying I,O,hplace,y,iC]
   ·cases e
  ·rename_i n T hd;split at e
   ·rename_i cells A;cases e;obtain⟨S,ie,I,E,H⟩:=pN hd;obtain⟨R,y,g,_⟩:=gU (G:=G) _ b cparts.toList _ _ _ l (by simpa using M) (fun j i v k x q s=>N j i v k x q (by simpa using s)) A;refine .same r (c:= .agg R) ?_ (.agg g.1 g.2);simp only [Instr.build,iB,zU L o,iA,run_underlying I,zF E,<-H,y,iC]
   ·cases e
  ·cases e
 ·cases e
def qB (n:Nat) (z:List KV):(jh n z).length=n*z.length:=by simp [jh]
def dY {z:Value} {zs:List KV} (g:KRs G zs z.cells) (n:Nat):KRs G (jh n zs) ((Array.range (n*zs.length)).map (z.cells[· % z.cells.size]!)):=by
 have e:∀(n j:Nat),j<n*zs.length->(jh n zs)[j]? =zs[j%zs.length]? :=by
  intro n
  induction n with
  |zero=>intro j p; omega
  | succ n r=>
   intro j p;have g:jh (n+1) zs=zs++jh n zs:=by simp [jh,List.replicate_succ]
   rw [g];rcases iS j zs.length with b|b
   ·rw [iU b,Nat.mod_eq_of_lt b]
   ·rw [List.getElem?_append_right b,r _ (by rw [Nat.add_mul]at p; omega),Nat.mod_eq_sub_mod b]
 refine⟨by simp [qB], ?_⟩;intro i v c o k
 have m:i<n*zs.length:=by
  have:=wF o;rw [qB]at this; exact this
 rw [e n i m]at o;simp only [Array.getElem?_map,Array.getElem?_range,m,if_true,Option.map_some]at k;cases k
 have f:0<zs.length:=by
  rcases Nat.eq_zero_or_pos zs.length with l|l
  ·rw [l]at m; omega
  ·exact l
 have q:i%zs.length<zs.length:=Nat.mod_lt _ f;refine g.2 (i%zs.length) v _ o ?_;rw [<-g.1];have:i%zs.length<z.cells.size:=by rw [<-g.1]; exact q
 rw [getElem!_pos z.cells (i%zs.length) this];simp [this]
def PB (r:KRel B G h w) (m:wY h=true) {cells:List KV} {R:Array Value} (g:KRs G cells R) (e:TypeId) (len sz cap:Nat) (l:len<=cap) (p:cap*sz<=cells.length):
  ∃G',G.le G'∧KR G' (.sl h.next 0 len (some cap) sz) (.slice (some ⟨w.heap.size,0,none⟩) len cap)∧KRel B G' (h.push (.cells false cells)) (w.alloc (.cells R e)):=by
 have f:h.next+1<65000:=by simpa [wY,xn] using m
 have b:=Gh.new_le G r.fresh (w.heap.size,0) cells.length
 refine ⟨_,b, ?_,r.alloc f (o:= .cells false cells) (ob:= .cells R e) (room:=cells.length) (.cells (iP _) (by have:=g.1; omega) (fun _=> .zero _)
  (fun i u c j k=>(g.2 i u c j (by simpa using k)).le b))⟩
 exact .sl (off:=0) (o:=0) (Gh.new_at _ _ _ _) l (by rw [Gh.new_room]; omega) (fun x n=>by cases n; rfl)
def WT (r:KRel B G h w) {t:TypeId} {len:Nat} {b:List (Nat×KV)} {cparts:Array (Nat×Value)} {v:KV} {h':KH} (T:b.length=cparts.size)
  (U:∀(j:Nat) i v l x,b[j]? =some (i,v)->cparts[j]? =some (l,x)->i=l∧KR G v x) (e:kf h (ti P) (kz P) (ti P t).d len b=some (v,h')):
  KS P B G w (Instr.buildSlice t len cparts) v h':=by
 unfold kf at e;split at e
 ·rename_i E H by_ hd;split at e
  ·rename_i O;obtain⟨F,X,k,q⟩:=O;split at e
   ·rename_i cells S;cases e;obtain⟨W,i,p,s,_⟩:=zM hd;obtain⟨l,z,c,C,A⟩:=Zf X;rw [p]at c; cases c;have y:KRs G (kz P E).cells z.cells:=by rw [A]; exact KRs.of_zero
    have f:=dY y len;rw [k]at f;obtain⟨R,m,o,n⟩:=gU (G:=G) _ b cparts.toList _ _ _ f (by simpa using T) (fun j i v l x M N=>U j i v l x M (by simpa using N)) S;rw [qB,k]at n;obtain⟨G',I,K,L⟩:=PB r q o E len H len (iP _) (by omega);refine⟨_,_,G', ?_,I,K,L⟩;simp only [Instr.buildSlice,iB,run_underlying W,iA,zF p,<-s];rw [iH (by simp; omega)]
    by_cases g:len*H=0
    ·simp only [g,if_true,iB,iC,iA]at m ⊢;have Q:((Array.range 0).map ((#[]:Array Value)[· % (#[]:Array Value).size]!))=(Array.range 0).map (z.cells[· % z.cells.size]!):=by simp
     rw [Q,m];rfl
    ·rw [iH g];simp only [iB,zU p C,iA,iC,m];rfl
   ·cases e
  ·cases e
 ·cases e
def DQ (r:KRel B G h w) {s:TypeId} {x v:KV} {c:Value} {f:Nat} (hx:KR G x c) (e:pq (ti P s) (ti P) x f=some v):KS P B G w (Instr.field s c f) v h:=by
 unfold pq at e;split at e
 ·rename_i fs cs hd;split at e
  ·rename_i k sz ft p z;split at e
   ·rename_i hh;obtain⟨Q,F⟩:=hh;obtain⟨fields,I,L,_⟩:=bh hd;have C:(ti P s).fts=fields.toList.map (·.type):=by simp only [ti,I]
    rw [C,iV]at z;obtain⟨fl,A,M⟩:=iR.1 z;subst M;rw [L,iV,A]at p;simp only [Option.map_some,iL,iW]at p;obtain⟨O,_⟩:=p;obtain⟨i,d,U,o,g,S⟩:=pB Q;have n:(ti P fl.type).d.agg=gN d:=by rw [S]at F ⊢; exact gX F
    cases hx with
    | @agg _ m X Y=>
     have q:fields[f]? =some fl:=by rw [<-Array.getElem?_toList]; exact A
     simp only [krd]at e
     by_cases H:(ti P fl.type).d.agg=true
     ·simp only [H,if_true]at e;split at e
      ·rename_i l;cases e;have hlen2:=l;simp only [List.length_take,List.length_drop]at l
       by_cases Z:i.size=0
       ·refine .same r (c:= .agg (m.extract fl.offset (fl.offset+i.size))) ?_ (.agg (by rw [hlen2,g,Z]; simp; omega) ?_)
        ·simp only [Instr.field,iB,run_underlying I,iA,q,part,asAgg,iC,uq o,<-n,H,if_true,zF U]
        ·intro j u y b T;rw [iN (by rw [hlen2,g,Z]; omega)]at b; cases b
       ·have N:fl.offset+i.size<=m.size:=by rw [<-X,O]; omega
        refine .same r (c:= .agg (m.extract fl.offset (fl.offset+i.size))) ?_ (.agg (by rw [hlen2,g]; simp; omega) ?_)
        ·simp only [Instr.field,iB,run_underlying I,iA,q,part,asAgg,iC,uq o,<-n,H,if_true,zF U]
        ·intro j u y b T
         have W:j<i.size:=by
          rcases iS j i.size with K|K
          ·exact K
          ·rw [iN (by rw [hlen2,g]; exact K)]at b; cases b
         rw [Zk _ _ _ _ W N]at T;rw [g,List.getElem?_take,iI W,List.getElem?_drop]at b;exact Y _ u y (by rw [O]; exact b) T
      ·cases e
     ·have t:(ti P fl.type).d.agg=false:=by simpa using H
      simp only [t,if_false,iT]at e;have E:k<m.size:=by rw [<-X]; exact wF e
      refine .same r (c:=m[k]) ?_ (Y k v _ e (by simp [E]));simp only [Instr.field,iB,run_underlying I,iA,q,part,asAgg,iC,uq o,<-n,t,O,iT,if_false];have:m[k]? =some m[k]:=by simp [E]
      rw [this]; rfl
   ·cases e
  ·cases e
 ·cases e
end
end Go.K
end
