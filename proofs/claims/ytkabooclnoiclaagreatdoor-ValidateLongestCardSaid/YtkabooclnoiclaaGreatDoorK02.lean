/- Closed runs: a part. No condition beyond each statement's own. -/
import Derived.Test.YtkabooclnoiclaaGreatDoorK01
set_option linter.all false
section
namespace Go.K
open Go.Abs
def KV.ofCell:Value→KV
 | .bool b=> .bool b
 | .int k n=> .int k n
 | .string s=> .str s.size (zc s.data.toList)
 | .pointer none=> .nilp
 | .slice none 0 0=> .nilsl
 | .map none=> .nilmap
 | .nilFunc=> .nilfunc
 | .nilIface=> .niliface
 |_=> .junk
def KV.of:Value→KV
 | .agg cs=> .agg (cs.toList.map KV.ofCell)
 | .tuple cs=> .tuple (cs.toList.map KV.ofCell)
 |v=>KV.ofCell v
section
variable {G:Gh}
theorem KR.ofCell (v:Value):KR G (KV.ofCell v) v:=by
 unfold KV.ofCell
 split<;>first|exact .bool _|exact .int _ _|exact .str _|exact .nilp|exact .nilsl|exact .nilmap|exact .nilfunc|exact .niliface|exact .junk _
theorem KRs.ofCells (cs:Array Value):KRs G (cs.toList.map KV.ofCell) cs:=by
 refine⟨by simp, ?_⟩
 intro i v c hv hc
 rw [List.getElem?_map,Array.getElem?_toList,hc]at hv
 simp at hv; subst hv
 exact KR.ofCell c
theorem KR.of (v:Value):KR G (KV.of v) v:=by
 cases v with
 |agg cs=>exact .agg (KRs.ofCells (G:=G) cs).1 (KRs.ofCells cs).2
 |tuple cs=>exact .tuple (KRs.ofCells (G:=G) cs).1 (KRs.ofCells cs).2
 |_=>simp only [KV.of]; exact KR.ofCell _
end
theorem eM (a b:Nat):Nat.blt a b=decide (a<b):=zL a b
structure KFr where
 n:Nat
 l:Sl
 d:List KD
def zg (ng:Nat) (l:Sl):Operand→KV
 | .tmp t=>zN l t
 | .const v=>KV.of v
 | .global g=>bif Nat.blt g ng then .ptr g 0 else .junk
 | .func f=> .func (.func f) [] []
structure FrR (G:Gh) (fr:KFr) (a:Act):Prop where
 sl:SlR G fr.n fr.l a.tmps
 ds:KDs G fr.d a.defers
theorem FrR.le {G G':Gh} (h:G.le G') {fr:KFr} {a:Act} (k:FrR G fr a):FrR G' fr a:=⟨k.sl.le h,k.ds.le h⟩
def Glob (P:Program) (G:Gh):Prop:=∀g,g<P.globals.size→G.at_ g=some (g,0)
section
variable {P:Program} {B:zJ} {G:Gh} {h:KH} {w:World} {fr:KFr} {a:Act}
theorem FrR.eval (hg:Glob P G) {ng:Nat} (hn:ng≤P.globals.size) (hf:FrR G fr a) (x:Operand):KR G (zg ng fr.l x) (a.eval x):=by
 cases x with
 |tmp t=>exact hf.sl.slot t
 |const v=>exact KR.of v
 | global g=>
  simp only [zg,eM,Bool.cond_decide]
  split
  ·rename_i hl
   have e:=hg g (by omega)
   exact KR.ptr (off:=0) e
  ·exact .junk _
 |func f=>exact .func rfl (by simp) rfl (by simp)
def KS (P:Program) (B:zJ) (G:Gh) (w:World) (s:Sem Value) (v:KV) (h':KH):Prop:=
 ∃c w' G',s.run P w= .ok c w'∧G.le G'∧KR G' v c∧KRel B G' h' w'
theorem KS.same (r:KRel B G h w) {s:Sem Value} {v:KV} {c:Value} (hr:s.run P w= .ok c w) (hv:KR G v c):KS P B G w s v h:=⟨c,w,G,hr, .refl _,hv,r⟩
def Ul:V→Option KV
 | .bool b=>some (.bool b)
 | .int k n=>some (.int k n)
 |_=>none
theorem pW {g:Abs.Gh} {v:V} {k:KV} {c:Value} (hv:VR g v c) (e:Ul v=some k):KR G k c:=by
 unfold Ul at e
 split at e
 ·injection e with e; subst e; cases hv; exact .bool _
 ·injection e with e; subst e; cases hv; exact .int _ _
 ·cases e
def X7 (k:IntKind) (op:BinOp) (x y:Int):Option KV:=
 match op with
 | .add=>some (.int k (k.wrap (x+y)))
 | .sub=>some (.int k (k.wrap (x-y)))
 | .mul=>some (.int k (k.wrap (x*y)))
 | .eql=>some (.bool (x==y))
 | .neq=>some (.bool (!(x==y)))
 | .lss=>some (.bool (decide (x<y)))
 | .leq=>some (.bool (decide (x≤y)))
 | .gtr=>some (.bool (decide (x>y)))
 | .geq=>some (.bool (decide (x≥y)))
 |op=>(V5 k op x y).bind Ul
def Qq (k:IntKind) (op:BinOp) (x y:Int):Option KV:=
 if y<0 then none else match op with
 | .shl=>some (.int k (k.wrap (x*2^(min y.toNat k.bits))))
 | .shr=>some (.int k (x.fdiv (2^(min y.toNat k.bits))))
 |_=>none
def WI (op:BinOp) (n a m b:Nat):Option KV:=
 match op with
 | .add=>bif Nat.ble (n+m) 9223372036854775807 then some (PL n a m b)else none
 | .eql=>some (.bool (Nat.beq n m&&Nat.beq a b))
 | .neq=>some (.bool (!(Nat.beq n m&&Nat.beq a b)))
 | .lss=>some (.bool (pD n a m b (min n m) 0))
 | .leq=>some (.bool (pD n a m b (min n m) 0||(Nat.beq n m&&Nat.beq a b)))
 | .gtr=>some (.bool (!(pD n a m b (min n m) 0||(Nat.beq n m&&Nat.beq a b))))
 | .geq=>some (.bool (!(pD n a m b (min n m) 0)))
 |_=>none
def rh (d:TD) (x y:KV):Option Bool:=
 match d,x,y with
 | .ptr _, .nilp, .nilp=>some true
 | .ptr _, .ptr _ _, .nilp=>some false
 | .ptr _, .nilp, .ptr _ _=>some false
 | .slice .., .nilsl, .nilsl=>some true
 | .slice .., .sl .., .nilsl=>some false
 | .slice .., .slz, .nilsl=>some false
 | .map _ _, .nilmap, .nilmap=>some true
 | .map _ _, .map _, .nilmap=>some false
 | .func, .nilfunc, .nilfunc=>some true
 | .func, .func .., .nilfunc=>some false
 | .iface, .iface .., .niliface=>some false
 |_,_,_=>none
def WE (op:BinOp) (d:TD) (x y:KV):Option KV:=
 match x,y with
 | .int k a, .int k' b=>
  match op with
  | .shl| .shr=>Qq k op a b
  |_=>if k=k' then X7 k op a b else none
 | .str n a, .str m b=>WI op n a m b
 | .bool a, .bool b=>match op,d with
  | .eql, .bool=>some (.bool (a==b))
  | .neq, .bool=>some (.bool (!(a==b)))
  |_,_=>none
 | x,y=>match op,rh d x y with
  | .eql,some t=>some (.bool t)
  | .neq,some t=>some (.bool (!t))
  |_,_=>none
theorem P5 {k:IntKind} {op:BinOp} {x y:Int} {v:KV} (t:TypeId) (e:X7 k op x y=some v):∃c,(binOp op t (.int k x) (.int k y)).run P w= .ok c w∧KR G v c:=by
 have key:∀u,V5 k op x y=some u→Ul u=some v→∃c,(binOp op t (.int k x) (.int k y)).run P w= .ok c w∧KR G v c:=fun u h1 h2=>by
  obtain⟨c,h3,h4,_⟩:=U6 (P:=P) (w:=w) (G:=(⟨fun _ _=>none,fun _=>none,fun _ _=>none,fun _=>0⟩:Abs.Gh)) (st:=⟨[],[]⟩) t h1
  exact⟨c,h3,pW h4 h2⟩
 have fin:(V5 k op x y).bind Ul=some v→∃c,(binOp op t (.int k x) (.int k y)).run P w= .ok c w∧KR G v c:=fun e=>by
  obtain⟨u,h1,h2⟩:=Option.bind_eq_some_iff.1 e
  exact key u h1 h2
 unfold X7 at e
 split at e<;>first|exact fin e|(injection e with e; subst e; exact key _ rfl rfl)
theorem ZQ {k k':IntKind} {op:BinOp} {x y:Int} {v:KV} (t:TypeId) (e:Qq k op x y=some v):∃c,(binOp op t (.int k x) (.int k' y)).run P w= .ok c w∧KR G v c:=by
 unfold Qq at e
 split at e
 ·cases e
 ·rename_i hn
  split at e
  ·injection e with e; subst e
   exact⟨_,by simp only [binOp,Op.shift,hn,if_false]; rfl, .int _ _⟩
  ·injection e with e; subst e
   exact⟨_,by simp only [binOp,Op.shift,hn,if_false]; rfl, .int _ _⟩
  ·cases e
theorem GL {op:BinOp} {x y:ByteArray} {v:KV} (t:TypeId) (e:WI op x.size (zc x.data.toList) y.size (zc y.data.toList)=some v):
  ∃c,(binOp op t (.string x) (.string y)).run P w= .ok c w∧KR G v c:=by
 have hl:pD x.size (zc x.data.toList) y.size (zc y.data.toList) (min x.size y.size) 0=Op.bytesLess x.data.toList y.data.toList:=by
  have:=Uv x.data.toList y.data.toList (min x.size y.size) 0 (by omega) (by omega) (by rw [vN,vN]; omega)
  rw [vN,vN]at this
  exact this
 have key:∀u,BK op x.data.toList y.data.toList=some u→Ul u=some v→∃c,(binOp op t (.string x) (.string y)).run P w= .ok c w∧KR G v c:=fun u h1 h2=>by
  obtain⟨c,h3,h4,_⟩:=Uh (P:=P) (w:=w) (G:=(⟨fun _ _=>none,fun _=>none,fun _ _=>none,fun _=>0⟩:Abs.Gh)) (st:=⟨[],[]⟩) t h1
  exact⟨c,h3,pW h4 h2⟩
 unfold WI at e
 rw [hl,JV]at e
 split at e
 ·rw [QY,Bool.cond_decide]at e
  split at e
  ·rename_i hs
   injection e with e; subst e
   refine⟨.string (x++y), ?_,KR.cat x y⟩
   have:¬((x.size+y.size:Nat):Int)>IntKind.i64.max:=by
    show ¬((x.size+y.size:Nat):Int)>9223372036854775807
    omega
   simp only [binOp,Op.stringOp,if_neg this]; rfl
  ·cases e
 all_goals first|(injection e with e; subst e; exact key _ rfl rfl)|cases e
theorem Wu {op:BinOp} {t:TypeId} {ox oy:Operand} {x y:Value} (h1:∀p q,¬(x= .agg p∧y= .agg q)) (h2:¬(x= .nilIface∧y= .nilIface)):(eqGuard op t ox oy x y).run P w= .ok () w:=
 uR ⟨h1,h2⟩
theorem US {t:TypeId} {d:TypeDesc} (hd:P.underlying t=some d) {x y:KV} {a b:Value} (hx:KR G x a) (hy:KR G y b) {r:Bool} (e:rh (tiD P (some d)) x y=some r) (n:Nat):
    (∀ w,(Op.equalIn (n+1) t a b).run P w= .ok r w)∧(∀p q,¬(a= .agg p∧b= .agg q))∧¬(a= .nilIface∧b= .nilIface) ∧
      (binOp .eql t a b)=(do pure (.bool (←Op.equal t a b)))∧(binOp .neq t a b)=(do pure (.bool (!(←Op.equal t a b)))):=by
  unfold rh at e
  split at e
  all_goals first|cases e|skip
  all_goals rename_i hk
  all_goals cases hx
  all_goals cases hy
  all_goals refine⟨fun w=> ?_,by simp,by simp,rfl,rfl⟩
  all_goals first
    |(obtain rfl:=X4 hk; simp [Op.equalIn,run_underlying hd,iB]; done)
    |(obtain⟨rfl,_⟩:=v8 hk; simp [Op.equalIn,run_underlying hd,iB]; done)
    |(obtain⟨_,_,_,rfl⟩:=DS hk; simp [Op.equalIn,run_underlying hd,iB]; done)
    | (have hm:∃k e,d= .map k e:=by
        cases d<;>simp_all [tiD]
        all_goals (split at hk<;>cases hk)
       obtain⟨_,_,rfl⟩:=hm
       simp [Op.equalIn,run_underlying hd,iB]; done)
    | (have hm:∃k,d= .interface k:=by
        cases d<;>simp_all [tiD]
        all_goals (split at hk<;>cases hk)
       obtain⟨_,rfl⟩:=hm
       simp [Op.equalIn,run_underlying hd,iB]; done)
theorem GE (op:BinOp) {t:TypeId} (hok:(ti P t).d≠ .other) {x y v:KV} {a b:Value} (hx:KR G x a) (hy:KR G y b) (e:WE op (ti P t).d x y=some v) (ox oy:Operand):
  ∃c,(do eqGuard op t ox oy a b; binOp op t a b:Sem Value).run P w= .ok c w∧KR G v c:=by
 have lift:∀ {c:Value},(∀p q,¬(a= .agg p∧b= .agg q))→¬(a= .nilIface∧b= .nilIface)→(binOp op t a b).run P w= .ok c w→(do eqGuard op t ox oy a b; binOp op t a b:Sem Value).run P w= .ok c w:=
  fun h1 h2 h3=>by simp only [iB,Wu h1 h2,iA,h3]
 obtain⟨d,hd,htd⟩:=Ve (P:=P) (t:=t) rfl hok
 unfold WE at e
 split at e
 ·cases hx; cases hy
  split at e
  ·obtain⟨c,h1,h2⟩:=ZQ (P:=P) (G:=G) (w:=w) t e
   exact⟨c,lift (by simp) (by simp) h1,h2⟩
  ·obtain⟨c,h1,h2⟩:=ZQ (P:=P) (G:=G) (w:=w) t e
   exact⟨c,lift (by simp) (by simp) h1,h2⟩
  ·split at e
   ·rename_i hk
    subst hk
    obtain⟨c,h1,h2⟩:=P5 (P:=P) (G:=G) (w:=w) t e
    exact⟨c,lift (by simp) (by simp) h1,h2⟩
   ·cases e
 ·cases hx; cases hy
  obtain⟨c,h1,h2⟩:=GL (P:=P) (G:=G) (w:=w) t e
  exact⟨c,lift (by simp) (by simp) h1,h2⟩
 ·rename_i p q
  cases hx; cases hy
  rw [←htd]at e
  split at e
  ·rename_i hk
   injection e with e; subst e
   obtain rfl:=uA hk
   exact⟨_,lift (by simp) (by simp) (yY (.inl rfl) (fun w=>run_equalIn_bool' w 9999 t p q hd) ⟨rfl,rfl⟩), .bool _⟩
  ·rename_i hk
   injection e with e; subst e
   obtain rfl:=uA hk
   exact⟨_,lift (by simp) (by simp) (yY (.inr rfl) (fun w=>run_equalIn_bool' w 9999 t p q hd) ⟨rfl,rfl⟩), .bool _⟩
  ·cases e
 ·rw [←htd]at e
  split at e
  ·rename_i s hk
   injection e with e; subst e
   obtain⟨h1,h2,h3,h4⟩:=US (P:=P) hd hx hy hk 9999
   exact⟨_,lift h2 h3 (yY (.inl rfl) h1 h4), .bool _⟩
  ·rename_i s hk
   injection e with e; subst e
   obtain⟨h1,h2,h3,h4⟩:=US (P:=P) hd hx hy hk 9999
   exact⟨_,lift h2 h3 (yY (.inr rfl) h1 h4), .bool _⟩
  ·cases e
end
def KV.isCell:KV→Bool
 | .agg _| .tuple _| .junk=>false
 |_=>true
def KV.isCells (l:List KV):Bool:=l.all KV.isCell
def krd (cells:List KV) (off n:Nat) (agg:Bool):Option KV:=
 if agg then(if((cells.drop off).take n).length=n then some (.agg ((cells.drop off).take n))else none)else cells[off]?
def qf (h:KH) (p:KV) (n:Nat) (agg:Bool):Option KV:=
 match p with
 | .ptr id off=>match h.get id with
  |some (.cells _ cs)=>krd cs off n agg
  |_=>none
 |_=>none
def pe (h:KH) (p v:KV) (n:Nat):Option KH:=
 match p with
 | .ptr id off=>match h.get id with
  |some (.cells false cs)=>if v.cells.length=n∧off+n≤cs.length∧KV.isCells v.cells=true then some (h.set id (some (.cells false (cs.take off++v.cells++cs.drop (off+n)))))else none
  |_=>none
 |_=>none
def vk (d:TD) (x:KV) (f:Nat):Option KV:=
 match d,x with
 | .struct fs, .ptr id off=>match fs[f]? with
  |some (o,n)=>if n≠0 then some (.ptr id (off+o))else none
  |none=>none
 |_,_=>none
def w8 (d:TD) (x:KV) (i:Int):Option KV:=
 match d,x with
 | .arr n sz, .ptr id off=>if 0≤i∧i<n then some (.ptr id (off+i.toNat*sz))else none
 | .slice _ sz _, .sl id off len _ sz'=>if sz=sz'∧0≤i∧i<len then some (.ptr id (off+i.toNat*sz))else none
 |_,_=>none
section
variable {P:Program} {B:zJ} {G:Gh} {h:KH} {w:World} {fr:KFr} {a:Act}
theorem KRel.cells (r:KRel B G h w) {id b o:Nat} {ro:Bool} {cs:List KV} (hg:h.get id=some (.cells ro cs)) (ha:G.at_ id=some (b,o)):
  ∃C el fz,w.heap[b]? =some (.cells C el fz)∧o+cs.length≤C.size∧(cs.length≤G.room id∧o+G.room id≤C.size)∧(ro=false→Jj fz C.size)∧∀(i:Nat) (v:KV) (c:Value),cs[i]? =some v→C[o+i]? =some c→KR G v c:=by
 obtain⟨b',k,ob,e1,_,e3,e4⟩:=r.blk id _ hg
 rw [ha]at e1; cases e1
 cases e4 with
 |cells h1 h2 h3 h4=>exact⟨_,_,_,e3,by omega,⟨h1,h2⟩,h3,h4⟩
theorem Kj (w:World) (b o:Nat) (t:TypeId) (cells:List KV) (off n:Nat) (v:KV) (i:TypeInfo) (d:TypeDesc) (hi:P.info? t=some i) (hd:P.underlying t=some d) (hn:n=i.size)
  (hag:(ti P t).d≠ .other)
  (hc:∀(j:Nat) (u:KV),cells[j]? =some u→∃c,w.cell? ⟨b,o+j,none⟩=some c∧KR G u c)
  (h:krd cells off n (ti P t).d.agg=some v):∃c,(loadVar t ⟨b,o+off,none⟩).run P w= .ok c w∧KR G v c:=by
 have hda:(ti P t).d.agg=ja d:=by
  have:(ti P t).d=tiD P (some d):=by simp [ti,hd]
  rw [this]at hag ⊢
  exact jj hag
 simp only [krd]at h
 simp only [loadVar,iB,xx hd,iA]
 rw [←hda]
 by_cases ha:(ti P t).d.agg=true
 ·simp only [ha,if_true]at h ⊢
  split at h
  ·rename_i hl
   injection h with h; subst h
   have hcs:∀j,j<n→∃c u,w.cell? ⟨b,o+(off+j),none⟩=some c∧cells[off+j]? =some u∧KR G u c:=by
    intro j hj
    have hlt:off+j<cells.length:=by
     simp only [List.length_take,List.length_drop]at hl; omega
    obtain⟨c,h1,h2⟩:=hc (off+j) _ (List.getElem?_eq_getElem hlt)
    exact⟨c,_,h1,List.getElem?_eq_getElem hlt,h2⟩
   have hcell:∀j,j<n→w.cell? ((⟨b,o+off,none⟩:Addr).add j)=some ((w.cell? ⟨b,o+(off+j),none⟩).getD undef):=by
    intro j hj
    obtain⟨c,u,h1,_⟩:=hcs j hj
    rw [yj,Nat.add_assoc,h1]; rfl
   have hl2:=run_loadCells (P:=P) w ⟨b,o+off,none⟩ n (fun j=>(w.cell? ⟨b,o+(off+j),none⟩).getD undef) hcell
   refine⟨.agg ((List.range n).map fun j=>(w.cell? ⟨b,o+(off+j),none⟩).getD undef).toArray, ?_, ?_⟩
   ·simp only [iB,zk hi,iA,←hn,hl2,iC]
   ·refine .agg (by simpa using hl) ?_
    intro j u x hu hx
    have hj:j<n:=by
     rcases Nat.lt_or_ge j n with h'|h'
     ·exact h'
     ·rw [List.getElem?_eq_none (by omega)]at hu; cases hu
    obtain⟨c,u',h1,h2,h3⟩:=hcs j hj
    simp only [List.getElem?_toArray,List.getElem?_map,List.getElem?_range hj,Option.map_some,h1,Option.getD_some]at hx
    injection hx with hx; subst hx
    rw [List.getElem?_take,if_pos hj,List.getElem?_drop,h2]at hu
    injection hu with hu; subst hu
    exact h3
  ·cases h
 ·have ha':(ti P t).d.agg=false:=by simpa using ha
  simp only [ha',if_false,Bool.false_eq_true]at h ⊢
  obtain⟨c,h1,h2⟩:=hc off v h
  exact⟨c,by rw [run_load,h1],h2⟩
theorem KRel.cell (r:KRel B G h w) {id b o:Nat} {ro:Bool} {cs:List KV} (hg:h.get id=some (.cells ro cs)) (ha:G.at_ id=some (b,o)):
  ∀(j:Nat) (u:KV),cs[j]? =some u→∃c,w.cell? ⟨b,o+j,none⟩=some c∧KR G u c:=by
 obtain⟨C,el,fz,h1,h2,_,_,h4⟩:=r.cells hg ha
 intro j u hu
 have hj:j<cs.length:=yo hu
 refine⟨C[o+j]'(by omega), ?_,h4 j u _ hu (Array.getElem?_eq_getElem (by omega))⟩
 rw [yh h1]; exact Array.getElem?_eq_getElem (by omega)
theorem BS (r:KRel B G h w) {t:TypeId} (hok:(ti P t).ok=true) (hd:(ti P t).d≠ .other) {p v:KV} {c:Value} (hp:KR G p c) (hl:qf h p (ti P t).sz (ti P t).d.agg=some v):
  KS P B G w (Instr.loadAt t c) v h:=by
 obtain⟨i,d,hi,hdd,hsz,_⟩:=qc hok
 unfold qf at hl
 split at hl
 ·rename_i id off
  split at hl
  ·rename_i ro cs hg
   cases hp with
   | ptr ha=>
    rename_i b o
    obtain⟨x,h1,h2⟩:=Kj (P:=P) w b o t cs off _ v i d hi hdd hsz hd (r.cell hg ha) hl
    exact .same r (by simp only [Instr.loadAt,Instr.sureAddr,iB,iC,iA,h1]) h2
  ·cases hl
 ·cases hl
theorem qT {v:KV} {c:Value} (h:KR G v c) (hc:v.isCell=true):c.oneCell'=true:=by
 cases h<;>simp_all [KV.isCell,Value.oneCell']
theorem kF {v:KV} {c:Value} (h:KR G v c) (hc:KV.isCells v.cells=true):KRs G v.cells c.cells∧∀x∈c.cells.toList,x.oneCell'=true:=by
 have one:v.isCell=true→v.cells= [v]→c.cells= #[c]→KRs G v.cells c.cells∧∀x∈c.cells.toList,x.oneCell'=true:=by
  intro h1 h2 h3
  rw [h2,h3]
  refine⟨⟨rfl, ?_⟩, ?_⟩
  ·intro i u x hu hx
   cases i with
   |zero=>simp at hu hx; subst hu hx; exact h
   |succ i=>simp at hu
  ·simp; exact qT h h1
 cases h with
 | agg hl hr=>
  rename_i cs c
  refine⟨⟨hl,hr⟩, ?_⟩
  intro x hx
  obtain⟨i,hi⟩:=List.getElem?_of_mem hx
  simp only [Value.cells,Array.getElem?_toList]at hi
  have hil:i<cs.length:=by
   rw [hl]
   rcases Nat.lt_or_ge i c.size with h'|h'
   ·exact h'
   ·rw [Array.getElem?_eq_none h']at hi; cases hi
  have:=hr i _ x (List.getElem?_eq_getElem hil) hi
  refine qT this ?_
  simp only [KV.isCells,KV.cells,List.all_eq_true]at hc
  exact hc _ (List.getElem_mem hil)
 |junk=>simp [KV.isCells,KV.cells,KV.isCell]at hc
 |tuple=>simp [KV.isCells,KV.cells,KV.isCell]at hc
 |_=>exact one rfl rfl rfl
theorem vx (g o:Nat) (t:TypeId) (fz:Nat×Nat):∀(vs:List Value) (i:Nat) (cur:Array Value) (w:World),w.heap[g]? =some (.cells cur t fz)→Jj fz cur.size→o+i+vs.length≤cur.size→(∀v∈vs,v.oneCell'=true) →
  (storeCells ⟨g,o,none⟩ vs i).run P w= .ok () (w.setRow g (cur.toList.take (o+i)++vs++cur.toList.drop (o+i+vs.length)).toArray)
 | [],i,cur,w,hg,_,_,_=>by
  simp only [storeCells,List.append_nil,List.length_nil,Nat.add_zero,List.take_append_drop,Array.toArray_toList]
  rw [setRow_self w g cur t fz hg]
  rfl
 | v::rest,i,cur,w,hg,hfz,hl,h1=>by
  have hi:o+i<cur.size:=by simp at hl; omega
  have hadd:(⟨g,o,none⟩:Addr).add i=⟨g,o+i,none⟩:=by unfold Addr.add; split<;>simp_all
  have hcell:w.cell? ⟨g,o+i,none⟩=some cur[o+i]:=by simp [World.cell?,hg,hi]
  have hfro:w.frozen? ⟨g,o+i,none⟩=false:=by
   have:=hfz (o+i) hi
   obtain⟨lo,hi'⟩:=fz
   simp only [World.frozen?,hg,Bool.and_eq_false_iff,decide_eq_false_iff_not]
   simp only at this
   omega
  have hst:(store ((⟨g,o,none⟩:Addr).add i) v).run P w= .ok () (w.setRow g (cur.setIfInBounds (o+i) v)):=by
   rw [hadd,run_store P w _ v _ (h1 v (by simp)),hcell]
   simp [hfro,setCell_eq_setRow w g (o+i) cur t fz v hg]
  have ih:=vx g o t fz rest (i+1) (cur.setIfInBounds (o+i) v) (w.setRow g (cur.setIfInBounds (o+i) v)) (setRow_heap w g cur _ t _ hg) (by rw [Array.size_setIfInBounds]; exact hfz) (by simp at hl ⊢; omega) (fun x hx=>h1 x (by simp [hx]))
  simp only [storeCells,iB,hst,iA,ih,setRow_setRow]
  congr 3
  have e:=list_seg_step cur.toList (o+i) v rest (by simp at hl ⊢; omega)
  simpa [Array.toList_setIfInBounds,Nat.add_assoc] using e
theorem KRel.splice (r:KRel B G h w) {id b o:Nat} {cs new:List KV} {xs:Array Value} {C:Array Value} {el:TypeId} {fz0:Nat×Nat} (hg:h.get id=some (.cells false cs)) (ha:G.at_ id=some (b,o))
  (hC:w.heap[b]? =some (.cells C el fz0)) (hfz:Jj fz0 C.size) (hx:KRs G new xs) (off:Nat) (hl:off+new.length≤cs.length):
  KRel B G (h.set id (some (.cells false (cs.take off++new++cs.drop (off+new.length))))) (w.setRow b (C.toList.take (o+off)++xs.toList++C.toList.drop (o+off+xs.toList.length)).toArray):=by
 obtain⟨C',el',fz,h1,h2,h3,h4,h5⟩:=r.cells hg ha
 rw [hC]at h1; cases h1
 have hxl:=hx.1
 refine r.chg hg rfl rfl ha (vl w hC) (.cells ?_ ?_ (fun _=> ?_) ?_)
 ·simp only [List.length_append,List.length_take,List.length_drop]; omega
 ·simp only [List.length_append,List.length_take,List.length_drop,List.size_toArray,Array.length_toList]; omega
 ·intro i hi
  refine hfz i ?_
  simp only [List.length_append,List.length_take,List.length_drop,List.size_toArray,Array.length_toList]at hi; omega
 ·intro j u y hu hy
  have hju:j<cs.length:=by
   have:=yo hu
   simp only [List.length_append,List.length_take,List.length_drop]at this; omega
  simp only [List.getElem?_toArray,List.getElem?_append,List.length_append,List.length_take,Array.length_toList,←hxl,List.getElem?_take,List.getElem?_drop]at hu hy
  have hmin:min off cs.length=off:=by omega
  have hmin2:min (o+off) C.size=o+off:=by omega
  rw [hmin]at hu
  rw [hmin2]at hy
  by_cases c1:j<off
  ·have c2:j<off+new.length:=by omega
   have c3:o+j<o+off:=by omega
   have c4:o+j<o+off+new.length:=by omega
   simp only [c1,c2,c3,c4,if_true]at hu hy
   exact h5 j u y hu (by simpa using hy)
  ·by_cases c2:j<off+new.length
   ·have c3:¬o+j<o+off:=by omega
    have c4:o+j<o+off+new.length:=by omega
    simp only [c1,c2,c3,c4,if_true,if_false]at hu hy
    exact hx.2 _ u y hu (by rw [show o+j-(o+off)=j-off by omega]at hy; simpa using hy)
   ·have c3:¬o+j<o+off:=by omega
    have c4:¬o+j<o+off+new.length:=by omega
    simp only [c1,c2,c3,c4,if_false]at hu hy
    refine h5 _ u y hu ?_
    rw [show o+j-(o+off+new.length)=j-(off+new.length)by omega,show o+off+new.length+(j-(off+new.length))=o+(off+new.length+(j-(off+new.length)))by omega]at hy
    simpa using hy
theorem Qy (r:KRel B G h w) {t:TypeId} (hok:(ti P t).ok=true) {p v:KV} {c x:Value} (hp:KR G p c) (hx:KR G v x) {h':KH} (hl:pe h p v (ti P t).sz=some h'):
  ∃w',(Instr.storeAt t c x).run P w= .ok () w'∧KRel B G h' w':=by
 obtain⟨i,d,hi,hdd,hsz,_⟩:=qc hok
 unfold pe at hl
 split at hl
 ·rename_i id off
  split at hl
  ·rename_i cs hg
   split at hl
   ·rename_i hcond
    obtain⟨hn,hoff,hcell⟩:=hcond
    injection hl with hl; subst hl
    cases hp with
    | ptr ha=>
     rename_i b o
     obtain⟨C,el,fz,h1,h2,h3,h4,h5⟩:=r.cells hg ha
     have h4:=h4 rfl
     obtain⟨hrs,hone⟩:=kF hx hcell
     have hxl:=hrs.1
     have hrun:=vx (P:=P) b (o+off) el fz x.cells.toList 0 C w h1 h4 (by simp [←hxl,hn]; omega) hone
     have hsp:=r.splice hg ha h1 h4 hrs off (by omega)
     rw [hn]at hsp
     refine⟨_, ?_,hsp⟩
     simp only [Instr.storeAt,Instr.sureAddr,storeVar,iB,iC,iA,zk hi]
     rw [←hxl,hn,hsz]
     simp only [Nat.add_zero]at hrun
     simp only [ne_eq,not_true,if_false,iC,iA,hrun]
   ·cases hl
  ·cases hl
 ·cases hl
theorem VG (r:KRel B G h w) (hn:h.next+1<65000) {t:TypeId} {v:KV} {x:Value} (hx:KR G v x) (hc:KV.isCells v.cells=true):
  KS P B G w (do pure (.pointer (some (←newVar t x)))) (.ptr h.next 0) (h.push (.cells false v.cells)):=by
 obtain⟨hrs,_⟩:=kF hx hc
 have hle:=Gh.new_le G r.fresh (w.heap.size,0) v.cells.length
 have hr:=r.alloc hn (o:= .cells false v.cells) (ob:= .cells x.cells t) (room:=v.cells.length) (.cells (Nat.le_refl _) (by have:=hrs.1; omega) (fun _=> .zero _)
  (fun i u c h1 h2=>(hrs.2 i u c h1 (by simpa using h2)).le hle))
 exact⟨.pointer (some ⟨w.heap.size,0,none⟩),w.alloc (.cells x.cells t),_,rfl,hle, .ptr (off:=0) (Gh.new_at _ _ _ _),hr⟩
theorem Yb (r:KRel B G h w) {s:TypeId} {x v:KV} {c:Value} (hx:KR G x c) {f:Nat} (e:vk (ti P s).d x f=some v):KS P B G w (Instr.fieldAt s c f) v h:=by
 unfold vk at e
 split at e
 ·rename_i fs id off hd
  split at e
  ·rename_i o n hf
   split at e
   ·rename_i hn
    injection e with e; subst e
    cases hx with
    | ptr ha=>
     rename_i b k
     obtain⟨fields,hu,rfl,hinfo⟩:=ua hd
     rw [List.getElem?_map,Array.getElem?_toList]at hf
     obtain⟨fd,hfd,he⟩:=Option.map_eq_some_iff.1 hf
     injection he with he1 he2
     refine .same r (c:= .pointer (some ⟨b,k+(off+o),none⟩)) ?_ (.ptr ha)
     have hs:(P.info? fd.type).isSome=true:=hinfo fd (by
      have:=Array.mem_of_getElem? hfd
      simpa using this)
     obtain⟨i,hi⟩:=Option.isSome_iff_exists.1 hs
     have hc:P.cellsOf fd.type=i.size:=by simp [Program.cellsOf,hi]
     have hne:i.size≠0:=by rw [←hc,he2]; exact hn
     simp only [Instr.fieldAt,iB,run_underlying hu,iA,hfd,Instr.sureAddr,iC,fieldPlace,zk hi,hne,if_false,yj,he1]
     rw [Nat.add_assoc]
   ·cases e
  ·cases e
 ·cases e
end
def bG (d:TD) (x:KV) (i:Int):Option KV:=
 match d,x with
 | .str, .str n s=>if 0≤i∧i.toNat<n then some (.int .u8 (jq s i.toNat))else none
 |_,_=>none
def Ju (d:TD) (x:KV):Option KV:=
 match d,x with
 | .str, .str n _=>some (.int .i64 n)
 | .slice .., .sl _ _ len _ _=>some (.int .i64 len)
 | .slice .., .slz=>some (.int .i64 0)
 | .slice .., .nilsl=>some (.int .i64 0)
 |_,_=>none
def vg (x:Option KV) (d y:Nat):Option Nat:=
 match x with
 |none=>some d
 |some (.int _ i)=>if 0≤i∧i≤y then some i.toNat else none
 |_=>none
def uP (len c:Nat) (lo hi mx:Option KV):Option (Nat×Nat×Option Nat):=
 match mx with
 | none=>match vg hi len c with
  |some h=>match vg lo 0 h with|some l=>some (l,h,none)|none=>none
  |none=>none
 | some m=>match vg (some m) 0 c with
  | some m=>match hi with
   | some hi=>match vg (some hi) 0 m with
    |some h=>match vg lo 0 h with|some l=>some (l,h,some m)|none=>none
    |none=>none
   |none=>none
  |none=>none
def KN (id off len:Nat) (c:Option Nat) (sz:Nat) (lo hi mx:Option KV):Option KV:=
 match uP len (c.getD len) lo hi mx with
 |some (l,h,some m)=>some (.sl id (if m=l then off else off+l*sz) (h-l) (some (m-l)) sz)
 | some (l,h,none)=>match c with
  |some c=>some (.sl id (if c=l then off else off+l*sz) (h-l) (some (c-l)) sz)
  |none=>if l=0 then some (.sl id off h none sz)else if l<len then some (.sl id (off+l*sz) (h-l) none sz)else if h=l then some .slz else none
 |none=>none
def JA (cellsAt:Nat→Option Nat) (d:TD) (x:KV) (lo hi mx:Option KV):Option KV:=
 match d,x with
 | .str, .str n s=>match mx with
  | none=>match uP n n lo hi none with
   |some (l,h,_)=>some (lI s l h)
   |none=>none
  |some _=>none
 | .slice _ sz _, .sl id off len c sz'=>if sz=sz' then KN id off len c sz lo hi mx else none
 | .slice .., .slz=>match mx with
  | none=>match uP 0 0 lo hi none with
   |some _=>some .slz
   |none=>none
  |some _=>none
 | .slice .., .nilsl=>match uP 0 0 lo hi mx with
  |some _=>some .nilsl
  |none=>none
 | .arr n sz, .ptr id off=>match cellsAt id with
  |some k=>if off+n*sz≤k then KN id off n (some n) sz lo hi mx else none
  |none=>none
 |_,_=>none
section
variable {P:Program} {B:zJ} {G:Gh} {h:KH} {w:World} {fr:KFr} {a:Act}
theorem Yn (r:KRel B G h w) {t:TypeId} {x v:KV} {c:Value} {k:IntKind} {i:Int} (hx:KR G x c) (e:w8 (ti P t).d x i=some v):KS P B G w (Instr.indexAt t c (.int k i)) v h:=by
 unfold w8 at e
 split at e
 ·rename_i n sz id off hd
  split at e
  ·rename_i hb
   injection e with e; subst e
   obtain⟨el,ie,hu,hi,hsz⟩:=qw hd
   cases hx with
   | ptr ha=>
    rename_i b o
    refine .same r (c:= .pointer (some ⟨b,o+(off+i.toNat*sz),none⟩)) ?_ (.ptr ha)
    simp only [Instr.indexAt,asIntOf,iB,iC,iA,run_underlying hu,Instr.sureAddr]
    simp only [hb,and_self,if_true,iB,zk hi,iA,iC,yj,hsz,Nat.add_assoc]
  ·cases e
 ·rename_i el sz by_ id off len cap sz' hd
  split at e
  ·rename_i hb
   obtain⟨rfl,h0,h1⟩:=hb
   injection e with e; subst e
   obtain⟨hu,ie,hi,hsz,_⟩:=zn hd
   cases hx with
   | sl ha h2 h3 h4=>
    rename_i cap b o
    refine .same r (c:= .pointer (some ⟨b,o+(off+i.toNat*sz),none⟩)) ?_ (.ptr ha)
    simp only [Instr.indexAt,asIntOf,iB,iC,iA,run_underlying hu]
    simp only [h0,h1,and_self,if_true,iB,zk hi,iA,iC,yj,hsz,Nat.add_assoc]
  ·cases e
 ·cases e
theorem Jo (r:KRel B G h w) {t:TypeId} {x v:KV} {c:Value} {k:IntKind} {i:Int} (hx:KR G x c) (e:bG (ti P t).d x i=some v):KS P B G w (Instr.index t c (.int k i)) v h:=by
 unfold bG at e
 split at e
 ·rename_i n s hd
  split at e
  ·rename_i hb
   obtain⟨h0,h1⟩:=hb
   injection e with e; subst e
   cases hx with
   | str s=>
    have hl:i.toNat<s.data.toList.length:=by rw [vN]; exact h1
    have hb:s[i.toNat]? =some s.data.toList[i.toNat]:=by
     rw [ByteArray.getElem?_lt' s i.toNat h1]; rfl
    refine .same r (c:= .int .u8 s.data.toList[i.toNat].toNat) ?_ ?_
    ·simp only [Instr.index,asIntOf,iB,iC,iA,run_underlying (yO hd),h0,if_true,hb]
    ·rw [KR.idx s h1]; exact .int _ _
  ·cases e
 ·cases e
theorem Dp (r:KRel B G h w) {t ty:TypeId} {x v:KV} {c:Value} (hx:KR G x c) (e:Ju (ti P t).d x=some v):KS P B G w (Builtin.len_ #[t] ty #[c]) v h:=by
 unfold Ju at e
 split at e
 ·rename_i n s hd
  injection e with e; subst e
  cases hx with
  |str s=>exact .same r (c:=goInt s.size) (by simp [Builtin.len_,run_underlying (yO hd)]) (.int _ _)
 ·rename_i hd
  injection e with e; subst e
  cases hx with
  | sl ha h2 h3 h4=>
   rename_i len _ _ cap _ _
   exact .same r (c:=goInt len) (by simp [Builtin.len_,run_underlying (zn hd).1]) (.int _ _)
 ·rename_i hd
  injection e with e; subst e
  cases hx with
  |slz=>exact .same r (c:=goInt 0) (by simp [Builtin.len_,run_underlying (zn hd).1]) (.int _ _)
 ·rename_i hd
  injection e with e; subst e
  cases hx with
  |nilsl=>exact .same r (c:=goInt 0) (by simp [Builtin.len_,run_underlying (zn hd).1]) (.int _ _)
 ·cases e
theorem ux {x:KV} {c:Value} (hx:KR G x c) {d y y' l:Nat} (hy:y≤y') (code:BoundsCode) (e:vg (some x) d y=some l):(Instr.sliceBound c y' code).run P w= .ok l w∧l≤y:=by
 unfold vg at e
 split at e
 ·rename_i h; cases h
 ·rename_i k i h
  injection h with h; subst h
  cases hx
  split at e
  ·rename_i hb
   injection e with e; subst e
   have hb':0≤i∧i≤(y':Int):=⟨hb.1,by omega⟩
   exact⟨by simp only [Instr.sliceBound,asIntOf,iB,iC,iA,hb',and_self,if_true],by omega⟩
  ·cases e
 ·cases e
inductive KO' (G:Gh):Option KV→Option Value→Prop
 |none:KO' G none none
 |some {v:KV} {c:Value}:KR G v c→KO' G (some v) (some c)
theorem vG {len c0 cap:Nat} {lo hi mx:Option KV} {clo chi cmx:Option Value} (hlo:KO' G lo clo) (hhi:KO' G hi chi) (hmx:KO' G mx cmx) (h0:len≤c0) (h1:c0≤cap) (isS:Bool) {l h:Nat} {m:Option Nat}
  (e:uP len c0 lo hi mx=some (l,h,m)):(Instr.sliceBounds isS len cap clo chi cmx).run P w= .ok (l,h,m.getD cap) w∧l≤h∧h≤m.getD c0∧m.getD c0≤c0∧(mx=none→m=none):=by
 unfold uP at e
 cases hmx with
 | none=>
  simp only at e
  split at e
  ·rename_i h' eh
   split at e
   ·rename_i l' el
    simp only [Option.some.injEq,Prod.mk.injEq]at e
    obtain⟨rfl,rfl,rfl⟩:=e
    have hh:(match chi with|some v=>Instr.sliceBound v cap (if isS then .sliceAcap else .sliceAlen)|none=>pure len:Sem Nat).run P w= .ok h' w∧h'≤c0:=by
     cases hhi with
     |none=>simp only [vg,Option.some.injEq]at eh; subst eh; exact⟨rfl,h0⟩
     |some hv=>exact ux hv h1 _ eh
    have hll:∀code,(match clo with|some v=>Instr.sliceBound v h' code|none=>pure 0:Sem Nat).run P w= .ok l' w∧l'≤h':=by
     intro code
     cases hlo with
     |none=>simp only [vg,Option.some.injEq]at el; subst el; exact⟨rfl,Nat.zero_le _⟩
     |some hv=>exact ux hv (Nat.le_refl _) _ el
    refine⟨?_,(hll .index).2,hh.2,Nat.le_refl _,fun _=>rfl⟩
    have e1:=hh.1
    have e2:=(hll (if(none:Option Value).isSome=true then .slice3C else .sliceB)).1
    cases hhi with
    | none=>
     simp only [vg,Option.some.injEq]at eh; subst eh
     cases hlo with
     |none=>simp only [vg,Option.some.injEq]at el; subst el; rfl
     |some hv=>simp only [Instr.sliceBounds,iB,iC,iA]; simp only at e2; rw [e2]; rfl
    | some hw=>
     simp only at e1
     cases hlo with
     | none=>
      simp only [vg,Option.some.injEq]at el; subst el
      simp only [Instr.sliceBounds,iB,iC,iA,e1]; rfl
     |some hv=>simp only [Instr.sliceBounds,iB,iC,iA,e1]; simp only at e2; rw [e2]; rfl
   ·cases e
  ·cases e
 | some hm=>
  simp only at e
  split at e
  ·rename_i m' em
   split at e
   ·rename_i hv
    split at e
    ·rename_i h' eh
     split at e
     ·rename_i l' el
      simp only [Option.some.injEq,Prod.mk.injEq]at e
      obtain⟨rfl,rfl,rfl⟩:=e
      cases hhi with
      | some hw=>
       obtain⟨a1,a2⟩:=ux (P:=P) (w:=w) hm h1 (if isS then .slice3Acap else .slice3Alen) em
       obtain⟨b1,b2⟩:=ux (P:=P) (w:=w) hw (Nat.le_refl m') .slice3B eh
       cases hlo with
       | none=>
        simp only [vg,Option.some.injEq]at el; subst el
        exact⟨by simp only [Instr.sliceBounds,iB,iC,iA,a1,b1]; rfl,Nat.zero_le _,b2,a2,by simp⟩
       | some hv=>
        obtain⟨d1,d2⟩:=ux (P:=P) (w:=w) hv (Nat.le_refl h') .slice3C el
        exact⟨by simp only [Instr.sliceBounds,iB,iC,iA,a1,b1,Option.isSome_some,if_true,d1]; rfl,d2,b2,a2,by simp⟩
     ·cases e
    ·cases e
   ·cases e
  ·cases e
end
end Go.K
end
