/- Abstract values: a part. No condition beyond each statement's own. -/
import Derived.Test.YthfhicembdpjpaaGreatDoorA05
set_option linter.all false
section
namespace Go.Abs
open Go.RowKit (Below)
section
variable {P:Program} {gl:Nat→List V} {w0:qQ} {G:Gh} {st:St} {w:World}
theorem Z1 {k:IntKind} {op:BinOp} {x y:Int} {v:V} (h:KG k op x y=some v):∃c,(Op.intBits op k x y).run P w= .ok c w∧VR G v c∧V.sc st v:=by
 unfold KG at h
 cases op<;>first
  |(injection h with h; subst h; exact⟨_,rfl, .int _ _,by simp [V.sc]⟩)
  |(cases h; done)
theorem GY {k:IntKind} {op:BinOp} {x y:Int} {v:V} (d:TypeId) (h:Gu k op x y=some v):∃c,(binOp op d (.int k x) (.int k y)).run P w= .ok c w∧VR G v c∧V.sc st v:=by
 cases op<;>simp only [Gu]at h
 case and=>simpa [binOp] using Z1 (P:=P) (w:=w) (G:=G) (st:=st) h
 case or=>simpa [binOp] using Z1 (P:=P) (w:=w) (G:=G) (st:=st) h
 case xor=>simpa [binOp] using Z1 (P:=P) (w:=w) (G:=G) (st:=st) h
 case andNot=>simpa [binOp] using Z1 (P:=P) (w:=w) (G:=G) (st:=st) h
 case quo=>
  split at h
  ·cases h
  ·rename_i hy; injection h with h; subst h
   exact⟨_,by simp [binOp,Op.intDiv,hy], .int _ _,by simp [V.sc]⟩
 case rem=>
  split at h
  ·cases h
  ·rename_i hy; injection h with h; subst h
   exact⟨_,by simp [binOp,Op.intDiv,hy], .int _ _,by simp [V.sc]⟩
 case shl=>cases h
 case shr=>cases h
 all_goals
  injection h with h; subst h
  first
   |exact⟨_,by simp [binOp,Op.intArith], .int _ _,by simp [V.sc]⟩
   |exact⟨_,by simp [binOp,Op.intCmp], .bool _,by simp [V.sc]⟩
theorem GB {op:BinOp} {x y:ByteArray} {v:V} (d:TypeId) (h:Ga op x.data.toList y.data.toList=some v):∃c,(binOp op d (.string x) (.string y)).run P w= .ok c w∧VR G v c∧V.sc st v:=by
 have hb:∀op',(binOp op' d (.string x) (.string y)).run P w=(Op.stringOp op' x y).run P w:=by intro op'; cases op'<;>rfl
 rw [hb]
 have hx:x.toList=x.data.toList:=ByteArray.toList_eq _
 have hy:y.toList=y.data.toList:=ByteArray.toList_eq _
 cases op<;>simp only [Ga]at h
 case add=>
  split at h
  ·rename_i hl
   injection h with h; subst h
   have hsz:x.size+y.size≤9223372036854775807:=by
    show x.data.size+y.data.size≤_
    simpa only [Array.length_toList] using hl
   refine⟨.string (x++y), ?_, ?_,by simp [V.sc]⟩
   ·simp only [Op.stringOp]
    rw [if_neg]
    ·rfl
    ·show ¬((x.size+y.size:Nat):Int)>IntKind.i64.max
     have:IntKind.i64.max=9223372036854775807:=O1
     rw [this]; omega
   ·have:(x++y).data.toList=x.data.toList++y.data.toList:=O2
    rw [←this]; exact .str _
  ·cases h
 all_goals first
  |(cases h; done)
  |(injection h with h; subst h; simp only [Op.stringOp,hx,hy]; exact⟨_,rfl, .bool _,by simp [V.sc]⟩)
theorem Zs {op:BinOp} {t:TypeId} {x y:Operand} {a b:Value} (h:(∀p q,¬(a= .agg p∧b= .agg q))∧¬(a= .nilIface∧b= .nilIface)):(eqGuard op t x y a b).run P w= .ok () w:=by
 unfold eqGuard
 cases op<;>first
  |rfl
  |(cases a<;>cases b<;>first|rfl|(exact absurd ⟨rfl,rfl⟩ h.2)|(exact absurd ⟨rfl,rfl⟩ (h.1 _ _)))
theorem kr {op:BinOp} {t:TypeId} {a b:Value} {r:Bool} (ho:op= .eql∨op= .neq) (hb:∀w,(Op.equalIn 10000 t a b).run P w= .ok r w)
  (hn:(binOp .eql t a b)=(do pure (.bool (←Op.equal t a b)))∧(binOp .neq t a b)=(do pure (.bool (!(←Op.equal t a b))))):
  (binOp op t a b).run P w= .ok (.bool (if op= .eql then r else !r)) w:=by
 have he:(Op.equal t a b).run P w= .ok r w:=hb w
 rcases ho with rfl|rfl
 ·rw [hn.1]; simp only [iB,he,iA,iC,if_true]
 ·rw [hn.2]; simp only [iB,he,iA,iC]; rfl
theorem Ue {d:TypeDesc} (h:tiD P (some d)= .bool):d= .bool:=by
 cases d<;>simp only [tiD]at h<;>first|rfl|(cases h; done)|(split at h<;>cases h)
theorem Kx {d:TypeDesc} {e:TypeId} (h:tiD P (some d)= .ptr e):d= .pointer e:=by
 cases d<;>simp only [tiD]at h<;>first|(injection h with h; subst h; rfl)|(cases h; done)|(split at h<;>cases h)
theorem WR (n:Nat) {t e:TypeId} (hd:P.underlying t=some (.pointer e)) (w:World):(Op.equalIn (n+1) t (.pointer none) (.pointer none)).run P w= .ok true w:=by
 simp only [Op.equalIn,iB,run_underlying hd,iA]; rfl
theorem Ve (n:Nat) {t e:TypeId} (hd:P.underlying t=some (.pointer e)) (q:Addr) (w:World):(Op.equalIn (n+1) t (.pointer (some q)) (.pointer none)).run P w= .ok false w:=by
 simp only [Op.equalIn,iB,run_underlying hd,iA]; rfl
theorem Z0 {d:TypeDesc} {e:TypeId} {sz by_:Nat} (h:tiD P (some d)= .slice e sz by_):d= .slice e∧∃i,P.info? e=some i∧sz=i.size∧by_=i.bytes:=by
  cases d <;> simp only [tiD]at h<;>first
    |(cases h; done)
    | (split at h
       · rename_i hh
         obtain⟨i,hi⟩:=Option.isSome_iff_exists.1 hh
         injection h with h1 h2 h3; subst h1 h2 h3
         exact⟨rfl,i,hi,by simp [Program.cellsOf,hi],by simp [Program.bytesOf,hi]⟩
       · cases h)
    |(split at h<;>cases h)
theorem Wg (n:Nat) {t e:TypeId} (hd:P.underlying t=some (.slice e)) (q:Addr) (k c:Nat) (w:World):(Op.equalIn (n+1) t (.slice (some q) k c) (.slice none 0 0)).run P w= .ok false w:=by
 simp only [Op.equalIn,iB,run_underlying hd,iA,iC]
theorem YN (n:Nat) {t e:TypeId} (hd:P.underlying t=some (.slice e)) (w:World):(Op.equalIn (n+1) t (.slice none 0 0) (.slice none 0 0)).run P w= .ok true w:=by
 simp only [Op.equalIn,iB,run_underlying hd,iA,iC,Option.isNone_none]
theorem GP (op:BinOp) {t:TypeId} {d:TypeDesc} (hd:P.underlying t=some d) {x y v:V} {a b:Value} (hx:VR G x a) (hy:VR G y b) (h:XW op (ti P t).d x y=some v):
  ∃c,(binOp op t a b).run P w= .ok c w∧VR G v c∧V.sc st v∧(∀p q,¬(a= .agg p∧b= .agg q))∧¬(a= .nilIface∧b= .nilIface):=by
 unfold XW at h
 have htd:(ti P t).d=tiD P (some d):=by simp [ti,hd]
 split at h
 ·rename_i k m k' n
  cases hx; cases hy
  have fin:∀ {c:Value},(binOp op t (.int k m) (.int k' n)).run P w= .ok c w∧VR G v c∧V.sc st v→∃c,(binOp op t (.int k m) (.int k' n)).run P w= .ok c w∧VR G v c∧V.sc st v∧(∀p q,¬(Value.int k m= .agg p∧Value.int k' n= .agg q))∧¬(Value.int k m= .nilIface∧Value.int k' n= .nilIface):=
   fun h=>⟨_,h.1,h.2.1,h.2.2,O2,O2⟩
  split at h
  ·split at h
   ·cases h
   ·rename_i hn; injection h with h; subst h
    exact fin ⟨by simp only [binOp,Op.shift,hn,if_false]; rfl, .int _ _,by simp [V.sc]⟩
  ·split at h
   ·cases h
   ·rename_i hn; injection h with h; subst h
    exact fin ⟨by simp only [binOp,Op.shift,hn,if_false]; rfl, .int _ _,by simp [V.sc]⟩
  ·split at h
   ·rename_i hk; subst hk
    obtain⟨c,hc⟩:=GY (P:=P) (w:=w) (G:=G) (st:=st) t h
    exact fin hc
   ·cases h
 ·cases hx; cases hy
  obtain⟨c,h1,h2,h3⟩:=GB (P:=P) (w:=w) (G:=G) (st:=st) t h
  exact⟨c,h1,h2,h3,O2,O2⟩
 ·cases hx; cases hy
  have key:∀(p q:Bool) (op:BinOp),d= .bool→op= .eql∨op= .neq→(binOp op t (.bool p) (.bool q)).run P w= .ok (.bool (if op= .eql then(p==q)else !(p==q))) w:=by
   intro p q op hdb ho
   subst hdb
   exact kr ho (fun w=>run_equalIn_bool' w 9999 t p q hd) ⟨rfl,rfl⟩
  split at h
  ·rename_i hdd
   injection h with h; subst h
   exact⟨_,key _ _ _ (Ue (by rw [←htd]; assumption)) (.inl rfl), .bool _,by simp [V.sc],O2,O2⟩
  ·rename_i hdd
   injection h with h; subst h
   exact⟨_,key _ _ _ (Ue (by rw [←htd]; assumption)) (.inr rfl), .bool _,by simp [V.sc],O2,O2⟩
  ·cases h
 ·cases hy
  have key:∀(r:Bool) (e:TypeId) (op:BinOp),x.isNil=some r→d= .pointer e→op= .eql∨op= .neq →
    ∃c,(binOp op t a (.pointer none)).run P w= .ok c w∧VR G (.bool (if op= .eql then r else !r)) c∧V.sc st (.bool (if op= .eql then r else !r))∧(∀p q,¬(a= .agg p∧Value.pointer none= .agg q))∧¬(a= .nilIface∧Value.pointer none= .nilIface):=by
   intro r e op hr hdp ho
   subst hdp
   have fin:(binOp op t a (.pointer none)).run P w= .ok (.bool (if op= .eql then r else !r)) w→∃c,(binOp op t a (.pointer none)).run P w= .ok c w∧VR G (.bool (if op= .eql then r else !r)) c∧V.sc st (.bool (if op= .eql then r else !r))∧(∀p q,¬(a= .agg p∧Value.pointer none= .agg q))∧¬(a= .nilIface∧Value.pointer none= .nilIface):=
    fun h=>⟨_,h, .bool _,by simp [V.sc],O2,O2⟩
   have hnil:∀w,(Op.equalIn 10000 t (.pointer none) (.pointer none)).run P w= .ok true w:=fun w=>WR 9999 hd w
   have hptr:∀q w,(Op.equalIn 10000 t (.pointer (some q)) (.pointer none)).run P w= .ok false w:=fun q w=>Ve 9999 hd q w
   cases hx with
   |nilp=>simp only [V.isNil]at hr; injection hr with hr; subst hr; exact fin (kr ho hnil ⟨rfl,rfl⟩)
   |ptr hv=>simp only [V.isNil]at hr; injection hr with hr; subst hr; exact fin (kr ho (hptr _) ⟨rfl,rfl⟩)
   |eptr hv=>simp only [V.isNil]at hr; injection hr with hr; subst hr; exact fin (kr ho (hptr _) ⟨rfl,rfl⟩)
   |gptr=>simp only [V.isNil]at hr; injection hr with hr; subst hr; exact fin (kr ho (hptr _) ⟨rfl,rfl⟩)
   |_=>simp only [V.isNil]at hr; cases hr
  split at h
  ·rename_i h1 h2
   injection h with h; subst h
   exact key _ _ _ (by assumption) (Kx (by rw [←htd]; assumption)) (.inl rfl)
  ·injection h with h; subst h
   exact key _ _ _ (by assumption) (Kx (by rw [←htd]; assumption)) (.inr rfl)
  ·cases h
 ·cases hy
  have fin:∀(r:Bool) (e:TypeId) (op:BinOp),d= .slice e→op= .eql∨op= .neq→∀ {es:List (List V)} {sz:Nat} {el:List V} {tok:Tok},VR G (.sl sz (el::es) tok) a→r=(if op= .eql then false else true) →
    ∃c,(binOp op t a (.slice none 0 0)).run P w= .ok c w∧VR G (.bool r) c∧V.sc st (.bool r)∧(∀p q,¬(a= .agg p∧Value.slice none 0 0= .agg q))∧¬(a= .nilIface∧Value.slice none 0 0= .nilIface):=by
   intro r e op hds ho es sz el tok hxa hr
   subst hds
   cases hxa with
   | sl h1 h2 h3=>
    rename_i b o cap
    have hq:∀w,(Op.equalIn 10000 t (.slice (some ⟨b,o,none⟩) (el::es).length cap) (.slice none 0 0)).run P w= .ok false w:=fun w=>Wg 9999 hd _ _ _ w
    refine⟨_,kr ho hq ⟨rfl,rfl⟩, ?_,by simp [V.sc],O2,O2⟩
    rw [hr]
    rcases ho with rfl|rfl<;>exact .bool _
  split at h
  ·rename_i h1; injection h with h; subst h
   exact fin _ _ _ (Z0 (by rw [←htd]; assumption)).1 (.inl rfl) hx rfl
  ·rename_i h1; injection h with h; subst h
   exact fin _ _ _ (Z0 (by rw [←htd]; assumption)).1 (.inr rfl) hx rfl
  ·cases h
 ·cases hx; cases hy
  have fin:∀(e:TypeId) (op:BinOp),d= .slice e→op= .eql∨op= .neq →
    ∃c,(binOp op t (.slice none 0 0) (.slice none 0 0)).run P w= .ok c w∧VR G (.bool (if op= .eql then true else !true)) c∧V.sc st (.bool (if op= .eql then true else !true))∧(∀p q,¬(Value.slice none 0 0= .agg p∧Value.slice none 0 0= .agg q))∧¬(Value.slice none 0 0= .nilIface∧Value.slice none 0 0= .nilIface):=by
   intro e op hds ho
   subst hds
   have hq:∀w,(Op.equalIn 10000 t (.slice none 0 0) (.slice none 0 0)).run P w= .ok true w:=fun w=>YN 9999 hd w
   exact⟨_,kr ho hq ⟨rfl,rfl⟩, .bool _,by simp [V.sc],O2,O2⟩
  split at h
  ·rename_i h1; injection h with h; subst h
   exact fin _ _ (Z0 (by rw [←htd]; assumption)).1 (.inl rfl)
  ·rename_i h1; injection h with h; subst h
   exact fin _ _ (Z0 (by rw [←htd]; assumption)).1 (.inr rfl)
  ·cases h
 ·cases h
theorem KQ {d:TypeDesc} {k:IntKind} (h:tiD P (some d)= .int k):d= .int k:=by
 cases d<;>simp only [tiD]at h<;>first|(injection h with h; subst h; rfl)|(cases h; done)|(split at h<;>cases h)
theorem Ba {d:TypeDesc} (h:tiD P (some d)= .str):d= .string:=by
 cases d<;>simp only [tiD]at h<;>first|rfl|(cases h; done)|(split at h<;>cases h)
theorem Xq {t:TypeId} {d:TypeDesc} (hd:P.underlying t=some d) (hl:(tiD P (some d)).leaf=true) {xs:Array Value} {off:Nat} {v:Value} (hx:xs[off]? =some v) (w:World):(part t xs off).run P w= .ok v w:=by
 have ha:(isAgg t).run P w= .ok false w:=by
  rw [Xf hd]
  cases d<;>simp only [tiD]at hl<;>first|rfl|(cases hl; done)|(split at hl<;>cases hl)
 simp only [part,iB,ha,iA,Bool.false_eq_true,if_false,hx,iC]
theorem GC (n:Nat) {t:TypeId} {d:TypeDesc} (hd:P.underlying t=some d) {x y:V} {a b:Value} {r:Bool} (hx:VR G x a) (hy:VR G y b) (h:PP (tiD P (some d)) x y=some r) (w:World):
  (Op.equalIn (n+1) t a b).run P w= .ok r w:=by
 unfold PP at h
 split at h
 ·rename_i k m k' n' hdd
  split at h
  ·rename_i hk; subst hk
   injection h with h; subst h
   cases hx; cases hy
   have:=KQ hdd; subst this
   exact run_equalIn_int w n t _ _ _ _ hd
  ·cases h
 ·rename_i hdd
  injection h with h; subst h
  cases hx; cases hy
  have:=Ba hdd; subst this
  rw [run_equalIn_string w n t _ _ hd,ByteArray.toList_eq,ByteArray.toList_eq]
 ·rename_i hdd
  injection h with h; subst h
  cases hx; cases hy
  have:=Ue hdd; subst this
  exact run_equalIn_bool' w n t _ _ hd
 ·cases h
theorem GJ (n:Nat):∀(fs:List Field) (k:Nat) (xs ys:List V) (ca cb:Array Value) (r:Bool),Jq P k fs=true→xs.length+k=ca.size→ys.length+k=cb.size →
  (∀(i:Nat) (v:V) (c:Value),xs[i]? =some v→ca[k+i]? =some c→VR G v c)→(∀(i:Nat) (v:V) (c:Value),ys[i]? =some v→cb[k+i]? =some c→VR G v c) →
  JD (fs.map fun f=>tiD P (P.underlying f.type)) xs ys=some r→∀w,(Op.eqFields (n+1) ca cb fs).run P w= .ok r w:=by
 intro fs
 induction fs with
 | nil=>
  intro k xs ys ca cb r _ _ _ _ _ h w
  cases xs<;>cases ys<;>simp only [List.map_nil,JD]at h<;>first|(injection h with h; subst h; rfl)|cases h
 | cons f fs ih=>
  intro k xs ys ca cb r hf hl1 hl2 h1 h2 h w
  cases xs with
  |nil=>simp [JD]at h
  |cons x xs=>
  cases ys with
  |nil=>simp [JD]at h
  |cons y ys=>
  simp only [List.map_cons,JD]at h
  simp only [Jq,iE,bne_iff_ne,ne_eq,beq_iff_eq]at hf
  obtain⟨⟨⟨hn,ho⟩,hlf⟩,hrest⟩:=hf
  cases hu:P.underlying f.type with
  |none=>rw [hu]at hlf; simp [tiD,TD.leaf]at hlf
  | some d=>
   rw [hu]at hlf h
   split at h
   ·rename_i b r' hb hr
    injection h with h; subst h
    simp only [List.length_cons]at hl1 hl2
    have ka:ca[k]? =some ca[k]:=Array.getElem?_eq_getElem O0
    have kb:cb[k]? =some cb[k]:=Array.getElem?_eq_getElem O0
    have e1:=Xq (P:=P) hu hlf (xs:=ca) (off:=f.offset) (v:=ca[k]) (by rw [ho]; exact ka)
    have e2:=Xq (P:=P) hu hlf (xs:=cb) (off:=f.offset) (v:=cb[k]) (by rw [ho]; exact kb)
    have e3:=GC (P:=P) (G:=G) n hu (h1 0 x ca[k] O2 (O7 ka)) (h2 0 y cb[k] O2 (O7 kb)) hb
    have e4:=ih (k+1) xs ys ca cb r' hrest O0 O0 (fun i v c hv hc=>h1 (i+1) v c (O7 hv) (by rw [←hc]; congr 1; omega))
     (fun i v c hv hc=>h2 (i+1) v c (O7 hv) (by rw [←hc]; congr 1; omega)) hr
    simp only [Op.eqFields]
    rw [if_pos hn]
    simp only [iB,e1,e2,e3,iA]
    cases b
    ·simp [iC]
    ·simp only [Bool.not_true,Bool.false_eq_true,if_false,Bool.true_and]; exact e4 w
   ·cases h
theorem BK (op:BinOp) {t:TypeId} {x y v:V} {a b:Value} (hx:VR G x a) (hy:VR G y b) (h:KL op (ti P t).eqs x y=some v) (ox oy:Operand):
  ∃c,(do eqGuard op t ox oy a b; binOp op t a b:Sem Value).run P w= .ok c w∧VR G v c∧V.sc st v:=by
 unfold KL at h
 split at h
 ·rename_i e0 er xs ys heq
  have he:(ti P t).eqs=Qv P t:=rfl
  rw [he]at heq
  unfold Qv at heq
  split at heq
  ·rename_i fs hu
   split at heq
   ·rename_i hc
    have hfull:(ti P t).eqs=fs.toList.map fun f=>tiD P (P.underlying f.type):=by
     show Qv P t=_
     unfold Qv; rw [hu]; simp only; rw [if_pos hc]
    obtain⟨c1,c2,c3⟩:=hc
    cases hx with
    | @agg _ ca la ra=>
    cases hy with
    | @agg _ cb lb rb=>
    have hfo:P.fieldsOf t=fs:=by simp only [Program.fieldsOf,hu]
    have hq:∀r,JD (ti P t).eqs xs ys=some r→∀w,(Op.equalIn 10000 t (.agg ca) (.agg cb)).run P w= .ok r w:=by
     intro r hr w
     rw [run_equalIn_struct w 9999 t ca cb (by rw [hfo]; exact hu) c1,hfo]
     rw [hfull]at hr
     exact GJ (P:=P) (G:=G) 9998 fs.toList 0 xs ys ca cb r c3 (O7 la) (O7 lb) (fun i v c hv hc=>ra i v c hv (O7 hc)) (fun i v c hv hc=>rb i v c hv (O7 hc)) hr w
    split at h
    ·rename_i r hr
     injection h with h; subst h
     refine⟨.bool r, ?_, .bool _,by simp [V.sc]⟩
     simp only [iB,run_eqGuard_agg w _ t ox oy ca cb c2,iA,run_eql_struct,hq r hr]
    ·rename_i r hr
     injection h with h; subst h
     refine⟨.bool (!r), ?_, .bool _,by simp [V.sc]⟩
     simp only [iB,run_eqGuard_agg w _ t ox oy ca cb c2,iA,run_neq_struct,hq r hr]
    ·cases h
   ·cases heq
  ·cases heq
 ·cases h
end
end Go.Abs
end
