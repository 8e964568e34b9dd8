/- Abstract values. No condition. -/
import Derived.Test.YtkabooclnoiclaaGreatDoorA05
set_option linter.all false
section
namespace Go.Abs
open Go.RowKit (Below)
section
variable {P:Program} {gl:Nat->List V} {w0:xi} {G:Gh} {st:St} {w:World}
def dc {k:IntKind} {op:BinOp} {x y:Int} {v:V} (h:PN k op x y=some v):∃c,(Op.intBits op k x y).run P w= .ok c w∧VR G v c∧V.sc st v:=by
 unfold PN at h
 cases op<;>first
  |(cases h; exact⟨_,rfl, .int _ _,by simp [V.sc]⟩)
  |(cases h; done)
def GM {k:IntKind} {op:BinOp} {x y:Int} {v:V} (d:TypeId) (h:QP k op x y=some v):∃c,(binOp op d (.int k x) (.int k y)).run P w= .ok c w∧VR G v c∧V.sc st v:=by
 cases op<;>simp only [QP]at h
 case and=>simpa [binOp] using dc (P:=P) (w:=w) (G:=G) (st:=st) h
 case or=>simpa [binOp] using dc (P:=P) (w:=w) (G:=G) (st:=st) h
 case xor=>simpa [binOp] using dc (P:=P) (w:=w) (G:=G) (st:=st) h
 case andNot=>simpa [binOp] using dc (P:=P) (w:=w) (G:=G) (st:=st) h
 case quo=>
  split at h
  ·cases h
  ·rename_i a; cases h;exact⟨_,by simp [binOp,Op.intDiv,a], .int _ _,by simp [V.sc]⟩
 case rem=>
  split at h
  ·cases h
  ·rename_i a; cases h;exact⟨_,by simp [binOp,Op.intDiv,a], .int _ _,by simp [V.sc]⟩
 case shl=>cases h
 case shr=>cases h
 all_goals
  cases h
  first
   |exact⟨_,by simp [binOp,Op.intArith], .int _ _,by simp [V.sc]⟩
   |exact⟨_,by simp [binOp,Op.intCmp], .bool _,by simp [V.sc]⟩
def BX {op:BinOp} {x y:ByteArray} {v:V} (d:TypeId) (h:fq op x.data.toList y.data.toList=some v):∃c,(binOp op d (.string x) (.string y)).run P w= .ok c w∧VR G v c∧V.sc st v:=by
 have a:∀op',(binOp op' d (.string x) (.string y)).run P w=(Op.stringOp op' x y).run P w:=by intro op'; cases op'<;>rfl
 rw [a];have f:x.toList=x.data.toList:=ByteArray.toList_eq _;have g:y.toList=y.data.toList:=ByteArray.toList_eq _;cases op<;>simp only [fq]at h
 case add=>
  split at h
  ·rename_i b;cases h
   have e:x.size+y.size<=9223372036854775807:=by
    show x.data.size+y.data.size<=_;simpa only [Array.length_toList] using b
   refine⟨.string (x++y), ?_, ?_,by simp [V.sc]⟩
   ·simp only [Op.stringOp];rw [iH]
    ·rfl
    ·show ¬((x.size+y.size:Nat):Int)>IntKind.i64.max;have:IntKind.i64.max=9223372036854775807:=O1;rw [this]; omega
   ·have:(x++y).data.toList=x.data.toList++y.data.toList:=O2;rw [<-this]; exact .str _
  ·cases h
 all_goals first
  |(cases h; done)
  |(cases h; simp only [Op.stringOp,f,g]; exact⟨_,rfl, .bool _,by simp [V.sc]⟩)
def ge {op:BinOp} {t:TypeId} {x y:Operand} {a b:Value} (h:(∀p q,¬(a= .agg p∧b= .agg q))∧¬(a= .nilIface∧b= .nilIface)):(eqGuard op t x y a b).run P w= .ok () w:=by
 unfold eqGuard
 cases op<;>first
  |rfl
  |(cases a<;>cases b<;>first|rfl|(exact absurd ⟨rfl,rfl⟩ h.2)|(exact absurd ⟨rfl,rfl⟩ (h.1 _ _)))
def vO {op:BinOp} {t:TypeId} {a b:Value} {r:Bool} (g:op= .eql∨op= .neq) (f:∀w,(Op.equalIn 10000 t a b).run P w= .ok r w)
  (e:(binOp .eql t a b)=(do pure (.bool (<-Op.equal t a b)))∧(binOp .neq t a b)=(do pure (.bool (!(<-Op.equal t a b))))):
  (binOp op t a b).run P w= .ok (.bool (if op= .eql then r else !r)) w:=by
 have c:(Op.equal t a b).run P w= .ok r w:=f w;rcases g with rfl|rfl
 ·rw [e.1]; simp only [iB,c,iA,iC,if_true]
 ·rw [e.2]; simp only [iB,c,iA,iC]; rfl
def bP {d:TypeDesc} (h:tiD P (some d)= .bool):d= .bool:=by
 cases d<;>simp only [tiD]at h<;>first|rfl|(cases h; done)|(split at h<;>cases h)
def Qc {d:TypeDesc} {e:TypeId} (h:tiD P (some d)= .ptr e):d= .pointer e:=by
 cases d<;>simp only [tiD]at h<;>first|(cases h; rfl)|(cases h; done)|(split at h<;>cases h)
def mS {d:TypeDesc} (h:tiD P (some d)= .func):∃a b c,d= .func a b c:=by
 cases d<;>simp only [tiD]at h<;>first|(exact⟨_,_,_,rfl⟩)|(cases h; done)|(split at h<;>cases h)
def X7 (n:Nat) {t e:TypeId} (hd:P.underlying t=some (.pointer e)) (w:World):(Op.equalIn (n+1) t (.pointer none) (.pointer none)).run P w= .ok true w:=by
 simp only [Op.equalIn,iB,run_underlying hd,iA]; rfl
def WV (n:Nat) {t e:TypeId} (hd:P.underlying t=some (.pointer e)) (q:Addr) (w:World):(Op.equalIn (n+1) t (.pointer (some q)) (.pointer none)).run P w= .ok false w:=by
 simp only [Op.equalIn,iB,run_underlying hd,iA]; rfl
def bg {d:TypeDesc} {e:TypeId} {sz by_:Nat} (h:tiD P (some d)= .slice e sz by_):d= .slice e∧∃i,P.info? e=some i∧sz=i.size∧by_=i.bytes:=by
  cases d <;> simp only [tiD]at h<;>first
    |(cases h; done)
    | (split at h
       · rename_i g
         obtain⟨i,a⟩:=Option.isSome_iff_exists.1 g;injection h with b c f; subst b c f;exact⟨rfl,i,a,by simp [Program.cellsOf,a],by simp [Program.bytesOf,a]⟩
       · cases h)
    |(split at h<;>cases h)
def Xn (n:Nat) {t e:TypeId} (hd:P.underlying t=some (.slice e)) (q:Addr) (k c:Nat) (w:World):(Op.equalIn (n+1) t (.slice (some q) k c) (.slice none 0 0)).run P w= .ok false w:=by
 simp only [Op.equalIn,iB,run_underlying hd,iA,iC]
def pP (n:Nat) {t e:TypeId} (hd:P.underlying t=some (.slice e)) (w:World):(Op.equalIn (n+1) t (.slice none 0 0) (.slice none 0 0)).run P w= .ok true w:=by
 simp only [Op.equalIn,iB,run_underlying hd,iA,iC,Option.isNone_none]
def oM (op:BinOp) {t:TypeId} {d:TypeDesc} (hd:P.underlying t=some d) {x y v:V} {a b:Value} (z:VR G x a) (A:VR G y b) (h:YN op (ti P t).d x y=some v):
  ∃c,(binOp op t a b).run P w= .ok c w∧VR G v c∧V.sc st v∧(∀p q,¬(a= .agg p∧b= .agg q))∧¬(a= .nilIface∧b= .nilIface):=by
 unfold YN at h;have g:(ti P t).d=tiD P (some d):=by simp [ti,hd]
 split at h
 ·rename_i k m E n;cases z; cases A
  have fin:∀ {c:Value},(binOp op t (.int k m) (.int E n)).run P w= .ok c w∧VR G v c∧V.sc st v->∃c,(binOp op t (.int k m) (.int E n)).run P w= .ok c w∧VR G v c∧V.sc st v∧(∀p q,¬(Value.int k m= .agg p∧Value.int E n= .agg q))∧¬(Value.int k m= .nilIface∧Value.int E n= .nilIface):=
   fun h=>⟨_,h.1,h.2.1,h.2.2,O2,O2⟩
  split at h
  ·split at h
   ·cases h
   ·rename_i N; cases h;exact fin ⟨by simp only [binOp,Op.shift,N,if_false]; rfl, .int _ _,by simp [V.sc]⟩
  ·split at h
   ·cases h
   ·rename_i N; cases h;exact fin ⟨by simp only [binOp,Op.shift,N,if_false]; rfl, .int _ _,by simp [V.sc]⟩
  ·split at h
   ·rename_i W; subst W;obtain⟨c,U⟩:=GM (P:=P) (w:=w) (G:=G) (st:=st) t h;exact fin U
   ·cases h
 ·cases z; cases A;obtain⟨c,l,I,S⟩:=BX (P:=P) (w:=w) (G:=G) (st:=st) t h;exact⟨c,l,I,S,O2,O2⟩
 ·cases z; cases A
  have key:∀(p q:Bool) (op:BinOp),d= .bool->op= .eql∨op= .neq->(binOp op t (.bool p) (.bool q)).run P w= .ok (.bool (if op= .eql then(p==q)else !(p==q))) w:=by
   intro p q op K i;subst K;exact vO i (fun w=>run_equalIn_bool' w 9999 t p q hd) ⟨rfl,rfl⟩
  split at h
  ·rename_i L;cases h;exact⟨_,key _ _ _ (bP (by rw [<-g]; assumption)) (.inl rfl), .bool _,by simp [V.sc],O2,O2⟩
  ·rename_i L;cases h;exact⟨_,key _ _ _ (bP (by rw [<-g]; assumption)) (.inr rfl), .bool _,by simp [V.sc],O2,O2⟩
  ·cases h
 ·cases A
  have key:∀(r:Bool) (e:TypeId) (op:BinOp),x.isNil=some r->d= .pointer e->op= .eql∨op= .neq ->
    ∃c,(binOp op t a (.pointer none)).run P w= .ok c w∧VR G (.bool (if op= .eql then r else !r)) c∧V.sc st (.bool (if op= .eql then r else !r))∧(∀p q,¬(a= .agg p∧Value.pointer none= .agg q))∧¬(a= .nilIface∧Value.pointer none= .nilIface):=by
   intro r e op f M i;subst M
   have fin:(binOp op t a (.pointer none)).run P w= .ok (.bool (if op= .eql then r else !r)) w->∃c,(binOp op t a (.pointer none)).run P w= .ok c w∧VR G (.bool (if op= .eql then r else !r)) c∧V.sc st (.bool (if op= .eql then r else !r))∧(∀p q,¬(a= .agg p∧Value.pointer none= .agg q))∧¬(a= .nilIface∧Value.pointer none= .nilIface):=
    fun h=>⟨_,h, .bool _,by simp [V.sc],O2,O2⟩
   have B:∀w,(Op.equalIn 10000 t (.pointer none) (.pointer none)).run P w= .ok true w:=fun w=>X7 9999 hd w;have j:∀q w,(Op.equalIn 10000 t (.pointer (some q)) (.pointer none)).run P w= .ok false w:=fun q w=>WV 9999 hd q w
   cases z with
   |nilp=>simp only [V.isNil]at f; cases f; exact fin (vO i B ⟨rfl,rfl⟩)
   |ptr X=>simp only [V.isNil]at f; cases f; exact fin (vO i (j _) ⟨rfl,rfl⟩)
   |eptr X=>simp only [V.isNil]at f; cases f; exact fin (vO i (j _) ⟨rfl,rfl⟩)
   |gptr=>simp only [V.isNil]at f; cases f; exact fin (vO i (j _) ⟨rfl,rfl⟩)
   |_=>simp only [V.isNil]at f; cases f
  split at h
  ·rename_i l I;cases h;exact key _ _ _ (by assumption) (Qc (by rw [<-g]; assumption)) (.inl rfl)
  ·cases h;exact key _ _ _ (by assumption) (Qc (by rw [<-g]; assumption)) (.inr rfl)
  ·cases h
 ·cases A
  have fin:∀(r:Bool) (e:TypeId) (op:BinOp),d= .slice e->op= .eql∨op= .neq->∀ {H:List (List V)} {T:Nat} {F:List V} {C:Tok},VR G (.sl T (F::H) C) a->r=(if op= .eql then false else true) ->
    ∃c,(binOp op t a (.slice none 0 0)).run P w= .ok c w∧VR G (.bool r) c∧V.sc st (.bool r)∧(∀p q,¬(a= .agg p∧Value.slice none 0 0= .agg q))∧¬(a= .nilIface∧Value.slice none 0 0= .nilIface):=by
   intro r e op s i H T F C Q f;subst s
   cases Q with
   | sl l I S=>
    rename_i b o cap;have O:∀w,(Op.equalIn 10000 t (.slice (some ⟨b,o,none⟩) (F::H).length cap) (.slice none 0 0)).run P w= .ok false w:=fun w=>Xn 9999 hd _ _ _ w;refine⟨_,vO i O ⟨rfl,rfl⟩, ?_,by simp [V.sc],O2,O2⟩;rw [f];rcases i with rfl|rfl<;>exact .bool _
  split at h
  ·rename_i l; cases h;exact fin _ _ _ (bg (by rw [<-g]; assumption)).1 (.inl rfl) z rfl
  ·rename_i l; cases h;exact fin _ _ _ (bg (by rw [<-g]; assumption)).1 (.inr rfl) z rfl
  ·cases h
 ·cases z; cases A
  have fin:∀(e:TypeId) (op:BinOp),d= .slice e->op= .eql∨op= .neq ->
    ∃c,(binOp op t (.slice none 0 0) (.slice none 0 0)).run P w= .ok c w∧VR G (.bool (if op= .eql then true else !true)) c∧V.sc st (.bool (if op= .eql then true else !true))∧(∀p q,¬(Value.slice none 0 0= .agg p∧Value.slice none 0 0= .agg q))∧¬(Value.slice none 0 0= .nilIface∧Value.slice none 0 0= .nilIface):=by
   intro e op s i;subst s;have O:∀w,(Op.equalIn 10000 t (.slice none 0 0) (.slice none 0 0)).run P w= .ok true w:=fun w=>pP 9999 hd w;exact⟨_,vO i O ⟨rfl,rfl⟩, .bool _,by simp [V.sc],O2,O2⟩
  split at h
  ·rename_i l; cases h;exact fin _ _ (bg (by rw [<-g]; assumption)).1 (.inl rfl)
  ·rename_i l; cases h;exact fin _ _ (bg (by rw [<-g]; assumption)).1 (.inr rfl)
  ·cases h
 ·cases h
def Vl {d:TypeDesc} {k:IntKind} (h:tiD P (some d)= .int k):d= .int k:=by
 cases d<;>simp only [tiD]at h<;>first|(cases h; rfl)|(cases h; done)|(split at h<;>cases h)
def Vv {d:TypeDesc} (h:tiD P (some d)= .str):d= .string:=by
 cases d<;>simp only [tiD]at h<;>first|rfl|(cases h; done)|(split at h<;>cases h)
def Z1 {t:TypeId} {d:TypeDesc} (hd:P.underlying t=some d) (a:(tiD P (some d)).leaf=true) {xs:Array Value} {off:Nat} {v:Value} (c:xs[off]? =some v) (w:World):(part t xs off).run P w= .ok v w:=by
 have b:(isAgg t).run P w= .ok false w:=by
  rw [uq hd];cases d<;>simp only [tiD]at a<;>first|rfl|(cases a; done)|(split at a<;>cases a)
 simp only [part,iB,b,iA,iT,if_false,c,iC]
def nW (n:Nat) {t:TypeId} {d:TypeDesc} (hd:P.underlying t=some d) {x y:V} {a b:Value} {r:Bool} (e:VR G x a) (f:VR G y b) (h:tt (tiD P (some d)) x y=some r) (w:World):
  (Op.equalIn (n+1) t a b).run P w= .ok r w:=by
 unfold tt at h;split at h
 ·rename_i k m i j c;split at h
  ·rename_i g; subst g;cases h;cases e; cases f;have:=Vl c; subst this;exact run_equalIn_int w n t _ _ _ _ hd
  ·cases h
 ·rename_i c;cases h;cases e; cases f;have:=Vv c; subst this;rw [run_equalIn_string w n t _ _ hd,ByteArray.toList_eq,ByteArray.toList_eq]
 ·rename_i c;cases h;cases e; cases f;have:=bP c; subst this;exact run_equalIn_bool' w n t _ _ hd
 ·cases h
def oC (n:Nat):∀(l:List Field) (k:Nat) (xs j:List V) (a e:Array Value) (r:Bool),Ko P k l=true->xs.length+k=a.size->j.length+k=e.size ->
  (∀(i:Nat) (v:V) (c:Value),xs[i]? =some v->a[k+i]? =some c->VR G v c)->(∀(i:Nat) (v:V) (c:Value),j[i]? =some v->e[k+i]? =some c->VR G v c) ->
  WU (l.map fun f=>tiD P (P.underlying f.type)) xs j=some r->∀w,(Op.eqFields (n+1) a e l).run P w= .ok r w:=by
 intro l
 induction l with
 | nil=>
  intro k xs j a e r _ _ _ _ _ h w;cases xs<;>cases j<;>simp only [List.map_nil,WU]at h<;>first|(cases h; rfl)|cases h
 | cons f l M=>
  intro k xs j a e r A p q t z h w
  cases xs with
  |nil=>simp [WU]at h
  |cons x xs=>
  cases j with
  |nil=>simp [WU]at h
  |cons y j=>
  simp only [List.map_cons,WU]at h;simp only [Ko,iF,bne_iff_ne,ne_eq,beq_iff_eq]at A;obtain⟨⟨⟨K,B⟩,g⟩,hrest⟩:=A
  cases m:P.underlying f.type with
  |none=>rw [m]at g; simp [tiD,TD.leaf]at g
  | some d=>
   rw [m]at g h;split at h
   ·rename_i b N I L;cases h;simp only [List.length_cons]at p q;have ka:a[k]? =some a[k]:=Array.getElem?_eq_getElem O0;have kb:e[k]? =some e[k]:=Array.getElem?_eq_getElem O0;have C:=Z1 (P:=P) m g (xs:=a) (off:=f.offset) (v:=a[k]) (by rw [B]; exact ka);have E:=Z1 (P:=P) m g (xs:=e) (off:=f.offset) (v:=e[k]) (by rw [B]; exact kb);have F:=nW (P:=P) (G:=G) n m (t 0 x a[k] O2 (O7 ka)) (z 0 y e[k] O2 (O7 kb)) I
    have H:=M (k+1) xs j a e N hrest O0 O0 (fun i v c s o=>t (i+1) v c (O7 s) (by rw [<-o]; congr 1; omega))
     (fun i v c s o=>z (i+1) v c (O7 s) (by rw [<-o]; congr 1; omega)) L
    simp only [Op.eqFields];rw [iI K];simp only [iB,C,E,F,iA];cases b
    ·simp [iC]
    ·simp only [Bool.not_true,iT,if_false,Bool.true_and]; exact H w
   ·cases h
def JZ (op:BinOp) {t:TypeId} {x y v:V} {a b:Value} (F:VR G x a) (H:VR G y b) (h:V7 op (ti P t).eqs x y=some v) (ox oy:Operand):
  ∃c,(do eqGuard op t ox oy a b; binOp op t a b:Sem Value).run P w= .ok c w∧VR G v c∧V.sc st v:=by
 unfold V7 at h;split at h
 ·rename_i I er z A e;have E:(ti P t).eqs=GD P t:=rfl;rw [E]at e;unfold GD at e;split at e
  ·rename_i n o;split at e
   ·rename_i g
    have hfull:(ti P t).eqs=n.toList.map fun f=>tiD P (P.underlying f.type):=by
     show GD P t=_;unfold GD; rw [o]; simp only; rw [iI g]
    obtain⟨B,q,C⟩:=g
    cases F with
    | @agg _ k la ra=>
    cases H with
    | @agg _ l lb rb=>
    have m:P.fieldsOf t=n:=by simp only [Program.fieldsOf,o]
    have s:∀r,WU (ti P t).eqs z A=some r->∀w,(Op.equalIn 10000 t (.agg k) (.agg l)).run P w= .ok r w:=by
     intro r j w;rw [run_equalIn_struct w 9999 t k l (by rw [m]; exact o) B,m];rw [hfull]at j;exact oC (P:=P) (G:=G) 9998 n.toList 0 z A k l r C (O7 la) (O7 lb) (fun i v c p g=>ra i v c p (O7 g)) (fun i v c p g=>rb i v c p (O7 g)) j w
    split at h
    ·rename_i r j;cases h;refine⟨.bool r, ?_, .bool _,by simp [V.sc]⟩;simp only [iB,run_eqGuard_agg w _ t ox oy k l q,iA,run_eql_struct,s r j]
    ·rename_i r j;cases h;refine⟨.bool (!r), ?_, .bool _,by simp [V.sc]⟩;simp only [iB,run_eqGuard_agg w _ t ox oy k l q,iA,run_neq_struct,s r j]
    ·cases h
   ·cases e
  ·cases e
 ·cases h
end
end Go.Abs
end
