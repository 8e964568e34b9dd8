/- Abstract values: a part. No condition beyond each statement's own. -/
import Derived.Test.YthfhicembdpjpaaGreatDoorA31
set_option linter.all false
section
set_option maxRecDepth 100000
namespace Go.Abs
open Go.RowKit (Below)
open Go.Shelf
section
variable {P:Program} {T:TypeId→TI} {gl:Nat→List V} {ops:Array Oper} {K:AFr→St→Prop}
def fG (T:TypeId→TI) (gl:Nat→List V) (ops:Array Oper) (i k:Nat) (x:Cfg):Option (TypeId×Nat):=atX T gl ops i k x none fun o fr1 st1=>match YC ops o fr1 with
 | true=>(match jp T gl fr1 st1 o.op with
  | some _=>(match o.op with
   | .alloc e=>some (e,st1.vars.length)
   |_=>none)
  |none=>none)
 |false=>none
theorem ef (hT:T=ti P) {i:Nat} {x:Cfg} (k:Nat) (eb:TypeId) {e:TypeId} {n:Nat} (hik:Nat.ble i k=true) (he:fG T gl ops i k x=some (e,n)) (hz:PJ P e)
  (h:y0 P gl ops (k+1) (bg (ve T gl ops i k x) (we ops k) (.ptr (n+1) 0) (fun st=>(st.push [.bbuf eb []]).push [.bobj (n+1) n e []])) K):y0 P gl ops i x K:=by
 rw [qO,pw]at h
 rw [fG,Wr]at he
 unfold y0 at h ⊢
 cases hr:bW T gl ops (seg ops i k) x.1 x.2 with
 |none=>rw [hr]at he; cases he
 | some y=>
  obtain⟨fr1,st1⟩:=y
  rw [hr]at he
  simp only at he
  cases ho:ops.toList[k]? with
  |none=>rw [ho]at he; cases he
  | some o=>
   rw [ho]at he
   simp only at he
   cases hb:YC ops o fr1 with
   |false=>rw [hb]at he; cases he
   | true=>
    rw [hb]at he
    simp only at he
    cases hx:jp T gl fr1 st1 o.op with
    |none=>rw [hx]at he; cases he
    | some z=>
     rw [hx]at he
     simp only at he
     rw [pW ho (iD hik)]
     refine gu hT _ _ _ _ _ _ hr (Xe hb ?_)
     simp only [bD,hr,Option.getD_some,we,ho]at h
     split at he
     ·rename_i e' hop
      injection he with he; injection he with he1 he2; subst he1 he2
      have hx':xY P gl fr1 st1 o.op=some z:=by rw [←kW,←hT]; exact hx
      unfold pU
      rw [hop]at hx' ⊢
      simp only
      rw [hx']
      refine .inr ?_
      unfold Kb
      exact⟨hz,eb,h⟩
     ·cases he
end
section
variable {P:Program} (w:World)
theorem BL (t u ty e:TypeId) (i:TypeInfo) (ht:P.underlying t=some (.slice e)) (hu:P.underlying u=some .string) (hi:P.info? e=some i) (hz:i.zero=some (.int .u8 0)) (hsize:i.size=1) (hby:i.bytes=1)
  (v:Value) (n:Nat) (xs:List Value) (hown:w.ownsRow 0 e 1 v n xs) (s:ByteArray) (h63:n+s.size≤maxLen) (hbytes:n+s.size≤140737488355328) {v':Value} {w':World}
  (hr:(Builtin.append_ #[t,u] ty #[v, .string s]).run P w= .ok v' w') {g:Nat} (hg:v'.ownBlock=some g):v.ownBlock=some g∨w.heap.size≤g:=by
 rcases hown.2 with⟨rfl,rfl⟩|⟨g0,cap,cur,rfl,hbg,hg0,hnc,hcm,hcs,htake⟩
 ·obtain ⟨v2,w2,hr2,h2,_⟩:=Lib.run_append_own_string (P:=P) w w.heap.size t u ty e i ht hu hi hz hsize hby (.slice none 0 0) 0 xs ⟨hown.1, .inl ⟨rfl,rfl⟩⟩ s h63 hbytes (Nat.le_refl _)
  rw [hr]at hr2; injection hr2 with e1 e2; subst e1 e2
  rcases h2.2 with⟨rfl,_⟩|⟨g2,cap,cur,rfl,hb,_⟩
  ·simp [Value.ownBlock]at hg
  ·simp only [Value.ownBlock,Option.some.injEq]at hg
   subst hg; exact .inr hb
 ·have hsmall:n+s.size≤9223372036854775807:=by simp only [maxLen]at h63; omega
  have hxl:xs.length=n:=by simpa using hown.1
  have hcs':cur.size=cap:=by simpa using hcs
  by_cases hroom:n+s.size≤cap
  ·have hr2:=Lib.run_append_room_string (P:=P) w t u ty e i ht hu hi hsize g0 n cap cur hg0 s hroom O0
   rw [hr]at hr2; injection hr2 with e1 e2; subst e1
   exact .inl hg
  ·have hr2:=Lib.run_append_grow_string (P:=P) w t u ty e i (.int .u8 0) ht hu hi hz ⟨g0,0,none⟩ n cap xs (by rw [hsize]; simpa using hxl) (hown.cells (g:=g0) rfl) s O0 O0 (by rw [hby]; exact growslice_fits O0 O0)
   rw [hr]at hr2; injection hr2 with e1 e2; subst e1
   simp only [Value.ownBlock,Option.some.injEq]at hg
   subst hg; exact .inr (Nat.le_refl _)
theorem Dr {ops:Array Oper} {rest:List Oper} {o:Oper} {a:Act} {Q:Exit→Act→World→Prop} (hgd:o.guard=none) (sl x:Operand) (t u:TypeId)
  (ho:o.op= .call {callee:= .builtin .append,args:= #[sl,x],argTypes:= #[t,u]}) (e:TypeId) (i:TypeInfo) (ht:P.underlying t=some (.slice e)) (hu:P.underlying u=some .string) (hi:P.info? e=some i) (hz:i.zero=some (.int .u8 0))
  (hsize:i.size=1) (hby:i.bytes=1) (v:Value) (n:Nat) (xs:List Value) (hs:a.eval sl=v) (hown:w.ownsRow 0 e 1 v n xs) (s:ByteArray) (hx:a.eval x= .string s)
  (h63:n+s.size≤maxLen) (hbytes:n+s.size≤140737488355328)
  (h:∀v' w',w'.ownsRow 0 e 1 v' (n+s.size) (xs++Lib.strCells s)→w.grownBy w' v.ownBlock→(v'= .slice none 0 0↔v= .slice none 0 0∧s.size=0)→(∀g,v'.ownBlock=some g→v.ownBlock=some g∨w.heap.size≤g) →
   wpList P ops Q rest (a.put o.dst v') w'):wpList P ops Q (o::rest) a w:=by
 refine wpList_plain hgd fun K hK=> ?_
 obtain⟨v',w',hr,h2,h3,h4⟩:=Lib.run_append_own_string (P:=P) w 0 t u o.type e i ht hu hi hz hsize hby v n xs hown s h63 hbytes (Nat.zero_le _)
 have h5:=fun g hg=>BL (P:=P) w t u o.type e i ht hu hi hz hsize hby v n xs hown s h63 hbytes hr (g:=g) hg
 unfold Oper.wp execOp
 simp only [ho,resolve,invoke,builtin,iB,iC,iA,List.map_toArray,List.map_cons,List.map_nil,hs,hx,hr]
 exact hK _ _ (h v' w' h2 h3 h4 h5)
end
section
open Go.Proofs
variable {P:Program} {ρ:Shelf.Ren}
structure cw (b:Nat) (T e:TypeId) (v:Value) (bs new:List Value) (w w':World) (v':Value):Prop where
 blk:w'.heap[b]? =some (.cells #[.pointer (some ⟨b,0,none⟩),v'] T (0,0))
 own:w'.ownsRow 0 e 1 v' (bs.length+new.length) (bs++new)
 nil:v'= .slice none 0 0→new.length=0
 at_:∀g,v'.ownBlock=some g→g≠b∧(v.ownBlock=some g∨w.heap.size≤g)
 os:w'.os=w.os
 tape:w'.tape=w.tape
 output:w'.output=w.output
 size:w.heap.size≤w'.heap.size
 other:∀k,k<w.heap.size→k≠b→v.ownBlock≠some k→w'.heap[k]? =w.heap[k]?
def BU (P:Program) (f:FuncId) (T e:TypeId):Prop:=∀(b:Nat) (p v:Value) (bs:List Value) (s:ByteArray) (w:World),(p= .pointer none∨p= .pointer (some ⟨b,0,none⟩)) →
  w.heap[b]? =some (.cells #[p,v] T (0,0))→w.ownsRow 0 e 1 v bs.length bs→v.ownBlock≠some b→bs.length+s.size≤140737488355328 →
  Calls P f #[.pointer (some ⟨b,0,none⟩), .string s] w fun en w'=>en= .returned (.tuple #[.int .i64 s.size, .nilIface])∧∃v',cw b T e v bs (Lib.strCells s) w w' v'
set_option maxHeartbeats 1000000 in
theorem Bm (L:Lays.n169 P ρ) (X:Builder.Extra P ρ) (b:Nat) (p v:Value) (l:List UInt8) (w:World) (hbk:w.heap[b]? =some (.cells #[p,v] (ρ.t 72) (0,0))) (hown:w.ownsRow 0 (ρ.t 5) 1 v l.length (Lib.byteCells l)) (h0:l≠ []):
  Calls P (ρ.f 169) #[.pointer (some ⟨b,0,none⟩)] w fun e w'=>e= .returned (.string ⟨l.toArray⟩)∧∃g,v.ownBlock=some g∧w'=w.drew.freeze ⟨g,0,none⟩ l.length:=by
 have hl0:l.length≠0:=by simpa using h0
 obtain ⟨g,cap,cur,rfl,hg,hnc,hcm,hcs,htake⟩:∃g cap cur,v= .slice (some ⟨g,0,none⟩) l.length cap∧w.heap[g]? =some (.cells cur (ρ.t 5) (0,0))∧l.length≤cap∧cap≤maxLen∧cur.size=cap*1∧cur.toList.take (l.length*1)=Lib.byteCells l:=by
  rcases hown.2 with⟨_,hz⟩|⟨g,cap,cur,hv,_,r⟩
  ·exact absurd hz hl0
  ·exact⟨g,cap,cur,hv,r⟩
 have c1:w.drew.cell? ⟨b,1,none⟩=some (.slice (some ⟨g,0,none⟩) l.length cap):=by
  have:w.drew.heap[b]? =some (.cells #[p, .slice (some ⟨g,0,none⟩) l.length cap] (ρ.t 72) (0,0)):=hbk
  rw [Lib.cell_of_heap this]; rfl
 have hSD:(Builtin.unsafeSliceData_ #[(ρ.t 37)] (ρ.t 127) #[.slice (some ⟨g,0,none⟩) l.length cap]).run P w.drew= .ok (.pointer (some ⟨g,0,none⟩)) w.drew:=
  Lib.run_unsafeSliceData_row _ _ _ _ _ _ O0
 have hUS:(Builtin.unsafeString_ #[(ρ.t 127),(ρ.t 3)] (ρ.t 9) #[.pointer (some ⟨g,0,none⟩), .int .i64 l.length]).run P w.drew= .ok (.string ⟨l.toArray⟩) (w.drew.freeze ⟨g,0,none⟩ l.length):=by
  refine Lib.run_unsafeString_row w.drew (ρ.t 127) (ρ.t 3) (ρ.t 9) (ρ.t 5) L.t127 X.cellsByte g cur.size (by have hg':w.drew.heap[g]? =some (.cells cur (ρ.t 5) (0,0)):=hg; simp [World.shape?,hg']) l h0 O0 (by unfold maxLen at hcm; omega) ?_
  intro j x hx
  have:=hown.cells (g:=g) rfl j (.int .u8 x.toNat) (by simp [Lib.byteCells,hx])
  exact this
 have mixed:=L.mixed
 have t72:=L.t72; have a72:=L.a72; have z72:=L.z72; have v72:=L.v72; have u72:=run_underlying L.t72
 have t70:=L.t70; have a70:=L.a70; have z70:=L.z70; have v70:=L.v70; have u70:=run_underlying L.t70
 have t37:=L.t37; have a37:=L.a37; have z37:=L.z37; have v37:=L.v37; have u37:=run_underlying L.t37
 have t127:=L.t127; have a127:=L.a127; have z127:=L.z127; have v127:=L.v127; have u127:=run_underlying L.t127
 have t3:=L.t3; have a3:=L.a3; have z3:=L.z3; have v3:=L.v3; have u3:=run_underlying L.t3
 have t9:=L.t9; have a9:=L.a9; have z9:=L.z9; have v9:=L.v9; have u9:=run_underlying L.t9
 have t5:=X.t5; have a5:=X.a5; have z5:=X.z5; have v5:=X.v5; have u5:=run_underlying X.t5
 go_enter L.f169,Body.n169_ntmps ρ
 go_wp2
 go_region_o
 all_goals (go_wp2; go_ret; exact⟨rfl,g,rfl,rfl⟩)
end
end Go.Abs
end
section
set_option maxRecDepth 100000
namespace Go.Abs
open Go.RowKit (Below)
open Go.Shelf Go.Proofs
section
variable {P:Program} {ρ:Shelf.Ren} {gl:Nat→List V} {w0:qQ} {G:Gh} {st:St} {w:World}
theorem Rel.bldOf {T e:TypeId} {s:List UInt8} {c1:List V} (hc:s≠ []→c1= [.bbuf e s]) (h:Rel gl w0 G ⟨[[.bobj 0 1 T s],c1],[]⟩ w):
  ∃ b p v,G.var 0=some b∧w0.mine b∧(∀i,G.imm b i=none)∧(p= .pointer none∨p= .pointer (some ⟨b,0,none⟩))∧w.heap[b]? =some (.cells #[p,v] T (0,0))∧w.ownsRow 0 e 1 v s.length (Lib.byteCells s) ∧
   (s= []→v= .slice none 0 0)∧∀g,v.ownBlock=some g→g≠b∧w0.mine g∧(∀i,G.imm g i=none):=by
 obtain⟨b,o,h1,h2,h3,h4,h5⟩:=h.vars 0 _ rfl rfl
 generalize G.room 0=r0 at h4
 cases h4 with
 | cells k1 k2 k3=>
  rename_i C el
  exfalso
  have:0<C.size:=by simp at k1; omega
  have:=k2 0 (.bobj 0 1 T s) C[0] rfl (by simp [this])
  cases this
 | bobj k1 k2=>
  rename_i p v
  refine⟨b,p,v,h1,h2,h5,k1.imp id ?_,h3, ?_⟩
  ·rintro⟨b',q1,q2⟩
   rw [h1]at q1; injection q1 with q1; subst q1; exact q2
  ·rcases k2 with⟨rfl,rfl⟩|⟨hs,g,q1,rfl⟩
   ·exact⟨World.ownsRow_nil w 0 e 1,fun _=>rfl,fun g hg=>by simp [Value.ownBlock]at hg⟩
   ·obtain rfl:=hc hs
    have hgn:V.gone [V.bbuf e s]=false:=by cases s with|nil=>exact absurd rfl hs|cons x r=>rfl
    obtain⟨g',o',m1,m2,m3,m4,m5⟩:=h.vars 1 _ rfl hgn
    rw [q1]at m1; injection m1 with m1; subst m1
    have hgb:g≠b:=by
     rintro rfl
     have:=h.disj 0 1 g _ _ rfl rfl rfl hgn h1 q1
     cases this
    generalize hr1:G.room 1=r1 at m4 ⊢
    cases m4 with
    | cells a1 a2 a3=>
     rename_i C el
     exfalso
     have:0<C.size:=by simp at a1; omega
     have:=a2 0 (.bbuf e s) C[0] rfl (by simp [this])
     cases this
    | bbuf a1 a2 a3 a4 a5=>
     rename_i C
     refine⟨⟨by simp [Lib.byteCells_length], .inr ⟨g,r1,C,rfl,Nat.zero_le _,m3,a3,a4,by simpa using a2,by simpa [Lib.byteCells] using a5⟩⟩,fun e=>absurd e hs,fun g' hg'=> ?_⟩
     simp only [Value.ownBlock,Option.some.injEq]at hg'
     subst hg'
     exact⟨hgb,m2,m5⟩
theorem DP {c:Array Value} {id:Nat} (h:VRs G [.ptr id 0] c):∃b,G.var id=some b∧c= #[.pointer (some ⟨b,0,none⟩)]:=by
 obtain⟨l⟩:=c
 match l,h with
 | [],h=>exact absurd h.1 O2
 | [x],h=>
  have:=h.2 0 _ x rfl rfl
  cases this with
  |ptr hb=>exact⟨_,hb,rfl⟩
 |_::_::_,h=>exact absurd h.1 O2
theorem QS {c:Array Value} {id:Nat} {x:List UInt8} (h:VRs G [.ptr id 0, .str x] c):∃b,G.var id=some b∧c= #[.pointer (some ⟨b,0,none⟩), .string ⟨x.toArray⟩]:=by
 obtain⟨l⟩:=c
 match l,h with
 | [],h=>exact absurd h.1 O2
 | [_],h=>exact absurd h.1 O2
 | [y,z],h=>
  have h0:VR G (.ptr id 0) y:=h.2 0 _ y rfl rfl
  have h1:VR G (.str x) z:=h.2 1 _ z rfl rfl
  clear h
  cases h0 with
  | ptr hb=>
   cases h1
   rename_i s'
   obtain⟨⟨l⟩⟩:=s'
   exact⟨_,hb,rfl⟩
 |_::_::_::_,h=>exact absurd h.1 O2
theorem fT {f:FuncId} {T e:TypeId} (hws:BU P f T e) (hok:YL P f=true) {s x:List UInt8} (hx:x≠ []) (hlen:s.length+x.length≤140737488355328):
  wn P gl f [.ptr 0 0, .str x] ⟨[[.bobj 0 1 T s],[.bbuf e s]],[]⟩
   (Out (.tuple [.int .i64 x.length, .niliface]) ⟨[[.bobj 0 2 T (s++x)],[],[.bbuf e (s++x)]],[]⟩):=by
 refine⟨hok,fun w0 G w cargs hr hv hs=> ?_⟩
 obtain⟨b,hb,rfl⟩:=QS hv
 obtain⟨b',p,v,h1,h2,h3,h4,h5,h6,h7,h8⟩:=hr.bldOf fun _=>rfl
 rw [hb]at h1; injection h1 with h1; subst h1
 have hne:v.ownBlock≠some b:=fun e=>(h8 b e).1 rfl
 have hbl:(Lib.byteCells s).length=s.length:=Lib.byteCells_length s
 refine(hws b p v (Lib.byteCells s) ⟨x.toArray⟩ w h4 h5 (by rw [hbl]; exact h6) hne (by rw [hbl]; exact hlen)).mono ?_
 rintro en w' ⟨rfl,v',W⟩
 have hsc:Lib.strCells ⟨x.toArray⟩=Lib.byteCells x:=rfl
 have hown:=W.own
 rw [hsc,←Lib.byteCells_append,hbl,Lib.byteCells_length]at hown
 have hnn:s++x≠ []:=fun e=>hx (List.append_eq_nil_iff.1 e).2
 obtain ⟨g,cap,cur,rfl, -,hg,hnc,hcm,hcs,htake⟩:∃g cap cur,v'= .slice (some ⟨g,0,none⟩) (s.length+x.length) cap∧0≤g∧w'.heap[g]? =some (.cells cur e (0,0))∧s.length+x.length≤cap∧cap≤maxLen∧cur.size=cap*1 ∧
   cur.toList.take ((s.length+x.length)*1)=Lib.byteCells (s++x):=by
  rcases hown.2 with⟨_,hz⟩|hq
  ·exfalso; apply hx; exact List.eq_nil_of_length_eq_zero O0
  ·exact hq
 obtain⟨hgb,hgw⟩:=W.at_ g rfl
 have hgm:w0.mine g∧∀i,G.imm g i=none:=by
  rcases hgw with hq|hq
  ·exact(h8 g hq).2
  ·refine⟨.inl (Nat.le_trans hr.below.size hq),fun i=> ?_⟩
   cases hi:G.imm g i with
   |none=>rfl
   |some u=>exact absurd (hr.imm_lt hi) O0
 have hlen2:(s++x).length=s.length+x.length:=O2
 have hgs:g<w'.heap.size:=qA hg
 let G':Gh:={G with var:=fun k=>if k=2 then some g else G.var k,room:=fun k=>if k=2 then cap else G.room k}
 have hx':Ext ⟨[[.bobj 0 1 T s],[.bbuf e s]],[]⟩ G G':=by
  refine⟨fun _ _ _ h=>h,fun id hid=> ?_,fun _ _ _ h=>by simp at h,fun id hid=> ?_⟩
  ·simp only [List.length_cons,List.length_nil]at hid
   show(if id=2 then _ else _)=_
   rw [if_neg O0]
  ·simp only [List.length_cons,List.length_nil]at hid
   show(if id=2 then _ else _)=_
   rw [if_neg O0]
 have v0:G'.var 0=some b:=hb
 have v2:G'.var 2=some g:=rfl
 have hvar:∀(id:Nat) (c:List V),(⟨[[.bobj 0 2 T (s++x)],[],[.bbuf e (s++x)]],[]⟩:St).vars[id]? =some c→V.gone c=false→(id=0∧c= [.bobj 0 2 T (s++x)])∨(id=2∧c= [.bbuf e (s++x)]):=by
  intro id c hc hn
  match id with
  |0=>simp at hc; exact .inl ⟨rfl,hc.symm⟩
  |1=>simp at hc; subst hc; cases hn
  |2=>simp at hc; exact .inr ⟨rfl,hc.symm⟩
  |k+3=>simp at hc
 have hkeep:∀k,k<w.heap.size→¬w0.mine k→w'.heap[k]? =w.heap[k]? :=fun k hk hm=>W.other k hk (fun e=>hm (e▸h2)) (fun e=>hm (h8 k e).2.1)
 refine⟨_,_,_,G',rfl,⟨rfl,rfl⟩, ?_,by simp [V.sc,V.scs], ?_,hx',⟨O2,fun t p h=>by simp at h⟩⟩
 ·refine .tuple rfl fun i u c hu hc=> ?_
  match i with
  |0=>simp at hu hc; subst hu hc; exact .int _ _
  |1=>simp at hu hc; subst hu hc; exact .niliface
  |k+2=>simp at hu
 ·exact {
   below:=hr.below.step W.os W.tape W.output W.size hkeep
   vars:=fun id c hc hn=>by
    rcases hvar id c hc hn with⟨rfl,rfl⟩|⟨rfl,rfl⟩
    ·exact⟨b,_,v0,h2,W.blk, .bobj (.inr ⟨b,v0,rfl⟩) (.inr ⟨hnn,g,v2,by rw [hlen2]; rfl⟩),h3⟩
    ·exact⟨g,_,v2,hgm.1,hg, .bbuf hnn (by show cur.size=cap; simpa using hcs) (by rw [hlen2]; exact hnc) hcm (by rw [hlen2]; rw [Nat.mul_one]at htake; exact htake),hgm.2⟩
   varlt:=fun id b' hid hb'=>by
    simp only [List.length_cons,List.length_nil]at hid
    by_cases e:id=2
    ·subst e
     rw [v2]at hb'; injection hb' with hb'; subst hb'; exact hgs
    ·have e1:G'.var id=G.var id:=if_neg e
     rw [e1]at hb'
     exact Nat.lt_of_lt_of_le (hr.varlt id b' O3 hb') W.size
   sc:=fun id c hc=>by
    match id with
    |0=>simp at hc; subst hc; simp [V.scs,V.sc]
    |1=>simp at hc; subst hc; simp [V.scs]
    |2=>simp at hc; subst hc; simp [V.scs,V.sc]
    |k+3=>simp at hc
   disj:=fun i j c ci cj hi hni hj hnj e1 e2=>by
    rcases hvar i ci hi hni with⟨rfl,rfl⟩|⟨rfl,rfl⟩<;>rcases hvar j cj hj hnj with⟨rfl,rfl⟩|⟨rfl,rfl⟩
    ·rfl
    ·rw [v0]at e1; rw [v2]at e2; injection e1 with e1; injection e2 with e2; exact absurd (e2.trans e1.symm) hgb
    ·rw [v2]at e1; rw [v0]at e2; injection e1 with e1; injection e2 with e2; exact absurd (e1.trans e2.symm) hgb
    ·rfl
   imm:=fun b' i u hu=>by
    obtain⟨q1,c,q2,q3⟩:=hr.imm b' i u hu
    refine⟨q1,c, ?_,VR.pure_ext (G:=G) (G':=G') (fun _ _ _ h=>h) q3 (V.pure_of_pcell q1)⟩
    rw [gx (W.other b' (Vv q2) (fun e=>by subst e; rw [h3]at hu; cases hu) (fun e=>by have:=(h8 b' e).2.2 i; rw [this]at hu; cases hu))]
    exact q2
   fam:=fun t p b' e lim ht=>by simp at ht
   famdisj:=fun t t' p p' b' e l e' l' ht=>by simp at ht
   glob:=hr.glob
   gfix:=hr.gfix
   old:=hr.old}
theorem XO.goneRel {s:List UInt8} {c1:List V} (h:Rel gl w0 G ⟨[[.bobj 0 1 (ρ.t 72) s],c1],[]⟩ w) {w':World} (ho:w'.os=w.os) (ht:w'.tape=w.tape) (hp:w'.output=w.output) (hs:w.heap.size≤w'.heap.size)
  (hk:∀k,k<w.heap.size→¬w0.mine k→w'.heap[k]? =w.heap[k]?) (hi:∀b i u,G.imm b i=some u→w'.heap[b]? =w.heap[b]?):Rel gl w0 G ⟨[[],[]],[]⟩ w' where
 below:=h.below.step ho ht hp hs hk
 vars:=fun id c hc hn=>by
  match id with
  |0=>simp at hc; subst hc; cases hn
  |1=>simp at hc; subst hc; cases hn
  |k+2=>simp at hc
 varlt:=fun id b hid hb=>Nat.lt_of_lt_of_le (h.varlt id b (O7 hid) hb) hs
 sc:=fun id c hc=>by
  match id with
  |0=>simp at hc; subst hc; simp [V.scs]
  |1=>simp at hc; subst hc; simp [V.scs]
  |k+2=>simp at hc
 disj:=fun i j c ci cj hi hni=>by
  match i with
  |0=>simp at hi; subst hi; cases hni
  |1=>simp at hi; subst hi; cases hni
  |k+2=>simp at hi
 imm:=fun b i u hu=>by
  obtain⟨q1,c,q2,q3⟩:=h.imm b i u hu
  exact⟨q1,c,by rw [gx (hi b i u hu)]; exact q2,q3⟩
 fam:=fun t p b' e lim ht=>by simp at ht
 famdisj:=fun t t' p p' b' e l e' l' ht=>by simp at ht
 glob:=h.glob
 gfix:=h.gfix
 old:=h.old
theorem eU (L:Lays.n169 P ρ) (X:Builder.Extra P ρ) (hok:YL P (ρ.f 169)=true) {s:List UInt8}:
  wn P gl (ρ.f 169) [.ptr 0 0] ⟨[[.bobj 0 1 (ρ.t 72) s],[.bbuf (ρ.t 5) s]],[]⟩ (Out (.str s) ⟨[[],[]],[]⟩):=by
 refine⟨hok,fun w0 G w cargs hr hv hs=> ?_⟩
 obtain⟨b,hb,rfl⟩:=DP hv
 obtain⟨b',p,v,h1,h2,h3,h4,h5,h6,h7,h8⟩:=hr.bldOf fun _=>rfl
 rw [hb]at h1; injection h1 with h1; subst h1
 have hx:∀G:Gh,Ext ⟨[[.bobj 0 1 (ρ.t 72) s],[.bbuf (ρ.t 5) s]],[]⟩ G G:=fun G=> .refl _ _
 have hle:(⟨[[.bobj 0 1 (ρ.t 72) s],[.bbuf (ρ.t 5) s]],[]⟩:St).le ⟨[[],[]],[]⟩:=⟨O2,fun t p h=>by simp at h⟩
 by_cases h0:s= []
 ·subst h0
  obtain rfl:=h7 rfl
  refine(Any.Builder_String_nil L X w.heap.size b p w h5).mono ?_
  rintro en w' ⟨rfl,hB⟩
  exact⟨_,_,_,G,rfl,⟨rfl,rfl⟩, .str ⟨#[]⟩,by simp [V.sc],XO.goneRel (ρ:=ρ) hr hB.os hB.tape hB.output hB.size (fun k hk _=>hB.block k hk) (fun b i u hu=>hB.block b (hr.imm_lt hu)),hx G,hle⟩
 ·refine (Bm L X b p v s w h5 h6 h0).mono ?_
  rintro en w' ⟨rfl,g,hg,rfl⟩
  obtain⟨q1,q2,q3⟩:=h8 g hg
  have hoth:∀k,k≠g→(w.drew.freeze ⟨g,0,none⟩ s.length).heap[k]? =w.heap[k]? :=fun k hk=>by
   unfold World.freeze
   split
   ·rfl
   ·show(w.heap.modify _ _)[k]? =_
    rw [Array.getElem?_modify,if_neg (Ne.symm hk)]
  have hsz:(w.drew.freeze ⟨g,0,none⟩ s.length).heap.size=w.heap.size:=by
   unfold World.freeze
   split
   ·rfl
   ·show(w.heap.modify _ _).size=_
    exact Array.size_modify
  refine⟨_,_,_,G,rfl,⟨rfl,rfl⟩, .str ⟨s.toArray⟩,by simp [V.sc],XO.goneRel (ρ:=ρ) hr ?_ ?_ ?_ (Nat.le_of_eq hsz.symm) (fun k hk hm=>hoth k (fun e=>hm (e▸q2))) (fun b' i u hu=>hoth b' (fun e=>by subst e; rw [q3]at hu; cases hu)),hx G,hle⟩
  all_goals (unfold World.freeze; split<;>rfl)
end
end Go.Abs
end
