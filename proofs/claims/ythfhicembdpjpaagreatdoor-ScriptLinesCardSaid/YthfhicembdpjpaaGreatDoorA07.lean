/- Abstract values: a part. No condition beyond each statement's own. -/
import Derived.Test.YthfhicembdpjpaaGreatDoorA06
set_option linter.all false
section
namespace Go.Abs
open Go.RowKit (Below)
section
variable {P:Program} {gl:Nat→List V} {w0:qQ} {G:Gh} {st:St} {w:World}
theorem DQ {op:UnOp} {x v:V} {a:Value} (hx:VR G x a) (h:aun op x=some v):∃c,(Op.unary op a).run P w= .ok c w∧VR G v c∧V.sc st v:=by
 unfold aun at h
 split at h
 ·cases hx; injection h with h; subst h
  exact⟨_,by simp [Op.unary,Op.intArith], .int _ _,by simp [V.sc]⟩
 ·cases hx
  simpa [Op.unary] using Z1 (P:=P) (w:=w) (G:=G) (st:=st) h
 ·cases hx; injection h with h; subst h
  exact⟨_,by simp [Op.unary], .bool _,by simp [V.sc]⟩
 ·cases h
theorem G6 {d:TypeDesc} {n sz:Nat} (h:tiD P (some d)= .arr n sz):∃e i,d= .array n e∧P.info? e=some i∧sz=i.size:=by
  cases d <;> simp only [tiD]at h<;>first
    |(cases h; done)
    | (split at h
       · rename_i hh
         obtain⟨i,hi⟩:=Option.isSome_iff_exists.1 hh
         injection h with h1 h2; subst h1 h2
         exact⟨_,i,rfl,hi,by simp [Program.cellsOf,hi]⟩
       · cases h)
    |(split at h<;>cases h)
theorem Q3 {d:TypeDesc} {fs:List (Nat×Nat)} (h:tiD P (some d)= .struct fs):∃fields,d= .struct fields∧fs=fields.toList.map (fun f=>(f.offset,P.cellsOf f.type))∧∀f∈fields.toList,(P.info? f.type).isSome=true:=by
  cases d <;> simp only [tiD]at h<;>first
    |(cases h; done)
    | (split at h
       · rename_i hh
         injection h with h1; subst h1
         exact⟨_,rfl,rfl,List.all_eq_true.1 hh⟩
       · cases h)
    |(split at h<;>cases h)
theorem Ju {t:TypeId} {x:TD} (h:(ti P t).d=x) (hx:x≠ .other):∃d,P.underlying t=some d∧tiD P (some d)=x:=by
 simp only [ti]at h
 cases hd:P.underlying t with
 |none=>rw [hd]at h; exact absurd h.symm hx
 |some d=>rw [hd]at h; exact⟨d,rfl,h⟩
theorem xM {t e:TypeId} {sz by_:Nat} (h:(ti P t).d= .slice e sz by_):P.underlying t=some (.slice e)∧∃i,P.info? e=some i∧sz=i.size∧by_=i.bytes:=by
 obtain⟨d,hd,hx⟩:=Ju h O2
 obtain⟨h1,h2⟩:=Z0 hx
 exact⟨h1▸hd,h2⟩
theorem ZF {t:TypeId} {k:IntKind} (h:(ti P t).d= .int k):P.underlying t=some (.int k):=by
 obtain⟨d,hd,hx⟩:=Ju h O2
 exact KQ hx▸hd
theorem br {t:TypeId} (h:(ti P t).d= .str):P.underlying t=some .string:=by
 obtain⟨d,hd,hx⟩:=Ju h O2
 exact Ba hx▸hd
theorem UW {t:TypeId} {n sz:Nat} (h:(ti P t).d= .arr n sz):∃e i,P.underlying t=some (.array n e)∧P.info? e=some i∧sz=i.size:=by
 obtain⟨d,hd,hx⟩:=Ju h O2
 obtain⟨e,i,h1,h2⟩:=G6 hx
 exact⟨e,i,h1▸hd,h2⟩
theorem WK {t:TypeId} {fs:List (Nat×Nat)} (h:(ti P t).d= .struct fs):∃fields,P.underlying t=some (.struct fields)∧fs=fields.toList.map (fun f=>(f.offset,P.cellsOf f.type))∧∀f∈fields.toList,(P.info? f.type).isSome=true:=by
 obtain⟨d,hd,hx⟩:=Ju h O2
 obtain⟨fields,h1,h2⟩:=Q3 hx
 exact⟨fields,h1▸hd,h2⟩
theorem p7 {b o sz:Nat} {es:List (List V)} (hsz:∀e∈es,e.length=sz) (himm:∀(i:Nat) (v:V),es.flatten[i]? =some v→G.imm b (o+i)=some v):bo G b o sz es:=by
 induction es generalizing o with
 |nil=>intro i e he; simp at he
 | cons e0 r ih=>
  intro i e he
  cases i with
  | zero=>
   simp at he; subst he
   refine⟨hsz e0 O2, ?_⟩
   intro j v hv
   have:=himm j v (by
    have hj:j<e0.length:=by
     rcases Nat.lt_or_ge j e0.length with h'|h'
     ·exact h'
     ·rw [List.getElem?_eq_none h']at hv; cases hv
    rw [List.flatten_cons,List.getElem?_append_left hj]; exact hv)
   exact .of (O7 this)
  | succ i=>
   have h0:e0.length=sz:=hsz e0 O2
   have:=ih (o:=o+sz) (fun e he=>hsz e (List.mem_cons_of_mem _ he)) (by
    intro i v hv
    have:=himm (sz+i) v (by rw [List.flatten_cons,List.getElem?_append_right O0,h0]; simpa using hv)
    rw [Nat.add_assoc]; exact this) i e (O7 he)
   refine⟨this.1, ?_⟩
   intro j v hv
   have:=this.2 j v hv
   rw [show o+(i+1)*sz+j=o+sz+i*sz+j by rw [Nat.add_mul]; omega]
   exact this
theorem XM {b o sz:Nat} {es:List (List V)} (h:bo G b o sz es):(∀e∈es,e.length=sz)∧∀(i:Nat) (v:V),es.flatten[i]? =some v→G.Im b (o+i) v:=by
 refine⟨?_, ?_⟩
 ·intro e he
  obtain⟨i,hi⟩:=List.getElem?_of_mem he
  exact(h i e hi).1
 ·induction es generalizing o with
  |nil=>intro i v hv; simp at hv
  | cons e0 r ih=>
   intro i v hv
   have h0:=h 0 e0 O2
   rw [List.flatten_cons]at hv
   rcases Nat.lt_or_ge i e0.length with hi|hi
   ·rw [List.getElem?_append_left hi]at hv
    simpa using h0.2 i v hv
   ·rw [List.getElem?_append_right hi]at hv
    have:=ih (o:=o+sz) (by
     intro i e he
     have:=h (i+1) e (O7 he)
     rw [show o+(i+1)*sz=o+sz+i*sz by rw [Nat.add_mul]; omega]at this
     exact this) (i-e0.length) v hv
    rw [h0.1]at this
    rw [show o+i=o+sz+(i-sz)by rw [h0.1]at hi; omega]
    exact this
theorem vm {sz:Nat} {es:List (List V)} (h:∀e∈es,e.length=sz):es.flatten.length=es.length*sz:=by
 induction es with
 |nil=>simp
 | cons e r ih=>
  simp only [List.flatten_cons,List.length_append,List.length_cons,h e O2,ih (fun e he=>h e (List.mem_cons_of_mem _ he))]
  rw [Nat.add_mul]; omega
theorem W1 (s:List UInt8):∀e∈qB s,e.length=1:=by
 intro e he
 obtain⟨b,_,rfl⟩:=List.mem_map.1 he
 rfl
theorem Ye (s:List UInt8):(qB s).flatten=s.map fun b=> .int .u8 b.toNat:=by
 induction s with
 |nil=>rfl
 |cons b r ih=>simp only [qB,List.map_cons,List.flatten_cons]at *; rw [ih]; rfl
theorem YJ (w:World) (src e:TypeId) (hs:P.underlying src=some (.slice e)) (he:P.underlying e=some (.int .u8)) (a:Addr):
  ∀dst,P.underlying dst=some .string→(convert src dst (.slice (some a) 0 0)).run P w= .ok (.string ByteArray.empty) w:=by
 intro dst hd
 have hl:(loadCells a 0).run P w= .ok (([]:List Int).map (Value.int .u8)).toArray w:=by
  simpa using run_loadCells_list (P:=P) w a [] (fun j v hj=>by simp at hj)
 rw [run_convert_bytes_string w src dst e _ 0 0 hs he hd,run_bytesToString w _ 0 0 [] hl]
 rfl
theorem Us {b o:Nat} {es:List (List V)} {bs:List UInt8} (h:Rel gl w0 G st w) (hr:bo G b o 1 es) (hb:bB es=some bs):
  ∃ns:List Int,ns.length=es.length∧bs=ns.map (fun n=>UInt8.ofNat n.toNat)∧∀i,i<es.length→w.cell? ⟨b,o+i,none⟩=some (.int .u8 (ns.getD i 0)):=by
 induction es generalizing o bs with
 |nil=>simp only [bB]at hb; injection hb with hb; subst hb; exact⟨[],rfl,rfl,fun i hi=>by simp at hi⟩
 | cons e r ih=>
  simp only [bB]at hb
  split at hb
  ·rename_i x y h1 h2
   injection hb with hb; subst hb
   obtain ⟨ns,n1,n2,n3⟩:=ih (o:=o+1) (fun i e he=>by
    have:=hr (i+1) e (O7 he)
    rw [show o+(i+1)*1=o+1+i*1 by omega]at this
    exact this) h2
   unfold Kc at h1
   split at h1
   ·rename_i n
    injection h1 with h1; subst h1
    refine⟨n::ns,by simp [n1],by simp [n2], ?_⟩
    intro i hi
    cases i with
    | zero=>
     have:=(hr 0 _ rfl).2 0 _ rfl
     obtain⟨_,c,hc,hv⟩:=h.im this
     cases hv
     simpa using hc
    | succ i=>
     have:=n3 i (O7 hi)
     rw [show o+(i+1)=o+1+i by omega,this]
     rfl
   ·cases h1
  ·cases hb
theorem YD {b o:Nat} {cs:List V} {bs:List UInt8} (hc:∀(i:Nat) (v:V),cs[i]? =some v→∃c,w.cell? ⟨b,o+i,none⟩=some c∧VR G v c) (hb:k7 cs=some bs):
  ∃ns:List Int,ns.length=cs.length∧bs=ns.map (fun n=>UInt8.ofNat n.toNat)∧∀i,i<cs.length→w.cell? ⟨b,o+i,none⟩=some (.int .u8 (ns.getD i 0)):=by
 induction cs generalizing o bs with
 |nil=>simp only [k7]at hb; injection hb with hb; subst hb; exact⟨[],rfl,rfl,fun i hi=>by simp at hi⟩
 | cons v r ih=>
  unfold k7 at hb
  split at hb
  ·rename_i heq; cases heq
  ·rename_i n r' heq
   injection heq with h1 h2; subst h1 h2
   split at hb
   ·rename_i y h2
    injection hb with hb; subst hb
    obtain ⟨ns,n1,n2,n3⟩:=ih (o:=o+1) (fun i v hv=>by
     have:=hc (i+1) v (O7 hv)
     rw [show o+(i+1)=o+1+i by omega]at this
     exact this) h2
    refine⟨n::ns,by simp [n1],by simp [n2], ?_⟩
    intro i hi
    cases i with
    | zero=>
     obtain⟨c,hc',hv⟩:=hc 0 _ rfl
     cases hv
     simpa using hc'
    | succ i=>
     have:=n3 i (O7 hi)
     rw [show o+(i+1)=o+1+i by omega,this]
     rfl
   ·cases hb
  ·cases hb
theorem Bq (h:Rel gl w0 G st w) {s d:TypeId} {x v:V} {a:Value} (hx:VR G x a) (hsx:V.sc st x) (hc:KM P st (ti P s) (ti P d) x=some v):SOK P gl w0 G st w (convert s d a) v st:=by
 unfold KM at hc
 split at hc
 ·rename_i hok
  obtain⟨is,ds,his,hds,_,_⟩:=KE hok
  split at hc
  ·rename_i k n
   cases hx
   split at hc
   ·rename_i k' hd
    injection hc with hc; subst hc
    exact SOK.same h (c:= .int k' (k'.wrap n)) (by simp only [convert,iB,run_underlying hds,run_underlying (ZF hd),iA]; cases ds<;>rfl) (.int _ _) (by simp [V.sc])
   ·cases hc
  ·rename_i b
   cases hx
   rename_i s'
   split at hc
   ·rename_i hd
    injection hc with hc; subst hc
    exact SOK.same h (c:= .string s') (by simp only [convert,iB,run_underlying hds,run_underlying (br hd),iA]; cases ds<;>rfl) (.str _) (by simp [V.sc])
   ·rename_i e by_ hd
    split at hc
    ·rename_i hcond
     injection hc with hc; subst hc
     obtain⟨hu,i,hi,_,_⟩:=xM hd
     have hrun:=run_bytes_of_string (P:=P) w s d e s' (br hcond.2) hu (ZF hcond.1)
     have hcap:=grownCap_ge w s'.size 0 e
     obtain ⟨hr,hxx⟩:=(h.of_heap (w':=w.drew) rfl rfl rfl rfl).newRow (fun i=>(qB s'.data.toList).flatten[i]?) (bytesRow s' (grownCap w s'.size 0 e)) e
      ((bytesRow s' (grownCap w s'.size 0 e)).size,(bytesRow s' (grownCap w s'.size 0 e)).size+1) (by
       intro i v hv
       rw [Ye,List.getElem?_map]at hv
       cases hq:s'.data.toList[i]? with
       |none=>rw [hq]at hv; cases hv
       | some q=>
        rw [hq]at hv; simp at hv; subst hv
        refine⟨rfl, .int .u8 q.toNat, ?_, .int _ _⟩
        have hlt:i<s'.data.size:=by
         rcases Nat.lt_or_ge i s'.data.size with h'|h'
         ·exact h'
         ·rw [List.getElem?_eq_none (by simpa using h')]at hq; cases hq
        simp only [bytesRow]
        rw [Array.getElem?_append_left (O7 hlt)]
        simp only [Array.getElem?_map]
        rw [←Array.getElem?_toList,hq]; rfl)
     refine⟨_,_,_,hrun, ?_,by simp [V.sc],hr,hxx, .refl _⟩
     have hlen:s'.size=(qB s'.data.toList).length:=by simp [qB]
     rw [hlen]
     refine VR.sl (p7 (W1 _) ?_) trivial (by rw [←hlen]; simpa using hcap)
     intro i v hv
     show(if w.heap.size=w.heap.size then(qB s'.data.toList).flatten[0+i]? else G.imm w.heap.size (0+i))=some v
     rw [if_pos rfl,Nat.zero_add]; exact hv
    ·cases hc
   ·cases hc
  ·split at hc
   ·rename_i hs hd
    cases hx
    split at hc
    ·rename_i he
     injection hc with hc; subst hc
     exact SOK.same h (c:= .string ByteArray.empty) (run_convert_bytes_nil (P:=P) w s _ (xM hs).1 (ZF he) 0 0 d (br hd)) (.str ByteArray.empty) (by simp [V.sc])
    ·cases hc
   ·cases hc
  ·rename_i es tok
   split at hc
   ·rename_i e _ _ hs hd
    split at hc
    ·rename_i he
     split at hc
     ·rename_i bs hbs
      injection hc with hc; subst hc
      cases hx with
      | sl hr ht hl=>
       rename_i b o cap
       obtain⟨ns,n1,n2,n3⟩:=Us h hr hbs
       refine SOK.same h (c:= .string (strOfNums ns)) (run_convert_bytes_arg (P:=P) w s e (xM hs).1 (ZF he) b o es.length cap ns n1 n3 d (br hd)) ?_ (by simp [V.sc])
       rw [n2,←strOfNums_data]; exact .str _
      | slnil=>
       simp only [bB]at hbs
       injection hbs with hbs; subst hbs
       exact SOK.same h (c:= .string ByteArray.empty) (run_convert_bytes_nil (P:=P) w s _ (xM hs).1 (ZF he) 0 0 d (br hd)) (.str ByteArray.empty) (by simp [V.sc])
      | slz _ a=>
       simp only [bB]at hbs
       injection hbs with hbs; subst hbs
       exact SOK.same h (c:= .string ByteArray.empty) (YJ (P:=P) w s _ (xM hs).1 (ZF he) a d (br hd)) (.str ByteArray.empty) (by simp [V.sc])
     ·cases hc
    ·cases hc
   ·cases hc
  ·rename_i id off len cap
   split at hc
   ·rename_i e _ _ hs hd
    split at hc
    ·rename_i he
     split at hc
     ·rename_i cells hcs
      split at hc
      ·rename_i hlen
       split at hc
       ·rename_i bs hbs
        injection hc with hc; subst hc
        cases hx with
        | rsl hb=>
         rename_i b
         obtain⟨hlen,hlive⟩:=hlen
         obtain⟨C,el,h2,h3,h4,h4',h5⟩:=h.live hcs hlive hb
         obtain ⟨ns,n1,n2,n3⟩:=YD (G:=G) (w:=w) (b:=b) (o:=off) (by
          intro i v hv
          rw [List.getElem?_take]at hv
          split at hv
          ·rw [List.getElem?_drop]at hv
           have hj:off+i<C.size:=Nat.lt_of_lt_of_le (yj hv) h4
           exact⟨C[off+i],by rw [cell_of_heap h3]; simp [hj],h4' _ v _ hv (by simp [hj])⟩
          ·cases hv) hbs
         have hl':((cells.drop off).take len).length=len:=O3
         rw [hl']at n1 n3
         refine SOK.same h (c:= .string (strOfNums ns)) (run_convert_bytes_arg (P:=P) w s e (xM hs).1 (ZF he) b off len cap ns n1 n3 d (br hd)) ?_ (by simp [V.sc])
         rw [n2,←strOfNums_data]; exact .str _
       ·cases hc
      ·cases hc
     ·cases hc
    ·cases hc
   ·cases hc
  ·rename_i id m
   split at hc
   ·rename_i e _ _ hs hd
    split at hc
    ·rename_i he
     split at hc
     ·rename_i cells hcs
      split at hc
      ·rename_i hlen
       split at hc
       ·rename_i bs hbs
        injection hc with hc; subst hc
        cases hx with
        | own hpos hb hcap hroom=>
         rename_i b cap
         obtain⟨C,el,h2,h3,_,h4,h4',h5⟩:=h.bufOf hcs O0 hb
         obtain ⟨ns,n1,n2,n3⟩:=YD (G:=G) (w:=w) (b:=b) (o:=0) (by
          intro i v hv
          rw [List.getElem?_take]at hv
          split at hv
          ·have hj:i<C.size:=Nat.lt_of_lt_of_le (yj hv) h4
           exact⟨C[i],by rw [Nat.zero_add,cell_of_heap h3]; simp [hj],h4' _ v _ hv (by simp [hj])⟩
          ·cases hv) hbs
         have hl':(cells.take m).length=m:=O3
         rw [hl']at n1 n3
         refine SOK.same h (c:= .string (strOfNums ns)) (run_convert_bytes_arg (P:=P) w s e (xM hs).1 (ZF he) b 0 m cap ns n1 n3 d (br hd)) ?_ (by simp [V.sc])
         rw [n2,←strOfNums_data]; exact .str _
        | ownz id1 sz1 b1 cap1=>
         simp only [List.take_zero,k7]at hbs
         injection hbs with hbs; subst hbs
         exact SOK.same h (c:= .string (strOfNums [])) (run_convert_bytes_arg (P:=P) w s e (xM hs).1 (ZF he) b1 0 0 cap1 [] rfl O2 d (br hd)) (.str ByteArray.empty) (by simp [V.sc])
        | ownnil=>
         simp only [List.take_zero,k7]at hbs
         injection hbs with hbs; subst hbs
         exact SOK.same h (c:= .string ByteArray.empty) (run_convert_bytes_nil (P:=P) w s _ (xM hs).1 (ZF he) 0 0 d (br hd)) (.str ByteArray.empty) (by simp [V.sc])
       ·cases hc
      ·cases hc
     ·cases hc
    ·cases hc
   ·cases hc
  ·cases hc
 ·cases hc
end
end Go.Abs
end
