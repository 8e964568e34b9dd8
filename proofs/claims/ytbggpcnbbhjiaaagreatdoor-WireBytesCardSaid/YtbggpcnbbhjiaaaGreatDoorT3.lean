/- The program's types and functions in the abstract reading, its records as Lean structures, and the contracts of library functions. -/
import Derived.Test.YtbggpcnbbhjiaaaGreatDoorT2
set_option linter.unusedVariables false
set_option linter.unusedSimpArgs false
set_option linter.unnecessarySimpa false
section
set_option maxRecDepth 100000
namespace Go.Abs
open Go Go.Proofs Go.Sort
open Go.RowKit (Below)
section
variable {P:Program} {gl:Nat→List V} {w0:dr} {G:Gh} {st:St} {w:World}
theorem Rel.ofBelow (h:Rel gl w0 G st w) {w':World} (hb:Below w.heap.size w w'):Rel gl w0 G st w' where
 below:=h.below.step hb.os hb.tape hb.output hb.size (fun k hk _=>hb.block k hk)
 vars:=fun id cells hc hn=>by
  obtain⟨b,o',h1,h2,h3,h4,h5⟩:=h.vars id cells hc hn
  exact⟨b,o',h1,h2,by rw [hb.block b (bj h3)]; exact h3,h4,h5⟩
 varlt:=fun id b hi hb'=>Nat.lt_of_lt_of_le (h.varlt id b hi hb') hb.size
 sc:=h.sc
 disj:=h.disj
 imm:=fun b i v hv=>by
  obtain⟨hp,c,hc,hr⟩:=h.imm b i v hv
  exact⟨hp,c,by rw [Xx (w:=w) (hb.block b (KF hc))]; exact hc,hr⟩
 fam:=fun t p b e lim ht h1=>by
  obtain⟨h2,C,el,h3,h4⟩:=h.fam t p b e lim ht h1
  exact⟨h2,C,el,by rw [hb.block b (bj h3)]; exact h3,h4⟩
 famdisj:=h.famdisj
 glob:=h.glob
 gfix:=h.gfix
 old:=h.old
theorem nr {a b:V} {c:Array Value} (h:VRs G [a,b] c):∃x y,c= #[x,y]∧VR G a x∧VR G b y:=by
 obtain⟨l⟩:=c
 match l,h with
 | [],h=>exact absurd h.1 O2
 | [x],h=>exact absurd h.1 O2
 | [x,y],h=>exact⟨x,y,rfl,h.2 0 a x rfl rfl,h.2 1 b y rfl rfl⟩
 |_::_::_::_,h=>exact absurd h.1 O2
theorem zbT {a:V} {c:Array Value} (h:VRs G [a] c):∃x,c= #[x]∧VR G a x:=by
 obtain⟨l⟩:=c
 match l,h with
 | [],h=>exact absurd h.1 O2
 | [x],h=>exact⟨x,rfl,h.2 0 a x rfl rfl⟩
 |_::_::_,h=>exact absurd h.1 O2
theorem Yx {s:List UInt8} {c:Value} (h:VR G (.str s) c):c= .string ⟨s.toArray⟩:=by
 cases h
 rename_i s'
 obtain⟨⟨l⟩⟩:=s'
 rfl
theorem mP {f:FuncId} {args:List V} {st:St} {r:V} (hok:KI P f=true) (h:∀(G:Gh) (w:World) (cargs:Array Value),VRs G args cargs→∃c,Calls P f cargs w (fun e w'=>e= .returned c∧w'=w)∧VR G r c∧V.sc st r):uR P gl f args st (Out r st):=
 ⟨hok,fun w0 G w cargs hr hv hs=>by
  obtain⟨c,h1,h2,h3⟩:=h G w cargs hv
  refine h1.mono ?_
  rintro e w' ⟨rfl,rfl⟩
  exact⟨r,c,st,G,rfl,⟨rfl,rfl⟩,h2,h3,hr, .refl _ _, .refl _⟩⟩
end
variable {mx:Int}
def YN (n:Nat) (s:List UInt8) (c:Int):Option Int:=some (Lib.indexByte s c.toNat.toUInt8)
theorem Vo {n:Nat} {s:List UInt8} {c:Int} {r:Int} (h:YN n s c=some r):uR Tryz.prog (gl0 mx) 244 [.str s, .int .u8 c] ⟨[],[]⟩ (Out (.int .i64 r) ⟨[],[]⟩):=by
 injection h with h; subst h
 refine mP O7 ?_
 intro G w cargs hv
 obtain⟨x,y,rfl,h1,h2⟩:=nr hv
 rw [Yx h1]
 cases h2
 exact⟨_,Tryz.strings_IndexByte _ c w, .int _ _,by simp [V.sc]⟩
def JF (n:Nat) (s sep:List UInt8):Option Int:=match sep with
 | [c]=>some (Lib.countByte s c)
 |_=>none
theorem P4 {n:Nat} {s sep:List UInt8} {r:Int} (h:JF n s sep=some r):uR Tryz.prog (gl0 mx) 262 [.str s, .str sep] ⟨[],[]⟩ (Out (.int .i64 r) ⟨[],[]⟩):=by
 unfold JF at h
 split at h
 ·rename_i c
  injection h with h; subst h
  refine mP O7 ?_
  intro G w cargs hv
  obtain⟨x,y,rfl,h1,h2⟩:=nr hv
  rw [Yx h1,Yx h2]
  exact⟨_,Tryz.strings_Count_one _ c w, .int _ _,by simp [V.sc]⟩
 ·cases h
theorem maxLen {w0:dr} {G:Gh} {st:St} {w:World} (h:Rel (gl0 mx) w0 G st w):w.cell? ⟨1,0,none⟩=some (.int .i64 mx):=by
 obtain⟨_,c,hc,hv⟩:=h.imm 1 0 (.int .i64 mx) (h.glob 1 0 _ rfl)
 cases hv; exact hc
def Yd (n:Nat) (s sep:List UInt8):Option Int:=if s.length<4294967281 then some (Lib.index s sep)else none
theorem Q8 {n:Nat} {s sep:List UInt8} {r:Int} (h:Yd n s sep=some r):uR Tryz.prog (gl0 mx) 263 [.str s, .str sep] ⟨[],[]⟩ (Out (.int .i64 r) ⟨[],[]⟩):=by
 unfold Yd at h
 split at h
 ·rename_i hl
  injection h with h; subst h
  refine⟨O7,fun w0 G w cargs hr hv hs=> ?_⟩
  obtain⟨x,y,rfl,h1,h2⟩:=nr hv
  rw [Yx h1,Yx h2]
  refine(Tryz.strings_Index ⟨s.toArray⟩ ⟨sep.toArray⟩ mx w (by show(s.toArray).size<4294967281; simpa using hl) (maxLen hr)).mono ?_
  rintro e w' ⟨rfl,rfl⟩
  exact⟨_,_,_,G,rfl,⟨rfl,rfl⟩, .int _ _,by simp [V.sc],hr, .refl _ _, .refl _⟩
 ·cases h
def Ue (n:Nat) (s sep:List UInt8):Option Int:=if s.length<4294967281 then some (Lib.index s sep)else none
theorem Dq {n:Nat} {s sep:List UInt8} {r:Int} (h:Ue n s sep=some r):uR Tryz.prog (gl0 mx) 283 [.str s, .str sep] ⟨[],[]⟩ (Out (.int .i64 r) ⟨[],[]⟩):=by
 unfold Ue at h
 split at h
 ·rename_i hl
  injection h with h; subst h
  refine⟨O7,fun w0 G w cargs hr hv hs=> ?_⟩
  obtain⟨x,y,rfl,h1,h2⟩:=nr hv
  rw [Yx h1,Yx h2]
  refine(Tryz.stringslite_Index ⟨s.toArray⟩ ⟨sep.toArray⟩ mx w (by show(s.toArray).size<4294967281; simpa using hl) (maxLen hr)).mono ?_
  rintro e w' ⟨rfl,rfl⟩
  exact⟨_,_,_,G,rfl,⟨rfl,rfl⟩, .int _ _,by simp [V.sc],hr, .refl _ _, .refl _⟩
 ·cases h
theorem Rel.tab {gl:Nat→List V} {w0:dr} {G:Gh} {st:St} {w:World} (h:Rel gl w0 G st w) {g:Nat} {k:IntKind} {zs:List Int} (hz:gl g=zs.map (vI k)) (hn:zs≠ []):∃el fz,w.heap[g]? =some (.cells (zs.map fun z=>Value.int k z).toArray el fz):=by
 obtain⟨h1,C,el,fz,h2,h3⟩:=h.gfix g (by rw [hz]; simpa using hn)
 have e2:w.heap[g]? =w0.w.heap[g]? :=h.below.heap g (Nat.lt_of_not_le fun h=>h1 (.inl h)) (fun h=>h1 (.inr h))
 rw [h2]at e2
 rw [hz,List.length_map]at h3
 refine⟨el,fz, ?_⟩
 rw [e2]
 congr 2
 apply Array.ext
 ·simpa using h3
 ·intro i hi1 hi2
  have hi:i<zs.length:=by rw [←h3]; exact hi1
  obtain⟨_,c,hc,hv⟩:=h.imm g i (.int k zs[i]) (h.glob g i _ (by rw [hz,List.getElem?_map,List.getElem?_eq_getElem hi]; rfl))
  cases hv
  rw [ur e2]at hc
  rw [Array.getElem?_eq_getElem hi1]at hc
  injection hc with hc
  rw [hc]; simp
theorem zbr {w0 : dr} {G : Gh} {st : St} {w : World} (h : Rel (gl0 mx) w0 G st w) : Lib.TabIs Tryz.prog w "internal/strconv.uint64pow10" .u64 Lib.pow10Tab := by
 obtain⟨el,fz,e⟩:=h.tab (g:=2) (k:= .u64) (zs:=BS) rfl O1
 have hg : Tryz.prog.globalNamed "internal/strconv.uint64pow10" = some 2 := by kernel_rfl
 unfold Lib.TabIs World.var?
 rw [hg]
 simp only [Option.bind_some,e]
 rw [show Lib.pow10Tab=BS by kernel_rfl]
def JP (n:Nat) (i:Int):Option (List UInt8):=if -9223372036854775808≤i∧i≤9223372036854775807 then some (Lib.itoa i)else none
theorem fM {n:Nat} {i:Int} {r:List UInt8} (h:JP n i=some r):uR Tryz.prog (gl0 mx) 197 [.int .i64 i] ⟨[],[]⟩ (Out (.str r) ⟨[],[]⟩):=by
 unfold JP at h
 split at h
 ·rename_i hb
  injection h with h; subst h
  refine⟨O7,fun w0 G w cargs hr hv hs=> ?_⟩
  obtain⟨x,rfl,h1⟩:=zbT hv
  cases h1
  refine(Tryz.strconv_Itoa i hb.1 hb.2 w (zbr hr)).mono ?_
  rintro e w' ⟨rfl,k,os,rfl⟩
  have hbel:Below w.heap.size w (grow (w.drewN k) os):=⟨rfl,rfl,rfl,O2,fun j hj=>heap_grow_old (w.drewN k) os hj⟩
  exact⟨_,_,_,G,rfl,⟨rfl,rfl⟩, .str ⟨(Lib.itoa i).toArray⟩,by simp [V.sc],hr.ofBelow hbel, .refl _ _, .refl _⟩
 ·cases h
theorem rv (l:List (List UInt8)):(l.map fun x=>(⟨x.toArray⟩:ByteArray)).map (·.data.toList)=l:=by
 induction l with
 |nil=>rfl
 |cons x r ih=>simp only [List.map_cons]at *; rw [ih]
def Wc (n:Nat) (l:List (List UInt8)) (sep:List UInt8):Option (List UInt8):=
 if(Lib.join l sep).length≤140737488355328∧l.length≤140737488355328 then some (Lib.join l sep)else none
theorem DZ {w:World} {bk cap:Nat} (l:List (List UInt8)) (sep:List UInt8) (o:Nat) (hc:∀(j:Nat) x,l[j]? =some x→w.cell? ⟨bk,o+j,none⟩=some (.string ⟨x.toArray⟩)) (hbk:bk<w.heap.size) (hcap:l.length≤cap)
  (h1:(Lib.join l sep).length≤140737488355328) (h2:l.length≤140737488355328):
  Calls Tryz.prog 174 #[.slice (some ⟨bk,o,none⟩) l.length cap, .string ⟨sep.toArray⟩] w fun e w'=>e= .returned (.string ⟨(Lib.join l sep).toArray⟩)∧Below w.heap.size w w':=by
 have:=Tryz.strings_Join bk o cap (l.map fun x=>⟨x.toArray⟩) ⟨sep.toArray⟩ w (by
  intro j x hx
  rw [List.getElem?_map]at hx
  obtain⟨y,hy,rfl⟩:=Option.map_eq_some_iff.1 hx
  exact hc j y hy) hbk (O9 h2) (O9 hcap) (by rw [rv]; simpa using h1)
 rw [rv,List.length_map]at this
 exact this
theorem Bz {n:Nat} {l:List (List UInt8)} {sep r:List UInt8} (h:Wc n l sep=some r):uR Tryz.prog (gl0 mx) 174 [.sl 1 (l.map cS) .none, .str sep] ⟨[],[]⟩ (Out (.str r) ⟨[],[]⟩):=by
 unfold Wc at h
 split at h
 ·rename_i hb
  injection h with h; subst h
  refine⟨O7, ?_⟩
  intro w0 G w cargs hr hv _
  obtain⟨x,y,rfl,h1,h2⟩:=nr hv
  rw [Yx h2]
  generalize hes:l.map cS=es at h1
  cases h1 with
  | sl hrow htok hcap=>
   rename_i b o cap
   subst hes
   have hcell:∀(j:Nat) x,l[j]? =some x→w.cell? ⟨b,o+j,none⟩=some (.string ⟨x.toArray⟩):=by
    intro j x hx
    have h3:=(hrow j (cS x) (by rw [List.getElem?_map,hx]; rfl)).2 0 (.str x) rfl
    rw [Nat.mul_one]at h3
    obtain⟨_,c,hc,hvr⟩:=hr.im h3
    rw [Yx hvr]at hc
    exact hc
   rcases Nat.eq_zero_or_pos l.length with h0|h0
   ·have hl:l= []:=List.eq_nil_of_length_eq_zero h0
    subst hl
    refine(Tryz.strings_Join_none (some ⟨b,o,none⟩) cap _ w).mono ?_
    rintro e w' ⟨rfl,rfl⟩
    exact⟨_,_,_,G,rfl,⟨rfl,rfl⟩, .str ⟨#[]⟩,by simp [V.sc],hr, .refl _ _, .refl _⟩
   ·have hbk:b<w.heap.size:=KF (hcell 0 _ (List.getElem?_eq_getElem h0))
    rw [List.length_map]at hcap ⊢
    refine(DZ l sep o hcell hbk hcap hb.1 hb.2).mono ?_
    rintro e w' ⟨rfl,hbel⟩
    exact⟨_,_,_,G,rfl,⟨rfl,rfl⟩, .str ⟨(Lib.join l sep).toArray⟩,by simp [V.sc],hr.ofBelow hbel, .refl _ _, .refl _⟩
  | slnil=>
   have hl:l= []:=by cases l with|nil=>rfl|cons a r=>simp at hes
   subst hl
   refine(Tryz.strings_Join_none none 0 _ w).mono ?_
   rintro e w' ⟨rfl,rfl⟩
   exact⟨_,_,_,G,rfl,⟨rfl,rfl⟩, .str ⟨#[]⟩,by simp [V.sc],hr, .refl _ _, .refl _⟩
  | slz _ a=>
   have hl:l= []:=by cases l with|nil=>rfl|cons a r=>simp at hes
   subst hl
   refine(Tryz.strings_Join_none (some a) 0 _ w).mono ?_
   rintro e w' ⟨rfl,rfl⟩
   exact⟨_,_,_,G,rfl,⟨rfl,rfl⟩, .str ⟨#[]⟩,by simp [V.sc],hr, .refl _ _, .refl _⟩
 ·cases h
def VH (n:Nat) (k:Nat) (sep:List UInt8) (m:List (List UInt8)):Option (List UInt8×List (List UInt8)):=
 if m.length=k∧(Lib.join m sep).length≤140737488355328∧m.length≤140737488355328 then some (Lib.join m sep,m)else none
theorem cg {n k:Nat} {sep:List UInt8} {m:List (List UInt8)} {r:List UInt8×List (List UInt8)} (h:VH n k sep m=some r):
  uR Tryz.prog (gl0 mx) 174 [.own 0 k 1, .str sep] ⟨[[.buf (m.map vS)]],[]⟩ (Out (.str r.1) ⟨[[.buf (r.2.map vS)]],[]⟩):=by
 unfold VH at h
 split at h
 ·rename_i hb
  obtain⟨rfl,hb1,hb2⟩:=hb
  injection h with h; subst h
  refine⟨O7, ?_⟩
  intro w0 G w cargs hr hv _
  obtain⟨x,y,rfl,h1,h2⟩:=nr hv
  rw [Yx h2]
  generalize hk:m.length=k at h1
  cases h1 with
  | own h0 hvar hcap hroom=>
   rename_i b cap
   subst hk
   obtain⟨C,el,g2,g3,gp,g4,g4',g5⟩:=hr.bufOf (id:=0) (cs:=m.map vS) rfl (O9 h0) hvar
   have hcell:∀(j:Nat) x,m[j]? =some x→w.cell? ⟨b,0+j,none⟩=some (.string ⟨x.toArray⟩):=by
    intro j x hx
    have hj:j<C.size:=Nat.lt_of_lt_of_le (by have:=zR hx; simpa using this) g4
    have:=g4' j (.str x) C[j] (by rw [List.getElem?_map,hx]; rfl) (by simp [hj])
    rw [Nat.zero_add,ur g3]
    rw [←Yx this]; simp [hj]
   refine(DZ m sep 0 hcell (bj g3) hcap hb1 hb2).mono ?_
   rintro e w' ⟨rfl,hbel⟩
   exact⟨_,_,_,G,rfl,⟨rfl,rfl⟩, .str ⟨(Lib.join m sep).toArray⟩,by simp [V.sc],hr.ofBelow hbel, .refl _ _, .refl _⟩
  | ownnil=>
   have hl:m= []:=List.eq_nil_of_length_eq_zero hk
   subst hl
   refine(Tryz.strings_Join_none none 0 _ w).mono ?_
   rintro e w' ⟨rfl,rfl⟩
   exact⟨_,_,_,G,rfl,⟨rfl,rfl⟩, .str ⟨#[]⟩,by simp [V.sc],hr, .refl _ _, .refl _⟩
 ·cases h
def Vp:List (List UInt8)→List (List UInt8)
 | []=> []
 | [x]=> [x]
 | [x,y]=>if x≤y then [x,y]else [y,x]
 |l=>l.mergeSort (fun x y=>decide (x≤y))
theorem VN (l:List (List UInt8)):l.mergeSort (fun x y=>decide (x≤y))=Vp l:=by
 unfold Vp
 split
 ·simp
 ·simp
 ·split
  ·rename_i hle
   simp [List.mergeSort,List.MergeSort.Internal.splitInTwo,List.splitAt,List.splitAt.go,List.merge,hle]
  ·rename_i hle
   simp [List.mergeSort,List.MergeSort.Internal.splitInTwo,List.splitAt,List.splitAt.go,List.merge,hle]
 ·rfl
theorem nt (l:List (List UInt8)):(Vp l).length=l.length:=by
 rw [←VN]; simp
def Jr (n:Nat) (k:Nat) (m:List (List UInt8)):Option (List (List UInt8)):=if m.length=k∧k<4611686018427387904 then some (Vp m)else none
theorem eX {n k:Nat} {m r:List (List UInt8)} (h:Jr n k m=some r):uR Tryz.prog (gl0 mx) 246 [.own 0 k 1] ⟨[[.buf (m.map vS)]],[]⟩ (Out (.tuple []) ⟨[[.buf (r.map vS)]],[]⟩):=by
 unfold Jr at h
 split at h
 ·rename_i hb
  obtain⟨hk,hsz⟩:=hb
  injection h with h; subst h
  refine⟨O7, ?_⟩
  intro w0 G w cargs hr hv _
  obtain⟨x,rfl,h1⟩:=zbT hv
  have htup:VR G (.tuple []) (.tuple #[]):= .tuple rfl O2
  cases h1 with
  | own h0 hvar hcap hroom=>
   rename_i b cap
   subst hk
   obtain⟨C,el,g2,g3,gp,g4,g4',g5⟩:=hr.bufOf (id:=0) (cs:=m.map vS) rfl (O9 h0) hvar
   have hml:m.length≤C.size:=by simpa using g4
   have hget:∀j (hj:j<m.length),C[j]? =some (.string ⟨(m[j]).toArray⟩):=by
    intro j hj
    have hj':j<C.size:=O0
    have:=g4' j (.str m[j]) C[j] (by rw [List.getElem?_map,List.getElem?_eq_getElem hj]; rfl) (by simp [hj'])
    rw [←Yx this]; simp [hj']
   have hH:Holds encStr w b 0 m.toArray:=by
    intro j hj
    have hj':j<m.length:=by simpa using hj
    refine⟨?_, ?_⟩
    ·rw [Nat.zero_add,ur g3,hget j hj']
     have:(m.toArray)[j]! =m[j]:=by rw [getElem!_pos _ j (by simpa using hj')]; rfl
     rw [this]
    ·simp [World.frozen?,g3]
   refine(Tryz.sort_Strings b 0 cap m w hH (bj g3) hsz).mono ?_
   rintro e w' ⟨rfl,q,os,rfl⟩
   rw [VN]
   have hrl:=nt m
   have hblk:b<w.heap.size:=bj g3
   let w1:World:=putRow encStr (Go.Sort.ahead w q) b 0 (Vp m).toArray
   have hw1:w1.heap=w.heap.modify b (onCells (putCells encStr 0 (Vp m).toArray)):=rfl
   have hchg:Chg w w1 b (.cells (putCells encStr 0 (Vp m).toArray C) el (0,0)):=⟨rfl,rfl,rfl,by rw [hw1]; simp,by rw [hw1,Array.getElem?_modify,if_pos rfl,g3]; rfl,fun k hk=>by rw [hw1,Array.getElem?_modify,if_neg (Ne.symm hk)]⟩
   have hst:=hr.storeO (id:=0) (cells:= [.buf ((Vp m).map vS)]) (cells0:= [.buf (m.map vS)]) rfl (V.gone_buf (O9 h0)) hvar hchg (.buf (by
     intro v hv
     obtain⟨x,_,rfl⟩:=List.mem_map.1 hv
     rfl) (by simp [putCells,hrl]; exact hml) (by
     intro j v c hvj hc
     have hj:j<(Vp m).length:=by have:=zR hvj; simpa using this
     rw [List.getElem?_map,List.getElem?_eq_getElem hj]at hvj
     injection hvj with hvj; subst hvj
     have hj':j<C.size:=O0
     simp only [putCells,Array.getElem?_mapIdx,Array.getElem?_eq_getElem hj',Option.map_some,Nat.zero_le,true_and,Nat.zero_add,List.size_toArray,hj,if_true,Nat.sub_zero,Option.some.injEq]at hc
     subst hc
     have:((Vp m).toArray)[j]! =(Vp m)[j]:=by rw [getElem!_pos _ j (O9 hj)]; rfl
     rw [this]
     exact .str ⟨((Vp m)[j]).toArray⟩) (by simp [putCells]; exact g5)) (by simp [V.scs,V.sc])
   have hbel:Below w1.heap.size w1 (grow w1 os):=⟨rfl,rfl,rfl,O2,fun k hk=>heap_grow_old w1 os hk⟩
   exact⟨_,_,_,G,rfl,⟨rfl,rfl⟩,htup,by simp [V.sc,V.scs],hst.ofBelow hbel, .refl _ _,⟨O2,fun t p h=>⟨p,h,Nat.le_refl _⟩⟩⟩
  | ownnil=>
   have hl:m= []:=List.eq_nil_of_length_eq_zero hk
   subst hl
   refine(Tryz.sort_Strings_none none 0 w).mono ?_
   rintro e w' ⟨rfl,rfl⟩
   exact⟨_,_,_,G,rfl,⟨rfl,rfl⟩,htup,by simp [V.sc,V.scs],hr, .refl _ _, .refl _⟩
 ·cases h
end Go.Abs
end
