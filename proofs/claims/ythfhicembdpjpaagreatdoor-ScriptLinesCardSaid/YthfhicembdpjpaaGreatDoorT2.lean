/- The program's types and functions in the abstract reading, its records as Lean structures, and the contracts of library functions. -/
import Derived.Test.YthfhicembdpjpaaGreatDoorT1
set_option linter.all false
section
set_option maxRecDepth 100000
namespace Go.Abs
open Go Go.Proofs Go.RowKit Go.Shelf
set_option maxHeartbeats 1000000 in
theorem Gc (b:Nat) (w:World) (h0:w.cell? ⟨b,0,none⟩=some (.pointer none)) (hsh:w.shape? b=some (89,2)) (hfz:w.frozen? ⟨b,0,none⟩=false):
  Calls Tryz.prog 84 #[.pointer (some ⟨b,0,none⟩)] w fun e w'=>e= .returned (.tuple #[])∧w'=w.setCell ⟨b,0,none⟩ (.pointer (some ⟨b,0,none⟩)):=by
 have X:=Tryz.Builder_Extra_169
 obtain⟨j,hj,hjs⟩:=Option.map_eq_some_iff.1 X.toX72.sizeBuilder
 have t89:=Tryz.underlying89; have a89:=Tryz.isAgg89; have z89:=Tryz.sizeOf89; have v89:=Tryz.zeroValue89; have u89:=run_underlying Tryz.underlying89
 have t87:=Tryz.underlying87; have a87:=Tryz.isAgg87; have z87:=Tryz.sizeOf87; have v87:=Tryz.zeroValue87; have u87:=run_underlying Tryz.underlying87
 have t4:=Tryz.underlying4; have u4:=run_underlying Tryz.underlying4
 have t257:=Tryz.underlying257; have u257:=run_underlying Tryz.underlying257
 go_enter Tryz.func84,Tryz.ntmps84
 go_wp2
 rw [Lib.run_to_unsafe w ⟨b,0,none⟩ Tryz.underlying87 Tryz.underlying257 hj (by rw [hjs]; decide) hsh (Nat.zero_lt_succ 1)]
 simp only [Result.andThen]
 rw [Oper.upon_value]
 go_wp2
 rw [run_callFunc_extern Tryz.func181 O5 O5 O5 (e:=Extern.AbiNoEscape.same) O5]
 rw [Lib.run_noEscape]
 simp only [Result.andThen]
 rw [Oper.upon_value]
 go_wp2
 rw [Lib.run_from_unsafe w ⟨b,0,none⟩ Tryz.underlying257 Tryz.underlying87 hj hsh X.toX72.liesBuilder]
 simp only [Result.andThen]
 rw [Oper.upon_value]
 go_wp2
 go_end0
 exact⟨rfl,rfl⟩
set_option maxHeartbeats 1000000 in
theorem DR (b:Nat) (w:World) (h0:w.cell? ⟨b,0,none⟩=some (.pointer (some ⟨b,0,none⟩))):
  Calls Tryz.prog 84 #[.pointer (some ⟨b,0,none⟩)] w fun e w'=>e= .returned (.tuple #[])∧w'=w:=by
 have X:=Tryz.Builder_Extra_169
 obtain⟨j,hj,_⟩:=Option.map_eq_some_iff.1 X.toX72.sizeBuilder
 have t89:=Tryz.underlying89; have a89:=Tryz.isAgg89; have z89:=Tryz.sizeOf89; have v89:=Tryz.zeroValue89; have u89:=run_underlying Tryz.underlying89
 have t87:=Tryz.underlying87; have a87:=Tryz.isAgg87; have z87:=Tryz.sizeOf87; have v87:=Tryz.zeroValue87; have u87:=run_underlying Tryz.underlying87
 have t4:=Tryz.underlying4; have u4:=run_underlying Tryz.underlying4
 go_enter Tryz.func84,Tryz.ntmps84
 go_wp2
 rw [Lib.run_neq_ptr_same w _ Tryz.underlying87 hj]
 go_wp2
 go_end0
 exact⟨rfl,rfl⟩
set_option maxHeartbeats 2000000 in
theorem Dz:BU Tryz.prog 34 89 5:=by
 intro b p v bs s w hp hbk hown hne hlen
 have X:=Tryz.Builder_Extra_169
 obtain⟨i0,hi,hz0,hz1,hz2⟩:=info_parts X.infoByte
 have t89:=Tryz.underlying89; have a89:=Tryz.isAgg89; have z89:=Tryz.sizeOf89; have v89:=Tryz.zeroValue89; have u89:=run_underlying Tryz.underlying89
 have t87:=Tryz.underlying87; have a87:=Tryz.isAgg87; have z87:=Tryz.sizeOf87; have v87:=Tryz.zeroValue87; have u87:=run_underlying Tryz.underlying87
 have t47:=Tryz.underlying47; have a47:=Tryz.isAgg47; have z47:=Tryz.sizeOf47; have v47:=Tryz.zeroValue47; have u47:=run_underlying Tryz.underlying47
 have t3:=Tryz.underlying3; have a3:=Tryz.isAgg3; have z3:=Tryz.sizeOf3; have v3:=Tryz.zeroValue3; have u3:=run_underlying Tryz.underlying3
 have t9:=Tryz.underlying9; have a9:=Tryz.isAgg9; have z9:=Tryz.sizeOf9; have v9:=Tryz.zeroValue9; have u9:=run_underlying Tryz.underlying9
 have t5:=Tryz.underlying5; have a5:=Tryz.isAgg5; have z5:=Tryz.sizeOf5; have v5:=Tryz.zeroValue5; have u5:=run_underlying Tryz.underlying5
 have e84:∀args w,(callFunc 84 args).run Tryz.prog w= .ok (.enter 84 args) w:=enters_of Tryz.func84 O5 rfl
 have hb0:b<w.heap.size:=qA hbk
 have hcc:Calls Tryz.prog 84 #[.pointer (some ⟨b,0,none⟩)] w fun e w1=>e= .returned (.tuple #[])∧w1.heap[b]? =some (.cells #[.pointer (some ⟨b,0,none⟩),v] 89 (0,0))∧(∀k,k≠b→w1.heap[k]? =w.heap[k]?)∧w1.heap.size=w.heap.size ∧
   w1.os=w.os∧w1.tape=w.tape∧w1.output=w.output:=by
  rcases hp with rfl|rfl
  ·refine(Gc b w (by rw [Lib.cell_of_heap hbk]; rfl) (by simp [World.shape?,hbk]) (Lib.frozen_of_heap hbk 0)).mono ?_
   rintro e w1 ⟨rfl,rfl⟩
   refine⟨rfl, ?_,fun k hk=> ?_,by simp [World.setCell],rfl,rfl,rfl⟩
   ·simp [World.setCell,Array.getElem?_modify,hbk]
   ·simp [World.setCell,Array.getElem?_modify,Ne.symm hk]
  ·refine(DR b w (by rw [Lib.cell_of_heap hbk]; rfl)).mono ?_
   rintro e w1 ⟨rfl,rfl⟩
   exact⟨rfl,hbk,fun _ _=>rfl,rfl,rfl,rfl,rfl⟩
 go_enter Tryz.func34,Tryz.ntmps34
 go_wp2_with (go_at_fn 84; refine hcc.mono ?_)
 rintro e w1 ⟨rfl,hbk1,hoth,hsz,ho1,ht1,hp1⟩
 have c0:w1.cell? ⟨b,0,none⟩=some (.pointer (some ⟨b,0,none⟩)):=by rw [Lib.cell_of_heap hbk1]; rfl
 have c1:w1.cell? ⟨b,1,none⟩=some v:=by rw [Lib.cell_of_heap hbk1]; rfl
 have hown1:w1.ownsRow 0 5 1 v bs.length bs:=by
  refine⟨hown.1,hown.2.imp id ?_⟩
  rintro⟨g,cap,cur,rfl,k1,k2,k3⟩
  exact⟨g,cap,cur,rfl,k1,by rw [hoth g (fun e=>hne (by rw [e]; rfl))]; exact k2,k3⟩
 go_wp2_with (at_builtin; refine Dr _ rfl _ _ 47 9 rfl 5 i0 Tryz.underlying47 Tryz.underlying9 hi hz0 hz1 hz2 _ _ _ rfl hown1 s rfl ?c3 ?c4 ?_)
 case c3=>unfold maxLen; omega
 case c4=>omega
 intro v' w2 hown' hgrow hnil hat
 have hb1:b<w1.heap.size:=by rw [hsz]; exact hb0
 have hb2:w2.heap[b]? =some (.cells #[.pointer (some ⟨b,0,none⟩),v] 89 (0,0)):=by
  rw [hgrow.block b hb1 (fun e=>hne e.symm)]
  exact hbk1
 have d0:w2.cell? ⟨b,0,none⟩=some (.pointer (some ⟨b,0,none⟩)):=by rw [Lib.cell_of_heap hb2]; rfl
 have d1:w2.cell? ⟨b,1,none⟩=some v:=by rw [Lib.cell_of_heap hb2]; rfl
 have f1:w2.frozen? ⟨b,1,none⟩=false:=Lib.frozen_of_heap hb2 1
 have hvb:∀g,v'.ownBlock=some g→g≠b:=by
  intro g hg e
  subst e
  rcases hat _ hg with h|h
  ·exact hne h
  ·omega
 obtain ⟨ao,n',cap,rfl⟩:∃ao n' cap,v'= .slice ao n' cap:=by
  rcases hown'.2 with⟨hv,_⟩|⟨g,cap,cur,hv,_⟩
  ·exact⟨_,_,_,hv⟩
  ·exact⟨_,_,_,hv⟩
 go_wp2
 go_ret2
 refine⟨rfl, .slice ao n' cap, ?_⟩
 have hset:∀k,k≠b→(w2.setCell ⟨b,1,none⟩ (.slice ao n' cap)).heap[k]? =w2.heap[k]? :=fun k hk=>by simp [World.setCell,Array.getElem?_modify,Ne.symm hk]
 refine⟨by simp [World.setCell,Array.getElem?_modify,hb2], ?_,fun e=>by rw [Lib.strCells_length]; have:=(hnil.1 e).2; simp_all,fun g hg=>⟨hvb g hg,(hat g hg).imp id (by first|exact id|(rw [hsz]; exact id))⟩, ?_, ?_, ?_, ?_, ?_⟩
 ·rw [Lib.strCells_length]
  refine⟨hown'.1,hown'.2.imp id ?_⟩
  rintro⟨g,cap',cur,hv,k1,k2,k3⟩
  exact⟨g,cap',cur,hv,k1,by rw [hset g (hvb g (by rw [hv]; rfl))]; exact k2,k3⟩
 ·exact hgrow.os.trans ho1
 ·exact hgrow.tape.trans ht1
 ·exact hgrow.output.trans hp1
 ·have:=hgrow.size; simp only [World.setCell,Array.size_modify]; omega
 ·intro k hk hkb hkv
  rw [hset k hkb,hgrow.block k O0 (fun e=>hkv e.symm),hoth k hkb]
end Go.Abs
end
section
set_option maxRecDepth 100000
namespace Go.Abs
open Go Go.Proofs Go.Sort
open Go.RowKit (Below)
section
variable {P:Program} {gl:Nat→List V} {w0:qQ} {G:Gh} {st:St} {w:World}
theorem Rel.ofBelow (h:Rel gl w0 G st w) {w':World} (hb:Below w.heap.size w w'):Rel gl w0 G st w' where
 below:=h.below.step hb.os hb.tape hb.output hb.size (fun k hk _=>hb.block k hk)
 vars:=fun id cells hc hn=>by
  obtain⟨b,o',h1,h2,h3,h4,h5⟩:=h.vars id cells hc hn
  exact⟨b,o',h1,h2,by rw [hb.block b (qA h3)]; exact h3,h4,h5⟩
 varlt:=fun id b hi hb'=>Nat.lt_of_lt_of_le (h.varlt id b hi hb') hb.size
 sc:=h.sc
 disj:=h.disj
 imm:=fun b i v hv=>by
  obtain⟨hp,c,hc,hr⟩:=h.imm b i v hv
  exact⟨hp,c,by rw [gx (w:=w) (hb.block b (Vv hc))]; exact hc,hr⟩
 fam:=fun t p b e lim ht h1=>by
  obtain⟨h2,C,el,h3,h4⟩:=h.fam t p b e lim ht h1
  exact⟨h2,C,el,by rw [hb.block b (qA h3)]; exact h3,h4⟩
 famdisj:=h.famdisj
 glob:=h.glob
 gfix:=h.gfix
 old:=h.old
theorem Dg {a b:V} {c:Array Value} (h:VRs G [a,b] c):∃x y,c= #[x,y]∧VR G a x∧VR G b y:=by
 obtain⟨l⟩:=c
 match l,h with
 | [],h=>exact absurd h.1 O2
 | [x],h=>exact absurd h.1 O2
 | [x,y],h=>exact⟨x,y,rfl,h.2 0 a x rfl rfl,h.2 1 b y rfl rfl⟩
 |_::_::_::_,h=>exact absurd h.1 O2
theorem cg {a:V} {c:Array Value} (h:VRs G [a] c):∃x,c= #[x]∧VR G a x:=by
 obtain⟨l⟩:=c
 match l,h with
 | [],h=>exact absurd h.1 O2
 | [x],h=>exact⟨x,rfl,h.2 0 a x rfl rfl⟩
 |_::_::_,h=>exact absurd h.1 O2
theorem YS {s:List UInt8} {c:Value} (h:VR G (.str s) c):c= .string ⟨s.toArray⟩:=by
 cases h
 rename_i s'
 obtain⟨⟨l⟩⟩:=s'
 rfl
theorem K3 {f:FuncId} {args:List V} {st:St} {r:V} (hok:YL P f=true) (h:∀(G:Gh) (w:World) (cargs:Array Value),VRs G args cargs→∃c,Calls P f cargs w (fun e w'=>e= .returned c∧w'=w)∧VR G r c∧V.sc st r):wn P gl f args st (Out r st):=
 ⟨hok,fun w0 G w cargs hr hv hs=>by
  obtain⟨c,h1,h2,h3⟩:=h G w cargs hv
  refine h1.mono ?_
  rintro e w' ⟨rfl,rfl⟩
  exact⟨r,c,st,G,rfl,⟨rfl,rfl⟩,h2,h3,hr, .refl _ _, .refl _⟩⟩
end
variable {mx:MX}
def gN (n:Nat) (s:List UInt8) (c:Int):Option Int:=some (Lib.indexByte s c.toNat.toUInt8)
theorem gm {n:Nat} {s:List UInt8} {c:Int} {r:Int} (h:gN n s c=some r):wn Tryz.prog (gl0 mx) 312 [.str s, .int .u8 c] ⟨[],[]⟩ (Out (.int .i64 r) ⟨[],[]⟩):=by
 injection h with h; subst h
 refine K3 O5 ?_
 intro G w cargs hv
 obtain⟨x,y,rfl,h1,h2⟩:=Dg hv
 rw [YS h1]
 cases h2
 exact⟨_,Tryz.strings_IndexByte _ c w, .int _ _,by simp [V.sc]⟩
def X0 (n:Nat) (s sep:List UInt8):Option Int:=match sep with
 | [c]=>some (Lib.countByte s c)
 |_=>none
theorem Qe {n:Nat} {s sep:List UInt8} {r:Int} (h:X0 n s sep=some r):wn Tryz.prog (gl0 mx) 204 [.str s, .str sep] ⟨[],[]⟩ (Out (.int .i64 r) ⟨[],[]⟩):=by
 unfold X0 at h
 split at h
 ·rename_i c
  injection h with h; subst h
  refine K3 O5 ?_
  intro G w cargs hv
  obtain⟨x,y,rfl,h1,h2⟩:=Dg hv
  rw [YS h1,YS h2]
  exact⟨_,Tryz.strings_Count_one _ c w, .int _ _,by simp [V.sc]⟩
 ·cases h
theorem maxLen {w0:qQ} {G:Gh} {st:St} {w:World} (h:Rel (gl0 mx) w0 G st w):w.cell? ⟨0,0,none⟩=some (.int .i64 mx.m):=by
 obtain⟨_,c,hc,hv⟩:=h.imm 0 0 (.int .i64 mx.m) (h.glob 0 0 _ rfl)
 cases hv; exact hc
def pL (n:Nat) (s sep:List UInt8):Option Int:=if s.length<4294967281 then some (Lib.index s sep)else none
theorem J4 {n:Nat} {s sep:List UInt8} {r:Int} (h:pL n s sep=some r):wn Tryz.prog (gl0 mx) 205 [.str s, .str sep] ⟨[],[]⟩ (Out (.int .i64 r) ⟨[],[]⟩):=by
 unfold pL at h
 split at h
 ·rename_i hl
  injection h with h; subst h
  refine⟨O5,fun w0 G w cargs hr hv hs=> ?_⟩
  obtain⟨x,y,rfl,h1,h2⟩:=Dg hv
  rw [YS h1,YS h2]
  refine(Tryz.strings_Index ⟨s.toArray⟩ ⟨sep.toArray⟩ mx.m w (by show(s.toArray).size<4294967281; simpa using hl) (maxLen hr)).mono ?_
  rintro e w' ⟨rfl,rfl⟩
  exact⟨_,_,_,G,rfl,⟨rfl,rfl⟩, .int _ _,by simp [V.sc],hr, .refl _ _, .refl _⟩
 ·cases h
def ZU (n:Nat) (s sep:List UInt8):Option Int:=if s.length<4294967281 then some (Lib.index s sep)else none
theorem Ja {n:Nat} {s sep:List UInt8} {r:Int} (h:ZU n s sep=some r):wn Tryz.prog (gl0 mx) 89 [.str s, .str sep] ⟨[],[]⟩ (Out (.int .i64 r) ⟨[],[]⟩):=by
 unfold ZU at h
 split at h
 ·rename_i hl
  injection h with h; subst h
  refine⟨O5,fun w0 G w cargs hr hv hs=> ?_⟩
  obtain⟨x,y,rfl,h1,h2⟩:=Dg hv
  rw [YS h1,YS h2]
  refine(Tryz.stringslite_Index ⟨s.toArray⟩ ⟨sep.toArray⟩ mx.m w (by show(s.toArray).size<4294967281; simpa using hl) (maxLen hr)).mono ?_
  rintro e w' ⟨rfl,rfl⟩
  exact⟨_,_,_,G,rfl,⟨rfl,rfl⟩, .int _ _,by simp [V.sc],hr, .refl _ _, .refl _⟩
 ·cases h
theorem Rel.tab {gl:Nat→List V} {w0:qQ} {G:Gh} {st:St} {w:World} (h:Rel gl w0 G st w) {g:Nat} {k:IntKind} {zs:List Int} (hz:gl g=zs.map (vI k)) (hn:zs≠ []):∃el fz,w.heap[g]? =some (.cells (zs.map fun z=>Value.int k z).toArray el fz):=by
 obtain⟨h1,C,el,fz,h2,h3⟩:=h.gfix g (by rw [hz]; simpa using hn)
 have e2:w.heap[g]? =w0.w.heap[g]? :=h.below.heap g (Nat.lt_of_not_le fun h=>h1 (.inl h)) (fun h=>h1 (.inr h))
 rw [h2]at e2
 rw [hz,List.length_map]at h3
 refine⟨el,fz, ?_⟩
 rw [e2]
 congr 2
 apply Array.ext
 ·simpa using h3
 ·intro i hi1 hi2
  have hi:i<zs.length:=by rw [←h3]; exact hi1
  obtain⟨_,c,hc,hv⟩:=h.imm g i (.int k zs[i]) (h.glob g i _ (by rw [hz,List.getElem?_map,List.getElem?_eq_getElem hi]; rfl))
  cases hv
  rw [cell_of_heap e2]at hc
  rw [Array.getElem?_eq_getElem hi1]at hc
  injection hc with hc
  rw [hc]; simp
theorem PN {w0 : qQ} {G : Gh} {st : St} {w : World} (h : Rel (gl0 mx) w0 G st w) : Lib.TabIs Tryz.prog w "internal/strconv.uint64pow10" .u64 Lib.pow10Tab := by
 obtain⟨el,fz,e⟩:=h.tab (g:=6) (k:= .u64) (zs:=Bf) rfl O1
 have hg : Tryz.prog.globalNamed "internal/strconv.uint64pow10" = some 6 := by kernel_rfl
 unfold Lib.TabIs World.var?
 rw [hg]
 simp only [Option.bind_some,e]
 rw [show Lib.pow10Tab=Bf by kernel_rfl]
def Yh (n:Nat) (i:Int):Option (List UInt8):=if -9223372036854775808≤i∧i≤9223372036854775807 then some (Lib.itoa i)else none
theorem XN {n:Nat} {i:Int} {r:List UInt8} (h:Yh n i=some r):wn Tryz.prog (gl0 mx) 172 [.int .i64 i] ⟨[],[]⟩ (Out (.str r) ⟨[],[]⟩):=by
 unfold Yh at h
 split at h
 ·rename_i hb
  injection h with h; subst h
  refine⟨O5,fun w0 G w cargs hr hv hs=> ?_⟩
  obtain⟨x,rfl,h1⟩:=cg hv
  cases h1
  refine(Tryz.strconv_Itoa i hb.1 hb.2 w (PN hr)).mono ?_
  rintro e w' ⟨rfl,k,os,rfl⟩
  have hbel:Below w.heap.size w (grow (w.drewN k) os):=⟨rfl,rfl,rfl,O2,fun j hj=>heap_grow_old (w.drewN k) os hj⟩
  exact⟨_,_,_,G,rfl,⟨rfl,rfl⟩, .str ⟨(Lib.itoa i).toArray⟩,by simp [V.sc],hr.ofBelow hbel, .refl _ _, .refl _⟩
 ·cases h
def Vu (n:Nat) (s:List UInt8):Option (Int×Option Unit):=if s.length≤281474976710656 then(match Lib.atoiAll s with| .ok v=>some (v,none)|Lib.NumEnd.syntax=>some (0,some ())| .range=>some (Lib.atoiSat s,some ()))else none
theorem eu {w0:qQ} {G:Gh} {st:St} {w:World} (h:Rel (gl0 mx) w0 G st w) {b t:Nat} (hb:gl0 mx b= [.iface t .junk]):∃c,w.cell? ⟨b,0,none⟩=some (.iface t c):=by
 obtain⟨_,c,hc,hv⟩:=h.imm b 0 (.iface t .junk) (h.glob b 0 _ (by rw [hb]; rfl))
 cases hv; exact⟨_,hc⟩
theorem QK {n:Nat} {s:List UInt8} {r:Int×Option Unit} (h:Vu n s=some r):wn Tryz.prog (gl0 mx) 206 [.str s] ⟨[],[]⟩ (Out (.tuple [.int .i64 r.1,oer 405 r.2]) ⟨[],[]⟩):=by
 have tup:∀(G:Gh) (i:Int) (o:Option Unit) (c:Value),VR G (oer 405 o) c→VR G (.tuple [.int .i64 i,oer 405 o]) (.tuple #[.int .i64 i,c]):=by
  intro G i o c hc
  refine .tuple rfl fun j v x hv hx=> ?_
  match j,hv,hx with
  |0,hv,hx=>cases hv; cases hx; exact .int _ _
  |1,hv,hx=>cases hv; cases hx; exact hc
  |j+2,hv,hx=>simp at hv
 have tsc:∀(i:Int) (o:Option Unit),V.sc ⟨[],[]⟩ (.tuple [.int .i64 i,oer 405 o]):=by
  intro i o; cases o<;>simp [V.sc,V.scs,oer]
 unfold Vu at h
 split at h
 ·rename_i hl
  have hsz:(⟨s.toArray⟩:ByteArray).size≤281474976710656:=by show s.toArray.size≤_; simpa using hl
  refine⟨O5,fun w0 G w cargs hr hv hs=> ?_⟩
  obtain⟨x,rfl,h1⟩:=cg hv
  rw [YS h1]
  split at h
  ·rename_i v hv
   injection h with h; subst h
   refine(Tryz.strconv_Atoi_ok ⟨s.toArray⟩ O0 v hv w).mono ?_
   rintro e w' ⟨rfl,hw⟩
   refine⟨_,_,_,G,rfl,⟨rfl,rfl⟩,tup G _ none _ .niliface,tsc _ _, ?_, .refl _ _, .refl _⟩
   rcases hw with rfl|⟨t,rfl⟩
   ·exact hr
   ·exact hr.ofBelow (Lib.bytesWorld_below _ _ _)
  ·rename_i hv
   injection h with h; subst h
   obtain⟨c,hc⟩:=eu hr (b:=4) rfl
   refine(Tryz.strconv_Atoi_syntax ⟨s.toArray⟩ hsz hv _ w hc (.inr ⟨_,_,rfl⟩)).mono ?_
   rintro e w' ⟨N,rfl,_,_,hbel⟩
   exact⟨_,_,_,G,rfl,⟨rfl,rfl⟩,tup G _ (some ()) _ (.iface (.junk _)),tsc _ _,hr.ofBelow hbel, .refl _ _, .refl _⟩
  ·rename_i hv
   injection h with h; subst h
   obtain⟨c,hc⟩:=eu hr (b:=5) rfl
   refine(Tryz.strconv_Atoi_range ⟨s.toArray⟩ hsz hv _ w hc (.inr ⟨_,_,rfl⟩)).mono ?_
   rintro e w' ⟨N,rfl,_,_,hbel⟩
   exact⟨_,_,_,G,rfl,⟨rfl,rfl⟩,tup G _ (some ()) _ (.iface (.junk _)),tsc _ _,hr.ofBelow hbel, .refl _ _, .refl _⟩
 ·cases h
theorem Db:PJ Tryz.prog 89:=by
 have h:(Tryz.prog.info? 89).bind (·.zero)=some (.agg #[.pointer none, .slice none 0 0]):=O5
 obtain⟨i,h1,h2⟩:=Option.bind_eq_some_iff.1 h
 exact⟨i,h1,h2⟩
def Gy (s s' x:List UInt8):Option (List UInt8):=if s=s'∧x≠ []∧s.length+x.length≤140737488355328 then some (s++x)else none
theorem BP {s s' x r:List UInt8} (h:Gy s s' x=some r):wn Tryz.prog (gl0 mx) 34 [.ptr 0 0, .str x] ⟨[[.bobj 0 1 89 s],[.bbuf 5 s']],[]⟩ (Out (.tuple [.int .i64 x.length, .niliface]) ⟨[[.bobj 0 2 89 r],[],[.bbuf 5 r]],[]⟩):=by
 unfold Gy at h
 split at h
 ·rename_i hc
  obtain⟨rfl,hx,hl⟩:=hc
  injection h with h; subst h
  exact fT Dz O5 hx hl
 ·cases h
def Kk (s s':List UInt8):Option (List UInt8):=if s=s' then some s else none
theorem Bu {s s' r:List UInt8} (h:Kk s s'=some r):wn Tryz.prog (gl0 mx) 36 [.ptr 0 0] ⟨[[.bobj 0 1 89 s],[.bbuf 5 s']],[]⟩ (Out (.str r) ⟨[[],[]],[]⟩):=by
 unfold Kk at h
 split at h
 ·rename_i hc
  subst hc
  injection h with h; subst h
  exact eU (ρ:=Tryz.lays169_ren) Tryz.lays169 Tryz.Builder_Extra_169 O5
 ·cases h
end Go.Abs
end
