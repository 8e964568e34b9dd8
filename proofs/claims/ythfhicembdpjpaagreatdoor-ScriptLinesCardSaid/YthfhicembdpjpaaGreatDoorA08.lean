/- Abstract values: a part. No condition beyond each statement's own. -/
import Derived.Test.YthfhicembdpjpaaGreatDoorA07
set_option linter.all false
section
namespace Go.Abs
open Go.RowKit (Below)
section
variable {P:Program} {gl:Nat→List V} {w0:qQ} {G:Gh} {st:St} {w:World}
theorem VR.add {x v:V} {c:Value} {k:Nat} (hx:VR G x c) (h:x.add k=some v):∃b o,c= .pointer (some ⟨b,o,none⟩)∧VR G v (.pointer (some ⟨b,o+k,none⟩)):=by
 cases hx with
 |ptr hb=>simp only [V.add]at h; injection h with h; subst h; exact⟨_,_,rfl, .ptr hb⟩
 |gptr=>simp only [V.add]at h; injection h with h; subst h; exact⟨_,_,rfl, .gptr _ _⟩
 |eptr hr=>simp only [V.add]at h; injection h with h; subst h; exact⟨_,_,rfl,by rw [Nat.add_assoc]; exact .eptr hr⟩
 |_=>simp [V.add]at h
theorem V.sc_add {x v:V} {k:Nat} (h:x.add k=some v) (hs:V.sc st x):V.sc st v:=by
 cases x<;>simp only [V.add]at h<;>first|(cases h; done)|(injection h with h; subst h; simpa [V.sc] using hs)
theorem J3 (h:Rel gl w0 G st w) {s:TypeId} {fs:List (Nat×Nat)} (hd:(ti P s).d= .struct fs) {f off n:Nat} (hf:fs[f]? =some (off,n)) (hn:n≠0) {x v:V} {c:Value} (hx:VR G x c) (hsx:V.sc st x)
  (hv:x.add off=some v):SOK P gl w0 G st w (Instr.fieldAt s c f) v st:=by
 obtain⟨fields,hu,hfs,hok⟩:=WK hd
 rw [hfs,List.getElem?_map]at hf
 cases hq:fields.toList[f]? with
 |none=>rw [hq]at hf; cases hf
 | some q=>
  rw [hq]at hf; simp at hf; obtain⟨rfl,rfl⟩:=hf
  obtain⟨i,hi⟩:=Option.isSome_iff_exists.1 (hok q (List.mem_of_getElem? hq))
  have hsz:P.cellsOf q.type=i.size:=by simp [Program.cellsOf,hi]
  obtain⟨b,o,rfl,hv'⟩:=VR.add hx hv
  refine SOK.same h (c:= .pointer (some ⟨b,o+q.offset,none⟩)) ?_ hv' (V.sc_add hv hsx)
  have hq':fields[f]? =some q:=by rw [←Array.getElem?_toList]; exact hq
  rw [hsz]at hn
  simp only [Instr.fieldAt,iB,run_underlying hu,iA,hq',Instr.sureAddr,iC,fieldPlace,xA hi,hn,if_false,j6]
theorem Jv (h:Rel gl w0 G st w) {t:TypeId} {x v:V} {c:Value} {k:IntKind} {i:Int} (hx:VR G x c) (hsx:V.sc st x) (hv:kp (ti P t).d x i=some v):
  SOK P gl w0 G st w (Instr.indexAt t c (.int k i)) v st:=by
 unfold kp at hv
 split at hv
 ·rename_i n sz hd
  split at hv
  ·rename_i hb
   obtain⟨e,ie,hu,hi,hsz⟩:=UW hd
   obtain⟨b,o,rfl,hv'⟩:=VR.add hx hv
   refine SOK.same h (c:= .pointer (some ⟨b,o+i.toNat*sz,none⟩)) ?_ hv' (V.sc_add hv hsx)
   simp only [Instr.indexAt,asIntOf,iB,iC,iA,run_underlying hu,Instr.sureAddr]
   simp only [hb,and_self,if_true,iB,xA hi,iA,iC,j6,hsz]
  ·cases hv
 ·rename_i e sz by_ sz' es tok hd
  split at hv
  ·rename_i hb
   obtain⟨rfl,h0⟩:=hb
   split at hv
   ·rename_i el hel
    injection hv with hv; subst hv
    have h1:i<es.length:=by
     rcases Nat.lt_or_ge i.toNat es.length with h'|h'
     ·omega
     ·rw [List.getElem?_eq_none h']at hel; cases hel
    obtain⟨hu,ie,hi,hsz,_⟩:=xM hd
    cases hx with
    | sl hr ht hl=>
     rename_i b o cap
     refine SOK.same h (c:= .pointer (some ⟨b,o+i.toNat*sz+0,none⟩)) ?_ (.eptr (hr i.toNat el hel).2) (by simp [V.sc])
     simp only [Instr.indexAt,asIntOf,iB,iC,iA,run_underlying hu]
     simp only [h0,h1,and_self,if_true,iB,xA hi,iA,iC,j6,hsz,Nat.add_zero]
    |slnil=>simp at h1; omega
    |slz=>simp at h1; omega
   ·cases hv
  ·cases hv
 ·rename_i e sz by_ id off len cap sz' hd
  split at hv
  ·rename_i hb
   obtain⟨rfl,h0,h1⟩:=hb
   injection hv with hv; subst hv
   obtain⟨hu,ie,hi,hsz,_⟩:=xM hd
   cases hx with
   | rsl hb=>
    rename_i b
    refine SOK.same h (c:= .pointer (some ⟨b,off+i.toNat*sz,none⟩)) ?_ (.ptr hb) (by simpa [V.sc] using hsx)
    simp only [Instr.indexAt,asIntOf,iB,iC,iA,run_underlying hu]
    simp only [h0,h1,and_self,if_true,iB,xA hi,iA,iC,j6,hsz,Nat.add_zero]
  ·cases hv
 ·rename_i e sz by_ id n sz' hd
  split at hv
  ·rename_i hb
   obtain⟨rfl,h0,h1⟩:=hb
   injection hv with hv; subst hv
   obtain⟨hu,ie,hi,hsz,_⟩:=xM hd
   cases hx with
   | own hpos hb hc1 hc2=>
    rename_i b cap
    refine SOK.same h (c:= .pointer (some ⟨b,0+i.toNat*sz,none⟩)) ?_ (by rw [Nat.zero_add]; exact .ptr hb) (by simpa [V.sc] using hsx)
    simp only [Instr.indexAt,asIntOf,iB,iC,iA,run_underlying hu]
    simp only [h0,h1,and_self,if_true,iB,xA hi,iA,iC,j6,hsz,Nat.zero_add]
   |ownnil=>exact absurd h1 O3
   |ownz=>exact absurd h1 O3
  ·cases hv
 ·cases hv
theorem QZ {t:TypeId} {x v:V} {c:Value} {k:IntKind} {i:Int} (hx:VR G x c) (hv:WA (ti P t).d x i=some v):
  ∃r,(Instr.index t c (.int k i)).run P w= .ok r w∧VR G v r∧V.sc st v:=by
 unfold WA at hv
 split at hv
 ·rename_i s hd
  split at hv
  ·rename_i h0
   split at hv
   ·rename_i b hb
    injection hv with hv; subst hv
    cases hx
    rename_i s'
    refine⟨.int .u8 b.toNat, ?_, .int _ _,by simp [V.sc]⟩
    have:s'[i.toNat]? =some b:=by
     have hlt:i.toNat<s'.data.size:=by
      rcases Nat.lt_or_ge i.toNat s'.data.size with h'|h'
      ·exact h'
      ·rw [List.getElem?_eq_none (by simpa using h')]at hb; cases hb
     rw [ByteArray.getElem?_lt' s' i.toNat hlt]
     rw [List.getElem?_eq_getElem (O7 hlt)]at hb
     injection hb with hb
     rw [←hb]; rfl
    simp only [Instr.index,asIntOf,iB,iC,iA,run_underlying (br hd),h0,if_true,this]
   ·cases hv
  ·cases hv
 ·cases hv
theorem GR {t:TypeId} {ty:TypeId} {x v:V} {c:Value} (hx:VR G x c) (hv:QC (ti P t).d x=some v):
  ∃r,(Builtin.len_ #[t] ty #[c]).run P w= .ok r w∧VR G v r∧V.sc st v:=by
 unfold QC at hv
 split at hv
 ·rename_i s hd
  injection hv with hv; subst hv
  cases hx
  rename_i s'
  refine⟨goInt s'.size,by simp [Builtin.len_,run_underlying (br hd)], ?_,by simp [V.sc]⟩
  have:(s'.data.toList.length:Int)=s'.size:=O2
  rw [this]; exact .int _ _
 ·rename_i hd
  injection hv with hv; subst hv
  obtain⟨hu,_⟩:=xM hd
  cases hx with
  |sl=>exact⟨_,by simp [Builtin.len_,run_underlying hu]; rfl, .int _ _,by simp [V.sc]⟩
  |slnil=>exact⟨_,by simp [Builtin.len_,run_underlying hu]; rfl, .int _ _,by simp [V.sc]⟩
  |slz=>exact⟨_,by simp [Builtin.len_,run_underlying hu]; rfl, .int _ _,by simp [V.sc]⟩
 ·rename_i hd
  injection hv with hv; subst hv
  obtain⟨hu,_⟩:=xM hd
  cases hx
  exact⟨_,by simp [Builtin.len_,run_underlying hu]; rfl, .int _ _,by simp [V.sc]⟩
 ·rename_i hd
  injection hv with hv; subst hv
  obtain⟨hu,_⟩:=xM hd
  cases hx
  exact⟨_,by simp [Builtin.len_,run_underlying hu]; rfl, .int _ _,by simp [V.sc]⟩
 ·rename_i hd
  injection hv with hv; subst hv
  obtain⟨hu,_⟩:=xM hd
  cases hx with
  |own=>exact⟨_,by simp [Builtin.len_,run_underlying hu]; rfl, .int _ _,by simp [V.sc]⟩
  |ownnil=>exact⟨_,by simp [Builtin.len_,run_underlying hu]; rfl, .int _ _,by simp [V.sc]⟩
  |ownz=>exact⟨_,by simp [Builtin.len_,run_underlying hu]; rfl, .int _ _,by simp [V.sc]⟩
 ·rename_i n sz hd
  injection hv with hv; subst hv
  obtain⟨e,i,hu,_⟩:=UW hd
  refine⟨goInt n, ?_, .int _ _,by simp [V.sc]⟩
  simp only [Builtin.len_,Array.getElem?_singleton,List.size_toArray,List.length_singleton,List.getElem?_toArray,List.getElem?_cons_zero,iB,run_underlying hu,iA]
  cases c<;>rfl
 ·cases hv
theorem kX {len m:Nat} {lo hi:Option V} {clo chi:Option Value} {l h:Nat} (hlo:∀v c,lo=some v→clo=some c→VR G v c) (hhi:∀v c,hi=some v→chi=some c→VR G v c)
  (hl1:lo.isSome=clo.isSome) (hl2:hi.isSome=chi.isSome) (hm:len≤m) (isS:Bool) (hb:qM len lo hi=some (l,h)):
  (Instr.sliceBounds isS len m clo chi none).run P w= .ok (l,h,m) w∧l≤h∧h≤len:=by
 unfold qM at hb
 cases hi with
 | none=>
  cases chi with
  |some c=>simp at hl2
  | none=>
   simp only at hb
   cases lo with
   | none=>
    cases clo with
    |some c=>simp at hl1
    | none=>
     simp only [Option.some.injEq,Prod.mk.injEq]at hb
     obtain⟨rfl,rfl⟩:=hb
     exact⟨by simp [Instr.sliceBounds],O0,O0⟩
   | some v=>
    cases clo with
    |none=>simp at hl1
    | some c=>
     have hv:=hlo v c rfl rfl
     cases hv<;>simp only at hb<;>first|(cases hb; done)|skip
     rename_i k i
     split at hb
     ·rename_i hbb
      simp only [Option.some.injEq,Prod.mk.injEq]at hb
      obtain⟨rfl,rfl⟩:=hb
      exact⟨by simp [Instr.sliceBounds,Instr.sliceBound,asIntOf,hbb],O0,O0⟩
     ·cases hb
 | some vh=>
  cases chi with
  |none=>simp at hl2
  | some ch=>
   have hvh:=hhi vh ch rfl rfl
   cases hvh<;>simp only at hb<;>first|(cases hb; done)|skip
   rename_i kh ih
   split at hb
   ·cases hb
   ·rename_i hq
    split at hq
    ·rename_i hbh
     injection hq with hq; subst hq
     have hbh':0≤ih∧ih≤(m:Int):=⟨hbh.1,O0⟩
     cases lo with
     | none=>
      cases clo with
      |some c=>simp at hl1
      | none=>
       simp only [Option.some.injEq,Prod.mk.injEq]at hb
       obtain⟨rfl,rfl⟩:=hb
       exact⟨by simp [Instr.sliceBounds,Instr.sliceBound,asIntOf,hbh'],O0,O0⟩
     | some v=>
      cases clo with
      |none=>simp at hl1
      | some c=>
       have hv:=hlo v c rfl rfl
       cases hv<;>simp only at hb<;>first|(cases hb; done)|skip
       rename_i k i
       split at hb
       ·rename_i hbb
        simp only [Option.some.injEq,Prod.mk.injEq]at hb
        obtain⟨rfl,rfl⟩:=hb
        exact⟨by simp only [Instr.sliceBounds,Instr.sliceBound,asIntOf,iB,iC,iA,hbh',hbb,and_self,if_true],O0,O0⟩
       ·cases hb
    ·cases hq
theorem bo.slice {b o sz l h:Nat} {es:List (List V)} (hr:bo G b o sz es) (hl:l≤h):bo G b (o+l*sz) sz ((es.take h).drop l):=by
 intro i e he
 rw [List.getElem?_drop,List.getElem?_take]at he
 split at he
 ·have:=hr (l+i) e he
  refine⟨this.1,fun j v hv=> ?_⟩
  have:=this.2 j v hv
  rw [show o+l*sz+i*sz+j=o+(l+i)*sz+j by rw [Nat.add_mul]; omega]
  exact this
 ·cases he
theorem bo.nil {b o sz:Nat}:bo G b o sz []:=fun i e he=>by simp at he
theorem QY (h:Rel gl w0 G st w) {t:TypeId} {x v:V} {c:Value} {lo hi mx:Option V} {clo chi cmx:Option Value} (hx:VR G x c) (hsx:V.sc st x)
  (hlo:∀v c,lo=some v→clo=some c→VR G v c) (hhi:∀v c,hi=some v→chi=some c→VR G v c) (hl1:lo.isSome=clo.isSome) (hl2:hi.isSome=chi.isSome) (hl3:mx.isSome=cmx.isSome)
  (hv:bt (ti P t).d x lo hi mx=some v):SOK P gl w0 G st w (Instr.sliceAt t c clo chi cmx) v st:=by
 unfold bt at hv
 split at hv
 ·cases hv
 ·have hmx:cmx=none:=by cases cmx<;>simp_all
  subst hmx
  split at hv
  ·rename_i s hd
   split at hv
   ·rename_i l h' hb
    injection hv with hv; subst hv
    cases hx
    rename_i s'
    have hu:=br hd
    have hsz:s'.data.toList.length=s'.size:=O2
    rw [hsz]at hb
    obtain⟨hrun,h1,h2⟩:=kX (P:=P) (w:=w) (m:=s'.size) hlo hhi hl1 hl2 (Nat.le_refl _) false hb
    refine SOK.same h (c:= .string (s'.extract l h')) ?_ ?_ (by simp [V.sc])
    ·simp only [Instr.sliceAt,iB,run_underlying hu,iA,Instr.slice,hrun]
     simp [hrun]
    ·have:(s'.extract l h').data.toList=(s'.data.toList.take h').drop l:=by
      rw [ByteArray.data_extract,Array.toList_extract]
      simp [List.extract,List.drop_take]
     rw [←this]; exact .str _
   ·cases hv
  ·rename_i e sz by_ sz' es tok hd
   split at hv
   ·rename_i l h' hb
    split at hv
    ·rename_i hszz
     subst hszz
     injection hv with hv; subst hv
     obtain⟨hu,i,hi',hsz,_⟩:=xM hd
     cases hx with
     | sl hr ht hl=>
      rename_i b o cap
      obtain⟨hrun,h1,h2⟩:=kX (P:=P) (w:=w) (m:=cap) hlo hhi hl1 hl2 hl true hb
      have hlen:((es.take h').drop l).length=h'-l:=O3
      refine SOK.same h (c:= .slice (some ⟨b,if cap=l then o else o+l*sz,none⟩) (h'-l) (cap-l)) ?_ ?_ ?_
      ·simp only [Instr.sliceAt,iB,run_underlying hu,iA,Instr.slice,hrun,xA hi',iC,←hsz]
       by_cases hc:cap=l
       ·simp [hc]
       ·simp [hc,j6]
      ·rw [←hlen]
       by_cases hc:cap=l
       ·have he:(es.take h').drop l= []:=by
         apply List.eq_nil_of_length_eq_zero; rw [hlen]; omega
        rw [if_pos hc,he]
        exact .sl bo.nil trivial O2
       ·rw [if_neg hc]
        exact .sl (hr.slice h1) trivial (by rw [hlen]; omega)
      ·simp [V.sc]
     | slnil=>
      obtain⟨hrun,h1,h2⟩:=kX (P:=P) (w:=w) (m:=0) hlo hhi hl1 hl2 (Nat.le_refl _) true (l:=l) (h:=h') (O7 hb)
      have h3:l=0:=O0
      have h4:h'=0:=O0
      subst h3 h4
      refine SOK.same h (c:= .slice none 0 0) ?_ (by simp; exact .slnil _ _) (by simp [V.sc])
      simp only [Instr.sliceAt,iB,run_underlying hu,iA,Instr.slice,hrun,xA hi',iC]
      simp
     | slz _ a=>
      obtain⟨hrun,h1,h2⟩:=kX (P:=P) (w:=w) (m:=0) hlo hhi hl1 hl2 (Nat.le_refl _) true (l:=l) (h:=h') (O7 hb)
      have h3:l=0:=O0
      have h4:h'=0:=O0
      subst h3 h4
      refine SOK.same h (c:= .slice (some a) 0 0) ?_ (by simp; exact .slz _ _) (by simp [V.sc])
      simp only [Instr.sliceAt,iB,run_underlying hu,iA,Instr.slice,hrun,xA hi',iC]
      simp
    ·cases hv
   ·cases hv
  ·rename_i e sz by_ id n sz' hd
   split at hv
   ·rename_i l h' hb
    split at hv
    ·rename_i hszz
     obtain⟨rfl,rfl⟩:=hszz
     injection hv with hv; subst hv
     obtain⟨hu,i,hi',hsz,_⟩:=xM hd
     cases hx with
     | own h0 hbb hcap hroom=>
      rename_i b cap
      obtain⟨hrun,h1,h2⟩:=kX (P:=P) (w:=w) (m:=cap) hlo hhi hl1 hl2 hcap true hb
      refine SOK.same h (c:= .slice (some ⟨b,0,none⟩) h' cap) ?_ (by
       rcases Nat.eq_zero_or_pos h' with hz|hpos
       ·subst hz; exact .ownz _ _ _ _
       ·exact .own hpos hbb O0 hroom) (by simpa [V.sc] using hsx)
      simp only [Instr.sliceAt,iB,run_underlying hu,iA,Instr.slice,hrun,xA hi',iC,←hsz]
      have:¬cap=0:=O0
      simp [this,j6]
     | ownnil=>
      obtain⟨hrun,h1,h2⟩:=kX (P:=P) (w:=w) (m:=0) hlo hhi hl1 hl2 (Nat.le_refl _) true hb
      have hz:h'=0:=O0
      subst hz
      refine SOK.same h (c:= .slice none 0 0) ?_ (.ownnil _ _) (by simpa [V.sc] using hsx)
      simp only [Instr.sliceAt,iB,run_underlying hu,iA,Instr.slice,hrun,xA hi',iC,←hsz]
      simp
     | ownz id1 sz1 b1 cap1=>
      obtain⟨hrun,h1,h2⟩:=kX (P:=P) (w:=w) (m:=cap1) hlo hhi hl1 hl2 (Nat.zero_le _) true hb
      have hz:h'=0:=O0
      subst hz
      refine SOK.same h (c:= .slice (some ⟨b1,0,none⟩) 0 cap1) ?_ (.ownz _ _ _ _) (by simpa [V.sc] using hsx)
      simp only [Instr.sliceAt,iB,run_underlying hu,iA,Instr.slice,hrun,xA hi',iC,←hsz]
      by_cases hcz:cap1=0
      ·simp [hcz]
      ·simp [hcz,j6]
    ·cases hv
   ·cases hv
  ·rename_i hd
   split at hv
   ·rename_i q hb
    injection hv with hv; subst hv
    obtain⟨hu,i,hi',hsz,_⟩:=xM hd
    cases hx
    obtain⟨hrun,h1,h2⟩:=kX (P:=P) (w:=w) (m:=0) hlo hhi hl1 hl2 (Nat.le_refl _) true (l:=q.1) (h:=q.2) (O7 hb)
    refine SOK.same h (c:= .slice none 0 0) ?_ .nilsl (by simp [V.sc])
    simp only [Instr.sliceAt,iB,run_underlying hu,iA,Instr.slice,hrun,xA hi',iC]
    have:q.2-q.1=0:=O0
    have h3:q.1=0:=O0
    have h4:q.2=0:=O0
    simp [h4,h3]
   ·cases hv
  ·rename_i e sz by_ id off len cap sz' hd
   split at hv
   ·rename_i l h' hb
    split at hv
    ·rename_i hszz
     obtain⟨rfl,hlc,hcap⟩:=hszz
     injection hv with hv; subst hv
     obtain⟨hu,i,hi',hsz,_⟩:=xM hd
     cases hx with
     | rsl hbb=>
      rename_i b
      obtain⟨hrun,h1,h2⟩:=kX (P:=P) (w:=w) (m:=cap) hlo hhi hl1 hl2 hcap true hb
      refine SOK.same h (c:= .slice (some ⟨b,off+l*sz,none⟩) (h'-l) (cap-l)) ?_ (.rsl hbb) (by simpa [V.sc] using hsx)
      simp only [Instr.sliceAt,iB,run_underlying hu,iA,Instr.slice,hrun,xA hi',iC,←hsz]
      have:¬cap=l:=O0
      simp [this,j6]
    ·cases hv
   ·cases hv
  ·rename_i n sz id off hd
   split at hv
   ·rename_i l h' hb
    split at hv
    ·rename_i hln
     injection hv with hv; subst hv
     obtain⟨e,i,hu,hi',hsz⟩:=UW hd
     cases hx with
     | ptr hbb=>
      rename_i b
      obtain⟨hrun,h1,h2⟩:=kX (P:=P) (w:=w) (m:=n) hlo hhi hl1 hl2 (Nat.le_refl _) false hb
      refine SOK.same h (c:= .slice (some ⟨b,off+l*sz,none⟩) (h'-l) (n-l)) ?_ (.rsl hbb) (by simpa [V.sc] using hsx)
      simp only [Instr.sliceAt,iB,run_underlying hu,iA,Instr.sureAddr,hrun,xA hi',iC,←hsz]
      have:¬n=l:=O0
      simp [this,j6]
    ·cases hv
   ·cases hv
  ·cases hv
end
end Go.Abs
end
