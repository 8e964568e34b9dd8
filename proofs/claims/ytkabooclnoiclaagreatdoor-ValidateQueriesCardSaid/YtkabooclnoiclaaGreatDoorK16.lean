/- Closed runs. No condition. -/
import Derived.Test.YtkabooclnoiclaaGreatDoorK15
set_option linter.all false
section
namespace Go.K
open Go Go.Abs Go.Proofs
def keysT:List (Nat×Nat):= [(12725707683775666000302814738504099093,106435922212087617089263139067213656769005017651812643755006322942407154877074),(188545991767399300246383999770736327635,111825699021894413452298923695497208821234468752023785523217680600707366416539),(129007313541863090308702653736847911794,54967253478094640474904006820005203784724201575334798011888301524421222968876),(118586307966089301700146650516496502549,62945824017989252872913906997001986320777313712189729283714431032379016149823),(90484985760608241103099294836509834893,85010709446449582241315799880555295176934249965802174470519043693130238573457),(329191072699994746415341912359511606127,63709653389580343451589975865475144555245453803958445710867943048998925228511),(240294353576658090839126703083171867714,29075055961723821492703770638560127153437316825577720414005412365900100326957),(128711221776638471773247237290104101200,3472070592169079030495999569721045308245582589052054138322261170441750118911)]
def keysT_ok:Ws keysT:=by
 have h:(keysT.all fun p=>Nat.blt p.1 (Nat.pow 256 16)&&Nat.blt p.2 (Nat.pow 256 32))=true:=by kernel_rfl
 intro p a;have:=List.all_eq_true.1 h p a;rw [iF]at this;exact⟨iD this.1,iD this.2⟩
def mH:Tryz.prog.globals.size<=1000:=by
 have h:Nat.ble Tryz.prog.globals.size 1000=true:=by kernel_rfl
 exact iD h
def fL:yes ((qgo (X0 keysT) 300).call 10 [] hE0 fun v h=>some (v,h))=true:=by kernel_rfl
def awake_ok (h:KH):KCall Tryz.prog 10 [] h (.bool true) h:=f5 (X0_ok keysT_ok) mH rfl fL h
end Go.K
end
section
set_option maxRecDepth 100000
namespace Go.Abs
open Go Go.Proofs
open Go.RowKit (Below)
section
variable {P:Program} {gl:Nat->List V} {w0:xi} {G:Gh} {st:St} {w:World}
def Rel.ofBelow (h:Rel gl w0 G st w) {w':World} (a:Below w.heap.size w w'):Rel gl w0 G st w' where
 below:=h.below.step a.os a.tape a.output a.size (fun k s _=>a.block k s)
 vars:=fun id cells g x=>by
  obtain⟨b,E,j,l,f,m,q⟩:=h.vars id cells g x;exact⟨b,E,j,l,by rw [a.block b (heap_lt f)]; exact f,m,q⟩
 varlt:=fun id b r n=>Nat.lt_of_lt_of_le (h.varlt id b r n) a.size
 sc:=h.sc
 disj:=h.disj
 imm:=fun b i v B=>by
  obtain⟨y,c,g,z⟩:=h.imm b i v B;exact⟨y,c,by rw [bS (w:=w) (a.block b (Ku g))]; exact g,z⟩
 fam:=fun t p b e lim A j=>by
  obtain⟨l,C,o,f,m⟩:=h.fam t p b e lim A j;exact⟨l,C,o,by rw [a.block b (heap_lt f)]; exact f,m⟩
 famdisj:=h.famdisj
 glob:=h.glob
 gfix:=h.gfix
 old:=h.old
def se {a b:V} {c:Array Value} (h:VRs G [a,b] c):∃x y,c= #[x,y]∧VR G a x∧VR G b y:=by
 obtain⟨l⟩:=c
 match l,h with
 | [],h=>exact absurd h.1 (by simp)
 | [x],h=>exact absurd h.1 (by simp)
 | [x,y],h=>exact⟨x,y,rfl,h.2 0 a x rfl rfl,h.2 1 b y rfl rfl⟩
 |_::_::_::_,h=>exact absurd h.1 (by simp)
def zdy {a:V} {c:Array Value} (h:VRs G [a] c):∃x,c= #[x]∧VR G a x:=by
 obtain⟨l⟩:=c
 match l,h with
 | [],h=>exact absurd h.1 (by simp)
 | [x],h=>exact⟨x,rfl,h.2 0 a x rfl rfl⟩
 |_::_::_,h=>exact absurd h.1 (by simp)
def Yl {s:List UInt8} {c:Value} (h:VR G (.str s) c):c= .string ⟨s.toArray⟩:=by
 cases h;rename_i a;obtain⟨⟨l⟩⟩:=a;rfl
def cP {f:FuncId} {args:List V} {st:St} {r:V} (b:XC P f=true) (h:∀(G:Gh) (w:World) (a:Array Value),VRs G args a->∃c,Calls P f a w (fun e w'=>e= .returned c∧w'=w)∧VR G r c∧V.sc st r):xO P gl f args st (Out r st):=
 ⟨b,fun w0 G w a k l m=>by
  obtain⟨c,g,i,j⟩:=h G w a l;refine g.mono ?_;rintro e w' ⟨rfl,rfl⟩
  exact⟨r,c,st,G,rfl,⟨rfl,rfl⟩,i,j,k, .refl _ _, .refl _⟩⟩
end
end Go.Abs
end
section
set_option maxRecDepth 100000
namespace Go.Abs
open Go Go.Proofs
def Rel.k0 {gl:Nat->List V} {w0:xi} {G:Gh} {st:St} {w:World} (h:Rel gl w0 G st w) (g:gl 2≠ []):K.KRel ⟨w,fun _=>False,fun _ _=>none⟩ (⟨fun id=>if id<3 then some (id,0)else none,fun _=>0⟩:K.Gh) K.hE0 w where
 kept:=ZU.refl w _ _
 blk:=fun id o e=>by
  have:K.hE0.get id=none:=K.N64k.get_empty _;rw [this]at e; cases e
 lt :=fun id b k e=>by
  have e:(if id<3 then some (id,0)else none)=some (b,k):=e;split at e
  ·rename_i c;cases e;obtain⟨m,C,l,fz,f,_⟩:=h.gfix 2 g;exact⟨Nat.lt_of_lt_of_le (Nat.lt_of_le_of_lt (Nat.le_of_lt_succ c) (heap_lt f)) h.below.size,Nat.lt_of_lt_of_le c (by decide)⟩
  ·cases e
 sep:=fun i j oi oj b ki kj a=>by
  have:K.hE0.get i=none:=K.N64k.get_empty _;rw [this]at a; cases a
 top:=by decide
 res:=fun id o b k e=>by
  have:K.hE0.get id=none:=K.N64k.get_empty _;rw [this]at e; cases e
def zaN:Tryz.prog.globals.size=3:=by kernel_rfl
def ofK {gl:Nat->List V} (n:gl 2≠ []) {f:FuncId} {args:List V} {ka:List K.KV} {v:K.KV} {h':K.KH} {r:V} (j:XC Tryz.prog f=true) (k:K.KCall Tryz.prog f ka K.hE0 v h') (o:∀(G:Gh) (G':K.Gh) (c:Array Value),VRs G args c->K.KRs G' ka c) (q:∀(G:Gh) (G':K.Gh) (c:Value),K.KR G' v c->VR G r c) (s:V.sc ⟨[],[]⟩ r):xO Tryz.prog gl f args ⟨[],[]⟩ (Out r ⟨[],[]⟩):=by
 refine⟨j,fun w0 G w b m l _=> ?_⟩;have i:K.Glob Tryz.prog (⟨fun id=>if id<3 then some (id,0)else none,fun _=>0⟩:K.Gh):=fun g i=>iI (by rw [zaN]at i; exact i);refine(callsIn_wide.1 (k _ _ w b 0 i (m.k0 n) (o G _ _ l))).mono ?_;rintro e W' ⟨t,G',rfl,_,l,a⟩;exact⟨_,_,_,G,rfl,⟨rfl,rfl⟩,q _ _ _ l,s,m.ofBelow ⟨a.kept.os,a.kept.tape,a.kept.output,a.kept.size,fun k p=>a.kept.heap k p (fun h=>h)⟩, .refl _ _, .refl _⟩
def za5 {gl:Nat->List V} (a:gl 2≠ []):xO Tryz.prog gl 10 [] ⟨[],[]⟩ (Out (.bool true) ⟨[],[]⟩):=
 ofK a (by kernel_rfl) (K.awake_ok K.hE0) (fun G G' c h=>⟨h.1,fun i v c e=>by simp at e⟩) (fun G G' c h=>by cases h; exact .bool _) trivial
end Go.Abs
end
section
set_option maxRecDepth 100000
namespace Go.Abs
open Go Go.Proofs
open Go.RowKit (Below)
variable {mx:Nat->List V} [MxOk mx]
def kT (n:Nat) (s:List UInt8) (c:Int):Option Int:=some (Lib.indexByte s c.toNat.toUInt8)
def pC {n:Nat} {s:List UInt8} {c:Int} {r:Int} (h:kT n s c=some r):xO Tryz.prog (gl0 mx) 198 [.str s, .int .u8 c] ⟨[],[]⟩ (Out (.int .i64 r) ⟨[],[]⟩):=by
 cases h;refine cP (by kernel_rfl) ?_;intro G w a f;obtain⟨x,y,rfl,b,e⟩:=se f;rw [Yl b];cases e;exact⟨_,Tryz.strings_IndexByte _ c w, .int _ _,by simp [V.sc]⟩
def YX (n:Nat) (s sep:List UInt8):Option Int:=match sep with
 | [c]=>some (Lib.countByte s c)
 |_=>none
def Ga {n:Nat} {s sep:List UInt8} {r:Int} (h:YX n s sep=some r):xO Tryz.prog (gl0 mx) 255 [.str s, .str sep] ⟨[],[]⟩ (Out (.int .i64 r) ⟨[],[]⟩):=by
 unfold YX at h;split at h
 ·rename_i c;cases h;refine cP (by kernel_rfl) ?_;intro G w a f;obtain⟨x,y,rfl,b,e⟩:=se f;rw [Yl b,Yl e];exact⟨_,Tryz.strings_Count_one _ c w, .int _ _,by simp [V.sc]⟩
 ·cases h
def maxLen {w0:xi} {G:Gh} {st:St} {w:World} (h:Rel (gl0 mx) w0 G st w):∃m,w.cell? ⟨0,0,none⟩=some (.int .i64 m):=by
 obtain⟨m,e⟩:=MxOk.zero (mx:=mx);obtain⟨_,c,a,b⟩:=h.imm 0 0 (.int .i64 m) (h.glob 0 0 _ (by show(mx 0)[0]? =_; rw [e]; rfl));cases b; exact⟨m,a⟩
def qO (n:Nat) (s sep:List UInt8):Option Int:=if s.length<4294967281 then some (Lib.index s sep)else none
def WJ {n:Nat} {s sep:List UInt8} {r:Int} (h:qO n s sep=some r):xO Tryz.prog (gl0 mx) 256 [.str s, .str sep] ⟨[],[]⟩ (Out (.int .i64 r) ⟨[],[]⟩):=by
 unfold qO at h;split at h
 ·rename_i g;cases h;refine⟨by kernel_rfl,fun w0 G w a b j k=> ?_⟩;obtain⟨x,y,rfl,c,f⟩:=se j;rw [Yl c,Yl f];obtain⟨m,i⟩:=maxLen b;refine(Tryz.strings_Index ⟨s.toArray⟩ ⟨sep.toArray⟩ m w (by show(s.toArray).size<4294967281; simpa using g) i).mono ?_;rintro e l ⟨rfl,rfl⟩;exact⟨_,_,_,G,rfl,⟨rfl,rfl⟩, .int _ _,by simp [V.sc],b, .refl _ _, .refl _⟩
 ·cases h
def Zz (n:Nat) (s sep:List UInt8):Option Int:=if s.length<4294967281 then some (Lib.index s sep)else none
def Qv {n:Nat} {s sep:List UInt8} {r:Int} (h:Zz n s sep=some r):xO Tryz.prog (gl0 mx) 306 [.str s, .str sep] ⟨[],[]⟩ (Out (.int .i64 r) ⟨[],[]⟩):=by
 unfold Zz at h;split at h
 ·rename_i g;cases h;refine⟨by kernel_rfl,fun w0 G w a b j k=> ?_⟩;obtain⟨x,y,rfl,c,f⟩:=se j;rw [Yl c,Yl f];obtain⟨m,i⟩:=maxLen b;refine(Tryz.stringslite_Index ⟨s.toArray⟩ ⟨sep.toArray⟩ m w (by show(s.toArray).size<4294967281; simpa using g) i).mono ?_;rintro e l ⟨rfl,rfl⟩;exact⟨_,_,_,G,rfl,⟨rfl,rfl⟩, .int _ _,by simp [V.sc],b, .refl _ _, .refl _⟩
 ·cases h
def Zt (n:Nat):Option Bool:=some true
def Zo {n:Nat} {r:Bool} (h:Zt n=some r):xO Tryz.prog (gl0 mx) 10 [] ⟨[],[]⟩ (Out (.bool r) ⟨[],[]⟩):=by
 cases h;exact za5 (MxOk.two (mx:=mx))
noncomputable def zct (v:K.KV):Option zR:=match v with
 | .agg [.int .i64 h, .str l1 n1, .str l2 n2]=>if h1:n1<256^l1 then if h2:n2<256^l2 then some ⟨h,(K.natOf_ex l1 n1 h1).choose,(K.natOf_ex l2 n2 h2).choose⟩else none else none
 |_=>none
noncomputable def zbw (k:Int):Option (K.KV×K.KH):=(K.qgo (K.X0 K.keysT) 300).call 44 [.int .i64 k] K.hE0 fun v h=>some (v,h)
noncomputable def jV (n:Nat) (k:Int):Option zR:=match zbw k with
 |some p=>zct p.1
 |none=>none
def oE {G:Gh} {G':K.Gh} {n m:Nat} {c:Value} (h:K.KR G' (.str n m) c) (a:m<256^n):VR G (.str (K.natOf_ex n m a).choose) c:=by
 obtain⟨t,rfl,b,e⟩:=K.kr_str h;obtain⟨f,g⟩:=(K.natOf_ex n m a).choose_spec;have:t.data.toList=(K.natOf_ex n m a).choose:=K.natOf_inj (by rw [Array.length_toList,f]; exact b) (by rw [e,g]);rw [<-this]; exact .str t
def Qg {n:Nat} {k:Int} {r:zR} (h:jV n k=some r):xO Tryz.prog (gl0 mx) 44 [.int .i64 k] ⟨[],[]⟩ (Out (.agg (zR.cells r)) ⟨[],[]⟩):=by
 unfold jV at h;split at h
 ·rename_i p t;obtain⟨v,A⟩:=p;have s:=K.qgo_call (K.X0_ok K.keysT_ok) t;unfold zct at h;dsimp only at h;split at h
  ·rename_i B C F E H;split at h
   ·rename_i o;split at h
    ·rename_i q;cases h;refine ofK (MxOk.two (mx:=mx)) (by kernel_rfl) s (fun G G' c g=> ?_) (fun G G' c g=> ?_) (by simp [V.sc,V.scs,zR.cells])
     ·obtain ⟨x,rfl,y⟩:=zdy g;cases y
      exact ⟨rfl,fun i v c e f=>by
       match i with
       |0=>simp at e f; subst e f; exact .int _ _
       |i+1=>simp at e⟩
     ·cases g with
      | @agg _ m l i=>
       obtain⟨z⟩:=m
       match z,l with
       | [a,b,d],_=>
        refine .agg rfl fun j v x e f=> ?_
        match j with
        |0=>simp [zR.cells]at e f; subst e f; have:=i 0 _ a rfl rfl; cases this; exact .int _ _
        |1=>simp [zR.cells]at e f; subst e f; exact oE (i 1 _ b rfl rfl) o
        |2=>simp [zR.cells]at e f; subst e f; exact oE (i 2 _ d rfl rfl) q
        |j+3=>simp [zR.cells]at e
    ·cases h
   ·cases h
  ·cases h
 ·cases h
def ze0 (n:Nat):(jV n 0).isSome=true:=by kernel_rfl
def zdZ (n:Nat):(jV n 1).isSome=true:=by kernel_rfl
def zea (n:Nat):(jV n 2).isSome=true:=by kernel_rfl
def zdB (n:Nat):(jV n 3).isSome=true:=by kernel_rfl
end Go.Abs
end
