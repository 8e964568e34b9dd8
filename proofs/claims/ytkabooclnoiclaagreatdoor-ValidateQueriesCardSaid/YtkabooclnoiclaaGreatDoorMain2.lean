/- ValidateQueries returns true for every input. Conditions: those of the given card alone. -/
import Derived.Test.YtkabooclnoiclaaGreatDoorLaw2
import Derived.Test.YtkabooclnoiclaaGreatDoorChecked
import Derived.Test.YtkabooclnoiclaaGreatDoorMain1
import Derived.Test.YtkabooclnoiclaaGreatDoorTied1
import Derived.Test.YtkabooclnoiclaaGreatDoorCards
set_option linter.all false
noncomputable section
set_option maxRecDepth 100000
namespace Go.Proofs.YtkabooclnoiclaaGreatDoor
open Go.ChangeShapes Go.WideShapes Go.ChangeAt Go.RowKit Go.Abs
def own:ownKnob Tryz.prog.godebug=none:=O5
def cq:laidOutB Tryz.prog=true:=O5
def ZQ (g:Nat):Option Nat:=(((begin Tryz.prog (fun _ _=>0) default).world.heap[g]?).bind Obj.row?).map fun x=>x.1.size
def Uo {W:World} (h:W.ShapedOpen Tryz.prog) {g n:Nat} (j:Nat.blt g Tryz.prog.globals.size=true) (a:ZQ g=some n):∃C el fz,W.heap[g]? =some (.cells C el fz)∧C.size=n:=by
 unfold ZQ at a;obtain⟨⟨z,t⟩,c,e⟩:=iR.1 a;obtain⟨b,f,i,_⟩:=h.1 g z t (O7 j) c;exact⟨b,t,_,f,by rw [i]; exact e⟩
def zax:ZQ 0=some 1:=O5
def zaH:ZQ 2=some 32:=O5
def UD (W:World) (b i:Nat):Int:=match W.cell? ⟨b,i,none⟩with
 |some (.int _ n)=>n
 |_=>0
def lU (g:Nat) (k:IntKind):Bool:=match((begin Tryz.prog (fun _ _=>0) default).world.heap[g]?).bind Obj.row? with
 | some (_,t)=>Tryz.prog.buildable t&&match Tryz.prog.cellTypes Tryz.prog.depth t with
  | some b=>b.all fun u=>match Tryz.prog.underlying u with
   |some (.int a)=>a==k
   |_=>false
  |none=>false
 |none=>false
def Be {W:World} (h:W.ShapedOpen Tryz.prog) {g n:Nat} {k:IntKind} (F:Nat.blt g Tryz.prog.globals.size=true) (p:ZQ g=some n) (e:lU g k=true) (r:Nat) (q:r<n):W.cell? ⟨g,r,none⟩=some (.int k (UD W g r)):=by
 unfold ZQ at p;unfold lU at e;obtain⟨⟨z,t⟩,l,A⟩:=iR.1 p;obtain⟨f,B,C,E⟩:=h.1 g z t (O7 F) l;rw [l]at e;simp only [iF]at e;obtain⟨j,b⟩:=e;obtain⟨L,w,_,x⟩:=E j;rw [w]at b;simp only [List.all_eq_true]at b;have s:f.size=n:=by rw [C]; exact A
 obtain⟨u,y,c⟩:=x r f[r] (by simp [s,q]);have i:=b u (iQ y)
 have key:∃m,f[r]= .int k m:=by
  unfold Cell.ok at c;split at i
  ·rename_i K I;rw [I]at c;split at c<;>first|(cases c; done)|skip
   all_goals rename_i a v
   all_goals (first|(injection a with a; cases a; done)|skip)
   injection a with a; cases a;obtain⟨rfl,_⟩:=c;exact⟨_,by rw [v,eq_of_beq i]⟩
  ·cases i
 obtain⟨m,G⟩:=key
 have o:W.cell? ⟨g,r,none⟩=some (.int k m):=by
  rw [xR B]; simp [s,q,G]
 rw [o];have:UD W g r=m:=by unfold UD; rw [o]
 rw [this]
def md {W:World} (h:W.ShapedOpen Tryz.prog):∃m,W.cell? ⟨0,0,none⟩=some (.int .i64 m):=⟨_,Be h (g:=0) O5 zax O5 0 O1⟩
def Bf {W:World} (h:W.ShapedOpen Tryz.prog):∀r,r<32->W.cell? ⟨2,r,none⟩=some (.int .u8 (UD W 2 r)):=Be h (g:=2) O5 zaH O5
def mxW (W:World) (m:Int) (g:Nat):List V:=match g with
 |0=> [.int .i64 m]
 |2=>(List.range 32).map fun i=>vI .u8 (UD W 2 i)
 |_=> []
instance {W:World} {m:Int}:MxOk (mxW W m) where
 zero:=⟨m,rfl⟩
 two:=fun h=>by have:=congrArg List.length h; simp [mxW]at this
def Jp (W:World) (b o:Nat):Option Att:=match W.cell? ⟨b,o,none⟩,W.cell? ⟨b,o+1,none⟩,W.cell? ⟨b,o+2,none⟩with
 |some (.string s),some (.int .i64 k),some (.string v)=>some ⟨s.data.toList,k,v.data.toList⟩
 |_,_,_=>none
def dI {α:Type} (f:Nat->Nat->Option α) (sz:Nat):Value->Option (List α)
 | .slice none 0 0=>some []
 | .slice (some a) len cap=>if(a.spot=none∧len<=cap)∨(len=0∧cap=0)then(List.range len).mapM fun i=>f a.block (a.off+i*sz)else none
 |_=>none
def dJ (W:World) (v:Value):Option (List Att):=dI (Jp W) 3 v
def YH (W:World) (v:Value):Option (List (List Att)):=dI (fun b o=>(W.cell? ⟨b,o,none⟩).bind (dJ W)) 1 v
def plain (W:World) (b i:Nat):Option V:=match W.cell? ⟨b,i,none⟩with
 |some (.int k n)=>some (.int k n)
 |some (.string s)=>some (.str s.data.toList)
 | some v=>match YH W v with
  |some (x::l)=>some (.sl 1 ((x::l).map fun r=> [.sl 3 (r.map za.cells) .none]) .none)
  |_=>(dJ W v).map fun r=> .sl 3 (r.map za.cells) .none
 |_=>none
def gh (W:World):Gh:=⟨plain W,fun _=>none,fun _ _=>none,fun _=>0⟩
def Vz {α β:Type} {f:α->Option β}:∀ {l:List α} {r:List β},l.mapM f=some r->r.length=l.length∧∀(i:Nat) (x:α) (y:β),l[i]? =some x->r[i]? =some y->f x=some y
 | [],r,h=>by simp at h; subst h; simp
 | a ::l,r,h=>by
  rw [List.mapM_cons]at h
  cases b:f a with
  |none=>rw [b]at h; cases h
  | some y=>
   rw [b]at h
   cases c:l.mapM f with
   |none=>rw [c]at h; cases h
   | some m=>
    rw [c]at h;obtain rfl:y::m=r:=by injection h
    obtain⟨j,k⟩:=Vz c;refine⟨by simp [j],fun i x z e g=> ?_⟩
    match i with
    |0=>simp at e g; subst e g; exact b
    |i+1=>exact k i x z (O7 e) (O7 g)
def jm {α:Type} {f:Nat->Nat->Option α} {sz:Nat} {v:Value} {l:List α} (h:dI f sz v=some l):
  (v= .slice none 0 0∧l= [])∨(∃a,v= .slice (some a) 0 0∧l= [])∨∃b o cap,v= .slice (some ⟨b,o,none⟩) l.length cap∧l.length<=cap∧∀(i:Nat) (x:α),l[i]? =some x->f b (o+i*sz)=some x:=by
 unfold dI at h;split at h
 ·injection h with h; exact .inl ⟨rfl,h.symm⟩
 ·rename_i a len cap;split at h
  ·rename_i n;obtain⟨g,m⟩:=Vz h;rw [List.length_range]at g;subst g;rcases n with⟨j,e⟩|⟨e,c⟩
   ·right; right;obtain⟨b,o,sp⟩:=a;simp only at j; subst j;refine⟨b,o,cap,rfl,e,fun i x k=> ?_⟩;have p:i<l.length:=(List.getElem?_eq_some_iff.1 k).1;exact m i i x (by simp [p]) k
   ·right; left;have:l= []:=List.eq_nil_of_length_eq_zero e;subst this; subst c;exact⟨a,rfl,rfl⟩
  ·cases h
 ·cases h
def K2 {W:World} {b o:Nat} {a:Att} (h:Jp W b o=some a) (j:Nat) (v:V) (c:(za.cells a)[j]? =some v):plain W b (o+j)=some v:=by
 unfold Jp at h;split at h
 ·rename_i s k z e f g;cases h
  match j with
  |0=>simp [za.cells]at c; subst c; simp [plain,e]
  |1=>simp [za.cells]at c; subst c; simp [plain,f]
  |2=>simp [za.cells]at c; subst c; simp [plain,g]
  |j+3=>simp [za.cells]at c
 ·cases h
def sy {W:World} {v:Value} {r:List Att} (h:dJ W v=some r):VR (gh W) (.sl 3 (r.map za.cells) .none) v:=by
 rcases jm h with⟨rfl,rfl⟩|⟨a,rfl,rfl⟩|⟨b,o,cap,rfl,k,l⟩
 ·exact .slnil _ _
 ·exact .slz _ _
 ·have c:VR (gh W) (.sl 3 (r.map za.cells) .none) (.slice (some ⟨b,o,none⟩) (r.map za.cells).length cap):=by
   refine .sl ?_ trivial (by rw [List.length_map]; exact k);intro i e g;rw [iV]at g;obtain⟨x,f,rfl⟩:=iR.1 g;exact⟨rfl,fun j v c=> .of (K2 (l i x f) j v c)⟩
  rw [List.length_map]at c;exact c
def PC {W:World} {b i:Nat} {v:Value} {r:List Att} (B:W.cell? ⟨b,i,none⟩=some v) (h:dJ W v=some r):(gh W).Im b i (.sl 3 (r.map za.cells) .none):=by
 refine .of ?_
 have p:∀x l,YH W v≠some (x::l):=by
  intro x l p;rcases jm p with⟨_,j⟩|⟨a,_,j⟩|⟨q,M,cap',rfl,j,F⟩
  ·cases j
  ·cases j
  ·rcases jm h with⟨g,_⟩|⟨a,g,_⟩|⟨t,G,cap2,g,C,n⟩
   ·cases g
   ·cases g
   ·injection g with e y K;cases e;have f:0<r.length:=by rw [<-y]; simp
    have o:=F 0 x rfl;have m:=n 0 r[0] (iK f);simp only [Nat.zero_mul,Nat.add_zero]at o m;unfold Jp at m;split at m
    ·rename_i s k z w _ _;rw [w]at o;cases o
    ·cases m
 have E:∃b l c,v= .slice b l c:=by
  rcases jm h with⟨rfl,_⟩|⟨a,rfl,_⟩|⟨t,G,cap2,rfl,_,_⟩<;>exact⟨_,_,_,rfl⟩
 obtain⟨q,L,I,rfl⟩:=E;show plain W b i=_;unfold plain;rw [B];simp only [];rw [h]; rfl
def tu {W:World} {v:Value} {l:List (List Att)} (h:YH W v=some l):VR (gh W) (.sl 1 (l.map fun r=> [.sl 3 (r.map za.cells) .none]) .none) v:=by
 rcases jm h with⟨rfl,rfl⟩|⟨a,rfl,rfl⟩|⟨b,o,cap,rfl,p,q⟩
 ·exact .slnil _ _
 ·exact .slz _ _
 ·have f:VR (gh W) (.sl 1 (l.map fun r=> [.sl 3 (r.map za.cells) .none]) .none) (.slice (some ⟨b,o,none⟩) (l.map fun r=> [V.sl 3 (r.map za.cells) .none]).length cap):=by
   refine .sl ?_ trivial (by rw [List.length_map]; exact p);intro i e k;rw [iV]at k;obtain⟨x,g,rfl⟩:=iR.1 k;refine⟨rfl,fun j v f=> ?_⟩
   match j,f with
   | 0,f=>
    simp at f; subst f;obtain⟨c,m,n⟩:=Option.bind_eq_some_iff.1 (q i x g);exact PC m n
   |j+1,f=>simp at f
  rw [List.length_map]at f;exact f
def cg {W:World} {b i:Nat} {v:Value} {l:List (List Att)} (e:W.cell? ⟨b,i,none⟩=some v) (h:YH W v=some l):(gh W).Im b i (.sl 1 (l.map fun r=> [.sl 3 (r.map za.cells) .none]) .none):=by
 match l,h with
 | [],h=>
  have k:dJ W v=some []:=by
   rcases jm h with⟨rfl,_⟩|⟨a,rfl,_⟩|⟨f,n,cap2,rfl,q,_⟩
   ·rfl
   ·simp [dJ,dI]
   ·simp [dJ,dI]
  obtain⟨u,g,j⟩:=PC e k;refine⟨u,g, ?_⟩;rcases j with rfl|⟨x,y,rfl,_⟩
  ·exact .inr ⟨3,1,rfl,rfl⟩
  ·exact .inr ⟨x,1,rfl,rfl⟩
 | x::l,h=>
  refine .of ?_
  have m:∃b l c,v= .slice b l c:=by
   rcases jm h with⟨rfl,_⟩|⟨a,rfl,_⟩|⟨f,n,cap2,rfl,_,_⟩<;>exact⟨_,_,_,rfl⟩
  obtain⟨o,s,p,rfl⟩:=m;show plain W b i=_;unfold plain;rw [e];simp only [];rw [h]
def zb1 {m:Int} {W:World} (E:W.ShapedOpen Tryz.prog) (F:W.cell? ⟨0,0,none⟩=some (.int .i64 m)) (G:∀r,r<32->W.cell? ⟨2,r,none⟩=some (.int .u8 (UD W 2 r))):
    Rel (gl0 (mxW W m)) ⟨W,fun _=>False,plain W⟩ (gh W) ⟨[],[]⟩ W where
  below:=ZU.refl W _ _
  vars:=fun id cells f=>by simp at f
  varlt:=fun id b z=>by simp at z
  sc:=fun id cells f=>by simp at f
  disj:=fun i j b ci cj z=>by simp at z
  imm := fun b i v a=>by
    simp only [gh,plain]at a;split at a
    · rename_i k n f
      cases a;exact⟨rfl,_,f, .int _ _⟩
    · rename_i s f
      cases a;exact⟨rfl,_,f, .str _⟩
    · rename_i c _ _ f
      split at a
      · rename_i x l q
        cases a;exact⟨rfl,_,f,tu q⟩
      · obtain⟨r,I,rfl⟩:=iR.1 a
        exact⟨rfl,_,f,sy I⟩
    · cases a
  fam:=fun t p b e lim A=>by simp at A
  famdisj:=fun t N p M b e l K L A=>by simp at A
  glob :=fun g i v a=>by
    match g,a with
    | 0,a=>
      match i,a with
      |0,a=>simp [gl0,mxW]at a; subst a; simp [gh,plain,F]
      |i+1,a=>simp [gl0,mxW]at a
    |1,a=>simp [gl0,mxW]at a
    | 2, a=>
      have B:i<32:=by
        have:=zB a;simpa [gl0,mxW] using this
      simp only [gl0,mxW,iV,List.getElem?_range B,Option.map_some,iL]at a;subst a;simp [gh,plain,G i B,vI]
    |g+3,a=>simp [gl0,mxW]at a
  gfix:=fun g q=>by
    have key:∃C o fz,W.heap[g]? =some (.cells C o fz)∧C.size=(gl0 (mxW W m) g).length:=by
     match g,q with
     |0,_=>obtain⟨C,o,fz,w,y⟩:=Uo E O5 zax; exact⟨C,o,fz,w,by rw [y]; rfl⟩
     |1,q=>exact absurd rfl q
     |2,_=>obtain⟨C,o,fz,w,y⟩:=Uo E O5 zaH; exact⟨C,o,fz,w,by rw [y]; simp [gl0,mxW]⟩
     |g+3,q=>exact absurd rfl q
    obtain⟨C,o,fz,w,y⟩:=key;exact⟨fun h=>h.elim (fun h=>by have:=heap_lt w; exact absurd this (Nat.not_lt.2 h)) id,C,o,fz,w,y⟩
  old:=fun b i _=>rfl
def sm {l:List Int} {q:Qry} {W:World} {m:Int} (w:l.length<=9223372036854775807) (y:W.ShapedOpen Tryz.prog) (o:W.cell? ⟨0,0,none⟩=some (.int .i64 m)) (p:∀r,r<32->W.cell? ⟨2,r,none⟩=some (.int .u8 (UD W 2 r)))
  {c g:Value} (s:VR (gh W) (.sl 1 (l.map (cI .i64)) .none) c) (j:VR (gh W) (.agg (zv.cells q)) g):Calls Tryz.prog 3 #[c,g] W fun e W'=>e= .returned (.bool true)∧Below W.heap.size W W':=by
 have:=(jC (mx:=mxW W m) (B9 l q w)).2 ⟨W,fun _=>False,plain W⟩ (gh W) W #[c,g] (zb1 y o p) ⟨rfl,fun i v x b f=>by
  match i with
  |0=>simp at b f; subst b f; exact s
  |1=>simp at b f; subst b f; exact j
  |i+2=>simp at b⟩ (by simp [V.scs,V.sc,zv.cells])
 refine this.mono ?_;rintro e W' ⟨r,A,z,G',rfl,⟨rfl,rfl⟩,n,_,a,_,_⟩;cases n;exact⟨rfl,a.below.os,a.below.tape,a.below.output,a.below.size,fun k t=>a.below.heap k t (fun h=>h)⟩
end Go.Proofs.YtkabooclnoiclaaGreatDoor
end
section
set_option maxRecDepth 100000
namespace Go.Proofs.YtkabooclnoiclaaGreatDoor
open Go.ChangeShapes Go.WideShapes Go.ChangeAt Go.RowKit Go.Abs Go.Deep
def co3:Tryz.prog.cellsOf 3=1:=O5
def co4:Tryz.prog.cellsOf 4=1:=O5
def zeY:Tryz.prog.cellsOf 23=1:=O5
def zeT:Tryz.prog.cellsOf 24=1:=O5
def zek:Tryz.prog.cellsOf 25=1:=O5
def zeD:Tryz.prog.cellsOf 27=11:=O5
def zdD:Tryz.prog.cellsOf 85=3:=O5
def co9:Tryz.prog.cellsOf 9=1:=O5
def zcK:Tryz.prog.cellsOf 32=1:=O5
def zc0:Tryz.prog.cellsOf 34=1:=O5
def zd6:Tryz.prog.cellsOf 36=3:=O5
def zej:Tryz.prog.cellsOf 38=4:=O5
def zeE:Tryz.prog.cellsOf 89=3:=O5
def zeZ:Tryz.prog.cellsOf 87=1:=O5
def B0 (W:World) (b o:Nat):Option Anc:=match W.cell? ⟨b,o,none⟩,W.cell? ⟨b,o+1,none⟩,W.cell? ⟨b,o+2,none⟩,W.cell? ⟨b,o+3,none⟩with
 |some c,some (.int .i64 k),some (.string s),some (.string r)=>(YH W c).map fun l=>⟨⟨l⟩,⟨k,s.data.toList,r.data.toList⟩⟩
 |_,_,_,_=>none
def Bc {W:World} {b o:Nat} {a:Anc} (h:B0 W b o=some a) (j:Nat) (v:V) (e:(zg.cells a)[j]? =some v):(gh W).Im b (o+j) v:=by
 unfold B0 at h;split at h
 ·rename_i c k s r f g i m;obtain⟨l,n,rfl⟩:=iR.1 h
  match j with
  | 0=>
   simp only [zg.cells,List.getElem?_cons_zero,iL]at e; subst e;exact cg f n
  |1=>simp [zg.cells]at e; subst e; exact .of (by simp [gh,plain,g])
  |2=>simp [zg.cells]at e; subst e; exact .of (by simp [gh,plain,i])
  |3=>simp [zg.cells]at e; subst e; exact .of (by simp [gh,plain,m])
  |j+4=>simp [zg.cells]at e
 ·cases h
def GN (W:World) (b o:Nat):Option Gen:=match W.cell? ⟨b,o,none⟩,W.cell? ⟨b,o+1,none⟩,W.cell? ⟨b,o+2,none⟩with
 |some (.int .i64 k),some (.string s),some c=>(YH W c).map fun l=>⟨k,s.data.toList,⟨l⟩⟩
 |_,_,_=>none
def KN {W:World} {b o:Nat} {a:Gen} (h:GN W b o=some a) (j:Nat) (v:V) (e:(zb.cells a)[j]? =some v):(gh W).Im b (o+j) v:=by
 unfold GN at h;split at h
 ·rename_i k s c f g i;obtain⟨l,m,rfl⟩:=iR.1 h
  match j with
  |0=>simp [zb.cells]at e; subst e; exact .of (by simp [gh,plain,f])
  |1=>simp [zb.cells]at e; subst e; exact .of (by simp [gh,plain,g])
  | 2=>
   simp only [zb.cells,List.getElem?_cons_zero,List.getElem?_cons_succ,iL]at e; subst e;exact cg i m
  |j+3=>simp [zb.cells]at e
 ·cases h
def Kv {W:World} {α:Type} {f:Nat->Nat->Option α} {g:α->List V} {sz:Nat} (p:∀a,(g a).length=sz) (n:∀b o a,f b o=some a->∀(j:Nat) (v:V),(g a)[j]? =some v->(gh W).Im b (o+j) v) {v:Value} {l:List α} (h:dI f sz v=some l):VR (gh W) (.sl sz (l.map g) .none) v:=by
 rcases jm h with⟨rfl,rfl⟩|⟨a,rfl,rfl⟩|⟨b,o,cap,rfl,q,r⟩
 ·exact .slnil _ _
 ·exact .slz _ _
 ·have c:VR (gh W) (.sl sz (l.map g) .none) (.slice (some ⟨b,o,none⟩) (l.map g).length cap):=by
   refine .sl ?_ trivial (by rw [List.length_map]; exact q);intro i e m;rw [iV]at m;obtain⟨x,k,rfl⟩:=iR.1 m;exact⟨p x,fun j v c=>n _ _ _ (r i x k) j v c⟩
  rw [List.length_map]at c;exact c
def cw {α β:Type} {f:α->Option β}:∀ {l:List α},(∀x∈l,∃y,f x=some y)->∃r,l.mapM f=some r
 | [],_=>⟨[],O2⟩
 | a::l,h=>by
  obtain⟨y,e⟩:=h a O2;obtain⟨r,b⟩:=cw (l:=l) fun x c=>h x (by simp [c]);exact⟨y::r,by rw [List.mapM_cons,e,b]; rfl⟩
def WF {W:World} {base n:Nat} {a:Addr} {cs:List Value} (h:W.cells? base a n=some cs) (j:0<n):a.spot=none∧cs.length=n∧∀i,i<n->W.cell? ⟨a.block,a.off+i,none⟩=cs[i]? :=by
 obtain⟨_,f,e⟩:=World.cells?_some h
 have c:a.spot=none:=by
  have:=e 0 j;rw [iK O0,show a.add 0=a from rfl]at this;unfold World.cell? at this;split at this
  ·cases k:a.spot with
   |none=>rfl
   |some x=>rw [k]at this; simp at this
  ·cases this
 refine⟨c,f,fun i g=> ?_⟩;obtain⟨b,o,sp⟩:=a;simp only at c; subst c;rw [<-e i g,add_plain]
section
variable {H:Type} {enc:TypeId×Value->H}
def gR {W:World} {α:Type} {f:Nat->Nat->Option α} {sz fuel:Nat} {t e:TypeId} {v:Value} {x:DataW H×List MemPlace} (N:Tryz.prog.underlying t=some (.slice e)) (K:Tryz.prog.cellsOf e=sz) (k:0<sz)
  (L:∀(b o n:Nat) (cs:List Value) (y:DataW H×List MemPlace),cs.length=sz->(∀i,i<sz->W.cell? ⟨b,o+i,none⟩=cs[i]?)->DataW.trod enc Tryz.prog W 0 (fun _=>true) true n e cs=some y->∃z,f b o=some z)
  (I:DataW.trod enc Tryz.prog W 0 (fun _=>true) true fuel t [v]=some x):∃l,dI f sz v=some l∧l.length<=maxLen:=by
 rcases open_slice N I with⟨c,_⟩|⟨a,len,cap,m,n,D,Pl,c,_,M,O,j,_,s⟩
 ·obtain rfl:=(List.cons.inj c).1;exact⟨[],rfl,Nat.zero_le _⟩
 ·obtain rfl:=(List.cons.inj c).1;simp only [if_true]at j;subst j;rw [K]at s
  have key:((a.spot=none∧len<=m)∨(len=0∧m=0))∧∀i,i<len->∃y,f a.block (a.off+i*sz)=some y:=by
   by_cases h:m=0
   ·exact⟨.inr ⟨O0,h⟩,fun i p=>O0⟩
   ·obtain⟨C,w,_⟩:=s 0 O0;rw [Nat.zero_mul,show a.add 0=a from rfl]at w;have q:=(WF w k).1;refine⟨.inl ⟨q,M⟩,fun i p=> ?_⟩;obtain⟨cs',A,E⟩:=s i O0;obtain⟨b,o,sp⟩:=a;simp only at q; subst q;rw [add_plain]at A;obtain⟨_,F,G⟩:=WF A k;exact L b (o+i*sz) n cs' _ F G E
  obtain⟨r,B⟩:=cw (f:=fun i=>f a.block (a.off+i*sz)) (l:=List.range len) fun i p=>key.2 i (List.mem_range.1 p);have g:=(Vz B).1;rw [List.length_range]at g;refine⟨r, ?_,O0⟩;unfold dI;simp only [];rw [iI key.1,B]
def hU {W:World} {fuel:Nat} {v:Value} {x:DataW H×List MemPlace} (e:DataW.trod enc Tryz.prog W 0 (fun _=>true) true fuel 87 [v]=some x):∃l,dJ W v=some l:=by
 obtain ⟨l,C,_⟩:=gR (f:=Jp W) Tryz.underlying87 zeE O1 (fun b o n t y c a E=>by
  match t,c with
  | [p,q,r],_=>
   obtain⟨F,G,I,m,_,_,k0,i,j⟩:=trod_struct3 Tryz.underlying89 E;simp only [co3,co9]at k0 i j;obtain⟨s,w,_⟩:=DataW.trod_string Tryz.underlying9 k0;obtain⟨k,A,_⟩:=DataW.trod_int Tryz.underlying3 i;obtain⟨z,B,_⟩:=DataW.trod_string Tryz.underlying9 j;obtain rfl:p= .string s:=(List.cons.inj w).1;obtain rfl:q= .int .i64 k:=(List.cons.inj A).1;obtain rfl:r= .string z:=(List.cons.inj B).1;have e:=a 0 O0;have g:=a 1 O0;have h:=a 2 O0;simp only [Nat.add_zero,List.getElem?_cons_zero,List.getElem?_cons_succ]at e g h
   exact⟨_,by unfold Jp; rw [e,g,h]⟩) e
 exact⟨l,C⟩
def JB {W:World} {fuel:Nat} {v:Value} {x:DataW H×List MemPlace} (e:DataW.trod enc Tryz.prog W 0 (fun _=>true) true fuel 32 [v]=some x):∃l,YH W v=some l:=by
 obtain ⟨l,h,_⟩:=gR (f:=fun b o=>(W.cell? ⟨b,o,none⟩).bind (dJ W)) Tryz.underlying32 zeZ O1 (fun b o n g y c a j=>by
  match g,c with
  | [k],_=>
   obtain⟨r,i⟩:=hU j;have e:=a 0 O0;simp only [Nat.add_zero,List.getElem?_cons_zero]at e
   exact⟨r,by rw [e,iG,i]⟩) e
 exact⟨l,h⟩
def wv {W:World} {t:TypeId} {a:Array Field} {fuel:Nat} {cs:List Value} {x:DataW H×List MemPlace} (g:Tryz.prog.underlying t=some (.struct a)) (h:DataW.trod enc Tryz.prog W 0 (fun _=>true) true fuel t cs=some x) (i:Nat) (f:Field) (b:a[i]? =some f):
  ∃n y,DataW.trod enc Tryz.prog W 0 (fun _=>true) true n f.type ((cs.drop f.offset).take (Tryz.prog.cellsOf f.type))=some y:=by
 obtain⟨c,n,_,_,_,k,j⟩:=DataW.trod_struct g h
 have e:i<c.length:=by
  have:=(Array.getElem?_eq_some_iff.1 b).1; omega
 exact⟨n,c[i],by rw [j i f b,iK e]⟩
def eZ {W:World} {fuel:Nat} {v:Value} {x:DataW H×List MemPlace} (h0:DataW.trod enc Tryz.prog W 0 (fun _=>true) true fuel 25 [v]=some x):∃l:List Anc,l.length<=9223372036854775807∧VR (gh W) (.sl 4 (l.map zg.cells) .none) v:=by
 obtain ⟨l,hl,hlen⟩:=gR (f:=B0 W) Tryz.underlying25 zej O1 (fun b o n cs y hlen hcell ht=>by
  match cs,hlen with
  | [c0,c1,c2,c3],_=>
   obtain ⟨n0, y0, k0⟩ := wv Tryz.underlying38 ht 0 (Field.mk "Name" 34 0 false "" "" 0) rfl
   obtain ⟨n1, y1, k1⟩ := wv Tryz.underlying38 ht 1 (Field.mk "Key" 36 1 false "" "" 24) rfl
   simp only [zc0,zd6]at k0 k1;obtain ⟨m0, z0, q0⟩ := wv Tryz.underlying34 k0 0 (Field.mk "RDNs" 32 0 false "" "" 0) rfl
   simp only [zcK]at q0;obtain⟨nm,hnm⟩:=JB q0;obtain⟨y2,y3,y4,m,_,_,q1,q2,q3⟩:=trod_struct3 Tryz.underlying36 k1;simp only [co3,co9]at q1 q2 q3;obtain⟨k,e1,_⟩:=DataW.trod_int Tryz.underlying3 q1;obtain⟨s,e2,_⟩:=DataW.trod_string Tryz.underlying9 q2;obtain⟨z,e3,_⟩:=DataW.trod_string Tryz.underlying9 q3;obtain rfl:c1= .int .i64 k:=(List.cons.inj e1).1;obtain rfl:c2= .string s:=(List.cons.inj e2).1;obtain rfl:c3= .string z:=(List.cons.inj e3).1;have h0:=hcell 0 O0;have h1:=hcell 1 O0;have h2:=hcell 2 O0;have h3:=hcell 3 O0;simp only [Nat.add_zero,List.getElem?_cons_zero,List.getElem?_cons_succ]at h0 h1 h2 h3
   exact⟨_,by unfold B0; rw [h0,h1,h2,h3]; simp only []; rw [hnm]; rfl⟩) h0
 exact⟨l,by simpa [maxLen] using hlen,Kv (f:=B0 W) (g:=zg.cells) (sz:=4) (fun _=>rfl) (fun _ _ _ h=>Bc h) hl⟩
def zaT {W:World} {α:Type} {c:α->V} {l:List α} {b o cap:Nat} (f:l.length<=cap) (h:∀(i:Nat) (x:α),l[i]? =some x->plain W b (o+i)=some (c x)):VR (gh W) (.sl 1 (l.map fun x=> [c x]) .none) (.slice (some ⟨b,o,none⟩) l.length cap):=by
 have a:VR (gh W) (.sl 1 (l.map fun x=> [c x]) .none) (.slice (some ⟨b,o,none⟩) (l.map fun x=> [c x]).length cap):=by
  refine .sl ?_ trivial (by rw [List.length_map]; exact f);intro i e k;rw [iV]at k;obtain⟨x,g,rfl⟩:=iR.1 k;refine⟨rfl, ?_⟩;intro j v a
  match j,a with
  | 0,a=>
   simp at a; subst a;have:=h i x g;exact .of (by simpa [gh] using this)
  |j+1,a=>simp at a
 rw [List.length_map]at a;exact a
def lu {W:World} {base fuel:Nat} {v:Value} {x:DataW H×List MemPlace}
  (g:Cell.okWide Tryz.prog W .any base 22 v) (q:DataW.trod enc Tryz.prog W 0 (fun _=>true) true fuel 22 [v]=some x):
  ∃l:List Int,l.length<=9223372036854775807∧VR (gh W) (.sl 1 (l.map (cI .i64)) .none) v:=by
 rcases open_ints Tryz.underlying22 Tryz.underlying3 O5 q with⟨f,t⟩|⟨a,len,cap,zs,f,_,y,z,w,t,e,s⟩
 ·obtain rfl:=(List.cons.inj f).1;exact⟨[],O2, .slnil _ _⟩
 ·obtain rfl:=(List.cons.inj f).1;simp only [Cell.okWide,Cell.ok,Tryz.underlying22]at g;have hspot:a.spot=none:=g.2.2.2.1;have p:(cap:Int)<=9223372036854775807:=g.2.1;obtain⟨b,o,sp⟩:=a;subst hspot;simp only [if_true]at w;have h:(zs.take len).length=len:=O3;refine⟨zs.take len,O0, ?_⟩
  have:=zaT (W:=W) (c:=fun n=> .int .i64 n) (l:=zs.take len) (b:=b) (o:=o) (cap:=cap) O0 (by
   intro i n j
   have r:i<len:=by
    have:=(List.getElem?_eq_some_iff.1 j).1; omega
   have k:zs.getD i 0=n:=by
    rw [List.getElem?_take,iI r]at j; simp [List.getD,j]
   have m:=e i O0;rw [add_plain,k]at m
   simp [plain,m])
  rw [h]at this;exact this
def fu {W:World} {fuel:Nat} {v:Value} {x:DataW H×List MemPlace} (h0:DataW.trod enc Tryz.prog W 0 (fun _=>true) true fuel 24 [v]=some x):∃l:List Gen,VR (gh W) (.sl 3 (l.map zb.cells) .none) v:=by
 obtain ⟨l,hl,hlen⟩:=gR (f:=GN W) Tryz.underlying24 zdD O1 (fun b o n cs y hlen hcell ht=>by
  match cs,hlen with
  | [c0,c1,c2],_=>
   obtain⟨y0,y1,y2,m,_,_,k0,k1,k2⟩:=trod_struct3 Tryz.underlying85 ht;simp only [co3,co9,zc0]at k0 k1 k2;obtain ⟨m0, z0, q0⟩ := wv Tryz.underlying34 k2 0 (Field.mk "RDNs" 32 0 false "" "" 0) rfl
   simp only [zcK]at q0;obtain⟨nm,hnm⟩:=JB q0;obtain⟨k,e0,_⟩:=DataW.trod_int Tryz.underlying3 k0;obtain⟨s,e1,_⟩:=DataW.trod_string Tryz.underlying9 k1;obtain rfl:c0= .int .i64 k:=(List.cons.inj e0).1;obtain rfl:c1= .string s:=(List.cons.inj e1).1;have h0:=hcell 0 O0;have h1:=hcell 1 O0;have h2:=hcell 2 O0;simp only [Nat.add_zero,List.getElem?_cons_zero,List.getElem?_cons_succ]at h0 h1 h2
   exact⟨_,by unfold GN; rw [h0,h1,h2]; simp only []; rw [hnm]; rfl⟩) h0
 exact⟨l,Kv (f:=GN W) (g:=zb.cells) (sz:=3) (fun _=>rfl) (fun _ _ _ h=>KN h) hl⟩
def K5 (W:World) (b o:Nat):Option Bs:=match W.cell? ⟨b,o,none⟩with
 |some (.string s)=>some s.data.toList
 |_=>none
def Gi {W:World} {b o:Nat} {a:Bs} (h:K5 W b o=some a) (j:Nat) (v:V) (c:(cS a)[j]? =some v):(gh W).Im b (o+j) v:=by
 unfold K5 at h;split at h
 ·rename_i s e;cases h
  match j with
  |0=>simp [cS]at c; subst c; exact .of (by simp [gh,plain,e])
  |j+1=>simp [cS]at c
 ·cases h
def fa {W:World} {fuel:Nat} {v:Value} {x:DataW H×List MemPlace} (e:DataW.trod enc Tryz.prog W 0 (fun _=>true) true fuel 23 [v]=some x):∃l:List Bs,VR (gh W) (.sl 1 (l.map cS) .none) v:=by
 obtain ⟨l,m,a⟩:=gR (f:=K5 W) Tryz.underlying23 co9 O1 (fun b o n j y a c p=>by
  match j,a with
  | [i],_=>
   obtain⟨s,k,_⟩:=DataW.trod_string Tryz.underlying9 p;obtain rfl:i= .string s:=(List.cons.inj k).1;have e:=c 0 O0;simp only [Nat.add_zero,List.getElem?_cons_zero]at e
   exact⟨_,by unfold K5; rw [e]⟩) e
 exact⟨l,Kv (f:=K5 W) (g:=cS) (sz:=1) (fun _=>rfl) (fun _ _ _ h=>Gi h) m⟩
def Q0 {W:World} {base:Nat} {v:Value} {d:DataW H} {p:List MemPlace} (hok:Value.okWide Tryz.prog W .any base 27 v) (h0:DataW.Trod enc Tryz.prog W 0 (fun _=>true) true 27 v d p):∃q:Qry,q.zy.length<=9223372036854775807∧VR (gh W) (.agg (zv.cells q)) v:=by
 obtain⟨fuel,hf⟩:=h0;simp only [Value.okWide,Tryz.underlying27]at hok;obtain⟨cs,rfl,hsz,_⟩:=hok;rw [zeD]at hsz;obtain⟨l,hcs⟩:∃l,cs=⟨l⟩:=⟨cs.toList,rfl⟩
 subst hcs
 match l,hsz with
 | [c0,c1,c2,c3,c4,c5,c6,c7,c8,c9,c10],_=>
  obtain ⟨_, _, k0⟩ := wv Tryz.underlying27 hf 0 (Field.mk "Time" 3 0 false "" "" 0) rfl
  obtain ⟨_, _, k1⟩ := wv Tryz.underlying27 hf 1 (Field.mk "Purpose" 9 1 false "" "" 8) rfl
  obtain ⟨_, _, k2⟩ := wv Tryz.underlying27 hf 2 (Field.mk "Usage" 3 2 false "" "" 24) rfl
  obtain ⟨_, _, k3⟩ := wv Tryz.underlying27 hf 3 (Field.mk "Policies" 23 3 false "" "" 32) rfl
  obtain ⟨_, _, k4⟩ := wv Tryz.underlying27 hf 4 (Field.mk "Explicit" 4 4 false "" "" 56) rfl
  obtain ⟨_, _, k5⟩ := wv Tryz.underlying27 hf 5 (Field.mk "NoMapping" 4 5 false "" "" 57) rfl
  obtain ⟨_, _, k6⟩ := wv Tryz.underlying27 hf 6 (Field.mk "NoAny" 4 6 false "" "" 58) rfl
  obtain ⟨_, _, k7⟩ := wv Tryz.underlying27 hf 7 (Field.mk "Names" 24 7 false "" "" 64) rfl
  obtain ⟨_, _, k8⟩ := wv Tryz.underlying27 hf 8 (Field.mk "MaxLength" 3 8 false "" "" 88) rfl
  obtain ⟨_, _, k9⟩ := wv Tryz.underlying27 hf 9 (Field.mk "Status" 4 9 false "" "" 96) rfl
  obtain ⟨_, _, k10⟩ := wv Tryz.underlying27 hf 10 (Field.mk "Issuers" 25 10 false "" "" 104) rfl
  simp only [co3,co4,co9,zeY,zeT,zek]at k0 k1 k2 k3 k4 k5 k6 k7 k8 k9 k10;obtain⟨a0,e0,_⟩:=DataW.trod_int Tryz.underlying3 k0;obtain⟨a1,e1,_⟩:=DataW.trod_string Tryz.underlying9 k1;obtain⟨a2,e2,_⟩:=DataW.trod_int Tryz.underlying3 k2;obtain⟨a3,v3⟩:=fa k3;obtain⟨a4,e4,_⟩:=DataW.trod_bool Tryz.underlying4 k4;obtain⟨a5,e5,_⟩:=DataW.trod_bool Tryz.underlying4 k5;obtain⟨a6,e6,_⟩:=DataW.trod_bool Tryz.underlying4 k6;obtain⟨a7,v7⟩:=fu k7;obtain⟨a8,e8,_⟩:=DataW.trod_int Tryz.underlying3 k8;obtain⟨a9,e9,_⟩:=DataW.trod_bool Tryz.underlying4 k9;obtain⟨a10,l10,v10⟩:=eZ k10;obtain rfl:c0= .int .i64 a0:=(List.cons.inj e0).1;obtain rfl:c1= .string a1:=(List.cons.inj e1).1;obtain rfl:c2= .int .i64 a2:=(List.cons.inj e2).1;obtain rfl:c4= .bool a4:=(List.cons.inj e4).1;obtain rfl:c5= .bool a5:=(List.cons.inj e5).1;obtain rfl:c6= .bool a6:=(List.cons.inj e6).1;obtain rfl:c8= .int .i64 a8:=(List.cons.inj e8).1;obtain rfl:c9= .bool a9:=(List.cons.inj e9).1;refine⟨⟨a0,a1.data.toList,a2,a3,a4,a5,a6,a7,a8,a9,a10⟩,l10, .agg rfl ?_⟩;intro i v x hv hx
  match i with
  |0=>cases hv; cases hx; exact .int _ _
  |1=>cases hv; cases hx; exact .str _
  |2=>cases hv; cases hx; exact .int _ _
  |3=>cases hv; cases hx; exact v3
  |4=>cases hv; cases hx; exact .bool _
  |5=>cases hv; cases hx; exact .bool _
  |6=>cases hv; cases hx; exact .bool _
  |7=>cases hv; cases hx; exact v7
  |8=>cases hv; cases hx; exact .int _ _
  |9=>cases hv; cases hx; exact .bool _
  |10=>cases hv; cases hx; exact v10
  |i+11=>cases hv
end
end Go.Proofs.YtkabooclnoiclaaGreatDoor
end
section
set_option maxRecDepth 100000
namespace Go.Proofs.YtkabooclnoiclaaGreatDoor
open Go.ChangeShapes Go.WideShapes Go.ChangeAt Go.RowKit Go.Abs
section
variable {H:Type} {enc:TypeId×Value→H}
theorem U4 {a:Assume} {C:Checked} {os:Os} {f:FuncId} {fn:Func} {s:ChangeSpec} {conds:List PathCond} {apart fresh handsOn again:Bool} {X:World→Array Value→Prop}
  (hX:∀(w w':World) (args:Array Value),w.heap=w'.heap→X w args→X w' args)
  (own:ownKnob C.prog.godebug=none) (started:os.Started) (noInit:C.prog.inits.idxOf? f=none) (hfn:C.prog.funcs[f]? =some fn)
  (witness:∃(w:World) (tape:Tape) (i:Input),w.os=os∧(w.forCall tape i).Shaped C.prog∧i.vars= []∧Input.okWide C.prog (w.forCall tape i) .any w.heap.size f i ∧
   ((s.pre enc C.prog fn conds apart (w.forCall tape i).memory i.args∧X (w.forCall tape i).memory i.args)∧sizedMet enc C.prog fn (OpenSpec.ofChange s) apart (w.forCall tape i).memory i.args)∧a.holds C.prog (lone (Frame.enter C.prog f i.args .normal) [] (w.forCall tape i)))
  (contract:∀(W:World) (base:Nat) (args:Array Value) (ds gs:List (DataW H)) (before:List MemPlace),
   (∀(j:Nat) t v,fn.params[j]? =some t→args[j]? =some v→Value.okWide C.prog W .any base t v) →
   DataW.Whole enc C.prog fn.params.toList s.vars apart W args.toList ds gs before →
   X W args→W.ShapedOpen C.prog →
   Calls C.prog f args W fun e W'=>∃v,e= .returned v∧s.post enc C.prog fn apart fresh handsOn again W args v W'):
  ReturnsInHanded a C os f .any (fun w args=>(s.pre enc C.prog fn conds apart w args∧X w args)∧sizedMet enc C.prog fn (OpenSpec.ofChange s) apart w args) (s.post enc C.prog fn apart fresh handsOn again):=by
 refine returnsInHanded_of_calls own started noInit witness ?_
 intro w tape i _ hsh _ hok hpre hholds
 obtain⟨_,_,_,fn',hfn',_,_,_,_,hval⟩:=hok
 have e:fn'=fn:=Option.some.inj (hfn'.symm.trans hfn)
 subst e
 obtain⟨⟨⟨ds,gs,before,hw,hc⟩,hx⟩,hz⟩:=hpre
 have hw':=DataW.Whole.of_heap (w':=w.forCall tape i) (by rfl) hw
 refine(contract (w.forCall tape i) w.heap.size i.args ds gs before hval hw' (hX _ _ _ (by rfl) hx) hsh).mono fun e W' ⟨v,he,hp⟩=> ?_
 subst he
 exact ChangeSpec.post_blind hp
end
set_option maxRecDepth 100000 in
theorem Ud (os:Os) (started:os.Started) (H:Type) (enc:TypeId×Value→H):
  ReturnsInHanded {} Tryz.checked os 3 .any (fun w args=>(Rows.validateQueriesSpec.pre enc Tryz.prog Tryz.f3 [] false w args∧laidMetH Tryz.prog Rows.validateQueriesRow.laid w)∧sizedMet enc Tryz.prog Tryz.f3 (OpenSpec.ofChange Rows.validateQueriesSpec) false w args)
   (Rows.validateQueriesSpec.post enc Tryz.prog Tryz.f3 false true false false):=by
 refine U4 (C:=Tryz.checked) (X:=fun w _=>laidMetH Tryz.prog Rows.validateQueriesRow.laid w) (fun _ _ _ hh h=>h.of_heap hh) own started O5 Tryz.func3
  (ChangeSpec.witness_shaped (enc:=enc) (C:=Tryz.checked) (os:=os) (X:=fun w _=>laidMetH Tryz.prog Rows.validateQueriesRow.laid w) false (World.laidAll Tryz.prog os Rows.validateQueriesRow.laid) #[.slice none 0 0, .agg #[.int .i64 0, .string ⟨#[]⟩, .int .i64 0, .slice none 0 0, .bool false, .bool false, .bool false, .slice none 0 0, .int .i64 0, .bool false, .slice none 0 0]] 8 (World.laidAll_os _ _ _)
   (World.shaped_of_ZipB O5 O5) O5 O5 O5
   (by rw [MakeChecks.laidMetH_plain _ _ _ O5]; exact laidMet_laidAll _ O5 O5)) ?_
 intro W base args ds gs before hval0 hW hL hsh
 have hval:∀(j:Nat) t v,Tryz.f3.params[j]? =some t→args[j]? =some v→Value.okWide Tryz.prog W .any base t v:=hval0
 have hW':=hW
 obtain⟨p,q,hA0,hV,rfl,_,_⟩:=hW
 have hA:DataW.TrodAll enc Tryz.prog W 0 (fun _=>true) true Tryz.f3.params.toList args.toList ds p:=hA0
 rw [Tryz.params3]at hA hval
 obtain⟨v0,v1,d0,d1,p0,p1,rfl,rfl,rfl,h0,h1⟩:=trodAll_two hA
 obtain⟨rfl,rfl⟩:=trodVars_none hV
 have hv0:Value.okWide Tryz.prog W .any base 22 v0:=hval 0 22 v0 rfl rfl
 have hv1:Value.okWide Tryz.prog W .any base 27 v1:=hval 1 27 v1 rfl rfl
 obtain⟨a0,len,cap,rfl⟩:=okWide_slice Tryz.underlying22 hv0
 obtain⟨fuel,hf⟩:=h0
 have hk0:Cell.okWide Tryz.prog W .any base 22 (.slice a0 len cap):=by
  simpa only [Value.okWide,Tryz.underlying22] using hv0
 obtain⟨l,hl,hvr⟩:=lu hk0 hf
 obtain⟨g,hg,hvr2⟩:=Q0 hv1 h1
 obtain⟨m,hm⟩:=md hsh
 have ht2:=Bf hsh
 simp only [List.append_nil]at hW'
 have hlt:∀x∈p0++p1,x.block<W.heap.size:=fun x hx=>by simpa using hW'.lt x hx
 refine(sm hl hsh hm ht2 hvr hvr2).mono fun e W' ⟨he,hbelow⟩=> ?_
 subst he
 exact ⟨_,rfl,_,_,_,[],_,[],hW',trodAll_mk1 (shut_bool Tryz.underlying4 _),
  trodAll_mk2 (Below.trod cq O5 (of_decide_eq_true O5) ⟨fuel,hf⟩ hbelow (fun x hx=>hlt x (List.mem_append_left _ hx))) (Below.trod cq O5 (of_decide_eq_true O5) h1 hbelow (fun x hx=>hlt x (List.mem_append_right _ hx))),rfl,hbelow.frame _,fun h=>by cases h⟩
theorem pK:Rows.ValidateQueriesSaid:=
 OpenClaim.holds_of_wide 3 Tryz.f3 rfl rfl rfl rfl rfl rfl rfl ⟨rfl,rfl,rfl,rfl,rfl⟩ rfl rfl rfl rfl rfl Pu Tryz.func3 za1 sb sv
  (fun os started H enc _=>Ud os started H enc)
theorem hO (j:Nat) (t:TypeId) (ht:Tryz.f3.params[j]? =some t):Tryz.prog.wantsStandIn t=false:=by
 rw [Tryz.params3]at ht
 have hm:t∈ [22,27]:=by simpa using Array.mem_of_getElem? ht
 have hall:([22,27].all fun u=> !Tryz.prog.wantsStandIn u)=true:=O5
 exact(show Tryz.prog.wantsStandIn t=false by simpa using List.all_eq_true.1 hall t hm)
theorem validateQueries_card:Rows.ValidateQueriesCardSaid:=
 Claim7.holds_tied_plain_at .later [] [.data, .pinned] true (true, "0680b277a54e20f0acaf06b32ccc4dfde2bdcbed6d885f20e41ef5b5f85cd0f4") false pK (fun _ h => by cases h) O5 (fun _ h => by cases h) validateQueries_row_tie rfl ⟨rfl, rfl⟩ O5 rfl
  (fun f fn hf hfn=>by
   obtain rfl:f=3:=Option.some.inj (Pu.symm.trans hf)|>.symm
   obtain rfl:fn=Tryz.f3:=(Option.some.inj (Tryz.func3.symm.trans hfn)).symm
   exact⟨nU,hO⟩)
  rS
end Go.Proofs.YtkabooclnoiclaaGreatDoor
end
