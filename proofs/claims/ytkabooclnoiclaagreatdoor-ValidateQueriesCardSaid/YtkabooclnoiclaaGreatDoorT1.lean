/- Types, records and steps of the program. No condition. -/
import Derived.Test.YtkabooclnoiclaaGreatDoorS
set_option linter.all false
noncomputable section
namespace Go.Abs
open Go Go.Proofs
def ty0:TI:=⟨true,1,0, .flat,(.tuple []),true,[],[]⟩
def ty2:TI:=⟨true,1,8,(.int .i64),(.int .i64 0),true,[],[]⟩
def ty3:TI:=⟨true,1,8,(.int .i64),(.int .i64 0),true,[],[]⟩
def ty4:TI:=⟨true,1,1, .bool,(.bool false),true,[],[]⟩
def ty5:TI:=⟨true,1,1,(.int .u8),(.int .u8 0),true,[],[]⟩
def ty6:TI:=⟨true,1,1,(.int .u8),(.int .u8 0),true,[],[]⟩
def ty7:TI:=⟨true,4,24,(.struct [(0,1),(1,1),(2,1),(3,1)]),(.agg [(.int .i64 0),(.int .i64 0),(.bool false),(.int .u8 0)]),true,[2,3,4,6],[(.int .i64),(.int .i64), .bool,(.int .u8)]⟩
def ty8:TI:=⟨true,4,24,(.struct [(0,1),(1,1),(2,1),(3,1)]),(.agg [(.int .i64 0),(.int .i64 0),(.bool false),(.int .u8 0)]),true,[2,3,4,6],[(.int .i64),(.int .i64), .bool,(.int .u8)]⟩
def ty9:TI:=⟨true,1,16, .str,(.str []),true,[],[]⟩
def zeS:TI:=⟨true,1,4,(.int .i32),(.int .i32 0),true,[],[]⟩
def zdM:TI:=⟨true,1,24,(.slice 3 1 8), .nilsl,true,[],[]⟩
def zdX:TI:=⟨true,1,24,(.slice 9 1 16), .nilsl,true,[],[]⟩
def zdx:TI:=⟨true,1,24,(.slice 85 3 48), .nilsl,true,[],[]⟩
def zep:TI:=⟨true,1,24,(.slice 38 4 64), .nilsl,true,[],[]⟩
def zd5:TI:=⟨true,11,128,(.struct [(0,1),(1,1),(2,1),(3,1),(4,1),(5,1),(6,1),(7,1),(8,1),(9,1),(10,1)]),(.agg [(.int .i64 0),(.str []),(.int .i64 0), .nilsl,(.bool false),(.bool false),(.bool false), .nilsl,(.int .i64 0),(.bool false), .nilsl]),true,[3,9,3,23,4,4,4,24,3,4,25],[]⟩
def zeW:TI:=⟨true,11,128,(.struct [(0,1),(1,1),(2,1),(3,1),(4,1),(5,1),(6,1),(7,1),(8,1),(9,1),(10,1)]),(.agg [(.int .i64 0),(.str []),(.int .i64 0), .nilsl,(.bool false),(.bool false),(.bool false), .nilsl,(.int .i64 0),(.bool false), .nilsl]),true,[3,9,3,23,4,4,4,24,3,4,25],[]⟩
def zeM:TI:=⟨true,1,24,(.slice 87 1 24), .nilsl,true,[],[]⟩
def zdE:TI:=⟨true,1,24,(.struct [(0,1)]),(.agg [.nilsl]),true,[32],[]⟩
def zdA:TI:=⟨true,1,24,(.struct [(0,1)]),(.agg [.nilsl]),true,[32],[]⟩
def zeV:TI:=⟨true,3,40,(.struct [(0,1),(1,1),(2,1)]),(.agg [(.int .i64 0),(.str []),(.str [])]),true,[3,9,9],[(.int .i64), .str, .str]⟩
def zeJ:TI:=⟨true,3,40,(.struct [(0,1),(1,1),(2,1)]),(.agg [(.int .i64 0),(.str []),(.str [])]),true,[3,9,9],[(.int .i64), .str, .str]⟩
def zed:TI:=⟨true,4,64,(.struct [(0,1),(1,3)]),(.agg [.nilsl,(.int .i64 0),(.str []),(.str [])]),true,[34,36],[]⟩
def zd1:TI:=⟨true,4,64,(.struct [(0,1),(1,3)]),(.agg [.nilsl,(.int .i64 0),(.str []),(.str [])]),true,[34,36],[]⟩
def zdU:TI:=⟨true,1,8,(.ptr 96), .nilp,true,[],[]⟩
def zeg:TI:=⟨true,1,8,(.int .i64),(.int .i64 0),true,[],[]⟩
def zev:TI:=⟨true,1,24,(.slice 23 1 24), .nilsl,true,[],[]⟩
def zd7:TI:=⟨true,3,56,(.struct [(0,1),(1,1),(2,1)]),(.agg [(.str []),(.str []), .nilsl]),true,[9,9,65],[]⟩
def zdR:TI:=⟨true,3,56,(.struct [(0,1),(1,1),(2,1)]),(.agg [(.str []),(.str []), .nilsl]),true,[9,9,65],[]⟩
def zeU:TI:=⟨true,3,48,(.struct [(0,1),(1,1),(2,1)]),(.agg [(.int .i64 0),(.str []), .nilsl]),true,[3,9,34],[]⟩
def zeI:TI:=⟨true,3,48,(.struct [(0,1),(1,1),(2,1)]),(.agg [(.int .i64 0),(.str []), .nilsl]),true,[3,9,34],[]⟩
def zeC:TI:=⟨true,1,24,(.slice 89 3 40), .nilsl,true,[],[]⟩
def zee:TI:=⟨true,3,40,(.struct [(0,1),(1,1),(2,1)]),(.agg [(.str []),(.int .i64 0),(.str [])]),true,[9,3,9],[.str,(.int .i64), .str]⟩
def zdw:TI:=⟨true,3,40,(.struct [(0,1),(1,1),(2,1)]),(.agg [(.str []),(.int .i64 0),(.str [])]),true,[9,3,9],[.str,(.int .i64), .str]⟩
def zey:TI:=⟨true,1,24,(.slice 5 1 1), .nilsl,true,[],[]⟩
def zeK:TI:=⟨true,2,32,(.struct [(0,1),(1,1)]),(.agg [.nilsl,(.int .i64 0)]),true,[22,3],[]⟩
def zeR:TI:=⟨true,2,32,(.struct [(0,1),(1,1)]),(.agg [.nilsl,(.int .i64 0)]),true,[22,3],[]⟩
def zcY:TI:=⟨true,1,0, .flat,(.tuple [(.str []),(.int .i64 0)]),true,[],[]⟩
def zck:TI:=⟨true,1,8,(.int .i64),(.int .i64 0),true,[],[]⟩
def zc4:TI:=⟨true,1,0, .flat,(.tuple [.nilsl,(.bool false)]),true,[],[]⟩
def zcN:TI:=⟨true,1,0, .flat,(.tuple [(.str []),(.str []),(.bool false)]),true,[],[]⟩
def zcL:TI:=⟨true,1,8,(.int .u64),(.int .u64 0),true,[],[]⟩
def zdr:TI:=⟨true,1,4,(.int .u32),(.int .u32 0),true,[],[]⟩
def zda:TI:=⟨true,1,24,(.slice 284 1 4), .nilsl,true,[],[]⟩
def zdt:TI:=⟨true,1,0, .flat,(.tuple [(.str []),(.bool false)]),true,[],[]⟩
def zcT:TI:=⟨true,1,8,(.int .u64),(.int .u64 0),true,[],[]⟩
def zcS:TI:=⟨true,64,256,(.arr 64 1),(.agg [(.int .u32 0),(.int .u32 0),(.int .u32 0),(.int .u32 0),(.int .u32 0),(.int .u32 0),(.int .u32 0),(.int .u32 0),(.int .u32 0),(.int .u32 0),(.int .u32 0),(.int .u32 0),(.int .u32 0),(.int .u32 0),(.int .u32 0),(.int .u32 0),(.int .u32 0),(.int .u32 0),(.int .u32 0),(.int .u32 0),(.int .u32 0),(.int .u32 0),(.int .u32 0),(.int .u32 0),(.int .u32 0),(.int .u32 0),(.int .u32 0),(.int .u32 0),(.int .u32 0),(.int .u32 0),(.int .u32 0),(.int .u32 0),(.int .u32 0),(.int .u32 0),(.int .u32 0),(.int .u32 0),(.int .u32 0),(.int .u32 0),(.int .u32 0),(.int .u32 0),(.int .u32 0),(.int .u32 0),(.int .u32 0),(.int .u32 0),(.int .u32 0),(.int .u32 0),(.int .u32 0),(.int .u32 0),(.int .u32 0),(.int .u32 0),(.int .u32 0),(.int .u32 0),(.int .u32 0),(.int .u32 0),(.int .u32 0),(.int .u32 0),(.int .u32 0),(.int .u32 0),(.int .u32 0),(.int .u32 0),(.int .u32 0),(.int .u32 0),(.int .u32 0),(.int .u32 0)]),true,[],[]⟩
def zcy:TI:=⟨true,1,8,(.ptr 440), .nilp,true,[],[]⟩
def zcF:TI:=⟨true,8,32,(.arr 8 1),(.agg [(.int .u32 0),(.int .u32 0),(.int .u32 0),(.int .u32 0),(.int .u32 0),(.int .u32 0),(.int .u32 0),(.int .u32 0)]),true,[],[]⟩
def zcU:TI:=⟨true,8,32,(.arr 8 1),(.agg [(.int .u32 0),(.int .u32 0),(.int .u32 0),(.int .u32 0),(.int .u32 0),(.int .u32 0),(.int .u32 0),(.int .u32 0)]),true,[],[]⟩
def zdi:TI:=⟨true,10,64,(.struct [(0,8),(8,1),(9,1)]),(.agg [(.int .u32 0),(.int .u32 0),(.int .u32 0),(.int .u32 0),(.int .u32 0),(.int .u32 0),(.int .u32 0),(.int .u32 0), .nilsl,(.int .i64 0)]),true,[438,94,3],[]⟩
def zcl:TI:=⟨true,10,64,(.struct [(0,8),(8,1),(9,1)]),(.agg [(.int .u32 0),(.int .u32 0),(.int .u32 0),(.int .u32 0),(.int .u32 0),(.int .u32 0),(.int .u32 0),(.int .u32 0), .nilsl,(.int .i64 0)]),true,[438,94,3],[]⟩
def DW:TT:=(.node (.node (.node (.node (.node (.node .leaf 0 ty0 .leaf) 2 ty2 (.node .leaf 3 ty3 .leaf)) 4 ty4 (.node (.node .leaf 5 ty5 .leaf) 6 ty6 .leaf)) 7 ty7 (.node (.node (.node .leaf 8 ty8 .leaf) 9 ty9 .leaf) 21 zeS (.node (.node .leaf 22 zdM .leaf) 23 zdX .leaf))) 24 zdx (.node (.node (.node (.node .leaf 25 zep .leaf) 26 zd5 (.node .leaf 27 zeW .leaf)) 32 zeM (.node (.node .leaf 33 zdE .leaf) 34 zdA .leaf)) 35 zeV (.node (.node (.node .leaf 36 zeJ .leaf) 37 zed .leaf) 38 zd1 (.node (.node .leaf 40 zdU .leaf) 42 zeg .leaf)))) 65 zev (.node (.node (.node (.node (.node .leaf 66 zd7 .leaf) 67 zdR (.node .leaf 84 zeU .leaf)) 85 zeI (.node (.node .leaf 87 zeC .leaf) 88 zee .leaf)) 89 zdw (.node (.node (.node .leaf 94 zey .leaf) 95 zeK .leaf) 96 zeR (.node (.node .leaf 121 zcY .leaf) 147 zck .leaf))) 151 zc4 (.node (.node (.node (.node .leaf 223 zcN .leaf) 254 zcL (.node .leaf 284 zdr .leaf)) 285 zda (.node (.node .leaf 290 zdt .leaf) 332 zcT .leaf)) 352 zcS (.node (.node (.node .leaf 434 zcy .leaf) 437 zcF .leaf) 438 zcU (.node (.node .leaf 439 zdi .leaf) 440 zcl .leaf)))))
set_option maxRecDepth 100000 in
def fh:DW.toList.map (fun p=>ti Tryz.prog p.1)=DW.toList.map (·.2):=O5
def tyT (t:TypeId):TI:=match DW.get t with|some v=>v|none=>ti Tryz.prog t
def uE:tyT=ti Tryz.prog:=TT.eq_of fh
def gl0 (mx:Nat->List V) (g:Nat):List V:=mx g
class MxOk (mx:Nat->List V):Prop where
 zero:∃m:Int,mx 0= [.int .i64 m]
 two:mx 2≠ []
section
variable {gl:Nat->List V} {ops:Array Oper} {K:AFr->St->Prop} {s0:St} {cs:List Code} {AQ:Exit->AFr->St->Prop} {id:Nat} {fr fr':AFr} {st st':St} {i:Nat} {x:Cfg} {E:List Nat} {B:List (List Nat)} {rest seen:List Nat} {fx:List (Nat×Option V×V)}
def kP (k:Nat) {q:Option V} {v:V} (e:q=some v) (h:yy Tryz.prog gl ops (k+1) (kY (uc tyT gl ops i k x) (yw ops k) v) K)
  (a:Nat.ble i k=true:=by kernel_rfl) (b:gP tyT gl ops i k x=kH q (uc tyT gl ops i k x).2:=by kernel_rfl):yy Tryz.prog gl ops i x K:=DP uE k e a b h
def kC (k:Nat) (R:Ren) {f:FuncId} {args1:List V} {st1 a:St} {r:V} (e:xO Tryz.prog gl f args1 st1 (Out r a))
  (h:yy Tryz.prog gl ops (k+1) (uL (uc tyT gl ops i k x) (yw ops k) (V.ren R r) (fun st=>St.after R st a)) K)
  (b:goB tyT gl ops i k x R f args1 st1=true:=by kernel_rfl) (g:JU R st1 args1=goR tyT gl ops i k x R args1 st1:=by kernel_rfl):yy Tryz.prog gl ops i x K:=zem uE k R e b g h
def kA (k t:Nat) {α:Type} (c:α->List V) {l l2 a:List α} {e e2:TypeId} {sz bytes b2:Nat} {tok2:Tok} (b:vF bytes l l2=some a)
  (h:yy Tryz.prog gl ops (k+1) (uL (uc tyT gl ops i k x) (yw ops k) (.sl sz (a.map c) (.fam t a.length)) (fun st=>st.setFam t a.length)) K)
  (f:(Nat.ble i k&&kM tyT e sz bytes)=true:=by kernel_rfl) (g:((uc tyT gl ops i k x).2.fams[t]?,gP tyT gl ops i k x)=(some l.length,vq tyT (uc tyT gl ops i k x).2 (.slice e sz bytes) (.slice e2 sz b2) (.sl sz (l.map c) (.fam t l.length)) (.sl sz (l2.map c) tok2)):=by kernel_rfl):yy Tryz.prog gl ops i x K:=zcQ uE k t c b f g h
def kS (k:Nat) (s:List UInt8) (h:yy Tryz.prog gl ops (k+1) (kY (uc tyT gl ops i k x) (yw ops k) (.sl 1 ((s2b s).map (cI .u8)) .none)) K)
  (a:Nat.ble i k=true:=by kernel_rfl) (b:gP tyT gl ops i k x=kH (some (.sl 1 (vT s) .none)) (uc tyT gl ops i k x).2:=by kernel_rfl):yy Tryz.prog gl ops i x K:=zcm uE k s a b h
def kB (k:Nat) (l:List Int) (h:yy Tryz.prog gl ops (k+1) (kY (uc tyT gl ops i k x) (yw ops k) (.str (b2s l))) K)
  (a:Nat.ble i k=true:=by kernel_rfl) (e:gP tyT gl ops i k x=kH (match jp (l.map (cI .u8))with|some b=>some (.str b)|none=>none) (uc tyT gl ops i k x).2:=by kernel_rfl):yy Tryz.prog gl ops i x K:=zdu uE k l a e h
def kV (k m f id:Nat) {cell:Option (List V)} {q:St->Option (V×St)} {v:V} {F:St->St} (e:∀st:St,st.vars.length=m->st.fams.length=f->st.vars[id]? =cell->q st=some (v,F st))
  (h:yy Tryz.prog gl ops (k+1) (uL (uc tyT gl ops i k x) (yw ops k) v F) K) (a:Nat.ble i k=true:=by kernel_rfl)
  (b:((uc tyT gl ops i k x).2.vars.length,(uc tyT gl ops i k x).2.fams.length,(uc tyT gl ops i k x).2.vars[id]?,gP tyT gl ops i k x)=(m,f,cell,q (uc tyT gl ops i k x).2):=by kernel_rfl):yy Tryz.prog gl ops i x K:=zaS uE k m f id e a b h
def dV {fx:List (Nat×Option V×V)} (e:Yr fx) (m f id:Nat) {cell:Option (List V)} {q:St->Option (V×St)} {v:V} {F:St->St} (g:∀st:St,st.vars.length=m->st.fams.length=f->st.vars[id]? =cell->q st=some (v,F st))
  (h:aDC Tryz.prog gl ops E B rest (i::seen) (uL x (yw ops i) v F) K) (a:E.contains i=true:=by kernel_rfl)
  (b:(x.2.vars.length,x.2.fams.length,x.2.vars[id]?,Qy tyT gl ops i x)=(m,f,cell,q x.2):=by kernel_rfl)
  (j:(stX tyT gl ops E B i seen (uL x (yw ops i) v F),svX ops E B fx i seen (uL x (yw ops i) v F))=(stY tyT gl ops E B fx i seen (uL x (yw ops i) v F),svY ops E B fx i seen (uL x (yw ops i) v F)):=by kernel_rfl):aDC Tryz.prog gl ops E B (i::rest) seen x K:=zbk uE e m f id g a b j h
def kE (R:Ren) (a:mf tyT gl ops i x s0 R fr' st'=true:=by kernel_rfl) (b:wkL R fr' st'=oA tyT gl ops i x R fr' st':=by kernel_rfl):yy Tryz.prog gl ops i x (toW s0 fr' st'):=zc1 uE R a b
def reg {c:Code} (fr':AFr) (st':St) (h:yy Tryz.prog gl ops 0 (fr,st) (toW s0 fr' st')) (a:zh Tryz.prog gl s0 (c::cs) AQ fr' st'):zh Tryz.prog gl s0 (.region id ops false::c::cs) AQ fr st:=PD fr' st' zO h a
def zeH (fr':AFr) (st':St) (a:Cl s0 (AQ .normal)) (h:yy Tryz.prog gl ops 0 (fr,st) (toW s0 fr' st')) (b:zh Tryz.prog gl s0 [] AQ fr' st'):zh Tryz.prog gl s0 [.region id ops false] AQ fr st:=PD fr' st' (kq a) h b
def drw {c:Code} (a E:List Nat) (B:List (List Nat)) (fr':AFr) (st':St) (h:aDC Tryz.prog gl ops E B a [] (fr,st) (toW s0 fr' st')) (b:zh Tryz.prog gl s0 (c::cs) AQ fr' st')
  (f:Tryz.prog.follows .mixedOrders=true:=by kernel_rfl) (e:kR ops fr.n a E B=true:=by kernel_rfl):zh Tryz.prog gl s0 (.region id ops true::c::cs) AQ fr st:=Un a E B fr' st' f e zO h b
def zdI (a E:List Nat) (B:List (List Nat)) (fr':AFr) (st':St) (b:Cl s0 (AQ .normal)) (h:aDC Tryz.prog gl ops E B a [] (fr,st) (toW s0 fr' st')) (e:zh Tryz.prog gl s0 [] AQ fr' st')
  (g:Tryz.prog.follows .mixedOrders=true:=by kernel_rfl) (f:kR ops fr.n a E B=true:=by kernel_rfl):zh Tryz.prog gl s0 [.region id ops true] AQ fr st:=Un a E B fr' st' g f (kq b) h e
def dS (os:List Nat) (h:aDC Tryz.prog gl ops E B rest (os.reverse++seen) (zbJ tyT gl ops E os x) K) (a:zbi tyT gl ops E os x=true:=by kernel_rfl):aDC Tryz.prog gl ops E B (os++rest) seen x K:=zcp uE os a h
def dP {q:Option V} {v:V} (e:q=some v) (h:aDC Tryz.prog gl ops E B rest (i::seen) (kY x (yw ops i) v) K) (a:GT ops E i=true:=by kernel_rfl) (b:Qy tyT gl ops i x=kH q x.2:=by kernel_rfl):aDC Tryz.prog gl ops E B (i::rest) seen x K:=za7 uE e a b h
def dF (b:Yr fx) (h:aDC Tryz.prog gl ops E B rest (i::seen) (UA tyT gl ops i x) K) (a:zbg tyT gl ops E i x=true:=by kernel_rfl)
  (e:(stX tyT gl ops E B i seen (UA tyT gl ops i x),svX ops E B fx i seen (UA tyT gl ops i x))=(stY tyT gl ops E B fx i seen (UA tyT gl ops i x),svY ops E B fx i seen (UA tyT gl ops i x)):=by kernel_rfl):aDC Tryz.prog gl ops E B (i::rest) seen x K:=zcq uE b a e h
def dC (j:Yr fx) (R:Ren) {f:FuncId} {args1:List V} {st1 a:St} {r:V} (e:xO Tryz.prog gl f args1 st1 (Out r a)) (h:aDC Tryz.prog gl ops E B rest (i::seen) (uL x (yw ops i) (V.ren R r) (fun st=>St.after R st a)) K)
  (b:zbE ops E i x R f args1 st1=true:=by kernel_rfl) (g:JU R st1 args1=zbr ops i x R args1 st1:=by kernel_rfl)
  (k:(stX tyT gl ops E B i seen (uL x (yw ops i) (V.ren R r) (fun st=>St.after R st a)),svX ops E B fx i seen (uL x (yw ops i) (V.ren R r) (fun st=>St.after R st a)))=(stY tyT gl ops E B fx i seen (uL x (yw ops i) (V.ren R r) (fun st=>St.after R st a)),svY ops E B fx i seen (uL x (yw ops i) (V.ren R r) (fun st=>St.after R st a))):=by kernel_rfl):aDC Tryz.prog gl ops E B (i::rest) seen x K:=zeB uE j R e b g k h
def dA (j:Yr fx) (t:Nat) {α:Type} (c:α->List V) {l l2 a:List α} {e e2:TypeId} {sz bytes b2:Nat} {tok2:Tok} (b:vF bytes l l2=some a)
  (h:aDC Tryz.prog gl ops E B rest (i::seen) (uL x (yw ops i) (.sl sz (a.map c) (.fam t a.length)) (fun st=>st.setFam t a.length)) K)
  (f:(E.contains i&&kM tyT e sz bytes)=true:=by kernel_rfl) (g:(x.2.fams[t]?,Qy tyT gl ops i x)=(some l.length,vq tyT x.2 (.slice e sz bytes) (.slice e2 sz b2) (.sl sz (l.map c) (.fam t l.length)) (.sl sz (l2.map c) tok2)):=by kernel_rfl)
  (k:(stX tyT gl ops E B i seen (uL x (yw ops i) (.sl sz (a.map c) (.fam t a.length)) (fun st=>st.setFam t a.length)),svX ops E B fx i seen (uL x (yw ops i) (.sl sz (a.map c) (.fam t a.length)) (fun st=>st.setFam t a.length)))=(stY tyT gl ops E B fx i seen (uL x (yw ops i) (.sl sz (a.map c) (.fam t a.length)) (fun st=>st.setFam t a.length)),svY ops E B fx i seen (uL x (yw ops i) (.sl sz (a.map c) (.fam t a.length)) (fun st=>st.setFam t a.length))):=by kernel_rfl):aDC Tryz.prog gl ops E B (i::rest) seen x K:=zdj uE j t c b f g k h
def dE (R:Ren) (a:wkB s0 R x.1 x.2 fr' st'=true:=by kernel_rfl) (b:wkL R fr' st'=wkR R x.1 x.2 fr' st':=by kernel_rfl):aDC Tryz.prog gl ops E B [] seen x (toW s0 fr' st'):=zcn R a b
def wk (R:Ren) (a:wkB s0 R fr st fr' st'=true:=by kernel_rfl) (b:wkL R fr' st'=wkR R fr st fr' st':=by kernel_rfl):Wk s0 fr st fr' st':=Wk.gen R a b
def zm {c:Code} (a E:List Nat) (B:List (List Nat)) (ks:List Nat) (new:List (Nat×V)) (st':St) (h:aDC Tryz.prog gl ops E B a [] (fr,st) (toW s0 (eS fr ks new) st')) (b:zh Tryz.prog gl s0 (c::cs) AQ (eS fr ks new) st')
  (f:Tryz.prog.follows .mixedOrders=true:=by kernel_rfl) (e:kR ops fr.n a E B=true:=by kernel_rfl):zh Tryz.prog gl s0 (.region id ops true::c::cs) AQ fr st:=Un a E B _ _ f e zO h b
def zs {c:Code} (a E:List Nat) (B:List (List Nat)) (ks:List Nat) (new:List (Nat×V)) (h:aDC Tryz.prog gl ops E B a [] (fr,st) (toW s0 (eS fr ks new) st)) (b:zh Tryz.prog gl s0 (c::cs) AQ (eS fr ks new) st)
  (f:Tryz.prog.follows .mixedOrders=true:=by kernel_rfl) (e:kR ops fr.n a E B=true:=by kernel_rfl):zh Tryz.prog gl s0 (.region id ops true::c::cs) AQ fr st:=Un a E B _ _ f e zO h b
def zmN (b:Cl s0 (AQ .normal)) (a E:List Nat) (B:List (List Nat)) (ks:List Nat) (new:List (Nat×V)) (st':St) (h:aDC Tryz.prog gl ops E B a [] (fr,st) (toW s0 (eS fr ks new) st')) (e:zh Tryz.prog gl s0 [] AQ (eS fr ks new) st')
  (g:Tryz.prog.follows .mixedOrders=true:=by kernel_rfl) (f:kR ops fr.n a E B=true:=by kernel_rfl):zh Tryz.prog gl s0 [.region id ops true] AQ fr st:=Un a E B _ _ g f (kq b) h e
def bF {α:Type} {c:Operand} {x y:Code} {t:Bool} {a b:Option α} {r:α} (h:(if t=true then a else b)=some r) (f:a=some r->zh Tryz.prog gl s0 (x::cs) AQ fr st) (g:b=some r->zh Tryz.prog gl s0 (y::cs) AQ fr st) (j:fr.eval c= .bool t:=by kernel_rfl):zh Tryz.prog gl s0 (.cond c x y::cs) AQ fr st:=
 zb8 t j (fun e=>f (eG e h)) (fun e=>g (Pw e h))
def bT {c:Operand} {x y:Code} (a:zh Tryz.prog gl s0 (x::cs) AQ fr st) (e:fr.eval c= .bool true:=by kernel_rfl):zh Tryz.prog gl s0 (.cond c x y::cs) AQ fr st:=zb8 true e (fun _=>a) (fun b=>Bool.noConfusion b)
def bN {c:Operand} {x y:Code} (a:zh Tryz.prog gl s0 (y::cs) AQ fr st) (e:fr.eval c= .bool false:=by kernel_rfl):zh Tryz.prog gl s0 (.cond c x y::cs) AQ fr st:=zb8 false e (fun b=>Bool.noConfusion b) (fun _=>a)
def gF {α:Type} (k d:Nat) {b:Bool} {a g:Option α} {r:α} (h:(if b=true then a else g)=some r) (m:a=some r->yy Tryz.prog gl ops k (kY (uc tyT gl ops i k x) (some d) (.bool true)) K) (l:g=some r->yy Tryz.prog gl ops k (kY (uc tyT gl ops i k x) (some d) (.bool false)) K)
  (f:Nat.ble i k=true:=by kernel_rfl) (j:UI tyT gl ops i k x=some (d, .bool b):=by kernel_rfl):yy Tryz.prog gl ops i x K:=tl uE k d b f j (fun e=>m (eG e h)) (fun e=>l (Pw e h))
def hF {α:Type} (d:Nat) {b:Bool} {a f:Option α} {r:α} (h:(if b=true then a else f)=some r) (k:a=some r->aDC Tryz.prog gl ops E B (i::rest) seen (kY x (some d) (.bool true)) K) (j:f=some r->aDC Tryz.prog gl ops E B (i::rest) seen (kY x (some d) (.bool false)) K)
  (g:DK ops i x=some (d, .bool b):=by kernel_rfl):aDC Tryz.prog gl ops E B (i::rest) seen x K:=tC d b g (fun e=>k (eG e h)) (fun e=>j (Pw e h))
def fnc {f:FuncId} {fn:Func} {c:Code} {args:List V} {Q:V->St->Prop} (hf:Tryz.prog.funcs[f]? =some fn) (hb:fn.body=some c) (h:zh Tryz.prog gl st [c] (bA Tryz.prog gl st fn Q) (UR fn.ntmps args) st)
  (hn : (fn.name == "runtime.NumGoroutine") = false := by kernel_rfl) (hl : Nat.ble args.length fn.ntmps = true := by kernel_rfl) : xO Tryz.prog gl f args st Q := xO.ofB hf hb hn (iD hl) h
def rt {fn:Func} {r:V} (R:Ren)
  (a:((uY tyT gl fr st fn.results.toList).isSome&&wkB s0 R ⟨1,[(0,VZ tyT gl fr st fn.results.toList)]⟩ st ⟨1,[(0,r)]⟩ st')=true:=by kernel_rfl)
  (b:wkL R ⟨1,[(0,r)]⟩ st'=wkR R ⟨1,[(0,VZ tyT gl fr st fn.results.toList)]⟩ st ⟨1,[(0,r)]⟩ st':=by kernel_rfl):bA Tryz.prog gl s0 fn (Out r st') .ret fr st:=zad uE R (.inr rfl) a b
def rno {fn:Func} {r:V} (R:Ren)
  (a:((uY tyT gl fr st fn.results.toList).isSome&&wkB s0 R ⟨1,[(0,VZ tyT gl fr st fn.results.toList)]⟩ st ⟨1,[(0,r)]⟩ st')=true:=by kernel_rfl)
  (b:wkL R ⟨1,[(0,r)]⟩ st'=wkR R ⟨1,[(0,VZ tyT gl fr st fn.results.toList)]⟩ st ⟨1,[(0,r)]⟩ st':=by kernel_rfl):bA Tryz.prog gl s0 fn (Out r st') .normal fr st:=zad uE R (.inl rfl) a b
end
abbrev AC (mx:Nat->List V) (f:FuncId) (args:List V) (s:List (List V)) (r:V) (a:List (List V)):Prop:=xO Tryz.prog (gl0 mx) f args ⟨s,[]⟩ (Out r ⟨a,[]⟩)
abbrev ACf (mx:Nat->List V) (f:FuncId) (args:List V) (s:List (List V)) (r:V) (b:List (List V)) (a:List Nat):Prop:=xO Tryz.prog (gl0 mx) f args ⟨s,[]⟩ (Out r ⟨b,a⟩)
section
variable {gl:Nat->List V} {ops:Array Oper} {s0:St} {cs:List Code} {AQ:Exit->AFr->St->Prop} {id:Nat} {fr:AFr} {st:St} {i:Nat} {x y:Cfg} {c:Code}
def ed (a:WS tyT gl ops i x=true:=by kernel_rfl):yy Tryz.prog gl ops i x (toW s0 (pL tyT gl ops i x).1 (pL tyT gl ops i x).2):=Pm uE a
def rg (a:zh Tryz.prog gl s0 (c::cs) AQ (pL tyT gl ops 0 (fr,st)).1 (pL tyT gl ops 0 (fr,st)).2) (b:WS tyT gl ops 0 (fr,st)=true:=by kernel_rfl):zh Tryz.prog gl s0 (.region id ops false::c::cs) AQ fr st:=nz (y:=(fr,st)) (Pm uE b) a
def rgN (a:Cl s0 (AQ .normal)) (b:AQ .normal (pL tyT gl ops 0 (fr,st)).1 (pL tyT gl ops 0 (fr,st)).2) (e:WS tyT gl ops 0 (fr,st)=true:=by kernel_rfl):zh Tryz.prog gl s0 [.region id ops false] AQ fr st:=PV (y:=(fr,st)) a (Pm uE e) b
def rC (h:yy Tryz.prog gl ops 0 (fr,st) (toW s0 y.1 y.2)) (a:zh Tryz.prog gl s0 (c::cs) AQ y.1 y.2):zh Tryz.prog gl s0 (.region id ops false::c::cs) AQ fr st:=nz (y:=(fr,st)) h a
def rCN (a:Cl s0 (AQ .normal)) (h:yy Tryz.prog gl ops 0 (fr,st) (toW s0 y.1 y.2)) (b:AQ .normal y.1 y.2):zh Tryz.prog gl s0 [.region id ops false] AQ fr st:=PV (y:=(fr,st)) a h b
end
def Im (p q:Prop):Prop:=p->q
section
variable {gl:Nat->List V} {ops:Array Oper} {K:AFr->St->Prop} {s0:St} {c d:Code} {cs:List Code} {AQ:Exit->AFr->St->Prop} {id:Nat} {fr fr':AFr} {st st':St} {i:Nat} {x:Cfg} {E:List Nat} {B:List (List Nat)} {rest seen:List Nat} {fx:List (Nat×Option V×V)} {p Q:Prop}
def fnL {f : FuncId} {fn : Func} {args : List V} {Q : V → St → Prop} (hf : Tryz.prog.funcs[f]? = some fn) (hb : fn.body = some c) (h : Im (p) (zh Tryz.prog gl st (flat c []) (bA Tryz.prog gl st fn Q) (UR fn.ntmps args) st)) (hn : (fn.name == "runtime.NumGoroutine") = false := by kernel_rfl) (hl : Nat.ble args.length fn.ntmps = true := by kernel_rfl) : Im (p) (xO Tryz.prog gl f args st Q) := fun k => fnc hf hb (jQ _ (h k)) hn hl
def bEL {α β:Type} {x:Option α} {f:α->Option β} {y:β} (k:∀a,x=some a->Im (f a=some y) (Q)):Im (x.bind f=some y) (Q):=fun h=>bE h k
def lfL {A:Prop} (f:A->Q) (t:Im (p) (A)):Im (p) (Q):=fun z=>f (t z)
def imA (h:p) (t:Im (p) (Q)):Q:=t h
inductive Tg (R:Ren):Prop|mk
def rtT {fn:Func} {r:V} {R:Ren} (_:Tg R) (a:((uY tyT gl fr st fn.results.toList).isSome&&wkB s0 R ⟨1,[(0,VZ tyT gl fr st fn.results.toList)]⟩ st ⟨1,[(0,r)]⟩ st')=true:=by kernel_rfl)
  (b:wkL R ⟨1,[(0,r)]⟩ st'=wkR R ⟨1,[(0,VZ tyT gl fr st fn.results.toList)]⟩ st ⟨1,[(0,r)]⟩ st':=by kernel_rfl):bA Tryz.prog gl s0 fn (Out r st') .ret fr st:=rt R a b
def rnT {fn:Func} {r:V} {R:Ren} (_:Tg R) (a:((uY tyT gl fr st fn.results.toList).isSome&&wkB s0 R ⟨1,[(0,VZ tyT gl fr st fn.results.toList)]⟩ st ⟨1,[(0,r)]⟩ st')=true:=by kernel_rfl)
  (b:wkL R ⟨1,[(0,r)]⟩ st'=wkR R ⟨1,[(0,VZ tyT gl fr st fn.results.toList)]⟩ st ⟨1,[(0,r)]⟩ st':=by kernel_rfl):bA Tryz.prog gl s0 fn (Out r st') .normal fr st:=rno R a b
def keT {R:Ren} (_:Tg R) (a:mf tyT gl ops i x s0 R fr' st'=true:=by kernel_rfl) (b:wkL R fr' st'=oA tyT gl ops i x R fr' st':=by kernel_rfl):yy Tryz.prog gl ops i x (toW s0 fr' st'):=kE R a b
def rJ {P:Prop} (R:Ren) (q:Tg R->P:=by intro t h; cases h; exact rtT t):P:=q .mk
def nJ {P:Prop} (R:Ren) (q:Tg R->P:=by intro t h; cases h; exact rnT t):P:=q .mk
def eJ {P:Prop} (R:Ren) (q:Tg R->P:=by intro t h; cases h; exact keT t):P:=q .mk
def nEL {α:Type} {r:α}:Im ((none:Option α)=some r) (Q):=fun h=>nomatch h
def hvL {R Y Z:Type} {o:Ctl R Y} {g:R->Option Z} {x:R} {r:Z} (a:∀x,o= .ret x->g x=some r) (t:Im (g x=some r) (Q)):Im (some (.ret x)=some o) (Q):=fun h=>t (a _ (sI h))
def rgL (a:Im (p) (zh Tryz.prog gl s0 (c::cs) AQ (pL tyT gl ops 0 (fr,st)).1 (pL tyT gl ops 0 (fr,st)).2)) (b:WS tyT gl ops 0 (fr,st)=true:=by kernel_rfl):Im (p) (zh Tryz.prog gl s0 (.region id ops false::c::cs) AQ fr st):=fun k=>rg (a k) b
def yJ (a:Cl s0 (AQ .normal)) (b:Im (p) (AQ .normal (pL tyT gl ops 0 (fr,st)).1 (pL tyT gl ops 0 (fr,st)).2)) (e:WS tyT gl ops 0 (fr,st)=true:=by kernel_rfl):Im (p) (zh Tryz.prog gl s0 [.region id ops false] AQ fr st):=fun k=>rgN a (b k) e
def rCL {y:Cfg} (h:Im (True) (yy Tryz.prog gl ops 0 (fr,st) (toW s0 y.1 y.2))) (a:Im (p) (zh Tryz.prog gl s0 (c::cs) AQ y.1 y.2)):Im (p) (zh Tryz.prog gl s0 (.region id ops false::c::cs) AQ fr st):=fun k=>rC (h trivial) (a k)
def vM {y:Cfg} (a:Cl s0 (AQ .normal)) (h:Im (True) (yy Tryz.prog gl ops 0 (fr,st) (toW s0 y.1 y.2))) (b:Im (p) (AQ .normal y.1 y.2)):Im (p) (zh Tryz.prog gl s0 [.region id ops false] AQ fr st):=fun k=>rCN a (h trivial) (b k)
def edL (a:WS tyT gl ops i x=true:=by kernel_rfl):Im (p) (yy Tryz.prog gl ops i x (toW s0 (pL tyT gl ops i x).1 (pL tyT gl ops i x).2)):=fun _=>ed a
def kPL (k:Nat) {q:Option V} {v:V} (e:q=some v) (h:Im (p) (yy Tryz.prog gl ops (k+1) (kY (uc tyT gl ops i k x) (yw ops k) v) K)) (a:Nat.ble i k=true:=by kernel_rfl) (b:gP tyT gl ops i k x=kH q (uc tyT gl ops i k x).2:=by kernel_rfl):Im (p) (yy Tryz.prog gl ops i x K):=fun z=>kP k e (h z) a b
def kCL (k:Nat) (R:Ren) {f:FuncId} {args1:List V} {st1 a:St} {r:V} (e:xO Tryz.prog gl f args1 st1 (Out r a)) (h:Im (p) (yy Tryz.prog gl ops (k+1) (uL (uc tyT gl ops i k x) (yw ops k) (V.ren R r) (fun st=>St.after R st a)) K)) (b:goB tyT gl ops i k x R f args1 st1=true:=by kernel_rfl) (g:JU R st1 args1=goR tyT gl ops i k x R args1 st1:=by kernel_rfl):Im (p) (yy Tryz.prog gl ops i x K):=fun z=>kC k R e (h z) b g
def gFL {α:Type} (k d:Nat) {b:Bool} {a f:Option α} {r:α} (l:Im (a=some r) (yy Tryz.prog gl ops k (kY (uc tyT gl ops i k x) (some d) (.bool true)) K)) (j:Im (f=some r) (yy Tryz.prog gl ops k (kY (uc tyT gl ops i k x) (some d) (.bool false)) K)) (e:Nat.ble i k=true:=by kernel_rfl) (g:UI tyT gl ops i k x=some (d, .bool b):=by kernel_rfl):Im ((if b=true then a else f)=some r) (yy Tryz.prog gl ops i x K):=fun h=>gF k d h l j e g
def kFL {α:Type} {t:Bool} {A B:Option α} {r:α} (a:t=true->Im (A=some r) (Q)) (b:t=false->Im (B=some r) (Q)):Im ((if t=true then A else B)=some r) (Q):=fun h=>kF h a b
def bFL {α:Type} {q:Operand} {x y:Code} {t:Bool} {a b:Option α} {r:α} (e:Im (a=some r) (zh Tryz.prog gl s0 (flat x cs) AQ fr st)) (f:Im (b=some r) (zh Tryz.prog gl s0 (flat y cs) AQ fr st)) (g:fr.eval q= .bool t:=by kernel_rfl):Im ((if t=true then a else b)=some r) (zh Tryz.prog gl s0 (.cond q x y::cs) AQ fr st):=fun h=>bF h (fun k=>jQ _ (e k)) (fun k=>jQ _ (f k)) g
def bTL {q:Operand} {x y:Code} (a:Im (p) (zh Tryz.prog gl s0 (flat x cs) AQ fr st)) (b:fr.eval q= .bool true:=by kernel_rfl):Im (p) (zh Tryz.prog gl s0 (.cond q x y::cs) AQ fr st):=fun k=>bT (jQ _ (a k)) b
def bNL {q:Operand} {x y:Code} (a:Im (p) (zh Tryz.prog gl s0 (flat y cs) AQ fr st)) (b:fr.eval q= .bool false:=by kernel_rfl):Im (p) (zh Tryz.prog gl s0 (.cond q x y::cs) AQ fr st):=fun k=>bN (jQ _ (a k)) b
def rgF {a:Prop} (k:a) (fr':AFr) (st':St) (h:Im (a) (yy Tryz.prog gl ops 0 (fr,st) (toW s0 fr' st'))) (b:Im (p) (zh Tryz.prog gl s0 (c::cs) AQ fr' st')):Im (p) (zh Tryz.prog gl s0 (.region id ops false::c::cs) AQ fr st):=fun z=>reg fr' st' (h k) (b z)
def sC {a:Prop} (k:a) (b:Cl s0 (AQ .normal)) (fr':AFr) (st':St) (h:Im (a) (yy Tryz.prog gl ops 0 (fr,st) (toW s0 fr' st'))) (e:Im (p) (AQ .normal fr' st')):Im (p) (zh Tryz.prog gl s0 [.region id ops false] AQ fr st):=fun z=>zeH fr' st' b (h k) (e z)
def zj (h:Im (p) (zh Tryz.prog gl s0 (flat c []) (qd id (wE (zh Tryz.prog gl s0 cs AQ) AQ)) fr st)):Im (p) (zh Tryz.prog gl s0 (.block id c::cs) AQ fr st):=fun k=>PU (jQ _ (h k))
def GH {n:Nat} (h:Im (p) (zh Tryz.prog gl s0 (flat c []) (wE (u6 Tryz.prog gl s0 c AQ n) AQ) fr st)):Im (p) (u6 Tryz.prog gl s0 c AQ (n+1) fr st):=fun k=>rW (jQ _ (h k))
def wO {n:Nat} (h:Im (p) (zh Tryz.prog gl s0 (flat c []) (wE (u6 Tryz.prog gl s0 c AQ n) AQ) fr st)):Im (p) (wE (u6 Tryz.prog gl s0 c AQ (n+1)) AQ .normal fr st):=fun k=>lD (jQ _ (h k))
def ze (h:Im (p) (AQ .ret fr st)):Im (p) (zh Tryz.prog gl s0 (.ret::cs) AQ fr st):=fun k=>zcD (h k)
def zE (h:Im (p) (AQ (.exit id) fr st)):Im (p) (zh Tryz.prog gl s0 (.exit id::cs) AQ fr st):=fun k=>zbM (h k)
def ud (a:Wk s0 fr st fr' st') (h:Im (p) (zh Tryz.prog gl s0 (c::cs) AQ fr' st')):Im (p) (zh Tryz.prog gl s0 (c::cs) AQ fr st):=fun k=>zex a (h k)
def zA (h:Im (p) (AQ (.exit id) fr st)):Im (p) (wE K AQ (.exit id) fr st):=h
def zN (h:Im (p) (AQ .ret fr st)):Im (p) (wE K AQ .ret fr st):=h
def zD (h:Im (p) (AQ .ret fr st)):Im (p) (qd id (wE K AQ) .ret fr st):=h
def zk (h:Im (p) (K fr st)):Im (p) (qd id (wE K AQ) .normal fr st):=h
def pU (h:Im (p) (K fr st)):Im (p) (qd id (wE K AQ) (.exit id) fr st):=fun k=>s9 (h k)
def qt {id':Nat} (h:Im (p) (AQ (.exit id') fr st)) (a:Nat.beq id' id=false:=by kernel_rfl):Im (p) (qd id (wE K AQ) (.exit id') fr st):=fun k=>ru a (h k)
def zC {Y:Type} {F:Y->AFr} {S:Y->St} {L:Y->Prop} (h:Im (p) (AQ .ret fr st)):Im (p) (jc s0 id F S L AQ .ret fr st):=h
def zx {Y:Type} {F:Y->AFr} {S:Y->St} {L:Y->Prop} (h:Im (p) (ga s0 F S L fr st)):Im (p) (jc s0 id F S L AQ (.exit id) fr st):=fun k=>tp (h k)
def jnL {Y:Type} {F:Y->AFr} {S:Y->St} {v y:Y} (R:Ren) (a:wkB s0 R fr st (F v) (S v)=true:=by kernel_rfl) (b:wkL R (F v) (S v)=wkR R fr st (F v) (S v):=by kernel_rfl):Im (some v=some y) (ga s0 F S (fun z=>y=z) fr st):=fun h=>⟨v,sI h,Wk.gen R a b⟩
def jCL {Z Y:Type} {F:Y->AFr} {S:Y->St} {v:Y} {o:Ctl Z Y} (R:Ren) (a:wkB s0 R fr st (F v) (S v)=true:=by kernel_rfl) (b:wkL R (F v) (S v)=wkR R fr st (F v) (S v):=by kernel_rfl):Im (some (.nxt v)=some o) (ga s0 F S (fun z=>o= .nxt z) fr st):=fun h=>⟨v,sI h,Wk.gen R a b⟩
def lpL {X Y:Type} (g:Nat->X->Option Y) {o:Y} {n:Nat} (a:X) (R:Ren) (F:X->AFr) (S:X->St) (round:∀k x,Im (g (k+1) x=some o) (zh Tryz.prog gl s0 (flat c []) (wE (ga s0 F S (fun x=>g k x=some o)) AQ) (F x) (S x))) (e:∀x,g 0 x=none:=by intro _; rfl) (f:wkB s0 R fr st (F a) (S a)=true:=by kernel_rfl) (j:wkL R (F a) (S a)=wkR R fr st (F a) (S a):=by kernel_rfl):Im (g n a=some o) (zh Tryz.prog gl s0 (.loop c::cs) AQ fr st):=
 fun h=>zaQ F S (fun k x=>g k x=some o) (fun x b=>by rw [e]at b; cases b) n a h (Wk.gen R f j) fun k x h=>jQ _ (round k x h)
def cuL {Y Z:Type} {o:Option Y} {f:Y->Option Z} {r:Z} (F:Y->AFr) (S:Y->St) (a:∀y,Im (o=some y) (zh Tryz.prog gl s0 [c] (wE (ga s0 F S (fun z=>y=z)) AQ) fr st)) (b:∀y,Im (f y=some r) (zh Tryz.prog gl s0 (d::cs) AQ (F y) (S y))):Im (o.bind f=some r) (zh Tryz.prog gl s0 (c::d::cs) AQ fr st):=fun h=>cuE h F S a b
def blL {Y Z:Type} {o:Option Y} {f:Y->Option Z} {r:Z} (F:Y->AFr) (S:Y->St) (a:∀y,Im (o=some y) (zh Tryz.prog gl s0 (flat c []) (jc s0 id F S (fun z=>y=z) AQ) fr st)) (b:∀y,Im (f y=some r) (zh Tryz.prog gl s0 (d::cs) AQ (F y) (S y))):Im (o.bind f=some r) (zh Tryz.prog gl s0 (.block id c::d::cs) AQ fr st):=fun h=>blE h F S (fun y k=>jQ _ (a y k)) b
def bcL {R Y Z:Type} {o:Option (Ctl R Y)} {g:R->Option Z} {f:Y->Option Z} {r:Z} (F:Y->AFr) (S:Y->St) (a:∀y,(∀x,y= .ret x->g x=some r)->Im (o=some y) (zh Tryz.prog gl s0 (flat c []) (jc s0 id F S (fun z=>y= .nxt z) AQ) fr st)) (b:∀y,Im (f y=some r) (zh Tryz.prog gl s0 (d::cs) AQ (F y) (S y))):Im (xb o g f=some r) (zh Tryz.prog gl s0 (.block id c::d::cs) AQ fr st):=fun h=>blC h F S (fun y k e=>jQ _ (a y e k)) b
def zer {Y Z:Type} {o:Option Y} {f:Y->Option Z} {r:Z} (a:Cl s0 (AQ .normal)) (F:Y->AFr) (S:Y->St) (b:∀y,Im (o=some y) (zh Tryz.prog gl s0 (flat c []) (jc s0 id F S (fun z=>y=z) AQ) fr st)) (e:∀y,Im (f y=some r) (AQ .normal (F y) (S y))):Im (o.bind f=some r) (zh Tryz.prog gl s0 [.block id c] AQ fr st):=fun h=>zd8 h a F S (fun y k=>jQ _ (b y k)) e
def nM {R Y Z:Type} {o:Option (Ctl R Y)} {g:R->Option Z} {f:Y->Option Z} {r:Z} (a:Cl s0 (AQ .normal)) (F:Y->AFr) (S:Y->St) (b:∀y,(∀x,y= .ret x->g x=some r)->Im (o=some y) (zh Tryz.prog gl s0 (flat c []) (jc s0 id F S (fun z=>y= .nxt z) AQ) fr st)) (j:∀y,Im (f y=some r) (AQ .normal (F y) (S y))):Im (xb o g f=some r) (zh Tryz.prog gl s0 [.block id c] AQ fr st):=fun h=>zdF h a F S (fun y k e=>jQ _ (b y e k)) j
end
end Go.Abs
end
section
namespace Go.Abs
open Go.RowKit (Below)
open Go Go.Proofs
section
variable {P:Program} {T:TypeId->TI} {gl:Nat->List V} {ops:Array Oper} {K:AFr->St->Prop} {E:List Nat} {B:List (List Nat)}
end
section
variable {gl:Nat->List V} {ops:Array Oper} {K:AFr->St->Prop} {s0:St} {cs:List Code} {AQ:Exit->AFr->St->Prop} {id:Nat} {fr fr':AFr} {st st':St} {i:Nat} {x:Cfg} {E:List Nat} {B:List (List Nat)} {rest seen:List Nat} {fx:List (Nat×Option V×V)}
end
def ss {T:TypeId->TI} {l a:List Int} {s:List UInt8} {n id m f:Nat} {e:TypeId} {bytes:Nat} (q:kM T e 1 bytes=true) (h:fS bytes n l (s2b s)=some a):
  ∀ st:St,st.vars.length=m->st.fams.length=f->st.vars[id]? =some [.buf (l.map (vI .u8))] ->
   vq T st (.slice e 1 bytes) .str (.own id n 1) (.str s)=some (.own m (n+(s2b s).length) 1,(st.put id []).push [.buf (a.map (vI .u8))]):=by
 intro st o k j;have b:=zaR (T:=T) (c:=vI .u8) (e:=e) (e2:=e) (bytes:=bytes) (b2:=bytes) (tok2:= .none) q h st o k j;rw [<-b];have g:(s2b s).map (fun x=> [vI .u8 x])=vT s:=by rw [Ww]; rfl
 rw [g];rfl
section
variable {s0 st:St} {fr:AFr}
def VO.repl {G:Gh} {r:Nat} {cs:List V} {o:Obj} {i:Nat} {u v:V} (hi:cs[i]? =some u) (f:(∀es,u≠ .mp es)∧(∀s p,u≠ .sit s p)∧(∀b,u≠ .buf b)) (n:∀c,VR G u c->VR G v c) (h:VO G r cs o):VO G r (cs.set i v) o:=by
 cases h with
 | @cells _ C t l g m=>
  refine .cells (by rw [List.length_set]; exact l) ?_ m;intro k x c a j;rw [List.getElem?_set]at a;split at a
  ·rename_i e; subst e;split at a
   ·cases a;exact n c (g _ _ _ hi j)
   ·cases a
  ·exact g k x c a j
 | @mp es _ _ _ _=>
  exfalso
  cases i with
  |zero=>simp at hi; exact f.1 _ hi.symm
  |succ i=>simp at hi
 | sit s q=>
  exfalso
  cases i with
  |zero=>simp at hi; exact f.2.1 _ _ hi.symm
  |succ i=>simp at hi
 | buf _ _ _ _=>
  exfalso
  cases i with
  |zero=>simp at hi; exact f.2.2 _ hi.symm
  |succ i=>simp at hi
def Wk.frzM {α:Type} {c:α->V} {l l':List α} {cs:List V} (j i id n:Nat) (I:Wf n l=some l') (h:(st.vars[j]?,cs[i]?,st.vars[id]?)=(some cs,some (.own id n 1),some [.buf (l.map c)])):
  Wk s0 fr st fr ((st.put id []).put j (cs.set i (.sl 1 (l'.map fun x=> [c x]) .none))):=by
 unfold Wf at I;split at I
 ·rename_i Y; cases I;injection h with X h; injection h with f k
  have hne:j≠id:=fun e=>by
   subst e; rw [X]at k; cases k
   cases i with
   |zero=>simp at f
   |succ i=>simp at f
  have hu:(∀es,V.own id n 1≠ .mp es)∧(∀s p,V.own id n 1≠ .sit s p)∧(∀b,V.own id n 1≠ .buf b):=⟨(fun _ e=>by cases e),(fun _ _ e=>by cases e),(fun _ e=>by cases e)⟩
  have hchunk:jw 1 n ((l.map c).take (n*1))=(l.take n).map fun x=> [c x]:=by
   have hl:(l.take n).length=n:=O3;rw [Nat.mul_one,<-List.map_take,<-XV c (l.take n),hl]
  have hgone:V.gone cs=false:=by
   match cs,f with
   | [],f=>simp at f
   | [x],f=>
    cases i with
    |zero=>simp at f; subst f; rfl
    |succ i=>simp at f
   |_::_::_,_=>simp [V.gone]
  intro gl w0 G0 G w a g1 g2 S g4;have m:st.le (st.put id []):=St.le_put st id [];have g:(st.put id []).le ((st.put id []).put j (cs.set i (.sl 1 ((l.take n).map fun x=> [c x]) .none))):=St.le_put _ _ _;have N:=m.trans g
  have fin:∀G',Ext st G G'->Rel gl w0 G' (st.put id []) w->(∀x,VR G' (.own id n 1) x->VR G' (.sl 1 ((l.take n).map fun x=> [c x]) .none) x)->s0.le ((st.put id []).put j (cs.set i (.sl 1 ((l.take n).map fun x=> [c x]) .none)))∧∃G',Ext s0 G0 G'∧Rel gl w0 G' ((st.put id []).put j (cs.set i (.sl 1 ((l.take n).map fun x=> [c x]) .none))) w∧wP G' ((st.put id []).put j (cs.set i (.sl 1 ((l.take n).map fun x=> [c x]) .none))) fr a:=by
   intro G' L hr hv;have U:=g4.ext L m;refine⟨g1.trans N,G',g2.trans g1 L,hr.forget O2 (fun t p h=>h) ?_,U.defers,U.size,fun t=>⟨V.sc_mono g _ (U.slot t).1,(U.slot t).2⟩⟩
   have M:(st.put id []).vars[j]? =some cs:=by
    simp only [St.put,List.getElem?_set,hne.symm,if_false]; exact X
   intro id' cc F;rcases St.put_get F with⟨rfl,rfl⟩|⟨hne',F⟩
   ·refine ⟨V.scs_mono g _ ((V.scs_iff _ _).2 ?_), ?_⟩
    ·intro v hv';rcases List.mem_or_eq_of_mem_set hv' with hm|rfl
     ·exact(V.scs_iff _ _).1 (hr.sc _ _ M) v hm
     ·simp [V.sc]
    ·intro W;exact⟨cs,M,hgone,fun r o ho=>VO.repl f hu hv ho⟩
   ·refine⟨V.scs_mono g _ (hr.sc _ _ F), ?_⟩;intro W;exact⟨cc,F,W,fun r o ho=>ho⟩
  rcases Nat.eq_zero_or_pos n with Z|A
  ·subst Z;refine fin G (.refl _ _) (S.kill id) ?_;intro x L
   cases L with
   |own k0 _ _ _=>exact absurd k0 (Nat.lt_irrefl _)
   |ownnil=>simp only [List.take_zero,List.map_nil]; exact .slnil _ _
  ·obtain ⟨b0,o0,m1,m2,m3,m4,m5⟩:=S.vars j cs X hgone
   have O:∃x,VR G (.own id n 1) x:=by
    cases m4 with
    | @cells _ C el h1 h2 h3=>
     have hlt:i<cs.length:=by
      rcases iS i cs.length with h|h
      ·exact h
      ·rw [iN h]at f; cases f
     exact⟨C[i]' O0,h2 i _ _ f O2⟩
    | _=>
     exfalso
     cases i with
     |zero=>simp at f
     |succ i=>simp at f
   obtain⟨x,L⟩:=O
   cases L with
   |ownnil=>exact absurd A (Nat.lt_irrefl _)
   | @own _ _ _ b cap k0 k1 k2 k3=>
    obtain⟨G',r1,r2,r3⟩:=S.freeze k k1 k0 O1 (O7 Y) k2 k3 n
    have hf:Rel gl w0 G' (st.put id []) w:=by
     refine r1.forget (by simp [St.pushFam,St.put]) ?_ ?_
     ·intro t' q H;have:t'<st.fams.length:=wF H;simp only [St.pushFam,St.put]at H ⊢;rw [iU this]; exact H
     ·intro x c F;exact⟨(S.kill id).sc x c F,fun W=>⟨c,F,W,fun _ _ x=>x⟩⟩
    refine fin G' r2 hf ?_;rw [hchunk]at r3;intro y hy
    cases hy with
    |ownnil=>exact absurd A (Nat.lt_irrefl _)
    | @own _ _ _ b' cap' q0 q1 q2 q3=>
     have hb:b'=b:=by
      have:=r2.var id (wF k);rw [q1,k1]at this; injection this
     subst hb;have z:((l.take n).map fun x=> [c x]).length=n:=O3;generalize hrows:((l.take n).map fun x=> [c x])=rows at r3 z ⊢;subst z
     cases r3 with
     |sl e1 e2 e3=>exact .sl e1 trivial q2
 ·cases I
end
section
variable {P:Program}
def mD {G:Gh} {w:World} {t el:TypeId} {n:Nat} {C:List V} {x:Value} {k m:IntKind} {i:Nat} {z:Int} (N:P.underlying t=some (.array n el)) (a:((ti P el).ok,(ti P el).sz,(ti P el).d)=(true,1, .int m)) (hi:i<n) (O:VR G (.agg C) x) (v:C[i]? =some (.int m z)):
  (Instr.index t x (.int k i)).run P w= .ok (.int m z) w:=by
 injection a with F a; injection a with H s;obtain⟨inf,d,l,j,q,r⟩:=pB F;have f:(ti P el).d≠ .other:=by rw [s]; simp
 have h:(ti P el).d.agg=gN d:=by rw [r]at f ⊢; exact gX f
 have o:inf.size=1:=by rw [<-q]; exact H
 have g:(ti P el).d.agg=false:=by rw [s]; rfl
 cases O with
 | @agg _ b L M=>
  have e:i<b.size:=by rw [<-L]; exact wF v
  have A:=M i _ (b[i]) v (by simp [e])
  have I:b[i]= .int m z:=by
   generalize b[i]=y at A;cases A; rfl
  simp only [Instr.index,asIntOf,iB,iC,run_underlying N,iA,Int.natCast_nonneg,Int.ofNat_lt,hi,and_self,if_true,zF l,part,uq j,<-h,g,iT,if_false,Int.toNat_natCast,o,Nat.mul_one];have:b[i]? =some b[i]:=by simp [e]
  rw [this,I]; rfl
def zbF {gl:Nat->List V} {s0:St} {cs:List Code} {AQ:Exit->AFr->St->Prop} {id:Nat} {ops:Array Oper} {fr:AFr} {st:St} {t el n i a b:Nat} {k m:IntKind} {z:Int} {O:List V} (fr':AFr) (st':St) (A:Cl s0 (zh P gl s0 cs AQ))
  (g:(ops.toList.head?.map fun o=>(o.op,o.guard))=some (.index t (.tmp a) (.tmp b),none)) (hu:P.underlying t=some (.array n el)) (H:((ti P el).ok,(ti P el).sz,(ti P el).d)=(true,1, .int m)) (F:i<n)
  (hx:yG fr.l a= .agg O) (hi:yG fr.l b= .int k i) (Y:O[i]? =some (.int m z)) (h:yy P gl ops 1 (kY (fr,st) (yw ops 0) (.int m z)) (toW s0 fr' st'))
  (X:zh P gl s0 cs AQ fr' st'):zh P gl s0 (.region id ops false::cs) AQ fr st:=by
 refine jR.of ?_;intro w0 G w ac W C;refine wp_region ?_
 obtain ⟨o,rest,e,I,hg⟩:∃o rest,ops.toList=o::rest∧o.op= .index t (.tmp a) (.tmp b)∧o.guard=none:=by
  cases N:ops.toList with
  |nil=>rw [N]at g; simp at g
  | cons o r=>
   rw [N]at g;simp only [List.head?_cons,Option.map_some,iL,iW]at g;exact⟨o,r,rfl,g.1,g.2⟩
 have l:ops[0]? =some o:=by rw [<-Array.getElem?_toList,e]; rfl
 have L:ops.size=rest.length+1:=by rw [<-Array.length_toList,e]; rfl
 have hd:yw ops 0=o.dst:=by simp [yw,Qr,l]
 rw [Xb,hd]at h;have s:=(C.slot a).2;have f:=(C.slot b).2;rw [hx]at s; rw [hi]at f
 have U:ac.eval (.tmp b)= .int k i:=by
  show ac.tmps.getD b undef=_;generalize ac.tmps.getD b undef=y at f;cases f; rfl
 have q:=mD (w:=w) (k:=k) hu H F s Y;rw [List.range_eq_range',L,List.range'_succ];simp only [wpOps,l];rw [iI (by simp [Region.wanted,hg])];refine .inl ?_
 have Z:(execOp ac.eval o).run P w= .ok (.value (.int m z)) w:=by
  have S:ac.eval (.tmp a)=ac.tmps.getD a undef:=rfl;simp only [execOp,I,iB,U,S,q,iA,iC]
 simp only [Oper.wp,Z,Oper.upon];have j:ops.toList.drop 1=rest:=by rw [e]; rfl
 unfold yy at h;rw [j]at h;refine Yt (P:=P) (gl:=gl) (w0:=w0) (ops:=ops) rest 1 _ st G w _ j h W (C.put o.dst (by simp [V.sc]) (.int m z)) ?_;intro v M G2 a2 w2 m1 m2 m3 m4 m5;exact⟨v,M,G2,A _ _ _ _ m1 X,m2,m3,m4,m5⟩
end
section
variable {gl:Nat->List V} {ops:Array Oper} {s0:St} {c:Code} {cs:List Code} {AQ:Exit->AFr->St->Prop} {id:Nat} {fr:AFr} {st:St} {p:Prop}
def zbS {fr':AFr} {st':St} (a:Cl s0 (AQ .normal)) (b:Wk s0 fr st fr' st') (h:Im p (AQ .normal fr' st')):Im p (AQ .normal fr st):=fun k=>a _ _ _ _ b (h k)
def idL (t el n i a b:Nat) (m:IntKind) (z:Int) (g:List V) (R:Ren) (fr':AFr) (st':St) (h:Im p (zh Tryz.prog gl s0 (c::cs) AQ fr' st'))
  (r:(ops.toList.head?.map fun o=>(o.op,o.guard))=some (.index t (.tmp a) (.tmp b),none):=by kernel_rfl) (s:Tryz.prog.underlying t=some (.array n el):=by kernel_rfl) (f:((ti Tryz.prog el).ok,(ti Tryz.prog el).sz,(ti Tryz.prog el).d)=(true,1, .int m):=by kernel_rfl) (e:Nat.blt i n=true:=by kernel_rfl)
  (v:yG fr.l a= .agg g:=by kernel_rfl) (hi:yG fr.l b= .int .i64 i:=by kernel_rfl) (l:g[i]? =some (.int m z):=by kernel_rfl)
  (j:mf tyT gl ops 1 (kY (fr,st) (yw ops 0) (.int m z)) s0 R fr' st'=true:=by kernel_rfl) (q:wkL R fr' st'=oA tyT gl ops 1 (kY (fr,st) (yw ops 0) (.int m z)) R fr' st':=by kernel_rfl):Im p (zh Tryz.prog gl s0 (.region id ops false::c::cs) AQ fr st):=
 fun k=>zbF fr' st' zO r s f (iD e) v hi l (kE R j q) (h k)
end
end Go.Abs
end
section
namespace Go.Abs
open Go Go.Proofs
structure zw where
 f_0:Int
 f_1:Int
 f_2:Int
 f_3:Int
 f_4:Int
 f_5:Int
 f_6:Int
 f_7:Int
def zw.cells (x:zw):List V:= [.int .u32 x.f_0, .int .u32 x.f_1, .int .u32 x.f_2, .int .u32 x.f_3, .int .u32 x.f_4, .int .u32 x.f_5, .int .u32 x.f_6, .int .u32 x.f_7]
structure zn where
 f_h:zw
 uj:(List Int)
 f_n:Int
def zn.cells (x:zn):List V:= [.int .u32 x.f_h.f_0, .int .u32 x.f_h.f_1, .int .u32 x.f_h.f_2, .int .u32 x.f_h.f_3, .int .u32 x.f_h.f_4, .int .u32 x.f_h.f_5, .int .u32 x.f_h.f_6, .int .u32 x.f_h.f_7,ql 1 (cI .u8) x.uj,qi x.f_n]
structure pS where
 f_0:Int
 f_1:Int
 f_2:Int
 f_3:Int
 f_4:Int
 f_5:Int
 f_6:Int
 f_7:Int
 f_8:Int
 f_9:Int
 f_10:Int
 f_11:Int
 f_12:Int
 f_13:Int
 f_14:Int
 f_15:Int
 f_16:Int
 f_17:Int
 f_18:Int
 f_19:Int
 f_20:Int
 f_21:Int
 f_22:Int
 f_23:Int
 f_24:Int
 f_25:Int
 f_26:Int
 f_27:Int
 f_28:Int
 f_29:Int
 f_30:Int
 f_31:Int
 f_32:Int
 f_33:Int
 f_34:Int
 f_35:Int
 f_36:Int
 f_37:Int
 f_38:Int
 f_39:Int
 f_40:Int
 f_41:Int
 f_42:Int
 f_43:Int
 f_44:Int
 f_45:Int
 f_46:Int
 f_47:Int
 f_48:Int
 f_49:Int
 f_50:Int
 f_51:Int
 f_52:Int
 f_53:Int
 f_54:Int
 f_55:Int
 f_56:Int
 f_57:Int
 f_58:Int
 f_59:Int
 f_60:Int
 f_61:Int
 f_62:Int
 f_63:Int
def pS.cells (x:pS):List V:= [.int .u32 x.f_0, .int .u32 x.f_1, .int .u32 x.f_2, .int .u32 x.f_3, .int .u32 x.f_4, .int .u32 x.f_5, .int .u32 x.f_6, .int .u32 x.f_7, .int .u32 x.f_8, .int .u32 x.f_9, .int .u32 x.f_10, .int .u32 x.f_11, .int .u32 x.f_12, .int .u32 x.f_13, .int .u32 x.f_14, .int .u32 x.f_15, .int .u32 x.f_16, .int .u32 x.f_17, .int .u32 x.f_18, .int .u32 x.f_19, .int .u32 x.f_20, .int .u32 x.f_21, .int .u32 x.f_22, .int .u32 x.f_23, .int .u32 x.f_24, .int .u32 x.f_25, .int .u32 x.f_26, .int .u32 x.f_27, .int .u32 x.f_28, .int .u32 x.f_29, .int .u32 x.f_30, .int .u32 x.f_31, .int .u32 x.f_32, .int .u32 x.f_33, .int .u32 x.f_34, .int .u32 x.f_35, .int .u32 x.f_36, .int .u32 x.f_37, .int .u32 x.f_38, .int .u32 x.f_39, .int .u32 x.f_40, .int .u32 x.f_41, .int .u32 x.f_42, .int .u32 x.f_43, .int .u32 x.f_44, .int .u32 x.f_45, .int .u32 x.f_46, .int .u32 x.f_47, .int .u32 x.f_48, .int .u32 x.f_49, .int .u32 x.f_50, .int .u32 x.f_51, .int .u32 x.f_52, .int .u32 x.f_53, .int .u32 x.f_54, .int .u32 x.f_55, .int .u32 x.f_56, .int .u32 x.f_57, .int .u32 x.f_58, .int .u32 x.f_59, .int .u32 x.f_60, .int .u32 x.f_61, .int .u32 x.f_62, .int .u32 x.f_63]
structure za where
 wh:(List UInt8)
 yF:Int
 vk:(List UInt8)
def za.cells (x:za):List V:= [qs x.wh,qi x.yF,qs x.vk]
structure zJ where
 zu:(List (List za))
structure zb where
 yF:Int
 wb:(List UInt8)
 zL:zJ
def zb.cells (x:zb):List V:= [qi x.yF,qs x.wb,ql 1 (cL 3 za.cells) x.zL.zu]
structure zR where
 xd:Int
 bC:(List UInt8)
 vK:(List UInt8)
def zR.cells (x:zR):List V:= [qi x.xd,qs x.bC,qs x.vK]
structure zg where
 zL:zJ
 xe:zR
def zg.cells (x:zg):List V:= [ql 1 (cL 3 za.cells) x.zL.zu,qi x.xe.xd,qs x.xe.bC,qs x.xe.vK]
structure zv where
 Yv:Int
 u0:(List UInt8)
 dK:Int
 zG:(List (List UInt8))
 GU:Bool
 GI:Bool
 rO:Bool
 ym:(List zb)
 jj:Int
 mv:Bool
 zy:(List zg)
def zv.cells (x:zv):List V:= [qi x.Yv,qs x.u0,qi x.dK,ql 1 cS x.zG,qb x.GU,qb x.GI,qb x.rO,ql 3 zb.cells x.ym,qi x.jj,qb x.mv,ql 4 zg.cells x.zy]
structure zc where
 f_L:(List Int)
 xh:Int
end Go.Abs
end
