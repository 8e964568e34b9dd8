/- Closed runs. No condition. -/
import Derived.Test.YtkabooclnoiclaaGreatDoorK02
set_option linter.all false
section
namespace Go.K
open Go.Abs
def kG (s:Nat):Nat->Nat->List KV
 |0,_=> []
 |n+1,i=> .int .u8 (Int.ofNat (de s i))::kG s n (i+1)
def gL (h:KH) (id off m:Nat):Option (List KV):=
 match h.get id with
 |some (.cells _ b)=>if((b.drop off).take m).length=m∧KV.isCells ((b.drop off).take m)=true then some ((b.drop off).take m)else none
 |_=>none
def fZ (h:KH) (d:TD) (sz:Nat) (x:KV):Option (Nat×List KV):=
 match d,x with
 | .slice _ e _, .sl id b len _ c=>if sz=c∧e=sz then(match gL h id b (len*sz)with|some l=>some (len,l)|none=>none)else none
 | .slice .., .nilsl=>some (0,[])
 | .slice .., .slz=>some (0,[])
 | .str, .str n s=>if sz=1 then some (n,kG s n 0)else none
 |_,_=>none
def dL (h:KH) (T:TypeId->TI) (d dx:TD) (s x:KV):Option (KV×KH):=
 match d with
 | .slice e f bytes=>
  if(T e).zok=true∧(T e).zero.cells.length=f∧0<bytes∧wY h=true then
  match fZ h dx f x with
  |none=>none
  | some (n,new)=>
   if n=0 then(match s with| .sl .. | .nilsl| .slz=>some (s,h)|_=>none)else
   match s with
   | .nilsl=>if n*bytes<=140737488355328 then some (.sl h.next 0 n none f,h.push (.cells false new))else none
   | .sl id b len c i=>
    if i=f∧(len+n)*bytes<=140737488355328 then
     match gL h id b (len*f)with
     |none=>none
     | some old=>
      match c with
      | some c=>
       if len+n<=c then(match h.get id with
        |some (.cells false g)=>if b+len*f+new.length<=g.length then some (.sl id b (len+n) (some c) f,h.set id (some (.cells false (g.take (b+len*f)++new++g.drop (b+len*f+new.length)))))else none
        |_=>none)
       else some (.sl h.next 0 (len+n) none f,h.push (.cells false (old++new)))
      | none=>match h.get id with
       |some (.cells false g)=>some (.sl h.next 0 (len+n) none f,(h.set id none).push (.cells false (old++new)))
       |_=>none
    else none
   |_=>none
  else none
 |_=>none
def Zl {P:Program} (w:World) (t tx ty e:TypeId) (i:TypeInfo) (o:P.underlying t=some (.slice e)) (hi:P.info? e=some i) (b off sLen sCap:Nat) (x:Value) (n:Nat) (c:List Value)
  (j:Src P i.size tx x n c w) (hroom:sLen+n<=sCap) (C:Array Value) (el:TypeId) {fz:Nat×Nat} (m:w.heap[b]? =some (.cells C el fz)) (k:GZ fz C.size) (f:off+sLen*i.size+c.length<=C.size):
  (Builtin.append_ #[t,tx] ty #[.slice (some ⟨b,off,none⟩) sLen sCap,x]).run P w= .ok (.slice (some ⟨b,off,none⟩) (sLen+n) sCap)
   (w.setRow b (C.toList.take (off+sLen*i.size)++c++C.toList.drop (off+sLen*i.size+c.length)).toArray):=by
 have g:=qH (P:=P) b (off+sLen*i.size) el fz c 0 C w m k (by simpa using f) j.one;simp only [Nat.add_zero]at g;rcases j.kind with⟨p,l⟩|l<;>simp [Builtin.append_,run_underlying o,run_underlying l,sizeOf,typeInfo,hi,j.len,hroom,j.cells,Addr.add_lit,g]
section
variable {P:Program} {B:xi} {G:Gh} {h:KH} {w:World} {fr:KFr} {a:Act}
def Z9 (r:KRel B G h w) {id off m b o:Nat} {l:List KV} (e:gL h id off m=some l) (F:G.at_ id=some (b,o)):
  ∃ro cs,h.get id=some (.cells ro cs)∧l=(cs.drop off).take m∧l.length=m∧∃y:List Value,y.length=m∧(∀(j:Nat) u,y[j]? =some u->w.cell? ⟨b,o+off+j,none⟩=some u)∧(∀u∈y,u.oneCell'=true)∧KRs G l y.toArray:=by
 unfold gL at e;split at e
 ·rename_i ro cs C;split at e
  ·rename_i H;obtain⟨A,f⟩:=H;cases e;refine⟨ro,cs,C,rfl,A, ?_⟩
   have t:∀j,j<m->∃c u,w.cell? ⟨b,o+(off+j),none⟩=some c∧cs[off+j]? =some u∧KR G u c:=by
    intro j n
    have v:off+j<cs.length:=by
     simp only [List.length_take,List.length_drop]at A; omega
    obtain⟨c,s,z⟩:=r.cell C F (off+j) _ (iK v);exact⟨c,_,s,iK v,z⟩
   have k:KRs G ((cs.drop off).take m) (((List.range m).map fun j=>(w.cell? ⟨b,o+(off+j),none⟩).getD undef).toArray):=by
    refine⟨by simpa using A, ?_⟩;intro j u x i q
    have n:j<m:=by
     have:=wF i;omega
    obtain⟨c,I,s,z,E⟩:=t j n;simp only [List.getElem?_toArray,iV,List.getElem?_range n,Option.map_some,s,Option.getD_some]at q;cases q;rw [List.getElem?_take,iI n,List.getElem?_drop,z]at i;cases i;exact E
   refine⟨_,by simp, ?_, ?_,k⟩
   ·intro j u i;rw [iV]at i;obtain⟨K,g,rfl⟩:=iR.1 i
    have p:j<m:=by
     have:=wF g;simpa using this
    rw [List.getElem?_range p]at g;cases g;obtain⟨c,I,s,_⟩:=t j p;rw [Nat.add_assoc,s]; rfl
   ·intro u i;obtain⟨j,n⟩:=List.getElem?_of_mem i
    have p:j<m:=by
     have:=wF n;simpa using this
    have q:((cs.drop off).take m)[j]? =some (((cs.drop off).take m)[j]'(by omega)):=iK _;have:=k.2 j _ u q (by rw [List.getElem?_toArray]; exact n)
    exact Zd this (by
     simp only [KV.isCells,List.all_eq_true]at f
     exact f _ (List.getElem_mem _))
  ·cases e
 ·cases e
def Uc (s:Nat):∀(n i j:Nat),(kG s n i)[j]? =if j<n then some (.int .u8 (Int.ofNat (de s (i+j))))else none
 |0,i,j=>by simp [kG]
 |n+1,i,0=>by simp [kG]
 | n+1,i,j+1=>by
  simp only [kG,List.getElem?_cons_succ,Uc s n (i+1) j,Nat.add_lt_add_iff_right];rw [show i+1+j=i+(j+1)by omega]
def bG (s:Nat):∀(n i:Nat),(kG s n i).length=n
 |0,i=>rfl
 |n+1,i=>by simp [kG,bG s n (i+1)]
def VF (s:ByteArray):KRs G (kG (zi s.data.toList) s.size 0) (byteCells s).toArray:=by
 refine⟨by simp [bG,byteCells], ?_⟩;intro j v c b e;rw [Uc]at b;split at b
 ·rename_i f;cases b;have g:j<s.data.toList.length:=by rw [kx]; exact f
  simp only [byteCells,List.getElem?_toArray,iV,iK g,Option.map_some]at e;cases e;rw [Nat.zero_add,KR.idx s f];exact .int _ _
 ·cases b
def Gk (r:KRel B G h w) {tx:TypeId} {sz:Nat} {x:KV} {c:Value} {n:Nat} {new:List KV} (k:KR G x c) (e:fZ h (ti P tx).d sz x=some (n,new)):
  ∃f:List Value,Src P sz tx c n f w∧KRs G new f.toArray∧new.length=n*sz:=by
 unfold fZ at e;split at e
 ·rename_i M E by_ id m len cp C hd;split at e
  ·rename_i y; obtain⟨rfl,rfl⟩:=y;split at e
   ·rename_i l A;simp only [iL,iW]at e;obtain⟨rfl,rfl⟩:=e;obtain⟨g,i,T,_,_⟩:=zM hd
    cases k with
    | sl v p Q S=>
     rename_i cap b o;obtain⟨ro,L,N,O,t,q,F,H,I,K⟩:=Z9 r A v;exact⟨q,Src.ofSlice (P:=P) w g ⟨b,o+m,none⟩ len cap q F (fun j u z=>by rw [wn]; exact H j u z) I,K,t⟩
   ·cases e
  ·cases e
 ·rename_i hd;simp only [iL,iW]at e;obtain⟨rfl,rfl⟩:=e;obtain⟨g,_⟩:=zM hd;cases k;exact⟨[],Src.ofNil (P:=P) w g 0,⟨rfl,by simp⟩,by simp⟩
 ·rename_i hd;simp only [iL,iW]at e;obtain⟨rfl,rfl⟩:=e;obtain⟨g,_⟩:=zM hd
  cases k with
  |slz ad cap=>exact⟨[],Src.ofSlice (P:=P) w g ad 0 cap [] (by simp) (by simp) (by simp),⟨rfl,by simp⟩,by simp⟩
 ·rename_i U s hd;split at e
  ·rename_i p; subst p;simp only [iL,iW]at e;obtain⟨rfl,rfl⟩:=e
   cases k with
   |str s=>exact⟨byteCells s,Src.ofString (P:=P) w (vf hd) s,VF s,by simp [bG]⟩
  ·cases e
 ·cases e
def ku {t tx ty e:TypeId} {i:TypeInfo} (k:P.underlying t=some (.slice e)) (hi:P.info? e=some i) (base:Option Addr) (sLen sCap:Nat) (g:sLen<=sCap) (x:Value) (b:List Value)
  (c:Src P i.size tx x 0 b w):(Builtin.append_ #[t,tx] ty #[.slice base sLen sCap,x]).run P w= .ok (.slice base sLen sCap) w:=by
 have j:b= []:=List.eq_nil_of_length_eq_zero (by rw [c.newsLen]; simp);subst j;rcases c.kind with⟨l,f⟩|f<;>cases base<;>simp [Builtin.append_,run_underlying k,run_underlying f,sizeOf,typeInfo,hi,c.len,g,c.cells,storeCells]
def lH (r:KRel B G h w) (H:wY h=true) {t tx ty e:TypeId} {sz by_:Nat} (ht:(ti P t).d= .slice e sz by_) (hz:(ti P e).zok=true) (I:(ti P e).zero.cells.length=sz) (y:0<by_)
  {base:Option Addr} {len sCap n:Nat} {old new:List KV} {x:Value} {olds b:List Value} (Z:Src P sz tx x n b w) (O:KRs G new b.toArray) (W:new.length=n*sz) (hold:KRs G old olds.toArray) (X:old.length=len*sz)
  (Q:(Builtin.firstCells sz len (.slice base len sCap)).run P w.drew= .ok olds.toArray w.drew) (k:sCap<len+n) (A:(len+n)*by_<=140737488355328):
  KS P B G w (Builtin.append_ #[t,tx] ty #[.slice base len sCap,x]) (.sl h.next 0 (len+n) none sz) (h.push (.cells false (old++new))):=by
 obtain⟨hu,i,N,s,C⟩:=zM ht;obtain⟨i',z,g,M,L⟩:=jZ hz;rw [N]at g; cases g;have hneed:len+n<=(len+n)*by_:=Nat.le_mul_of_pos_right _ y
 have p:=run_append_grow_src (P:=P) w t tx ty e i z hu N M base len sCap olds (s▸Q) x n b (s▸Z) k (by omega)
  (growslice_fits k (by rw [<-C]; exact A))
 have hcapge:=grownCap_ge w (len+n) sCap e;have K:z.cells.size=sz:=by rw [<-V.of_cells_length,<-L]; exact I
 have r1:=r.of_heap (w':=w.drew) rfl rfl rfl rfl;have F:h.next+1<65000:=by simpa [wY,xn] using H
 have m:=Gh.new_le G r.fresh (w.heap.size,0) (grownCap w (len+n) sCap e*sz);have S:old.length=olds.length:=by have:=hold.1; simpa using this
 have h2:new.length=b.length:=by have:=O.1; simpa using this
 have U:(len+n)*sz<=grownCap w (len+n) sCap e*sz:=Nat.mul_le_mul_right _ hcapge
 have q:(grownCap w (len+n) sCap e-(len+n))*sz+(len+n)*sz=grownCap w (len+n) sCap e*sz:=by
  rw [<-Nat.add_mul]; congr 1; omega
 rw [Nat.add_mul]at U q
 have Y:=r1.alloc F (o:= .cells false (old++new)) (ob:= .cells ((olds++b).toArray++Builtin.zeroCells z.cells (grownCap w (len+n) sCap e-(len+n))) e) (room:=grownCap w (len+n) sCap e*sz)
  (.cells (by rw [iO]; omega) (by simp only [Array.size_append,List.size_toArray,iO,Builtin.zeroCells,Array.size_map,Array.size_range,K]; omega) (fun _=> .zero _) (fun j v c f l=>by
   rw [Nat.zero_add]at l;refine KR.le m ?_;rcases iS j old.length with E|E
   ·rw [iU E]at f;rw [Array.getElem?_append_left (by simp only [List.size_toArray,iO]; omega),List.getElem?_toArray,iU (by omega)]at l;exact hold.2 j v c f (by simpa using l)
   ·rw [List.getElem?_append_right E]at f;have T:=wF f;rw [Array.getElem?_append_left (by simp only [List.size_toArray,iO]; omega),List.getElem?_toArray,List.getElem?_append_right (by omega),<-S]at l
    exact O.2 _ v c f (by simpa using l)))
 exact⟨_,_,_,p,m, .sl (off:=0) (o:=0) (Gh.new_at _ _ _ _) hcapge (by rw [Gh.new_room]; omega) (by simp),Y⟩
def K1 (r : KRel B G h w) {t tx ty:TypeId} {s x v:KV} {c cx:Value} {h':KH} (X:KR G s c) (hx:KR G x cx) (e:dL h (ti P) (ti P t).d (ti P tx).d s x=some (v,h')):
  KS P B G w (Builtin.append_ #[t,tx] ty #[c,cx]) v h':=by
 unfold dL at e;split at e
 ·rename_i el sz by_ hd;split at e
  ·rename_i hc;obtain⟨hz,N,K,A⟩:=hc;obtain⟨hu,i,M,k,hby⟩:=zM hd;split at e
   ·cases e
   ·rename_i n new Z;obtain⟨f,I,O,s3⟩:=Gk r hx Z;split at e
    ·rename_i W;subst W;split at e
     ·cases e
      cases X with
      |sl F h1 h2 h3=>exact .same r (ku hu M _ _ _ h1 _ _ (k▸I)) (.sl F h1 h2 h3)
     ·cases e;cases X;exact .same r (ku hu M _ _ _ (iP _) _ _ (k▸I)) .nilsl
     ·cases e
      cases X with
      |slz ad cap=>exact .same r (ku hu M _ _ _ (Nat.zero_le _) _ _ (k▸I)) (.slz _ _)
     ·cases e
    ·rename_i W;split at e
     ·split at e
      ·rename_i m;cases e;cases X;have:=lH r A hd hz N K (base:=none) (len:=0) (sCap:=0) (old:= []) (olds:= []) (ty:=ty) I O s3 ⟨rfl,by simp⟩ (by simp) (run_firstCells_none w.drew _ _ _ _) (by omega) (by rw [Nat.zero_add]; exact m);simpa using this
      ·cases e
     ·rename_i id off len cp g;split at e
      ·rename_i m;obtain⟨rfl,m⟩:=m;split at e
       ·cases e
       ·rename_i old hold
        cases X with
        | sl F h1 h2 h3=>
         rename_i cap b o;obtain⟨ro,cs,g1,g2,g3,vs,v1,v2,v3,v4⟩:=Z9 r hold F
         have Q:(Builtin.firstCells g len (.slice (some ⟨b,o+off,none⟩) len cap)).run P w.drew= .ok vs.toArray w.drew:=
          run_firstCells_some w.drew g len ⟨b,o+off,none⟩ len cap vs v1 (fun j u U=>by rw [wn]; exact v2 j u U)
         split at e
         ·rename_i cc;obtain rfl:=h3 cc rfl;split at e
          ·rename_i q;split at e
           ·rename_i cs' L;split at e
            ·rename_i S;cases e;obtain⟨C,cel,fz,k1,k2,k3,E,k5⟩:=r.cells L F;have E:=E rfl;have h2':new.length=f.length:=by have:=O.1; simpa using this
             have l:=Zl (P:=P) w t tx ty el i hu M b (o+off) len cc cx n f (k▸I) q C cel k1 E (by rw [<-k]; omega);have Y:=r.splice L F k1 E O (off+len*g) S;rw [<-k]at l;simp only [List.size_toArray]at Y;refine⟨_,_,G,l, .refl _, .sl F q h2 (fun y hy=>by cases hy; rfl), ?_⟩;rw [Nat.add_assoc o off];exact Y
            ·cases e
           ·cases e
          ·rename_i hgt;cases e;exact lH r A hd hz N K I O s3 v4 g3 Q (by omega) m
         ·split at e
          ·rename_i cs' L;cases e;rw [g1]at L; cases L;have hid:=r.id_lt g1
           by_cases q:len+n<=cap
           ·obtain ⟨C,cel,fz,k1,k2,k3,E,k5⟩:=r.cells g1 F;have E:=E rfl;have h2':new.length=f.length:=by have:=O.1; simpa using this
            have hn':h.next+1<65000:=by simpa [wY,xn] using A
            have hm:(len+n)*g<=cap*g:=Nat.mul_le_mul_right _ q;rw [Nat.add_mul]at hm;have l:=Zl (P:=P) w t tx ty el i hu M b (o+off) len cap cx n f (k▸I) q C cel k1 E (by rw [<-k]; omega);rw [<-k]at l;have H:=Gh.new_le G r.fresh (b,o+off) (cap*g)
            have T:∀j,(C.toList.take (o+off+len*g)++f++C.toList.drop (o+off+len*g+f.length))[j]? =if j<o+off+len*g then C.toList[j]? else if j<o+off+len*g+f.length then f[j-(o+off+len*g)]? else C.toList[j]? :=
             fun j=>bQ C.toList f (o+off+len*g) j (by simp only [Array.length_toList]; omega)
            have hmv:=r.move hn' (k':=o+off) (room:=cap*g) (o':= .cells false (old++new)) g1 rfl rfl F (qA w (C':=(C.toList.take (o+off+len*g)++f++C.toList.drop (o+off+len*g+f.length)).toArray) k1)
             (.cells (by rw [iO]; omega) (by simp only [List.size_toArray,iO,List.length_take,List.length_drop,Array.length_toList]; omega) (fun _ i M=>E i (by simp only [List.size_toArray,iO,List.length_take,List.length_drop,Array.length_toList]at M; omega)) (by
              intro j v c z p;refine KR.le H ?_;rw [List.getElem?_toArray,T]at p;rcases iS j old.length with U|U
              ·rw [iU U,g2,List.getElem?_take,iI (by omega),List.getElem?_drop]at z;rw [iI (by omega),Array.getElem?_toList,Nat.add_assoc]at p;exact k5 _ v c z p
              ·rw [List.getElem?_append_right U]at z;have hj2:=wF z;rw [iH (by omega),iI (by omega)]at p;refine O.2 _ v c z ?_;rw [show o+off+j-(o+off+len*g)=j-old.length by omega]at p
               simpa using p))
            exact⟨_,_,_,l,H, .sl (off:=0) (Gh.new_at _ _ _ _) q (by rw [Gh.new_room]; omega) (by simp),hmv⟩
           ·have:=lH (h:=h.set id none) (r.drop hid) (show wY (h.set id none)=true from A) hd hz N K (ty:=ty) I O s3 v4 g3 Q (by omega) m;exact this
          ·cases e
      ·cases e
     ·cases e
  ·cases e
 ·cases e
end
def Yk:List KV->Option Nat
 | []=>some 0
 | .int .u8 n::r=>match Yk r with|some s=>bif Int.toNat n|>.blt 256 then some (Nat.add (Int.toNat n) (Nat.mul 256 s))else none|none=>none
 |_=>none
def kJ (h:KH) (T:TypeId->TI) (s d:TypeId) (x:KV):Option (KV×KH):=
 if (T s).ok=true then
  match x with
  | .int _ n=>match(T d).d with
   | .int k=>some (.int k (k.wrap n),h)
   |_=>none
  | .str n b=>match(T d).d with
   | .str=>some (.str n b,h)
   | .slice e 1 _=>if(T e).d= .int .u8∧(T s).d= .str∧wY h=true then some (.sl h.next 0 n none 1,h.push (.cells false (kG b n 0)))else none
   |_=>none
  | .nilsl=>match(T s).d,(T d).d with
   | .slice e _ _, .str=>if(T e).d= .int .u8 then some (.str 0 0,h)else none
   |_,_=>none
  | .slz=>match(T s).d,(T d).d with
   | .slice e _ _, .str=>if(T e).d= .int .u8 then some (.str 0 0,h)else none
   |_,_=>none
  | .sl id c len _ 1=>match(T s).d,(T d).d with
   | .slice e _ _, .str=>if(T e).d= .int .u8 then(match gL h id c len with
    |some l=>match Yk l with|some b=>some (.str len b,h)|none=>none
    |none=>none)else none
   |_,_=>none
  |_=>none
 else none
def Uf (h:KH) (d dx:TD) (x y:KV):Option (KV×KH):=
 match d,x with
 | .slice _ f _, .sl id b len _ e=>if f=e then(match fZ h dx f y with
   | some (n,new)=>if n<=len then(match h.get id with
    |some (.cells false c)=>if b+new.length<=c.length then some (.int .i64 n,h.set id (some (.cells false (c.take b++new++c.drop (b+new.length)))))else none
    |_=>none)else none
   |none=>none)else none
 |_,_=>none
section
variable {P:Program} {B:xi} {G:Gh} {h:KH} {w:World} {fr:KFr} {a:Act}
def fe (r:KRel B G h w) {t:TypeId} {l c v:KV} {cl cc:Value} {h':KH} (S:KR G l cl) (N:KR G c cc) (e:Ur h (ti P) (kz P) (ti P t).d l c=some (v,h')):
  KS P B G w (Instr.makeSlice t cl cc) v h':=by
 unfold Ur at e;split at e
 ·rename_i n I by_ W li X ci hd;split at e
  ·rename_i Q;obtain⟨Z,h1,h2,h3,U,k,A⟩:=Q;cases e;cases S; cases N;obtain⟨T,i,m,C,y⟩:=zM hd;obtain⟨i',z,b,H,F⟩:=Zf U;rw [m]at b; cases b;have E:KRs G (kz P n).cells z.cells:=by rw [F]; exact KRs.of_zero
   have w1:IntKind.i64.wrap li=li:=IntWalk.i64_in _ (by omega);have Y:IntKind.i64.wrap ci=ci:=IntWalk.i64_in _ (by omega);have f:=dY E ci.toNat;rw [k]at f
   have j:(Instr.makeSlice t (.int W li) (.int X ci)).run P w= .ok (.slice (some ⟨w.heap.size,0,none⟩) li.toNat ci.toNat) (w.alloc (.cells ((Array.range (ci.toNat*I)).map (z.cells[· % z.cells.size]!)) n)):=by
    have p:¬((i.bytes:Int)*ci>2^48):=by
     have o:(2:Int)^48=281474976710656:=by decide
     rw [<-y,o]; omega
    have q:¬(ci<0):=by omega
    have s:¬(li<0):=by omega
    have x:¬(li>ci):=by omega
    simp only [Instr.makeSlice,iB,run_underlying T,iA,asInt,asIntOf,iC,typeInfo,run_program,m,w1,Y];simp only [p,q,s,x,decide_false,Bool.or_false,iT,if_false,run_askRoom,iA,iB,iC,Bool.or_self,zF m,<-C]
    by_cases g:ci.toNat*I=0
    ·simp only [g,if_true,iB,iC,iA];have O:((Array.range 0).map ((#[]:Array Value)[· % (#[]:Array Value).size]!))=(Array.range 0).map (z.cells[· % z.cells.size]!):=by simp
     rw [O];rfl
    ·simp only [g,if_false,iB,zU m H,iC,iA];rfl
   obtain⟨G',K,L,M⟩:=PB r A f n li.toNat I ci.toNat (by omega) (by rw [qB,k]; exact iP _);exact⟨_,_,G',j,K,L,M⟩
  ·cases e
 ·cases e
def VM {b o:Nat}:∀ {o:Nat} {l:List KV} {s:Nat},(∀(j:Nat) v,l[j]? =some v->∃c,w.cell? ⟨b,o+j,none⟩=some c∧KR G v c)->Yk l=some s ->
  ∃ns:List Int,ns.length=l.length∧s=zi (ns.map fun n=>UInt8.ofNat n.toNat)∧∀i,i<l.length->w.cell? ⟨b,o+i,none⟩=some (.int .u8 (ns.getD i 0))
 |o,[],s,k,e=>by simp only [Yk]at e; cases e; exact⟨[],rfl,rfl,fun i p=>by simp at p⟩
 | o, v ::r,s,k,e=>by
  unfold Yk at e;split at e
  ·rename_i f; cases f
  ·rename_i n E f;injection f with t g; subst t g;split at e
   ·rename_i y g;rw [xn,Bool.cond_decide]at e;split at e
    ·rename_i x;cases e
     obtain ⟨ns,z,A,C⟩:=VM (b:=b) (o:=o+1) (fun i v q=>by
      have:=k (i+1) v (by simpa using q);rw [show o+(i+1)=o+1+i by omega]at this
      exact this) g
     refine⟨n::ns,by simp [z], ?_, ?_⟩
     ·simp only [List.map_cons,zi,<-A]
      have:(UInt8.ofNat n.toNat).toNat=n.toNat:=by
       rw [UInt8.toNat_ofNat']; exact Nat.mod_eq_of_lt x
      rw [this]; rfl
     ·intro i p
      cases i with
      | zero=>
       obtain⟨c,m,q⟩:=k 0 _ rfl;cases q;simpa using m
      | succ i=>
       have:=C i (by simpa using p);rw [show o+(i+1)=o+1+i by omega,this];rfl
    ·cases e
   ·cases e
  ·cases e
def UP {src e:TypeId} (g:P.underlying src=some (.slice e)) (b:P.underlying e=some (.int .u8)) (a:Addr) (cap:Nat) {dst:TypeId} (hd:P.underlying dst=some .string):
  (convert src dst (.slice (some a) 0 cap)).run P w= .ok (.string ByteArray.empty) w:=by
 have f:(loadCells a 0).run P w= .ok (([]:List Int).map (Value.int .u8)).toArray w:=by
  simpa using run_loadCells_list (P:=P) w a [] (fun j v c=>by simp at c)
 rw [run_convert_bytes_string w src dst e _ 0 cap g b hd,run_bytesToString w _ 0 cap [] f];rfl
def eU (r:KRel B G h w) {s d:TypeId} {x v:KV} {a:Value} {h':KH} (C:KR G x a) (e:kJ h (ti P) s d x=some (v,h')):KS P B G w (convert s d a) v h':=by
 unfold kJ at e;split at e
 ·rename_i H;obtain⟨is,L,Z,q,_,_⟩:=pB H;split at e
  ·rename_i k n;cases C;split at e
   ·rename_i O hd;cases e;exact .same r (c:= .int O (O.wrap n)) (by simp only [convert,iB,run_underlying q,run_underlying (j6 hd),iA]; cases L<;>rfl) (.int _ _)
   ·cases e
  ·rename_i n b
   cases C with
   | str f=>
    split at e
    ·rename_i hd;cases e;exact .same r (c:= .string f) (by simp only [convert,iB,run_underlying q,run_underlying (vf hd),iA]; cases L<;>rfl) (.str _)
    ·rename_i g by_ hd;split at e
     ·rename_i hcond;cases e;obtain⟨hu,i,Y,_,_⟩:=zM hd;have z:=run_bytes_of_string (P:=P) w s d g f (vf hcond.2.1) hu (j6 hcond.1);have p:=grownCap_ge w f.size 0 g;have F:h.next+1<65000:=by simpa [wY,xn] using hcond.2.2
      have y:=Gh.new_le G r.fresh (w.heap.size,0) (grownCap w f.size 0 g)
      have I:(bytesRow f (grownCap w f.size 0 g)).size=grownCap w f.size 0 g:=by
       have:f.data.size=f.size:=rfl;simp only [bytesRow,Array.size_append,Array.size_map,Array.size_replicate,this]; omega
      have hr:=(r.of_heap (w':=w.drew) rfl rfl rfl rfl).alloc F (o:= .cells false (kG (zi f.data.toList) f.size 0)) (room:=grownCap w f.size 0 g)
       (ob:= .cells (bytesRow f (grownCap w f.size 0 g)) g ((bytesRow f (grownCap w f.size 0 g)).size,(bytesRow f (grownCap w f.size 0 g)).size+1))
       (.cells (by rw [bG]; omega) (by rw [I]; omega) (fun _ i Y X=>absurd X.1 (by simp only; omega)) (by
        intro j v c m N;refine KR.le y ?_;have hj:j<f.size:=by have:=wF m; rw [bG]at this; exact this
        rw [Nat.zero_add,bytesRow,Array.getElem?_append_left (by simp only [Array.size_map]; exact hj)]at N;refine(VF f).2 j v c m ?_;rw [<-N]
        simp only [byteCells,List.getElem?_toArray,iV,Array.getElem?_map,Array.getElem?_toList]))
      exact⟨_,_,_,z,y, .sl (off:=0) (o:=0) (Gh.new_at _ _ _ _) p (by rw [Gh.new_room]; omega) (by simp),hr⟩
     ·cases e
    ·cases e
  ·split at e
   ·rename_i g _ _ A hd;cases C;split at e
    ·rename_i t;cases e;exact .same r (c:= .string ByteArray.empty) (run_convert_bytes_nil (P:=P) w s _ (zM A).1 (j6 t) 0 0 d (vf hd)) (.str ByteArray.empty)
    ·cases e
   ·cases e
  ·split at e
   ·rename_i g _ _ A hd
    cases C with
    | slz ad cap=>
     split at e
     ·rename_i t;cases e;exact .same r (c:= .string ByteArray.empty) (UP (zM A).1 (j6 t) ad cap (vf hd)) (.str ByteArray.empty)
     ·cases e
   ·cases e
  ·rename_i id off len cp;split at e
   ·rename_i g _ _ A hd;split at e
    ·rename_i t;split at e
     ·rename_i l hl;split at e
      ·rename_i bs E;cases e
       cases C with
       | sl M h1 h2 h3=>
        rename_i cap b o;obtain⟨ro,cs,T,U,W,_⟩:=Z9 r hl M
        obtain ⟨ns,K,n2,Q⟩:=VM (G:=G) (w:=w) (b:=b) (o:=o+off) (fun j v m=>by
         rw [U,List.getElem?_take]at m;split at m
         ·rw [List.getElem?_drop]at m;have:=r.cell T M _ v m;rw [Nat.add_assoc]; exact this
         ·cases m) E
        rw [W]at K Q;refine .same r (c:= .string (strOfNums ns)) (run_convert_bytes_arg (P:=P) w s g (zM A).1 (j6 t) b (o+off) len cap ns K Q d (vf hd)) ?_;have S:len=(strOfNums ns).size:=by rw [strOfNums_size,K]
        rw [n2,<-strOfNums_data,S];exact .str _
      ·cases e
     ·cases e
    ·cases e
   ·cases e
  ·cases e
 ·cases e
def fC (r:KRel B G h w) {t tx ty:TypeId} {x y v:KV} {c cy:Value} {h':KH} (O:KR G x c) (Q:KR G y cy) (e:Uf h (ti P t).d (ti P tx).d x y=some (v,h')):
  KS P B G w (Builtin.copy_ #[t,tx] ty #[c,cy]) v h':=by
 unfold Uf at e;split at e
 ·rename_i U sz by_ id q len cp S hd;split at e
  ·rename_i p;subst p;split at e
   ·rename_i n new l;obtain⟨f,A,I,s3⟩:=Gk r Q l;split at e
    ·rename_i M;split at e
     ·rename_i T F;split at e
      ·rename_i g;cases e;obtain⟨N,i,L,z,_⟩:=zM hd
       cases O with
       | sl E W X Y=>
        rename_i cap b o;obtain⟨C,cel,fz,H,Z,k3,s,k5⟩:=r.cells F E;have s:=s rfl;have K:new.length=f.length:=by have:=I.1; simpa using this
        have m:=qH (P:=P) b (o+q) cel fz f 0 C w H s (by omega) A.one;have k:=r.splice F E H s I q g;simp only [List.size_toArray,Nat.add_zero]at k m;refine⟨goInt n,_,G, ?_, .refl _, .int _ _,k⟩;have j:Nat.min n len=n:=Nat.min_eq_left M;simp only [Builtin.copy_,List.getElem?_toArray,List.getElem?_cons_zero,List.getElem?_cons_succ,iB,run_underlying N,iA,A.len,j,zF L,<-z,A.cells,m,iC]
      ·cases e
     ·cases e
    ·cases e
   ·cases e
  ·cases e
 ·cases e
end
def eI (d:TD) (x y:KV):Option Bool:=
 match d,x,y with
 | .int _, .int k a, .int c b=>if k=c then some (a==b)else none
 | .str, .str n a, .str m b=>some (Nat.beq n m&&Nat.beq a b)
 | .bool, .bool a, .bool b=>some (a==b)
 |_,_,_=>none
def qm (d:TD) (x:KV):Bool:=
 match d,x with
 | .int _, .int _ _=>true
 | .str, .str _ _=>true
 | .bool, .bool _=>true
 |_,_=>false
def Zc (d:TD) (k:KV):List (KV×KV×Nat)->Nat->Option (Option (Nat×KV))
 | [],_=>some none
 | (b,v,_)::r,i=>match eI d k b with
  |some true=>some (some (i,v))
  |some false=>Zc d k r (i+1)
  |none=>none
def uG (h:KH) (m:KV):Option (Nat×List (KV×KV×Nat)×Nat):=
 match m with
 | .map id=>match h.get id with
  |some (.map c b)=>some (id,c,b)
  |_=>none
 |_=>none
def jM (h:KH) (T:TypeId->TI) (d:TD) (m k v:KV):Option KH:=
 match d,uG h m with
 | .map kt _,some (id,c,b)=>
  if qm (T kt).d k=true then
  match Zc (T kt).d k c 0 with
  |some (some (i,_))=>some (h.set id (some (.map (c.modify i fun e=>(k,v,e.2.2)) b)))
  |some none=>some (h.set id (some (.map (c ++ [(k,v,b)]) (b+1))))
  |none=>none
  else none
 |_,_=>none
def WR (ok:Bool) (v:KV) (b:Bool):KV:=match ok with|true=> .tuple [v, .bool b]|false=>v
def Qj (h:KH) (T:TypeId->TI) (Z:TypeId->KV) (d:TD) (m k:KV) (ok:Bool):Option KV:=
 match d with
 | .map kt et=>
  if qm (T kt).d k=true∧(T et).zok=true then
  match m with
  | .nilmap=>some (WR ok (Z et) false)
  | m=>match uG h m with
   | some (_,b,_)=>match Zc (T kt).d k b 0 with
    |some (some (_,v))=>some (WR ok v true)
    |some none=>some (WR ok (Z et) false)
    |none=>none
   |none=>none
  else none
 |_=>none
def bi (h:KH) (T:TypeId->TI) (Z:TypeId->KV) (d:TD) (m k:KV):Option (KV×KH):=
 match d,uG h m with
 | .map kt et,some (id,c,b)=>
  if qm (T kt).d k=true∧(T et).zok=true then
  match Zc (T kt).d k c 0 with
  |some (some (i,v))=>some (.tuple [v, .int .i64 (match c[i]? with|some e=>e.2.2|none=>0)],h.set id (some (.map (c.modify i fun e=>(k,e.2.1,e.2.2)) b)))
  |some none=>some (.tuple [Z et, .int .i64 b],h.set id (some (.map (c ++ [(k,Z et,b)]) (b+1))))
  |none=>none
  else none
 |_,_=>none
def j9 (b:Nat):List (KV×KV×Nat)->Nat->Option Nat
 | [],_=>none
 |(_,_,c)::r,i=>bif Nat.beq c b then some i else j9 b r (i+1)
def jX (h:KH) (m s v:KV):Option KH:=
 match uG h m,s with
 | some (id,f,c), .int _ b=>if 0<=b then(match j9 b.toNat f 0 with
  |some i=>some (h.set id (some (.map (f.modify i fun e=>(e.1,v,e.2.2)) c)))
  |none=>none)else none
 |_,_=>none
def Kg (h:KH) (m:KV):Option KV:=
 match m with
 | .nilmap=>some (.int .i64 0)
 | m=>match uG h m with
  |some (_,b,_)=>some (.int .i64 b.length)
  |none=>none
def XM (h:KH) (m:KV):Option KH:=
 match m with
 | .nilmap=>some h
 | m=>match uG h m with
  |some (id,_,b)=>some (h.set id (some (.map [] b)))
  |none=>none
section
variable {P:Program} {B:xi} {G:Gh} {h:KH} {w:World} {fr:KFr} {a:Act}
def Obj.noCells:Obj->Bool
 | .cells .. => false
 |_=>true
def V6 {b:Nat} {o:Obj} (o':Obj) (e:w.heap[b]? =some o) (g:Obj.noCells o=true):∃w',(setObj b o').run P w= .ok () w'∧Chg w w' b o':=by
 have c:=heap_lt e;refine⟨{w with heap:=w.heap.setIfInBounds b o'}, ?_,⟨rfl,rfl,rfl,by simp,by simp [c],fun k f=>by simp [Array.getElem?_setIfInBounds,Ne.symm f]⟩⟩;unfold setObj;cases o<;>first|(simp [Obj.noCells]at g; done)|simp only [Sem.run,e]
def jO (r:KRel B G h w) {m:KV} {cm:Value} {id:Nat} {es:List (KV×KV×Nat)} {c:Nat} (q:KR G m cm) (e:uG h m=some (id,es,c)):
  ∃ b o f,m= .map id∧cm= .map (some b)∧h.get id=some (.map es c)∧G.at_ id=some (b,o)∧w.heap[b]? =some (.map f c)∧KEs G es f.toList ∧
   (∀w',w'.heap[b]? =some (.map f c)->(getObj b).run P w'= .ok (.map f c) w'):=by
 unfold uG at e;split at e
 ·split at e
  ·rename_i es' clk' l;simp only [iL,iW]at e;obtain⟨rfl,rfl,rfl⟩:=e
   cases q with
   | map j=>
    rename_i b o;obtain⟨t,k,ob,i,_,n,p⟩:=r.blk _ _ l;rw [j]at i; cases i
    cases p with
    |map g=>exact⟨b,o,_,rfl,rfl,l,j,n,g,fun w' s=>by simp [getObj,Sem.run,s]⟩
  ·cases e
 ·cases e
def gZ (r:KRel B G h w) {id b o:Nat} {es es':List (KV×KV×Nat)} {c clk':Nat} {e ent':Array MapEntry} (k:h.get id=some (.map es c)) (i:G.at_ id=some (b,o)) (j:w.heap[b]? =some (.map e c))
  (hes:KEs G es' ent'.toList):∃w',(setObj b (.map ent' clk')).run P w= .ok () w'∧KRel B G (h.set id (some (.map es' clk'))) w':=by
 obtain⟨w',f,g⟩:=V6 (P:=P) (.map ent' clk') j rfl;exact⟨w',f,r.chg k rfl rfl i g (.map hes)⟩
def KI {d:TypeDesc} {x y:KV} {cx cy:Value} {t:Bool} (b:KR G x cx) (c:KR G y cy) (e:eI (tiD P (some d)) x y=some t):Instr.sameNow d cx cy=some t:=by
 unfold eI at e;split at e
 ·rename_i hd;cases b; cases c;split at e
  ·rename_i f;cases e;obtain rfl:=Vl hd;simp [Instr.sameNow,f]
  ·cases e
 ·rename_i hd;cases b; cases c;rename_i s u;cases e;obtain rfl:=Vv hd;simp only [Instr.sameNow,iL];rw [DE,p5,Bool.eq_iff_iff,iJ,beq_iff_eq];exact me.symm
 ·rename_i hd;cases b; cases c;cases e;obtain rfl:=bP hd;rfl
 ·cases e
inductive KF (G:Gh) (es:List (KV×KV×Nat)) (l:List MapEntry):Option (Nat×KV)->Option (Nat×Value)->Prop
 |none:KF G es l none none
 |some {i:Nat} {v:KV} {c:Value}:KR G v c->KF G es l (some (i,v)) (some (i,c))
def qy {d:TypeDesc} {k:KV} {ck:Value} (m:KR G k ck):∀ {es:List (KV×KV×Nat)} {l:List MapEntry} {i:Nat} {q:Option (Nat×KV)},KEs G es l->Zc (tiD P (some d)) k es i=some q ->
  ∃c,Instr.findNow d ck l i=some c∧KF G es l q c∧∀j v,q=some (j,v)->i<=j∧j<i+es.length
 |_,_,i,q, .nil,e=>by simp only [Zc]at e; cases e; exact⟨none,rfl, .none,by simp⟩
 | _,_,i,q, .cons (k:=z) (v:=v) (b:=b) (ck:=ck') (cv:=cv) (es:=es) (r:=l) n t x,e=>by
  simp only [Zc]at e;split at e
  ·rename_i f;cases e;refine⟨some (i,cv), ?_, .some t, ?_⟩
   ·simp only [Instr.findNow,KI (P:=P) m n f]
   ·intro j u g;simp only [iL,iW]at g;obtain⟨rfl,_⟩:=g;simp
  ·rename_i f;obtain⟨c,o,p,s⟩:=qy m x e;refine⟨c, ?_, ?_, ?_⟩
   ·simp only [Instr.findNow,KI (P:=P) m n f,o]
   ·cases p with
    |none=>exact .none
    |some y=>exact .some y
   ·intro j u g;have:=s j u g;simp only [List.length_cons]; omega
  ·cases e
def KEs.modify {es:List (KV×KV×Nat)} {l:List MapEntry} (h:KEs G es l) (f:KV×KV×Nat->KV×KV×Nat) (g:MapEntry->MapEntry)
  (c:∀k v b ck cv,KR G k ck->KR G v cv->∃k' e ck' cv',f (k,v,b)=(k',e,b)∧g ⟨ck,cv,b⟩=⟨ck',cv',b⟩∧KR G k' ck'∧KR G e cv'):∀i,KEs G (es.modify i f) (l.modify i g):=by
 induction h with
 |nil=>intro i; cases i<;>exact .nil
 | @cons k v b ck cv es r j m s t=>
  intro i
  cases i with
  | zero=>
   obtain⟨k',e,ck',cv',n,o,p,q⟩:=c k v b ck cv j m;simp only [List.modify_zero_cons,n,o];exact .cons p q s
  | succ i=>
   simp only [List.modify_succ_cons];exact .cons j m (t i)
def KEs.push {es:List (KV×KV×Nat)} {l:List MapEntry} (h:KEs G es l) {k v:KV} {b:Nat} {ck cv:Value} (f:KR G k ck) (g:KR G v cv):KEs G (es ++ [(k,v,b)]) (l ++ [⟨ck,cv,b⟩]):=by
 induction h with
 |nil=>exact .cons f g .nil
 |cons c e _ i=>exact .cons c e i
def KEs.length {es:List (KV×KV×Nat)} {l:List MapEntry} (h:KEs G es l):es.length=l.length:=by
 induction h with
 |nil=>rfl
 |cons _ _ _ b=>simp [b]
def KEs.get {es:List (KV×KV×Nat)} {l:List MapEntry} (h:KEs G es l):∀(i:Nat) (x:KV×KV×Nat),es[i]? =some x->∃y,l[i]? =some y∧KR G x.1 y.key∧KR G x.2.1 y.val∧x.2.2=y.born:=by
 induction h with
 |nil=>intro i x b; simp at b
 | cons c e _ f=>
  intro i x b
  cases i with
  |zero=>simp at b; subst b; exact⟨_,rfl,c,e,rfl⟩
  |succ i=>exact f i x (by simpa using b)
def Y4 {d:TypeDesc} {x:KV} {c:Value} (f:KR G x c) (e:qm (tiD P (some d)) x=true):(∃k j n,d= .int k∧c= .int j n)∨(∃s,d= .string∧c= .string s)∨(∃b,d= .bool∧c= .bool b):=by
 unfold qm at e;split at e
 ·rename_i hd;cases f;exact .inl ⟨_,_,_,Vl hd,rfl⟩
 ·rename_i hd;cases f;exact .inr (.inl ⟨_,Vv hd,rfl⟩)
 ·rename_i hd;cases f;exact .inr (.inr ⟨_,bP hd,rfl⟩)
 ·cases e
def ub {kt:TypeId} {d:TypeDesc} (f:P.underlying kt=some d) {x:KV} {c:Value} (g:KR G x c) (e:qm (tiD P (some d)) x=true) (em:Bool) (w:World):(Instr.checkKey em 10000 kt c).run P w= .ok () w:=by
 have:∀n,(Instr.checkKey em (n+1) kt c).run P w= .ok () w:=by
  intro n
  rcases Y4 g e with⟨k,j,m,rfl,rfl⟩|⟨s,rfl,rfl⟩|⟨b,rfl,rfl⟩ <;>
   simp only [Instr.checkKey,iB,run_underlying f,iA,iC]
 exact this 9999
def D5 {d:TypeDesc} {a b:Value} (e:Instr.sameNow d a b=some true):a=b:=by
 unfold Instr.sameNow at e;split at e
 ·split at e
  ·rename_i c;injection e with e;rw [c,beq_iff_eq.1 e]
  ·cases e
 ·injection e with e;rw [p5,iJ]at e; rw [e]
 ·injection e with e;rw [beq_iff_eq.1 e]
 ·cases e
def Zm {d:TypeDesc} {ck:Value}:∀ {l:List MapEntry} {i j:Nat} {c:Value},Instr.findNow d ck l i=some (some (j,c))->∃x,l[j-i]? =some x∧x.key=ck∧x.val=c∧i<=j
 | [],i,j,c,e=>by simp [Instr.findNow]at e
 | x::l,i,j,c,e=>by
  simp only [Instr.findNow]at e;split at e
  ·rename_i b;cases e;exact⟨x,by simp,(D5 b).symm,rfl,iP _⟩
  ·obtain⟨y,f,g,k,m⟩:=Zm e;exact⟨y,by rw [show j-i=(j-(i+1))+1 by omega]; simpa using f,g,k,by omega⟩
  ·cases e
def gq {d:TypeDesc} {x:KV} {c:Value} (f:KR G x c) (e:qm (tiD P (some d)) x=true) (w:World):(Instr.keyThatStays c c).run P w= .ok c w:=by
 have:Instr.sameBits 10000 c c=true:=by
  have:∀n,Instr.sameBits (n+1) c c=true:=by
   intro n;rcases Y4 f e with⟨k,j,m,rfl,rfl⟩|⟨s,rfl,rfl⟩|⟨b,rfl,rfl⟩
   ·simp [Instr.sameBits]
   ·simp only [Instr.sameBits]; exact(p5 s s).trans (by simp)
   ·simp [Instr.sameBits]
  exact this 9999
 simp only [Instr.keyThatStays,this,if_true,iC]
def uA {kt:TypeId} {d:TypeDesc} (b:P.underlying kt=some d) {ck:Value} {l:List MapEntry} {c:Option (Nat×Value)} (e:Instr.findNow d ck l 0=some c) (w:World):(Instr.findKey kt ck l).run P w= .ok c w:=by
 simp only [Instr.findKey,iB,run_underlying b,iA,e,iC]
def GV {kt:TypeId} {x:KV} (e:qm (ti P kt).d x=true):∃d,P.underlying kt=some d∧(ti P kt).d=tiD P (some d):=by
 obtain⟨d,b,c⟩:=Kw (P:=P) (t:=kt) rfl (by intro f; rw [f]at e; simp [qm]at e);exact⟨d,b,c.symm⟩
def Zn (r:KRel B G h w) {t:TypeId} {m k v:KV} {cm ck cv:Value} (S:KR G m cm) (n:KR G k ck) (M:KR G v cv) {h':KH} (e:jM h (ti P) (ti P t).d m k v=some h'):
  ∃w',(Instr.mapUpdate t cm ck cv).run P w= .ok () w'∧KRel B G h' w':=by
 unfold jM at e;split at e
 ·rename_i kt et id X l hd E;split at e
  ·rename_i g;obtain⟨b,o,f,rfl,rfl,L,K,s,hes,j⟩:=jO (P:=P) r S E;obtain⟨d,y,F⟩:=GV g;rw [F]at e g;split at e
   ·rename_i i u A;cases e;obtain⟨c,q,z,_⟩:=qy (P:=P) n hes A
    cases z with
    | some T=>
     rename_i cu;obtain⟨x,N,U,Z,_⟩:=Zm q;rw [Nat.sub_zero,Array.getElem?_toList]at N;have p:(f.modify i fun e=> {e with key:=ck,val:=cv}).toList=f.toList.modify i fun e=> {e with key:=ck,val:=cv}:=Array.toList_modify
     obtain ⟨w',H,I⟩:=gZ (P:=P) (clk':=l) (ent':=f.modify i fun e=> {e with key:=ck,val:=cv}) r L K s (hes:=by
      rw [p]
      exact hes.modify (fun e=>(k,v,e.2.2)) _ (fun k0 Y W O Q _ _=>⟨k,v,ck,cv,rfl,rfl,n,M⟩) i)
     refine⟨w', ?_,I⟩;have C:((f[i]?).map (·.key)).getD ck=ck:=by rw [N]; simp [U]
     simp only [Instr.mapUpdate,iB,run_underlying (jl hd),iA,j w s,ub y n g,uA y q,C,gq n g,H]
   ·rename_i A;cases e;obtain⟨c,q,z,_⟩:=qy (P:=P) n hes A;cases z
    obtain ⟨w',H,I⟩:=gZ (P:=P) (clk':=l+1) (ent':=f.push {key:=ck,val:=cv,born:=l}) r L K s (hes:=by
     rw [Array.toList_push]; exact hes.push n M)
    refine⟨w', ?_,I⟩;simp only [Instr.mapUpdate,iB,run_underlying (jl hd),iA,j w s,ub y n g,uA y q,H]
   ·cases e
  ·cases e
 ·cases e
def p6 {v:KV} {c:Value} (g:KR G v c) (ok b:Bool):KR G (WR ok v b) (if ok=true then .tuple #[c, .bool b]else c):=by
 cases ok
 ·exact g
 ·exact .tuple rfl (fun i u c e f=>by
   match i with
   |0=>simp at e f; subst e f; exact g
   |1=>simp at e f; subst e f; exact .bool _
   |i+2=>simp at e)
def GO (r:KRel B G h w) {t:TypeId} {m k v:KV} {cm ck:Value} {ok:Bool} (K:KR G m cm) (p:KR G k ck) (e:Qj h (ti P) (kz P) (ti P t).d m k ok=some v):
  KS P B G w (Instr.lookup t cm ck ok) v h:=by
 unfold Qj at e;split at e
 ·rename_i kt et hd;split at e
  ·rename_i N;obtain⟨f,O⟩:=N;obtain⟨d,j,E⟩:=GV f;obtain⟨ie,z,n,s,H⟩:=Zf O;have q:KR G (kz P et) z:=by rw [H]; exact KR.of z
   rw [E]at e f;split at e
   ·cases e;cases K;refine .same r (c:=if ok then .tuple #[z, .bool false]else z) ?_ (p6 q ok false);simp only [Instr.lookup,iB,run_underlying (jl hd),iA,iC,ub j p f,uA j (show Instr.findNow d ck [] 0=some none from rfl),zU n s]
   ·split at e
    ·rename_i id Q L C;obtain⟨b,o,M,rfl,rfl,T,S,I,l,g⟩:=jO (P:=P) r K C;split at e
     ·rename_i i u A;cases e;obtain⟨c,x,y,_⟩:=qy (P:=P) p l A
      cases y with
      | some F=>
       rename_i cu;refine .same r (c:=if ok then .tuple #[cu, .bool true]else cu) ?_ (p6 F ok true);simp only [Instr.lookup,iB,run_underlying (jl hd),iA,iC,g w I,ub j p f,uA j x]
     ·rename_i A;cases e;obtain⟨c,x,y,_⟩:=qy (P:=P) p l A;cases y;refine .same r (c:=if ok then .tuple #[z, .bool false]else z) ?_ (p6 q ok false);simp only [Instr.lookup,iB,run_underlying (jl hd),iA,iC,g w I,ub j p f,uA j x,zU n s]
     ·cases e
    ·cases e
  ·cases e
 ·cases e
def Jc (r:KRel B G h w) {t:TypeId} {m k v:KV} {cm ck:Value} {h':KH} (hm:KR G m cm) (q:KR G k ck) (e:bi h (ti P) (kz P) (ti P t).d m k=some (v,h')):
  KS P B G w (Instr.mapEntry t cm ck) v h':=by
 unfold bi at e;split at e
 ·rename_i kt et id K l hd Q;split at e
  ·rename_i hc;obtain⟨j,hz⟩:=hc;obtain⟨b,o,f,rfl,rfl,hg,ha,E,hes,p⟩:=jO (P:=P) r hm Q;obtain⟨d,F,S⟩:=GV j;obtain⟨ie,z,N,X,W⟩:=Zf hz;have s:KR G (kz P et) z:=by rw [W]; exact KR.of z
   rw [S]at e j;split at e
   ·rename_i i u M;cases e;obtain⟨c,C,H,c3⟩:=qy (P:=P) q hes M
    cases H with
    | some T=>
     rename_i cu;obtain⟨x,x1,x2,x3,_⟩:=Zm C;rw [Nat.sub_zero,Array.getElem?_toList]at x1;have A:(f.modify i fun e=> {e with key:=ck}).toList=f.toList.modify i fun e=> {e with key:=ck}:=Array.toList_modify
     obtain ⟨w',Y,Z⟩:=gZ (P:=P) (clk':=l) (ent':=f.modify i fun e=> {e with key:=ck}) r hg ha E (hes:=by
      rw [A]
      exact hes.modify (fun e=>(k,e.2.1,e.2.2)) _ (fun k0 v0 b0 ck0 I _ U=>⟨k,v0,ck,I,rfl,rfl,q,U⟩) i)
     have O:((f[i]?).map (·.key)).getD ck=ck:=by rw [x1]; simp [x2]
     have hi:i<K.length:=by have:=(c3 i u rfl).2; omega
     obtain⟨y,y1,_,_,y4⟩:=hes.get i _ (iK hi);rw [Array.getElem?_toList]at y1;have L:((f[i]?).map (fun e=>(e.born:Int))).getD 0=(K[i].2.2:Int):=by rw [y1]; simp [y4]
     refine⟨.tuple #[cu,goInt K[i].2.2],w',G, ?_, .refl _, ?_,Z⟩
     ·simp only [Instr.mapEntry,iB,run_underlying (jl hd),iA,p w E,ub F q j,uA F C,O,gq q j,Y,L,iC]
     ·rw [iK hi]
      exact .tuple rfl (fun i u c g n=>by
       match i with
       |0=>simp at g n; subst g n; exact T
       |1=>simp at g n; subst g n; exact .int _ _
       |i+2=>simp at g)
   ·rename_i M;cases e;obtain⟨c,C,H,_⟩:=qy (P:=P) q hes M;cases H
    obtain ⟨w',Y,Z⟩:=gZ (P:=P) (clk':=l+1) (ent':=f.push {key:=ck,val:=z,born:=l}) r hg ha E (hes:=by
     rw [Array.toList_push]; exact hes.push q s)
    refine⟨.tuple #[z,goInt l],w',G, ?_, .refl _, ?_,Z⟩
    ·simp only [Instr.mapEntry,iB,run_underlying (jl hd),iA,p w E,ub F q j,uA F C,zU N X,Y,iC]
    ·exact .tuple rfl (fun i u c g n=>by
      match i with
      |0=>simp at g n; subst g n; exact s
      |1=>simp at g n; subst g n; exact .int _ _
      |i+2=>simp at g)
   ·cases e
  ·cases e
 ·cases e
def WD {bn:Nat}:∀ {es:List (KV×KV×Nat)} {l:List MapEntry} {i j:Nat},KEs G es l->j9 bn es i=some j->i<=j∧l.findIdx? (fun e=>(e.born:Int)==(bn:Int))=some (j-i)
 |_,_,i,j, .nil,e=>by simp [j9]at e
 | _,_,i,j, .cons (k:=p) (v:=v) (b:=b) (ck:=ck') (cv:=cv) (es:=es) (r:=l) n o g,e=>by
  simp only [j9,jJ,Bool.cond_decide]at e;rw [List.findIdx?_cons];split at e
  ·rename_i c;cases e;refine⟨iP _, ?_⟩;rw [iI (by simp [c])]; simp
  ·rename_i c;obtain⟨m,f⟩:=WD g e;refine⟨by omega, ?_⟩;rw [iH (by simp; omega),f];simp; omega
def WX (r:KRel B G h w) {t:TypeId} {m s v:KV} {cm cs cv:Value} (E:KR G m cm) (F:KR G s cs) (H:KR G v cv) {h':KH} (e:jX h m s v=some h'):
  ∃w',(Instr.entryStore t cm cs cv).run P w= .ok () w'∧KRel B G h' w':=by
 unfold jX at e;split at e
 ·rename_i id M k kk b p;obtain⟨bl,o,c,rfl,rfl,A,z,x,hes,f⟩:=jO (P:=P) r E p;cases F;split at e
  ·rename_i N;split at e
   ·rename_i i C;cases e;obtain⟨_,q⟩:=WD hes C;have g:(c.modify i fun e=> {e with val:=cv}).toList=c.toList.modify i fun e=> {e with val:=cv}:=Array.toList_modify
    obtain ⟨w',I,K⟩:=gZ (P:=P) (clk':=k) (ent':=c.modify i fun e=> {e with val:=cv}) r A z x (hes:=by
     rw [g]
     exact hes.modify (fun e=>(e.1,v,e.2.2)) _ (fun k0 O L j y n _=>⟨k0,v,j,cv,rfl,rfl,n,H⟩) i)
    refine⟨w', ?_,K⟩;have l:((b.toNat:Nat):Int)=b:=by omega
    rw [Nat.sub_zero,l,<-List.findIdx?_toArray,Array.toArray_toList]at q;simp only [Instr.entryStore,iB,iA,f w x,asInt,asIntOf,iC,q,I]
   ·cases e
  ·cases e
 ·cases e
def K9 (r:KRel B G h w) {t ty:TypeId} {kt et:TypeId} (hd:(ti P t).d= .map kt et) {m v:KV} {cm:Value} (j:KR G m cm) (e:Kg h m=some v):KS P B G w (Builtin.len_ #[t] ty #[cm]) v h:=by
 unfold Kg at e;split at e
 ·cases e;cases j;exact .same r (c:=goInt 0) (by simp [Builtin.len_,run_underlying (jl hd)]) (.int _ _)
 ·split at e
  ·rename_i id n k i;obtain⟨bl,o,f,rfl,rfl,q,p,l,g,b⟩:=jO (P:=P) r j i;cases e;refine .same r (c:=goInt f.size) ?_ ?_
   ·simp only [Builtin.len_,List.getElem?_toArray,List.getElem?_cons_zero,iB,run_underlying (jl hd),iA,b w l,iC]
   ·rw [g.length,Array.length_toList]; exact .int _ _
  ·cases e
def D7 (r:KRel B G h w) {t ty:TypeId} {kt et:TypeId} (hd:(ti P t).d= .map kt et) {m:KV} {cm:Value} {h':KH} (j:KR G m cm) (e:XM h m=some h'):KS P B G w (Builtin.clear_ #[t] ty #[cm]) (.tuple []) h':=by
 unfold XM at e;split at e
 ·cases e;cases j;exact .same r (c:= .tuple #[]) (by simp [Builtin.clear_,run_underlying (jl hd)]) (.tuple rfl (by simp))
 ·split at e
  ·rename_i id x f g;obtain⟨bl,o,k,rfl,rfl,p,l,i,n,b⟩:=jO (P:=P) r j g;cases e;obtain⟨v,q,s⟩:=gZ (P:=P) (clk':=f) (es':= []) (ent':= #[]) r p l i .nil;refine⟨.tuple #[],v,G, ?_, .refl _, .tuple rfl (by simp),s⟩;simp only [Builtin.clear_,List.getElem?_toArray,List.getElem?_cons_zero,iB,run_underlying (jl hd),iA,b w i,q,iC]
  ·cases e
end
def WO (h:KH) (d:TD) (x:KV):Option (KV×KH):=
 if wY h=true then
 match d,x with
 | .str, .str n s=>some (.ptr h.next 0,h.push (.sit n s 0))
 | .map _ _, .nilmap=>some (.ptr h.next 0,h.push (.mit none 0 [] 0))
 | .map _ _,m=>match uG h m with
  |some (id,_,b)=>some (.ptr h.next 0,h.push (.mit (some id) b [] b))
  |none=>none
 |_,_=>none
 else none
def mV (b:Nat):List Nat->Bool
 | []=>false
 |c::r=>Nat.beq c b||mV b r
def JJ (seen:List Nat):List (KV×KV×Nat)->List (KV×KV×Nat)
 | []=> []
 |e::r=>bif mV e.2.2 seen then JJ seen r else e::JJ seen r
def Wz:KV:= .tuple [.bool false]
def pX (h:KH) (it:KV) (isString:Bool):Option (KV×KH):=
 match it with
 | .ptr id 0=>match h.get id,isString with
  | some (.sit n s c),true=>
   if c<n then
    (if de s c<128 then some (.tuple [.bool true, .int .i64 c, .int .i32 (de s c)],h.set id (some (.sit n s (c+1))))else none)
   else some (Wz,h)
  |some (.mit none _ _ _),false=>some (Wz,h)
  | some (.mit (some m) since seen last),false=>match h.get m with
   | some (.map g f)=>
    if seen.isEmpty=false∧g.isEmpty=false∧g.all (fun e=>Nat.ble last e.2.2)=true then none else
    match JJ seen g with
    | []=>some (Wz,h)
    | [(k,v,b)]=>if b<since then some (.tuple [.bool true,k,v],h.set id (some (.mit (some m) since (seen ++ [b]) f)))else none
    |_=>none
   |_=>none
  |_,_=>none
 |_=>none
section
variable {P:Program} {B:xi} {G:Gh} {h:KH} {w:World} {fr:KFr} {a:Act}
def YV (r:KRel B G h w) (c:wY h=true) {o:KO} {ob:Obj} (e:o.R (G.new h.next (w.heap.size,0) 0) 0 0 ob):
  ∃G',G.le G'∧KR G' (.ptr h.next 0) (.pointer (some ⟨w.heap.size,0,none⟩))∧KR G' (.map h.next) (.map (some w.heap.size))∧KRel B G' (h.push o) (w.alloc ob):=by
 have b:h.next+1<65000:=by simpa [wY,xn] using c
 exact⟨_,Gh.new_le G r.fresh _ _, .ptr (off:=0) (o:=0) (Gh.new_at _ _ _ _), .map (Gh.new_at _ _ _ _),r.alloc b e⟩
def Qx (r:KRel B G h w) (c:wY h=true) {t:TypeId} {f:Option KV} {cr:Option Value} (p:KO' G f cr) (hd:f.isSome=true->(∃k e,(ti P t).d= .map k e)∧∃k n,f=some (.int k n)):
  KS P B G w (Instr.makeMap t cr) (.map h.next) (h.push (.map [] 0)):=by
 obtain⟨G',g,_,i,l⟩:=YV r c (o:= .map [] 0) (ob:= .map #[] 0) (.map .nil);refine⟨_,_,G', ?_,g,i,l⟩
 cases p with
 |none=>rfl
 | some q=>
  obtain⟨⟨k,e,m⟩,j,n,b⟩:=hd rfl;cases b;cases q;simp only [Instr.makeMap,iB,run_underlying (jl m),iA,asInt,asIntOf,iC];rfl
def eY (r:KRel B G h w) {t:TypeId} {x v:KV} {c:Value} {h':KH} (p:KR G x c) (e:WO h (ti P t).d x=some (v,h')):KS P B G w (Instr.range t c) v h':=by
 unfold WO at e;split at e
 ·rename_i f;split at e
  ·rename_i n s hd;cases e
   cases p with
   | str s=>
    obtain⟨G',g,i,_,j⟩:=YV r f (o:= .sit s.size (zi s.data.toList) 0) (ob:= .stringIter s 0) (.sit s 0 rfl);exact⟨_,_,G',by simp only [Instr.range,iB,run_underlying (vf hd),iA,iC]; rfl,g,i,j⟩
  ·rename_i kt et hd;cases e;cases p;obtain⟨G',g,i,_,j⟩:=YV r f (o:= .mit none 0 [] 0) (ob:= .mapIter none 0 #[] 0) (.mit rfl (.inl ⟨rfl,rfl⟩));exact⟨_,_,G',by simp only [Instr.range,iB,run_underlying (jl hd),iA,iC]; rfl,g,i,j⟩
  ·rename_i kt et hd _;split at e
   ·rename_i id C b m;cases e;obtain⟨bl,o,q,rfl,rfl,E,y,z,A,k⟩:=jO (P:=P) r p m;have l:=Gh.new_le G r.fresh (w.heap.size,0) 0;obtain⟨G',g,i,_,j⟩:=YV r f (o:= .mit (some id) b [] b) (ob:= .mapIter (some bl) b #[] b) (.mit rfl (.inr ⟨id,bl,o,rfl,rfl,l.at_ y⟩));exact⟨_,_,G',by simp only [Instr.range,iB,run_underlying (jl hd),iA,iC,k w z]; rfl,g,i,j⟩
   ·cases e
  ·cases e
 ·cases e
def rV (b:Nat) (l:List Nat):mV b l=l.toArray.contains b:=by
 induction l with
 |nil=>simp [mV]
 | cons c r e=>
  simp only [mV,e,jJ];simp [eq_comm]
def eH {seen:List Nat} {es:List (KV×KV×Nat)} {l:List MapEntry} (h:KEs G es l):KEs G (JJ seen es) (l.filter fun e=> !seen.toArray.contains e.born):=by
 induction h with
 |nil=>exact .nil
 | @cons k v b ck cv es r f g i c=>
  simp only [JJ,rV,List.filter_cons]
  cases j:seen.toArray.contains b with
  |true=>simpa using c
  |false=>simpa using KEs.cons f g c
def KEs.all {p:Nat->Bool} {es:List (KV×KV×Nat)} {l:List MapEntry} (h:KEs G es l):es.all (fun e=>p e.2.2)=l.all (fun e=>p e.born):=by
 induction h with
 |nil=>rfl
 |cons _ _ _ b=>simp [b]
def KEs.empty {es:List (KV×KV×Nat)} {l:List MapEntry} (h:KEs G es l):es.isEmpty=l.isEmpty:=by
 cases h<;>rfl
def eQ (r :KRel B G h w) {t:TypeId} {it v:KV} {c:Value} {isString:Bool} {h':KH} (hx:KR G it c) (e:pX h it isString=some (v,h')):KS P B G w (Instr.next c isString t) v h':=by
 have hover:KR G Wz (.tuple #[.bool false]):= .tuple rfl (fun i u c q A=>by
  match i with
  |0=>simp at q A; subst q A; exact .bool _
  |i+1=>simp at q)
 unfold pX at e;split at e
 ·rename_i id
  cases hx with
  | ptr O =>
   rename_i b o;split at e
   ·rename_i n s j H;obtain⟨b',k,ob,C,_,E,N⟩:=r.blk _ _ H;rw [O]at C; cases C
    cases N with
    | sit s j Z=>
     subst Z;have g:(getObj b).run P w= .ok (.stringIter s j) w:=by simp [getObj,Sem.run,E]
     split at e
     ·rename_i X;split at e
      ·rename_i ha128;cases e;have L:=KR.idx s X;rw [L]at ha128
       have S:Utf8.decode s j=(de (zi s.data.toList) j,1):=by
        rw [L]; exact decode_ascii s j X ha128
       obtain⟨w',g1,g2⟩:=V6 (P:=P) (.stringIter s (j+1)) E rfl;refine⟨.tuple #[.bool true,goInt j, .int .i32 (de (zi s.data.toList) j)],w',G, ?_, .refl _, .tuple rfl ?_,r.chg H rfl rfl O g2 (.sit s _ rfl)⟩
       ·simp only [Instr.next,Nat.add_zero,iB,g,iA,X,if_true,S,g1,iC]
       ·intro i u c q A
        match i with
        |0=>simp at q A; subst q A; exact .bool _
        |1=>simp at q A; subst q A; exact .int _ _
        |2=>simp at q A; subst q A; exact .int _ _
        |i+3=>simp at q
      ·cases e
     ·rename_i X;cases e;refine .same r (c:= .tuple #[.bool false]) ?_ hover;simp only [Instr.next,Nat.add_zero,iB,g,iA,X,if_false,iC]
   ·rename_i since seen last H;obtain⟨b',k,ob,C,_,E,N⟩:=r.blk _ _ H;rw [O]at C; cases C;cases e
    cases N with
    | mit Z I=>
     subst Z;rcases I with⟨_,rfl⟩|⟨_,_,_,I,_⟩
     ·refine .same r (c:= .tuple #[.bool false]) ?_ hover;have g:(getObj b).run P w= .ok (.mapIter none since seen.toArray last) w:=by simp [getObj,Sem.run,E]
      simp only [Instr.next,Nat.add_zero,iB,g,iA,iC]
     ·cases I
   ·rename_i m since seen last H;obtain⟨b',k,ob,C,_,E,N⟩:=r.blk _ _ H;rw [O]at C; cases C
    cases N with
    | mit Z I=>
     subst Z;rcases I with⟨I,_⟩|⟨mi,mb,mk,K,rfl,W⟩
     ·cases I
     ·cases K;have g:(getObj b).run P w= .ok (.mapIter (some mb) since seen.toArray last) w:=by simp [getObj,Sem.run,E]
      split at e
      ·rename_i es M hgm;obtain⟨mb',mk',mob,f1,_,f3,f4⟩:=r.blk _ _ hgm;rw [W]at f1; cases f1
       cases f4 with
       | map F=>
        rename_i f;have hgetm:(getObj mb).run P w= .ok (.map f M) w:=by simp [getObj,Sem.run,f3]
        split at e
        ·cases e
        ·rename_i hcond
         have Q:(!seen.toArray.isEmpty && !f.isEmpty&&f.all fun x=>decide (x.born≥last))=false:=by
          have C:seen.toArray.isEmpty=seen.isEmpty:=by simp
          have e2:f.isEmpty=es.isEmpty:=by rw [F.empty]; simp [Array.isEmpty_toList]
          have E:(f.all fun x=>decide (x.born≥last))=es.all (fun e=>Nat.ble last e.2.2):=by
           rw [F.all (p:=fun b=>Nat.ble last b),<-Array.all_toList]
           congr 1; funext x; rw [PA]
          rw [C,e2,E];cases q:seen.isEmpty<;>cases A:es.isEmpty<;>cases h3:es.all (fun e=>Nat.ble last e.2.2)<;>simp_all
         have T:(f.filter fun e=> !seen.toArray.contains e.born).toList=f.toList.filter fun e=> !seen.toArray.contains e.born:=Array.toList_filter;have hleft:=eH (seen:=seen) F;rw [<-T]at hleft;split at e
         ·rename_i L;cases e;rw [L]at hleft
          have hL:(f.filter fun e=> !seen.toArray.contains e.born)= #[]:=by
           apply Array.ext'
           cases Y:(f.filter fun e=> !seen.toArray.contains e.born).toList with
           |nil=>rfl
           |cons x y=>rw [Y]at hleft; cases hleft
          refine .same r (c:= .tuple #[.bool false]) ?_ hover;simp only [Instr.next,Nat.add_zero,iB,g,hgetm,iA,Q,iT,if_false,iC,hL];simp [choose,Sem.run,Question.forced]
         ·rename_i kk vv bb L;split at e
          ·rename_i U;cases e;rw [L]at hleft
           cases Y:(f.filter fun e=> !seen.toArray.contains e.born).toList with
           |nil=>rw [Y]at hleft; cases hleft
           | cons x y=>
            rw [Y]at hleft
            cases hleft with
            | cons q A h3=>
             rename_i ck cv;cases h3;have hL:(f.filter fun e=> !seen.toArray.contains e.born)= #[⟨ck,cv,bb⟩]:=Array.ext' Y;obtain⟨w',g1,g2⟩:=V6 (P:=P) (.mapIter (some mb) since (seen ++ [bb]).toArray M) E rfl;refine⟨.tuple #[.bool true,ck,cv],w',G, ?_, .refl _, .tuple rfl ?_,r.chg H rfl rfl O g2 ?_⟩
             ·have hl2:decide (bb<since)=true:=decide_eq_true U;have hl3:decide (bb≥since)=false:=decide_eq_false (by omega);simp only [Instr.next,Nat.add_zero,iB,g,hgetm,iA,Q,iT,if_false,iC,hL];have q1:(#[(⟨ck,cv,bb⟩:MapEntry)].filter fun x=>decide (x.born<since))= #[⟨ck,cv,bb⟩]:=by simp [U]
              have q2:(#[(⟨ck,cv,bb⟩:MapEntry)].filter fun x=>decide (x.born≥since))= #[]:=by simp; omega
              rw [q1,q2];simp only [List.isEmpty_toArray,List.isEmpty_cons,iT,if_false,choose,Sem.run];simp [Question.forced,g1]
             ·intro i u c l z
              match i with
              |0=>simp at l z; subst l z; exact .bool _
              |1=>simp at l z; subst l z; exact q
              |2=>simp at l z; subst l z; exact A
              |i+3=>simp at l
             ·exact .mit rfl (.inr ⟨m,mb,mk,rfl,rfl,W⟩)
          ·cases e
         ·cases e
      ·cases e
   ·cases e
 ·cases e
end
end Go.K
end
