/- The typed Lean form of WireReturns gives true for every list of at most 9223372036854775807 numbers. -/
import Derived.Test.YtbggpcnbbhjiaaaGreatDoorLaw5
set_option linter.unusedVariables false
set_option linter.unusedSimpArgs false
set_option linter.unnecessarySimpa false
section
set_option maxRecDepth 100000
namespace Go.Abs
open Go Go.Proofs
def nY (n M:Nat) (D:Bs→Bs×Int):Prop:=(∀c:Bs,c.length≤M→(D c).1.length≤M+252)∧∀s l,xS s=some l→D (qf l)=(s,0)
def oiP (n:Nat) (c:Bs):Bs×Int:=(yr n c).getD ([],0)
theorem Du {n M:Nat} (hM:M≤900000) (hn:200000000≤n):(∀c:Bs,c.length≤M→yr n c=some (oiP n c))∧nY n M (oiP n):=by
 refine⟨fun c hc=> ?_,fun c hc=> ?_,fun s l h=> ?_⟩
 ·obtain⟨s,e,h,_⟩:=VZ (n:=n) (b:=c) (by omega) (by omega)
  unfold oiP; rw [h]; rfl
 ·obtain⟨s,e,h,h2⟩:=VZ (n:=n) (b:=c) (by omega) (by omega)
  unfold oiP; rw [h]; show s.length≤_; omega
 ·unfold oiP; rw [gj h (by omega)]; rfl
theorem WM {n:Nat} {e:Int} {m:zg}:zM n e m=some ⟨m.f_l,m.zX||e !=0⟩:=by
 unfold zM; rw [ifb]; rfl
theorem cO (a b c:Bool):(if a=true then some true else(if b=true then some true else some c))=some (a||(b||c)):=by cases a<;>cases b<;>rfl
theorem DI (a:Anc):(XQ a).map elm= [elm (wc a.zy.zo),elm (gx a.zE)]:=rfl
theorem V2 {n M:Nat} (hn:200000000≤n) (l0:List El):∀(k:Nat) (l acc:List Anc),(∀a∈l,YX a)→l.length<k→acc.length+l.length≤1000000 →
  yI n k acc l0 false ((l.map ancE).map elm) false=some (acc++l.map gE,l0,false,[],false)
 |0,_,_,_,h,_=>by omega
 |k+1,[],acc,_,_,_=>by rw [yI,List.map_nil,List.map_nil,if_neg (by simp)]; simp
 | k+1,a::l,acc,ho,hk,hl=>by
  rw [yI]
  simp only [List.length_cons]at hk hl
  have ha:=ho a (by simp)
  obtain⟨hD,hO,hB⟩:=Du (n:=n) (M:=900000) (by omega) hn
  obtain⟨p1,p2⟩:=Yb ha
  have hc:(elm (ancE a)).zq=wraps (XQ a):=rfl
  have hw1:(tWrap (wc a.zy.zo).1 (wc a.zy.zo).2).1.length≤900000:=by
   have:=bI ha.1; have:=yd (wc a.zy.zo).1 (wc a.zy.zo).2; omega
  have hr1:(elm (wc a.zy.zo)).qP=(tWrap (wc a.zy.zo).1 (wc a.zy.zo).2).1:=rfl
  have hr2:(elm (gx a.zE)).qP=(tWrap (gx a.zE).1 (gx a.zE).2).1:=rfl
  simp only [List.map_cons]
  rw [if_pos (by rw [decide_eq_true_eq,List.length_cons]; omega),ZO,Option.bind_some]
  simp only []
  rw [Dc (by rw [hc]; omega) (by rw [hc]; omega),Option.bind_some,hc,vb p1,DI]
  simp only []
  rw [ZO,Option.bind_some]
  simp only []
  rw [hr1,cp hD hO (by omega) (by omega) hw1,Option.bind_some,Xb hB ha.1,WM,Option.bind_some,ZO,Option.bind_some]
  simp only []
  rw [hr2,Ki hD hB (by omega) (by omega) ha.2.2,Option.bind_some,WM,Option.bind_some,cO,Option.bind_some,yZ (by rw [List.length_singleton]; omega),Option.bind_some]
  have hf:((false||((0:Int) !=0))||((0:Int) !=0))=false:=rfl
  have hg:((((0:Int) !=0)||((elm (ancE a)).zT !=48))||decide ((List.length ([]:List El):Int)>0))=false:=rfl
  simp only [hf,hg,Bool.false_or]
  have:=V2 (M:=M) hn l0 k l (acc ++ [gE a]) (fun x hx=>ho x (by simp [hx])) (by omega) (by rw [List.length_append,List.length_singleton]; omega)
  rw [List.append_assoc,List.singleton_append]at this
  exact this
theorem mf (a b c d:Bool):(if a=true then some true else(if b=true then some true else(if c=true then some true else some d)))=some (a||(b||(c||d))):=by cases a<;>cases b<;>cases c<;>rfl
theorem Qp {n:Nat} (x:List Att) (a:Att) (hx:x.length≤1000000):∀(k i:Nat) (f:Bool),i≤x.length→x.length-i<k→(f=true∨a∈x.drop i)→yG n x a k f (i:Int)=some true
 |0,i,_,_,h,_=>by omega
 | k + 1,i,f,hi,hk,hf=>by
  rw [yG]
  by_cases hc:i<x.length
  ·rw [if_pos (by rw [decide_eq_true_eq]; omega),yf hc,Option.bind_some,ifb,Option.bind_some,w1 (by omega)]
   refine Qp x a hx k (i+1) _ (by omega) (by omega) ?_
   rcases hf with hf|hf
   ·left; rw [hf]; rfl
   ·rw [List.drop_eq_getElem_cons hc]at hf
    rcases List.mem_cons.1 hf with hf|hf
    ·left; rw [←hf]; simp
    ·exact .inr hf
  ·rw [if_neg (by rw [decide_eq_true_eq]; omega)]
   rcases hf with hf|hf
   ·rw [hf]
   ·rw [List.drop_eq_nil_of_le (by omega)]at hf; simp at hf
def Uf (m j:Nat):Bool:=(List.range 5).all fun r:Nat=>match xz (m+1000) ((5*j+r:Nat):Int)with|some s=>decide (s.length=32)|none=>false
theorem sd0 (m:Nat):Uf m 0=true:=by kernel_rfl
theorem sd1 (m:Nat):Uf m 1=true:=by kernel_rfl
theorem sd2 (m:Nat):Uf m 2=true:=by kernel_rfl
theorem sd3 (m:Nat):Uf m 3=true:=by kernel_rfl
theorem sd4 (m:Nat):Uf m 4=true:=by kernel_rfl
theorem sd5 (m:Nat):Uf m 5=true:=by kernel_rfl
theorem sd6 (m:Nat):Uf m 6=true:=by kernel_rfl
theorem sd7 (m:Nat):Uf m 7=true:=by kernel_rfl
theorem sd8 (m:Nat):Uf m 8=true:=by kernel_rfl
theorem sd9 (m:Nat):Uf m 9=true:=by kernel_rfl
theorem lZ (m:Nat):∀j,j<10→Uf m j=true
 |0,_=>sd0 m|1,_=>sd1 m|2,_=>sd2 m|3,_=>sd3 m|4,_=>sd4 m|5,_=>sd5 m|6,_=>sd6 m|7,_=>sd7 m|8,_=>sd8 m|9,_=>sd9 m
 |j+10,h=>by omega
theorem eK (m:Nat):xx (m+1000)=some true:=by kernel_rfl
theorem P8 {n:Nat} {r:Int} (hn:1000≤n) (h0:0≤r) (h1:r<50):∃s,xz n r=some s∧s.length=32:=by
 obtain⟨m,rfl⟩:∃m,n=m+1000:=⟨n-1000,by omega⟩
 have h:=List.all_eq_true.1 (lZ m (r.toNat/5) (by omega)) (r.toNat%5) (by rw [List.mem_range]; omega)
 have e:((5*(r.toNat/5)+r.toNat%5:Nat):Int)=r:=by omega
 rw [e]at h
 cases hs:xz (m+1000) r with
 |none=>rw [hs]at h; cases h
 |some s=>rw [hs]at h; exact⟨s,rfl,by simpa using h⟩
theorem Km {n:Nat} {d:zh} (hn:1000≤n) (hd:xZ d):∃k d',wi n d=some (k,d')∧xZ d':=by
 unfold wi
 obtain⟨r,d1,e1,a1,b1,k1⟩:=xb (n:=n) (k:=50) (by decide) (by decide) hd
 obtain⟨s,e2,l2⟩:=P8 (n:=n) hn a1 b1
 obtain⟨x,e3⟩:=Pp (s:=s) (i:=0) (j:=16) (by omega) (by omega) (by omega)
 obtain⟨y,e4⟩:=Pp (s:=s) (i:=16) (j:=(s.length:Nat)) (by omega) (by omega) (by omega)
 obtain⟨q,d2,e5,a5,b5,k5⟩:=xb (n:=n) (k:=9) (by decide) (by decide) k1
 rw [e1,Option.bind_some]; simp only []
 rw [e2,Option.bind_some,e3,Option.bind_some,e4,Option.bind_some,e5]
 exact⟨_,_,rfl,k5⟩
def bdN (B:Nat) (l:List (List Att)):Bool:=decide (l.length≤B)&&l.all fun r=>decide (r.length≤B)&&r.all fun a=>decide (a.xQ.length≤B)&&decide (a.wQ.length≤B)
theorem ed {B:Nat} {l:List (List Att)} (h:bdN B l=true):BdN B l:=by
 simp only [bdN,Bool.and_eq_true,decide_eq_true_eq,List.all_eq_true]at h
 exact⟨h.1,fun r hr=>⟨(h.2 r hr).1,fun a ha=>(h.2 r hr).2 a ha⟩⟩
theorem Jj {n:Nat} {r:Int} (hn:1000≤n) (h0:0≤r) (h1:r<16):∃x,xU n r=some x∧BdN 252 x.zo:=by
 obtain⟨m,rfl⟩:∃m,n=m+1000:=⟨n-1000,by omega⟩
 have h:=List.all_eq_true.1 (show((List.range 16).all fun r:Nat=>match xU (m+1000) (r:Int)with|some x=>bdN 252 x.zo|none=>false)=true by kernel_rfl) r.toNat (by rw [List.mem_range]; omega)
 rw [show((r.toNat:Nat):Int)=r by omega]at h
 cases hs:xU (m+1000) r with
 |none=>rw [hs]at h; cases h
 |some x=>rw [hs]at h; exact⟨x,rfl,ed h⟩
theorem P4 {n:Nat} {d:zh} (hd:xZ d):∃a d',wB n d=some (a,d')∧BdA 252 a∧xZ d':=by
 unfold wB
 obtain⟨r,d1,e1,a1,b1,k1⟩:=xb (n:=n) (k:=12) (by decide) (by decide) hd
 rw [e1,Option.bind_some]; simp only []
 obtain⟨m,rfl⟩:∃m:Nat,r=(m:Int):=⟨r.toNat,by omega⟩
 have hm:m<12:=by omega
 match m,hm with
 |0,_|1,_|2,_|3,_|4,_|5,_|6,_|7,_|8,_|9,_|10,_|11,_=>exact⟨_,_,rfl,⟨by decide,by decide⟩,k1⟩
 |j+12,h=>omega
theorem JB {n:Nat}:∀(j k:Nat) (acc:List Att) (L:List Int) (At:Int),j<k→acc.length+j≤100→(∀a∈acc,BdA 252 a)→xZ ⟨L,At⟩ →
  ∃acc' L' At',xk n k acc (j:Int) L At=some (acc',L',At')∧acc'.length≤acc.length+j∧(∀a∈acc',BdA 252 a)∧xZ ⟨L',At'⟩
 |j,0,_,_,_,h,_,_,_=>by omega
 | 0,k+1,acc,L,At,_,_,ha,hd=>by
  rw [xk,if_neg (by decide)]
  exact⟨_,_,_,rfl,by omega,ha,hd⟩
 | j + 1,k+1,acc,L,At,hk,hl,ha,hd=>by
  rw [xk,if_pos (by rw [decide_eq_true_eq]; omega)]
  obtain⟨a,d1,e1,b1,k1⟩:=P4 (n:=n) hd
  have ew:IntKind.wrap .i64 (((j+1:Nat):Int)-1)=(j:Int):=by rw [wt (by omega)]; omega
  have key:∃c,(if((List.length acc:Int)==0)=true then(some true)else((z6 acc 0).bind fun x2478=>some (!(x2478.xQ==a.xQ))))=some c:=by
   refine jI (fun _=>⟨_,rfl⟩) fun h=> ?_
   obtain⟨x,hx⟩:=ul (s:=acc) (i:=0) (by omega) (by rw [beq_iff_eq]at h; omega)
   rw [hx]; exact⟨_,rfl⟩
  obtain⟨c,hc⟩:=key
  rw [e1,Option.bind_some]; simp only []
  rw [hc,Option.bind_some,ew]
  cases c with
  | true=>
   rw [if_pos rfl,yZ (by rw [List.length_singleton]; omega),Option.bind_some,Option.bind_some]
   obtain ⟨acc',L',At',g1,g2,g3,g4⟩:=JB (n:=n) j k (acc ++ [a]) d1.f_L d1.zO (by omega) (by rw [List.length_append,List.length_singleton]; omega) (by
    intro y hy; rcases List.mem_append.1 hy with h|h
    ·exact ha y h
    ·rw [List.mem_singleton]at h; subst h; exact b1) k1
   exact⟨acc',L',At',g1,by rw [List.length_append,List.length_singleton]at g2; omega,g3,g4⟩
  | false=>
   rw [if_neg (by simp),Option.bind_some]
   obtain⟨acc',L',At',g1,g2,g3,g4⟩:=JB (n:=n) j k acc d1.f_L d1.zO (by omega) (by omega) ha k1
   exact⟨acc',L',At',g1,by omega,g3,g4⟩
theorem BW {n:Nat} (hn:1000≤n):∀(j k:Nat) (acc:List (List Att)) (L:List Int) (At:Int),j<k→acc.length+j≤100→(∀r∈acc,BdR 252 r)→xZ ⟨L,At⟩ →
  ∃acc' L' At',xh n k (j:Int) L At acc=some (L',At',acc')∧acc'.length≤acc.length+j∧(∀r∈acc',BdR 252 r)∧xZ ⟨L',At'⟩
 |j,0,_,_,_,h,_,_,_=>by omega
 | 0,k+1,acc,L,At,_,_,ha,hd=>by
  rw [xh,if_neg (by decide)]
  exact⟨_,_,_,rfl,by omega,ha,hd⟩
 | j+1,k+1,acc,L,At,hk,hl,ha,hd=>by
  rw [xh,if_pos (by rw [decide_eq_true_eq]; omega)]
  obtain⟨r,d1,e1,a1,b1,k1⟩:=xb (n:=n) (k:=5) (by decide) (by decide) hd
  have ew:IntKind.wrap .i64 (((j+1:Nat):Int)-1)=(j:Int):=by rw [wt (by omega)]; omega
  have ec:∃q:Nat,q≤2∧IntKind.wrap .i64 ((1:Int)+IntKind.wrap .i64 (Int.tdiv r 4))=(q:Int):=by
   obtain⟨m,rfl⟩:∃m:Nat,r=(m:Int):=⟨r.toNat,by omega⟩
   have hm:m<5:=by omega
   match m,hm with
   |0,_|1,_|2,_|3,_=>exact⟨1,by omega,rfl⟩
   |4,_=>exact⟨2,by omega,rfl⟩
   |j+5,h=>omega
  obtain⟨q,hq,eq⟩:=ec
  rw [e1,Option.bind_some]; simp only []
  rw [eq]
  obtain⟨att,L2,At2,g1,g2,g3,g4⟩:=JB (n:=n) q n [] d1.f_L d1.zO (by omega) (by simp; omega) (by simp) k1
  rw [g1,Option.bind_some]; simp only []
  rw [yZ (by rw [List.length_singleton]; omega),Option.bind_some,ew]
  obtain ⟨acc',L',At',p1,p2,p3,p4⟩:=BW hn j k (acc ++ [att]) L2 At2 (by omega) (by rw [List.length_append,List.length_singleton]; omega) (by
   intro y hy; rcases List.mem_append.1 hy with h|h
   ·exact ha y h
   ·rw [List.mem_singleton]at h; subst h; exact⟨by simp only [List.length_nil]at g2; omega,g3⟩) g4
  exact⟨acc',L',At',p1,by rw [List.length_append,List.length_singleton]at p2; omega,p3,p4⟩
theorem Vx {n:Nat} {d:zh} (hn:1000≤n) (hd:xZ d):∃x d',xC n d=some (x,d')∧BdN 252 x.zo∧xZ d':=by
 unfold xC
 obtain⟨r,d1,e1,a1,b1,k1⟩:=xb (n:=n) (k:=4) (by decide) (by decide) hd
 obtain⟨m,rfl⟩:∃m:Nat,r=(m:Int):=⟨r.toNat,by omega⟩
 obtain⟨acc',L',At',p1,p2,p3,p4⟩:=BW (n:=n) hn m n [] d1.f_L d1.zO (by omega) (by simp; omega) (by simp) k1
 rw [e1,Option.bind_some]; simp only []
 rw [p1]
 exact⟨_,_,rfl,⟨by show acc'.length≤_; simp only [List.length_nil]at p2; omega,p3⟩,p4⟩
theorem Vy {α:Type} {l:List α} {o:Nat} (x:α) (h:o<l.length):∃r,Z5 l o x=some r∧r.length=l.length:=⟨_,if_pos h,List.length_set ..⟩
theorem gK {n:Nat} {i:Int} (h:0≤i∧i<n):kI n i=some i.toNat:=if_pos h
theorem Wi {α:Type} {l:List α} {o:Nat} (h:o<l.length):∃x,l[o]? =some x:=⟨_,List.getElem?_eq_getElem h⟩
theorem Pg {n:Nat} {a:Bs} (ha:a.length=64):∀(j k:Nat) (v:List Int),j≤16→j<k→v.length=64→∃r,yO n a k ((16-j:Nat):Int) v=some r∧r.length=64
 |j,0,_,_,h,_=>by omega
 | 0,k+1,v,_,_,hv=>by
  rw [yO,if_neg (by decide)]
  exact⟨_,rfl,hv⟩
 | j+1,k+1,v,hj,hk,hv=>by
  rw [yO,if_pos (by rw [decide_eq_true_eq]; omega)]
  rw [wt (x:=(4:Int)*((16-(j+1):Nat):Int)) (by omega),wt (x:=(4:Int)*((16-(j+1):Nat):Int)+1) (by omega),wt (x:=(4:Int)*((16-(j+1):Nat):Int)+2) (by omega),wt (x:=(4:Int)*((16-(j+1):Nat):Int)+3) (by omega)]
  obtain⟨x1,e1⟩:=bm (s:=a) (i:=(4:Int)*((16-(j+1):Nat):Int)) (by omega) (by omega)
  obtain⟨x2,e2⟩:=bm (s:=a) (i:=(4:Int)*((16-(j+1):Nat):Int)+1) (by omega) (by omega)
  obtain⟨x3,e3⟩:=bm (s:=a) (i:=(4:Int)*((16-(j+1):Nat):Int)+2) (by omega) (by omega)
  obtain⟨x4,e4⟩:=bm (s:=a) (i:=(4:Int)*((16-(j+1):Nat):Int)+3) (by omega) (by omega)
  rw [e1,Option.bind_some,e2,Option.bind_some,e3,Option.bind_some,e4,Option.bind_some,gK (by omega),Option.bind_some]
  obtain⟨w,ew,lw⟩:=Vy (l:=v) (o:=0+((16-(j+1):Nat):Int).toNat*1) (ior .u32 (ior .u32 (ior .u32 (IntKind.wrap .u32 ((IntKind.wrap .u32 x1)*16777216)) (IntKind.wrap .u32 ((IntKind.wrap .u32 x2)*65536))) (IntKind.wrap .u32 ((IntKind.wrap .u32 x3)*256))) (IntKind.wrap .u32 x4)) (by omega)
  rw [ew,Option.bind_some,wt (by omega),show((16-(j+1):Nat):Int)+1=((16-j:Nat):Int)by omega]
  exact Pg ha j k w (by omega) (by omega) (by omega)
theorem Db {n:Nat}:∀(j k:Nat) (v:List Int),j≤48→j<k→v.length=64→∃r,yJ n k ((64-j:Nat):Int) v=some r∧r.length=64
 |j,0,_,_,h,_=>by omega
 | 0,k+1,v,_,_,hv=>by
  rw [yJ,if_neg (by decide)]
  exact⟨_,rfl,hv⟩
 | j+1,k+1,v,hj,hk,hv=>by
  rw [yJ,if_pos (by rw [decide_eq_true_eq]; omega)]
  rw [wt (x:=((64-(j+1):Nat):Int)-15) (by omega),wt (x:=((64-(j+1):Nat):Int)-2) (by omega),wt (x:=((64-(j+1):Nat):Int)-16) (by omega),wt (x:=((64-(j+1):Nat):Int)-7) (by omega)]
  rw [gK (i:=((64-(j+1):Nat):Int)-15) (by omega),Option.bind_some]
  obtain⟨x1,e1⟩:=Wi (l:=v) (o:=0+(((64-(j+1):Nat):Int)-15).toNat*1) (by omega)
  rw [e1,Option.bind_some,gK (i:=((64-(j+1):Nat):Int)-2) (by omega),Option.bind_some]
  obtain⟨x2,e2⟩:=Wi (l:=v) (o:=0+(((64-(j+1):Nat):Int)-2).toNat*1) (by omega)
  rw [e2,Option.bind_some,gK (i:=((64-(j+1):Nat):Int)-16) (by omega),Option.bind_some]
  obtain⟨x3,e3⟩:=Wi (l:=v) (o:=0+(((64-(j+1):Nat):Int)-16).toNat*1) (by omega)
  rw [e3,Option.bind_some,gK (i:=((64-(j+1):Nat):Int)-7) (by omega),Option.bind_some]
  obtain⟨x4,e4⟩:=Wi (l:=v) (o:=0+(((64-(j+1):Nat):Int)-7).toNat*1) (by omega)
  rw [e4,Option.bind_some,gK (i:=((64-(j+1):Nat):Int)) (by omega),Option.bind_some]
  generalize IntKind.wrap .u32 ((IntKind.wrap .u32 _)+_)=z
  obtain⟨w,ew,lw⟩:=Vy (l:=v) (o:=0+((64-(j+1):Nat):Int).toNat*1) z (by omega)
  rw [ew,Option.bind_some,wt (by omega),show((64-(j+1):Nat):Int)+1=((64-j:Nat):Int)by omega]
  exact Db j k w (by omega) (by omega) (by omega)
theorem Dt {n:Nat} {y:List Int} (hy:y.length=64):∀(j k:Nat) (a b c d e f g h:Int),j≤64→j<k→∃r,yN n y k a b c d e f g h ((64-j:Nat):Int)=some r
 |j,0,_,_,_,_,_,_,_,_,_,h=>by omega
 | 0,k+1,_,_,_,_,_,_,_,_,_,_=>by
  rw [yN,if_neg (by decide)]
  exact⟨_,rfl⟩
 | j+1,k+1,_,_,_,_,_,_,_,_,hj,hk=>by
  rw [yN,if_pos (by rw [decide_eq_true_eq]; omega)]
  refine kL (ul (by omega) ?_) fun x1 _=> ?_
  ·show _<(64:Int); omega
  rw [gK (i:=((64-(j+1):Nat):Int)) (by omega),Option.bind_some]
  obtain⟨x2,e2⟩:=Wi (l:=y) (o:=0+((64-(j+1):Nat):Int).toNat*1) (by omega)
  rw [e2,Option.bind_some,wt (x:=((64-(j+1):Nat):Int)+1) (by omega),show((64-(j+1):Nat):Int)+1=((64-j:Nat):Int)by omega]
  exact Dt hy j k _ _ _ _ _ _ _ _ (by omega) (by omega)
theorem Pk {n:Nat} {s:List Int} {a:Bs} (hn:100≤n) (hs:s.length=8) (ha:a.length=64):∃r,vu n s a=some r∧r.length=8:=by
 unfold vu
 obtain⟨y,ey,ly⟩:=Pg (n:=n) ha 16 n (List.replicate 64 0) (by omega) (by omega) (by rw [List.length_replicate])
 obtain⟨z,ez,lz⟩:=Db (n:=n) 48 n y (by omega) (by omega) ly
 rw [show(0:Int)=((16-16:Nat):Int)by rfl]
 rw [show((List.replicate 64 ((16-16:Nat):Int)):List Int)=List.replicate 64 0 by rfl,ey,Option.bind_some]
 rw [show(16:Int)=((64-48:Nat):Int)by rfl,ez,Option.bind_some]
 obtain⟨x0,e0⟩:=ul (s:=s) (i:=0) (by omega) (by omega)
 obtain⟨x1,e1⟩:=ul (s:=s) (i:=1) (by omega) (by omega)
 obtain⟨x2,e2⟩:=ul (s:=s) (i:=2) (by omega) (by omega)
 obtain⟨x3,e3⟩:=ul (s:=s) (i:=3) (by omega) (by omega)
 obtain⟨x4,e4⟩:=ul (s:=s) (i:=4) (by omega) (by omega)
 obtain⟨x5,e5⟩:=ul (s:=s) (i:=5) (by omega) (by omega)
 obtain⟨x6,e6⟩:=ul (s:=s) (i:=6) (by omega) (by omega)
 obtain⟨x7,e7⟩:=ul (s:=s) (i:=7) (by omega) (by omega)
 rw [show((16-16:Nat):Int)=0 by rfl,e0,Option.bind_some,e1,Option.bind_some,e2,Option.bind_some,e3,Option.bind_some,e4,Option.bind_some,e5,Option.bind_some,e6,Option.bind_some,e7,Option.bind_some]
 obtain⟨w,ew⟩:=Dt (n:=n) lz 64 n x0 x1 x2 x3 x4 x5 x6 x7 (by omega) (by omega)
 rw [show(0:Int)=((64-64:Nat):Int)by rfl,ew,Option.bind_some]
 exact⟨_,rfl,rfl⟩
theorem BO {n:Nat} {a:List Bs} (ha:a.length≤100) (hs:∀x∈a,x.length≤1000):∀(j k:Nat) (v:Bs),j≤a.length→j<k→v.length≤1000*(a.length-j)→∃r,xj n a k v ((a.length-j:Nat):Int)=some r∧r.length≤100000
 |j,0,_,_,h,_=>by omega
 | 0,k+1,v,_,_,hv=>by
  rw [xj,if_neg (by simp)]
  exact⟨_,rfl,by omega⟩
 | j+1,k+1,v,hj,hk,hv=>by
  rw [xj,if_pos (by rw [decide_eq_true_eq]; omega)]
  obtain⟨x,ex⟩:=ul (s:=a) (i:=((a.length-(j+1):Nat):Int)) (by omega) (by omega)
  have lx:x.length≤1000:=by
   unfold z6 at ex
   rw [if_pos (by omega)]at ex
   exact hs x (List.mem_of_getElem? ex)
  rw [ex,Option.bind_some,show dt v x=some (v++x)from if_pos (by omega),Option.bind_some,wt (by omega),show((a.length-(j+1):Nat):Int)+1=((a.length-j:Nat):Int)by omega]
  exact BO ha hs j k (v++x) (by omega) (by omega) (by rw [List.length_append]; omega)
theorem Bn {n m:Nat} {y:Bs} (hy:y.length≤100000) (hm:9≤m∧m≤100):∀(j k:Nat) (v:List Int),j≤8→j<k→v.length=m→∃r,xf n y m k ((8-j:Nat):Int) v=some r∧r.length=m
 |j,0,_,_,h,_=>by omega
 | 0,k+1,v,_,_,hv=>by
  rw [xf,if_neg (by decide)]
  exact⟨_,rfl,hv⟩
 | j+1,k+1,v,hj,hk,hv=>by
  rw [xf,if_pos (by rw [decide_eq_true_eq]; omega)]
  rw [wt (x:=(8:Int)*(y.length:Int)) (by omega),wt (x:=(8:Int)*((8-(j+1):Nat):Int)) (by omega),wt (x:=(m:Int)-1) (by omega),wt (x:=(m:Int)-1-((8-(j+1):Nat):Int)) (by omega)]
  rw [show ∀a b:Int,0≤b→YD .i64 a b=some (a.fdiv (2^(min b.toNat IntKind.i64.bits)))from fun a b h=>if_neg (by omega)]
  ·rw [Option.bind_some,gK (i:=(m:Int)-1-((8-(j+1):Nat):Int)) (by omega),Option.bind_some]
   generalize IntKind.wrap .u8 _=z
   obtain⟨w,ew,lw⟩:=Vy (l:=v) (o:=((m:Int)-1-((8-(j+1):Nat):Int)).toNat*1) z (by omega)
   rw [ew,Option.bind_some,wt (by omega),show((8-(j+1):Nat):Int)+1=((8-j:Nat):Int)by omega]
   exact Bn hy hm j k w (by omega) (by omega) (by omega)
  ·omega
theorem BH {n:Nat} {x:Bs} {q:Nat} (hn:100≤n) (hx:x.length=64*q) (hq:q≤10000):∀(j k:Nat) (v:List Int),j≤q→j<k→v.length=8→∃r,xg n x k v ((64*(q-j):Nat):Int)=some r∧r.length=8
 |j,0,_,_,h,_=>by omega
 | 0,k+1,v,_,_,hv=>by
  rw [xg,if_neg (by rw [decide_eq_true_eq]; omega)]
  exact⟨_,rfl,hv⟩
 | j+1,k+1,v,hj,hk,hv=>by
  rw [xg,if_pos (by rw [decide_eq_true_eq]; omega)]
  rw [wt (x:=((64*(q-(j+1)):Nat):Int)+64) (by omega),show ssl x ((64*(q-(j+1)):Nat):Int) (((64*(q-(j+1)):Nat):Int)+64)=some _ from if_pos ⟨by omega,by omega,by omega⟩,Option.bind_some]
  obtain⟨w,ew,lw⟩:=Pk (n:=n) (s:=v) (a:=((x.take ((((64*(q-(j+1)):Nat):Int)+64).toNat)).drop (((64*(q-(j+1)):Nat):Int).toNat))) hn hv (by rw [List.length_drop,List.length_take]; omega)
  rw [ew,Option.bind_some,show((64*(q-(j+1)):Nat):Int)+64=((64*(q-j):Nat):Int)by omega]
  exact BH hn hx hq j k w (by omega) (by omega) lw
theorem B4 {n:Nat} {y:List Int} (hy:y.length=8):∀(j k:Nat) (v:List Int),j≤8→j<k→v.length=4*(8-j)→∃r,xi n y k v ((8-j:Nat):Int)=some r∧r.length=32
 |j,0,_,_,h,_=>by omega
 | 0,k+1,v,_,_,hv=>by
  rw [xi,if_neg (by rw [hy]; decide)]
  exact⟨_,rfl,hv⟩
 | j+1,k+1,v,hj,hk,hv=>by
  rw [xi,if_pos (by rw [decide_eq_true_eq]; omega)]
  obtain⟨x,ex⟩:=ul (s:=y) (i:=((8-(j+1):Nat):Int)) (by omega) (by omega)
  rw [ex,Option.bind_some,yZ (by show(_+4)*_≤_; omega),Option.bind_some,wt (by omega),show((8-(j+1):Nat):Int)+1=((8-j:Nat):Int)by omega]
  exact B4 hy j k _ (by omega) (by omega) (by rw [List.length_append]; show _+4=_; omega)
theorem DJ {n:Nat} {a:List Bs} (hn:2000≤n) (ha:a.length≤100) (hs:∀x∈a,x.length≤1000):∃s,ve n a=some s∧s.length=32:=by
 unfold ve
 obtain⟨y,ey,ly⟩:=BO (n:=n) ha hs a.length n [] (by omega) (by omega) (by simp)
 rw [show(0:Int)=((a.length-a.length:Nat):Int)by omega,ey,Option.bind_some,show((a.length-a.length:Nat):Int)=0 by omega]
 have key:∃p:Nat,p<64∧(y.length+(9+p))%64=0∧(if((IntKind.wrap .i64 ((64:Int)-(Int.tmod (IntKind.wrap .i64 ((List.length y:Int)+9)) 64)))==64)=true then(some 0)else(some (IntKind.wrap .i64 ((64:Int)-(Int.tmod (IntKind.wrap .i64 ((List.length y:Int)+9)) 64)))))=some (p:Int):=by
  rw [wt (x:=(List.length y:Int)+9) (by omega),show Int.tmod ((List.length y:Int)+9) 64=(((y.length+9)%64:Nat):Int)from(Int.ofNat_tmod (y.length+9) 64).symm,wt (by omega)]
  by_cases h0:(y.length+9)%64=0
  ·exact⟨0,by omega,by omega,by rw [if_pos (by rw [beq_iff_eq]; omega)]; rfl⟩
  ·exact⟨64-(y.length+9)%64,by omega,by omega,by rw [if_neg (by rw [beq_iff_eq]; omega)]; congr 1; omega⟩
 obtain⟨p,hp,hq,ep⟩:=key
 rw [ep,Option.bind_some,wt (x:=(9:Int)+(p:Int)) (by omega),show Xk 1 ((9:Int)+(p:Int)) ((9:Int)+(p:Int))=some (9+p)from(if_pos ⟨by omega,by omega,by omega,by omega⟩).trans (congrArg some (by omega)),Option.bind_some,gK (by omega),Option.bind_some]
 obtain⟨w,ew,lw⟩:=Vy (l:=List.replicate (9+p) (0:Int)) (o:=(0:Int).toNat*1) 128 (by rw [List.length_replicate]; show 0<_; omega)
 rw [List.length_replicate]at lw
 rw [ew,Option.bind_some]
 obtain⟨z,ez,lz⟩:=Bn (n:=n) (m:=9+p) ly (by omega) 8 n w (by omega) (by omega) lw
 rw [show(0:Int)=((8-8:Nat):Int)by rfl,ez,Option.bind_some,show Jk (9+p) z=some (b2s (z.take (9+p)))from if_pos (by omega),Option.bind_some]
 have lb:(b2s (z.take (9+p))).length=9+p:=by unfold b2s; rw [List.length_map,List.length_take]; omega
 rw [show dt y (b2s (z.take (9+p)))=some (y++b2s (z.take (9+p)))from if_pos (by omega),Option.bind_some]
 obtain⟨u,eu,lu⟩:=BH (n:=n) (x:=y++b2s (z.take (9+p))) (q:=(y.length+(9+p))/64) (by omega) (by rw [List.length_append,lb]; omega) (by omega) ((y.length+(9+p))/64) n ([1779033703,3144134277,1013904242,2773480762,1359893119,2600822924,528734635,1541459225]:List Int) (by omega) (by omega) rfl
 rw [show((8-8:Nat):Int)=((64*((y.length+(9+p))/64-(y.length+(9+p))/64):Nat):Int)by omega,eu,Option.bind_some]
 rw [show JV 1 32=some ()by rfl,Option.bind_some]
 obtain⟨t,et,lt⟩:=B4 (n:=n) lu 8 n [] (by omega) (by omega) rfl
 rw [show((64*((y.length+(9+p))/64-(y.length+(9+p))/64):Nat):Int)=((8-8:Nat):Int)by omega,et,Option.bind_some]
 exact⟨_,rfl,by unfold b2s; rw [List.length_map]; exact lt⟩
theorem Xi {n:Nat} {a:List Bs} (hn:2000≤n) (ha:a.length≤100) (hs:∀x∈a,x.length≤1000):∃s,yS n a=some s∧s.length=16:=by
 unfold yS
 obtain⟨s,e,l⟩:=DJ hn ha hs
 rw [e,Option.bind_some,show ssl s 0 16=some ((s.take 16).drop 0)from if_pos ⟨by omega,by omega,by omega⟩]
 exact⟨_,rfl,by rw [List.length_drop,List.length_take]; omega⟩
theorem K8 {n v:Nat} (hn:20≤n) (hv:v<64):uZ n (v:Int)=some [o8 v]:=by
 obtain⟨m,rfl⟩:=UT hn
 have:=List.all_eq_true.1 (show((List.range 64).all fun v:Nat=>decide (uZ (m+20) (v:Int)=some [o8 v]))=true by kernel_rfl) v (by simpa using hv)
 simpa using this
theorem KU {n v:Nat} (hn:20≤n) (hv:v<64):ur n [o8 v]=some ((v:Int),0):=by
 obtain⟨m,rfl⟩:=UT hn
 have:=List.all_eq_true.1 (show((List.range 64).all fun v:Nat=>decide (ur (m+20) [o8 v]=some ((v:Int),0)))=true by kernel_rfl) v (by simpa using hv)
 simpa using this
theorem BI {n:Nat} (s:Bs) (h0:0<s.length) (h8:s.length≤8):∀(k i:Nat) (v:Int),s.length-i<k→∃x,wT n s k v (i:Int)=some x
 |0,_,_,h=>by omega
 | k+1,i,v,h=>by
  rw [wT,wt (x:=(s.length:Int)-1) (by omega)]
  by_cases hc:i+1<s.length
  ·rw [if_pos (by simp; omega),w1 (by omega),b9 hc]
   simp only [Option.bind_some]
   exact BI s h0 h8 k (i+1) _ (by omega)
  ·rw [if_neg (by simp; omega)]; exact⟨_,rfl⟩
theorem Kp {n:Nat} (s:Bs) (hn:20≤n):∃x,ur n s=some x:=by
 unfold ur
 rcases Nat.eq_zero_or_pos s.length with h0|h0
 ·have:s= []:=List.eq_nil_of_length_eq_zero h0
  subst this; exact⟨_,by simp; rfl⟩
 refine kL ?_ fun b _=>jI (fun _=>⟨_,rfl⟩) fun _=>jI (fun _=>⟨_,rfl⟩) fun h8=>kL (bm (by omega) (by omega)) fun x _=>kL ?_ fun y _=>⟨_,rfl⟩
 ·refine jI (fun _=>⟨_,rfl⟩) fun _=>jI (fun h=> ?_) fun _=>⟨_,rfl⟩
  have h1:1<(s.length:Int):=by simpa using h
  refine kL (bm (by omega) (by omega)) fun x _=>jI (fun _=>kL (bm (by omega) (by omega)) fun _ _=>jI (fun _=>⟨_,rfl⟩) fun _=>kL (bm (by omega) (by omega)) fun _ _=>jI (fun _=>kL (bm (by omega) (by omega)) fun _ _=>⟨_,rfl⟩) fun _=>⟨_,rfl⟩) fun _=>kL (bm (by omega) (by omega)) fun _ _=>jI (fun _=>kL (bm (by omega) (by omega)) fun _ _=>⟨_,rfl⟩) fun _=>⟨_,rfl⟩
 ·have h8':s.length≤8:=by simp at h8; omega
  exact BI (n:=n) s h0 h8' n 0 _ (by omega)
end Go.Abs
end
