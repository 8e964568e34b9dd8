/- Closed runs. No condition. -/
import Derived.Test.YtkabooclnoiclaaGreatDoorK13
set_option linter.all false
section
namespace Go.K
open Go.Abs
section
variable {R:Type}
noncomputable def Pp (M M8 O b e f a c BM T C04 CL5 p A B C D:Nat) (K:Nat->Nat->Nat->Nat->R):R:=
 nfc (Nat.add C04 (Nat.shiftLeft (Nat.add (Nat.add (Nat.add CL5 (Nat.mul O (Nat.mul p 256))) (Nat.land (Nat.shiftRight A 24) M8)) (Nat.shiftLeft (Nat.add (Nat.add (Nat.land (Nat.mul A 256) M) (Nat.land (Nat.shiftRight B 24) M8)) (Nat.shiftLeft (Nat.add (Nat.add (Nat.land (Nat.mul B 256) M) (Nat.land (Nat.shiftRight C 24) M8)) (Nat.shiftLeft (Nat.add (Nat.add (Nat.land (Nat.mul C 256) M) (Nat.land (Nat.shiftRight D 24) M8)) (Nat.shiftLeft (Nat.add (Nat.land (Nat.mul D 256) M) T) b)) b)) b)) b)) e)) fun W=>sZ M O b f a c BM W K
end
def Kd (x b:Nat):Nat.shiftLeft x b=2^b*x:=by
 show x <<< b=_;rw [Nat.shiftLeft_eq,Nat.mul_comm]
def Vp {n:Nat} {f:Nat->Nat} (h:W32 f):Nat.land (Nat.mul (pv n f) 256) (pv n fun _=>4294967295)=pv n fun i=>f i*256%4294967296:=by
 show Nat.land (_*256) _=_;rw [qw,V3 fun i=>by have:=h i; omega]
def ct {n:Nat} {f:Nat->Nat} (h:W32 f):Nat.land (Nat.shiftRight (pv n f) 24) (pv n fun _=>255)=pv n fun i=>f i/16777216:=by
 have e:=Qe (n:=n) (k:=24) (by decide) (m:=255) (by decide) (fun i=>h.u i);refine Eq.trans e (qR fun i _=> ?_);rw [Nat.shiftRight_eq_div_pow,show(255:Nat)=2^8-1 from rfl,Nat.and_two_pow_sub_one_eq_mod];show f i/16777216%256=_;have:=h i;omega
def bu (leaf p:Nat) (c A B C D:Nat->Nat):List (Nat->Nat):= [fun i=>leaf%256*16777216+c i*65536+p*256+A i/16777216,fun i=>A i*256%4294967296+B i/16777216,fun i=>B i*256%4294967296+C i/16777216,fun i=>C i*256%4294967296+D i/16777216,fun i=>D i*256%4294967296+128,fun _=>0,fun _=>0,fun _=>0,fun _=>0,fun _=>0,fun _=>312]
def JW {l:List Nat} (h:∀x∈l,x<4294967296):∀v∈(l.map fun w (_:Nat)=>w),W32 v:=fun v a=>by
 obtain⟨w,b,rfl⟩:=List.mem_map.1 a;exact fun _=>h w b
def Jy (l:List Nat) (i:Nat):(l.map fun w (_:Nat)=>w).map (fun v=>v i)=l:=by
 rw [List.map_map]; simp [Function.comp_def]
def zap (B x:Nat):B*(0+B*(0+B*(0+B*(0+B*(0+B*(x+B*0))))))=B^6*x:=by
 simp only [Nat.zero_add,Nat.mul_zero,Nat.add_zero,Nat.pow_succ,Nat.pow_zero,Nat.one_mul,Nat.mul_assoc]
def n8 {R:Type} (n:Nat) {ws:List Nat} (j:ws.length=5) (g:∀x∈ws,x<4294967296) {leaf p:Nat} {c A B C D:Nat->Nat} (l:∀i,c i<256) (y:p<256) (a:W32 A) (b:W32 B) (e:W32 C) (f:W32 D) (K:Nat->Nat->Nat->Nat->R):
  Pp (pv n fun _=>4294967295) (pv n fun _=>255) (pv n fun _=>1) (64*n) (64*n*5) (64*n*9) (64*n*14) (64*n*15) (2^(64*n)-1) (Nat.add (pv n fun _=>128) (Nat.shiftLeft (pv n fun _=>312) (64*n*6))) (pkB (2^(64*n)) (wQ (ws.map fun w _=>w) n)) (pv n fun i=>leaf%256*16777216+c i*65536) p (pv n A) (pv n B) (pv n C) (pv n D) K=
   K (pv n fun i=>(wq.block (ws++pF leaf (c i) p (A i) (B i) (C i) (D i))).a) (pv n fun i=>(wq.block (ws++pF leaf (c i) p (A i) (B i) (C i) (D i))).b) (pv n fun i=>(wq.block (ws++pF leaf (c i) p (A i) (B i) (C i) (D i))).c) (pv n fun i=>(wq.block (ws++pF leaf (c i) p (A i) (B i) (C i) (D i))).d):=by
 unfold Pp;rw [zH,Vp a,Vp b,Vp e,Vp f,ct a,ct b,ct e,ct f]
 have ec:Nat.mul (pv n fun _=>1) (Nat.mul p 256)=pv n fun _=>p*256:=by
  show(pv n fun _=>1)*(p*256)=_;rw [qw]; simp only [Nat.one_mul]
 have k:∀v∈(ws.map fun w (_:Nat)=>w)++bu leaf p c A B C D,W32 v:=fun v m=>by
  rcases List.mem_append.1 m with h|h
  ·exact JW g v h
  ·simp only [bu,List.mem_cons,List.not_mem_nil,or_false]at h;rcases h with rfl|rfl|rfl|rfl|rfl|rfl|rfl|rfl|rfl|rfl|rfl<;>intro i<;>have o:=l i<;>have q:=a i<;>have r:=b i<;>have s:=e i<;>have t:=f i<;>dsimp only<;>omega
 have eW:(pkB (2^(64*n)) (wQ (ws.map fun w _=>w) n))+2^(64*n*5)*pkB (2^(64*n)) (wQ (bu leaf p c A B C D) n)=pkB (2^(64*n)) (wQ ((ws.map fun w (_:Nat)=>w)++bu leaf p c A B C D) n):=by
  rw [show wQ ((ws.map fun w (_:Nat)=>w)++bu leaf p c A B C D) n=wQ (ws.map fun w _=>w) n++wQ (bu leaf p c A B C D) n from List.map_append,QA];rw [show(wQ (ws.map fun w (_:Nat)=>w) n).length=5 by simp [wQ,j],Nat.pow_mul 2 (64*n) 5]
 have eT:pkB (2^(64*n)) (wQ (bu leaf p c A B C D) n)=Nat.add (Nat.add (Nat.add (pv n fun i=>leaf%256*16777216+c i*65536) (pv n fun _=>p*256)) (pv n fun i=>A i/16777216)) (Nat.shiftLeft (Nat.add (Nat.add (pv n fun i=>A i*256%4294967296) (pv n fun i=>B i/16777216)) (Nat.shiftLeft (Nat.add (Nat.add (pv n fun i=>B i*256%4294967296) (pv n fun i=>C i/16777216)) (Nat.shiftLeft (Nat.add (Nat.add (pv n fun i=>C i*256%4294967296) (pv n fun i=>D i/16777216)) (Nat.shiftLeft (Nat.add (pv n fun i=>D i*256%4294967296) (Nat.add (pv n fun _=>128) (Nat.shiftLeft (pv n fun _=>312) (64*n*6)))) (64*n))) (64*n))) (64*n))) (64*n)):=by
  simp only [Kd];show _=_+_+_+2^(64*n)*(_+_+2^(64*n)*(_+_+2^(64*n)*(_+_+2^(64*n)*(_+(_+_)))));rw [uk,uk,uk,uk,uk,<-Nat.add_assoc (pv n fun i=>D i*256%4294967296),uk,Nat.pow_mul 2 (64*n) 6,<-zap (2^(64*n))];simp only [wQ,bu,List.map_cons,List.map_nil,pkB,Km]
 rw [ec,<-eT,Kd];have eW':Nat.add (pkB (2^(64*n)) (wQ (ws.map fun w _=>w) n)) (2^(64*n*5)*pkB (2^(64*n)) (wQ (bu leaf p c A B C D) n))=_:=eW;rw [eW',cK n _ (by simp [bu,j]) k]
 have eL:∀i,((ws.map fun w (_:Nat)=>w)++bu leaf p c A B C D).map (fun v=>v i)=ws++pF leaf (c i) p (A i) (B i) (C i) (D i):=fun i=>by
  rw [List.map_append,Jy]; rfl
 simp only [eL]
section
variable {R:Type}
end
def bD (id:List UInt8) (leaf c:Nat):Nat->Nat->List UInt8->List UInt8
 |_,0,v=>v
 |p,n+1,v=>bD id leaf c (p+1) n (Ue id leaf c p v)
noncomputable def outP (n:Nat):Nat->Nat->Nat->Nat->Nat:=Nat.rec (motive:=fun _=>Nat->Nat->Nat->Nat->Nat) (fun _ _ _ _=>0) (fun _ a A B C D=>nfc (Nat.shiftRight A 64) fun A'=>nfc (Nat.shiftRight B 64) fun B'=>nfc (Nat.shiftRight C 64) fun C'=>nfc (Nat.shiftRight D 64) fun D'=>
 Nat.add (Nat.add (o4K A) (Nat.mul 4294967296 (Nat.add (o4K B) (Nat.mul 4294967296 (Nat.add (o4K C) (Nat.mul 4294967296 (o4K D))))))) (Nat.mul 340282366920938463463374607431768211456 (a A' B' C' D'))) n
def nG (x y:Nat):o4K (x+18446744073709551616*y)=o4K x:=by
 show(x+18446744073709551616*y)/16777216%256+256*((x+18446744073709551616*y)/65536%256+256*((x+18446744073709551616*y)/256%256+256*((x+18446744073709551616*y)%256)))=x/16777216%256+256*(x/65536%256+256*(x/256%256+256*(x%256)));have a:(x+18446744073709551616*y)/16777216%256=x/16777216%256:=by omega
 have b:(x+18446744073709551616*y)/65536%256=x/65536%256:=by omega
 have c:(x+18446744073709551616*y)/256%256=x/256%256:=by omega
 have e:(x+18446744073709551616*y)%256=x%256:=by omega
 rw [a,b,c,e]
def Pf (a b c d:Nat) (l:List UInt8):zi (pT a b c d++l)=(o4K a+4294967296*(o4K b+4294967296*(o4K c+4294967296*o4K d)))+340282366920938463463374607431768211456*zi l:=by
 have e:∀(x:Nat) (l:List UInt8),zi (be4 x++l)=o4K x+4294967296*zi l:=fun x l=>by rw [wG,VJ,show(be4 x).length=4 from rfl,show(256:Nat)^4=4294967296 from rfl]
 unfold pT;simp only [List.append_assoc,e];omega
def Kq {n:Nat} {A:Nat->Nat} (h:W32 A):Nat.shiftRight (pv (n+1) A) 64=pv n fun i=>A (i+1):=by
 show(pv (n+1) A) >>> 64=_;have:=h 0;rw [Nat.shiftRight_eq_div_pow,pv]; omega
def Kc:∀(n:Nat) {A B C D:Nat->Nat},W32 A->W32 B->W32 C->W32 D->outP n (pv n A) (pv n B) (pv n C) (pv n D)=zi ((List.range n).flatMap fun i=>pT (A i) (B i) (C i) (D i))
 |0,A,B,C,D,_,_,_,_=>rfl
 | n+1,A,B,C,D,e,f,g,h=>by
  have j:∀a b c d,outP (n+1) a b c d=nfc (Nat.shiftRight a 64) fun A'=>nfc (Nat.shiftRight b 64) fun B'=>nfc (Nat.shiftRight c 64) fun C'=>nfc (Nat.shiftRight d 64) fun D'=>
   Nat.add (Nat.add (o4K a) (Nat.mul 4294967296 (Nat.add (o4K b) (Nat.mul 4294967296 (Nat.add (o4K c) (Nat.mul 4294967296 (o4K d))))))) (Nat.mul 340282366920938463463374607431768211456 (outP n A' B' C' D')):=fun _ _ _ _=>rfl
  rw [j];simp only [zH];rw [Kq e,Kq f,Kq g,Kq h,Kc n (fun i=>e (i+1)) (fun i=>f (i+1)) (fun i=>g (i+1)) (fun i=>h (i+1))];rw [List.range_succ_eq_map,List.flatMap_cons,Pf,List.flatMap_map];simp only [pv,nG];rfl
section
variable {R:Type}
end
def m9 (l:List UInt8) (k:Nat):Nat.shiftRight (zi l) (8*k)=zi (l.drop k):=by
 show zi l >>> (8*k)=_;rw [Nat.shiftRight_eq_div_pow,Nat.pow_mul,dW]
def O35:Nat:=10996907317744048201776382731410793802048645782714020512400457251596748538331474405450875867149761726668807828593098798500685399567041520875592067515910773144625994887707680655329453268887872566001049869710293550134396784388225273277393810974100352408645952997664904916665018199936076462352756316346531115833231102795548960297158953861983644576309807910385838015839817432914994830149465297667558118278755329800282526199791924049110177155763289310922145780207305530304719991902601452389002394240556070482319093715590199305710659362089203858894818256128697135336704349783707641415972881552705137805446667009282041271297772176773668639458687112781151112003585
def M35:Nat:=47231357275856860207533124734812128589787637635796394438719105838653621500472736440541081578512991483085258920447325202264238826224450492067727693742268662794332953049541685934944169240104253693102238126069721922676677043500594131818843880969173105643108843359077977986360953639305219496424387131813025029203584260683665856047551188253633697280154756762839465109199707833140759310586033415219601900518995834799152331788086949596052184735659448352033702417212635572731403749354338063430264900939884685335275383262499937640558988693058693446541039255041687507231333995405264643723191016875777385652861507671621828691064153705603865423642207653033020518508279497752575
def M8:Nat:=2804211366024732291452977596509752419522404674592075230662116599157170877274525973389973346123189240300545996291240193617674776889595587823275977216557247151879628696365458567109010583566407504330267716776124855284271180018997444685735421798395589864204718014404550753749579640983699497899952860668365434537473931212864984875775533234805829366959001017148388694039153445393323681688113650905227320161082609099072044180946940632523095174719638774285147173952862910227703597935163370359195610531341797972991368897475500822956218137332746984018178655312817769510859609194845448561073084795939810140388900087366920524180931905077285503061965213759193533560914175
def C35:Nat:=24503572811172914060315909772262834002096489770742291960019003480539722281251255552536721288718182048983867018954586836912702840369116969123157119252437359201514264798858275488719180401999144764116709128274911470724315927576734615074368400463433226236394091208943148427269219221399694542641431952703455566273009415165489870439185927916653741662218235169773304191197190440782840013261551281823442758170336543473469090273382867350991937537427975971115166902598765702026252729716130631506465599379389662350490451622618505392246672716684307300150988983234790669586569701913386720880643551032199981398744040035955368764234469325711226680055633389480074095899254456320
def n9:Nat:=202857134892728222244455403780239889732096631820631910664811230146099062855146473052224130364722436309490715726098786354848816111231680845226448353724275453289580670277217961928830076407081110482465587228976018799780290606465698196232041597111159153869078635638735543524306207918549051538549551164404570819071864354820267713799742030482847271235462527395385087504985278985294294036715279423317412236088134437741573828351126982707531493745059920401045295323758119680060244068380066847515299389583749286466143251601578398630740197236079859254441981368797290215252030523949959906421461737965638982831197169919730369179456856294549967631332332498659945988123043666582894622539775
def mM:M35=pv 35 fun _=>4294967295:=by decide
def m8:M8=pv 35 fun _=>255:=by decide
def mO:O35=pv 35 fun _=>1:=by decide
def mC:C35=pv 35 fun i=>i%256*65536:=by decide
def mB:n9=2^(64*35)-1:=by decide +kernel
section
variable {R:Type}
noncomputable def zbt (M O b f e a c BM:Nat) (seed leaf CL5:Nat) (K:Nat->Nat->Nat->Nat->R):R:=
 nfc (bcP O b 9 (Nat.add 83 (Nat.mul 256 (Nat.add seed (Nat.mul 115792089237316195423570985008687907853269984665640564039457584007913129639936 (o4K leaf)))))) fun C09=>
 nfc (Nat.add C09 (Nat.shiftLeft (Nat.add (Nat.add CL5 (Nat.mul O 32768)) (Nat.shiftLeft (Nat.mul O 304) f)) e)) fun W=>sZ M O b e a c BM W K
noncomputable def zbf (seed leaf CL5:Nat) (K:Nat->Nat->Nat->Nat->R):R:=zbt M35 O35 2240 13440 20160 31360 33600 n9 seed leaf CL5 K
noncomputable def idK (id leaf:Nat):Nat:=bcP O35 2240 5 (Nat.add 67 (Nat.mul 256 (Nat.add id (Nat.mul 340282366920938463463374607431768211456 (o4K leaf)))))
noncomputable def clK (leaf:Nat):Nat:=Nat.add (Nat.mul O35 (Nat.mul (Nat.mod leaf 256) 16777216)) C35
end
def zbP (leaf:Nat):clK leaf=pv 35 fun i=>leaf%256*16777216+i%256*65536:=by
 unfold clK;rw [mO,mC];show(pv 35 fun _=>1)*(leaf%256*16777216)+_=_;rw [qw,uk]; simp only [Nat.one_mul]
def zbB {id:List UInt8} (a:id.length=16) (leaf:Nat):idK (zi id) leaf=pkB (2^(64*35)) (wQ ((z6 (67::(id++(be4 leaf).take 3))).map fun w _=>w) 35):=by
 have e:Nat.add 67 (Nat.mul 256 (Nat.add (zi id) (Nat.mul 340282366920938463463374607431768211456 (o4K leaf))))=zi (67::(id++be4 leaf)):=by
  show 67+256*(zi id+340282366920938463463374607431768211456*o4K leaf)=67+256*zi (id++be4 leaf);rw [wG,a,VJ]
 unfold idK;rw [e,mO];have h:=De 35 5 (67::(id++be4 leaf)) (by simp [a,be4])
 have b:(67::(id++be4 leaf)).take (4*5)=67::(id++(be4 leaf).take 3):=by
  rw [show 4*5=19+1 from rfl,List.take_succ_cons,List.take_append,List.take_of_length_le (l:=id) (by omega),a]
 rw [b]at h;exact h
def sq {R:Type} (n:Nat) {seed:List UInt8} (b:seed.length=32) (leaf:Nat) (K:Nat->Nat->Nat->Nat->R):
  ∃A B C D,W32 A∧W32 B∧W32 C∧W32 D∧(∀i,pT (A i) (B i) (C i) (D i)=WY seed leaf (i%256))∧zbt (pv n fun _=>4294967295) (pv n fun _=>1) (64*n) (64*n*6) (64*n*9) (64*n*14) (64*n*15) (2^(64*n)-1) (zi seed) leaf (pv n fun i=>leaf%256*16777216+i%256*65536) K=K (pv n A) (pv n B) (pv n C) (pv n D):=by
 have g:(z6 (83::(seed++(be4 leaf).take 3))).length=9:=by
  match seed,b with
  | [O,P,Q,S,T,U,W,X,Y,Z,r,s,t,y,z,E,y0,y1,y2,y3,y4,y5,y6,y7,y8,y9,F,G,H,I,L,M],_=>simp [z6,be4]
 generalize a:z6 (83::(seed++(be4 leaf).take 3))=ws at g;have j:∀x∈ws,x<4294967296:=a▸dl _;let N:Nat->H8:=fun i=>wq.block (ws++WB leaf (i%256))
 have f:∀i,(N i).lt:=fun i=>bI _ _;refine⟨fun i=>(N i).a,fun i=>(N i).b,fun i=>(N i).c,fun i=>(N i).d,fun i=>(f i).1,fun i=>(f i).2.1,fun i=>(f i).2.2.1,fun i=>(f i).2.2.2.1,fun i=>by rw [te b (Nat.mod_lt _ (by decide)),a], ?_⟩;let vt:List (Nat->Nat):= [fun i=>leaf%256*16777216+i%256*65536+32768,fun _=>0,fun _=>0,fun _=>0,fun _=>0,fun _=>0,fun _=>304]
 have o:∀v∈(ws.map fun w (_:Nat)=>w)++vt,W32 v:=fun v q=>by
  rcases List.mem_append.1 q with h|h
  ·exact JW j v h
  ·simp only [vt,List.mem_cons,List.not_mem_nil,or_false]at h;rcases h with rfl|rfl|rfl|rfl|rfl|rfl|rfl<;>intro i<;>dsimp only<;>omega
 have e:Nat.add 83 (Nat.mul 256 (Nat.add (zi seed) (Nat.mul 115792089237316195423570985008687907853269984665640564039457584007913129639936 (o4K leaf))))=zi (83::(seed++be4 leaf)):=by
  show 83+256*(zi seed+115792089237316195423570985008687907853269984665640564039457584007913129639936*o4K leaf)=83+256*zi (seed++be4 leaf);rw [wG,b,VJ]
 have k:=De n 9 (83::(seed++be4 leaf)) (by simp [b,be4])
 have p:(83::(seed++be4 leaf)).take (4*9)=83::(seed++(be4 leaf).take 3):=by
  rw [show 4*9=35+1 from rfl,List.take_succ_cons,List.take_append,List.take_of_length_le (l:=seed) (by omega),b]
 rw [p,a]at k;unfold zbt;rw [e,zH,zH,k]
 have ec:∀c:Nat,Nat.mul (pv n fun _=>1) c=pv n fun _=>c:=fun c=>by
  show(pv n fun _=>1)*c=_;rw [qw]; simp only [Nat.one_mul]
 have eT:pkB (2^(64*n)) (wQ vt n)=Nat.add (Nat.add (pv n fun i=>leaf%256*16777216+i%256*65536) (Nat.mul (pv n fun _=>1) 32768)) (Nat.shiftLeft (Nat.mul (pv n fun _=>1) 304) (64*n*6)):=by
  rw [ec,ec,Kd];show _=_+_+2^(64*n*6)*_;rw [uk,Nat.pow_mul 2 (64*n) 6,<-zap (2^(64*n))];simp only [wQ,vt,List.map_cons,List.map_nil,pkB,Km]
 rw [<-eT,Kd]
 have eW:(pkB (2^(64*n)) (wQ (ws.map fun w _=>w) n))+2^(64*n*9)*pkB (2^(64*n)) (wQ vt n)=pkB (2^(64*n)) (wQ ((ws.map fun w (_:Nat)=>w)++vt) n):=by
  rw [show wQ ((ws.map fun w (_:Nat)=>w)++vt) n=wQ (ws.map fun w _=>w) n++wQ vt n from List.map_append,QA];rw [show(wQ (ws.map fun w (_:Nat)=>w) n).length=9 by simp [wQ,g],Nat.pow_mul 2 (64*n) 9]
 have eW:Nat.add (pkB (2^(64*n)) (wQ (ws.map fun w _=>w) n)) (2^(64*n*9)*pkB (2^(64*n)) (wQ vt n))=_:=eW;rw [eW];have m:=cK n ((ws.map fun w (_:Nat)=>w)++vt) (by simp [vt,g]) o K
 have eL:∀i,((ws.map fun w (_:Nat)=>w)++vt).map (fun v=>v i)=ws++WB leaf (i%256):=fun i=>by
  rw [List.map_append,Jy]; rfl
 simp only [eL]at m;exact m
def s5 {R:Type} {seed:List UInt8} (a:seed.length=32) (leaf:Nat) (K:Nat->Nat->Nat->Nat->R):
  ∃A B C D,W32 A∧W32 B∧W32 C∧W32 D∧(∀i,pT (A i) (B i) (C i) (D i)=WY seed leaf (i%256))∧zbf (zi seed) leaf (pv 35 fun i=>leaf%256*16777216+i%256*65536) K=K (pv 35 A) (pv 35 B) (pv 35 C) (pv 35 D):=by
 have h:=sq 35 a leaf K;unfold zbf;rw [mM,mO,mB];exact h
def UH {f g:Nat->List UInt8} {n:Nat} (h:∀i,i<n->f i=g i):(List.range n).flatMap f=(List.range n).flatMap g:=by
 have:(List.range n).map f=(List.range n).map g:=List.map_congr_left fun i a=>h i (List.mem_range.1 a);rw [List.flatMap_def,List.flatMap_def,this]
def KP {f:Nat->List UInt8} {k:Nat} (h:∀i,(f i).length=k):∀n,((List.range n).flatMap f).length=k*n
 |0=>rfl
 |n+1=>by rw [List.range_succ,List.flatMap_append,iO,KP h n,List.flatMap_cons,List.flatMap_nil,List.append_nil,h,Nat.mul_succ]
end Go.K
end
section
namespace Go.K
open Go Go.Abs
def natOf_ex:∀(n s:Nat),s<256^n->∃t:List UInt8,t.length=n∧zi t=s
 |0,s,h=>⟨[],rfl,by simp at h; subst h; rfl⟩
 | n+1,s,h=>by
  obtain⟨t,a,b⟩:=natOf_ex n (s/256) (by rw [Nat.pow_succ]at h; omega);refine⟨UInt8.ofNat (s%256)::t,by simp [a], ?_⟩;show(UInt8.ofNat (s%256)).toNat+256*zi t=s;rw [UInt8.toNat_ofNat',b]; omega
noncomputable def tF (l:List KV):Nat->Nat->Nat->(Nat->Nat->Nat->QR)->QR:=
 List.rec (motive:=fun _=>Nat->Nat->Nat->(Nat->Nat->Nat->QR)->QR) (fun k L N K=>K k L N) (fun v _ ih k L N K=>v.onStr (fun n s=>zq (Nat.blt s (Nat.pow 256 n)) (nfc (Nat.add L n) fun L'=>nfc (Nat.add N (Nat.mul (Nat.pow 256 L) s)) fun N'=>ih (Nat.succ k) L' N' K) none) none) l
def P4 {K:Nat->Nat->Nat->QR} {r:KV×KH}:∀ {l:List KV} {k L N:Nat},tF l k L N K=some r->∃es:List (List UInt8),es.length=l.length∧(∀(i:Nat) (s:List UInt8),es[i]? =some s->l[i]? =some (.str s.length (zi s)))∧K (k+l.length) (L+es.flatten.length) (N+256^L*zi es.flatten)=some r
 | [],k,L,N,h=>⟨[],rfl,fun i s e=>by simp at e,by
  have h:K k L N=some r:=h
  simpa [zi] using h⟩
 | v ::l,k,L,N,h=>by
  have h:v.onStr (fun n s=>zq (Nat.blt s (Nat.pow 256 n)) (nfc (Nat.add L n) fun L'=>nfc (Nat.add N (Nat.mul (Nat.pow 256 L) s)) fun N'=>tF l (Nat.succ k) L' N' K) none) none=some r:=h;cases v<;>first|(cases h; done)|skip
  rename_i n s _;have h:zq (Nat.blt s (Nat.pow 256 n)) (nfc (Nat.add L n) fun L'=>nfc (Nat.add N (Nat.mul (Nat.pow 256 L) s)) fun N'=>tF l (Nat.succ k) L' N' K) none=some r:=h;rw [zo]at h;split at h
  ·rename_i a;have a:s<256^n:=iD a;obtain⟨t,b,c⟩:=natOf_ex n s a;rw [zH,zH]at h;obtain⟨es,g,j,m⟩:=P4 h;refine⟨t::es,by simp [g], ?_, ?_⟩
   ·intro i x f
    cases i with
    |zero=>simp at f; subst f; simp [b,c]
    |succ i=>simpa using j i x (by simpa using f)
   ·subst b c;rw [List.flatten_cons,iO,wG,List.length_cons];have o:k+(l.length+1)=Nat.succ k+l.length:=by omega
    have p:L+(t.length+es.flatten.length)=Nat.add L t.length+es.flatten.length:=(Nat.add_assoc _ _ _).symm
    have q:N+256^L*(zi t+256^t.length*zi es.flatten)=Nat.add N (Nat.mul (Nat.pow 256 L) (zi t))+256^(Nat.add L t.length)*zi es.flatten:=by
     show _=N+256^L*zi t+256^(L+t.length)*zi es.flatten;rw [Nat.mul_add,Nat.pow_add,Nat.mul_assoc,Nat.add_assoc]
    rw [o,p,q]; exact m
  ·cases h
noncomputable def UU (short:Bool) (args:List KV) (h:KH):Option (KV×KH):=match args with
 | [.sl id off len c 1]=>match h.get id with
  |some (.cells ro cs)=>zq (Nat.blt len 90000) (tF ((cs.drop off).take len) 0 0 0 fun k L N=>zq (Nat.beq k len) (zq (Nat.blt L 90000) (zbK L N fun d=>zq short (nfc (Nat.mod d (Nat.pow 256 16)) fun d=>some (.str 16 d,h)) (some (.str 32 d,h))) none) none) none
  |_=>none
 |_=>none
def Vj {P:Program} {f:FuncId} {short:Bool} (r:∀a:List (List UInt8),a.length<90000->a.flatten.length<90000->xO P (fun _=> []) f [.sl 1 (a.map fun s=> [V.str s]) .none] ⟨[],[]⟩ fun u _=>u= .str (if short then(sha a.flatten).take 16 else sha a.flatten))
  {args:List KV} {h h':KH} {v:KV} (e:UU short args h=some (v,h')):KCall P f args h v h':=by
 unfold UU at e;split at e
 ·rename_i id n len c;split at e
  ·rename_i ro w l;rw [zo]at e;split at e
   ·rename_i g;have g:len<90000:=iD g;obtain⟨j,z,q,b⟩:=P4 e;simp only [zo,Nat.zero_add,Nat.pow_zero,Nat.one_mul]at b;split at b
    ·rename_i o;have o:=iE o;split at b
     ·rename_i k;have k:j.flatten.length<90000:=iD k;rw [sK]at b
      have key:=KCall.ofA (args:= [.sl id n len c 1]) (h:=h) (r j (by omega) k) rfl (fun i x y m p=>by
       cases i with
       |succ i=>simp at m
       | zero=>
        simp only [List.getElem?_cons_zero,iL]at m p;subst m p;refine .strs l (by omega) fun i s t=> ?_;have:=q i s t;rw [List.getElem?_take]at this;split at this
        ·rwa [List.getElem?_drop]at this
        ·cases this)
      cases short with
      | false=>
       simp only [iT,if_false,iL,iW]at b key;obtain⟨rfl,rfl⟩:=b;exact key
      | true=>
       simp only [if_true,zH,iL,iW]at b key;obtain⟨rfl,rfl⟩:=b
       have:V.toK (.str ((sha j.flatten).take 16))= .str 16 (Nat.mod (zi (sha j.flatten)) (Nat.pow 256 16)):=by
        show KV.str _ _=_;rw [Yz]; rfl
       rw [this]at key; exact key
     ·cases b
    ·cases b
   ·cases e
  ·cases e
 ·cases e
section
variable {R:Type}
noncomputable def Dk (n M M8 O b b5 b9 b14 b15 BM T C04 CL5:Nat) (ps:List Nat):Nat->Nat->Nat->Nat->(List Nat->R)->R:=
 List.rec (motive:=fun _=>Nat->Nat->Nat->Nat->(List Nat->R)->R) (fun A B C D K=>nfc (outP n A B C D) fun o=>K [o]) (fun p _ ih A B C D K=>nfc (outP n A B C D) fun o=>
  Pp M M8 O b b5 b9 b14 b15 BM T C04 CL5 p A B C D fun a b c d=>ih a b c d fun l=>K (o::l)) ps
end
def cf {R:Type} (n:Nat) {id:List UInt8} (g:id.length=16) {leaf:Nat}:∀(m a:Nat) (A B C D:Nat->Nat) (K:List Nat->R),a+m<256->W32 A->W32 B->W32 C->W32 D ->
  ∃L:List Nat,L.length=m+1∧(∀j,j<=m->L[j]? =some (zi ((List.range n).flatMap fun i=>bD id leaf (i%256) a j (pT (A i) (B i) (C i) (D i))))) ∧
  Dk n (pv n fun _=>4294967295) (pv n fun _=>255) (pv n fun _=>1) (64*n) (64*n*5) (64*n*9) (64*n*14) (64*n*15) (2^(64*n)-1) (Nat.add (pv n fun _=>128) (Nat.shiftLeft (pv n fun _=>312) (64*n*6))) (pkB (2^(64*n)) (wQ ((z6 (67::(id++(be4 leaf).take 3))).map fun w _=>w) n)) (pv n fun i=>leaf%256*16777216+i%256*65536) (List.range' a m) (pv n A) (pv n B) (pv n C) (pv n D) K=K L
 | 0,a,A,B,C,D,K,E,h,k,o,p=>by
  refine⟨[zi ((List.range n).flatMap fun i=>pT (A i) (B i) (C i) (D i))],rfl,fun j F=> ?_, ?_⟩
  ·obtain rfl:j=0:=by omega
   rfl
  ·show nfc _ _=_;rw [zH,Kc n h k o p]
 | m + 1,a,A,B,C,D,K,E,h,k,o,p=>by
  have G:(z6 (67::(id++(be4 leaf).take 3))).length=5:=by
   match id,g with
   | [X,Y,Z,x3,x4,x5,x6,x7,x8,x9,H,I,P,Q,S,U],_=>rfl
  let N:Nat->H8:=fun i=>wq.block (z6 (67::(id++(be4 leaf).take 3))++pF leaf (i%256) a (A i) (B i) (C i) (D i))
  have q:∀i,(N i).lt:=fun i=>bI _ _
  obtain ⟨L,x,y,z⟩:=cf n (leaf:=leaf) g m (a+1) (fun i=>(N i).a) (fun i=>(N i).b) (fun i=>(N i).c) (fun i=>(N i).d) (fun l=>K (zi ((List.range n).flatMap fun i=>pT (A i) (B i) (C i) (D i))::l)) (by omega)
   (fun i=>(q i).1) (fun i=>(q i).2.1) (fun i=>(q i).2.2.1) (fun i=>(q i).2.2.2.1)
  refine⟨zi ((List.range n).flatMap fun i=>pT (A i) (B i) (C i) (D i))::L,by simp [x],fun j F=> ?_, ?_⟩
  ·cases j with
   |zero=>rfl
   | succ j=>
    rw [List.getElem?_cons_succ,y j (by omega)];refine congrArg some (congrArg zi (UH fun i W=> ?_));rw [bD,lW g (Nat.mod_lt _ (by decide)) (by omega) (h i) (k i) (o i) (p i)]
  ·rw [List.range'_succ]
   have step:∀M M8 O b r s e f BM T C04 CL5 A B C D,Dk n M M8 O b r s e f BM T C04 CL5 (a::List.range' (a+1) m) A B C D K=
    Pp M M8 O b r s e f BM T C04 CL5 a A B C D fun t v c d=>Dk n M M8 O b r s e f BM T C04 CL5 (List.range' (a+1) m) t v c d fun l=>K (outP n A B C D::l):=by
    intros
    unfold Dk;dsimp only;simp only [zH]
   rw [step,Kc n h k o p,n8 n G (dl _) (fun i=>Nat.mod_lt i (by decide)) (by omega) h k o p];exact z
noncomputable def lv (id seed leaf:Nat):List Nat:=nfc (clK leaf) fun CL5=>nfc (idK id leaf) fun C04=>zbf seed leaf CL5 fun A B C D=>
 nfc (Nat.add (Nat.mul O35 128) (Nat.shiftLeft (Nat.mul O35 312) 13440)) fun T=>Dk 35 M35 M8 O35 2240 11200 20160 31360 33600 n9 T C04 CL5 [0,1,2,3,4,5,6,7,8,9,10,11,12,13,14] A B C D fun l=>l
def Zb (id seed:List UInt8) (leaf j c:Nat):List UInt8:=bD id leaf c 0 j (WY seed leaf c)
def Kh {id seed:List UInt8} (a:id.length=16) (q:seed.length=32) (leaf:Nat):∀j,j<=15->(lv (zi id) (zi seed) leaf)[j]? =some (zi ((List.range 35).flatMap fun c=>Zb id seed leaf j c)):=by
 unfold lv;rw [zH,zH,zbP];obtain⟨A,B,C,D,g,h,k,m,n,o⟩:=s5 q leaf (fun A B C D=>nfc (Nat.add (Nat.mul O35 128) (Nat.shiftLeft (Nat.mul O35 312) 13440)) fun T=>Dk 35 M35 M8 O35 2240 11200 20160 31360 33600 n9 T (idK (zi id) leaf) (pv 35 fun i=>leaf%256*16777216+i%256*65536) [0,1,2,3,4,5,6,7,8,9,10,11,12,13,14] A B C D fun l=>l);rw [o,zH];obtain⟨L,r,b,f⟩:=cf 35 (leaf:=leaf) a 15 0 A B C D (fun l=>l) (by omega) g h k m
 have ec:∀c:Nat,Nat.mul (pv 35 fun _=>1) c=pv 35 fun _=>c:=fun c=>by
  show(pv 35 fun _=>1)*c=_;rw [qw]; simp only [Nat.one_mul]
 have e:Dk 35 M35 M8 O35 2240 11200 20160 31360 33600 n9 (Nat.add (Nat.mul O35 128) (Nat.shiftLeft (Nat.mul O35 312) 13440)) (idK (zi id) leaf) (pv 35 fun i=>leaf%256*16777216+i%256*65536) [0,1,2,3,4,5,6,7,8,9,10,11,12,13,14] (pv 35 A) (pv 35 B) (pv 35 C) (pv 35 D) (fun l=>l)=L:=by
  rw [zbB a,mM,m8,mO,mB,ec,ec];exact f
 intro j p;rw [e,b j p];refine congrArg some (congrArg zi (UH fun i s=> ?_));rw [n i,Nat.mod_eq_of_lt (by omega)];rfl
def Jj {f:Nat->List UInt8} {k:Nat} (h:∀i,(f i).length=k):∀(n c:Nat),c<n->(((List.range n).flatMap f).drop (k*c)).take k=f c
 |0,c,b=>absurd b (Nat.not_lt_zero c)
 | n+1,c,b=>by
  rw [List.range_succ,List.flatMap_append,List.flatMap_cons,List.flatMap_nil,List.append_nil];have e:=KP h n;rcases iS c n with a|a
  ·have:k*c+k<=k*n:=by rw [<-Nat.mul_succ]; exact Nat.mul_le_mul_left k a
   rw [List.drop_append_of_le_length (by omega),List.take_append_of_le_length (by rw [List.length_drop]; omega)];exact Jj h n c a
  ·obtain rfl:c=n:=by omega
   rw [List.drop_append,List.drop_of_length_le (by omega),e,Nat.sub_self,List.drop_zero,List.nil_append,List.take_of_length_le (by rw [h]; exact iP _)]
def g9 (id seed:List UInt8) (leaf j c:Nat):(Zb id seed leaf j c).length=16:=by
 have key:∀(n p:Nat) (v:List UInt8),v.length=16->(bD id leaf c p n v).length=16:=fun n=>by
  induction n with
  |zero=>exact fun p v h=>h
  |succ n a=>exact fun p v h=>a _ _ rfl
 exact key _ _ _ rfl
def JI (id:List UInt8) (leaf c:Nat):∀(i p j:Nat) (v:List UInt8),bD id leaf c p (i+j) v=bD id leaf c (p+i) j (bD id leaf c p i v)
 |0,p,j,v=>by rw [Nat.zero_add]; rfl
 |i+1,p,j,v=>by rw [show i+1+j=(i+j)+1 by omega,bD,JI id leaf c i (p+1) j,show p+1+i=p+(i+1)by omega]; rfl
def Pk (id seed:List UInt8) (leaf c i j:Nat):bD id leaf c i j (Zb id seed leaf i c)=Zb id seed leaf (i+j) c:=by
 unfold Zb;rw [JI id leaf c i 0 j,Nat.zero_add]
noncomputable def atK (l:List Nat) (j:Nat) (K:Nat->QR):QR:=List.rec (motive:=fun _=>Nat->QR) (fun _=>none) (fun x _ ih j=>Nat.rec (motive:=fun _=>QR) (K x) (fun j _=>ih j) j) l j
def YM {K:Nat->QR} {r:KV×KH}:∀ {l:List Nat} {j:Nat},atK l j K=some r->∃x,l[j]? =some x∧K x=some r
 | [],j,h=>by cases h
 |x::l,0,h=>⟨x,rfl,h⟩
 | x::l,j+1,h=>by
  obtain⟨y,a,b⟩:=YM (l:=l) (j:=j) h;exact⟨y,by simpa using a,b⟩
noncomputable def Kr (x c:Nat):Nat:=Nat.land (Nat.shiftRight x (Nat.mul 128 c)) 340282366920938463463374607431768211455
def X6 {f:Nat->List UInt8} (h:∀i,(f i).length=16) {c:Nat} (a:c<35):Kr (zi ((List.range 35).flatMap f)) c=zi (f c):=by
 show(zi ((List.range 35).flatMap f) >>> (128*c)) &&& 340282366920938463463374607431768211455=_;have e:(340282366920938463463374607431768211455:Nat)=2^128-1:=by decide
 rw [e,Nat.and_two_pow_sub_one_eq_mod,show 128*c=8*(16*c)by omega];have:=m9 ((List.range 35).flatMap f) (16*c);have this:zi ((List.range 35).flatMap f) >>> (8*(16*c))=zi (((List.range 35).flatMap f).drop (16*c)):=this;rw [this,show(2:Nat)^128=256^16 by decide,<-Yz,Jj h 35 c a]
noncomputable def Dq (t:List (Nat×Nat)) (id:Nat) (K:Nat->QR):QR:=List.rec (motive:=fun _=>QR) none (fun p _ ih=>Prod.rec (motive:=fun _=>QR) (fun i s=>zq (Nat.beq i id) (K s) ih) p) t
def WK {id:Nat} {K:Nat->QR} {r:KV×KH}:∀ {t:List (Nat×Nat)},Dq t id K=some r->∃s,(id,s)∈t∧K s=some r
 | [],h=>by cases h
 | (i,s)::t,h=>by
  have h:zq (Nat.beq i id) (K s) (Dq t id K)=some r:=h;rw [zo]at h;split at h
  ·rename_i c;exact⟨s,by rw [iE c]; exact .head _,h⟩
  ·obtain⟨s,a,b⟩:=WK h;exact⟨s, .tail _ a,b⟩
noncomputable def zbu (t:List (Nat×Nat)) (seed:Nat) (K:Nat->QR):QR:=List.rec (motive:=fun _=>QR) none (fun p _ ih=>Prod.rec (motive:=fun _=>QR) (fun i s=>zq (Nat.beq s seed) (K i) ih) p) t
def Jv {seed:Nat} {K:Nat->QR} {r:KV×KH}:∀ {t:List (Nat×Nat)},zbu t seed K=some r->∃i,(i,seed)∈t∧K i=some r
 | [],h=>by cases h
 | (i,s)::t,h=>by
  have h:zq (Nat.beq s seed) (K i) (zbu t seed K)=some r:=h;rw [zo]at h;split at h
  ·rename_i c;exact⟨i,by rw [iE c]; exact .head _,h⟩
  ·obtain⟨s,a,b⟩:=Jv h;exact⟨s, .tail _ a,b⟩
def Ws (t:List (Nat×Nat)):Prop:=∀p∈t,p.1<256^16∧p.2<256^32
noncomputable def Qd {R:Type} (i:Int) (K:Nat->R) (F:R):R:=Int.rec (motive:=fun _=>R) (fun n=>K n) (fun _=>F) i
def jT {i:Int} {K:Nat->Option (KV×KH)} {r:KV×KH} (h:Qd i K none=some r):∃n:Nat,i=(n:Int)∧K n=some r:=by
 cases i with
 |ofNat n=>exact⟨n,rfl,h⟩
 |negSucc n=>cases h
noncomputable def zaL (t:List (Nat×Nat)) (id leaf c a b v:Nat) (h:KH):QR:=
 Dq t id fun seed=>zq (Nat.blt c 35) (zq (Nat.ble a b) (zq (Nat.ble b 15) (atK (lv id seed leaf) a fun x=>zq (Nat.beq (Kr x c) v) (atK (lv id seed leaf) b fun y=>nfc (Kr y c) fun d=>some (.str 16 d,h)) none) none) none) none
noncomputable def J0 (t:List (Nat×Nat)) (args:List KV) (h:KH):Option (KV×KH):=match args with
 | [.str n id, .int k1 leaf, .int k2 c, .int k3 a, .int k4 b, .str m v]=>match k1,k2,k3,k4 with
  | .i64, .i64, .i64, .i64=>zq (Nat.beq n 16) (zq (Nat.beq m 16) (Qd leaf (fun leaf=>Qd c (fun c=>Qd a (fun a=>Qd b (fun b=>zaL t id leaf c a b v h) none) none) none) none) none) none
  |_,_,_,_=>none
 |_=>none
noncomputable def tr (t:List (Nat×Nat)) (args:List KV) (h:KH):Option (KV×KH):=match args with
 | [.str m seed, .int k1 leaf, .int k2 c]=>match k1,k2 with
  | .i64, .i64=>zq (Nat.beq m 32) (Qd leaf (fun leaf=>Qd c (fun c=>zbu t seed fun id=>zq (Nat.blt c 35) (atK (lv id seed leaf) 0 fun x=>nfc (Kr x c) fun d=>some (.str 16 d,h)) none) none) none) none
  |_,_=>none
 |_=>none
def BU {P:Program} {f:FuncId} {t:List (Nat×Nat)} (X:Ws t) (T:∀(id:List UInt8) (leaf c a j:Nat) (v:List UInt8),id.length=16->v.length=16->a+j<1000->xO P (fun _=> []) f [.str id, .int .i64 leaf, .int .i64 c, .int .i64 a, .int .i64 ((a+j:Nat):Int), .str v] ⟨[],[]⟩ fun u _=>u= .str (bD id leaf c a j v))
  {args:List KV} {h h':KH} {r:KV} (e:J0 t args h=some (r,h')):KCall P f args h r h':=by
 unfold J0 at e;split at e
 ·rename_i n id Y leaf Z c k3 a k4 b m v;split at e
  ·simp only [zo]at e;split at e
   ·rename_i I;split at e
    ·rename_i H;have I:=iE I;have H:=iE H;subst I H;obtain⟨leaf,q,M⟩:=jT e;subst q; clear e;obtain⟨c,q,N⟩:=jT M;subst q; clear M;obtain⟨a,q,O⟩:=jT N;subst q; clear N;obtain⟨b,q,F⟩:=jT O;subst q; clear O;unfold zaL at F;obtain⟨seed,W,l⟩:=WK F;clear F;obtain⟨U,K⟩:=X _ W;obtain⟨idl,o,z⟩:=natOf_ex 16 id U;obtain⟨sl,A,B⟩:=natOf_ex 32 seed K;subst z B;simp only [zo]at l;split at l
     ·rename_i C;have C:c<35:=iD C;split at l
      ·rename_i w;have w:=iD w;split at l
       ·rename_i Q;have Q:=iD Q;obtain⟨x,g,s⟩:=YM l;clear l;rw [Kh o A leaf a (by omega)]at g;have g:=(Option.some.inj g).symm;subst g;rw [X6 (fun i=>g9 _ _ _ _ i) C]at s;split at s
        ·rename_i L;have L:=(iE L).symm;subst L;obtain⟨y,k,G⟩:=YM s;clear s;rw [Kh o A leaf b (by omega)]at k;have k:=(Option.some.inj k).symm;subst k;rw [X6 (fun i=>g9 _ _ _ _ i) C,zH]at G;simp only [iL,iW]at G;obtain⟨S,E⟩:=G;subst S E;have p:=g9 idl sl leaf a c
         have key:=KCall.ofA (args:= [.str 16 (zi idl), .int .i64 leaf, .int .i64 c, .int .i64 a, .int .i64 ((a+(b-a):Nat):Int), .str 16 (zi (Zb idl sl leaf a c))]) (h:=h) (T idl leaf c a (b-a) (Zb idl sl leaf a c) o p (by omega)) rfl (fun i x y g k=>by
          match i with
          | 0=>
           simp only [List.getElem?_cons_zero,iL]at g k;subst g k;have:=KA.str (h:=h) idl
           rwa [o]at this
          |1=>simp only [List.getElem?_cons_zero,List.getElem?_cons_succ,iL]at g k; subst g k; exact .int _ _
          |2=>simp only [List.getElem?_cons_zero,List.getElem?_cons_succ,iL]at g k; subst g k; exact .int _ _
          |3=>simp only [List.getElem?_cons_zero,List.getElem?_cons_succ,iL]at g k; subst g k; exact .int _ _
          |4=>simp only [List.getElem?_cons_zero,List.getElem?_cons_succ,iL]at g k; subst g k; exact .int _ _
          | 5=>
           simp only [List.getElem?_cons_zero,List.getElem?_cons_succ,iL]at g k;subst g k;have:=KA.str (h:=h) (Zb idl sl leaf a c)
           rwa [p]at this
          |i+6=>simp at g)
         rw [Pk,show a+(b-a)=b by omega]at key
         have ev:V.toK (.str (Zb idl sl leaf b c))= .str 16 (zi (Zb idl sl leaf b c)):=by
          show KV.str _ _=_;rw [g9]
         rw [ev]at key;exact key
        ·cases s
       ·cases l
      ·cases l
     ·cases l
    ·cases e
   ·cases e
  ·cases e
 ·cases e
def tE {P:Program} {f:FuncId} {t:List (Nat×Nat)} (G:Ws t) (C:∀(seed:List UInt8) (leaf c:Nat),seed.length=32->xO P (fun _=> []) f [.str seed, .int .i64 leaf, .int .i64 c] ⟨[],[]⟩ fun u _=>u= .str (WY seed leaf c))
  {args:List KV} {h h':KH} {r:KV} (e:tr t args h=some (r,h')):KCall P f args h r h':=by
 unfold tr at e;split at e
 ·rename_i m seed H leaf I c;split at e
  ·simp only [zo]at e;split at e
   ·rename_i v;have v:=iE v;subst v;obtain⟨leaf,o,z⟩:=jT e;subst o; clear e;obtain⟨c,o,A⟩:=jT z;subst o; clear z;obtain⟨id,F,l⟩:=Jv A;clear A;obtain⟨E,w⟩:=G _ F;obtain⟨idl,s,j⟩:=natOf_ex 16 id E;obtain⟨sl,b,k⟩:=natOf_ex 32 seed w;subst j k;split at l
    ·rename_i q;have q:c<35:=iD q;obtain⟨x,a,n⟩:=YM l;clear l;rw [Kh s b leaf 0 (by omega)]at a;rw [<-Option.some.inj a]at n;rw [X6 (fun i=>g9 _ _ _ _ i) q,zH]at n;simp only [iL,iW]at n;obtain⟨B,p⟩:=n;subst B p
     have key:=KCall.ofA (args:= [.str 32 (zi sl), .int .i64 leaf, .int .i64 c]) (h:=h) (C sl leaf c b) rfl (fun i x y a g=>by
      match i with
      | 0=>
       simp only [List.getElem?_cons_zero,iL]at a g;subst a g;have:=KA.str (h:=h) sl
       rwa [b]at this
      |1=>simp only [List.getElem?_cons_zero,List.getElem?_cons_succ,iL]at a g; subst a g; exact .int _ _
      |2=>simp only [List.getElem?_cons_zero,List.getElem?_cons_succ,iL]at a g; subst a g; exact .int _ _
      |i+3=>simp at a)
     have ev:V.toK (.str (WY sl leaf c))= .str 16 (zi (Zb idl sl leaf 0 c)):=by
      show KV.str (WY sl leaf c).length _=_;rw [show(WY sl leaf c).length=16 from rfl]; rfl
     rw [ev]at key;exact key
    ·cases l
   ·cases e
  ·cases e
 ·cases e
end Go.K
end
