/- The program's types and functions in the abstract reading, its records as Lean structures, and the contracts of library functions. -/
import Derived.Test.YthfhicembdpjpaaGreatDoorS
set_option linter.all false
section
namespace Go.Abs
open Go Go.Proofs
def ty0:TI:=⟨true,1,0, .flat,(.tuple []),true,[],[]⟩
def ty2:TI:=⟨true,1,8,(.int .i64),(.int .i64 0),true,[],[]⟩
def ty3:TI:=⟨true,1,8,(.int .i64),(.int .i64 0),true,[],[]⟩
def ty4:TI:=⟨true,1,1, .bool,(.bool false),true,[],[]⟩
def ty5:TI:=⟨true,1,1,(.int .u8),(.int .u8 0),true,[],[]⟩
def ty9:TI:=⟨true,1,16, .str,(.str []),true,[],[]⟩
def fX:TI:=⟨true,1,8,(.int .u64),(.int .u64 0),true,[],[]⟩
def lJ:TI:=⟨true,1,8,(.ptr 499), .nilp,true,[],[]⟩
def me:TI:=⟨true,1,4,(.int .i32),(.int .i32 0),true,[],[]⟩
def hG:TI:=⟨true,1,24,(.slice 3 1 8), .nilsl,true,[],[]⟩
def ld:TI:=⟨true,1,8,(.ptr 66), .nilp,true,[],[]⟩
def lD:TI:=⟨true,1,24,(.slice 9 1 16), .nilsl,true,[],[]⟩
def lh:TI:=⟨true,1,24,(.slice 22 1 24), .nilsl,true,[],[]⟩
def lv:TI:=⟨true,1,24,(.slice 44 5 80), .nilsl,true,[],[]⟩
def lK:TI:=⟨true,1,24,(.slice 63 50 632), .nilsl,true,[],[]⟩
def l7:TI:=⟨true,1,8,(.int .i64),(.int .i64 0),true,[],[]⟩
def f0:TI:=⟨true,1,0, .flat,(.tuple [.nilsl, .nilsl,(.int .i64 0),(.int .i64 0)]),true,[],[]⟩
def ly:TI:=⟨true,1,24,(.slice 83 1 24), .nilsl,true,[],[]⟩
def lg:TI:=⟨true,1,24,(.struct [(0,1)]),(.agg [.nilsl]),true,[37],[]⟩
def hU:TI:=⟨true,1,24,(.struct [(0,1)]),(.agg [.nilsl]),true,[37],[]⟩
def lA:TI:=⟨true,1,24,(.slice 118 4 64), .nilsl,true,[],[]⟩
def lB:TI:=⟨true,5,80,(.struct [(0,1),(1,1),(2,1),(3,1),(4,1)]),(.agg [.nilsl,(.str []),(.int .i64 0),(.int .i64 0), .nilsl]),true,[39,9,3,3,42],[]⟩
def fY:TI:=⟨true,5,80,(.struct [(0,1),(1,1),(2,1),(3,1),(4,1)]),(.agg [.nilsl,(.str []),(.int .i64 0),(.int .i64 0), .nilsl]),true,[39,9,3,3,42],[]⟩
def lr:TI:=⟨true,1,0, .flat,(.tuple [(.str []),(.int .i64 0)]),true,[],[]⟩
def lQ:TI:=⟨true,1,24,(.slice 5 1 1), .nilsl,true,[],[]⟩
def lI:TI:=⟨true,1,24,(.slice 220 2 32), .nilsl,true,[],[]⟩
def lZ:TI:=⟨true,1,24,(.slice 213 3 48), .nilsl,true,[],[]⟩
def hO:TI:=⟨true,2,48,(.struct [(0,1),(1,1)]),(.agg [.nilsl, .nilsl]),true,[49,49],[]⟩
def f9:TI:=⟨true,2,48,(.struct [(0,1),(1,1)]),(.agg [.nilsl, .nilsl]),true,[49,49],[]⟩
def f8:TI:=⟨true,1,24,(.slice 123 3 40), .nilsl,true,[],[]⟩
def lu:TI:=⟨true,19,304,(.struct [(0,1),(1,1),(2,1),(3,1),(4,1),(5,1),(6,1),(7,1),(8,1),(9,1),(10,1),(11,1),(12,2),(14,1),(15,1),(16,1),(17,1),(18,1)]),(.agg [(.bool false),(.bool false),(.int .i64 0),(.int .i64 0), .nilsl, .nilsl, .nilsl,(.int .i64 0),(.int .i64 0),(.int .i64 0), .nilsl,(.bool false), .nilsl, .nilsl,(.str []),(.str []), .nilsl, .nilsl, .nilsl]),true,[4,4,3,3,25,25,48,3,3,3,49,4,51,9,9,42,42,52],[]⟩
def l8:TI:=⟨true,19,304,(.struct [(0,1),(1,1),(2,1),(3,1),(4,1),(5,1),(6,1),(7,1),(8,1),(9,1),(10,1),(11,1),(12,2),(14,1),(15,1),(16,1),(17,1),(18,1)]),(.agg [(.bool false),(.bool false),(.int .i64 0),(.int .i64 0), .nilsl, .nilsl, .nilsl,(.int .i64 0),(.int .i64 0),(.int .i64 0), .nilsl,(.bool false), .nilsl, .nilsl,(.str []),(.str []), .nilsl, .nilsl, .nilsl]),true,[4,4,3,3,25,25,48,3,3,3,49,4,51,9,9,42,42,52],[]⟩
def mj:TI:=⟨true,30,400,(.struct [(0,1),(1,1),(2,1),(3,1),(4,19),(23,1),(24,1),(25,1),(26,1),(27,1),(28,1),(29,1)]),(.agg [(.int .i64 0),(.int .i64 0),(.int .i64 0),(.str []),(.bool false),(.bool false),(.int .i64 0),(.int .i64 0), .nilsl, .nilsl, .nilsl,(.int .i64 0),(.int .i64 0),(.int .i64 0), .nilsl,(.bool false), .nilsl, .nilsl,(.str []),(.str []), .nilsl, .nilsl, .nilsl,(.int .i64 0),(.int .i64 0),(.int .i64 0),(.int .i64 0),(.int .i64 0),(.int .i64 0),(.bool false)]),true,[3,3,3,9,54,3,3,3,3,3,3,4],[]⟩
def mh:TI:=⟨true,30,400,(.struct [(0,1),(1,1),(2,1),(3,1),(4,19),(23,1),(24,1),(25,1),(26,1),(27,1),(28,1),(29,1)]),(.agg [(.int .i64 0),(.int .i64 0),(.int .i64 0),(.str []),(.bool false),(.bool false),(.int .i64 0),(.int .i64 0), .nilsl, .nilsl, .nilsl,(.int .i64 0),(.int .i64 0),(.int .i64 0), .nilsl,(.bool false), .nilsl, .nilsl,(.str []),(.str []), .nilsl, .nilsl, .nilsl,(.int .i64 0),(.int .i64 0),(.int .i64 0),(.int .i64 0),(.int .i64 0),(.int .i64 0),(.bool false)]),true,[3,3,3,9,54,3,3,3,3,3,3,4],[]⟩
def lR:TI:=⟨true,2,32,(.struct [(0,1),(1,1)]),(.agg [(.int .i64 0), .nilsl]),true,[3,22],[]⟩
def hH:TI:=⟨true,2,32,(.struct [(0,1),(1,1)]),(.agg [(.int .i64 0), .nilsl]),true,[3,22],[]⟩
def lL:TI:=⟨true,1,24,(.slice 228 4 64), .nilsl,true,[],[]⟩
def mg:TI:=⟨true,11,128,(.struct [(0,1),(1,1),(2,1),(3,1),(4,1),(5,1),(6,1),(7,1),(8,1),(9,1),(10,1)]),(.agg [(.int .i64 0),(.str []),(.int .i64 0), .nilsl,(.bool false),(.bool false),(.bool false), .nilsl,(.int .i64 0),(.bool false), .nilsl]),true,[3,9,3,25,4,4,4,49,3,4,59],[]⟩
def mc:TI:=⟨true,11,128,(.struct [(0,1),(1,1),(2,1),(3,1),(4,1),(5,1),(6,1),(7,1),(8,1),(9,1),(10,1)]),(.agg [(.int .i64 0),(.str []),(.int .i64 0), .nilsl,(.bool false),(.bool false),(.bool false), .nilsl,(.int .i64 0),(.bool false), .nilsl]),true,[3,9,3,25,4,4,4,49,3,4,59],[]⟩
def lF:TI:=⟨true,50,632,(.struct [(0,1),(1,1),(2,30),(32,1),(33,1),(34,1),(35,1),(36,2),(38,11),(49,1)]),(.agg [(.int .i64 0),(.int .i64 0),(.int .i64 0),(.int .i64 0),(.int .i64 0),(.str []),(.bool false),(.bool false),(.int .i64 0),(.int .i64 0), .nilsl, .nilsl, .nilsl,(.int .i64 0),(.int .i64 0),(.int .i64 0), .nilsl,(.bool false), .nilsl, .nilsl,(.str []),(.str []), .nilsl, .nilsl, .nilsl,(.int .i64 0),(.int .i64 0),(.int .i64 0),(.int .i64 0),(.int .i64 0),(.int .i64 0),(.bool false),(.bool false),(.int .i64 0),(.int .i64 0),(.int .i64 0),(.int .i64 0), .nilsl,(.int .i64 0),(.str []),(.int .i64 0), .nilsl,(.bool false),(.bool false),(.bool false), .nilsl,(.int .i64 0),(.bool false), .nilsl, .nilsl]),true,[3,3,56,4,3,3,3,58,61,22],[]⟩
def fU:TI:=⟨true,50,632,(.struct [(0,1),(1,1),(2,30),(32,1),(33,1),(34,1),(35,1),(36,2),(38,11),(49,1)]),(.agg [(.int .i64 0),(.int .i64 0),(.int .i64 0),(.int .i64 0),(.int .i64 0),(.str []),(.bool false),(.bool false),(.int .i64 0),(.int .i64 0), .nilsl, .nilsl, .nilsl,(.int .i64 0),(.int .i64 0),(.int .i64 0), .nilsl,(.bool false), .nilsl, .nilsl,(.str []),(.str []), .nilsl, .nilsl, .nilsl,(.int .i64 0),(.int .i64 0),(.int .i64 0),(.int .i64 0),(.int .i64 0),(.int .i64 0),(.bool false),(.bool false),(.int .i64 0),(.int .i64 0),(.int .i64 0),(.int .i64 0), .nilsl,(.int .i64 0),(.str []),(.int .i64 0), .nilsl,(.bool false),(.bool false),(.bool false), .nilsl,(.int .i64 0),(.bool false), .nilsl, .nilsl]),true,[3,3,56,4,3,3,3,58,61,22],[]⟩
def lM:TI:=⟨true,2,32,(.struct [(0,1),(1,1)]),(.agg [.nilsl,(.int .i64 0)]),true,[22,3],[]⟩
def ll:TI:=⟨true,2,32,(.struct [(0,1),(1,1)]),(.agg [.nilsl,(.int .i64 0)]),true,[22,3],[]⟩
def hY:TI:=⟨true,1,0, .flat,(.tuple [(.str []),(.str []),(.bool false)]),true,[],[]⟩
def fR:TI:=⟨true,1,0, .flat,(.tuple [.nilsl,(.bool false)]),true,[],[]⟩
def lG:TI:=⟨true,3,40,(.struct [(0,1),(1,1),(2,1)]),(.agg [(.str []),(.int .i64 0),(.str [])]),true,[9,3,9],[.str,(.int .i64), .str]⟩
def mi:TI:=⟨true,3,40,(.struct [(0,1),(1,1),(2,1)]),(.agg [(.str []),(.int .i64 0),(.str [])]),true,[9,3,9],[.str,(.int .i64), .str]⟩
def hZ:TI:=⟨true,1,24,(.slice 82 3 40), .nilsl,true,[],[]⟩
def lT:TI:=⟨true,1,8,(.ptr 89), .nilp,true,[],[]⟩
def lz:TI:=⟨true,2,32,(.struct [(0,1),(1,1)]),(.agg [.nilp, .nilsl]),true,[87,47],[]⟩
def fV:TI:=⟨true,2,32,(.struct [(0,1),(1,1)]),(.agg [.nilp, .nilsl]),true,[87,47],[]⟩
def l9:TI:=⟨true,1,16, .iface, .niliface,true,[],[]⟩
def lH:TI:=⟨true,1,16, .iface, .niliface,true,[],[]⟩
def lU:TI:=⟨true,1,0, .flat,(.tuple [(.int .i64 0), .niliface]),true,[],[]⟩
def ma:TI:=⟨true,1,8,(.ptr 98), .nilp,true,[],[]⟩
def fW:TI:=⟨true,2,32,(.struct [(0,1),(1,1)]),(.agg [.nilsl,(.bool false)]),true,[25,4],[]⟩
def fS:TI:=⟨true,2,32,(.struct [(0,1),(1,1)]),(.agg [.nilsl,(.bool false)]),true,[25,4],[]⟩
def PY:TI:=⟨true,1,0, .flat,(.tuple [.nilsl,(.int .i64 0)]),true,[],[]⟩
def eY:TI:=⟨true,1,8,(.ptr 114), .nilp,true,[],[]⟩
def fI:TI:=⟨true,3,40,(.struct [(0,1),(1,1),(2,1)]),(.agg [.nilsl,(.int .i64 0),(.bool false)]),true,[25,3,4],[]⟩
def eO:TI:=⟨true,3,40,(.struct [(0,1),(1,1),(2,1)]),(.agg [.nilsl,(.int .i64 0),(.bool false)]),true,[25,3,4],[]⟩
def cD:TI:=⟨true,4,64,(.struct [(0,1),(1,1),(2,1),(3,1)]),(.agg [.nilsl,(.int .i64 0),(.bool false), .nilsl]),true,[49,3,4,39],[]⟩
def fd:TI:=⟨true,4,64,(.struct [(0,1),(1,1),(2,1),(3,1)]),(.agg [.nilsl,(.int .i64 0),(.bool false), .nilsl]),true,[49,3,4,39],[]⟩
def cY:TI:=⟨true,1,0, .flat,(.tuple [.nilsl,(.int .i64 0)]),true,[],[]⟩
def e8:TI:=⟨true,3,40,(.struct [(0,1),(1,1),(2,1)]),(.agg [(.str []),(.bool false),(.str [])]),true,[9,4,9],[.str, .bool, .str]⟩
def cQ:TI:=⟨true,3,40,(.struct [(0,1),(1,1),(2,1)]),(.agg [(.str []),(.bool false),(.str [])]),true,[9,4,9],[.str, .bool, .str]⟩
def eR:TI:=⟨true,3,40,(.struct [(0,1),(1,1),(2,1)]),(.agg [(.int .i64 0),(.int .i64 0), .nilsl]),true,[3,3,25],[]⟩
def ez:TI:=⟨true,3,40,(.struct [(0,1),(1,1),(2,1)]),(.agg [(.int .i64 0),(.int .i64 0), .nilsl]),true,[3,3,25],[]⟩
def fg:TI:=⟨true,5,72,(.struct [(0,1),(1,1),(2,3)]),(.agg [(.int .i64 0), .nilsl,(.int .i64 0),(.int .i64 0), .nilsl]),true,[3,22,126],[]⟩
def cG:TI:=⟨true,5,72,(.struct [(0,1),(1,1),(2,3)]),(.agg [(.int .i64 0), .nilsl,(.int .i64 0),(.int .i64 0), .nilsl]),true,[3,22,126],[]⟩
def fH:TI:=⟨true,1,8,(.int .u64),(.int .u64 0),true,[],[]⟩
def fk:TI:=⟨true,2,24,(.struct [(0,1),(1,1)]),(.agg [(.str []),(.int .i64 0)]),true,[9,30],[.str,(.int .i64)]⟩
def fq:TI:=⟨true,2,24,(.struct [(0,1),(1,1)]),(.agg [(.str []),(.int .i64 0)]),true,[9,30],[.str,(.int .i64)]⟩
def eB:TI:=⟨true,1,0, .flat,(.tuple [(.str []),(.bool false)]),true,[],[]⟩
def PZ:TI:=⟨true,1,8,(.ptr 285), .nilp,true,[],[]⟩
def fJ:TI:=⟨true,1,0, .flat,(.tuple [(.int .i64 0),(.bool false)]),true,[],[]⟩
def cR:TI:=⟨true,1,24,(.slice 184 3 40), .nilsl,true,[],[]⟩
def cZ:TI:=⟨true,2,32,(.struct [(0,1),(1,1)]),(.agg [.nilsl,(.int .i64 0)]),true,[178,3],[]⟩
def cq:TI:=⟨true,2,32,(.struct [(0,1),(1,1)]),(.agg [.nilsl,(.int .i64 0)]),true,[178,3],[]⟩
def ea:TI:=⟨true,3,40,(.struct [(0,1),(1,1),(2,1)]),(.agg [(.int .i64 0),(.str []),(.str [])]),true,[3,9,9],[(.int .i64), .str, .str]⟩
def P1:TI:=⟨true,3,40,(.struct [(0,1),(1,1),(2,1)]),(.agg [(.int .i64 0),(.str []),(.str [])]),true,[3,9,9],[(.int .i64), .str, .str]⟩
def ff:TI:=⟨true,1,0, .flat,(.tuple [.nilsl,(.int .i64 0)]),true,[],[]⟩
def fb:TI:=⟨true,1,8,(.ptr 180), .nilp,true,[],[]⟩
def ep:TI:=⟨true,1,0, .flat,(.tuple [(.int .i64 0),(.int .i64 0)]),true,[],[]⟩
def eF:TI:=⟨true,1,8,(.ptr 56), .nilp,true,[],[]⟩
def ct:TI:=⟨true,1,8,(.ptr 202), .nilp,true,[],[]⟩
def fB:TI:=⟨true,3,40,(.struct [(0,1),(1,1),(2,1)]),(.agg [.nilsl,(.int .i64 0),(.bool false)]),true,[178,3,4],[]⟩
def ee:TI:=⟨true,3,40,(.struct [(0,1),(1,1),(2,1)]),(.agg [.nilsl,(.int .i64 0),(.bool false)]),true,[178,3,4],[]⟩
def eZ:TI:=⟨true,1,0, .flat,(.tuple [.nilsl,(.int .i64 0)]),true,[],[]⟩
def fh:TI:=⟨true,3,48,(.struct [(0,1),(1,1),(2,1)]),(.agg [(.int .i64 0),(.str []), .nilsl]),true,[3,9,39],[]⟩
def fj:TI:=⟨true,3,48,(.struct [(0,1),(1,1),(2,1)]),(.agg [(.int .i64 0),(.str []), .nilsl]),true,[3,9,39],[]⟩
def eG:TI:=⟨true,2,32,(.struct [(0,1),(1,1)]),(.agg [(.str []),(.str [])]),true,[9,9],[.str, .str]⟩
def P9:TI:=⟨true,2,32,(.struct [(0,1),(1,1)]),(.agg [(.str []),(.str [])]),true,[9,9],[.str, .str]⟩
def eq:TI:=⟨true,1,24,(.slice 42 1 24), .nilsl,true,[],[]⟩
def cW:TI:=⟨true,3,40,(.struct [(0,1),(1,1),(2,1)]),(.agg [(.int .i64 0),(.str []),(.str [])]),true,[3,9,9],[(.int .i64), .str, .str]⟩
def fD:TI:=⟨true,3,40,(.struct [(0,1),(1,1),(2,1)]),(.agg [(.int .i64 0),(.str []),(.str [])]),true,[3,9,9],[(.int .i64), .str, .str]⟩
def eN:TI:=⟨true,4,64,(.struct [(0,1),(1,3)]),(.agg [.nilsl,(.int .i64 0),(.str []),(.str [])]),true,[39,226],[]⟩
def ey:TI:=⟨true,4,64,(.struct [(0,1),(1,3)]),(.agg [.nilsl,(.int .i64 0),(.str []),(.str [])]),true,[39,226],[]⟩
def eh:TI:=⟨true,1,24,(.slice 246 2 32), .nilsl,true,[],[]⟩
def cN:TI:=⟨true,2,32,(.struct [(0,1),(1,1)]),(.agg [(.str []),(.str [])]),true,[9,9],[.str, .str]⟩
def fm:TI:=⟨true,2,32,(.struct [(0,1),(1,1)]),(.agg [(.str []),(.str [])]),true,[9,9],[.str, .str]⟩
def eA:TI:=⟨true,1,8,(.ptr 143), .nilp,true,[],[]⟩
def fC:TI:=⟨true,2,32,(.struct [(0,1),(1,1)]),(.agg [.nilsl,(.bool false)]),true,[178,4],[]⟩
def e9:TI:=⟨true,2,32,(.struct [(0,1),(1,1)]),(.agg [.nilsl,(.bool false)]),true,[178,4],[]⟩
def fO:TI:=⟨true,1,0, .flat,(.tuple [.nilsl,(.bool false)]),true,[],[]⟩
def cF:TI:=⟨true,6,48,(.struct [(0,1),(1,1),(2,1),(3,1),(4,1),(5,1)]),(.agg [(.int .i64 0),(.int .i64 0),(.int .i64 0),(.int .i64 0),(.int .i64 0),(.int .i64 0)]),true,[3,3,3,3,3,3],[(.int .i64),(.int .i64),(.int .i64),(.int .i64),(.int .i64),(.int .i64)]⟩
def cP:TI:=⟨true,6,48,(.struct [(0,1),(1,1),(2,1),(3,1),(4,1),(5,1)]),(.agg [(.int .i64 0),(.int .i64 0),(.int .i64 0),(.int .i64 0),(.int .i64 0),(.int .i64 0)]),true,[3,3,3,3,3,3],[(.int .i64),(.int .i64),(.int .i64),(.int .i64),(.int .i64),(.int .i64)]⟩
def cJ:TI:=⟨true,1,0, .flat,(.tuple [(.str []),(.int .i64 0),(.int .i64 0)]),true,[],[]⟩
def eL:TI:=⟨true,1,0, .flat,(.tuple [(.int .i32 0),(.int .i64 0)]),true,[],[]⟩
def fp:TI:=⟨true,1,0, .flat,(.tuple [(.bool false),(.int .i64 0)]),true,[],[]⟩
def P8:TI:=⟨true,1,8,(.int .u64),(.int .u64 0),true,[],[]⟩
def fE:TI:=⟨true,1,24,(.slice 4 1 1), .nilsl,true,[],[]⟩
def cV:TI:=⟨true,1,24,(.struct [(0,1)]),(.agg [.nilsl]),true,[47],[]⟩
def eH:TI:=⟨true,1,24,(.struct [(0,1)]),(.agg [.nilsl]),true,[47],[]⟩
def eW:TI:=⟨true,1,1,(.int .i8),(.int .i8 0),true,[],[]⟩
def cA:TI:=⟨true,12,96,(.arr 12 1),(.agg [(.int .i64 0),(.int .i64 0),(.int .i64 0),(.int .i64 0),(.int .i64 0),(.int .i64 0),(.int .i64 0),(.int .i64 0),(.int .i64 0),(.int .i64 0),(.int .i64 0),(.int .i64 0)]),true,[],[]⟩
def fu:TI:=⟨true,1,8,(.ptr 400), .nilp,true,[],[]⟩
def eg:TI:=⟨true,256,256,(.arr 256 1),(.agg [(.int .u8 0),(.int .u8 0),(.int .u8 0),(.int .u8 0),(.int .u8 0),(.int .u8 0),(.int .u8 0),(.int .u8 0),(.int .u8 0),(.int .u8 0),(.int .u8 0),(.int .u8 0),(.int .u8 0),(.int .u8 0),(.int .u8 0),(.int .u8 0),(.int .u8 0),(.int .u8 0),(.int .u8 0),(.int .u8 0),(.int .u8 0),(.int .u8 0),(.int .u8 0),(.int .u8 0),(.int .u8 0),(.int .u8 0),(.int .u8 0),(.int .u8 0),(.int .u8 0),(.int .u8 0),(.int .u8 0),(.int .u8 0),(.int .u8 0),(.int .u8 0),(.int .u8 0),(.int .u8 0),(.int .u8 0),(.int .u8 0),(.int .u8 0),(.int .u8 0),(.int .u8 0),(.int .u8 0),(.int .u8 0),(.int .u8 0),(.int .u8 0),(.int .u8 0),(.int .u8 0),(.int .u8 0),(.int .u8 0),(.int .u8 0),(.int .u8 0),(.int .u8 0),(.int .u8 0),(.int .u8 0),(.int .u8 0),(.int .u8 0),(.int .u8 0),(.int .u8 0),(.int .u8 0),(.int .u8 0),(.int .u8 0),(.int .u8 0),(.int .u8 0),(.int .u8 0),(.int .u8 0),(.int .u8 0),(.int .u8 0),(.int .u8 0),(.int .u8 0),(.int .u8 0),(.int .u8 0),(.int .u8 0),(.int .u8 0),(.int .u8 0),(.int .u8 0),(.int .u8 0),(.int .u8 0),(.int .u8 0),(.int .u8 0),(.int .u8 0),(.int .u8 0),(.int .u8 0),(.int .u8 0),(.int .u8 0),(.int .u8 0),(.int .u8 0),(.int .u8 0),(.int .u8 0),(.int .u8 0),(.int .u8 0),(.int .u8 0),(.int .u8 0),(.int .u8 0),(.int .u8 0),(.int .u8 0),(.int .u8 0),(.int .u8 0),(.int .u8 0),(.int .u8 0),(.int .u8 0),(.int .u8 0),(.int .u8 0),(.int .u8 0),(.int .u8 0),(.int .u8 0),(.int .u8 0),(.int .u8 0),(.int .u8 0),(.int .u8 0),(.int .u8 0),(.int .u8 0),(.int .u8 0),(.int .u8 0),(.int .u8 0),(.int .u8 0),(.int .u8 0),(.int .u8 0),(.int .u8 0),(.int .u8 0),(.int .u8 0),(.int .u8 0),(.int .u8 0),(.int .u8 0),(.int .u8 0),(.int .u8 0),(.int .u8 0),(.int .u8 0),(.int .u8 0),(.int .u8 0),(.int .u8 0),(.int .u8 0),(.int .u8 0),(.int .u8 0),(.int .u8 0),(.int .u8 0),(.int .u8 0),(.int .u8 0),(.int .u8 0),(.int .u8 0),(.int .u8 0),(.int .u8 0),(.int .u8 0),(.int .u8 0),(.int .u8 0),(.int .u8 0),(.int .u8 0),(.int .u8 0),(.int .u8 0),(.int .u8 0),(.int .u8 0),(.int .u8 0),(.int .u8 0),(.int .u8 0),(.int .u8 0),(.int .u8 0),(.int .u8 0),(.int .u8 0),(.int .u8 0),(.int .u8 0),(.int .u8 0),(.int .u8 0),(.int .u8 0),(.int .u8 0),(.int .u8 0),(.int .u8 0),(.int .u8 0),(.int .u8 0),(.int .u8 0),(.int .u8 0),(.int .u8 0),(.int .u8 0),(.int .u8 0),(.int .u8 0),(.int .u8 0),(.int .u8 0),(.int .u8 0),(.int .u8 0),(.int .u8 0),(.int .u8 0),(.int .u8 0),(.int .u8 0),(.int .u8 0),(.int .u8 0),(.int .u8 0),(.int .u8 0),(.int .u8 0),(.int .u8 0),(.int .u8 0),(.int .u8 0),(.int .u8 0),(.int .u8 0),(.int .u8 0),(.int .u8 0),(.int .u8 0),(.int .u8 0),(.int .u8 0),(.int .u8 0),(.int .u8 0),(.int .u8 0),(.int .u8 0),(.int .u8 0),(.int .u8 0),(.int .u8 0),(.int .u8 0),(.int .u8 0),(.int .u8 0),(.int .u8 0),(.int .u8 0),(.int .u8 0),(.int .u8 0),(.int .u8 0),(.int .u8 0),(.int .u8 0),(.int .u8 0),(.int .u8 0),(.int .u8 0),(.int .u8 0),(.int .u8 0),(.int .u8 0),(.int .u8 0),(.int .u8 0),(.int .u8 0),(.int .u8 0),(.int .u8 0),(.int .u8 0),(.int .u8 0),(.int .u8 0),(.int .u8 0),(.int .u8 0),(.int .u8 0),(.int .u8 0),(.int .u8 0),(.int .u8 0),(.int .u8 0),(.int .u8 0),(.int .u8 0),(.int .u8 0),(.int .u8 0),(.int .u8 0),(.int .u8 0),(.int .u8 0),(.int .u8 0),(.int .u8 0),(.int .u8 0),(.int .u8 0),(.int .u8 0),(.int .u8 0),(.int .u8 0),(.int .u8 0),(.int .u8 0),(.int .u8 0),(.int .u8 0),(.int .u8 0),(.int .u8 0),(.int .u8 0),(.int .u8 0)]),true,[],[]⟩
def eo:TI:=⟨true,2,2,(.struct [(0,1),(1,1)]),(.agg [(.int .u8 0),(.int .u8 0)]),true,[5,5],[(.int .u8),(.int .u8)]⟩
def fP:TI:=⟨true,2,2,(.struct [(0,1),(1,1)]),(.agg [(.int .u8 0),(.int .u8 0)]),true,[5,5],[(.int .u8),(.int .u8)]⟩
def eI:TI:=⟨true,32,32,(.arr 16 2),(.agg [(.int .u8 0),(.int .u8 0),(.int .u8 0),(.int .u8 0),(.int .u8 0),(.int .u8 0),(.int .u8 0),(.int .u8 0),(.int .u8 0),(.int .u8 0),(.int .u8 0),(.int .u8 0),(.int .u8 0),(.int .u8 0),(.int .u8 0),(.int .u8 0),(.int .u8 0),(.int .u8 0),(.int .u8 0),(.int .u8 0),(.int .u8 0),(.int .u8 0),(.int .u8 0),(.int .u8 0),(.int .u8 0),(.int .u8 0),(.int .u8 0),(.int .u8 0),(.int .u8 0),(.int .u8 0),(.int .u8 0),(.int .u8 0)]),true,[],[]⟩
def fa:TI:=⟨true,0,0,(.arr 0 1),(.agg []),true,[],[]⟩
def cX:TI:=⟨true,0,0,(.struct [(0,0)]),(.agg []),true,[497],[]⟩
def fK:TI:=⟨true,0,0,(.struct [(0,0)]),(.agg []),true,[497],[]⟩
def Kd:TT:=(.node (.node (.node (.node (.node (.node (.node .leaf 0 ty0 .leaf) 2 ty2 (.node .leaf 3 ty3 .leaf)) 4 ty4 (.node (.node .leaf 5 ty5 .leaf) 9 ty9 (.node .leaf 12 fX .leaf))) 16 lJ (.node (.node (.node .leaf 21 me .leaf) 22 hG (.node .leaf 23 ld .leaf)) 25 lD (.node (.node .leaf 26 lh .leaf) 28 lv (.node .leaf 29 lK .leaf)))) 30 l7 (.node (.node (.node (.node .leaf 31 f0 .leaf) 37 ly (.node .leaf 38 lg .leaf)) 39 hU (.node (.node .leaf 42 lA .leaf) 43 lB (.node .leaf 44 fY .leaf))) 45 lr (.node (.node (.node .leaf 47 lQ .leaf) 48 lI (.node .leaf 49 lZ .leaf)) 50 hO (.node (.node .leaf 51 f9 .leaf) 52 f8 (.node .leaf 53 lu .leaf))))) 54 l8 (.node (.node (.node (.node (.node .leaf 55 mj .leaf) 56 mh (.node .leaf 57 lR .leaf)) 58 hH (.node (.node .leaf 59 lL .leaf) 60 mg (.node .leaf 61 mc .leaf))) 62 lF (.node (.node (.node .leaf 63 fU .leaf) 65 lM (.node .leaf 66 ll .leaf)) 67 hY (.node (.node .leaf 74 fR .leaf) 81 lG (.node .leaf 82 mi .leaf)))) 83 hZ (.node (.node (.node (.node .leaf 87 lT .leaf) 88 lz (.node .leaf 89 fV .leaf)) 90 l9 (.node (.node .leaf 91 lH .leaf) 92 lU (.node .leaf 95 ma .leaf))) 97 fW (.node (.node (.node .leaf 98 fS .leaf) 103 PY (.node .leaf 111 eY .leaf)) 113 fI (.node (.node .leaf 114 eO .leaf) 117 cD .leaf))))) 118 fd (.node (.node (.node (.node (.node (.node .leaf 120 cY .leaf) 122 e8 (.node .leaf 123 cQ .leaf)) 125 eR (.node (.node .leaf 126 ez .leaf) 127 fg (.node .leaf 128 cG .leaf))) 134 fH (.node (.node (.node .leaf 142 fk .leaf) 143 fq (.node .leaf 155 eB .leaf)) 172 PZ (.node (.node .leaf 173 fJ .leaf) 178 cR (.node .leaf 179 cZ .leaf)))) 180 cq (.node (.node (.node (.node .leaf 183 ea .leaf) 184 P1 (.node .leaf 186 ff .leaf)) 188 fb (.node (.node .leaf 189 ep .leaf) 193 eF (.node .leaf 199 ct .leaf))) 201 fB (.node (.node (.node .leaf 202 ee .leaf) 209 eZ (.node .leaf 212 fh .leaf)) 213 fj (.node (.node .leaf 219 eG .leaf) 220 P9 .leaf)))) 223 eq (.node (.node (.node (.node (.node .leaf 225 cW .leaf) 226 fD (.node .leaf 227 eN .leaf)) 228 ey (.node (.node .leaf 243 eh .leaf) 245 cN (.node .leaf 246 fm .leaf))) 251 eA (.node (.node (.node .leaf 284 fC .leaf) 285 e9 (.node .leaf 289 fO .leaf)) 303 cF (.node (.node .leaf 304 cP .leaf) 305 cJ (.node .leaf 348 eL .leaf)))) 358 fp (.node (.node (.node (.node .leaf 369 P8 .leaf) 374 fE (.node .leaf 399 cV .leaf)) 400 eH (.node (.node .leaf 412 eW .leaf) 434 cA (.node .leaf 436 fu .leaf))) 444 eg (.node (.node (.node .leaf 445 eo .leaf) 446 fP (.node .leaf 447 eI .leaf)) 497 fa (.node (.node .leaf 498 cX .leaf) 499 fK .leaf))))))
set_option maxRecDepth 100000 in
theorem Bj:Kd.toList.map (fun p=>ti Tryz.prog p.1)=Kd.toList.map (·.2):=O5
noncomputable def tyT (t:TypeId):TI:=match Kd.get t with|some v=>v|none=>ti Tryz.prog t
theorem qq:tyT=ti Tryz.prog:=TT.eq_of Bj
def DJ:List Int:= [31,28,31,30,31,30,31,31,30,31,30,31]
def Bf:List Int:= [1,10,100,1000,10000,100000,1000000,10000000,100000000,1000000000,10000000000,100000000000,1000000000000,10000000000000,100000000000000,1000000000000000,10000000000000000,100000000000000000,1000000000000000000,10000000000000000000]
structure MX where
 m:Int
 a:TypeId
 b:TypeId
def gl0 (mx:MX) (g:Nat):List V:=match g with
 |0=> [.int .i64 mx.m]
 |1=>DJ.map (vI .i64)
 |4=> [.iface mx.a .junk]
 |5=> [.iface mx.b .junk]
 |6=>Bf.map (vI .u64)
 |_=> []
section
variable {gl:Nat→List V} {ops:Array Oper} {K:AFr→St→Prop} {s0:St} {cs:List Code} {AQ:Exit→AFr→St→Prop} {id:Nat} {fr fr':AFr} {st st':St} {i:Nat} {x:Cfg} {E:List Nat} {B:List (List Nat)} {rest seen:List Nat} {fx:List (Nat×Option V×V)}
theorem kP (k:Nat) {q:Option V} {v:V} (hq:q=some v) (h:y0 Tryz.prog gl ops (k+1) (ZN (ve tyT gl ops i k x) (we ops k) v) K)
  (hik:Nat.ble i k=true:=by kernel_rfl) (he:gy tyT gl ops i k x=pg q (ve tyT gl ops i k x).2:=by kernel_rfl):y0 Tryz.prog gl ops i x K:=Q9 qq k hq hik he h
theorem kC (k:Nat) (R:Ren) {f:FuncId} {args1:List V} {st1 st1':St} {r:V} (hc:wn Tryz.prog gl f args1 st1 (Out r st1'))
  (h:y0 Tryz.prog gl ops (k+1) (bg (ve tyT gl ops i k x) (we ops k) (V.ren R r) (fun st=>St.after R st st1')) K)
  (hb:goB tyT gl ops i k x R f args1 st1=true:=by kernel_rfl) (he:callL R st1 args1=goR tyT gl ops i k x R args1 st1:=by kernel_rfl):y0 Tryz.prog gl ops i x K:=lC qq k R hc hb he h
theorem kA (k t:Nat) {α:Type} (c:α→List V) {l l2 l':List α} {e e2:TypeId} {sz bytes b2:Nat} {tok2:Tok} (h1:jO bytes l l2=some l')
  (h:y0 Tryz.prog gl ops (k+1) (bg (ve tyT gl ops i k x) (we ops k) (.sl sz (l'.map c) (.fam t l'.length)) (fun st=>st.setFam t l'.length)) K)
  (hb:(Nat.ble i k&&gC tyT e sz bytes)=true:=by kernel_rfl) (he:((ve tyT gl ops i k x).2.fams[t]?,gy tyT gl ops i k x)=(some l.length,vL tyT (ve tyT gl ops i k x).2 (.slice e sz bytes) (.slice e2 sz b2) (.sl sz (l.map c) (.fam t l.length)) (.sl sz (l2.map c) tok2)):=by kernel_rfl):y0 Tryz.prog gl ops i x K:=eD qq k t c h1 hb he h
theorem kN (k:Nat) {α:Type} (c:α→List V) {l2 l':List α} {e e2:TypeId} {sz bytes b2:Nat} {tok2:Tok} (h1:jO bytes [] l2=some l')
  (h:y0 Tryz.prog gl ops (k+1) (bg (ve tyT gl ops i k x) (we ops k) (.sl sz (l'.map c) (.fam (ve tyT gl ops i k x).2.fams.length l'.length)) (fun st=>st.pushFam l'.length)) K)
  (hb:(Nat.ble i k&&gC tyT e sz bytes)=true:=by kernel_rfl) (he:gy tyT gl ops i k x=vL tyT (ve tyT gl ops i k x).2 (.slice e sz bytes) (.slice e2 sz b2) .nilsl (.sl sz (l2.map c) tok2):=by kernel_rfl):y0 Tryz.prog gl ops i x K:=PC qq k c h1 hb he h
theorem kS (k:Nat) (s:List UInt8) (h:y0 Tryz.prog gl ops (k+1) (ZN (ve tyT gl ops i k x) (we ops k) (.sl 1 ((s2b s).map (cI .u8)) .none)) K)
  (hik:Nat.ble i k=true:=by kernel_rfl) (he:gy tyT gl ops i k x=pg (some (.sl 1 (qB s) .none)) (ve tyT gl ops i k x).2:=by kernel_rfl):y0 Tryz.prog gl ops i x K:=P2 qq k s hik he h
theorem kB (k:Nat) (l:List Int) (h:y0 Tryz.prog gl ops (k+1) (ZN (ve tyT gl ops i k x) (we ops k) (.str (b2s l))) K)
  (hik:Nat.ble i k=true:=by kernel_rfl) (he:gy tyT gl ops i k x=pg (match bB (l.map (cI .u8))with|some b=>some (.str b)|none=>none) (ve tyT gl ops i k x).2:=by kernel_rfl):y0 Tryz.prog gl ops i x K:=fN qq k l hik he h
theorem kV (k m f id:Nat) {cell:Option (List V)} {q:St→Option (V×St)} {v:V} {F:St→St} (hq:∀st:St,st.vars.length=m→st.fams.length=f→st.vars[id]? =cell→q st=some (v,F st))
  (h:y0 Tryz.prog gl ops (k+1) (bg (ve tyT gl ops i k x) (we ops k) v F) K) (hik:Nat.ble i k=true:=by kernel_rfl)
  (he:((ve tyT gl ops i k x).2.vars.length,(ve tyT gl ops i k x).2.fams.length,(ve tyT gl ops i k x).2.vars[id]?,gy tyT gl ops i k x)=(m,f,cell,q (ve tyT gl ops i k x).2):=by kernel_rfl):y0 Tryz.prog gl ops i x K:=Pc qq k m f id hq hik he h
theorem kZ (k m f id:Nat) {n sz:Nat} {cell:Option (List V)} {q q2:St→Option (V×St)} {z:V} {F:St→St} {cells:List V} (hq:∀st:St,st.vars.length=m→st.fams.length=f→st.vars[id]? =cell→q st=some (z,F st))
  (hq2:∀st:St,st.vars.length=m→st.fams.length=f→st.vars[id]? =cell→q2 st=some (.own m n sz,st.push [.buf cells])) (hn:0<n)
  (h:y0 Tryz.prog gl ops (k+1) (bg (ve tyT gl ops i k x) (we ops k) (.own m n sz) (fun st=>st.push [.buf cells])) K) (hik:Nat.ble i k=true:=by kernel_rfl)
  (he:((ve tyT gl ops i k x).2.vars.length,(ve tyT gl ops i k x).2.fams.length,(ve tyT gl ops i k x).2.vars[id]?,gy tyT gl ops i k x,zX tyT gl ops i k x)=(m,f,cell,q (ve tyT gl ops i k x).2,q2 (ve tyT gl ops i k x).2):=by kernel_rfl):y0 Tryz.prog gl ops i x K:=PT qq k m f id hq hq2 hn hik he h
theorem kE (R:Ren) (hb:Dj tyT gl ops i x s0 R fr' st'=true:=by kernel_rfl) (he:wkL R fr' st'=DG tyT gl ops i x R fr' st':=by kernel_rfl):y0 Tryz.prog gl ops i x (toW s0 fr' st'):=eT qq R hb he
theorem reg {c:Code} (fr':AFr) (st':St) (h:y0 Tryz.prog gl ops 0 (fr,st) (toW s0 fr' st')) (h2:zE Tryz.prog gl s0 (c::cs) AQ fr' st'):zE Tryz.prog gl s0 (.region id ops false::c::cs) AQ fr st:=JI fr' st' yF h h2
theorem lX (fr':AFr) (st':St) (hcl:Cl s0 (AQ .normal)) (h:y0 Tryz.prog gl ops 0 (fr,st) (toW s0 fr' st')) (h2:zE Tryz.prog gl s0 [] AQ fr' st'):zE Tryz.prog gl s0 [.region id ops false] AQ fr st:=JI fr' st' (dq hcl) h h2
theorem drw {c:Code} (order E:List Nat) (B:List (List Nat)) (fr':AFr) (st':St) (h:aDC Tryz.prog gl ops E B order [] (fr,st) (toW s0 fr' st')) (h2:zE Tryz.prog gl s0 (c::cs) AQ fr' st')
  (hm:Tryz.prog.follows .mixedOrders=true:=by kernel_rfl) (hc:kf ops fr.n order E B=true:=by kernel_rfl):zE Tryz.prog gl s0 (.region id ops true::c::cs) AQ fr st:=Ji order E B fr' st' hm hc yF h h2
theorem dS (os:List Nat) (h:aDC Tryz.prog gl ops E B rest (os.reverse++seen) (PE tyT gl ops E os x) K) (hb:Pp tyT gl ops E os x=true:=by kernel_rfl):aDC Tryz.prog gl ops E B (os++rest) seen x K:=P7 qq os hb h
theorem dP {q:Option V} {v:V} (hq:q=some v) (h:aDC Tryz.prog gl ops E B rest (i::seen) (ZN x (we ops i) v) K) (hb:QD ops E i=true:=by kernel_rfl) (he:Bn tyT gl ops i x=pg q x.2:=by kernel_rfl):aDC Tryz.prog gl ops E B (i::rest) seen x K:=Pi qq hq hb he h
theorem dF (hf:Wz fx) (h:aDC Tryz.prog gl ops E B rest (i::seen) (Ua tyT gl ops i x) K) (hb:Po tyT gl ops E i x=true:=by kernel_rfl)
  (hs:(stX tyT gl ops E B i seen (Ua tyT gl ops i x),svX ops E B fx i seen (Ua tyT gl ops i x))=(stY tyT gl ops E B fx i seen (Ua tyT gl ops i x),svY ops E B fx i seen (Ua tyT gl ops i x)):=by kernel_rfl):aDC Tryz.prog gl ops E B (i::rest) seen x K:=cf qq hf hb hs h
theorem dC (hf:Wz fx) (R:Ren) {f:FuncId} {args1:List V} {st1 st1':St} {r:V} (hc:wn Tryz.prog gl f args1 st1 (Out r st1')) (h:aDC Tryz.prog gl ops E B rest (i::seen) (bg x (we ops i) (V.ren R r) (fun st=>St.after R st st1')) K)
  (hb:Pz ops E i x R f args1 st1=true:=by kernel_rfl) (he:callL R st1 args1=Pv ops i x R args1 st1:=by kernel_rfl)
  (hs:(stX tyT gl ops E B i seen (bg x (we ops i) (V.ren R r) (fun st=>St.after R st st1')),svX ops E B fx i seen (bg x (we ops i) (V.ren R r) (fun st=>St.after R st st1')))=(stY tyT gl ops E B fx i seen (bg x (we ops i) (V.ren R r) (fun st=>St.after R st st1')),svY ops E B fx i seen (bg x (we ops i) (V.ren R r) (fun st=>St.after R st st1'))):=by kernel_rfl):aDC Tryz.prog gl ops E B (i::rest) seen x K:=lS qq hf R hc hb he hs h
theorem dA (hf:Wz fx) (t:Nat) {α:Type} (c:α→List V) {l l2 l':List α} {e e2:TypeId} {sz bytes b2:Nat} {tok2:Tok} (h1:jO bytes l l2=some l')
  (h:aDC Tryz.prog gl ops E B rest (i::seen) (bg x (we ops i) (.sl sz (l'.map c) (.fam t l'.length)) (fun st=>st.setFam t l'.length)) K)
  (hb:(E.contains i&&gC tyT e sz bytes)=true:=by kernel_rfl) (he:(x.2.fams[t]?,Bn tyT gl ops i x)=(some l.length,vL tyT x.2 (.slice e sz bytes) (.slice e2 sz b2) (.sl sz (l.map c) (.fam t l.length)) (.sl sz (l2.map c) tok2)):=by kernel_rfl)
  (hs:(stX tyT gl ops E B i seen (bg x (we ops i) (.sl sz (l'.map c) (.fam t l'.length)) (fun st=>st.setFam t l'.length)),svX ops E B fx i seen (bg x (we ops i) (.sl sz (l'.map c) (.fam t l'.length)) (fun st=>st.setFam t l'.length)))=(stY tyT gl ops E B fx i seen (bg x (we ops i) (.sl sz (l'.map c) (.fam t l'.length)) (fun st=>st.setFam t l'.length)),svY ops E B fx i seen (bg x (we ops i) (.sl sz (l'.map c) (.fam t l'.length)) (fun st=>st.setFam t l'.length))):=by kernel_rfl):aDC Tryz.prog gl ops E B (i::rest) seen x K:=fv qq hf t c h1 hb he hs h
theorem dE (R:Ren) (hb:wkB s0 R x.1 x.2 fr' st'=true:=by kernel_rfl) (he:wkL R fr' st'=wkR R x.1 x.2 fr' st':=by kernel_rfl):aDC Tryz.prog gl ops E B [] seen x (toW s0 fr' st'):=P3 R hb he
theorem wk (R:Ren) (hb:wkB s0 R fr st fr' st'=true:=by kernel_rfl) (he:wkL R fr' st'=wkR R fr st fr' st':=by kernel_rfl):Wk s0 fr st fr' st':=Wk.gen R hb he
theorem rs {c:Code} (ks:List Nat) (new:List (Nat×V)) (h:y0 Tryz.prog gl ops 0 (fr,st) (toW s0 (VA fr ks new) st)) (h2:zE Tryz.prog gl s0 (c::cs) AQ (VA fr ks new) st):zE Tryz.prog gl s0 (.region id ops false::c::cs) AQ fr st:=JI _ _ yF h h2
theorem zm {c:Code} (order E:List Nat) (B:List (List Nat)) (ks:List Nat) (new:List (Nat×V)) (st':St) (h:aDC Tryz.prog gl ops E B order [] (fr,st) (toW s0 (VA fr ks new) st')) (h2:zE Tryz.prog gl s0 (c::cs) AQ (VA fr ks new) st')
  (hm:Tryz.prog.follows .mixedOrders=true:=by kernel_rfl) (hc:kf ops fr.n order E B=true:=by kernel_rfl):zE Tryz.prog gl s0 (.region id ops true::c::cs) AQ fr st:=Ji order E B _ _ hm hc yF h h2
theorem zs {c:Code} (order E:List Nat) (B:List (List Nat)) (ks:List Nat) (new:List (Nat×V)) (h:aDC Tryz.prog gl ops E B order [] (fr,st) (toW s0 (VA fr ks new) st)) (h2:zE Tryz.prog gl s0 (c::cs) AQ (VA fr ks new) st)
  (hm:Tryz.prog.follows .mixedOrders=true:=by kernel_rfl) (hc:kf ops fr.n order E B=true:=by kernel_rfl):zE Tryz.prog gl s0 (.region id ops true::c::cs) AQ fr st:=Ji order E B _ _ hm hc yF h h2
theorem zmN (hcl:Cl s0 (AQ .normal)) (order E:List Nat) (B:List (List Nat)) (ks:List Nat) (new:List (Nat×V)) (st':St) (h:aDC Tryz.prog gl ops E B order [] (fr,st) (toW s0 (VA fr ks new) st')) (h2:zE Tryz.prog gl s0 [] AQ (VA fr ks new) st')
  (hm:Tryz.prog.follows .mixedOrders=true:=by kernel_rfl) (hc:kf ops fr.n order E B=true:=by kernel_rfl):zE Tryz.prog gl s0 [.region id ops true] AQ fr st:=Ji order E B _ _ hm hc (dq hcl) h h2
theorem zt {c:Code} (x y:Nat) (o1 E1:List Nat) (B1:List (List Nat)) (o2 E2:List Nat) (B2:List (List Nat)) (ks:List Nat) (new:List (Nat×V)) (st':St) (h2:aDC Tryz.prog gl (gS ops y x) E2 B2 o2 [] (fr,st) (toW s0 (VA fr ks new) st')) (h1:aDC Tryz.prog gl (gS ops x y) E1 B1 o1 [] (fr,st) (toW s0 (VA fr ks new) st')) (h3:zE Tryz.prog gl s0 (c::cs) AQ (VA fr ks new) st')
  (hm:Tryz.prog.follows .mixedOrders=true:=by kernel_rfl) (hxy:(!(x==y)&&(decide (x<ops.size)&&decide (y<ops.size)))=true:=by kernel_rfl) (hc1:kf (gS ops x y) fr.n o1 E1 B1=true:=by kernel_rfl) (hc2:kf (gS ops y x) fr.n o2 E2 B2=true:=by kernel_rfl):zE Tryz.prog gl s0 (.region id ops true::c::cs) AQ fr st:=DV x y o1 E1 o2 E2 B1 B2 _ _ hm hxy hc1 hc2 yF h1 h2 h3
theorem bF {α:Type} {c:Operand} {x y:Code} {t:Bool} {a b:Option α} {r:α} (h:(if t=true then a else b)=some r) (h1:a=some r→zE Tryz.prog gl s0 (x::cs) AQ fr st) (h2:b=some r→zE Tryz.prog gl s0 (y::cs) AQ fr st) (hc:fr.eval c= .bool t:=by kernel_rfl):zE Tryz.prog gl s0 (.cond c x y::cs) AQ fr st:=
 PQ t hc (fun hb=>h1 (K9 hb h)) (fun hb=>h2 (Kw hb h))
theorem bT {c:Operand} {x y:Code} (h1:zE Tryz.prog gl s0 (x::cs) AQ fr st) (hc:fr.eval c= .bool true:=by kernel_rfl):zE Tryz.prog gl s0 (.cond c x y::cs) AQ fr st:=PQ true hc (fun _=>h1) (fun hb=>Bool.noConfusion hb)
theorem bN {c:Operand} {x y:Code} (h2:zE Tryz.prog gl s0 (y::cs) AQ fr st) (hc:fr.eval c= .bool false:=by kernel_rfl):zE Tryz.prog gl s0 (.cond c x y::cs) AQ fr st:=PQ false hc (fun hb=>Bool.noConfusion hb) (fun _=>h2)
theorem gF {α:Type} (k d:Nat) {b:Bool} {a a':Option α} {r:α} (h:(if b=true then a else a')=some r) (ht:a=some r→y0 Tryz.prog gl ops k (ZN (ve tyT gl ops i k x) (some d) (.bool true)) K) (hf:a'=some r→y0 Tryz.prog gl ops k (ZN (ve tyT gl ops i k x) (some d) (.bool false)) K)
  (hik:Nat.ble i k=true:=by kernel_rfl) (he:Uf tyT gl ops i k x=some (d, .bool b):=by kernel_rfl):y0 Tryz.prog gl ops i x K:=DM qq k d b hik he (fun hb=>ht (K9 hb h)) (fun hb=>hf (Kw hb h))
theorem hF {α:Type} (d:Nat) {b:Bool} {a a':Option α} {r:α} (h:(if b=true then a else a')=some r) (ht:a=some r→aDC Tryz.prog gl ops E B (i::rest) seen (ZN x (some d) (.bool true)) K) (hf:a'=some r→aDC Tryz.prog gl ops E B (i::rest) seen (ZN x (some d) (.bool false)) K)
  (he:Q7 ops i x=some (d, .bool b):=by kernel_rfl):aDC Tryz.prog gl ops E B (i::rest) seen x K:=DS d b he (fun hb=>ht (K9 hb h)) (fun hb=>hf (Kw hb h))
theorem fnc {f:FuncId} {fn:Func} {c:Code} {args:List V} {Q:V→St→Prop} (hf:Tryz.prog.funcs[f]? =some fn) (hb:fn.body=some c) (h:zE Tryz.prog gl st [c] (pR Tryz.prog gl st fn Q) (YE fn.ntmps args) st)
  (hn : (fn.name == "runtime.NumGoroutine") = false := by kernel_rfl) (hl : Nat.ble args.length fn.ntmps = true := by kernel_rfl) : wn Tryz.prog gl f args st Q := wn.ofB hf hb hn (iD hl) h
theorem rt {fn:Func} {r:V} (R:Ren)
  (hb:((kU tyT gl fr st fn.results.toList).isSome&&wkB s0 R ⟨1,[(0,VK tyT gl fr st fn.results.toList)]⟩ st ⟨1,[(0,r)]⟩ st')=true:=by kernel_rfl)
  (hl:wkL R ⟨1,[(0,r)]⟩ st'=wkR R ⟨1,[(0,VK tyT gl fr st fn.results.toList)]⟩ st ⟨1,[(0,r)]⟩ st':=by kernel_rfl):pR Tryz.prog gl s0 fn (Out r st') .ret fr st:=D2 qq R (.inr rfl) hb hl
theorem rno {fn:Func} {r:V} (R:Ren)
  (hb:((kU tyT gl fr st fn.results.toList).isSome&&wkB s0 R ⟨1,[(0,VK tyT gl fr st fn.results.toList)]⟩ st ⟨1,[(0,r)]⟩ st')=true:=by kernel_rfl)
  (hl:wkL R ⟨1,[(0,r)]⟩ st'=wkR R ⟨1,[(0,VK tyT gl fr st fn.results.toList)]⟩ st ⟨1,[(0,r)]⟩ st':=by kernel_rfl):pR Tryz.prog gl s0 fn (Out r st') .normal fr st:=D2 qq R (.inl rfl) hb hl
end
abbrev AC (mx:MX) (f:FuncId) (args:List V) (s:List (List V)) (r:V) (s':List (List V)):Prop:=wn Tryz.prog (gl0 mx) f args ⟨s,[]⟩ (Out r ⟨s',[]⟩)
abbrev ACg (mx:MX) (f:FuncId) (args:List V) (s:List (List V)) (fs0:List Nat) (r:V) (s':List (List V)) (fs:List Nat):Prop:=wn Tryz.prog (gl0 mx) f args ⟨s,fs0⟩ (Out r ⟨s',fs⟩)
def oer (t:Nat) (e:Option Unit):V:=match e with|none=> .niliface|some _=> .iface t .junk
section
variable {gl:Nat→List V} {ops:Array Oper} {s0:St} {cs:List Code} {AQ:Exit→AFr→St→Prop} {id:Nat} {fr:AFr} {st:St} {i:Nat} {x y:Cfg} {c:Code}
theorem ed (hb:Vb tyT gl ops i x=true:=by kernel_rfl):y0 Tryz.prog gl ops i x (toW s0 (YK tyT gl ops i x).1 (YK tyT gl ops i x).2):=Kq qq hb
theorem rg (h2:zE Tryz.prog gl s0 (c::cs) AQ (YK tyT gl ops 0 (fr,st)).1 (YK tyT gl ops 0 (fr,st)).2) (hb:Vb tyT gl ops 0 (fr,st)=true:=by kernel_rfl):zE Tryz.prog gl s0 (.region id ops false::c::cs) AQ fr st:=Gs (y:=(fr,st)) (Kq qq hb) h2
theorem rgN (hcl:Cl s0 (AQ .normal)) (h2:AQ .normal (YK tyT gl ops 0 (fr,st)).1 (YK tyT gl ops 0 (fr,st)).2) (hb:Vb tyT gl ops 0 (fr,st)=true:=by kernel_rfl):zE Tryz.prog gl s0 [.region id ops false] AQ fr st:=KJ (y:=(fr,st)) hcl (Kq qq hb) h2
theorem rC (h:y0 Tryz.prog gl ops 0 (fr,st) (toW s0 y.1 y.2)) (h2:zE Tryz.prog gl s0 (c::cs) AQ y.1 y.2):zE Tryz.prog gl s0 (.region id ops false::c::cs) AQ fr st:=Gs (y:=(fr,st)) h h2
theorem rCN (hcl:Cl s0 (AQ .normal)) (h:y0 Tryz.prog gl ops 0 (fr,st) (toW s0 y.1 y.2)) (h2:AQ .normal y.1 y.2):zE Tryz.prog gl s0 [.region id ops false] AQ fr st:=KJ (y:=(fr,st)) hcl h h2
end
def Im (p q:Prop):Prop:=p→q
section
variable {gl:Nat→List V} {ops:Array Oper} {K:AFr→St→Prop} {s0:St} {c d:Code} {cs:List Code} {AQ:Exit→AFr→St→Prop} {id:Nat} {fr fr':AFr} {st st':St} {i:Nat} {x:Cfg} {E:List Nat} {B:List (List Nat)} {rest seen:List Nat} {fx:List (Nat×Option V×V)} {p Q:Prop}
theorem fnL {f : FuncId} {fn : Func} {args : List V} {Q : V → St → Prop} (hf : Tryz.prog.funcs[f]? = some fn) (hb : fn.body = some c) (h : Im (p) (zE Tryz.prog gl st (flat c []) (pR Tryz.prog gl st fn Q) (YE fn.ntmps args) st)) (hn : (fn.name == "runtime.NumGoroutine") = false := by kernel_rfl) (hl : Nat.ble args.length fn.ntmps = true := by kernel_rfl) : Im (p) (wn Tryz.prog gl f args st Q) := fun k => fnc hf hb (dD _ (h k)) hn hl
theorem bEL {α β:Type} {x:Option α} {f:α→Option β} {y:β} (k:∀a,x=some a→Im (f a=some y) (Q)):Im (x.bind f=some y) (Q):=fun h=>bE h k
theorem lfL {A:Prop} (f:A→Q) (t:Im (p) (A)):Im (p) (Q):=fun z=>f (t z)
theorem imA (h:p) (t:Im (p) (Q)):Q:=t h
inductive Tg (R:Ren):Prop|mk
theorem rtT {fn:Func} {r:V} {R:Ren} (_:Tg R) (hb:((kU tyT gl fr st fn.results.toList).isSome&&wkB s0 R ⟨1,[(0,VK tyT gl fr st fn.results.toList)]⟩ st ⟨1,[(0,r)]⟩ st')=true:=by kernel_rfl)
  (hl:wkL R ⟨1,[(0,r)]⟩ st'=wkR R ⟨1,[(0,VK tyT gl fr st fn.results.toList)]⟩ st ⟨1,[(0,r)]⟩ st':=by kernel_rfl):pR Tryz.prog gl s0 fn (Out r st') .ret fr st:=rt R hb hl
theorem rnT {fn:Func} {r:V} {R:Ren} (_:Tg R) (hb:((kU tyT gl fr st fn.results.toList).isSome&&wkB s0 R ⟨1,[(0,VK tyT gl fr st fn.results.toList)]⟩ st ⟨1,[(0,r)]⟩ st')=true:=by kernel_rfl)
  (hl:wkL R ⟨1,[(0,r)]⟩ st'=wkR R ⟨1,[(0,VK tyT gl fr st fn.results.toList)]⟩ st ⟨1,[(0,r)]⟩ st':=by kernel_rfl):pR Tryz.prog gl s0 fn (Out r st') .normal fr st:=rno R hb hl
theorem keT {R:Ren} (_:Tg R) (hb:Dj tyT gl ops i x s0 R fr' st'=true:=by kernel_rfl) (he:wkL R fr' st'=DG tyT gl ops i x R fr' st':=by kernel_rfl):y0 Tryz.prog gl ops i x (toW s0 fr' st'):=kE R hb he
theorem rJ {P:Prop} (R:Ren) (q:Tg R→P:=by intro t h; cases h; exact rtT t):P:=q .mk
theorem nJ {P:Prop} (R:Ren) (q:Tg R→P:=by intro t h; cases h; exact rnT t):P:=q .mk
theorem eJ {P:Prop} (R:Ren) (q:Tg R→P:=by intro t h; cases h; exact keT t):P:=q .mk
theorem nEL {α:Type} {r:α}:Im ((none:Option α)=some r) (Q):=fun h=>nomatch h
theorem hvL {R Y Z:Type} {o:Ctl R Y} {g:R→Option Z} {x:R} {r:Z} (hr:∀x,o= .ret x→g x=some r) (t:Im (g x=some r) (Q)):Im (some (.ret x)=some o) (Q):=fun h=>t (hr _ (sI h))
theorem rgL (h2:Im (p) (zE Tryz.prog gl s0 (c::cs) AQ (YK tyT gl ops 0 (fr,st)).1 (YK tyT gl ops 0 (fr,st)).2)) (hb:Vb tyT gl ops 0 (fr,st)=true:=by kernel_rfl):Im (p) (zE Tryz.prog gl s0 (.region id ops false::c::cs) AQ fr st):=fun k=>rg (h2 k) hb
theorem xi (hcl:Cl s0 (AQ .normal)) (h2:Im (p) (AQ .normal (YK tyT gl ops 0 (fr,st)).1 (YK tyT gl ops 0 (fr,st)).2)) (hb:Vb tyT gl ops 0 (fr,st)=true:=by kernel_rfl):Im (p) (zE Tryz.prog gl s0 [.region id ops false] AQ fr st):=fun k=>rgN hcl (h2 k) hb
theorem rCL {y:Cfg} (h:Im (True) (y0 Tryz.prog gl ops 0 (fr,st) (toW s0 y.1 y.2))) (h2:Im (p) (zE Tryz.prog gl s0 (c::cs) AQ y.1 y.2)):Im (p) (zE Tryz.prog gl s0 (.region id ops false::c::cs) AQ fr st):=fun k=>rC (h trivial) (h2 k)
theorem xC {y:Cfg} (hcl:Cl s0 (AQ .normal)) (h:Im (True) (y0 Tryz.prog gl ops 0 (fr,st) (toW s0 y.1 y.2))) (h2:Im (p) (AQ .normal y.1 y.2)):Im (p) (zE Tryz.prog gl s0 [.region id ops false] AQ fr st):=fun k=>rCN hcl (h trivial) (h2 k)
theorem edL (hb:Vb tyT gl ops i x=true:=by kernel_rfl):Im (p) (y0 Tryz.prog gl ops i x (toW s0 (YK tyT gl ops i x).1 (YK tyT gl ops i x).2)):=fun _=>ed hb
theorem kPL (k:Nat) {q:Option V} {v:V} (hq:q=some v) (h:Im (p) (y0 Tryz.prog gl ops (k+1) (ZN (ve tyT gl ops i k x) (we ops k) v) K)) (hik:Nat.ble i k=true:=by kernel_rfl) (he:gy tyT gl ops i k x=pg q (ve tyT gl ops i k x).2:=by kernel_rfl):Im (p) (y0 Tryz.prog gl ops i x K):=fun z=>kP k hq (h z) hik he
theorem kCL (k:Nat) (R:Ren) {f:FuncId} {args1:List V} {st1 st1':St} {r:V} (hc:wn Tryz.prog gl f args1 st1 (Out r st1')) (h:Im (p) (y0 Tryz.prog gl ops (k+1) (bg (ve tyT gl ops i k x) (we ops k) (V.ren R r) (fun st=>St.after R st st1')) K)) (hb:goB tyT gl ops i k x R f args1 st1=true:=by kernel_rfl) (he:callL R st1 args1=goR tyT gl ops i k x R args1 st1:=by kernel_rfl):Im (p) (y0 Tryz.prog gl ops i x K):=fun z=>kC k R hc (h z) hb he
theorem gFL {α:Type} (k d:Nat) {b:Bool} {a a':Option α} {r:α} (ht:Im (a=some r) (y0 Tryz.prog gl ops k (ZN (ve tyT gl ops i k x) (some d) (.bool true)) K)) (hf:Im (a'=some r) (y0 Tryz.prog gl ops k (ZN (ve tyT gl ops i k x) (some d) (.bool false)) K)) (hik:Nat.ble i k=true:=by kernel_rfl) (he:Uf tyT gl ops i k x=some (d, .bool b):=by kernel_rfl):Im ((if b=true then a else a')=some r) (y0 Tryz.prog gl ops i x K):=fun h=>gF k d h ht hf hik he
theorem kFL {α:Type} {t:Bool} {A B:Option α} {r:α} (h1:t=true→Im (A=some r) (Q)) (h2:t=false→Im (B=some r) (Q)):Im ((if t=true then A else B)=some r) (Q):=fun h=>kF h h1 h2
theorem bFL {α:Type} {q:Operand} {x y:Code} {t:Bool} {a b:Option α} {r:α} (h1:Im (a=some r) (zE Tryz.prog gl s0 (flat x cs) AQ fr st)) (h2:Im (b=some r) (zE Tryz.prog gl s0 (flat y cs) AQ fr st)) (hc:fr.eval q= .bool t:=by kernel_rfl):Im ((if t=true then a else b)=some r) (zE Tryz.prog gl s0 (.cond q x y::cs) AQ fr st):=fun h=>bF h (fun k=>dD _ (h1 k)) (fun k=>dD _ (h2 k)) hc
theorem bTL {q:Operand} {x y:Code} (h1:Im (p) (zE Tryz.prog gl s0 (flat x cs) AQ fr st)) (hc:fr.eval q= .bool true:=by kernel_rfl):Im (p) (zE Tryz.prog gl s0 (.cond q x y::cs) AQ fr st):=fun k=>bT (dD _ (h1 k)) hc
theorem bNL {q:Operand} {x y:Code} (h1:Im (p) (zE Tryz.prog gl s0 (flat y cs) AQ fr st)) (hc:fr.eval q= .bool false:=by kernel_rfl):Im (p) (zE Tryz.prog gl s0 (.cond q x y::cs) AQ fr st):=fun k=>bN (dD _ (h1 k)) hc
theorem rgF {a:Prop} (k:a) (fr':AFr) (st':St) (h:Im (a) (y0 Tryz.prog gl ops 0 (fr,st) (toW s0 fr' st'))) (h2:Im (p) (zE Tryz.prog gl s0 (c::cs) AQ fr' st')):Im (p) (zE Tryz.prog gl s0 (.region id ops false::c::cs) AQ fr st):=fun z=>reg fr' st' (h k) (h2 z)
theorem Gn {a:Prop} (k:a) (hcl:Cl s0 (AQ .normal)) (fr':AFr) (st':St) (h:Im (a) (y0 Tryz.prog gl ops 0 (fr,st) (toW s0 fr' st'))) (h2:Im (p) (AQ .normal fr' st')):Im (p) (zE Tryz.prog gl s0 [.region id ops false] AQ fr st):=fun z=>lX fr' st' hcl (h k) (h2 z)
theorem zY (h:Im (p) (zE Tryz.prog gl s0 (flat c []) (bV id (jl (zE Tryz.prog gl s0 cs AQ) AQ)) fr st)):Im (p) (zE Tryz.prog gl s0 (.block id c::cs) AQ fr st):=fun k=>KI (dD _ (h k))
theorem zg (h:Im (p) (AQ .ret fr st)):Im (p) (zE Tryz.prog gl s0 (.ret::cs) AQ fr st):=fun k=>cT (h k)
theorem zW (h:Im (p) (AQ (.exit id) fr st)):Im (p) (zE Tryz.prog gl s0 (.exit id::cs) AQ fr st):=fun k=>PF (h k)
theorem w7 (hw:Wk s0 fr st fr' st') (h:Im (p) (zE Tryz.prog gl s0 (c::cs) AQ fr' st')):Im (p) (zE Tryz.prog gl s0 (c::cs) AQ fr st):=fun k=>lN hw (h k)
theorem zS (h:Im (p) (AQ (.exit id) fr st)):Im (p) (jl K AQ (.exit id) fr st):=h
theorem yb (h:Im (p) (AQ .ret fr st)):Im (p) (jl K AQ .ret fr st):=h
theorem yi (h:Im (p) (AQ .ret fr st)):Im (p) (bV id (jl K AQ) .ret fr st):=h
theorem z8 (h:Im (p) (K fr st)):Im (p) (bV id (jl K AQ) .normal fr st):=h
theorem XZ (h:Im (p) (K fr st)):Im (p) (bV id (jl K AQ) (.exit id) fr st):=fun k=>DD (h k)
theorem pD {id':Nat} (h:Im (p) (AQ (.exit id') fr st)) (hne:Nat.beq id' id=false:=by kernel_rfl):Im (p) (bV id (jl K AQ) (.exit id') fr st):=fun k=>GX hne (h k)
theorem zK {Y:Type} {F:Y→AFr} {S:Y→St} {L:Y→Prop} (h:Im (p) (AQ .ret fr st)):Im (p) (bi s0 id F S L AQ .ret fr st):=h
theorem zN {Y:Type} {F:Y→AFr} {S:Y→St} {L:Y→Prop} (h:Im (p) (dR s0 F S L fr st)):Im (p) (bi s0 id F S L AQ (.exit id) fr st):=fun k=>DN (h k)
theorem jnL {Y:Type} {F:Y→AFr} {S:Y→St} {v y:Y} (R:Ren) (hb:wkB s0 R fr st (F v) (S v)=true:=by kernel_rfl) (he:wkL R (F v) (S v)=wkR R fr st (F v) (S v):=by kernel_rfl):Im (some v=some y) (dR s0 F S (fun z=>y=z) fr st):=fun h=>⟨v,sI h,Wk.gen R hb he⟩
theorem jCL {Z Y:Type} {F:Y→AFr} {S:Y→St} {v:Y} {o:Ctl Z Y} (R:Ren) (hb:wkB s0 R fr st (F v) (S v)=true:=by kernel_rfl) (he:wkL R (F v) (S v)=wkR R fr st (F v) (S v):=by kernel_rfl):Im (some (.nxt v)=some o) (dR s0 F S (fun z=>o= .nxt z) fr st):=fun h=>⟨v,sI h,Wk.gen R hb he⟩
theorem lpL {X Y:Type} (g:Nat→X→Option Y) {o:Y} {n:Nat} (x0:X) (R:Ren) (F:X→AFr) (S:X→St) (round:∀k x,Im (g (k+1) x=some o) (zE Tryz.prog gl s0 (flat c []) (jl (dR s0 F S (fun x=>g k x=some o)) AQ) (F x) (S x))) (h0:∀x,g 0 x=none:=by intro _; rfl) (hb:wkB s0 R fr st (F x0) (S x0)=true:=by kernel_rfl) (he:wkL R (F x0) (S x0)=wkR R fr st (F x0) (S x0):=by kernel_rfl):Im (g n x0=some o) (zE Tryz.prog gl s0 (.loop c::cs) AQ fr st):=
 fun h=>Pa F S (fun k x=>g k x=some o) (fun x hx=>by rw [h0]at hx; cases hx) n x0 h (Wk.gen R hb he) fun k x h=>dD _ (round k x h)
theorem cuL {Y Z:Type} {o:Option Y} {f:Y→Option Z} {r:Z} (F:Y→AFr) (S:Y→St) (h1:∀y,Im (o=some y) (zE Tryz.prog gl s0 [c] (jl (dR s0 F S (fun z=>y=z)) AQ) fr st)) (h2:∀y,Im (f y=some r) (zE Tryz.prog gl s0 (d::cs) AQ (F y) (S y))):Im (o.bind f=some r) (zE Tryz.prog gl s0 (c::d::cs) AQ fr st):=fun h=>cuE h F S h1 h2
theorem blL {Y Z:Type} {o:Option Y} {f:Y→Option Z} {r:Z} (F:Y→AFr) (S:Y→St) (h1:∀y,Im (o=some y) (zE Tryz.prog gl s0 (flat c []) (bi s0 id F S (fun z=>y=z) AQ) fr st)) (h2:∀y,Im (f y=some r) (zE Tryz.prog gl s0 (d::cs) AQ (F y) (S y))):Im (o.bind f=some r) (zE Tryz.prog gl s0 (.block id c::d::cs) AQ fr st):=fun h=>blE h F S (fun y k=>dD _ (h1 y k)) h2
theorem ccL {R Y Z:Type} {o:Option (Ctl R Y)} {g:R→Option Z} {f:Y→Option Z} {r:Z} (F:Y→AFr) (S:Y→St) (h1:∀y,(∀x,y= .ret x→g x=some r)→Im (o=some y) (zE Tryz.prog gl s0 [c] (jl (dR s0 F S (fun z=>y= .nxt z)) AQ) fr st)) (h2:∀y,Im (f y=some r) (zE Tryz.prog gl s0 (d::cs) AQ (F y) (S y))):Im (yM o g f=some r) (zE Tryz.prog gl s0 (c::d::cs) AQ fr st):=fun h=>cuC h F S (fun y k e=>h1 y e k) h2
theorem bcL {R Y Z:Type} {o:Option (Ctl R Y)} {g:R→Option Z} {f:Y→Option Z} {r:Z} (F:Y→AFr) (S:Y→St) (h1:∀y,(∀x,y= .ret x→g x=some r)→Im (o=some y) (zE Tryz.prog gl s0 (flat c []) (bi s0 id F S (fun z=>y= .nxt z) AQ) fr st)) (h2:∀y,Im (f y=some r) (zE Tryz.prog gl s0 (d::cs) AQ (F y) (S y))):Im (yM o g f=some r) (zE Tryz.prog gl s0 (.block id c::d::cs) AQ fr st):=fun h=>blC h F S (fun y k e=>dD _ (h1 y e k)) h2
theorem Jg {Y Z:Type} {o:Option Y} {f:Y→Option Z} {r:Z} (hcl:Cl s0 (AQ .normal)) (F:Y→AFr) (S:Y→St) (h1:∀y,Im (o=some y) (zE Tryz.prog gl s0 (flat c []) (bi s0 id F S (fun z=>y=z) AQ) fr st)) (h2:∀y,Im (f y=some r) (AQ .normal (F y) (S y))):Im (o.bind f=some r) (zE Tryz.prog gl s0 [.block id c] AQ fr st):=fun h=>lp h hcl F S (fun y k=>dD _ (h1 y k)) h2
theorem Gw {R Y Z:Type} {o:Option (Ctl R Y)} {g:R→Option Z} {f:Y→Option Z} {r:Z} (hcl:Cl s0 (AQ .normal)) (F:Y→AFr) (S:Y→St) (h1:∀y,(∀x,y= .ret x→g x=some r)→Im (o=some y) (zE Tryz.prog gl s0 (flat c []) (bi s0 id F S (fun z=>y= .nxt z) AQ) fr st)) (h2:∀y,Im (f y=some r) (AQ .normal (F y) (S y))):Im (yM o g f=some r) (zE Tryz.prog gl s0 [.block id c] AQ fr st):=fun h=>hC h hcl F S (fun y k e=>dD _ (h1 y e k)) h2
end
end Go.Abs
end
section
namespace Go.Abs
open Go.RowKit (Below)
open Go Go.Proofs
section
variable {P:Program} {T:TypeId→TI} {gl:Nat→List V} {ops:Array Oper} {K:AFr→St→Prop} {E:List Nat} {B:List (List Nat)}
theorem Pf (hT:T=ti P) {i:Nat} {x:Cfg} (k m f id:Nat) {cell:Option Nat} {q:St→Option (V×St)} {v:V} {F:St→St}
  (hq:∀st:St,st.vars.length=m→st.fams.length=f→st.fams[id]? =cell→q st=some (v,F st)) (hik:Nat.ble i k=true)
  (he:((ve T gl ops i k x).2.vars.length,(ve T gl ops i k x).2.fams.length,(ve T gl ops i k x).2.fams[id]?,gy T gl ops i k x)=(m,f,cell,q (ve T gl ops i k x).2))
  (h:y0 P gl ops (k+1) (bg (ve T gl ops i k x) (we ops k) v F) K):y0 P gl ops i x K:=by
 injection he with he1 he; injection he with he2 he; injection he with he3 he4
 have h1:=hq _ he1 he2 he3
 rw [qO]at he1 he2 he3 he4 h1
 rw [YT]at he4
 rw [qO,pw]at h
 unfold y0 at h ⊢
 exact V6 hT k h1 hik he4 h
end
section
variable {gl:Nat→List V} {ops:Array Oper} {K:AFr→St→Prop} {s0:St} {cs:List Code} {AQ:Exit→AFr→St→Prop} {id:Nat} {fr fr':AFr} {st st':St} {i:Nat} {x:Cfg} {E:List Nat} {B:List (List Nat)} {rest seen:List Nat} {fx:List (Nat×Option V×V)}
theorem kT (k m f id:Nat) {cell:Option Nat} {q:St→Option (V×St)} {v:V} {F:St→St} (hq:∀st:St,st.vars.length=m→st.fams.length=f→st.fams[id]? =cell→q st=some (v,F st))
  (h:y0 Tryz.prog gl ops (k+1) (bg (ve tyT gl ops i k x) (we ops k) v F) K) (hik:Nat.ble i k=true:=by kernel_rfl)
  (he:((ve tyT gl ops i k x).2.vars.length,(ve tyT gl ops i k x).2.fams.length,(ve tyT gl ops i k x).2.fams[id]?,gy tyT gl ops i k x)=(m,f,cell,q (ve tyT gl ops i k x).2):=by kernel_rfl):y0 Tryz.prog gl ops i x K:=Pf qq k m f id hq hik he h
end
def B8 (bytes:Nat) (l:List Int) (s:List UInt8):Option (List Int):=if(l.length+(s2b s).length)*bytes≤140737488355328 then some (l++s2b s)else none
theorem Pt {T:TypeId→TI} {l l':List Int} {s:List UInt8} {t m f:Nat} {e:TypeId} {bytes:Nat} (ho:gC T e 1 bytes=true) (h:B8 bytes l s=some l'):
  ∀ st:St,st.vars.length=m→st.fams.length=f→st.fams[t]? =some l.length →
   vL T st (.slice e 1 bytes) .str (.sl 1 (l.map (cI .u8)) (.fam t l.length)) (.str s)=some (.sl 1 (l'.map (cI .u8)) (.fam t l'.length),st.setFam t l'.length):=by
 intro st hm hf hc
 simp only [gC,iE,beq_iff_eq,decide_eq_true_eq]at ho
 obtain⟨⟨⟨h1,h2⟩,h3⟩,h4⟩:=ho
 unfold B8 at h
 split at h
 ·rename_i hb2; injection h with h; subst h
  by_cases hb1:(s2b s).length=0
  ·have e0:s2b s= []:=List.eq_nil_of_length_eq_zero hb1
   have e1:st.setFam t l.length=st:=by
    obtain⟨vs,fs⟩:=st
    simp only [St.setFam,St.mk.injEq,true_and]
    apply List.ext_getElem?
    intro i
    rw [List.getElem?_set]
    split
    ·rename_i e; subst e
     split
     ·exact hc.symm
     ·rename_i hl; rw [List.getElem?_eq_none O0]
    ·rfl
   simp only [vL,h1,h2,h3,Wb,YP,and_self,if_true,e0,List.append_nil,e1,List.map_nil,List.length_nil]
  ·simp only [vL,h1,h2,h3,Wb,YP,and_self,if_true,List.length_map,hb1,if_false,h4,hb2,hc,List.map_append,List.length_append]
 ·cases h
section
variable {s0 st:St} {fr:AFr}
end
section
variable {P:Program}
end
section
variable {gl:Nat→List V} {ops:Array Oper} {s0:St} {c:Code} {cs:List Code} {AQ:Exit→AFr→St→Prop} {id:Nat} {fr:AFr} {st:St} {p:Prop}
end
end Go.Abs
end
section
namespace Go.Abs
open Go Go.Proofs
structure yy where
 f_L:(List Int)
 kH:Int
def yy.cells (x:yy):List V:= [ql 1 (cI .i64) x.f_L,qi x.kH]
structure zc where
 uH:(List UInt8)
 yA:Int
 uy:(List UInt8)
def zc.cells (x:zc):List V:= [qs x.uH,qi x.yA,qs x.uy]
structure yq where
 xo:(List (List zc))
def yq.cells (x:yq):List V:= [ql 1 (cL 3 zc.cells) x.xo]
structure za where
 yA:Int
 V0:(List UInt8)
 pZ:yq
def za.cells (x:za):List V:= [qi x.yA,qs x.V0,ql 1 (cL 3 zc.cells) x.pZ.xo]
structure zn where
 yl:(List za)
 Y5:Int
 bj:Bool
 uX:yq
def zn.cells (x:zn):List V:= [ql 3 za.cells x.yl,qi x.Y5,qb x.bj,ql 1 (cL 3 zc.cells) x.uX.xo]
structure zh where
 pZ:yq
 XC:(List UInt8)
 kO:Int
 Yr:Int
 yn:(List zn)
def zh.cells (x:zh):List V:= [ql 1 (cL 3 zc.cells) x.pZ.xo,qs x.XC,qi x.kO,qi x.Yr,ql 4 zn.cells x.yn]
structure zw where
 uX:(List UInt8)
 dt:(List UInt8)
def zw.cells (x:zw):List V:= [qs x.uX,qs x.dt]
structure zv where
 ye:(List za)
 yo:(List za)
def zv.cells (x:zv):List V:= [ql 3 za.cells x.ye,ql 3 za.cells x.yo]
structure zf where
 Uv:(List UInt8)
 Vx:Bool
 uy:(List UInt8)
def zf.cells (x:zf):List V:= [qs x.Uv,qb x.Vx,qs x.uy]
structure zr where
 yk:Bool
 jZ:Bool
 yw:Int
 yr:Int
 yc:(List (List UInt8))
 zH:(List (List UInt8))
 yd:(List zw)
 zA:Int
 zD:Int
 zV:Int
 yl:(List za)
 zz:Bool
 zq:zv
 zU:(List UInt8)
 zJ:(List UInt8)
 yn:(List zn)
 z7:(List zn)
 yp:(List zf)
def zr.cells (x:zr):List V:= [qb x.yk,qb x.jZ,qi x.yw,qi x.yr,ql 1 cS x.yc,ql 1 cS x.zH,ql 2 zw.cells x.yd,qi x.zA,qi x.zD,qi x.zV,ql 3 za.cells x.yl,qb x.zz,ql 3 za.cells x.zq.ye,ql 3 za.cells x.zq.yo,qs x.zU,qs x.zJ,ql 4 zn.cells x.yn,ql 4 zn.cells x.z7,ql 3 zf.cells x.yp]
structure zM where
 yA:Int
 yH:Int
 xB:Int
 vx:(List UInt8)
 zb:zr
 yZ:Int
 xz:Int
 yX:Int
 w8:Int
 wa:Int
 w9:Int
 yV:Bool
def zM.cells (x:zM):List V:= [qi x.yA,qi x.yH,qi x.xB,qs x.vx,qb x.zb.yk,qb x.zb.jZ,qi x.zb.yw,qi x.zb.yr,ql 1 cS x.zb.yc,ql 1 cS x.zb.zH,ql 2 zw.cells x.zb.yd,qi x.zb.zA,qi x.zb.zD,qi x.zb.zV,ql 3 za.cells x.zb.yl,qb x.zb.zz,ql 3 za.cells x.zb.zq.ye,ql 3 za.cells x.zb.zq.yo,qs x.zb.zU,qs x.zb.zJ,ql 4 zn.cells x.zb.yn,ql 4 zn.cells x.zb.z7,ql 3 zf.cells x.zb.yp,qi x.yZ,qi x.xz,qi x.yX,qi x.w8,qi x.wa,qi x.w9,qb x.yV]
structure yu where
 yH:Int
 vV:(List Int)
def yu.cells (x:yu):List V:= [qi x.yH,ql 1 (cI .i64) x.vV]
structure Ww where
 kO:Int
 Uv:(List UInt8)
 UU:(List UInt8)
def Ww.cells (x:Ww):List V:= [qi x.kO,qs x.Uv,qs x.UU]
structure zB where
 pZ:yq
 Wl:Ww
def zB.cells (x:zB):List V:= [ql 1 (cL 3 zc.cells) x.pZ.xo,qi x.Wl.kO,qs x.Wl.Uv,qs x.Wl.UU]
structure zy where
 yH:Int
 vJ:(List UInt8)
 yr:Int
 zH:(List (List UInt8))
 vD:Bool
 wW:Bool
 qK:Bool
 yl:(List za)
 wq:Int
 jL:Bool
 vy:(List zB)
def zy.cells (x:zy):List V:= [qi x.yH,qs x.vJ,qi x.yr,ql 1 cS x.zH,qb x.vD,qb x.wW,qb x.qK,ql 3 za.cells x.yl,qi x.wq,qb x.jL,ql 4 zB.cells x.vy]
structure zi where
 yA:Int
 bL:Int
 zj:zM
 k9:Bool
 ki:Int
 qt:Int
 q8:Int
 jr:yu
 zF:zy
 jB:(List Int)
def zi.cells (x:zi):List V:= [qi x.yA,qi x.bL,qi x.zj.yA,qi x.zj.yH,qi x.zj.xB,qs x.zj.vx,qb x.zj.zb.yk,qb x.zj.zb.jZ,qi x.zj.zb.yw,qi x.zj.zb.yr,ql 1 cS x.zj.zb.yc,ql 1 cS x.zj.zb.zH,ql 2 zw.cells x.zj.zb.yd,qi x.zj.zb.zA,qi x.zj.zb.zD,qi x.zj.zb.zV,ql 3 za.cells x.zj.zb.yl,qb x.zj.zb.zz,ql 3 za.cells x.zj.zb.zq.ye,ql 3 za.cells x.zj.zb.zq.yo,qs x.zj.zb.zU,qs x.zj.zb.zJ,ql 4 zn.cells x.zj.zb.yn,ql 4 zn.cells x.zj.zb.z7,ql 3 zf.cells x.zj.zb.yp,qi x.zj.yZ,qi x.zj.xz,qi x.zj.yX,qi x.zj.w8,qi x.zj.wa,qi x.zj.w9,qb x.zj.yV,qb x.k9,qi x.ki,qi x.qt,qi x.q8,qi x.jr.yH,ql 1 (cI .i64) x.jr.vV,qi x.zF.yH,qs x.zF.vJ,qi x.zF.yr,ql 1 cS x.zF.zH,qb x.zF.vD,qb x.zF.wW,qb x.zF.qK,ql 3 za.cells x.zF.yl,qi x.zF.wq,qb x.zF.jL,ql 4 zB.cells x.zF.vy,ql 1 (cI .i64) x.jB]
structure zk where
 yz:(List (List UInt8))
 zG:Bool
def zk.cells (x:zk):List V:= [ql 1 cS x.yz,qb x.zG]
structure yR where
 Ws:(List UInt8)
 PI:(List UInt8)
def yR.cells (x:yR):List V:= [qs x.Ws,qs x.PI]
structure zd where
 p0:Int
 wJ:(List UInt8)
 fL:(List UInt8)
def zd.cells (x:zd):List V:= [qi x.p0,qs x.wJ,qs x.fL]
structure zC where
 f_l:(List zd)
 kG:Bool
def zC.cells (x:zC):List V:= [ql 3 zd.cells x.f_l,qb x.kG]
structure wd where
 pP:Int
 pr:Int
 YO:Int
 XE:Int
 pK:Int
 pY:Int
def wd.cells (x:wd):List V:= [qi x.pP,qi x.pr,qi x.YO,qi x.XE,qi x.pK,qi x.pY]
structure ze where
 f_l:(List (List UInt8))
 wB:Int
 zG:Bool
def ze.cells (x:ze):List V:= [ql 1 cS x.f_l,qi x.wB,qb x.zG]
structure yv where
 f_L:(List zd)
 kH:Int
def yv.cells (x:yv):List V:= [ql 3 zd.cells x.f_L,qi x.kH]
structure zp where
 f_l:(List zd)
 wB:Int
 zG:Bool
def zp.cells (x:zp):List V:= [ql 3 zd.cells x.f_l,qi x.wB,qb x.zG]
structure xL where
 Xd:Int
 dy:Int
 zH:(List (List UInt8))
def xL.cells (x:xL):List V:= [qi x.Xd,qi x.dy,ql 1 cS x.zH]
structure wV where
 VP:Int
 Yj:(List Int)
 gQ:xL
def wV.cells (x:wV):List V:= [qi x.VP,ql 1 (cI .i64) x.Yj,qi x.gQ.Xd,qi x.gQ.dy,ql 1 cS x.gQ.zH]
structure zx where
 jV:(List UInt8)
 f_e:Int
def zx.cells (x:zx):List V:= [qs x.jV,qi x.f_e]
structure zl where
 f_b:(List Int)
def zl.cells (x:zl):List V:= [ql 1 (cI .u8) x.f_b]
end Go.Abs
end
