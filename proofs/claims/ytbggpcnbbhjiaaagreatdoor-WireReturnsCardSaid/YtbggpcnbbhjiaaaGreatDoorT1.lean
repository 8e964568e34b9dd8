/- The program's types and functions in the abstract reading, its records as Lean structures, and the contracts of library functions. -/
import Derived.Test.YtbggpcnbbhjiaaaGreatDoorS
set_option linter.unusedVariables false
set_option linter.unusedSimpArgs false
set_option linter.unnecessarySimpa false
section
namespace Go.Abs
open Go Go.Proofs
def ty0:TI:=⟨true,1,0, .flat,(.tuple []),true,[],[]⟩
def ty2:TI:=⟨true,1,8,(.int .i64),(.int .i64 0),true,[],[]⟩
def ty3:TI:=⟨true,1,8,(.int .i64),(.int .i64 0),true,[],[]⟩
def ty4:TI:=⟨true,1,1, .bool,(.bool false),true,[],[]⟩
def ty5:TI:=⟨true,1,1,(.int .u8),(.int .u8 0),true,[],[]⟩
def ty6:TI:=⟨true,1,1,(.int .u8),(.int .u8 0),true,[],[]⟩
def ty7:TI:=⟨true,4,24,(.struct [(0,1),(1,1),(2,1),(3,1)]),(.agg [(.int .i64 0),(.int .i64 0),(.bool false),(.int .u8 0)]),true,[2,3,4,6],[(.int .i64),(.int .i64), .bool,(.int .u8)]⟩
def ty8:TI:=⟨true,4,24,(.struct [(0,1),(1,1),(2,1),(3,1)]),(.agg [(.int .i64 0),(.int .i64 0),(.bool false),(.int .u8 0)]),true,[2,3,4,6],[(.int .i64),(.int .i64), .bool,(.int .u8)]⟩
def ty9:TI:=⟨true,1,16, .str,(.str []),true,[],[]⟩
def nl:TI:=⟨true,1,16, .str,(.str []),true,[],[]⟩
def mU:TI:=⟨true,1,16, .str,(.str []),true,[],[]⟩
def nc:TI:=⟨true,1,8,(.int .u64),(.int .u64 0),true,[],[]⟩
def mS:TI:=⟨true,2,24,(.struct [(0,1),(1,1)]),(.agg [(.str []),(.int .u64 0)]),true,[9,12],[]⟩
def mT:TI:=⟨true,2,24,(.struct [(0,1),(1,1)]),(.agg [(.str []),(.int .u64 0)]),true,[9,12],[]⟩
def nJ:TI:=⟨true,1,8,(.ptr 319), .nilp,true,[],[]⟩
def m8:TI:=⟨true,1,8,(.ptr 322), .nilp,true,[],[]⟩
def na:TI:=⟨true,1,8,(.ptr 330), .nilp,true,[],[]⟩
def nR:TI:=⟨true,1,8,(.struct [(0,1)]),(.agg [.nilp]),true,[17],[]⟩
def nQ:TI:=⟨true,1,8,(.struct [(0,1)]),(.agg [.nilp]),true,[17],[]⟩
def nh:TI:=⟨true,1,4,(.int .i32),(.int .i32 0),true,[],[]⟩
def nw:TI:=⟨true,1,24,(.slice 3 1 8), .nilsl,true,[],[]⟩
def nS:TI:=⟨true,1,24,(.slice 9 1 16), .nilsl,true,[],[]⟩
def nd:TI:=⟨true,1,24,(.slice 59 3 48), .nilsl,true,[],[]⟩
def nV:TI:=⟨true,1,24,(.slice 68 4 64), .nilsl,true,[],[]⟩
def nO:TI:=⟨true,11,128,(.struct [(0,1),(1,1),(2,1),(3,1),(4,1),(5,1),(6,1),(7,1),(8,1),(9,1),(10,1)]),(.agg [(.int .i64 0),(.str []),(.int .i64 0), .nilsl,(.bool false),(.bool false),(.bool false), .nilsl,(.int .i64 0),(.bool false), .nilsl]),true,[3,9,3,23,4,4,4,24,3,4,25],[]⟩
def nN:TI:=⟨true,11,128,(.struct [(0,1),(1,1),(2,1),(3,1),(4,1),(5,1),(6,1),(7,1),(8,1),(9,1),(10,1)]),(.agg [(.int .i64 0),(.str []),(.int .i64 0), .nilsl,(.bool false),(.bool false),(.bool false), .nilsl,(.int .i64 0),(.bool false), .nilsl]),true,[3,9,3,23,4,4,4,24,3,4,25],[]⟩
def mX:TI:=⟨true,1,8,(.ptr 78), .nilp,true,[],[]⟩
def m9:TI:=⟨true,1,8,(.int .i64),(.int .i64 0),true,[],[]⟩
def nU:TI:=⟨true,1,0, .flat,(.tuple [(.str []),(.int .i64 0)]),true,[],[]⟩
def nW:TI:=⟨true,3,40,(.struct [(0,1),(1,1),(2,1)]),(.agg [(.int .i64 0),(.int .i64 0), .nilsl]),true,[3,3,23],[]⟩
def nL:TI:=⟨true,3,40,(.struct [(0,1),(1,1),(2,1)]),(.agg [(.int .i64 0),(.int .i64 0), .nilsl]),true,[3,3,23],[]⟩
def nx:TI:=⟨true,5,72,(.struct [(0,1),(1,1),(2,3)]),(.agg [(.int .i64 0), .nilsl,(.int .i64 0),(.int .i64 0), .nilsl]),true,[3,22,43],[]⟩
def ny:TI:=⟨true,5,72,(.struct [(0,1),(1,1),(2,3)]),(.agg [(.int .i64 0), .nilsl,(.int .i64 0),(.int .i64 0), .nilsl]),true,[3,22,43],[]⟩
def mY:TI:=⟨true,1,24,(.slice 141 1 24), .nilsl,true,[],[]⟩
def nP:TI:=⟨true,1,24,(.struct [(0,1)]),(.agg [.nilsl]),true,[55],[]⟩
def nT:TI:=⟨true,1,24,(.struct [(0,1)]),(.agg [.nilsl]),true,[55],[]⟩
def nu:TI:=⟨true,3,48,(.struct [(0,1),(1,1),(2,1)]),(.agg [(.int .i64 0),(.str []), .nilsl]),true,[3,9,57],[]⟩
def nM:TI:=⟨true,3,48,(.struct [(0,1),(1,1),(2,1)]),(.agg [(.int .i64 0),(.str []), .nilsl]),true,[3,9,57],[]⟩
def nz:TI:=⟨true,1,24,(.slice 27 11 128), .nilsl,true,[],[]⟩
def nq:TI:=⟨true,3,40,(.struct [(0,1),(1,1),(2,1)]),(.agg [(.int .i64 0),(.str []),(.str [])]),true,[3,9,9],[(.int .i64), .str, .str]⟩
def ne:TI:=⟨true,3,40,(.struct [(0,1),(1,1),(2,1)]),(.agg [(.int .i64 0),(.str []),(.str [])]),true,[3,9,9],[(.int .i64), .str, .str]⟩
def nt:TI:=⟨true,4,64,(.struct [(0,1),(1,3)]),(.agg [.nilsl,(.int .i64 0),(.str []),(.str [])]),true,[57,65],[]⟩
def np:TI:=⟨true,4,64,(.struct [(0,1),(1,3)]),(.agg [.nilsl,(.int .i64 0),(.str []),(.str [])]),true,[57,65],[]⟩
def nB:TI:=⟨true,1,0, .flat,(.tuple [.nilsl,(.int .i64 0)]),true,[],[]⟩
def mV:TI:=⟨true,2,32,(.struct [(0,1),(1,1)]),(.agg [.nilsl,(.int .i64 0)]),true,[22,3],[]⟩
def nK:TI:=⟨true,2,32,(.struct [(0,1),(1,1)]),(.agg [.nilsl,(.int .i64 0)]),true,[22,3],[]⟩
def mW:TI:=⟨true,2,24,(.struct [(0,1),(1,1)]),(.agg [(.str []),(.int .i64 0)]),true,[9,33],[.str,(.int .i64)]⟩
def nk:TI:=⟨true,2,24,(.struct [(0,1),(1,1)]),(.agg [(.str []),(.int .i64 0)]),true,[9,33],[.str,(.int .i64)]⟩
def nC:TI:=⟨true,1,8,(.ptr 81), .nilp,true,[],[]⟩
def eZ:TI:=⟨true,1,24,(.slice 5 1 1), .nilsl,true,[],[]⟩
def fu:TI:=⟨true,3,40,(.struct [(0,1),(1,1),(2,1)]),(.agg [(.int .i64 0),(.str []),(.str [])]),true,[3,9,9],[(.int .i64), .str, .str]⟩
def fb:TI:=⟨true,3,40,(.struct [(0,1),(1,1),(2,1)]),(.agg [(.int .i64 0),(.str []),(.str [])]),true,[3,9,9],[(.int .i64), .str, .str]⟩
def hZ:TI:=⟨true,1,24,(.slice 103 3 40), .nilsl,true,[],[]⟩
def fZ:TI:=⟨true,1,0, .flat,(.tuple [.nilsl,(.int .i64 0)]),true,[],[]⟩
def fR:TI:=⟨true,1,8,(.ptr 148), .nilp,true,[],[]⟩
def lL:TI:=⟨true,1,8,(.ptr 116), .nilp,true,[],[]⟩
def fi:TI:=⟨true,3,40,(.struct [(0,1),(1,1),(2,1)]),(.agg [.nilsl,(.int .i64 0),(.bool false)]),true,[106,3,4],[]⟩
def lD:TI:=⟨true,3,40,(.struct [(0,1),(1,1),(2,1)]),(.agg [.nilsl,(.int .i64 0),(.bool false)]),true,[106,3,4],[]⟩
def mg:TI:=⟨true,1,0, .flat,(.tuple [(.int .i64 0),(.int .i64 0)]),true,[],[]⟩
def fT:TI:=⟨true,1,0, .flat,(.tuple [.nilsl,(.int .i64 0)]),true,[],[]⟩
def mj:TI:=⟨true,3,40,(.struct [(0,1),(1,1),(2,1)]),(.agg [(.str []),(.int .i64 0),(.str [])]),true,[9,3,9],[.str,(.int .i64), .str]⟩
def hQ:TI:=⟨true,3,40,(.struct [(0,1),(1,1),(2,1)]),(.agg [(.str []),(.int .i64 0),(.str [])]),true,[9,3,9],[.str,(.int .i64), .str]⟩
def fX:TI:=⟨true,1,24,(.slice 140 3 40), .nilsl,true,[],[]⟩
def mM:TI:=⟨true,2,32,(.struct [(0,1),(1,1)]),(.agg [.nilsl,(.bool false)]),true,[106,4],[]⟩
def lf:TI:=⟨true,2,32,(.struct [(0,1),(1,1)]),(.agg [.nilsl,(.bool false)]),true,[106,4],[]⟩
def fI:TI:=⟨true,6,48,(.struct [(0,1),(1,1),(2,1),(3,1),(4,1),(5,1)]),(.agg [(.int .i64 0),(.int .i64 0),(.int .i64 0),(.int .i64 0),(.int .i64 0),(.int .i64 0)]),true,[3,3,3,3,3,3],[(.int .i64),(.int .i64),(.int .i64),(.int .i64),(.int .i64),(.int .i64)]⟩
def lM:TI:=⟨true,6,48,(.struct [(0,1),(1,1),(2,1),(3,1),(4,1),(5,1)]),(.agg [(.int .i64 0),(.int .i64 0),(.int .i64 0),(.int .i64 0),(.int .i64 0),(.int .i64 0)]),true,[3,3,3,3,3,3],[(.int .i64),(.int .i64),(.int .i64),(.int .i64),(.int .i64),(.int .i64)]⟩
def fP:TI:=⟨true,1,8,(.int .u64),(.int .u64 0),true,[],[]⟩
def fV:TI:=⟨true,1,0, .flat,(.tuple [.nilsl,(.bool false)]),true,[],[]⟩
def ll:TI:=⟨true,1,0, .flat,(.tuple [(.str []),(.int .i64 0),(.int .i64 0)]),true,[],[]⟩
def lE:TI:=⟨true,1,8,(.int .u64),(.int .u64 0),true,[],[]⟩
def lB:TI:=⟨true,1,8,(.int .i64),(.int .i64 0),true,[],[]⟩
def lv:TI:=⟨true,1,0, .flat,(.tuple [(.bool false),(.int .i64 0)]),true,[],[]⟩
def fh:TI:=⟨true,2,32,(.struct [(0,1),(1,1)]),(.agg [.nilsl,(.int .i64 0)]),true,[106,3],[]⟩
def fA:TI:=⟨true,2,32,(.struct [(0,1),(1,1)]),(.agg [.nilsl,(.int .i64 0)]),true,[106,3],[]⟩
def mH:TI:=⟨true,1,4,(.int .u32),(.int .u32 0),true,[],[]⟩
def mB:TI:=⟨true,1,24,(.slice 223 1 4), .nilsl,true,[],[]⟩
def md:TI:=⟨true,1,0, .flat,(.tuple [.nilsl,(.int .i64 0)]),true,[],[]⟩
def mv:TI:=⟨true,3,40,(.struct [(0,3)]),(.agg [(.int .i64 0),(.str []),(.str [])]),true,[65],[]⟩
def fe:TI:=⟨true,3,40,(.struct [(0,3)]),(.agg [(.int .i64 0),(.str []),(.str [])]),true,[65],[]⟩
def fm:TI:=⟨true,1,8,(.ptr 231), .nilp,true,[],[]⟩
def fJ:TI:=⟨true,1,24,(.slice 232 1 8), .nilsl,true,[],[]⟩
def mG:TI:=⟨true,1,24,(.slice 23 1 24), .nilsl,true,[],[]⟩
def fB:TI:=⟨true,3,56,(.struct [(0,1),(1,1),(2,1)]),(.agg [(.str []),(.str []), .nilsl]),true,[9,9,236],[]⟩
def lX:TI:=⟨true,3,56,(.struct [(0,1),(1,1),(2,1)]),(.agg [(.str []),(.str []), .nilsl]),true,[9,9,236],[]⟩
def lc:TI:=⟨true,12,96,(.arr 12 1),(.agg [(.int .i64 0),(.int .i64 0),(.int .i64 0),(.int .i64 0),(.int .i64 0),(.int .i64 0),(.int .i64 0),(.int .i64 0),(.int .i64 0),(.int .i64 0),(.int .i64 0),(.int .i64 0)]),true,[],[]⟩
def fD:TI:=⟨true,1,8,(.ptr 243), .nilp,true,[],[]⟩
def mw:TI:=⟨true,2,32,(.struct [(0,1),(1,1)]),(.agg [.nilp, .nilsl]),true,[241,101],[]⟩
def fF:TI:=⟨true,2,32,(.struct [(0,1),(1,1)]),(.agg [.nilp, .nilsl]),true,[241,101],[]⟩
def ff:TI:=⟨true,1,0, .flat,(.tuple [(.str []),(.str []),(.bool false)]),true,[],[]⟩
def fY:TI:=⟨true,1,1,(.int .i8),(.int .i8 0),true,[],[]⟩
def mb:TI:=⟨true,1,8,(.ptr 214), .nilp,true,[],[]⟩
def lQ:TI:=⟨true,64,256,(.arr 64 1),(.agg [(.int .u32 0),(.int .u32 0),(.int .u32 0),(.int .u32 0),(.int .u32 0),(.int .u32 0),(.int .u32 0),(.int .u32 0),(.int .u32 0),(.int .u32 0),(.int .u32 0),(.int .u32 0),(.int .u32 0),(.int .u32 0),(.int .u32 0),(.int .u32 0),(.int .u32 0),(.int .u32 0),(.int .u32 0),(.int .u32 0),(.int .u32 0),(.int .u32 0),(.int .u32 0),(.int .u32 0),(.int .u32 0),(.int .u32 0),(.int .u32 0),(.int .u32 0),(.int .u32 0),(.int .u32 0),(.int .u32 0),(.int .u32 0),(.int .u32 0),(.int .u32 0),(.int .u32 0),(.int .u32 0),(.int .u32 0),(.int .u32 0),(.int .u32 0),(.int .u32 0),(.int .u32 0),(.int .u32 0),(.int .u32 0),(.int .u32 0),(.int .u32 0),(.int .u32 0),(.int .u32 0),(.int .u32 0),(.int .u32 0),(.int .u32 0),(.int .u32 0),(.int .u32 0),(.int .u32 0),(.int .u32 0),(.int .u32 0),(.int .u32 0),(.int .u32 0),(.int .u32 0),(.int .u32 0),(.int .u32 0),(.int .u32 0),(.int .u32 0),(.int .u32 0),(.int .u32 0)]),true,[],[]⟩
def mt:TI:=⟨true,1,0, .flat,(.tuple [(.str []),(.bool false)]),true,[],[]⟩
def fL:TI:=⟨true,1,0, .flat,(.tuple [(.str []),(.str [])]),true,[],[]⟩
def mr:TI:=⟨true,1,8,(.ptr 5), .nilp,true,[],[]⟩
def lP:TI:=⟨true,1,8, .flat, .nilp,true,[],[]⟩
def fj:TI:=⟨true,1,0, .flat,(.tuple [(.int .i32 0),(.int .i64 0)]),true,[],[]⟩
def fN:TI:=⟨true,24,24,(.arr 24 1),(.agg [(.int .u8 0),(.int .u8 0),(.int .u8 0),(.int .u8 0),(.int .u8 0),(.int .u8 0),(.int .u8 0),(.int .u8 0),(.int .u8 0),(.int .u8 0),(.int .u8 0),(.int .u8 0),(.int .u8 0),(.int .u8 0),(.int .u8 0),(.int .u8 0),(.int .u8 0),(.int .u8 0),(.int .u8 0),(.int .u8 0),(.int .u8 0),(.int .u8 0),(.int .u8 0),(.int .u8 0)]),true,[],[]⟩
def mE:TI:=⟨true,1,0, .flat,(.tuple [.nilsl,(.str [])]),true,[],[]⟩
def mz:TI:=⟨true,20,160,(.arr 20 1),(.agg [(.int .u64 0),(.int .u64 0),(.int .u64 0),(.int .u64 0),(.int .u64 0),(.int .u64 0),(.int .u64 0),(.int .u64 0),(.int .u64 0),(.int .u64 0),(.int .u64 0),(.int .u64 0),(.int .u64 0),(.int .u64 0),(.int .u64 0),(.int .u64 0),(.int .u64 0),(.int .u64 0),(.int .u64 0),(.int .u64 0)]),true,[],[]⟩
def lW:TI:=⟨true,65,65,(.arr 65 1),(.agg [(.int .u8 0),(.int .u8 0),(.int .u8 0),(.int .u8 0),(.int .u8 0),(.int .u8 0),(.int .u8 0),(.int .u8 0),(.int .u8 0),(.int .u8 0),(.int .u8 0),(.int .u8 0),(.int .u8 0),(.int .u8 0),(.int .u8 0),(.int .u8 0),(.int .u8 0),(.int .u8 0),(.int .u8 0),(.int .u8 0),(.int .u8 0),(.int .u8 0),(.int .u8 0),(.int .u8 0),(.int .u8 0),(.int .u8 0),(.int .u8 0),(.int .u8 0),(.int .u8 0),(.int .u8 0),(.int .u8 0),(.int .u8 0),(.int .u8 0),(.int .u8 0),(.int .u8 0),(.int .u8 0),(.int .u8 0),(.int .u8 0),(.int .u8 0),(.int .u8 0),(.int .u8 0),(.int .u8 0),(.int .u8 0),(.int .u8 0),(.int .u8 0),(.int .u8 0),(.int .u8 0),(.int .u8 0),(.int .u8 0),(.int .u8 0),(.int .u8 0),(.int .u8 0),(.int .u8 0),(.int .u8 0),(.int .u8 0),(.int .u8 0),(.int .u8 0),(.int .u8 0),(.int .u8 0),(.int .u8 0),(.int .u8 0),(.int .u8 0),(.int .u8 0),(.int .u8 0),(.int .u8 0)]),true,[],[]⟩
def lG:TI:=⟨true,1,8,(.int .i64),(.int .i64 0),true,[],[]⟩
def mF:TI:=⟨true,1,0, .flat,(.tuple [(.int .i64 0),(.int .i64 0)]),true,[],[]⟩
def mC:TI:=⟨true,1,0, .flat,(.tuple [(.int .i64 0),(.bool false)]),true,[],[]⟩
def ld:TI:=⟨true,256,256,(.arr 256 1),(.agg [(.int .u8 0),(.int .u8 0),(.int .u8 0),(.int .u8 0),(.int .u8 0),(.int .u8 0),(.int .u8 0),(.int .u8 0),(.int .u8 0),(.int .u8 0),(.int .u8 0),(.int .u8 0),(.int .u8 0),(.int .u8 0),(.int .u8 0),(.int .u8 0),(.int .u8 0),(.int .u8 0),(.int .u8 0),(.int .u8 0),(.int .u8 0),(.int .u8 0),(.int .u8 0),(.int .u8 0),(.int .u8 0),(.int .u8 0),(.int .u8 0),(.int .u8 0),(.int .u8 0),(.int .u8 0),(.int .u8 0),(.int .u8 0),(.int .u8 0),(.int .u8 0),(.int .u8 0),(.int .u8 0),(.int .u8 0),(.int .u8 0),(.int .u8 0),(.int .u8 0),(.int .u8 0),(.int .u8 0),(.int .u8 0),(.int .u8 0),(.int .u8 0),(.int .u8 0),(.int .u8 0),(.int .u8 0),(.int .u8 0),(.int .u8 0),(.int .u8 0),(.int .u8 0),(.int .u8 0),(.int .u8 0),(.int .u8 0),(.int .u8 0),(.int .u8 0),(.int .u8 0),(.int .u8 0),(.int .u8 0),(.int .u8 0),(.int .u8 0),(.int .u8 0),(.int .u8 0),(.int .u8 0),(.int .u8 0),(.int .u8 0),(.int .u8 0),(.int .u8 0),(.int .u8 0),(.int .u8 0),(.int .u8 0),(.int .u8 0),(.int .u8 0),(.int .u8 0),(.int .u8 0),(.int .u8 0),(.int .u8 0),(.int .u8 0),(.int .u8 0),(.int .u8 0),(.int .u8 0),(.int .u8 0),(.int .u8 0),(.int .u8 0),(.int .u8 0),(.int .u8 0),(.int .u8 0),(.int .u8 0),(.int .u8 0),(.int .u8 0),(.int .u8 0),(.int .u8 0),(.int .u8 0),(.int .u8 0),(.int .u8 0),(.int .u8 0),(.int .u8 0),(.int .u8 0),(.int .u8 0),(.int .u8 0),(.int .u8 0),(.int .u8 0),(.int .u8 0),(.int .u8 0),(.int .u8 0),(.int .u8 0),(.int .u8 0),(.int .u8 0),(.int .u8 0),(.int .u8 0),(.int .u8 0),(.int .u8 0),(.int .u8 0),(.int .u8 0),(.int .u8 0),(.int .u8 0),(.int .u8 0),(.int .u8 0),(.int .u8 0),(.int .u8 0),(.int .u8 0),(.int .u8 0),(.int .u8 0),(.int .u8 0),(.int .u8 0),(.int .u8 0),(.int .u8 0),(.int .u8 0),(.int .u8 0),(.int .u8 0),(.int .u8 0),(.int .u8 0),(.int .u8 0),(.int .u8 0),(.int .u8 0),(.int .u8 0),(.int .u8 0),(.int .u8 0),(.int .u8 0),(.int .u8 0),(.int .u8 0),(.int .u8 0),(.int .u8 0),(.int .u8 0),(.int .u8 0),(.int .u8 0),(.int .u8 0),(.int .u8 0),(.int .u8 0),(.int .u8 0),(.int .u8 0),(.int .u8 0),(.int .u8 0),(.int .u8 0),(.int .u8 0),(.int .u8 0),(.int .u8 0),(.int .u8 0),(.int .u8 0),(.int .u8 0),(.int .u8 0),(.int .u8 0),(.int .u8 0),(.int .u8 0),(.int .u8 0),(.int .u8 0),(.int .u8 0),(.int .u8 0),(.int .u8 0),(.int .u8 0),(.int .u8 0),(.int .u8 0),(.int .u8 0),(.int .u8 0),(.int .u8 0),(.int .u8 0),(.int .u8 0),(.int .u8 0),(.int .u8 0),(.int .u8 0),(.int .u8 0),(.int .u8 0),(.int .u8 0),(.int .u8 0),(.int .u8 0),(.int .u8 0),(.int .u8 0),(.int .u8 0),(.int .u8 0),(.int .u8 0),(.int .u8 0),(.int .u8 0),(.int .u8 0),(.int .u8 0),(.int .u8 0),(.int .u8 0),(.int .u8 0),(.int .u8 0),(.int .u8 0),(.int .u8 0),(.int .u8 0),(.int .u8 0),(.int .u8 0),(.int .u8 0),(.int .u8 0),(.int .u8 0),(.int .u8 0),(.int .u8 0),(.int .u8 0),(.int .u8 0),(.int .u8 0),(.int .u8 0),(.int .u8 0),(.int .u8 0),(.int .u8 0),(.int .u8 0),(.int .u8 0),(.int .u8 0),(.int .u8 0),(.int .u8 0),(.int .u8 0),(.int .u8 0),(.int .u8 0),(.int .u8 0),(.int .u8 0),(.int .u8 0),(.int .u8 0),(.int .u8 0),(.int .u8 0),(.int .u8 0),(.int .u8 0),(.int .u8 0),(.int .u8 0),(.int .u8 0),(.int .u8 0),(.int .u8 0),(.int .u8 0),(.int .u8 0),(.int .u8 0),(.int .u8 0),(.int .u8 0),(.int .u8 0),(.int .u8 0),(.int .u8 0),(.int .u8 0),(.int .u8 0),(.int .u8 0),(.int .u8 0),(.int .u8 0),(.int .u8 0),(.int .u8 0),(.int .u8 0),(.int .u8 0),(.int .u8 0),(.int .u8 0)]),true,[],[]⟩
def mL:TI:=⟨true,2,2,(.struct [(0,1),(1,1)]),(.agg [(.int .u8 0),(.int .u8 0)]),true,[5,5],[(.int .u8),(.int .u8)]⟩
def mP:TI:=⟨true,2,2,(.struct [(0,1),(1,1)]),(.agg [(.int .u8 0),(.int .u8 0)]),true,[5,5],[(.int .u8),(.int .u8)]⟩
def fg:TI:=⟨true,32,32,(.arr 16 2),(.agg [(.int .u8 0),(.int .u8 0),(.int .u8 0),(.int .u8 0),(.int .u8 0),(.int .u8 0),(.int .u8 0),(.int .u8 0),(.int .u8 0),(.int .u8 0),(.int .u8 0),(.int .u8 0),(.int .u8 0),(.int .u8 0),(.int .u8 0),(.int .u8 0),(.int .u8 0),(.int .u8 0),(.int .u8 0),(.int .u8 0),(.int .u8 0),(.int .u8 0),(.int .u8 0),(.int .u8 0),(.int .u8 0),(.int .u8 0),(.int .u8 0),(.int .u8 0),(.int .u8 0),(.int .u8 0),(.int .u8 0),(.int .u8 0)]),true,[],[]⟩
def fH:TI:=⟨true,1,0, .flat,(.tuple [(.int .u32 0),(.int .u32 0)]),true,[],[]⟩
def lk:TI:=⟨true,1,8,(.int .u64),(.int .u64 0),true,[],[]⟩
def fv:TI:=⟨true,1,8,(.ptr 3), .nilp,true,[],[]⟩
def mc:TI:=⟨true,32,32,(.arr 32 1),(.agg [(.int .u8 0),(.int .u8 0),(.int .u8 0),(.int .u8 0),(.int .u8 0),(.int .u8 0),(.int .u8 0),(.int .u8 0),(.int .u8 0),(.int .u8 0),(.int .u8 0),(.int .u8 0),(.int .u8 0),(.int .u8 0),(.int .u8 0),(.int .u8 0),(.int .u8 0),(.int .u8 0),(.int .u8 0),(.int .u8 0),(.int .u8 0),(.int .u8 0),(.int .u8 0),(.int .u8 0),(.int .u8 0),(.int .u8 0),(.int .u8 0),(.int .u8 0),(.int .u8 0),(.int .u8 0),(.int .u8 0),(.int .u8 0)]),true,[],[]⟩
def mO:TI:=⟨true,64,64,(.arr 64 1),(.agg [(.int .u8 0),(.int .u8 0),(.int .u8 0),(.int .u8 0),(.int .u8 0),(.int .u8 0),(.int .u8 0),(.int .u8 0),(.int .u8 0),(.int .u8 0),(.int .u8 0),(.int .u8 0),(.int .u8 0),(.int .u8 0),(.int .u8 0),(.int .u8 0),(.int .u8 0),(.int .u8 0),(.int .u8 0),(.int .u8 0),(.int .u8 0),(.int .u8 0),(.int .u8 0),(.int .u8 0),(.int .u8 0),(.int .u8 0),(.int .u8 0),(.int .u8 0),(.int .u8 0),(.int .u8 0),(.int .u8 0),(.int .u8 0),(.int .u8 0),(.int .u8 0),(.int .u8 0),(.int .u8 0),(.int .u8 0),(.int .u8 0),(.int .u8 0),(.int .u8 0),(.int .u8 0),(.int .u8 0),(.int .u8 0),(.int .u8 0),(.int .u8 0),(.int .u8 0),(.int .u8 0),(.int .u8 0),(.int .u8 0),(.int .u8 0),(.int .u8 0),(.int .u8 0),(.int .u8 0),(.int .u8 0),(.int .u8 0),(.int .u8 0),(.int .u8 0),(.int .u8 0),(.int .u8 0),(.int .u8 0),(.int .u8 0),(.int .u8 0),(.int .u8 0),(.int .u8 0)]),true,[],[]⟩
def lg:TI:=⟨true,1,8,(.ptr 307), .nilp,true,[],[]⟩
def lV:TI:=⟨true,1,0, .flat,(.tuple [(.int .i64 0),(.int .i64 0)]),true,[],[]⟩
def fC:TI:=⟨true,4,40,(.struct [(0,1),(1,1),(2,1),(3,1)]),(.agg [.nilp, .nilp, .nilp,(.str [])]),true,[17,17,17,9],[]⟩
def f0:TI:=⟨true,4,40,(.struct [(0,1),(1,1),(2,1),(3,1)]),(.agg [.nilp, .nilp, .nilp,(.str [])]),true,[17,17,17,9],[]⟩
def fE:TI:=⟨true,0,0,(.arr 0 1),(.agg []),true,[],[]⟩
def mh:TI:=⟨true,0,0,(.struct [(0,0)]),(.agg []),true,[320],[]⟩
def fW:TI:=⟨true,0,0,(.struct [(0,0)]),(.agg []),true,[320],[]⟩
def lq:TI:=⟨true,1,1,(.int .u8),(.int .u8 0),true,[],[]⟩
def hP:TI:=⟨true,1,1,(.int .u8),(.int .u8 0),true,[],[]⟩
def lS:TI:=⟨true,1,4,(.int .i32),(.int .i32 0),true,[],[]⟩
def fd:TI:=⟨true,1,4,(.int .i32),(.int .i32 0),true,[],[]⟩
def mN:TI:=⟨true,11,48,(.struct [(0,1),(1,1),(2,1),(3,1),(4,1),(5,1),(6,1),(7,1),(8,1),(9,1),(10,1)]),(.agg [(.int .u64 0),(.int .u64 0),(.int .u32 0),(.int .u8 0),(.int .u8 0),(.int .u8 0),(.int .u8 0), .nilfunc, .nilp,(.int .i32 0),(.int .i32 0)]),true,[12,12,223,324,5,5,325,326,267,327,328],[]⟩
def fy:TI:=⟨true,11,48,(.struct [(0,1),(1,1),(2,1),(3,1),(4,1),(5,1),(6,1),(7,1),(8,1),(9,1),(10,1)]),(.agg [(.int .u64 0),(.int .u64 0),(.int .u32 0),(.int .u8 0),(.int .u8 0),(.int .u8 0),(.int .u8 0), .nilfunc, .nilp,(.int .i32 0),(.int .i32 0)]),true,[12,12,223,324,5,5,325,326,267,327,328],[]⟩
def KW:TT:=(.node (.node (.node (.node (.node (.node (.node .leaf 0 ty0 .leaf) 2 ty2 (.node .leaf 3 ty3 .leaf)) 4 ty4 (.node (.node .leaf 5 ty5 .leaf) 6 ty6 (.node .leaf 7 ty7 .leaf))) 8 ty8 (.node (.node (.node .leaf 9 ty9 .leaf) 10 nl (.node .leaf 11 mU .leaf)) 12 nc (.node (.node .leaf 13 mS .leaf) 14 mT (.node .leaf 15 nJ .leaf)))) 16 m8 (.node (.node (.node (.node .leaf 17 na .leaf) 18 nR (.node .leaf 19 nQ .leaf)) 21 nh (.node (.node .leaf 22 nw .leaf) 23 nS (.node .leaf 24 nd .leaf))) 25 nV (.node (.node (.node .leaf 26 nO .leaf) 27 nN (.node .leaf 31 mX .leaf)) 33 m9 (.node (.node .leaf 34 nU .leaf) 42 nW (.node .leaf 43 nL .leaf))))) 44 nx (.node (.node (.node (.node (.node .leaf 45 ny .leaf) 55 mY (.node .leaf 56 nP .leaf)) 57 nT (.node (.node .leaf 58 nu .leaf) 59 nM (.node .leaf 61 nz .leaf))) 64 nq (.node (.node (.node .leaf 65 ne .leaf) 67 nt (.node .leaf 68 np .leaf)) 71 nB (.node (.node .leaf 77 mV .leaf) 78 nK (.node .leaf 80 mW .leaf)))) 81 nk (.node (.node (.node (.node .leaf 87 nC .leaf) 101 eZ (.node .leaf 102 fu .leaf)) 103 fb (.node (.node .leaf 106 hZ .leaf) 107 fZ (.node .leaf 112 fR .leaf))) 113 lL (.node (.node (.node .leaf 115 fi .leaf) 116 lD (.node .leaf 117 mg .leaf)) 124 fT (.node (.node .leaf 139 mj .leaf) 140 hQ (.node .leaf 141 fX .leaf)))))) 147 mM (.node (.node (.node (.node (.node (.node .leaf 148 lf .leaf) 157 fI (.node .leaf 158 lM .leaf)) 164 fP (.node (.node .leaf 171 fV .leaf) 184 ll (.node .leaf 192 lE .leaf))) 200 lB (.node (.node (.node .leaf 211 lv .leaf) 213 fh (.node .leaf 214 fA .leaf)) 223 mH (.node (.node .leaf 224 mB .leaf) 228 md (.node .leaf 230 mv .leaf)))) 231 fe (.node (.node (.node (.node .leaf 233 fm .leaf) 234 fJ (.node .leaf 236 mG .leaf)) 237 fB (.node (.node .leaf 238 lX .leaf) 240 lc (.node .leaf 241 fD .leaf))) 242 mw (.node (.node (.node .leaf 243 fF .leaf) 249 ff (.node .leaf 252 fY .leaf)) 253 mb (.node (.node .leaf 254 lQ .leaf) 262 mt (.node .leaf 265 fL .leaf))))) 267 mr (.node (.node (.node (.node (.node .leaf 274 lP .leaf) 277 fj (.node .leaf 279 fN .leaf)) 282 mE (.node (.node .leaf 288 mz .leaf) 289 lW (.node .leaf 291 lG .leaf))) 292 mF (.node (.node (.node .leaf 295 mC .leaf) 301 ld (.node .leaf 302 mL .leaf)) 303 mP (.node (.node .leaf 304 fg .leaf) 305 fH (.node .leaf 307 lk .leaf)))) 311 fv (.node (.node (.node (.node .leaf 313 mc .leaf) 314 mO (.node .leaf 315 lg .leaf)) 316 lV (.node (.node .leaf 318 fC .leaf) 319 f0 (.node .leaf 320 fE .leaf))) 321 mh (.node (.node (.node .leaf 322 fW .leaf) 324 lq (.node .leaf 325 hP .leaf)) 327 lS (.node (.node .leaf 328 fd .leaf) 329 mN (.node .leaf 330 fy .leaf)))))))
set_option maxRecDepth 100000 in
theorem GP:KW.toList.map (fun p=>ti Tryz.prog p.1)=KW.toList.map (·.2):=by kernel_rfl
noncomputable def tyT (t:TypeId):TI:=match KW.get t with|some v=>v|none=>ti Tryz.prog t
theorem qz:tyT=ti Tryz.prog:=TT.eq_of GP
def UG:List Int:= [31,28,31,30,31,30,31,31,30,31,30,31]
def Uz:List Int:= [1,10,100,1000,10000,100000,1000000,10000000,100000000,1000000000,10000000000,100000000000,1000000000000,10000000000000,100000000000000,1000000000000000,10000000000000000,100000000000000000,1000000000000000000,10000000000000000000]
def gl0 (mx:Int) (g:Nat):List V:=match g with
 |0=>UG.map (vI .i64)
 |1=> [.int .i64 mx]
 |2=>Uz.map (vI .u64)
 |_=> []
section
variable {gl:Nat→List V} {ops:Array Oper} {K:AFr→St→Prop} {s0:St} {cs:List Code} {AQ:Exit→AFr→St→Prop} {id:Nat} {fr fr':AFr} {st st':St} {i:Nat} {x:Cfg} {E:List Nat} {B:List (List Nat)} {rest seen:List Nat} {fx:List (Nat×Option V×V)}
theorem kP (k:Nat) {q:Option V} {v:V} (hq:q=some v) (h:wg Tryz.prog gl ops (k+1) (ZH (jl tyT gl ops i k x) (xm ops k) v) K)
  (hik:Nat.ble i k=true:=by kernel_rfl) (he:pf tyT gl ops i k x=gS q (jl tyT gl ops i k x).2:=by kernel_rfl):wg Tryz.prog gl ops i x K:=KH qz k hq hik he h
theorem kC (k:Nat) (R:Ren) {f:FuncId} {args1:List V} {st1 st1':St} {r:V} (hc:xR Tryz.prog gl f args1 st1 (Out r st1'))
  (h:wg Tryz.prog gl ops (k+1) (jN (jl tyT gl ops i k x) (xm ops k) (V.ren R r) (fun st=>St.after R st st1')) K)
  (hb:goB tyT gl ops i k x R f args1 st1=true:=by kernel_rfl) (he:callL R st1 args1=goR tyT gl ops i k x R args1 st1:=by kernel_rfl):wg Tryz.prog gl ops i x K:=nD qz k R hc hb he h
theorem kA (k t:Nat) {α:Type} (c:α→List V) {l l2 l':List α} {e e2:TypeId} {sz bytes b2:Nat} {tok2:Tok} (h1:u4 bytes l l2=some l')
  (h:wg Tryz.prog gl ops (k+1) (jN (jl tyT gl ops i k x) (xm ops k) (.sl sz (l'.map c) (.fam t l'.length)) (fun st=>st.setFam t l'.length)) K)
  (hb:(Nat.ble i k&&kz tyT e sz bytes)=true:=by kernel_rfl) (he:((jl tyT gl ops i k x).2.fams[t]?,pf tyT gl ops i k x)=(some l.length,vf tyT (jl tyT gl ops i k x).2 (.slice e sz bytes) (.slice e2 sz b2) (.sl sz (l.map c) (.fam t l.length)) (.sl sz (l2.map c) tok2)):=by kernel_rfl):wg Tryz.prog gl ops i x K:=mJ qz k t c h1 hb he h
theorem kN (k:Nat) {α:Type} (c:α→List V) {l2 l':List α} {e e2:TypeId} {sz bytes b2:Nat} {tok2:Tok} (h1:u4 bytes [] l2=some l')
  (h:wg Tryz.prog gl ops (k+1) (jN (jl tyT gl ops i k x) (xm ops k) (.sl sz (l'.map c) (.fam (jl tyT gl ops i k x).2.fams.length l'.length)) (fun st=>st.pushFam l'.length)) K)
  (hb:(Nat.ble i k&&kz tyT e sz bytes)=true:=by kernel_rfl) (he:pf tyT gl ops i k x=vf tyT (jl tyT gl ops i k x).2 (.slice e sz bytes) (.slice e2 sz b2) .nilsl (.sl sz (l2.map c) tok2):=by kernel_rfl):wg Tryz.prog gl ops i x K:=eA qz k c h1 hb he h
theorem kS (k:Nat) (s:List UInt8) (h:wg Tryz.prog gl ops (k+1) (ZH (jl tyT gl ops i k x) (xm ops k) (.sl 1 ((s2b s).map (cI .u8)) .none)) K)
  (hik:Nat.ble i k=true:=by kernel_rfl) (he:pf tyT gl ops i k x=gS (some (.sl 1 (ji s) .none)) (jl tyT gl ops i k x).2:=by kernel_rfl):wg Tryz.prog gl ops i x K:=lh qz k s hik he h
theorem kB (k:Nat) (l:List Int) (h:wg Tryz.prog gl ops (k+1) (ZH (jl tyT gl ops i k x) (xm ops k) (.str (b2s l))) K)
  (hik:Nat.ble i k=true:=by kernel_rfl) (he:pf tyT gl ops i k x=gS (match qG (l.map (cI .u8))with|some b=>some (.str b)|none=>none) (jl tyT gl ops i k x).2:=by kernel_rfl):wg Tryz.prog gl ops i x K:=eY qz k l hik he h
theorem kV (k m f id:Nat) {cell:Option (List V)} {q:St→Option (V×St)} {v:V} {F:St→St} (hq:∀st:St,st.vars.length=m→st.fams.length=f→st.vars[id]? =cell→q st=some (v,F st))
  (h:wg Tryz.prog gl ops (k+1) (jN (jl tyT gl ops i k x) (xm ops k) v F) K) (hik:Nat.ble i k=true:=by kernel_rfl)
  (he:((jl tyT gl ops i k x).2.vars.length,(jl tyT gl ops i k x).2.fams.length,(jl tyT gl ops i k x).2.vars[id]?,pf tyT gl ops i k x)=(m,f,cell,q (jl tyT gl ops i k x).2):=by kernel_rfl):wg Tryz.prog gl ops i x K:=c8 qz k m f id hq hik he h
theorem dV {fx:List (Nat×Option V×V)} (hf:YK fx) (m f id:Nat) {cell:Option (List V)} {q:St→Option (V×St)} {v:V} {F:St→St} (hq:∀st:St,st.vars.length=m→st.fams.length=f→st.vars[id]? =cell→q st=some (v,F st))
  (h:aDC Tryz.prog gl ops E B rest (i::seen) (jN x (xm ops i) v F) K) (hb:E.contains i=true:=by kernel_rfl)
  (he:(x.2.vars.length,x.2.fams.length,x.2.vars[id]?,JI tyT gl ops i x)=(m,f,cell,q x.2):=by kernel_rfl)
  (hs:(stX tyT gl ops E B i seen (jN x (xm ops i) v F),svX ops E B fx i seen (jN x (xm ops i) v F))=(stY tyT gl ops E B fx i seen (jN x (xm ops i) v F),svY ops E B fx i seen (jN x (xm ops i) v F)):=by kernel_rfl):aDC Tryz.prog gl ops E B (i::rest) seen x K:=cQ qz hf m f id hq hb he hs h
theorem kE (R:Ren) (hb:c6 tyT gl ops i x s0 R fr' st'=true:=by kernel_rfl) (he:wkL R fr' st'=cC tyT gl ops i x R fr' st':=by kernel_rfl):wg Tryz.prog gl ops i x (toW s0 fr' st'):=lI qz R hb he
theorem reg {c:Code} (fr':AFr) (st':St) (h:wg Tryz.prog gl ops 0 (fr,st) (toW s0 fr' st')) (h2:zG Tryz.prog gl s0 (c::cs) AQ fr' st'):zG Tryz.prog gl s0 (.region id ops false::c::cs) AQ fr st:=UR fr' st' zR h h2
theorem DY (fr':AFr) (st':St) (hcl:Cl s0 (AQ .normal)) (h:wg Tryz.prog gl ops 0 (fr,st) (toW s0 fr' st')) (h2:zG Tryz.prog gl s0 [] AQ fr' st'):zG Tryz.prog gl s0 [.region id ops false] AQ fr st:=UR fr' st' (qm hcl) h h2
theorem drw {c:Code} (order E:List Nat) (B:List (List Nat)) (fr':AFr) (st':St) (h:aDC Tryz.prog gl ops E B order [] (fr,st) (toW s0 fr' st')) (h2:zG Tryz.prog gl s0 (c::cs) AQ fr' st')
  (hm:Tryz.prog.follows .mixedOrders=true:=by kernel_rfl) (hc:pb ops fr.n order E B=true:=by kernel_rfl):zG Tryz.prog gl s0 (.region id ops true::c::cs) AQ fr st:=Jn order E B fr' st' hm hc zR h h2
theorem dS (os:List Nat) (h:aDC Tryz.prog gl ops E B rest (os.reverse++seen) (eQ tyT gl ops E os x) K) (hb:eJ tyT gl ops E os x=true:=by kernel_rfl):aDC Tryz.prog gl ops E B (os++rest) seen x K:=fp qz os hb h
theorem dP {q:Option V} {v:V} (hq:q=some v) (h:aDC Tryz.prog gl ops E B rest (i::seen) (ZH x (xm ops i) v) K) (hb:KC ops E i=true:=by kernel_rfl) (he:JI tyT gl ops i x=gS q x.2:=by kernel_rfl):aDC Tryz.prog gl ops E B (i::rest) seen x K:=en qz hq hb he h
theorem dF (hf:YK fx) (h:aDC Tryz.prog gl ops E B rest (i::seen) (VH tyT gl ops i x) K) (hb:ee tyT gl ops E i x=true:=by kernel_rfl)
  (hs:(stX tyT gl ops E B i seen (VH tyT gl ops i x),svX ops E B fx i seen (VH tyT gl ops i x))=(stY tyT gl ops E B fx i seen (VH tyT gl ops i x),svY ops E B fx i seen (VH tyT gl ops i x)):=by kernel_rfl):aDC Tryz.prog gl ops E B (i::rest) seen x K:=fG qz hf hb hs h
theorem dC (hf:YK fx) (R:Ren) {f:FuncId} {args1:List V} {st1 st1':St} {r:V} (hc:xR Tryz.prog gl f args1 st1 (Out r st1')) (h:aDC Tryz.prog gl ops E B rest (i::seen) (jN x (xm ops i) (V.ren R r) (fun st=>St.after R st st1')) K)
  (hb:eB ops E i x R f args1 st1=true:=by kernel_rfl) (he:callL R st1 args1=cE ops i x R args1 st1:=by kernel_rfl)
  (hs:(stX tyT gl ops E B i seen (jN x (xm ops i) (V.ren R r) (fun st=>St.after R st st1')),svX ops E B fx i seen (jN x (xm ops i) (V.ren R r) (fun st=>St.after R st st1')))=(stY tyT gl ops E B fx i seen (jN x (xm ops i) (V.ren R r) (fun st=>St.after R st st1')),svY ops E B fx i seen (jN x (xm ops i) (V.ren R r) (fun st=>St.after R st st1'))):=by kernel_rfl):aDC Tryz.prog gl ops E B (i::rest) seen x K:=no qz hf R hc hb he hs h
theorem dA (hf:YK fx) (t:Nat) {α:Type} (c:α→List V) {l l2 l':List α} {e e2:TypeId} {sz bytes b2:Nat} {tok2:Tok} (h1:u4 bytes l l2=some l')
  (h:aDC Tryz.prog gl ops E B rest (i::seen) (jN x (xm ops i) (.sl sz (l'.map c) (.fam t l'.length)) (fun st=>st.setFam t l'.length)) K)
  (hb:(E.contains i&&kz tyT e sz bytes)=true:=by kernel_rfl) (he:(x.2.fams[t]?,JI tyT gl ops i x)=(some l.length,vf tyT x.2 (.slice e sz bytes) (.slice e2 sz b2) (.sl sz (l.map c) (.fam t l.length)) (.sl sz (l2.map c) tok2)):=by kernel_rfl)
  (hs:(stX tyT gl ops E B i seen (jN x (xm ops i) (.sl sz (l'.map c) (.fam t l'.length)) (fun st=>st.setFam t l'.length)),svX ops E B fx i seen (jN x (xm ops i) (.sl sz (l'.map c) (.fam t l'.length)) (fun st=>st.setFam t l'.length)))=(stY tyT gl ops E B fx i seen (jN x (xm ops i) (.sl sz (l'.map c) (.fam t l'.length)) (fun st=>st.setFam t l'.length)),svY ops E B fx i seen (jN x (xm ops i) (.sl sz (l'.map c) (.fam t l'.length)) (fun st=>st.setFam t l'.length))):=by kernel_rfl):aDC Tryz.prog gl ops E B (i::rest) seen x K:=fq qz hf t c h1 hb he hs h
theorem dE (R:Ren) (hb:wkB s0 R x.1 x.2 fr' st'=true:=by kernel_rfl) (he:wkL R fr' st'=wkR R x.1 x.2 fr' st':=by kernel_rfl):aDC Tryz.prog gl ops E B [] seen x (toW s0 fr' st'):=lC R hb he
theorem wk (R:Ren) (hb:wkB s0 R fr st fr' st'=true:=by kernel_rfl) (he:wkL R fr' st'=wkR R fr st fr' st':=by kernel_rfl):Wk s0 fr st fr' st':=Wk.gen R hb he
theorem rm {c:Code} (ks:List Nat) (new:List (Nat×V)) (st':St) (h:wg Tryz.prog gl ops 0 (fr,st) (toW s0 (XF fr ks new) st')) (h2:zG Tryz.prog gl s0 (c::cs) AQ (XF fr ks new) st'):zG Tryz.prog gl s0 (.region id ops false::c::cs) AQ fr st:=UR _ _ zR h h2
theorem rs {c:Code} (ks:List Nat) (new:List (Nat×V)) (h:wg Tryz.prog gl ops 0 (fr,st) (toW s0 (XF fr ks new) st)) (h2:zG Tryz.prog gl s0 (c::cs) AQ (XF fr ks new) st):zG Tryz.prog gl s0 (.region id ops false::c::cs) AQ fr st:=UR _ _ zR h h2
theorem rmN (hcl:Cl s0 (AQ .normal)) (ks:List Nat) (new:List (Nat×V)) (st':St) (h:wg Tryz.prog gl ops 0 (fr,st) (toW s0 (XF fr ks new) st')) (h2:zG Tryz.prog gl s0 [] AQ (XF fr ks new) st'):zG Tryz.prog gl s0 [.region id ops false] AQ fr st:=UR _ _ (qm hcl) h h2
theorem rsN (hcl:Cl s0 (AQ .normal)) (ks:List Nat) (new:List (Nat×V)) (h:wg Tryz.prog gl ops 0 (fr,st) (toW s0 (XF fr ks new) st)) (h2:zG Tryz.prog gl s0 [] AQ (XF fr ks new) st):zG Tryz.prog gl s0 [.region id ops false] AQ fr st:=UR _ _ (qm hcl) h h2
theorem zm {c:Code} (order E:List Nat) (B:List (List Nat)) (ks:List Nat) (new:List (Nat×V)) (st':St) (h:aDC Tryz.prog gl ops E B order [] (fr,st) (toW s0 (XF fr ks new) st')) (h2:zG Tryz.prog gl s0 (c::cs) AQ (XF fr ks new) st')
  (hm:Tryz.prog.follows .mixedOrders=true:=by kernel_rfl) (hc:pb ops fr.n order E B=true:=by kernel_rfl):zG Tryz.prog gl s0 (.region id ops true::c::cs) AQ fr st:=Jn order E B _ _ hm hc zR h h2
theorem zs {c:Code} (order E:List Nat) (B:List (List Nat)) (ks:List Nat) (new:List (Nat×V)) (h:aDC Tryz.prog gl ops E B order [] (fr,st) (toW s0 (XF fr ks new) st)) (h2:zG Tryz.prog gl s0 (c::cs) AQ (XF fr ks new) st)
  (hm:Tryz.prog.follows .mixedOrders=true:=by kernel_rfl) (hc:pb ops fr.n order E B=true:=by kernel_rfl):zG Tryz.prog gl s0 (.region id ops true::c::cs) AQ fr st:=Jn order E B _ _ hm hc zR h h2
theorem zmN (hcl:Cl s0 (AQ .normal)) (order E:List Nat) (B:List (List Nat)) (ks:List Nat) (new:List (Nat×V)) (st':St) (h:aDC Tryz.prog gl ops E B order [] (fr,st) (toW s0 (XF fr ks new) st')) (h2:zG Tryz.prog gl s0 [] AQ (XF fr ks new) st')
  (hm:Tryz.prog.follows .mixedOrders=true:=by kernel_rfl) (hc:pb ops fr.n order E B=true:=by kernel_rfl):zG Tryz.prog gl s0 [.region id ops true] AQ fr st:=Jn order E B _ _ hm hc (qm hcl) h h2
theorem bF {α:Type} {c:Operand} {x y:Code} {t:Bool} {a b:Option α} {r:α} (h:(if t=true then a else b)=some r) (h1:a=some r→zG Tryz.prog gl s0 (x::cs) AQ fr st) (h2:b=some r→zG Tryz.prog gl s0 (y::cs) AQ fr st) (hc:fr.eval c= .bool t:=by kernel_rfl):zG Tryz.prog gl s0 (.cond c x y::cs) AQ fr st:=
 eT t hc (fun hb=>h1 (Bk hb h)) (fun hb=>h2 (Bl hb h))
theorem bT {c:Operand} {x y:Code} (h1:zG Tryz.prog gl s0 (x::cs) AQ fr st) (hc:fr.eval c= .bool true:=by kernel_rfl):zG Tryz.prog gl s0 (.cond c x y::cs) AQ fr st:=eT true hc (fun _=>h1) (fun hb=>Bool.noConfusion hb)
theorem bN {c:Operand} {x y:Code} (h2:zG Tryz.prog gl s0 (y::cs) AQ fr st) (hc:fr.eval c= .bool false:=by kernel_rfl):zG Tryz.prog gl s0 (.cond c x y::cs) AQ fr st:=eT false hc (fun hb=>Bool.noConfusion hb) (fun _=>h2)
theorem gF {α:Type} (k d:Nat) {b:Bool} {a a':Option α} {r:α} (h:(if b=true then a else a')=some r) (ht:a=some r→wg Tryz.prog gl ops k (ZH (jl tyT gl ops i k x) (some d) (.bool true)) K) (hf:a'=some r→wg Tryz.prog gl ops k (ZH (jl tyT gl ops i k x) (some d) (.bool false)) K)
  (hik:Nat.ble i k=true:=by kernel_rfl) (he:JK tyT gl ops i k x=some (d, .bool b):=by kernel_rfl):wg Tryz.prog gl ops i x K:=P5 qz k d b hik he (fun hb=>ht (Bk hb h)) (fun hb=>hf (Bl hb h))
theorem hF {α:Type} (d:Nat) {b:Bool} {a a':Option α} {r:α} (h:(if b=true then a else a')=some r) (ht:a=some r→aDC Tryz.prog gl ops E B (i::rest) seen (ZH x (some d) (.bool true)) K) (hf:a'=some r→aDC Tryz.prog gl ops E B (i::rest) seen (ZH x (some d) (.bool false)) K)
  (he:Kq ops i x=some (d, .bool b):=by kernel_rfl):aDC Tryz.prog gl ops E B (i::rest) seen x K:=P1 d b he (fun hb=>ht (Bk hb h)) (fun hb=>hf (Bl hb h))
theorem fnc {f:FuncId} {fn:Func} {c:Code} {args:List V} {Q:V→St→Prop} (hf:Tryz.prog.funcs[f]? =some fn) (hb:fn.body=some c) (h:zG Tryz.prog gl st [c] (ZC Tryz.prog gl st fn Q) (Z4 fn.ntmps args) st)
  (hn : (fn.name == "runtime.NumGoroutine") = false := by kernel_rfl) (hl : Nat.ble args.length fn.ntmps = true := by kernel_rfl) : xR Tryz.prog gl f args st Q := xR.ofB hf hb hn (Nat.le_of_ble_eq_true hl) h
theorem rt {fn:Func} {r:V} (R:Ren)
  (hb:((kw tyT gl fr st fn.results.toList).isSome&&wkB s0 R ⟨1,[(0,Ky tyT gl fr st fn.results.toList)]⟩ st ⟨1,[(0,r)]⟩ st')=true:=by kernel_rfl)
  (hl:wkL R ⟨1,[(0,r)]⟩ st'=wkR R ⟨1,[(0,Ky tyT gl fr st fn.results.toList)]⟩ st ⟨1,[(0,r)]⟩ st':=by kernel_rfl):ZC Tryz.prog gl s0 fn (Out r st') .ret fr st:=cz qz R (.inr rfl) hb hl
theorem rno {fn:Func} {r:V} (R:Ren)
  (hb:((kw tyT gl fr st fn.results.toList).isSome&&wkB s0 R ⟨1,[(0,Ky tyT gl fr st fn.results.toList)]⟩ st ⟨1,[(0,r)]⟩ st')=true:=by kernel_rfl)
  (hl:wkL R ⟨1,[(0,r)]⟩ st'=wkR R ⟨1,[(0,Ky tyT gl fr st fn.results.toList)]⟩ st ⟨1,[(0,r)]⟩ st':=by kernel_rfl):ZC Tryz.prog gl s0 fn (Out r st') .normal fr st:=cz qz R (.inl rfl) hb hl
end
abbrev AC (mx:Int) (f:FuncId) (args:List V) (s:List (List V)) (r:V) (s':List (List V)):Prop:=xR Tryz.prog (gl0 mx) f args ⟨s,[]⟩ (Out r ⟨s',[]⟩)
abbrev ACf (mx:Int) (f:FuncId) (args:List V) (s:List (List V)) (r:V) (s':List (List V)) (fs:List Nat):Prop:=xR Tryz.prog (gl0 mx) f args ⟨s,[]⟩ (Out r ⟨s',fs⟩)
end Go.Abs
end
