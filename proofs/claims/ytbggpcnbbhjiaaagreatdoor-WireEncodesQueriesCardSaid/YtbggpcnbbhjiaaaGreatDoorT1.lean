/- The program's types and functions in the abstract reading, its records as Lean structures, and the contracts of library functions. -/
import Derived.Test.YtbggpcnbbhjiaaaGreatDoorS
set_option linter.unusedVariables false
set_option linter.unusedSimpArgs false
set_option linter.unnecessarySimpa false
section
namespace Go.Abs
open Go Go.Proofs
def ty0:TI:=⟨true,1,0, .flat,(.tuple []),true,[],[]⟩
def ty2:TI:=⟨true,1,8,(.int .i64),(.int .i64 0),true,[],[]⟩
def ty3:TI:=⟨true,1,8,(.int .i64),(.int .i64 0),true,[],[]⟩
def ty4:TI:=⟨true,1,1, .bool,(.bool false),true,[],[]⟩
def ty5:TI:=⟨true,1,1,(.int .u8),(.int .u8 0),true,[],[]⟩
def ty6:TI:=⟨true,1,1,(.int .u8),(.int .u8 0),true,[],[]⟩
def ty7:TI:=⟨true,4,24,(.struct [(0,1),(1,1),(2,1),(3,1)]),(.agg [(.int .i64 0),(.int .i64 0),(.bool false),(.int .u8 0)]),true,[2,3,4,6],[(.int .i64),(.int .i64), .bool,(.int .u8)]⟩
def ty8:TI:=⟨true,4,24,(.struct [(0,1),(1,1),(2,1),(3,1)]),(.agg [(.int .i64 0),(.int .i64 0),(.bool false),(.int .u8 0)]),true,[2,3,4,6],[(.int .i64),(.int .i64), .bool,(.int .u8)]⟩
def ty9:TI:=⟨true,1,16, .str,(.str []),true,[],[]⟩
def rl:TI:=⟨true,1,16, .str,(.str []),true,[],[]⟩
def sa:TI:=⟨true,1,16, .str,(.str []),true,[],[]⟩
def o7:TI:=⟨true,1,8,(.int .u64),(.int .u64 0),true,[],[]⟩
def o5:TI:=⟨true,2,24,(.struct [(0,1),(1,1)]),(.agg [(.str []),(.int .u64 0)]),true,[9,12],[]⟩
def rj:TI:=⟨true,2,24,(.struct [(0,1),(1,1)]),(.agg [(.str []),(.int .u64 0)]),true,[9,12],[]⟩
def sk:TI:=⟨true,1,8,(.ptr 319), .nilp,true,[],[]⟩
def rH:TI:=⟨true,1,8,(.ptr 322), .nilp,true,[],[]⟩
def rE:TI:=⟨true,1,8,(.ptr 330), .nilp,true,[],[]⟩
def rq:TI:=⟨true,1,8,(.struct [(0,1)]),(.agg [.nilp]),true,[17],[]⟩
def rQ:TI:=⟨true,1,8,(.struct [(0,1)]),(.agg [.nilp]),true,[17],[]⟩
def rZ:TI:=⟨true,1,4,(.int .i32),(.int .i32 0),true,[],[]⟩
def rG:TI:=⟨true,1,24,(.slice 3 1 8), .nilsl,true,[],[]⟩
def rV:TI:=⟨true,1,24,(.slice 9 1 16), .nilsl,true,[],[]⟩
def so:TI:=⟨true,1,24,(.slice 59 3 48), .nilsl,true,[],[]⟩
def ru:TI:=⟨true,1,24,(.slice 68 4 64), .nilsl,true,[],[]⟩
def rM:TI:=⟨true,11,128,(.struct [(0,1),(1,1),(2,1),(3,1),(4,1),(5,1),(6,1),(7,1),(8,1),(9,1),(10,1)]),(.agg [(.int .i64 0),(.str []),(.int .i64 0), .nilsl,(.bool false),(.bool false),(.bool false), .nilsl,(.int .i64 0),(.bool false), .nilsl]),true,[3,9,3,23,4,4,4,24,3,4,25],[]⟩
def oQ:TI:=⟨true,11,128,(.struct [(0,1),(1,1),(2,1),(3,1),(4,1),(5,1),(6,1),(7,1),(8,1),(9,1),(10,1)]),(.agg [(.int .i64 0),(.str []),(.int .i64 0), .nilsl,(.bool false),(.bool false),(.bool false), .nilsl,(.int .i64 0),(.bool false), .nilsl]),true,[3,9,3,23,4,4,4,24,3,4,25],[]⟩
def rI:TI:=⟨true,1,8,(.ptr 78), .nilp,true,[],[]⟩
def oY:TI:=⟨true,1,8,(.int .i64),(.int .i64 0),true,[],[]⟩
def oX:TI:=⟨true,1,0, .flat,(.tuple [(.str []),(.int .i64 0)]),true,[],[]⟩
def rW:TI:=⟨true,3,40,(.struct [(0,1),(1,1),(2,1)]),(.agg [(.int .i64 0),(.int .i64 0), .nilsl]),true,[3,3,23],[]⟩
def rz:TI:=⟨true,3,40,(.struct [(0,1),(1,1),(2,1)]),(.agg [(.int .i64 0),(.int .i64 0), .nilsl]),true,[3,3,23],[]⟩
def rg:TI:=⟨true,5,72,(.struct [(0,1),(1,1),(2,3)]),(.agg [(.int .i64 0), .nilsl,(.int .i64 0),(.int .i64 0), .nilsl]),true,[3,22,43],[]⟩
def rL:TI:=⟨true,5,72,(.struct [(0,1),(1,1),(2,3)]),(.agg [(.int .i64 0), .nilsl,(.int .i64 0),(.int .i64 0), .nilsl]),true,[3,22,43],[]⟩
def rf:TI:=⟨true,1,24,(.slice 141 1 24), .nilsl,true,[],[]⟩
def rX:TI:=⟨true,1,24,(.struct [(0,1)]),(.agg [.nilsl]),true,[55],[]⟩
def o6:TI:=⟨true,1,24,(.struct [(0,1)]),(.agg [.nilsl]),true,[55],[]⟩
def sf:TI:=⟨true,3,48,(.struct [(0,1),(1,1),(2,1)]),(.agg [(.int .i64 0),(.str []), .nilsl]),true,[3,9,57],[]⟩
def oV:TI:=⟨true,3,48,(.struct [(0,1),(1,1),(2,1)]),(.agg [(.int .i64 0),(.str []), .nilsl]),true,[3,9,57],[]⟩
def rY:TI:=⟨true,1,24,(.slice 27 11 128), .nilsl,true,[],[]⟩
def rS:TI:=⟨true,3,40,(.struct [(0,1),(1,1),(2,1)]),(.agg [(.int .i64 0),(.str []),(.str [])]),true,[3,9,9],[(.int .i64), .str, .str]⟩
def rJ:TI:=⟨true,3,40,(.struct [(0,1),(1,1),(2,1)]),(.agg [(.int .i64 0),(.str []),(.str [])]),true,[3,9,9],[(.int .i64), .str, .str]⟩
def oT:TI:=⟨true,4,64,(.struct [(0,1),(1,3)]),(.agg [.nilsl,(.int .i64 0),(.str []),(.str [])]),true,[57,65],[]⟩
def sn:TI:=⟨true,4,64,(.struct [(0,1),(1,3)]),(.agg [.nilsl,(.int .i64 0),(.str []),(.str [])]),true,[57,65],[]⟩
def rC:TI:=⟨true,1,0, .flat,(.tuple [.nilsl,(.int .i64 0)]),true,[],[]⟩
def ry:TI:=⟨true,2,32,(.struct [(0,1),(1,1)]),(.agg [.nilsl,(.int .i64 0)]),true,[22,3],[]⟩
def sd:TI:=⟨true,2,32,(.struct [(0,1),(1,1)]),(.agg [.nilsl,(.int .i64 0)]),true,[22,3],[]⟩
def rB:TI:=⟨true,2,24,(.struct [(0,1),(1,1)]),(.agg [(.str []),(.int .i64 0)]),true,[9,33],[.str,(.int .i64)]⟩
def oZ:TI:=⟨true,2,24,(.struct [(0,1),(1,1)]),(.agg [(.str []),(.int .i64 0)]),true,[9,33],[.str,(.int .i64)]⟩
def ro:TI:=⟨true,1,8,(.ptr 81), .nilp,true,[],[]⟩
def mI:TI:=⟨true,1,24,(.slice 5 1 1), .nilsl,true,[],[]⟩
def mb:TI:=⟨true,3,40,(.struct [(0,1),(1,1),(2,1)]),(.agg [(.int .i64 0),(.str []),(.str [])]),true,[3,9,9],[(.int .i64), .str, .str]⟩
def oI:TI:=⟨true,3,40,(.struct [(0,1),(1,1),(2,1)]),(.agg [(.int .i64 0),(.str []),(.str [])]),true,[3,9,9],[(.int .i64), .str, .str]⟩
def oJ:TI:=⟨true,1,24,(.slice 103 3 40), .nilsl,true,[],[]⟩
def nh:TI:=⟨true,1,0, .flat,(.tuple [.nilsl,(.int .i64 0)]),true,[],[]⟩
def nk:TI:=⟨true,1,8,(.ptr 148), .nilp,true,[],[]⟩
def lQ:TI:=⟨true,1,8,(.ptr 116), .nilp,true,[],[]⟩
def oG:TI:=⟨true,3,40,(.struct [(0,1),(1,1),(2,1)]),(.agg [.nilsl,(.int .i64 0),(.bool false)]),true,[106,3,4],[]⟩
def oE:TI:=⟨true,3,40,(.struct [(0,1),(1,1),(2,1)]),(.agg [.nilsl,(.int .i64 0),(.bool false)]),true,[106,3,4],[]⟩
def mW:TI:=⟨true,1,0, .flat,(.tuple [(.int .i64 0),(.int .i64 0)]),true,[],[]⟩
def ow:TI:=⟨true,1,0, .flat,(.tuple [.nilsl,(.int .i64 0)]),true,[],[]⟩
def mX:TI:=⟨true,3,40,(.struct [(0,1),(1,1),(2,1)]),(.agg [(.str []),(.int .i64 0),(.str [])]),true,[9,3,9],[.str,(.int .i64), .str]⟩
def mh:TI:=⟨true,3,40,(.struct [(0,1),(1,1),(2,1)]),(.agg [(.str []),(.int .i64 0),(.str [])]),true,[9,3,9],[.str,(.int .i64), .str]⟩
def nd:TI:=⟨true,1,24,(.slice 140 3 40), .nilsl,true,[],[]⟩
def nw:TI:=⟨true,2,32,(.struct [(0,1),(1,1)]),(.agg [.nilsl,(.bool false)]),true,[106,4],[]⟩
def nA:TI:=⟨true,2,32,(.struct [(0,1),(1,1)]),(.agg [.nilsl,(.bool false)]),true,[106,4],[]⟩
def nK:TI:=⟨true,6,48,(.struct [(0,1),(1,1),(2,1),(3,1),(4,1),(5,1)]),(.agg [(.int .i64 0),(.int .i64 0),(.int .i64 0),(.int .i64 0),(.int .i64 0),(.int .i64 0)]),true,[3,3,3,3,3,3],[(.int .i64),(.int .i64),(.int .i64),(.int .i64),(.int .i64),(.int .i64)]⟩
def nM:TI:=⟨true,6,48,(.struct [(0,1),(1,1),(2,1),(3,1),(4,1),(5,1)]),(.agg [(.int .i64 0),(.int .i64 0),(.int .i64 0),(.int .i64 0),(.int .i64 0),(.int .i64 0)]),true,[3,3,3,3,3,3],[(.int .i64),(.int .i64),(.int .i64),(.int .i64),(.int .i64),(.int .i64)]⟩
def od:TI:=⟨true,1,8,(.int .u64),(.int .u64 0),true,[],[]⟩
def mv:TI:=⟨true,1,0, .flat,(.tuple [.nilsl,(.bool false)]),true,[],[]⟩
def np:TI:=⟨true,1,0, .flat,(.tuple [(.str []),(.int .i64 0),(.int .i64 0)]),true,[],[]⟩
def ob:TI:=⟨true,1,8,(.int .u64),(.int .u64 0),true,[],[]⟩
def mH:TI:=⟨true,1,8,(.int .i64),(.int .i64 0),true,[],[]⟩
def mf:TI:=⟨true,1,0, .flat,(.tuple [(.bool false),(.int .i64 0)]),true,[],[]⟩
def n7:TI:=⟨true,2,32,(.struct [(0,1),(1,1)]),(.agg [.nilsl,(.int .i64 0)]),true,[106,3],[]⟩
def lZ:TI:=⟨true,2,32,(.struct [(0,1),(1,1)]),(.agg [.nilsl,(.int .i64 0)]),true,[106,3],[]⟩
def ov:TI:=⟨true,1,4,(.int .u32),(.int .u32 0),true,[],[]⟩
def mZ:TI:=⟨true,1,24,(.slice 223 1 4), .nilsl,true,[],[]⟩
def oK:TI:=⟨true,1,0, .flat,(.tuple [.nilsl,(.int .i64 0)]),true,[],[]⟩
def nI:TI:=⟨true,3,40,(.struct [(0,3)]),(.agg [(.int .i64 0),(.str []),(.str [])]),true,[65],[]⟩
def n4:TI:=⟨true,3,40,(.struct [(0,3)]),(.agg [(.int .i64 0),(.str []),(.str [])]),true,[65],[]⟩
def nG:TI:=⟨true,1,8,(.ptr 231), .nilp,true,[],[]⟩
def ot:TI:=⟨true,1,24,(.slice 232 1 8), .nilsl,true,[],[]⟩
def lS:TI:=⟨true,1,24,(.slice 23 1 24), .nilsl,true,[],[]⟩
def lX:TI:=⟨true,3,56,(.struct [(0,1),(1,1),(2,1)]),(.agg [(.str []),(.str []), .nilsl]),true,[9,9,236],[]⟩
def no:TI:=⟨true,3,56,(.struct [(0,1),(1,1),(2,1)]),(.agg [(.str []),(.str []), .nilsl]),true,[9,9,236],[]⟩
def om:TI:=⟨true,12,96,(.arr 12 1),(.agg [(.int .i64 0),(.int .i64 0),(.int .i64 0),(.int .i64 0),(.int .i64 0),(.int .i64 0),(.int .i64 0),(.int .i64 0),(.int .i64 0),(.int .i64 0),(.int .i64 0),(.int .i64 0)]),true,[],[]⟩
def n6:TI:=⟨true,1,8,(.ptr 243), .nilp,true,[],[]⟩
def oM:TI:=⟨true,2,32,(.struct [(0,1),(1,1)]),(.agg [.nilp, .nilsl]),true,[241,101],[]⟩
def nC:TI:=⟨true,2,32,(.struct [(0,1),(1,1)]),(.agg [.nilp, .nilsl]),true,[241,101],[]⟩
def nl:TI:=⟨true,1,0, .flat,(.tuple [(.str []),(.str []),(.bool false)]),true,[],[]⟩
def nB:TI:=⟨true,1,1,(.int .i8),(.int .i8 0),true,[],[]⟩
def nH:TI:=⟨true,1,8,(.ptr 214), .nilp,true,[],[]⟩
def mP:TI:=⟨true,64,256,(.arr 64 1),(.agg [(.int .u32 0),(.int .u32 0),(.int .u32 0),(.int .u32 0),(.int .u32 0),(.int .u32 0),(.int .u32 0),(.int .u32 0),(.int .u32 0),(.int .u32 0),(.int .u32 0),(.int .u32 0),(.int .u32 0),(.int .u32 0),(.int .u32 0),(.int .u32 0),(.int .u32 0),(.int .u32 0),(.int .u32 0),(.int .u32 0),(.int .u32 0),(.int .u32 0),(.int .u32 0),(.int .u32 0),(.int .u32 0),(.int .u32 0),(.int .u32 0),(.int .u32 0),(.int .u32 0),(.int .u32 0),(.int .u32 0),(.int .u32 0),(.int .u32 0),(.int .u32 0),(.int .u32 0),(.int .u32 0),(.int .u32 0),(.int .u32 0),(.int .u32 0),(.int .u32 0),(.int .u32 0),(.int .u32 0),(.int .u32 0),(.int .u32 0),(.int .u32 0),(.int .u32 0),(.int .u32 0),(.int .u32 0),(.int .u32 0),(.int .u32 0),(.int .u32 0),(.int .u32 0),(.int .u32 0),(.int .u32 0),(.int .u32 0),(.int .u32 0),(.int .u32 0),(.int .u32 0),(.int .u32 0),(.int .u32 0),(.int .u32 0),(.int .u32 0),(.int .u32 0),(.int .u32 0)]),true,[],[]⟩
def ng:TI:=⟨true,1,0, .flat,(.tuple [(.str []),(.bool false)]),true,[],[]⟩
def nc:TI:=⟨true,1,0, .flat,(.tuple [(.str []),(.str [])]),true,[],[]⟩
def m8:TI:=⟨true,1,8,(.ptr 5), .nilp,true,[],[]⟩
def ny:TI:=⟨true,1,8, .flat, .nilp,true,[],[]⟩
def nX:TI:=⟨true,1,0, .flat,(.tuple [(.int .i32 0),(.int .i64 0)]),true,[],[]⟩
def nW:TI:=⟨true,24,24,(.arr 24 1),(.agg [(.int .u8 0),(.int .u8 0),(.int .u8 0),(.int .u8 0),(.int .u8 0),(.int .u8 0),(.int .u8 0),(.int .u8 0),(.int .u8 0),(.int .u8 0),(.int .u8 0),(.int .u8 0),(.int .u8 0),(.int .u8 0),(.int .u8 0),(.int .u8 0),(.int .u8 0),(.int .u8 0),(.int .u8 0),(.int .u8 0),(.int .u8 0),(.int .u8 0),(.int .u8 0),(.int .u8 0)]),true,[],[]⟩
def oN:TI:=⟨true,1,0, .flat,(.tuple [.nilsl,(.str [])]),true,[],[]⟩
def lW:TI:=⟨true,20,160,(.arr 20 1),(.agg [(.int .u64 0),(.int .u64 0),(.int .u64 0),(.int .u64 0),(.int .u64 0),(.int .u64 0),(.int .u64 0),(.int .u64 0),(.int .u64 0),(.int .u64 0),(.int .u64 0),(.int .u64 0),(.int .u64 0),(.int .u64 0),(.int .u64 0),(.int .u64 0),(.int .u64 0),(.int .u64 0),(.int .u64 0),(.int .u64 0)]),true,[],[]⟩
def ne:TI:=⟨true,65,65,(.arr 65 1),(.agg [(.int .u8 0),(.int .u8 0),(.int .u8 0),(.int .u8 0),(.int .u8 0),(.int .u8 0),(.int .u8 0),(.int .u8 0),(.int .u8 0),(.int .u8 0),(.int .u8 0),(.int .u8 0),(.int .u8 0),(.int .u8 0),(.int .u8 0),(.int .u8 0),(.int .u8 0),(.int .u8 0),(.int .u8 0),(.int .u8 0),(.int .u8 0),(.int .u8 0),(.int .u8 0),(.int .u8 0),(.int .u8 0),(.int .u8 0),(.int .u8 0),(.int .u8 0),(.int .u8 0),(.int .u8 0),(.int .u8 0),(.int .u8 0),(.int .u8 0),(.int .u8 0),(.int .u8 0),(.int .u8 0),(.int .u8 0),(.int .u8 0),(.int .u8 0),(.int .u8 0),(.int .u8 0),(.int .u8 0),(.int .u8 0),(.int .u8 0),(.int .u8 0),(.int .u8 0),(.int .u8 0),(.int .u8 0),(.int .u8 0),(.int .u8 0),(.int .u8 0),(.int .u8 0),(.int .u8 0),(.int .u8 0),(.int .u8 0),(.int .u8 0),(.int .u8 0),(.int .u8 0),(.int .u8 0),(.int .u8 0),(.int .u8 0),(.int .u8 0),(.int .u8 0),(.int .u8 0),(.int .u8 0)]),true,[],[]⟩
def lY:TI:=⟨true,1,8,(.int .i64),(.int .i64 0),true,[],[]⟩
def mJ:TI:=⟨true,1,0, .flat,(.tuple [(.int .i64 0),(.int .i64 0)]),true,[],[]⟩
def oB:TI:=⟨true,1,0, .flat,(.tuple [(.int .i64 0),(.bool false)]),true,[],[]⟩
def mB:TI:=⟨true,256,256,(.arr 256 1),(.agg [(.int .u8 0),(.int .u8 0),(.int .u8 0),(.int .u8 0),(.int .u8 0),(.int .u8 0),(.int .u8 0),(.int .u8 0),(.int .u8 0),(.int .u8 0),(.int .u8 0),(.int .u8 0),(.int .u8 0),(.int .u8 0),(.int .u8 0),(.int .u8 0),(.int .u8 0),(.int .u8 0),(.int .u8 0),(.int .u8 0),(.int .u8 0),(.int .u8 0),(.int .u8 0),(.int .u8 0),(.int .u8 0),(.int .u8 0),(.int .u8 0),(.int .u8 0),(.int .u8 0),(.int .u8 0),(.int .u8 0),(.int .u8 0),(.int .u8 0),(.int .u8 0),(.int .u8 0),(.int .u8 0),(.int .u8 0),(.int .u8 0),(.int .u8 0),(.int .u8 0),(.int .u8 0),(.int .u8 0),(.int .u8 0),(.int .u8 0),(.int .u8 0),(.int .u8 0),(.int .u8 0),(.int .u8 0),(.int .u8 0),(.int .u8 0),(.int .u8 0),(.int .u8 0),(.int .u8 0),(.int .u8 0),(.int .u8 0),(.int .u8 0),(.int .u8 0),(.int .u8 0),(.int .u8 0),(.int .u8 0),(.int .u8 0),(.int .u8 0),(.int .u8 0),(.int .u8 0),(.int .u8 0),(.int .u8 0),(.int .u8 0),(.int .u8 0),(.int .u8 0),(.int .u8 0),(.int .u8 0),(.int .u8 0),(.int .u8 0),(.int .u8 0),(.int .u8 0),(.int .u8 0),(.int .u8 0),(.int .u8 0),(.int .u8 0),(.int .u8 0),(.int .u8 0),(.int .u8 0),(.int .u8 0),(.int .u8 0),(.int .u8 0),(.int .u8 0),(.int .u8 0),(.int .u8 0),(.int .u8 0),(.int .u8 0),(.int .u8 0),(.int .u8 0),(.int .u8 0),(.int .u8 0),(.int .u8 0),(.int .u8 0),(.int .u8 0),(.int .u8 0),(.int .u8 0),(.int .u8 0),(.int .u8 0),(.int .u8 0),(.int .u8 0),(.int .u8 0),(.int .u8 0),(.int .u8 0),(.int .u8 0),(.int .u8 0),(.int .u8 0),(.int .u8 0),(.int .u8 0),(.int .u8 0),(.int .u8 0),(.int .u8 0),(.int .u8 0),(.int .u8 0),(.int .u8 0),(.int .u8 0),(.int .u8 0),(.int .u8 0),(.int .u8 0),(.int .u8 0),(.int .u8 0),(.int .u8 0),(.int .u8 0),(.int .u8 0),(.int .u8 0),(.int .u8 0),(.int .u8 0),(.int .u8 0),(.int .u8 0),(.int .u8 0),(.int .u8 0),(.int .u8 0),(.int .u8 0),(.int .u8 0),(.int .u8 0),(.int .u8 0),(.int .u8 0),(.int .u8 0),(.int .u8 0),(.int .u8 0),(.int .u8 0),(.int .u8 0),(.int .u8 0),(.int .u8 0),(.int .u8 0),(.int .u8 0),(.int .u8 0),(.int .u8 0),(.int .u8 0),(.int .u8 0),(.int .u8 0),(.int .u8 0),(.int .u8 0),(.int .u8 0),(.int .u8 0),(.int .u8 0),(.int .u8 0),(.int .u8 0),(.int .u8 0),(.int .u8 0),(.int .u8 0),(.int .u8 0),(.int .u8 0),(.int .u8 0),(.int .u8 0),(.int .u8 0),(.int .u8 0),(.int .u8 0),(.int .u8 0),(.int .u8 0),(.int .u8 0),(.int .u8 0),(.int .u8 0),(.int .u8 0),(.int .u8 0),(.int .u8 0),(.int .u8 0),(.int .u8 0),(.int .u8 0),(.int .u8 0),(.int .u8 0),(.int .u8 0),(.int .u8 0),(.int .u8 0),(.int .u8 0),(.int .u8 0),(.int .u8 0),(.int .u8 0),(.int .u8 0),(.int .u8 0),(.int .u8 0),(.int .u8 0),(.int .u8 0),(.int .u8 0),(.int .u8 0),(.int .u8 0),(.int .u8 0),(.int .u8 0),(.int .u8 0),(.int .u8 0),(.int .u8 0),(.int .u8 0),(.int .u8 0),(.int .u8 0),(.int .u8 0),(.int .u8 0),(.int .u8 0),(.int .u8 0),(.int .u8 0),(.int .u8 0),(.int .u8 0),(.int .u8 0),(.int .u8 0),(.int .u8 0),(.int .u8 0),(.int .u8 0),(.int .u8 0),(.int .u8 0),(.int .u8 0),(.int .u8 0),(.int .u8 0),(.int .u8 0),(.int .u8 0),(.int .u8 0),(.int .u8 0),(.int .u8 0),(.int .u8 0),(.int .u8 0),(.int .u8 0),(.int .u8 0),(.int .u8 0),(.int .u8 0),(.int .u8 0),(.int .u8 0),(.int .u8 0),(.int .u8 0),(.int .u8 0),(.int .u8 0),(.int .u8 0),(.int .u8 0),(.int .u8 0),(.int .u8 0),(.int .u8 0),(.int .u8 0),(.int .u8 0),(.int .u8 0),(.int .u8 0),(.int .u8 0),(.int .u8 0),(.int .u8 0),(.int .u8 0),(.int .u8 0),(.int .u8 0),(.int .u8 0)]),true,[],[]⟩
def mc:TI:=⟨true,2,2,(.struct [(0,1),(1,1)]),(.agg [(.int .u8 0),(.int .u8 0)]),true,[5,5],[(.int .u8),(.int .u8)]⟩
def nr:TI:=⟨true,2,2,(.struct [(0,1),(1,1)]),(.agg [(.int .u8 0),(.int .u8 0)]),true,[5,5],[(.int .u8),(.int .u8)]⟩
def oz:TI:=⟨true,32,32,(.arr 16 2),(.agg [(.int .u8 0),(.int .u8 0),(.int .u8 0),(.int .u8 0),(.int .u8 0),(.int .u8 0),(.int .u8 0),(.int .u8 0),(.int .u8 0),(.int .u8 0),(.int .u8 0),(.int .u8 0),(.int .u8 0),(.int .u8 0),(.int .u8 0),(.int .u8 0),(.int .u8 0),(.int .u8 0),(.int .u8 0),(.int .u8 0),(.int .u8 0),(.int .u8 0),(.int .u8 0),(.int .u8 0),(.int .u8 0),(.int .u8 0),(.int .u8 0),(.int .u8 0),(.int .u8 0),(.int .u8 0),(.int .u8 0),(.int .u8 0)]),true,[],[]⟩
def mK:TI:=⟨true,1,0, .flat,(.tuple [(.int .u32 0),(.int .u32 0)]),true,[],[]⟩
def mU:TI:=⟨true,1,8,(.int .u64),(.int .u64 0),true,[],[]⟩
def lU:TI:=⟨true,1,8,(.ptr 3), .nilp,true,[],[]⟩
def nL:TI:=⟨true,32,32,(.arr 32 1),(.agg [(.int .u8 0),(.int .u8 0),(.int .u8 0),(.int .u8 0),(.int .u8 0),(.int .u8 0),(.int .u8 0),(.int .u8 0),(.int .u8 0),(.int .u8 0),(.int .u8 0),(.int .u8 0),(.int .u8 0),(.int .u8 0),(.int .u8 0),(.int .u8 0),(.int .u8 0),(.int .u8 0),(.int .u8 0),(.int .u8 0),(.int .u8 0),(.int .u8 0),(.int .u8 0),(.int .u8 0),(.int .u8 0),(.int .u8 0),(.int .u8 0),(.int .u8 0),(.int .u8 0),(.int .u8 0),(.int .u8 0),(.int .u8 0)]),true,[],[]⟩
def mQ:TI:=⟨true,64,64,(.arr 64 1),(.agg [(.int .u8 0),(.int .u8 0),(.int .u8 0),(.int .u8 0),(.int .u8 0),(.int .u8 0),(.int .u8 0),(.int .u8 0),(.int .u8 0),(.int .u8 0),(.int .u8 0),(.int .u8 0),(.int .u8 0),(.int .u8 0),(.int .u8 0),(.int .u8 0),(.int .u8 0),(.int .u8 0),(.int .u8 0),(.int .u8 0),(.int .u8 0),(.int .u8 0),(.int .u8 0),(.int .u8 0),(.int .u8 0),(.int .u8 0),(.int .u8 0),(.int .u8 0),(.int .u8 0),(.int .u8 0),(.int .u8 0),(.int .u8 0),(.int .u8 0),(.int .u8 0),(.int .u8 0),(.int .u8 0),(.int .u8 0),(.int .u8 0),(.int .u8 0),(.int .u8 0),(.int .u8 0),(.int .u8 0),(.int .u8 0),(.int .u8 0),(.int .u8 0),(.int .u8 0),(.int .u8 0),(.int .u8 0),(.int .u8 0),(.int .u8 0),(.int .u8 0),(.int .u8 0),(.int .u8 0),(.int .u8 0),(.int .u8 0),(.int .u8 0),(.int .u8 0),(.int .u8 0),(.int .u8 0),(.int .u8 0),(.int .u8 0),(.int .u8 0),(.int .u8 0),(.int .u8 0)]),true,[],[]⟩
def oo:TI:=⟨true,1,8,(.ptr 307), .nilp,true,[],[]⟩
def nD:TI:=⟨true,1,0, .flat,(.tuple [(.int .i64 0),(.int .i64 0)]),true,[],[]⟩
def mM:TI:=⟨true,4,40,(.struct [(0,1),(1,1),(2,1),(3,1)]),(.agg [.nilp, .nilp, .nilp,(.str [])]),true,[17,17,17,9],[]⟩
def mL:TI:=⟨true,4,40,(.struct [(0,1),(1,1),(2,1),(3,1)]),(.agg [.nilp, .nilp, .nilp,(.str [])]),true,[17,17,17,9],[]⟩
def md:TI:=⟨true,0,0,(.arr 0 1),(.agg []),true,[],[]⟩
def nQ:TI:=⟨true,0,0,(.struct [(0,0)]),(.agg []),true,[320],[]⟩
def oL:TI:=⟨true,0,0,(.struct [(0,0)]),(.agg []),true,[320],[]⟩
def nO:TI:=⟨true,1,1,(.int .u8),(.int .u8 0),true,[],[]⟩
def mE:TI:=⟨true,1,1,(.int .u8),(.int .u8 0),true,[],[]⟩
def my:TI:=⟨true,1,4,(.int .i32),(.int .i32 0),true,[],[]⟩
def nz:TI:=⟨true,1,4,(.int .i32),(.int .i32 0),true,[],[]⟩
def nn:TI:=⟨true,11,48,(.struct [(0,1),(1,1),(2,1),(3,1),(4,1),(5,1),(6,1),(7,1),(8,1),(9,1),(10,1)]),(.agg [(.int .u64 0),(.int .u64 0),(.int .u32 0),(.int .u8 0),(.int .u8 0),(.int .u8 0),(.int .u8 0), .nilfunc, .nilp,(.int .i32 0),(.int .i32 0)]),true,[12,12,223,324,5,5,325,326,267,327,328],[]⟩
def nq:TI:=⟨true,11,48,(.struct [(0,1),(1,1),(2,1),(3,1),(4,1),(5,1),(6,1),(7,1),(8,1),(9,1),(10,1)]),(.agg [(.int .u64 0),(.int .u64 0),(.int .u32 0),(.int .u8 0),(.int .u8 0),(.int .u8 0),(.int .u8 0), .nilfunc, .nilp,(.int .i32 0),(.int .i32 0)]),true,[12,12,223,324,5,5,325,326,267,327,328],[]⟩
def Bu:TT:=(.node (.node (.node (.node (.node (.node (.node .leaf 0 ty0 .leaf) 2 ty2 (.node .leaf 3 ty3 .leaf)) 4 ty4 (.node (.node .leaf 5 ty5 .leaf) 6 ty6 (.node .leaf 7 ty7 .leaf))) 8 ty8 (.node (.node (.node .leaf 9 ty9 .leaf) 10 rl (.node .leaf 11 sa .leaf)) 12 o7 (.node (.node .leaf 13 o5 .leaf) 14 rj (.node .leaf 15 sk .leaf)))) 16 rH (.node (.node (.node (.node .leaf 17 rE .leaf) 18 rq (.node .leaf 19 rQ .leaf)) 21 rZ (.node (.node .leaf 22 rG .leaf) 23 rV (.node .leaf 24 so .leaf))) 25 ru (.node (.node (.node .leaf 26 rM .leaf) 27 oQ (.node .leaf 31 rI .leaf)) 33 oY (.node (.node .leaf 34 oX .leaf) 42 rW (.node .leaf 43 rz .leaf))))) 44 rg (.node (.node (.node (.node (.node .leaf 45 rL .leaf) 55 rf (.node .leaf 56 rX .leaf)) 57 o6 (.node (.node .leaf 58 sf .leaf) 59 oV (.node .leaf 61 rY .leaf))) 64 rS (.node (.node (.node .leaf 65 rJ .leaf) 67 oT (.node .leaf 68 sn .leaf)) 71 rC (.node (.node .leaf 77 ry .leaf) 78 sd (.node .leaf 80 rB .leaf)))) 81 oZ (.node (.node (.node (.node .leaf 87 ro .leaf) 101 mI (.node .leaf 102 mb .leaf)) 103 oI (.node (.node .leaf 106 oJ .leaf) 107 nh (.node .leaf 112 nk .leaf))) 113 lQ (.node (.node (.node .leaf 115 oG .leaf) 116 oE (.node .leaf 117 mW .leaf)) 124 ow (.node (.node .leaf 139 mX .leaf) 140 mh (.node .leaf 141 nd .leaf)))))) 147 nw (.node (.node (.node (.node (.node (.node .leaf 148 nA .leaf) 157 nK (.node .leaf 158 nM .leaf)) 164 od (.node (.node .leaf 171 mv .leaf) 184 np (.node .leaf 192 ob .leaf))) 200 mH (.node (.node (.node .leaf 211 mf .leaf) 213 n7 (.node .leaf 214 lZ .leaf)) 223 ov (.node (.node .leaf 224 mZ .leaf) 228 oK (.node .leaf 230 nI .leaf)))) 231 n4 (.node (.node (.node (.node .leaf 233 nG .leaf) 234 ot (.node .leaf 236 lS .leaf)) 237 lX (.node (.node .leaf 238 no .leaf) 240 om (.node .leaf 241 n6 .leaf))) 242 oM (.node (.node (.node .leaf 243 nC .leaf) 249 nl (.node .leaf 252 nB .leaf)) 253 nH (.node (.node .leaf 254 mP .leaf) 262 ng (.node .leaf 265 nc .leaf))))) 267 m8 (.node (.node (.node (.node (.node .leaf 274 ny .leaf) 277 nX (.node .leaf 279 nW .leaf)) 282 oN (.node (.node .leaf 288 lW .leaf) 289 ne (.node .leaf 291 lY .leaf))) 292 mJ (.node (.node (.node .leaf 295 oB .leaf) 301 mB (.node .leaf 302 mc .leaf)) 303 nr (.node (.node .leaf 304 oz .leaf) 305 mK (.node .leaf 307 mU .leaf)))) 311 lU (.node (.node (.node (.node .leaf 313 nL .leaf) 314 mQ (.node .leaf 315 oo .leaf)) 316 nD (.node (.node .leaf 318 mM .leaf) 319 mL (.node .leaf 320 md .leaf))) 321 nQ (.node (.node (.node .leaf 322 oL .leaf) 324 nO (.node .leaf 325 mE .leaf)) 327 my (.node (.node .leaf 328 nz .leaf) 329 nn (.node .leaf 330 nq .leaf)))))))
set_option maxRecDepth 100000 in
theorem Da:Bu.toList.map (fun p=>ti Tryz.prog p.1)=Bu.toList.map (·.2):=by kernel_rfl
noncomputable def tyT (t:TypeId):TI:=match Bu.get t with|some v=>v|none=>ti Tryz.prog t
theorem kw:tyT=ti Tryz.prog:=TT.eq_of Da
def UQ:List Int:= [31,28,31,30,31,30,31,31,30,31,30,31]
def Kn:List Int:= [1,10,100,1000,10000,100000,1000000,10000000,100000000,1000000000,10000000000,100000000000,1000000000000,10000000000000,100000000000000,1000000000000000,10000000000000000,100000000000000000,1000000000000000000,10000000000000000000]
def gl0 (mx:Int) (g:Nat):List V:=match g with
 |0=>UQ.map (vI .i64)
 |1=> [.int .i64 mx]
 |2=>Kn.map (vI .u64)
 |_=> []
section
variable {gl:Nat→List V} {ops:Array Oper} {K:AFr→St→Prop} {s0:St} {cs:List Code} {AQ:Exit→AFr→St→Prop} {id:Nat} {fr fr':AFr} {st st':St} {i:Nat} {x:Cfg} {E:List Nat} {B:List (List Nat)} {rest seen:List Nat} {fx:List (Nat×Option V×V)}
theorem kP (k:Nat) {q:Option V} {v:V} (hq:q=some v) (h:wD Tryz.prog gl ops (k+1) (YD (jU tyT gl ops i k x) (xm ops k) v) K)
  (hik:Nat.ble i k=true:=by kernel_rfl) (he:Zl tyT gl ops i k x=pw q (jU tyT gl ops i k x).2:=by kernel_rfl):wD Tryz.prog gl ops i x K:=BC kw k hq hik he h
theorem kC (k:Nat) (R:Ren) {f:FuncId} {args1:List V} {st1 st1':St} {r:V} (hc:wN Tryz.prog gl f args1 st1 (Out r st1'))
  (h:wD Tryz.prog gl ops (k+1) (qt (jU tyT gl ops i k x) (xm ops k) (V.ren R r) (fun st=>St.after R st st1')) K)
  (hb:goB tyT gl ops i k x R f args1 st1=true:=by kernel_rfl) (he:callL R st1 args1=goR tyT gl ops i k x R args1 st1:=by kernel_rfl):wD Tryz.prog gl ops i x K:=oU kw k R hc hb he h
theorem kA (k t:Nat) {α:Type} (c:α→List V) {l l2 l':List α} {e e2:TypeId} {sz bytes b2:Nat} {tok2:Tok} (h1:jV bytes l l2=some l')
  (h:wD Tryz.prog gl ops (k+1) (qt (jU tyT gl ops i k x) (xm ops k) (.sl sz (l'.map c) (.fam t l'.length)) (fun st=>st.setFam t l'.length)) K)
  (hb:(Nat.ble i k&&bp tyT e sz bytes)=true:=by kernel_rfl) (he:((jU tyT gl ops i k x).2.fams[t]?,Zl tyT gl ops i k x)=(some l.length,vt tyT (jU tyT gl ops i k x).2 (.slice e sz bytes) (.slice e2 sz b2) (.sl sz (l.map c) (.fam t l.length)) (.sl sz (l2.map c) tok2)):=by kernel_rfl):wD Tryz.prog gl ops i x K:=mz kw k t c h1 hb he h
theorem kN (k:Nat) {α:Type} (c:α→List V) {l2 l':List α} {e e2:TypeId} {sz bytes b2:Nat} {tok2:Tok} (h1:jV bytes [] l2=some l')
  (h:wD Tryz.prog gl ops (k+1) (qt (jU tyT gl ops i k x) (xm ops k) (.sl sz (l'.map c) (.fam (jU tyT gl ops i k x).2.fams.length l'.length)) (fun st=>st.pushFam l'.length)) K)
  (hb:(Nat.ble i k&&bp tyT e sz bytes)=true:=by kernel_rfl) (he:Zl tyT gl ops i k x=vt tyT (jU tyT gl ops i k x).2 (.slice e sz bytes) (.slice e2 sz b2) .nilsl (.sl sz (l2.map c) tok2):=by kernel_rfl):wD Tryz.prog gl ops i x K:=fN kw k c h1 hb he h
theorem kS (k:Nat) (s:List UInt8) (h:wD Tryz.prog gl ops (k+1) (YD (jU tyT gl ops i k x) (xm ops k) (.sl 1 ((s2b s).map (cI .u8)) .none)) K)
  (hik:Nat.ble i k=true:=by kernel_rfl) (he:Zl tyT gl ops i k x=pw (some (.sl 1 (qd s) .none)) (jU tyT gl ops i k x).2:=by kernel_rfl):wD Tryz.prog gl ops i x K:=mR kw k s hik he h
theorem kB (k:Nat) (l:List Int) (h:wD Tryz.prog gl ops (k+1) (YD (jU tyT gl ops i k x) (xm ops k) (.str (b2s l))) K)
  (hik:Nat.ble i k=true:=by kernel_rfl) (he:Zl tyT gl ops i k x=pw (match bg (l.map (cI .u8))with|some b=>some (.str b)|none=>none) (jU tyT gl ops i k x).2:=by kernel_rfl):wD Tryz.prog gl ops i x K:=lT kw k l hik he h
theorem kV (k m f id:Nat) {cell:Option (List V)} {q:St→Option (V×St)} {v:V} {F:St→St} (hq:∀st:St,st.vars.length=m→st.fams.length=f→st.vars[id]? =cell→q st=some (v,F st))
  (h:wD Tryz.prog gl ops (k+1) (qt (jU tyT gl ops i k x) (xm ops k) v F) K) (hik:Nat.ble i k=true:=by kernel_rfl)
  (he:((jU tyT gl ops i k x).2.vars.length,(jU tyT gl ops i k x).2.fams.length,(jU tyT gl ops i k x).2.vars[id]?,Zl tyT gl ops i k x)=(m,f,cell,q (jU tyT gl ops i k x).2):=by kernel_rfl):wD Tryz.prog gl ops i x K:=lk kw k m f id hq hik he h
theorem kL (k:Nat) {v:V} {cells:List V} (h:wD Tryz.prog gl ops (k+1) (qt (jU tyT gl ops i k x) (xm ops k) v (fun st=>st.push [.buf cells])) K)
  (hik:Nat.ble i k=true:=by kernel_rfl) (he:fP tyT gl ops i k x=some (v,cells):=by kernel_rfl):wD Tryz.prog gl ops i x K:=mr kw k hik he h
theorem dV {fx:List (Nat×Option V×V)} (hf:XO fx) (m f id:Nat) {cell:Option (List V)} {q:St→Option (V×St)} {v:V} {F:St→St} (hq:∀st:St,st.vars.length=m→st.fams.length=f→st.vars[id]? =cell→q st=some (v,F st))
  (h:aDC Tryz.prog gl ops E B rest (i::seen) (qt x (xm ops i) v F) K) (hb:E.contains i=true:=by kernel_rfl)
  (he:(x.2.vars.length,x.2.fams.length,x.2.vars[id]?,Qj tyT gl ops i x)=(m,f,cell,q x.2):=by kernel_rfl)
  (hs:(stX tyT gl ops E B i seen (qt x (xm ops i) v F),svX ops E B fx i seen (qt x (xm ops i) v F))=(stY tyT gl ops E B fx i seen (qt x (xm ops i) v F),svY ops E B fx i seen (qt x (xm ops i) v F)):=by kernel_rfl):aDC Tryz.prog gl ops E B (i::rest) seen x K:=lF kw hf m f id hq hb he hs h
theorem kE (R:Ren) (hb:lA tyT gl ops i x s0 R fr' st'=true:=by kernel_rfl) (he:wkL R fr' st'=lI tyT gl ops i x R fr' st':=by kernel_rfl):wD Tryz.prog gl ops i x (toW s0 fr' st'):=mV kw R hb he
theorem reg {c:Code} (fr':AFr) (st':St) (h:wD Tryz.prog gl ops 0 (fr,st) (toW s0 fr' st')) (h2:zH Tryz.prog gl s0 (c::cs) AQ fr' st'):zH Tryz.prog gl s0 (.region id ops false::c::cs) AQ fr st:=Jv fr' st' zN h h2
theorem Dh (fr':AFr) (st':St) (hcl:Cl s0 (AQ .normal)) (h:wD Tryz.prog gl ops 0 (fr,st) (toW s0 fr' st')) (h2:zH Tryz.prog gl s0 [] AQ fr' st'):zH Tryz.prog gl s0 [.region id ops false] AQ fr st:=Jv fr' st' (jC hcl) h h2
theorem drw {c:Code} (order E:List Nat) (B:List (List Nat)) (fr':AFr) (st':St) (h:aDC Tryz.prog gl ops E B order [] (fr,st) (toW s0 fr' st')) (h2:zH Tryz.prog gl s0 (c::cs) AQ fr' st')
  (hm:Tryz.prog.follows .mixedOrders=true:=by kernel_rfl) (hc:dY ops fr.n order E B=true:=by kernel_rfl):zH Tryz.prog gl s0 (.region id ops true::c::cs) AQ fr st:=Uc order E B fr' st' hm hc zN h h2
theorem oh (order E:List Nat) (B:List (List Nat)) (fr':AFr) (st':St) (hcl:Cl s0 (AQ .normal)) (h:aDC Tryz.prog gl ops E B order [] (fr,st) (toW s0 fr' st')) (h2:zH Tryz.prog gl s0 [] AQ fr' st')
  (hm:Tryz.prog.follows .mixedOrders=true:=by kernel_rfl) (hc:dY ops fr.n order E B=true:=by kernel_rfl):zH Tryz.prog gl s0 [.region id ops true] AQ fr st:=Uc order E B fr' st' hm hc (jC hcl) h h2
theorem dS (os:List Nat) (h:aDC Tryz.prog gl ops E B rest (os.reverse++seen) (ll tyT gl ops E os x) K) (hb:lC tyT gl ops E os x=true:=by kernel_rfl):aDC Tryz.prog gl ops E B (os++rest) seen x K:=nU kw os hb h
theorem dP {q:Option V} {v:V} (hq:q=some v) (h:aDC Tryz.prog gl ops E B rest (i::seen) (YD x (xm ops i) v) K) (hb:BI ops E i=true:=by kernel_rfl) (he:Qj tyT gl ops i x=pw q x.2:=by kernel_rfl):aDC Tryz.prog gl ops E B (i::rest) seen x K:=lh kw hq hb he h
theorem dF (hf:XO fx) (h:aDC Tryz.prog gl ops E B rest (i::seen) (UI tyT gl ops i x) K) (hb:lK tyT gl ops E i x=true:=by kernel_rfl)
  (hs:(stX tyT gl ops E B i seen (UI tyT gl ops i x),svX ops E B fx i seen (UI tyT gl ops i x))=(stY tyT gl ops E B fx i seen (UI tyT gl ops i x),svY ops E B fx i seen (UI tyT gl ops i x)):=by kernel_rfl):aDC Tryz.prog gl ops E B (i::rest) seen x K:=oC kw hf hb hs h
theorem dC (hf:XO fx) (R:Ren) {f:FuncId} {args1:List V} {st1 st1':St} {r:V} (hc:wN Tryz.prog gl f args1 st1 (Out r st1')) (h:aDC Tryz.prog gl ops E B rest (i::seen) (qt x (xm ops i) (V.ren R r) (fun st=>St.after R st st1')) K)
  (hb:hQ ops E i x R f args1 st1=true:=by kernel_rfl) (he:callL R st1 args1=hM ops i x R args1 st1:=by kernel_rfl)
  (hs:(stX tyT gl ops E B i seen (qt x (xm ops i) (V.ren R r) (fun st=>St.after R st st1')),svX ops E B fx i seen (qt x (xm ops i) (V.ren R r) (fun st=>St.after R st st1')))=(stY tyT gl ops E B fx i seen (qt x (xm ops i) (V.ren R r) (fun st=>St.after R st st1')),svY ops E B fx i seen (qt x (xm ops i) (V.ren R r) (fun st=>St.after R st st1'))):=by kernel_rfl):aDC Tryz.prog gl ops E B (i::rest) seen x K:=sb kw hf R hc hb he hs h
theorem dA (hf:XO fx) (t:Nat) {α:Type} (c:α→List V) {l l2 l':List α} {e e2:TypeId} {sz bytes b2:Nat} {tok2:Tok} (h1:jV bytes l l2=some l')
  (h:aDC Tryz.prog gl ops E B rest (i::seen) (qt x (xm ops i) (.sl sz (l'.map c) (.fam t l'.length)) (fun st=>st.setFam t l'.length)) K)
  (hb:(E.contains i&&bp tyT e sz bytes)=true:=by kernel_rfl) (he:(x.2.fams[t]?,Qj tyT gl ops i x)=(some l.length,vt tyT x.2 (.slice e sz bytes) (.slice e2 sz b2) (.sl sz (l.map c) (.fam t l.length)) (.sl sz (l2.map c) tok2)):=by kernel_rfl)
  (hs:(stX tyT gl ops E B i seen (qt x (xm ops i) (.sl sz (l'.map c) (.fam t l'.length)) (fun st=>st.setFam t l'.length)),svX ops E B fx i seen (qt x (xm ops i) (.sl sz (l'.map c) (.fam t l'.length)) (fun st=>st.setFam t l'.length)))=(stY tyT gl ops E B fx i seen (qt x (xm ops i) (.sl sz (l'.map c) (.fam t l'.length)) (fun st=>st.setFam t l'.length)),svY ops E B fx i seen (qt x (xm ops i) (.sl sz (l'.map c) (.fam t l'.length)) (fun st=>st.setFam t l'.length))):=by kernel_rfl):aDC Tryz.prog gl ops E B (i::rest) seen x K:=oe kw hf t c h1 hb he hs h
theorem dE (R:Ren) (hb:wkB s0 R x.1 x.2 fr' st'=true:=by kernel_rfl) (he:wkL R fr' st'=wkR R x.1 x.2 fr' st':=by kernel_rfl):aDC Tryz.prog gl ops E B [] seen x (toW s0 fr' st'):=nR R hb he
theorem wk (R:Ren) (hb:wkB s0 R fr st fr' st'=true:=by kernel_rfl) (he:wkL R fr' st'=wkR R fr st fr' st':=by kernel_rfl):Wk s0 fr st fr' st':=Wk.gen R hb he
theorem rm {c:Code} (ks:List Nat) (new:List (Nat×V)) (st':St) (h:wD Tryz.prog gl ops 0 (fr,st) (toW s0 (Wb fr ks new) st')) (h2:zH Tryz.prog gl s0 (c::cs) AQ (Wb fr ks new) st'):zH Tryz.prog gl s0 (.region id ops false::c::cs) AQ fr st:=Jv _ _ zN h h2
theorem rs {c:Code} (ks:List Nat) (new:List (Nat×V)) (h:wD Tryz.prog gl ops 0 (fr,st) (toW s0 (Wb fr ks new) st)) (h2:zH Tryz.prog gl s0 (c::cs) AQ (Wb fr ks new) st):zH Tryz.prog gl s0 (.region id ops false::c::cs) AQ fr st:=Jv _ _ zN h h2
theorem rmN (hcl:Cl s0 (AQ .normal)) (ks:List Nat) (new:List (Nat×V)) (st':St) (h:wD Tryz.prog gl ops 0 (fr,st) (toW s0 (Wb fr ks new) st')) (h2:zH Tryz.prog gl s0 [] AQ (Wb fr ks new) st'):zH Tryz.prog gl s0 [.region id ops false] AQ fr st:=Jv _ _ (jC hcl) h h2
theorem rsN (hcl:Cl s0 (AQ .normal)) (ks:List Nat) (new:List (Nat×V)) (h:wD Tryz.prog gl ops 0 (fr,st) (toW s0 (Wb fr ks new) st)) (h2:zH Tryz.prog gl s0 [] AQ (Wb fr ks new) st):zH Tryz.prog gl s0 [.region id ops false] AQ fr st:=Jv _ _ (jC hcl) h h2
theorem zm {c:Code} (order E:List Nat) (B:List (List Nat)) (ks:List Nat) (new:List (Nat×V)) (st':St) (h:aDC Tryz.prog gl ops E B order [] (fr,st) (toW s0 (Wb fr ks new) st')) (h2:zH Tryz.prog gl s0 (c::cs) AQ (Wb fr ks new) st')
  (hm:Tryz.prog.follows .mixedOrders=true:=by kernel_rfl) (hc:dY ops fr.n order E B=true:=by kernel_rfl):zH Tryz.prog gl s0 (.region id ops true::c::cs) AQ fr st:=Uc order E B _ _ hm hc zN h h2
theorem zs {c:Code} (order E:List Nat) (B:List (List Nat)) (ks:List Nat) (new:List (Nat×V)) (h:aDC Tryz.prog gl ops E B order [] (fr,st) (toW s0 (Wb fr ks new) st)) (h2:zH Tryz.prog gl s0 (c::cs) AQ (Wb fr ks new) st)
  (hm:Tryz.prog.follows .mixedOrders=true:=by kernel_rfl) (hc:dY ops fr.n order E B=true:=by kernel_rfl):zH Tryz.prog gl s0 (.region id ops true::c::cs) AQ fr st:=Uc order E B _ _ hm hc zN h h2
theorem zmN (hcl:Cl s0 (AQ .normal)) (order E:List Nat) (B:List (List Nat)) (ks:List Nat) (new:List (Nat×V)) (st':St) (h:aDC Tryz.prog gl ops E B order [] (fr,st) (toW s0 (Wb fr ks new) st')) (h2:zH Tryz.prog gl s0 [] AQ (Wb fr ks new) st')
  (hm:Tryz.prog.follows .mixedOrders=true:=by kernel_rfl) (hc:dY ops fr.n order E B=true:=by kernel_rfl):zH Tryz.prog gl s0 [.region id ops true] AQ fr st:=Uc order E B _ _ hm hc (jC hcl) h h2
theorem bF {α:Type} {c:Operand} {x y:Code} {t:Bool} {a b:Option α} {r:α} (h:(if t=true then a else b)=some r) (h1:a=some r→zH Tryz.prog gl s0 (x::cs) AQ fr st) (h2:b=some r→zH Tryz.prog gl s0 (y::cs) AQ fr st) (hc:fr.eval c= .bool t:=by kernel_rfl):zH Tryz.prog gl s0 (.cond c x y::cs) AQ fr st:=
 fU t hc (fun hb=>h1 (Gm hb h)) (fun hb=>h2 (B6 hb h))
theorem bT {c:Operand} {x y:Code} (h1:zH Tryz.prog gl s0 (x::cs) AQ fr st) (hc:fr.eval c= .bool true:=by kernel_rfl):zH Tryz.prog gl s0 (.cond c x y::cs) AQ fr st:=fU true hc (fun _=>h1) (fun hb=>Bool.noConfusion hb)
theorem bN {c:Operand} {x y:Code} (h2:zH Tryz.prog gl s0 (y::cs) AQ fr st) (hc:fr.eval c= .bool false:=by kernel_rfl):zH Tryz.prog gl s0 (.cond c x y::cs) AQ fr st:=fU false hc (fun hb=>Bool.noConfusion hb) (fun _=>h2)
theorem gF {α:Type} (k d:Nat) {b:Bool} {a a':Option α} {r:α} (h:(if b=true then a else a')=some r) (ht:a=some r→wD Tryz.prog gl ops k (YD (jU tyT gl ops i k x) (some d) (.bool true)) K) (hf:a'=some r→wD Tryz.prog gl ops k (YD (jU tyT gl ops i k x) (some d) (.bool false)) K)
  (hik:Nat.ble i k=true:=by kernel_rfl) (he:JR tyT gl ops i k x=some (d, .bool b):=by kernel_rfl):wD Tryz.prog gl ops i x K:=fd kw k d b hik he (fun hb=>ht (Gm hb h)) (fun hb=>hf (B6 hb h))
theorem hF {α:Type} (d:Nat) {b:Bool} {a a':Option α} {r:α} (h:(if b=true then a else a')=some r) (ht:a=some r→aDC Tryz.prog gl ops E B (i::rest) seen (YD x (some d) (.bool true)) K) (hf:a'=some r→aDC Tryz.prog gl ops E B (i::rest) seen (YD x (some d) (.bool false)) K)
  (he:K2 ops i x=some (d, .bool b):=by kernel_rfl):aDC Tryz.prog gl ops E B (i::rest) seen x K:=cH d b he (fun hb=>ht (Gm hb h)) (fun hb=>hf (B6 hb h))
theorem fnc {f:FuncId} {fn:Func} {c:Code} {args:List V} {Q:V→St→Prop} (hf:Tryz.prog.funcs[f]? =some fn) (hb:fn.body=some c) (h:zH Tryz.prog gl st [c] (Yq Tryz.prog gl st fn Q) (YY fn.ntmps args) st)
  (hn : (fn.name == "runtime.NumGoroutine") = false := by kernel_rfl) (hl : Nat.ble args.length fn.ntmps = true := by kernel_rfl) : wN Tryz.prog gl f args st Q := wN.ofB hf hb hn (Nat.le_of_ble_eq_true hl) h
theorem rt {fn:Func} {r:V} (R:Ren)
  (hb:((bY tyT gl fr st fn.results.toList).isSome&&wkB s0 R ⟨1,[(0,Bj tyT gl fr st fn.results.toList)]⟩ st ⟨1,[(0,r)]⟩ st')=true:=by kernel_rfl)
  (hl:wkL R ⟨1,[(0,r)]⟩ st'=wkR R ⟨1,[(0,Bj tyT gl fr st fn.results.toList)]⟩ st ⟨1,[(0,r)]⟩ st':=by kernel_rfl):Yq Tryz.prog gl s0 fn (Out r st') .ret fr st:=fi kw R (.inr rfl) hb hl
theorem rno {fn:Func} {r:V} (R:Ren)
  (hb:((bY tyT gl fr st fn.results.toList).isSome&&wkB s0 R ⟨1,[(0,Bj tyT gl fr st fn.results.toList)]⟩ st ⟨1,[(0,r)]⟩ st')=true:=by kernel_rfl)
  (hl:wkL R ⟨1,[(0,r)]⟩ st'=wkR R ⟨1,[(0,Bj tyT gl fr st fn.results.toList)]⟩ st ⟨1,[(0,r)]⟩ st':=by kernel_rfl):Yq Tryz.prog gl s0 fn (Out r st') .normal fr st:=fi kw R (.inl rfl) hb hl
end
abbrev AC (mx:Int) (f:FuncId) (args:List V) (s:List (List V)) (r:V) (s':List (List V)):Prop:=wN Tryz.prog (gl0 mx) f args ⟨s,[]⟩ (Out r ⟨s',[]⟩)
abbrev ACf (mx:Int) (f:FuncId) (args:List V) (s:List (List V)) (r:V) (s':List (List V)) (fs:List Nat):Prop:=wN Tryz.prog (gl0 mx) f args ⟨s,[]⟩ (Out r ⟨s',fs⟩)
end Go.Abs
end
