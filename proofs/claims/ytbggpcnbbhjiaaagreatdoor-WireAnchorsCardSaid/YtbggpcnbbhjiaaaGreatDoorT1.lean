/- The program's types and functions in the abstract reading, its records as Lean structures, and the contracts of library functions. -/
import Derived.Test.YtbggpcnbbhjiaaaGreatDoorS
set_option linter.unusedVariables false
set_option linter.unusedSimpArgs false
set_option linter.unnecessarySimpa false
section
namespace Go.Abs
open Go Go.Proofs
def ty0:TI:=⟨true,1,0,.flat,(.tuple []),true,[],[]⟩
def ty2:TI:=⟨true,1,8,(.int .i64),(.int .i64 0),true,[],[]⟩
def ty3:TI:=⟨true,1,8,(.int .i64),(.int .i64 0),true,[],[]⟩
def ty4:TI:=⟨true,1,1,.bool,(.bool false),true,[],[]⟩
def ty5:TI:=⟨true,1,1,(.int .u8),(.int .u8 0),true,[],[]⟩
def ty6:TI:=⟨true,1,1,(.int .u8),(.int .u8 0),true,[],[]⟩
def ty7:TI:=⟨true,4,24,(.struct [(0,1),(1,1),(2,1),(3,1)]),(.agg [(.int .i64 0),(.int .i64 0),(.bool false),(.int .u8 0)]),true,[2,3,4,6],[(.int .i64),(.int .i64),.bool,(.int .u8)]⟩
def ty8:TI:=⟨true,4,24,(.struct [(0,1),(1,1),(2,1),(3,1)]),(.agg [(.int .i64 0),(.int .i64 0),(.bool false),(.int .u8 0)]),true,[2,3,4,6],[(.int .i64),(.int .i64),.bool,(.int .u8)]⟩
def ty9:TI:=⟨true,1,16,.str,(.str []),true,[],[]⟩
def mj:TI:=⟨true,1,16,.str,(.str []),true,[],[]⟩
def mh:TI:=⟨true,1,16,.str,(.str []),true,[],[]⟩
def nd:TI:=⟨true,1,8,(.int .u64),(.int .u64 0),true,[],[]⟩
def mi:TI:=⟨true,2,24,(.struct [(0,1),(1,1)]),(.agg [(.str []),(.int .u64 0)]),true,[9,12],[]⟩
def mJ:TI:=⟨true,2,24,(.struct [(0,1),(1,1)]),(.agg [(.str []),(.int .u64 0)]),true,[9,12],[]⟩
def m9:TI:=⟨true,1,8,(.ptr 319),.nilp,true,[],[]⟩
def mU:TI:=⟨true,1,8,(.ptr 322),.nilp,true,[],[]⟩
def nc:TI:=⟨true,1,8,(.ptr 330),.nilp,true,[],[]⟩
def ne:TI:=⟨true,1,8,(.struct [(0,1)]),(.agg [.nilp]),true,[17],[]⟩
def m8:TI:=⟨true,1,8,(.struct [(0,1)]),(.agg [.nilp]),true,[17],[]⟩
def mN:TI:=⟨true,1,4,(.int .i32),(.int .i32 0),true,[],[]⟩
def mM:TI:=⟨true,1,24,(.slice 3 1 8),.nilsl,true,[],[]⟩
def mX:TI:=⟨true,1,24,(.slice 9 1 16),.nilsl,true,[],[]⟩
def mt:TI:=⟨true,1,24,(.slice 59 3 48),.nilsl,true,[],[]⟩
def mL:TI:=⟨true,1,24,(.slice 68 4 64),.nilsl,true,[],[]⟩
def nl:TI:=⟨true,11,128,(.struct [(0,1),(1,1),(2,1),(3,1),(4,1),(5,1),(6,1),(7,1),(8,1),(9,1),(10,1)]),(.agg [(.int .i64 0),(.str []),(.int .i64 0),.nilsl,(.bool false),(.bool false),(.bool false),.nilsl,(.int .i64 0),(.bool false),.nilsl]),true,[3,9,3,23,4,4,4,24,3,4,25],[]⟩
def mZ:TI:=⟨true,11,128,(.struct [(0,1),(1,1),(2,1),(3,1),(4,1),(5,1),(6,1),(7,1),(8,1),(9,1),(10,1)]),(.agg [(.int .i64 0),(.str []),(.int .i64 0),.nilsl,(.bool false),(.bool false),(.bool false),.nilsl,(.int .i64 0),(.bool false),.nilsl]),true,[3,9,3,23,4,4,4,24,3,4,25],[]⟩
def mF:TI:=⟨true,1,8,(.ptr 78),.nilp,true,[],[]⟩
def mP:TI:=⟨true,1,8,(.int .i64),(.int .i64 0),true,[],[]⟩
def mz:TI:=⟨true,1,0,.flat,(.tuple [(.str []),(.int .i64 0)]),true,[],[]⟩
def mQ:TI:=⟨true,3,40,(.struct [(0,1),(1,1),(2,1)]),(.agg [(.int .i64 0),(.int .i64 0),.nilsl]),true,[3,3,23],[]⟩
def mD:TI:=⟨true,3,40,(.struct [(0,1),(1,1),(2,1)]),(.agg [(.int .i64 0),(.int .i64 0),.nilsl]),true,[3,3,23],[]⟩
def mu:TI:=⟨true,5,72,(.struct [(0,1),(1,1),(2,3)]),(.agg [(.int .i64 0),.nilsl,(.int .i64 0),(.int .i64 0),.nilsl]),true,[3,22,43],[]⟩
def mg:TI:=⟨true,5,72,(.struct [(0,1),(1,1),(2,3)]),(.agg [(.int .i64 0),.nilsl,(.int .i64 0),(.int .i64 0),.nilsl]),true,[3,22,43],[]⟩
def mR:TI:=⟨true,1,24,(.slice 141 1 24),.nilsl,true,[],[]⟩
def mr:TI:=⟨true,1,24,(.struct [(0,1)]),(.agg [.nilsl]),true,[55],[]⟩
def mG:TI:=⟨true,1,24,(.struct [(0,1)]),(.agg [.nilsl]),true,[55],[]⟩
def mI:TI:=⟨true,3,48,(.struct [(0,1),(1,1),(2,1)]),(.agg [(.int .i64 0),(.str []),.nilsl]),true,[3,9,57],[]⟩
def mf:TI:=⟨true,3,48,(.struct [(0,1),(1,1),(2,1)]),(.agg [(.int .i64 0),(.str []),.nilsl]),true,[3,9,57],[]⟩
def mw:TI:=⟨true,1,24,(.slice 27 11 128),.nilsl,true,[],[]⟩
def ml:TI:=⟨true,3,40,(.struct [(0,1),(1,1),(2,1)]),(.agg [(.int .i64 0),(.str []),(.str [])]),true,[3,9,9],[(.int .i64),.str,.str]⟩
def nb:TI:=⟨true,3,40,(.struct [(0,1),(1,1),(2,1)]),(.agg [(.int .i64 0),(.str []),(.str [])]),true,[3,9,9],[(.int .i64),.str,.str]⟩
def nk:TI:=⟨true,4,64,(.struct [(0,1),(1,3)]),(.agg [.nilsl,(.int .i64 0),(.str []),(.str [])]),true,[57,65],[]⟩
def nn:TI:=⟨true,4,64,(.struct [(0,1),(1,3)]),(.agg [.nilsl,(.int .i64 0),(.str []),(.str [])]),true,[57,65],[]⟩
def mY:TI:=⟨true,1,0,.flat,(.tuple [.nilsl,(.int .i64 0)]),true,[],[]⟩
def mn:TI:=⟨true,2,32,(.struct [(0,1),(1,1)]),(.agg [.nilsl,(.int .i64 0)]),true,[22,3],[]⟩
def nh:TI:=⟨true,2,32,(.struct [(0,1),(1,1)]),(.agg [.nilsl,(.int .i64 0)]),true,[22,3],[]⟩
def mK:TI:=⟨true,2,24,(.struct [(0,1),(1,1)]),(.agg [(.str []),(.int .i64 0)]),true,[9,33],[.str,(.int .i64)]⟩
def mW:TI:=⟨true,2,24,(.struct [(0,1),(1,1)]),(.agg [(.str []),(.int .i64 0)]),true,[9,33],[.str,(.int .i64)]⟩
def mv:TI:=⟨true,1,8,(.ptr 81),.nilp,true,[],[]⟩
def lf:TI:=⟨true,1,24,(.slice 5 1 1),.nilsl,true,[],[]⟩
def fC:TI:=⟨true,3,40,(.struct [(0,1),(1,1),(2,1)]),(.agg [(.int .i64 0),(.str []),(.str [])]),true,[3,9,9],[(.int .i64),.str,.str]⟩
def lk:TI:=⟨true,3,40,(.struct [(0,1),(1,1),(2,1)]),(.agg [(.int .i64 0),(.str []),(.str [])]),true,[3,9,9],[(.int .i64),.str,.str]⟩
def fw:TI:=⟨true,1,24,(.slice 103 3 40),.nilsl,true,[],[]⟩
def lc:TI:=⟨true,1,0,.flat,(.tuple [.nilsl,(.int .i64 0)]),true,[],[]⟩
def lZ:TI:=⟨true,1,8,(.ptr 148),.nilp,true,[],[]⟩
def fL:TI:=⟨true,1,8,(.ptr 116),.nilp,true,[],[]⟩
def lH:TI:=⟨true,3,40,(.struct [(0,1),(1,1),(2,1)]),(.agg [.nilsl,(.int .i64 0),(.bool false)]),true,[106,3,4],[]⟩
def lT:TI:=⟨true,3,40,(.struct [(0,1),(1,1),(2,1)]),(.agg [.nilsl,(.int .i64 0),(.bool false)]),true,[106,3,4],[]⟩
def lG:TI:=⟨true,1,0,.flat,(.tuple [(.int .i64 0),(.int .i64 0)]),true,[],[]⟩
def fv:TI:=⟨true,1,0,.flat,(.tuple [.nilsl,(.int .i64 0)]),true,[],[]⟩
def lS:TI:=⟨true,3,40,(.struct [(0,1),(1,1),(2,1)]),(.agg [(.str []),(.int .i64 0),(.str [])]),true,[9,3,9],[.str,(.int .i64),.str]⟩
def fg:TI:=⟨true,3,40,(.struct [(0,1),(1,1),(2,1)]),(.agg [(.str []),(.int .i64 0),(.str [])]),true,[9,3,9],[.str,(.int .i64),.str]⟩
def ff:TI:=⟨true,1,24,(.slice 140 3 40),.nilsl,true,[],[]⟩
def fO:TI:=⟨true,2,32,(.struct [(0,1),(1,1)]),(.agg [.nilsl,(.bool false)]),true,[106,4],[]⟩
def hU:TI:=⟨true,2,32,(.struct [(0,1),(1,1)]),(.agg [.nilsl,(.bool false)]),true,[106,4],[]⟩
def ll:TI:=⟨true,6,48,(.struct [(0,1),(1,1),(2,1),(3,1),(4,1),(5,1)]),(.agg [(.int .i64 0),(.int .i64 0),(.int .i64 0),(.int .i64 0),(.int .i64 0),(.int .i64 0)]),true,[3,3,3,3,3,3],[(.int .i64),(.int .i64),(.int .i64),(.int .i64),(.int .i64),(.int .i64)]⟩
def lF:TI:=⟨true,6,48,(.struct [(0,1),(1,1),(2,1),(3,1),(4,1),(5,1)]),(.agg [(.int .i64 0),(.int .i64 0),(.int .i64 0),(.int .i64 0),(.int .i64 0),(.int .i64 0)]),true,[3,3,3,3,3,3],[(.int .i64),(.int .i64),(.int .i64),(.int .i64),(.int .i64),(.int .i64)]⟩
def fb:TI:=⟨true,1,8,(.int .u64),(.int .u64 0),true,[],[]⟩
def hG:TI:=⟨true,1,0,.flat,(.tuple [.nilsl,(.bool false)]),true,[],[]⟩
def fu:TI:=⟨true,1,0,.flat,(.tuple [(.str []),(.int .i64 0),(.int .i64 0)]),true,[],[]⟩
def eT:TI:=⟨true,1,8,(.int .u64),(.int .u64 0),true,[],[]⟩
def eX:TI:=⟨true,1,8,(.int .i64),(.int .i64 0),true,[],[]⟩
def fM:TI:=⟨true,1,0,.flat,(.tuple [(.bool false),(.int .i64 0)]),true,[],[]⟩
def fK:TI:=⟨true,2,32,(.struct [(0,1),(1,1)]),(.agg [.nilsl,(.int .i64 0)]),true,[106,3],[]⟩
def l8:TI:=⟨true,2,32,(.struct [(0,1),(1,1)]),(.agg [.nilsl,(.int .i64 0)]),true,[106,3],[]⟩
def lW:TI:=⟨true,1,4,(.int .u32),(.int .u32 0),true,[],[]⟩
def fB:TI:=⟨true,1,24,(.slice 223 1 4),.nilsl,true,[],[]⟩
def lE:TI:=⟨true,1,0,.flat,(.tuple [.nilsl,(.int .i64 0)]),true,[],[]⟩
def eP:TI:=⟨true,3,40,(.struct [(0,3)]),(.agg [(.int .i64 0),(.str []),(.str [])]),true,[65],[]⟩
def fR:TI:=⟨true,3,40,(.struct [(0,3)]),(.agg [(.int .i64 0),(.str []),(.str [])]),true,[65],[]⟩
def f4:TI:=⟨true,1,8,(.ptr 231),.nilp,true,[],[]⟩
def fE:TI:=⟨true,1,24,(.slice 232 1 8),.nilsl,true,[],[]⟩
def lU:TI:=⟨true,1,24,(.slice 23 1 24),.nilsl,true,[],[]⟩
def fk:TI:=⟨true,3,56,(.struct [(0,1),(1,1),(2,1)]),(.agg [(.str []),(.str []),.nilsl]),true,[9,9,236],[]⟩
def l9:TI:=⟨true,3,56,(.struct [(0,1),(1,1),(2,1)]),(.agg [(.str []),(.str []),.nilsl]),true,[9,9,236],[]⟩
def lX:TI:=⟨true,12,96,(.arr 12 1),(.agg [(.int .i64 0),(.int .i64 0),(.int .i64 0),(.int .i64 0),(.int .i64 0),(.int .i64 0),(.int .i64 0),(.int .i64 0),(.int .i64 0),(.int .i64 0),(.int .i64 0),(.int .i64 0)]),true,[],[]⟩
def ly:TI:=⟨true,1,8,(.ptr 243),.nilp,true,[],[]⟩
def lu:TI:=⟨true,2,32,(.struct [(0,1),(1,1)]),(.agg [.nilp,.nilsl]),true,[241,101],[]⟩
def lD:TI:=⟨true,2,32,(.struct [(0,1),(1,1)]),(.agg [.nilp,.nilsl]),true,[241,101],[]⟩
def fU:TI:=⟨true,1,0,.flat,(.tuple [(.str []),(.str []),(.bool false)]),true,[],[]⟩
def f5:TI:=⟨true,1,1,(.int .i8),(.int .i8 0),true,[],[]⟩
def eY:TI:=⟨true,1,8,(.ptr 214),.nilp,true,[],[]⟩
def fY:TI:=⟨true,64,256,(.arr 64 1),(.agg [(.int .u32 0),(.int .u32 0),(.int .u32 0),(.int .u32 0),(.int .u32 0),(.int .u32 0),(.int .u32 0),(.int .u32 0),(.int .u32 0),(.int .u32 0),(.int .u32 0),(.int .u32 0),(.int .u32 0),(.int .u32 0),(.int .u32 0),(.int .u32 0),(.int .u32 0),(.int .u32 0),(.int .u32 0),(.int .u32 0),(.int .u32 0),(.int .u32 0),(.int .u32 0),(.int .u32 0),(.int .u32 0),(.int .u32 0),(.int .u32 0),(.int .u32 0),(.int .u32 0),(.int .u32 0),(.int .u32 0),(.int .u32 0),(.int .u32 0),(.int .u32 0),(.int .u32 0),(.int .u32 0),(.int .u32 0),(.int .u32 0),(.int .u32 0),(.int .u32 0),(.int .u32 0),(.int .u32 0),(.int .u32 0),(.int .u32 0),(.int .u32 0),(.int .u32 0),(.int .u32 0),(.int .u32 0),(.int .u32 0),(.int .u32 0),(.int .u32 0),(.int .u32 0),(.int .u32 0),(.int .u32 0),(.int .u32 0),(.int .u32 0),(.int .u32 0),(.int .u32 0),(.int .u32 0),(.int .u32 0),(.int .u32 0),(.int .u32 0),(.int .u32 0),(.int .u32 0)]),true,[],[]⟩
def lw:TI:=⟨true,1,0,.flat,(.tuple [(.str []),(.bool false)]),true,[],[]⟩
def eI:TI:=⟨true,1,0,.flat,(.tuple [(.str []),(.str [])]),true,[],[]⟩
def lQ:TI:=⟨true,1,8,(.ptr 5),.nilp,true,[],[]⟩
def fJ:TI:=⟨true,1,8,.flat,.nilp,true,[],[]⟩
def fa:TI:=⟨true,1,0,.flat,(.tuple [(.int .i32 0),(.int .i64 0)]),true,[],[]⟩
def fH:TI:=⟨true,24,24,(.arr 24 1),(.agg [(.int .u8 0),(.int .u8 0),(.int .u8 0),(.int .u8 0),(.int .u8 0),(.int .u8 0),(.int .u8 0),(.int .u8 0),(.int .u8 0),(.int .u8 0),(.int .u8 0),(.int .u8 0),(.int .u8 0),(.int .u8 0),(.int .u8 0),(.int .u8 0),(.int .u8 0),(.int .u8 0),(.int .u8 0),(.int .u8 0),(.int .u8 0),(.int .u8 0),(.int .u8 0),(.int .u8 0)]),true,[],[]⟩
def fq:TI:=⟨true,1,0,.flat,(.tuple [.nilsl,(.str [])]),true,[],[]⟩
def lI:TI:=⟨true,20,160,(.arr 20 1),(.agg [(.int .u64 0),(.int .u64 0),(.int .u64 0),(.int .u64 0),(.int .u64 0),(.int .u64 0),(.int .u64 0),(.int .u64 0),(.int .u64 0),(.int .u64 0),(.int .u64 0),(.int .u64 0),(.int .u64 0),(.int .u64 0),(.int .u64 0),(.int .u64 0),(.int .u64 0),(.int .u64 0),(.int .u64 0),(.int .u64 0)]),true,[],[]⟩
def eV:TI:=⟨true,65,65,(.arr 65 1),(.agg [(.int .u8 0),(.int .u8 0),(.int .u8 0),(.int .u8 0),(.int .u8 0),(.int .u8 0),(.int .u8 0),(.int .u8 0),(.int .u8 0),(.int .u8 0),(.int .u8 0),(.int .u8 0),(.int .u8 0),(.int .u8 0),(.int .u8 0),(.int .u8 0),(.int .u8 0),(.int .u8 0),(.int .u8 0),(.int .u8 0),(.int .u8 0),(.int .u8 0),(.int .u8 0),(.int .u8 0),(.int .u8 0),(.int .u8 0),(.int .u8 0),(.int .u8 0),(.int .u8 0),(.int .u8 0),(.int .u8 0),(.int .u8 0),(.int .u8 0),(.int .u8 0),(.int .u8 0),(.int .u8 0),(.int .u8 0),(.int .u8 0),(.int .u8 0),(.int .u8 0),(.int .u8 0),(.int .u8 0),(.int .u8 0),(.int .u8 0),(.int .u8 0),(.int .u8 0),(.int .u8 0),(.int .u8 0),(.int .u8 0),(.int .u8 0),(.int .u8 0),(.int .u8 0),(.int .u8 0),(.int .u8 0),(.int .u8 0),(.int .u8 0),(.int .u8 0),(.int .u8 0),(.int .u8 0),(.int .u8 0),(.int .u8 0),(.int .u8 0),(.int .u8 0),(.int .u8 0),(.int .u8 0)]),true,[],[]⟩
def lB:TI:=⟨true,1,8,(.int .i64),(.int .i64 0),true,[],[]⟩
def hZ:TI:=⟨true,1,0,.flat,(.tuple [(.int .i64 0),(.int .i64 0)]),true,[],[]⟩
def lh:TI:=⟨true,1,0,.flat,(.tuple [(.int .i64 0),(.bool false)]),true,[],[]⟩
def fA:TI:=⟨true,256,256,(.arr 256 1),(.agg [(.int .u8 0),(.int .u8 0),(.int .u8 0),(.int .u8 0),(.int .u8 0),(.int .u8 0),(.int .u8 0),(.int .u8 0),(.int .u8 0),(.int .u8 0),(.int .u8 0),(.int .u8 0),(.int .u8 0),(.int .u8 0),(.int .u8 0),(.int .u8 0),(.int .u8 0),(.int .u8 0),(.int .u8 0),(.int .u8 0),(.int .u8 0),(.int .u8 0),(.int .u8 0),(.int .u8 0),(.int .u8 0),(.int .u8 0),(.int .u8 0),(.int .u8 0),(.int .u8 0),(.int .u8 0),(.int .u8 0),(.int .u8 0),(.int .u8 0),(.int .u8 0),(.int .u8 0),(.int .u8 0),(.int .u8 0),(.int .u8 0),(.int .u8 0),(.int .u8 0),(.int .u8 0),(.int .u8 0),(.int .u8 0),(.int .u8 0),(.int .u8 0),(.int .u8 0),(.int .u8 0),(.int .u8 0),(.int .u8 0),(.int .u8 0),(.int .u8 0),(.int .u8 0),(.int .u8 0),(.int .u8 0),(.int .u8 0),(.int .u8 0),(.int .u8 0),(.int .u8 0),(.int .u8 0),(.int .u8 0),(.int .u8 0),(.int .u8 0),(.int .u8 0),(.int .u8 0),(.int .u8 0),(.int .u8 0),(.int .u8 0),(.int .u8 0),(.int .u8 0),(.int .u8 0),(.int .u8 0),(.int .u8 0),(.int .u8 0),(.int .u8 0),(.int .u8 0),(.int .u8 0),(.int .u8 0),(.int .u8 0),(.int .u8 0),(.int .u8 0),(.int .u8 0),(.int .u8 0),(.int .u8 0),(.int .u8 0),(.int .u8 0),(.int .u8 0),(.int .u8 0),(.int .u8 0),(.int .u8 0),(.int .u8 0),(.int .u8 0),(.int .u8 0),(.int .u8 0),(.int .u8 0),(.int .u8 0),(.int .u8 0),(.int .u8 0),(.int .u8 0),(.int .u8 0),(.int .u8 0),(.int .u8 0),(.int .u8 0),(.int .u8 0),(.int .u8 0),(.int .u8 0),(.int .u8 0),(.int .u8 0),(.int .u8 0),(.int .u8 0),(.int .u8 0),(.int .u8 0),(.int .u8 0),(.int .u8 0),(.int .u8 0),(.int .u8 0),(.int .u8 0),(.int .u8 0),(.int .u8 0),(.int .u8 0),(.int .u8 0),(.int .u8 0),(.int .u8 0),(.int .u8 0),(.int .u8 0),(.int .u8 0),(.int .u8 0),(.int .u8 0),(.int .u8 0),(.int .u8 0),(.int .u8 0),(.int .u8 0),(.int .u8 0),(.int .u8 0),(.int .u8 0),(.int .u8 0),(.int .u8 0),(.int .u8 0),(.int .u8 0),(.int .u8 0),(.int .u8 0),(.int .u8 0),(.int .u8 0),(.int .u8 0),(.int .u8 0),(.int .u8 0),(.int .u8 0),(.int .u8 0),(.int .u8 0),(.int .u8 0),(.int .u8 0),(.int .u8 0),(.int .u8 0),(.int .u8 0),(.int .u8 0),(.int .u8 0),(.int .u8 0),(.int .u8 0),(.int .u8 0),(.int .u8 0),(.int .u8 0),(.int .u8 0),(.int .u8 0),(.int .u8 0),(.int .u8 0),(.int .u8 0),(.int .u8 0),(.int .u8 0),(.int .u8 0),(.int .u8 0),(.int .u8 0),(.int .u8 0),(.int .u8 0),(.int .u8 0),(.int .u8 0),(.int .u8 0),(.int .u8 0),(.int .u8 0),(.int .u8 0),(.int .u8 0),(.int .u8 0),(.int .u8 0),(.int .u8 0),(.int .u8 0),(.int .u8 0),(.int .u8 0),(.int .u8 0),(.int .u8 0),(.int .u8 0),(.int .u8 0),(.int .u8 0),(.int .u8 0),(.int .u8 0),(.int .u8 0),(.int .u8 0),(.int .u8 0),(.int .u8 0),(.int .u8 0),(.int .u8 0),(.int .u8 0),(.int .u8 0),(.int .u8 0),(.int .u8 0),(.int .u8 0),(.int .u8 0),(.int .u8 0),(.int .u8 0),(.int .u8 0),(.int .u8 0),(.int .u8 0),(.int .u8 0),(.int .u8 0),(.int .u8 0),(.int .u8 0),(.int .u8 0),(.int .u8 0),(.int .u8 0),(.int .u8 0),(.int .u8 0),(.int .u8 0),(.int .u8 0),(.int .u8 0),(.int .u8 0),(.int .u8 0),(.int .u8 0),(.int .u8 0),(.int .u8 0),(.int .u8 0),(.int .u8 0),(.int .u8 0),(.int .u8 0),(.int .u8 0),(.int .u8 0),(.int .u8 0),(.int .u8 0),(.int .u8 0),(.int .u8 0),(.int .u8 0),(.int .u8 0),(.int .u8 0),(.int .u8 0),(.int .u8 0),(.int .u8 0),(.int .u8 0),(.int .u8 0),(.int .u8 0),(.int .u8 0),(.int .u8 0),(.int .u8 0),(.int .u8 0),(.int .u8 0),(.int .u8 0),(.int .u8 0),(.int .u8 0),(.int .u8 0),(.int .u8 0),(.int .u8 0)]),true,[],[]⟩
def eQ:TI:=⟨true,2,2,(.struct [(0,1),(1,1)]),(.agg [(.int .u8 0),(.int .u8 0)]),true,[5,5],[(.int .u8),(.int .u8)]⟩
def eJ:TI:=⟨true,2,2,(.struct [(0,1),(1,1)]),(.agg [(.int .u8 0),(.int .u8 0)]),true,[5,5],[(.int .u8),(.int .u8)]⟩
def l6:TI:=⟨true,32,32,(.arr 16 2),(.agg [(.int .u8 0),(.int .u8 0),(.int .u8 0),(.int .u8 0),(.int .u8 0),(.int .u8 0),(.int .u8 0),(.int .u8 0),(.int .u8 0),(.int .u8 0),(.int .u8 0),(.int .u8 0),(.int .u8 0),(.int .u8 0),(.int .u8 0),(.int .u8 0),(.int .u8 0),(.int .u8 0),(.int .u8 0),(.int .u8 0),(.int .u8 0),(.int .u8 0),(.int .u8 0),(.int .u8 0),(.int .u8 0),(.int .u8 0),(.int .u8 0),(.int .u8 0),(.int .u8 0),(.int .u8 0),(.int .u8 0),(.int .u8 0)]),true,[],[]⟩
def eH:TI:=⟨true,1,0,.flat,(.tuple [(.int .u32 0),(.int .u32 0)]),true,[],[]⟩
def fG:TI:=⟨true,1,8,(.int .u64),(.int .u64 0),true,[],[]⟩
def f9:TI:=⟨true,1,8,(.ptr 3),.nilp,true,[],[]⟩
def f7:TI:=⟨true,32,32,(.arr 32 1),(.agg [(.int .u8 0),(.int .u8 0),(.int .u8 0),(.int .u8 0),(.int .u8 0),(.int .u8 0),(.int .u8 0),(.int .u8 0),(.int .u8 0),(.int .u8 0),(.int .u8 0),(.int .u8 0),(.int .u8 0),(.int .u8 0),(.int .u8 0),(.int .u8 0),(.int .u8 0),(.int .u8 0),(.int .u8 0),(.int .u8 0),(.int .u8 0),(.int .u8 0),(.int .u8 0),(.int .u8 0),(.int .u8 0),(.int .u8 0),(.int .u8 0),(.int .u8 0),(.int .u8 0),(.int .u8 0),(.int .u8 0),(.int .u8 0)]),true,[],[]⟩
def lq:TI:=⟨true,64,64,(.arr 64 1),(.agg [(.int .u8 0),(.int .u8 0),(.int .u8 0),(.int .u8 0),(.int .u8 0),(.int .u8 0),(.int .u8 0),(.int .u8 0),(.int .u8 0),(.int .u8 0),(.int .u8 0),(.int .u8 0),(.int .u8 0),(.int .u8 0),(.int .u8 0),(.int .u8 0),(.int .u8 0),(.int .u8 0),(.int .u8 0),(.int .u8 0),(.int .u8 0),(.int .u8 0),(.int .u8 0),(.int .u8 0),(.int .u8 0),(.int .u8 0),(.int .u8 0),(.int .u8 0),(.int .u8 0),(.int .u8 0),(.int .u8 0),(.int .u8 0),(.int .u8 0),(.int .u8 0),(.int .u8 0),(.int .u8 0),(.int .u8 0),(.int .u8 0),(.int .u8 0),(.int .u8 0),(.int .u8 0),(.int .u8 0),(.int .u8 0),(.int .u8 0),(.int .u8 0),(.int .u8 0),(.int .u8 0),(.int .u8 0),(.int .u8 0),(.int .u8 0),(.int .u8 0),(.int .u8 0),(.int .u8 0),(.int .u8 0),(.int .u8 0),(.int .u8 0),(.int .u8 0),(.int .u8 0),(.int .u8 0),(.int .u8 0),(.int .u8 0),(.int .u8 0),(.int .u8 0),(.int .u8 0)]),true,[],[]⟩
def eR:TI:=⟨true,1,8,(.ptr 307),.nilp,true,[],[]⟩
def fX:TI:=⟨true,1,0,.flat,(.tuple [(.int .i64 0),(.int .i64 0)]),true,[],[]⟩
def fI:TI:=⟨true,4,40,(.struct [(0,1),(1,1),(2,1),(3,1)]),(.agg [.nilp,.nilp,.nilp,(.str [])]),true,[17,17,17,9],[]⟩
def lN:TI:=⟨true,4,40,(.struct [(0,1),(1,1),(2,1),(3,1)]),(.agg [.nilp,.nilp,.nilp,(.str [])]),true,[17,17,17,9],[]⟩
def lK:TI:=⟨true,0,0,(.arr 0 1),(.agg []),true,[],[]⟩
def fF:TI:=⟨true,0,0,(.struct [(0,0)]),(.agg []),true,[320],[]⟩
def fj:TI:=⟨true,0,0,(.struct [(0,0)]),(.agg []),true,[320],[]⟩
def lC:TI:=⟨true,1,1,(.int .u8),(.int .u8 0),true,[],[]⟩
def lY:TI:=⟨true,1,1,(.int .u8),(.int .u8 0),true,[],[]⟩
def ls:TI:=⟨true,1,4,(.int .i32),(.int .i32 0),true,[],[]⟩
def lL:TI:=⟨true,1,4,(.int .i32),(.int .i32 0),true,[],[]⟩
def lz:TI:=⟨true,11,48,(.struct [(0,1),(1,1),(2,1),(3,1),(4,1),(5,1),(6,1),(7,1),(8,1),(9,1),(10,1)]),(.agg [(.int .u64 0),(.int .u64 0),(.int .u32 0),(.int .u8 0),(.int .u8 0),(.int .u8 0),(.int .u8 0),.nilfunc,.nilp,(.int .i32 0),(.int .i32 0)]),true,[12,12,223,324,5,5,325,326,267,327,328],[]⟩
def eW:TI:=⟨true,11,48,(.struct [(0,1),(1,1),(2,1),(3,1),(4,1),(5,1),(6,1),(7,1),(8,1),(9,1),(10,1)]),(.agg [(.int .u64 0),(.int .u64 0),(.int .u32 0),(.int .u8 0),(.int .u8 0),(.int .u8 0),(.int .u8 0),.nilfunc,.nilp,(.int .i32 0),(.int .i32 0)]),true,[12,12,223,324,5,5,325,326,267,327,328],[]⟩
def Kd:TT:=(.node (.node (.node (.node (.node (.node (.node .leaf 0 ty0 .leaf) 2 ty2 (.node .leaf 3 ty3 .leaf)) 4 ty4 (.node (.node .leaf 5 ty5 .leaf) 6 ty6 (.node .leaf 7 ty7 .leaf))) 8 ty8 (.node (.node (.node .leaf 9 ty9 .leaf) 10 mj (.node .leaf 11 mh .leaf)) 12 nd (.node (.node .leaf 13 mi .leaf) 14 mJ (.node .leaf 15 m9 .leaf)))) 16 mU (.node (.node (.node (.node .leaf 17 nc .leaf) 18 ne (.node .leaf 19 m8 .leaf)) 21 mN (.node (.node .leaf 22 mM .leaf) 23 mX (.node .leaf 24 mt .leaf))) 25 mL (.node (.node (.node .leaf 26 nl .leaf) 27 mZ (.node .leaf 31 mF .leaf)) 33 mP (.node (.node .leaf 34 mz .leaf) 42 mQ (.node .leaf 43 mD .leaf))))) 44 mu (.node (.node (.node (.node (.node .leaf 45 mg .leaf) 55 mR (.node .leaf 56 mr .leaf)) 57 mG (.node (.node .leaf 58 mI .leaf) 59 mf (.node .leaf 61 mw .leaf))) 64 ml (.node (.node (.node .leaf 65 nb .leaf) 67 nk (.node .leaf 68 nn .leaf)) 71 mY (.node (.node .leaf 77 mn .leaf) 78 nh (.node .leaf 80 mK .leaf)))) 81 mW (.node (.node (.node (.node .leaf 87 mv .leaf) 101 lf (.node .leaf 102 fC .leaf)) 103 lk (.node (.node .leaf 106 fw .leaf) 107 lc (.node .leaf 112 lZ .leaf))) 113 fL (.node (.node (.node .leaf 115 lH .leaf) 116 lT (.node .leaf 117 lG .leaf)) 124 fv (.node (.node .leaf 139 lS .leaf) 140 fg (.node .leaf 141 ff .leaf)))))) 147 fO (.node (.node (.node (.node (.node (.node .leaf 148 hU .leaf) 157 ll (.node .leaf 158 lF .leaf)) 164 fb (.node (.node .leaf 171 hG .leaf) 184 fu (.node .leaf 192 eT .leaf))) 200 eX (.node (.node (.node .leaf 211 fM .leaf) 213 fK (.node .leaf 214 l8 .leaf)) 223 lW (.node (.node .leaf 224 fB .leaf) 228 lE (.node .leaf 230 eP .leaf)))) 231 fR (.node (.node (.node (.node .leaf 233 f4 .leaf) 234 fE (.node .leaf 236 lU .leaf)) 237 fk (.node (.node .leaf 238 l9 .leaf) 240 lX (.node .leaf 241 ly .leaf))) 242 lu (.node (.node (.node .leaf 243 lD .leaf) 249 fU (.node .leaf 252 f5 .leaf)) 253 eY (.node (.node .leaf 254 fY .leaf) 262 lw (.node .leaf 265 eI .leaf))))) 267 lQ (.node (.node (.node (.node (.node .leaf 274 fJ .leaf) 277 fa (.node .leaf 279 fH .leaf)) 282 fq (.node (.node .leaf 288 lI .leaf) 289 eV (.node .leaf 291 lB .leaf))) 292 hZ (.node (.node (.node .leaf 295 lh .leaf) 301 fA (.node .leaf 302 eQ .leaf)) 303 eJ (.node (.node .leaf 304 l6 .leaf) 305 eH (.node .leaf 307 fG .leaf)))) 311 f9 (.node (.node (.node (.node .leaf 313 f7 .leaf) 314 lq (.node .leaf 315 eR .leaf)) 316 fX (.node (.node .leaf 318 fI .leaf) 319 lN (.node .leaf 320 lK .leaf))) 321 fF (.node (.node (.node .leaf 322 fj .leaf) 324 lC (.node .leaf 325 lY .leaf)) 327 ls (.node (.node .leaf 328 lL .leaf) 329 lz (.node .leaf 330 eW .leaf)))))))
set_option maxRecDepth 100000 in
theorem GM:Kd.toList.map (fun p=>ti Tryz.prog p.1)=Kd.toList.map (·.2):=by kernel_rfl
noncomputable def tyT (t:TypeId):TI:=match Kd.get t with|some v=>v|none=>ti Tryz.prog t
theorem qT:tyT=ti Tryz.prog:=TT.eq_of GM
def Ud:List Int:= [31,28,31,30,31,30,31,31,30,31,30,31]
def Ub:List Int:= [1,10,100,1000,10000,100000,1000000,10000000,100000000,1000000000,10000000000,100000000000,1000000000000,10000000000000,100000000000000,1000000000000000,10000000000000000,100000000000000000,1000000000000000000,10000000000000000000]
def gl0 (mx:Int) (g:Nat):List V:=match g with
 |0=>Ud.map (vI .i64)
 |1=> [.int .i64 mx]
 |2=>Ub.map (vI .u64)
 |_=> []
section
variable {gl:Nat→List V} {ops:Array Oper} {K:AFr→St→Prop} {s0:St} {cs:List Code} {AQ:Exit→AFr→St→Prop} {id:Nat} {fr fr':AFr} {st st':St} {i:Nat} {x:Cfg} {E:List Nat} {B:List (List Nat)} {rest seen:List Nat} {fx:List (Nat×Option V×V)}
theorem kP (k:Nat) {q:Option V} {v:V} (hq:q=some v) (h:wh Tryz.prog gl ops (k+1) (ZB (qd tyT gl ops i k x) (xt ops k) v) K)
  (hik:Nat.ble i k=true:=by kernel_rfl) (he:Zu tyT gl ops i k x=dB q (qd tyT gl ops i k x).2:=by kernel_rfl):wh Tryz.prog gl ops i x K:=KG qT k hq hik he h
theorem kC (k:Nat) (R:Ren) {f:FuncId} {args1:List V} {st1 st1':St} {r:V} (hc:wj Tryz.prog gl f args1 st1 (Out r st1'))
  (h:wh Tryz.prog gl ops (k+1) (qe (qd tyT gl ops i k x) (xt ops k) (V.ren R r) (fun st=>St.after R st st1')) K)
  (hb:goB tyT gl ops i k x R f args1 st1=true:=by kernel_rfl) (he:callL R st1 args1=goR tyT gl ops i k x R args1 st1:=by kernel_rfl):wh Tryz.prog gl ops i x K:=mE qT k R hc hb he h
theorem kA (k t:Nat) {α:Type} (c:α→List V) {l l2 l':List α} {e e2:TypeId} {sz bytes b2:Nat} {tok2:Tok} (h1:q7 bytes l l2=some l')
  (h:wh Tryz.prog gl ops (k+1) (qe (qd tyT gl ops i k x) (xt ops k) (.sl sz (l'.map c) (.fam t l'.length)) (fun st=>st.setFam t l'.length)) K)
  (hb:(Nat.ble i k&&gy tyT e sz bytes)=true:=by kernel_rfl) (he:((qd tyT gl ops i k x).2.fams[t]?,Zu tyT gl ops i k x)=(some l.length,uP tyT (qd tyT gl ops i k x).2 (.slice e sz bytes) (.slice e2 sz b2) (.sl sz (l.map c) (.fam t l.length)) (.sl sz (l2.map c) tok2)):=by kernel_rfl):wh Tryz.prog gl ops i x K:=eS qT k t c h1 hb he h
theorem kS (k:Nat) (s:List UInt8) (h:wh Tryz.prog gl ops (k+1) (ZB (qd tyT gl ops i k x) (xt ops k) (.sl 1 ((s2b s).map (cI .u8)) .none)) K)
  (hik:Nat.ble i k=true:=by kernel_rfl) (he:Zu tyT gl ops i k x=dB (some (.sl 1 (jy s) .none)) (qd tyT gl ops i k x).2:=by kernel_rfl):wh Tryz.prog gl ops i x K:=fd qT k s hik he h
theorem kB (k:Nat) (l:List Int) (h:wh Tryz.prog gl ops (k+1) (ZB (qd tyT gl ops i k x) (xt ops k) (.str (b2s l))) K)
  (hik:Nat.ble i k=true:=by kernel_rfl) (he:Zu tyT gl ops i k x=dB (match kc (l.map (cI .u8))with|some b=>some (.str b)|none=>none) (qd tyT gl ops i k x).2:=by kernel_rfl):wh Tryz.prog gl ops i x K:=hP qT k l hik he h
theorem kV (k m f id:Nat) {cell:Option (List V)} {q:St→Option (V×St)} {v:V} {F:St→St} (hq:∀st:St,st.vars.length=m→st.fams.length=f→st.vars[id]? =cell→q st=some (v,F st))
  (h:wh Tryz.prog gl ops (k+1) (qe (qd tyT gl ops i k x) (xt ops k) v F) K) (hik:Nat.ble i k=true:=by kernel_rfl)
  (he:((qd tyT gl ops i k x).2.vars.length,(qd tyT gl ops i k x).2.fams.length,(qd tyT gl ops i k x).2.vars[id]?,Zu tyT gl ops i k x)=(m,f,cell,q (qd tyT gl ops i k x).2):=by kernel_rfl):wh Tryz.prog gl ops i x K:=ep qT k m f id hq hik he h
theorem kL (k:Nat) {v:V} {cells:List V} (h:wh Tryz.prog gl ops (k+1) (qe (qd tyT gl ops i k x) (xt ops k) v (fun st=>st.push [.buf cells])) K)
  (hik:Nat.ble i k=true:=by kernel_rfl) (he:cA tyT gl ops i k x=some (v,cells):=by kernel_rfl):wh Tryz.prog gl ops i x K:=f0 qT k hik he h
theorem dV {fx:List (Nat×Option V×V)} (hf:Yy fx) (m f id:Nat) {cell:Option (List V)} {q:St→Option (V×St)} {v:V} {F:St→St} (hq:∀st:St,st.vars.length=m→st.fams.length=f→st.vars[id]? =cell→q st=some (v,F st))
  (h:aDC Tryz.prog gl ops E B rest (i::seen) (qe x (xt ops i) v F) K) (hb:E.contains i=true:=by kernel_rfl)
  (he:(x.2.vars.length,x.2.fams.length,x.2.vars[id]?,Jm tyT gl ops i x)=(m,f,cell,q x.2):=by kernel_rfl)
  (hs:(stX tyT gl ops E B i seen (qe x (xt ops i) v F),svX ops E B fx i seen (qe x (xt ops i) v F))=(stY tyT gl ops E B fx i seen (qe x (xt ops i) v F),svY ops E B fx i seen (qe x (xt ops i) v F)):=by kernel_rfl):aDC Tryz.prog gl ops E B (i::rest) seen x K:=en qT hf m f id hq hb he hs h
theorem kE (R:Ren) (hb:cD tyT gl ops i x s0 R fr' st'=true:=by kernel_rfl) (he:wkL R fr' st'=c7 tyT gl ops i x R fr' st':=by kernel_rfl):wh Tryz.prog gl ops i x (toW s0 fr' st'):=fN qT R hb he
theorem reg {c:Code} (fr':AFr) (st':St) (h:wh Tryz.prog gl ops 0 (fr,st) (toW s0 fr' st')) (h2:zB Tryz.prog gl s0 (c::cs) AQ fr' st'):zB Tryz.prog gl s0 (.region id ops false::c::cs) AQ fr st:=UP fr' st' zP h h2
theorem co (fr':AFr) (st':St) (hcl:Cl s0 (AQ .normal)) (h:wh Tryz.prog gl ops 0 (fr,st) (toW s0 fr' st')) (h2:zB Tryz.prog gl s0 [] AQ fr' st'):zB Tryz.prog gl s0 [.region id ops false] AQ fr st:=UP fr' st' (ju hcl) h h2
theorem drw {c:Code} (order E:List Nat) (B:List (List Nat)) (fr':AFr) (st':St) (h:aDC Tryz.prog gl ops E B order [] (fr,st) (toW s0 fr' st')) (h2:zB Tryz.prog gl s0 (c::cs) AQ fr' st')
  (hm:Tryz.prog.follows .mixedOrders=true:=by kernel_rfl) (hc:dc ops fr.n order E B=true:=by kernel_rfl):zB Tryz.prog gl s0 (.region id ops true::c::cs) AQ fr st:=Vt order E B fr' st' hm hc zP h h2
theorem mq (order E:List Nat) (B:List (List Nat)) (fr':AFr) (st':St) (hcl:Cl s0 (AQ .normal)) (h:aDC Tryz.prog gl ops E B order [] (fr,st) (toW s0 fr' st')) (h2:zB Tryz.prog gl s0 [] AQ fr' st')
  (hm:Tryz.prog.follows .mixedOrders=true:=by kernel_rfl) (hc:dc ops fr.n order E B=true:=by kernel_rfl):zB Tryz.prog gl s0 [.region id ops true] AQ fr st:=Vt order E B fr' st' hm hc (ju hcl) h h2
theorem dS (os:List Nat) (h:aDC Tryz.prog gl ops E B rest (os.reverse++seen) (cF tyT gl ops E os x) K) (hb:eh tyT gl ops E os x=true:=by kernel_rfl):aDC Tryz.prog gl ops E B (os++rest) seen x K:=eO qT os hb h
theorem dP {q:Option V} {v:V} (hq:q=some v) (h:aDC Tryz.prog gl ops E B rest (i::seen) (ZB x (xt ops i) v) K) (hb:Kh ops E i=true:=by kernel_rfl) (he:Jm tyT gl ops i x=dB q x.2:=by kernel_rfl):aDC Tryz.prog gl ops E B (i::rest) seen x K:=cZ qT hq hb he h
theorem dF (hf:Yy fx) (h:aDC Tryz.prog gl ops E B rest (i::seen) (Vd tyT gl ops i x) K) (hb:c6 tyT gl ops E i x=true:=by kernel_rfl)
  (hs:(stX tyT gl ops E B i seen (Vd tyT gl ops i x),svX ops E B fx i seen (Vd tyT gl ops i x))=(stY tyT gl ops E B fx i seen (Vd tyT gl ops i x),svY ops E B fx i seen (Vd tyT gl ops i x)):=by kernel_rfl):aDC Tryz.prog gl ops E B (i::rest) seen x K:=ld qT hf hb hs h
theorem dC (hf:Yy fx) (R:Ren) {f:FuncId} {args1:List V} {st1 st1':St} {r:V} (hc:wj Tryz.prog gl f args1 st1 (Out r st1')) (h:aDC Tryz.prog gl ops E B rest (i::seen) (qe x (xt ops i) (V.ren R r) (fun st=>St.after R st st1')) K)
  (hb:cN ops E i x R f args1 st1=true:=by kernel_rfl) (he:callL R st1 args1=eo ops i x R args1 st1:=by kernel_rfl)
  (hs:(stX tyT gl ops E B i seen (qe x (xt ops i) (V.ren R r) (fun st=>St.after R st st1')),svX ops E B fx i seen (qe x (xt ops i) (V.ren R r) (fun st=>St.after R st st1')))=(stY tyT gl ops E B fx i seen (qe x (xt ops i) (V.ren R r) (fun st=>St.after R st st1')),svY ops E B fx i seen (qe x (xt ops i) (V.ren R r) (fun st=>St.after R st st1'))):=by kernel_rfl):aDC Tryz.prog gl ops E B (i::rest) seen x K:=mV qT hf R hc hb he hs h
theorem dA (hf:Yy fx) (t:Nat) {α:Type} (c:α→List V) {l l2 l':List α} {e e2:TypeId} {sz bytes b2:Nat} {tok2:Tok} (h1:q7 bytes l l2=some l')
  (h:aDC Tryz.prog gl ops E B rest (i::seen) (qe x (xt ops i) (.sl sz (l'.map c) (.fam t l'.length)) (fun st=>st.setFam t l'.length)) K)
  (hb:(E.contains i&&gy tyT e sz bytes)=true:=by kernel_rfl) (he:(x.2.fams[t]?,Jm tyT gl ops i x)=(some l.length,uP tyT x.2 (.slice e sz bytes) (.slice e2 sz b2) (.sl sz (l.map c) (.fam t l.length)) (.sl sz (l2.map c) tok2)):=by kernel_rfl)
  (hs:(stX tyT gl ops E B i seen (qe x (xt ops i) (.sl sz (l'.map c) (.fam t l'.length)) (fun st=>st.setFam t l'.length)),svX ops E B fx i seen (qe x (xt ops i) (.sl sz (l'.map c) (.fam t l'.length)) (fun st=>st.setFam t l'.length)))=(stY tyT gl ops E B fx i seen (qe x (xt ops i) (.sl sz (l'.map c) (.fam t l'.length)) (fun st=>st.setFam t l'.length)),svY ops E B fx i seen (qe x (xt ops i) (.sl sz (l'.map c) (.fam t l'.length)) (fun st=>st.setFam t l'.length))):=by kernel_rfl):aDC Tryz.prog gl ops E B (i::rest) seen x K:=fT qT hf t c h1 hb he hs h
theorem dE (R:Ren) (hb:wkB s0 R x.1 x.2 fr' st'=true:=by kernel_rfl) (he:wkL R fr' st'=wkR R x.1 x.2 fr' st':=by kernel_rfl):aDC Tryz.prog gl ops E B [] seen x (toW s0 fr' st'):=fh R hb he
theorem wk (R:Ren) (hb:wkB s0 R fr st fr' st'=true:=by kernel_rfl) (he:wkL R fr' st'=wkR R fr st fr' st':=by kernel_rfl):Wk s0 fr st fr' st':=Wk.gen R hb he
theorem rm {c:Code} (ks:List Nat) (new:List (Nat×V)) (st':St) (h:wh Tryz.prog gl ops 0 (fr,st) (toW s0 (Xu fr ks new) st')) (h2:zB Tryz.prog gl s0 (c::cs) AQ (Xu fr ks new) st'):zB Tryz.prog gl s0 (.region id ops false::c::cs) AQ fr st:=UP _ _ zP h h2
theorem rs {c:Code} (ks:List Nat) (new:List (Nat×V)) (h:wh Tryz.prog gl ops 0 (fr,st) (toW s0 (Xu fr ks new) st)) (h2:zB Tryz.prog gl s0 (c::cs) AQ (Xu fr ks new) st):zB Tryz.prog gl s0 (.region id ops false::c::cs) AQ fr st:=UP _ _ zP h h2
theorem rmN (hcl:Cl s0 (AQ .normal)) (ks:List Nat) (new:List (Nat×V)) (st':St) (h:wh Tryz.prog gl ops 0 (fr,st) (toW s0 (Xu fr ks new) st')) (h2:zB Tryz.prog gl s0 [] AQ (Xu fr ks new) st'):zB Tryz.prog gl s0 [.region id ops false] AQ fr st:=UP _ _ (ju hcl) h h2
theorem rsN (hcl:Cl s0 (AQ .normal)) (ks:List Nat) (new:List (Nat×V)) (h:wh Tryz.prog gl ops 0 (fr,st) (toW s0 (Xu fr ks new) st)) (h2:zB Tryz.prog gl s0 [] AQ (Xu fr ks new) st):zB Tryz.prog gl s0 [.region id ops false] AQ fr st:=UP _ _ (ju hcl) h h2
theorem zm {c:Code} (order E:List Nat) (B:List (List Nat)) (ks:List Nat) (new:List (Nat×V)) (st':St) (h:aDC Tryz.prog gl ops E B order [] (fr,st) (toW s0 (Xu fr ks new) st')) (h2:zB Tryz.prog gl s0 (c::cs) AQ (Xu fr ks new) st')
  (hm:Tryz.prog.follows .mixedOrders=true:=by kernel_rfl) (hc:dc ops fr.n order E B=true:=by kernel_rfl):zB Tryz.prog gl s0 (.region id ops true::c::cs) AQ fr st:=Vt order E B _ _ hm hc zP h h2
theorem zs {c:Code} (order E:List Nat) (B:List (List Nat)) (ks:List Nat) (new:List (Nat×V)) (h:aDC Tryz.prog gl ops E B order [] (fr,st) (toW s0 (Xu fr ks new) st)) (h2:zB Tryz.prog gl s0 (c::cs) AQ (Xu fr ks new) st)
  (hm:Tryz.prog.follows .mixedOrders=true:=by kernel_rfl) (hc:dc ops fr.n order E B=true:=by kernel_rfl):zB Tryz.prog gl s0 (.region id ops true::c::cs) AQ fr st:=Vt order E B _ _ hm hc zP h h2
theorem zmN (hcl:Cl s0 (AQ .normal)) (order E:List Nat) (B:List (List Nat)) (ks:List Nat) (new:List (Nat×V)) (st':St) (h:aDC Tryz.prog gl ops E B order [] (fr,st) (toW s0 (Xu fr ks new) st')) (h2:zB Tryz.prog gl s0 [] AQ (Xu fr ks new) st')
  (hm:Tryz.prog.follows .mixedOrders=true:=by kernel_rfl) (hc:dc ops fr.n order E B=true:=by kernel_rfl):zB Tryz.prog gl s0 [.region id ops true] AQ fr st:=Vt order E B _ _ hm hc (ju hcl) h h2
theorem bF {α:Type} {c:Operand} {x y:Code} {t:Bool} {a b:Option α} {r:α} (h:(if t=true then a else b)=some r) (h1:a=some r→zB Tryz.prog gl s0 (x::cs) AQ fr st) (h2:b=some r→zB Tryz.prog gl s0 (y::cs) AQ fr st) (hc:fr.eval c= .bool t:=by kernel_rfl):zB Tryz.prog gl s0 (.cond c x y::cs) AQ fr st:=
 ef t hc (fun hb=>h1 (BM hb h)) (fun hb=>h2 (BF hb h))
theorem bT {c:Operand} {x y:Code} (h1:zB Tryz.prog gl s0 (x::cs) AQ fr st) (hc:fr.eval c= .bool true:=by kernel_rfl):zB Tryz.prog gl s0 (.cond c x y::cs) AQ fr st:=ef true hc (fun _=>h1) (fun hb=>Bool.noConfusion hb)
theorem bN {c:Operand} {x y:Code} (h2:zB Tryz.prog gl s0 (y::cs) AQ fr st) (hc:fr.eval c= .bool false:=by kernel_rfl):zB Tryz.prog gl s0 (.cond c x y::cs) AQ fr st:=ef false hc (fun hb=>Bool.noConfusion hb) (fun _=>h2)
theorem gF {α:Type} (k d:Nat) {b:Bool} {a a':Option α} {r:α} (h:(if b=true then a else a')=some r) (ht:a=some r→wh Tryz.prog gl ops k (ZB (qd tyT gl ops i k x) (some d) (.bool true)) K) (hf:a'=some r→wh Tryz.prog gl ops k (ZB (qd tyT gl ops i k x) (some d) (.bool false)) K)
  (hik:Nat.ble i k=true:=by kernel_rfl) (he:Jy tyT gl ops i k x=some (d,.bool b):=by kernel_rfl):wh Tryz.prog gl ops i x K:=PC qT k d b hik he (fun hb=>ht (BM hb h)) (fun hb=>hf (BF hb h))
theorem hF {α:Type} (d:Nat) {b:Bool} {a a':Option α} {r:α} (h:(if b=true then a else a')=some r) (ht:a=some r→aDC Tryz.prog gl ops E B (i::rest) seen (ZB x (some d) (.bool true)) K) (hf:a'=some r→aDC Tryz.prog gl ops E B (i::rest) seen (ZB x (some d) (.bool false)) K)
  (he:Kf ops i x=some (d,.bool b):=by kernel_rfl):aDC Tryz.prog gl ops E B (i::rest) seen x K:=Pa d b he (fun hb=>ht (BM hb h)) (fun hb=>hf (BF hb h))
theorem fnc {f:FuncId} {fn:Func} {c:Code} {args:List V} {Q:V→St→Prop} (hf:Tryz.prog.funcs[f]? =some fn) (hb:fn.body=some c) (h:zB Tryz.prog gl st [c] (ZA Tryz.prog gl st fn Q) (ZI fn.ntmps args) st)
  (hn : (fn.name == "runtime.NumGoroutine") = false := by kernel_rfl) (hl : Nat.ble args.length fn.ntmps = true := by kernel_rfl) : wj Tryz.prog gl f args st Q := wj.ofB hf hb hn (Nat.le_of_ble_eq_true hl) h
theorem rt {fn:Func} {r:V} (R:Ren)
  (hb:((bg tyT gl fr st fn.results.toList).isSome&&wkB s0 R ⟨1,[(0,KS tyT gl fr st fn.results.toList)]⟩ st ⟨1,[(0,r)]⟩ st')=true:=by kernel_rfl)
  (hl:wkL R ⟨1,[(0,r)]⟩ st'=wkR R ⟨1,[(0,KS tyT gl fr st fn.results.toList)]⟩ st ⟨1,[(0,r)]⟩ st':=by kernel_rfl):ZA Tryz.prog gl s0 fn (Out r st') .ret fr st:=P2 qT R (.inr rfl) hb hl
theorem rno {fn:Func} {r:V} (R:Ren)
  (hb:((bg tyT gl fr st fn.results.toList).isSome&&wkB s0 R ⟨1,[(0,KS tyT gl fr st fn.results.toList)]⟩ st ⟨1,[(0,r)]⟩ st')=true:=by kernel_rfl)
  (hl:wkL R ⟨1,[(0,r)]⟩ st'=wkR R ⟨1,[(0,KS tyT gl fr st fn.results.toList)]⟩ st ⟨1,[(0,r)]⟩ st':=by kernel_rfl):ZA Tryz.prog gl s0 fn (Out r st') .normal fr st:=P2 qT R (.inl rfl) hb hl
end
abbrev AC (mx:Int) (f:FuncId) (args:List V) (s:List (List V)) (r:V) (s':List (List V)):Prop:=wj Tryz.prog (gl0 mx) f args ⟨s,[]⟩ (Out r ⟨s',[]⟩)
end Go.Abs
end
