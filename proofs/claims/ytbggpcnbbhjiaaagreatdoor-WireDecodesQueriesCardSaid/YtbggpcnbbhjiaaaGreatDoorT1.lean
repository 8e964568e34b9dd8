/- The program's types and functions in the abstract reading, its records as Lean structures, and the contracts of library functions. -/
import Derived.Test.YtbggpcnbbhjiaaaGreatDoorS
set_option linter.unusedVariables false
set_option linter.unusedSimpArgs false
set_option linter.unnecessarySimpa false
section
namespace Go.Abs
open Go Go.Proofs
def ty0:TI:=⟨true,1,0, .flat,(.tuple []),true,[],[]⟩
def ty2:TI:=⟨true,1,8,(.int .i64),(.int .i64 0),true,[],[]⟩
def ty3:TI:=⟨true,1,8,(.int .i64),(.int .i64 0),true,[],[]⟩
def ty4:TI:=⟨true,1,1, .bool,(.bool false),true,[],[]⟩
def ty5:TI:=⟨true,1,1,(.int .u8),(.int .u8 0),true,[],[]⟩
def ty6:TI:=⟨true,1,1,(.int .u8),(.int .u8 0),true,[],[]⟩
def ty7:TI:=⟨true,4,24,(.struct [(0,1),(1,1),(2,1),(3,1)]),(.agg [(.int .i64 0),(.int .i64 0),(.bool false),(.int .u8 0)]),true,[2,3,4,6],[(.int .i64),(.int .i64), .bool,(.int .u8)]⟩
def ty8:TI:=⟨true,4,24,(.struct [(0,1),(1,1),(2,1),(3,1)]),(.agg [(.int .i64 0),(.int .i64 0),(.bool false),(.int .u8 0)]),true,[2,3,4,6],[(.int .i64),(.int .i64), .bool,(.int .u8)]⟩
def ty9:TI:=⟨true,1,16, .str,(.str []),true,[],[]⟩
def zgn:TI:=⟨true,1,16, .str,(.str []),true,[],[]⟩
def zfW:TI:=⟨true,1,16, .str,(.str []),true,[],[]⟩
def zfx:TI:=⟨true,1,8,(.int .u64),(.int .u64 0),true,[],[]⟩
def zgC:TI:=⟨true,2,24,(.struct [(0,1),(1,1)]),(.agg [(.str []),(.int .u64 0)]),true,[9,12],[]⟩
def zf7:TI:=⟨true,2,24,(.struct [(0,1),(1,1)]),(.agg [(.str []),(.int .u64 0)]),true,[9,12],[]⟩
def zgr:TI:=⟨true,1,8,(.ptr 319), .nilp,true,[],[]⟩
def zgc:TI:=⟨true,1,8,(.ptr 322), .nilp,true,[],[]⟩
def zgm:TI:=⟨true,1,8,(.ptr 330), .nilp,true,[],[]⟩
def zgq:TI:=⟨true,1,8,(.struct [(0,1)]),(.agg [.nilp]),true,[17],[]⟩
def zfI:TI:=⟨true,1,8,(.struct [(0,1)]),(.agg [.nilp]),true,[17],[]⟩
def zgv:TI:=⟨true,1,4,(.int .i32),(.int .i32 0),true,[],[]⟩
def zfJ:TI:=⟨true,1,24,(.slice 3 1 8), .nilsl,true,[],[]⟩
def zfS:TI:=⟨true,1,24,(.slice 9 1 16), .nilsl,true,[],[]⟩
def zfy:TI:=⟨true,1,24,(.slice 59 3 48), .nilsl,true,[],[]⟩
def zf9:TI:=⟨true,1,24,(.slice 68 4 64), .nilsl,true,[],[]⟩
def zfV:TI:=⟨true,11,128,(.struct [(0,1),(1,1),(2,1),(3,1),(4,1),(5,1),(6,1),(7,1),(8,1),(9,1),(10,1)]),(.agg [(.int .i64 0),(.str []),(.int .i64 0), .nilsl,(.bool false),(.bool false),(.bool false), .nilsl,(.int .i64 0),(.bool false), .nilsl]),true,[3,9,3,23,4,4,4,24,3,4,25],[]⟩
def zgz:TI:=⟨true,11,128,(.struct [(0,1),(1,1),(2,1),(3,1),(4,1),(5,1),(6,1),(7,1),(8,1),(9,1),(10,1)]),(.agg [(.int .i64 0),(.str []),(.int .i64 0), .nilsl,(.bool false),(.bool false),(.bool false), .nilsl,(.int .i64 0),(.bool false), .nilsl]),true,[3,9,3,23,4,4,4,24,3,4,25],[]⟩
def zfD:TI:=⟨true,1,8,(.ptr 78), .nilp,true,[],[]⟩
def zfG:TI:=⟨true,1,8,(.int .i64),(.int .i64 0),true,[],[]⟩
def zfE:TI:=⟨true,1,0, .flat,(.tuple [(.str []),(.int .i64 0)]),true,[],[]⟩
def zf4:TI:=⟨true,3,40,(.struct [(0,1),(1,1),(2,1)]),(.agg [(.int .i64 0),(.int .i64 0), .nilsl]),true,[3,3,23],[]⟩
def zf5:TI:=⟨true,3,40,(.struct [(0,1),(1,1),(2,1)]),(.agg [(.int .i64 0),(.int .i64 0), .nilsl]),true,[3,3,23],[]⟩
def zfA:TI:=⟨true,5,72,(.struct [(0,1),(1,1),(2,3)]),(.agg [(.int .i64 0), .nilsl,(.int .i64 0),(.int .i64 0), .nilsl]),true,[3,22,43],[]⟩
def zfZ:TI:=⟨true,5,72,(.struct [(0,1),(1,1),(2,3)]),(.agg [(.int .i64 0), .nilsl,(.int .i64 0),(.int .i64 0), .nilsl]),true,[3,22,43],[]⟩
def zgB:TI:=⟨true,1,24,(.slice 141 1 24), .nilsl,true,[],[]⟩
def zgA:TI:=⟨true,1,24,(.struct [(0,1)]),(.agg [.nilsl]),true,[55],[]⟩
def zgj:TI:=⟨true,1,24,(.struct [(0,1)]),(.agg [.nilsl]),true,[55],[]⟩
def zfK:TI:=⟨true,3,48,(.struct [(0,1),(1,1),(2,1)]),(.agg [(.int .i64 0),(.str []), .nilsl]),true,[3,9,57],[]⟩
def zgd:TI:=⟨true,3,48,(.struct [(0,1),(1,1),(2,1)]),(.agg [(.int .i64 0),(.str []), .nilsl]),true,[3,9,57],[]⟩
def zgu:TI:=⟨true,1,24,(.slice 27 11 128), .nilsl,true,[],[]⟩
def zgx:TI:=⟨true,3,40,(.struct [(0,1),(1,1),(2,1)]),(.agg [(.int .i64 0),(.str []),(.str [])]),true,[3,9,9],[(.int .i64), .str, .str]⟩
def zge:TI:=⟨true,3,40,(.struct [(0,1),(1,1),(2,1)]),(.agg [(.int .i64 0),(.str []),(.str [])]),true,[3,9,9],[(.int .i64), .str, .str]⟩
def zfR:TI:=⟨true,4,64,(.struct [(0,1),(1,3)]),(.agg [.nilsl,(.int .i64 0),(.str []),(.str [])]),true,[57,65],[]⟩
def zf0:TI:=⟨true,4,64,(.struct [(0,1),(1,3)]),(.agg [.nilsl,(.int .i64 0),(.str []),(.str [])]),true,[57,65],[]⟩
def zf2:TI:=⟨true,1,0, .flat,(.tuple [.nilsl,(.int .i64 0)]),true,[],[]⟩
def zgi:TI:=⟨true,2,32,(.struct [(0,1),(1,1)]),(.agg [.nilsl,(.int .i64 0)]),true,[22,3],[]⟩
def zgo:TI:=⟨true,2,32,(.struct [(0,1),(1,1)]),(.agg [.nilsl,(.int .i64 0)]),true,[22,3],[]⟩
def zfT:TI:=⟨true,2,24,(.struct [(0,1),(1,1)]),(.agg [(.str []),(.int .i64 0)]),true,[9,33],[.str,(.int .i64)]⟩
def zgb:TI:=⟨true,2,24,(.struct [(0,1),(1,1)]),(.agg [(.str []),(.int .i64 0)]),true,[9,33],[.str,(.int .i64)]⟩
def zgl:TI:=⟨true,1,8,(.ptr 81), .nilp,true,[],[]⟩
def zdx:TI:=⟨true,1,24,(.slice 5 1 1), .nilsl,true,[],[]⟩
def zfq:TI:=⟨true,3,40,(.struct [(0,1),(1,1),(2,1)]),(.agg [(.int .i64 0),(.str []),(.str [])]),true,[3,9,9],[(.int .i64), .str, .str]⟩
def zdd:TI:=⟨true,3,40,(.struct [(0,1),(1,1),(2,1)]),(.agg [(.int .i64 0),(.str []),(.str [])]),true,[3,9,9],[(.int .i64), .str, .str]⟩
def zfm:TI:=⟨true,1,24,(.slice 103 3 40), .nilsl,true,[],[]⟩
def zeZ:TI:=⟨true,1,0, .flat,(.tuple [.nilsl,(.int .i64 0)]),true,[],[]⟩
def zeh:TI:=⟨true,1,8,(.ptr 148), .nilp,true,[],[]⟩
def zfk:TI:=⟨true,1,8,(.ptr 116), .nilp,true,[],[]⟩
def zdg:TI:=⟨true,3,40,(.struct [(0,1),(1,1),(2,1)]),(.agg [.nilsl,(.int .i64 0),(.bool false)]),true,[106,3,4],[]⟩
def zen:TI:=⟨true,3,40,(.struct [(0,1),(1,1),(2,1)]),(.agg [.nilsl,(.int .i64 0),(.bool false)]),true,[106,3,4],[]⟩
def zdA:TI:=⟨true,1,0, .flat,(.tuple [(.int .i64 0),(.int .i64 0)]),true,[],[]⟩
def zet:TI:=⟨true,1,0, .flat,(.tuple [.nilsl,(.int .i64 0)]),true,[],[]⟩
def zdQ:TI:=⟨true,3,40,(.struct [(0,1),(1,1),(2,1)]),(.agg [(.str []),(.int .i64 0),(.str [])]),true,[9,3,9],[.str,(.int .i64), .str]⟩
def zde:TI:=⟨true,3,40,(.struct [(0,1),(1,1),(2,1)]),(.agg [(.str []),(.int .i64 0),(.str [])]),true,[9,3,9],[.str,(.int .i64), .str]⟩
def zdh:TI:=⟨true,1,24,(.slice 140 3 40), .nilsl,true,[],[]⟩
def zdn:TI:=⟨true,2,32,(.struct [(0,1),(1,1)]),(.agg [.nilsl,(.bool false)]),true,[106,4],[]⟩
def zej:TI:=⟨true,2,32,(.struct [(0,1),(1,1)]),(.agg [.nilsl,(.bool false)]),true,[106,4],[]⟩
def zfp:TI:=⟨true,6,48,(.struct [(0,1),(1,1),(2,1),(3,1),(4,1),(5,1)]),(.agg [(.int .i64 0),(.int .i64 0),(.int .i64 0),(.int .i64 0),(.int .i64 0),(.int .i64 0)]),true,[3,3,3,3,3,3],[(.int .i64),(.int .i64),(.int .i64),(.int .i64),(.int .i64),(.int .i64)]⟩
def zeI:TI:=⟨true,6,48,(.struct [(0,1),(1,1),(2,1),(3,1),(4,1),(5,1)]),(.agg [(.int .i64 0),(.int .i64 0),(.int .i64 0),(.int .i64 0),(.int .i64 0),(.int .i64 0)]),true,[3,3,3,3,3,3],[(.int .i64),(.int .i64),(.int .i64),(.int .i64),(.int .i64),(.int .i64)]⟩
def zfd:TI:=⟨true,1,8,(.int .u64),(.int .u64 0),true,[],[]⟩
def zfj:TI:=⟨true,1,0, .flat,(.tuple [.nilsl,(.bool false)]),true,[],[]⟩
def zdk:TI:=⟨true,1,0, .flat,(.tuple [(.str []),(.int .i64 0),(.int .i64 0)]),true,[],[]⟩
def zdj:TI:=⟨true,1,8,(.int .u64),(.int .u64 0),true,[],[]⟩
def zdo:TI:=⟨true,1,8,(.int .i64),(.int .i64 0),true,[],[]⟩
def zdB:TI:=⟨true,1,0, .flat,(.tuple [(.bool false),(.int .i64 0)]),true,[],[]⟩
def zeT:TI:=⟨true,2,32,(.struct [(0,1),(1,1)]),(.agg [.nilsl,(.int .i64 0)]),true,[106,3],[]⟩
def zd0:TI:=⟨true,2,32,(.struct [(0,1),(1,1)]),(.agg [.nilsl,(.int .i64 0)]),true,[106,3],[]⟩
def zea:TI:=⟨true,1,4,(.int .u32),(.int .u32 0),true,[],[]⟩
def zfa:TI:=⟨true,1,24,(.slice 223 1 4), .nilsl,true,[],[]⟩
def zeb:TI:=⟨true,1,0, .flat,(.tuple [.nilsl,(.int .i64 0)]),true,[],[]⟩
def zd8:TI:=⟨true,3,40,(.struct [(0,3)]),(.agg [(.int .i64 0),(.str []),(.str [])]),true,[65],[]⟩
def zfg:TI:=⟨true,3,40,(.struct [(0,3)]),(.agg [(.int .i64 0),(.str []),(.str [])]),true,[65],[]⟩
def zeY:TI:=⟨true,1,8,(.ptr 231), .nilp,true,[],[]⟩
def zdY:TI:=⟨true,1,24,(.slice 232 1 8), .nilsl,true,[],[]⟩
def zfo:TI:=⟨true,1,24,(.slice 23 1 24), .nilsl,true,[],[]⟩
def zeJ:TI:=⟨true,3,56,(.struct [(0,1),(1,1),(2,1)]),(.agg [(.str []),(.str []), .nilsl]),true,[9,9,236],[]⟩
def zer:TI:=⟨true,3,56,(.struct [(0,1),(1,1),(2,1)]),(.agg [(.str []),(.str []), .nilsl]),true,[9,9,236],[]⟩
def zdP:TI:=⟨true,12,96,(.arr 12 1),(.agg [(.int .i64 0),(.int .i64 0),(.int .i64 0),(.int .i64 0),(.int .i64 0),(.int .i64 0),(.int .i64 0),(.int .i64 0),(.int .i64 0),(.int .i64 0),(.int .i64 0),(.int .i64 0)]),true,[],[]⟩
def ze0:TI:=⟨true,1,8,(.ptr 243), .nilp,true,[],[]⟩
def zeu:TI:=⟨true,2,32,(.struct [(0,1),(1,1)]),(.agg [.nilp, .nilsl]),true,[241,101],[]⟩
def zd7:TI:=⟨true,2,32,(.struct [(0,1),(1,1)]),(.agg [.nilp, .nilsl]),true,[241,101],[]⟩
def zeQ:TI:=⟨true,1,0, .flat,(.tuple [(.str []),(.str []),(.bool false)]),true,[],[]⟩
def zes:TI:=⟨true,1,1,(.int .i8),(.int .i8 0),true,[],[]⟩
def zef:TI:=⟨true,1,8,(.ptr 214), .nilp,true,[],[]⟩
def zd5:TI:=⟨true,64,256,(.arr 64 1),(.agg [(.int .u32 0),(.int .u32 0),(.int .u32 0),(.int .u32 0),(.int .u32 0),(.int .u32 0),(.int .u32 0),(.int .u32 0),(.int .u32 0),(.int .u32 0),(.int .u32 0),(.int .u32 0),(.int .u32 0),(.int .u32 0),(.int .u32 0),(.int .u32 0),(.int .u32 0),(.int .u32 0),(.int .u32 0),(.int .u32 0),(.int .u32 0),(.int .u32 0),(.int .u32 0),(.int .u32 0),(.int .u32 0),(.int .u32 0),(.int .u32 0),(.int .u32 0),(.int .u32 0),(.int .u32 0),(.int .u32 0),(.int .u32 0),(.int .u32 0),(.int .u32 0),(.int .u32 0),(.int .u32 0),(.int .u32 0),(.int .u32 0),(.int .u32 0),(.int .u32 0),(.int .u32 0),(.int .u32 0),(.int .u32 0),(.int .u32 0),(.int .u32 0),(.int .u32 0),(.int .u32 0),(.int .u32 0),(.int .u32 0),(.int .u32 0),(.int .u32 0),(.int .u32 0),(.int .u32 0),(.int .u32 0),(.int .u32 0),(.int .u32 0),(.int .u32 0),(.int .u32 0),(.int .u32 0),(.int .u32 0),(.int .u32 0),(.int .u32 0),(.int .u32 0),(.int .u32 0)]),true,[],[]⟩
def zdU:TI:=⟨true,1,0, .flat,(.tuple [(.str []),(.bool false)]),true,[],[]⟩
def zeg:TI:=⟨true,1,0, .flat,(.tuple [(.str []),(.str [])]),true,[],[]⟩
def zfn:TI:=⟨true,1,8,(.ptr 5), .nilp,true,[],[]⟩
def zec:TI:=⟨true,1,8, .flat, .nilp,true,[],[]⟩
def zeN:TI:=⟨true,1,0, .flat,(.tuple [(.int .i32 0),(.int .i64 0)]),true,[],[]⟩
def zdG:TI:=⟨true,24,24,(.arr 24 1),(.agg [(.int .u8 0),(.int .u8 0),(.int .u8 0),(.int .u8 0),(.int .u8 0),(.int .u8 0),(.int .u8 0),(.int .u8 0),(.int .u8 0),(.int .u8 0),(.int .u8 0),(.int .u8 0),(.int .u8 0),(.int .u8 0),(.int .u8 0),(.int .u8 0),(.int .u8 0),(.int .u8 0),(.int .u8 0),(.int .u8 0),(.int .u8 0),(.int .u8 0),(.int .u8 0),(.int .u8 0)]),true,[],[]⟩
def zeR:TI:=⟨true,1,0, .flat,(.tuple [.nilsl,(.str [])]),true,[],[]⟩
def zdV:TI:=⟨true,20,160,(.arr 20 1),(.agg [(.int .u64 0),(.int .u64 0),(.int .u64 0),(.int .u64 0),(.int .u64 0),(.int .u64 0),(.int .u64 0),(.int .u64 0),(.int .u64 0),(.int .u64 0),(.int .u64 0),(.int .u64 0),(.int .u64 0),(.int .u64 0),(.int .u64 0),(.int .u64 0),(.int .u64 0),(.int .u64 0),(.int .u64 0),(.int .u64 0)]),true,[],[]⟩
def zfs:TI:=⟨true,65,65,(.arr 65 1),(.agg [(.int .u8 0),(.int .u8 0),(.int .u8 0),(.int .u8 0),(.int .u8 0),(.int .u8 0),(.int .u8 0),(.int .u8 0),(.int .u8 0),(.int .u8 0),(.int .u8 0),(.int .u8 0),(.int .u8 0),(.int .u8 0),(.int .u8 0),(.int .u8 0),(.int .u8 0),(.int .u8 0),(.int .u8 0),(.int .u8 0),(.int .u8 0),(.int .u8 0),(.int .u8 0),(.int .u8 0),(.int .u8 0),(.int .u8 0),(.int .u8 0),(.int .u8 0),(.int .u8 0),(.int .u8 0),(.int .u8 0),(.int .u8 0),(.int .u8 0),(.int .u8 0),(.int .u8 0),(.int .u8 0),(.int .u8 0),(.int .u8 0),(.int .u8 0),(.int .u8 0),(.int .u8 0),(.int .u8 0),(.int .u8 0),(.int .u8 0),(.int .u8 0),(.int .u8 0),(.int .u8 0),(.int .u8 0),(.int .u8 0),(.int .u8 0),(.int .u8 0),(.int .u8 0),(.int .u8 0),(.int .u8 0),(.int .u8 0),(.int .u8 0),(.int .u8 0),(.int .u8 0),(.int .u8 0),(.int .u8 0),(.int .u8 0),(.int .u8 0),(.int .u8 0),(.int .u8 0),(.int .u8 0)]),true,[],[]⟩
def zeA:TI:=⟨true,1,8,(.int .i64),(.int .i64 0),true,[],[]⟩
def zdJ:TI:=⟨true,1,0, .flat,(.tuple [(.int .i64 0),(.int .i64 0)]),true,[],[]⟩
def zeG:TI:=⟨true,1,0, .flat,(.tuple [(.int .i64 0),(.bool false)]),true,[],[]⟩
def zeH:TI:=⟨true,256,256,(.arr 256 1),(.agg [(.int .u8 0),(.int .u8 0),(.int .u8 0),(.int .u8 0),(.int .u8 0),(.int .u8 0),(.int .u8 0),(.int .u8 0),(.int .u8 0),(.int .u8 0),(.int .u8 0),(.int .u8 0),(.int .u8 0),(.int .u8 0),(.int .u8 0),(.int .u8 0),(.int .u8 0),(.int .u8 0),(.int .u8 0),(.int .u8 0),(.int .u8 0),(.int .u8 0),(.int .u8 0),(.int .u8 0),(.int .u8 0),(.int .u8 0),(.int .u8 0),(.int .u8 0),(.int .u8 0),(.int .u8 0),(.int .u8 0),(.int .u8 0),(.int .u8 0),(.int .u8 0),(.int .u8 0),(.int .u8 0),(.int .u8 0),(.int .u8 0),(.int .u8 0),(.int .u8 0),(.int .u8 0),(.int .u8 0),(.int .u8 0),(.int .u8 0),(.int .u8 0),(.int .u8 0),(.int .u8 0),(.int .u8 0),(.int .u8 0),(.int .u8 0),(.int .u8 0),(.int .u8 0),(.int .u8 0),(.int .u8 0),(.int .u8 0),(.int .u8 0),(.int .u8 0),(.int .u8 0),(.int .u8 0),(.int .u8 0),(.int .u8 0),(.int .u8 0),(.int .u8 0),(.int .u8 0),(.int .u8 0),(.int .u8 0),(.int .u8 0),(.int .u8 0),(.int .u8 0),(.int .u8 0),(.int .u8 0),(.int .u8 0),(.int .u8 0),(.int .u8 0),(.int .u8 0),(.int .u8 0),(.int .u8 0),(.int .u8 0),(.int .u8 0),(.int .u8 0),(.int .u8 0),(.int .u8 0),(.int .u8 0),(.int .u8 0),(.int .u8 0),(.int .u8 0),(.int .u8 0),(.int .u8 0),(.int .u8 0),(.int .u8 0),(.int .u8 0),(.int .u8 0),(.int .u8 0),(.int .u8 0),(.int .u8 0),(.int .u8 0),(.int .u8 0),(.int .u8 0),(.int .u8 0),(.int .u8 0),(.int .u8 0),(.int .u8 0),(.int .u8 0),(.int .u8 0),(.int .u8 0),(.int .u8 0),(.int .u8 0),(.int .u8 0),(.int .u8 0),(.int .u8 0),(.int .u8 0),(.int .u8 0),(.int .u8 0),(.int .u8 0),(.int .u8 0),(.int .u8 0),(.int .u8 0),(.int .u8 0),(.int .u8 0),(.int .u8 0),(.int .u8 0),(.int .u8 0),(.int .u8 0),(.int .u8 0),(.int .u8 0),(.int .u8 0),(.int .u8 0),(.int .u8 0),(.int .u8 0),(.int .u8 0),(.int .u8 0),(.int .u8 0),(.int .u8 0),(.int .u8 0),(.int .u8 0),(.int .u8 0),(.int .u8 0),(.int .u8 0),(.int .u8 0),(.int .u8 0),(.int .u8 0),(.int .u8 0),(.int .u8 0),(.int .u8 0),(.int .u8 0),(.int .u8 0),(.int .u8 0),(.int .u8 0),(.int .u8 0),(.int .u8 0),(.int .u8 0),(.int .u8 0),(.int .u8 0),(.int .u8 0),(.int .u8 0),(.int .u8 0),(.int .u8 0),(.int .u8 0),(.int .u8 0),(.int .u8 0),(.int .u8 0),(.int .u8 0),(.int .u8 0),(.int .u8 0),(.int .u8 0),(.int .u8 0),(.int .u8 0),(.int .u8 0),(.int .u8 0),(.int .u8 0),(.int .u8 0),(.int .u8 0),(.int .u8 0),(.int .u8 0),(.int .u8 0),(.int .u8 0),(.int .u8 0),(.int .u8 0),(.int .u8 0),(.int .u8 0),(.int .u8 0),(.int .u8 0),(.int .u8 0),(.int .u8 0),(.int .u8 0),(.int .u8 0),(.int .u8 0),(.int .u8 0),(.int .u8 0),(.int .u8 0),(.int .u8 0),(.int .u8 0),(.int .u8 0),(.int .u8 0),(.int .u8 0),(.int .u8 0),(.int .u8 0),(.int .u8 0),(.int .u8 0),(.int .u8 0),(.int .u8 0),(.int .u8 0),(.int .u8 0),(.int .u8 0),(.int .u8 0),(.int .u8 0),(.int .u8 0),(.int .u8 0),(.int .u8 0),(.int .u8 0),(.int .u8 0),(.int .u8 0),(.int .u8 0),(.int .u8 0),(.int .u8 0),(.int .u8 0),(.int .u8 0),(.int .u8 0),(.int .u8 0),(.int .u8 0),(.int .u8 0),(.int .u8 0),(.int .u8 0),(.int .u8 0),(.int .u8 0),(.int .u8 0),(.int .u8 0),(.int .u8 0),(.int .u8 0),(.int .u8 0),(.int .u8 0),(.int .u8 0),(.int .u8 0),(.int .u8 0),(.int .u8 0),(.int .u8 0),(.int .u8 0),(.int .u8 0),(.int .u8 0),(.int .u8 0),(.int .u8 0),(.int .u8 0),(.int .u8 0),(.int .u8 0),(.int .u8 0),(.int .u8 0),(.int .u8 0),(.int .u8 0),(.int .u8 0),(.int .u8 0),(.int .u8 0),(.int .u8 0),(.int .u8 0),(.int .u8 0),(.int .u8 0),(.int .u8 0)]),true,[],[]⟩
def zeP:TI:=⟨true,2,2,(.struct [(0,1),(1,1)]),(.agg [(.int .u8 0),(.int .u8 0)]),true,[5,5],[(.int .u8),(.int .u8)]⟩
def zdC:TI:=⟨true,2,2,(.struct [(0,1),(1,1)]),(.agg [(.int .u8 0),(.int .u8 0)]),true,[5,5],[(.int .u8),(.int .u8)]⟩
def zdK:TI:=⟨true,32,32,(.arr 16 2),(.agg [(.int .u8 0),(.int .u8 0),(.int .u8 0),(.int .u8 0),(.int .u8 0),(.int .u8 0),(.int .u8 0),(.int .u8 0),(.int .u8 0),(.int .u8 0),(.int .u8 0),(.int .u8 0),(.int .u8 0),(.int .u8 0),(.int .u8 0),(.int .u8 0),(.int .u8 0),(.int .u8 0),(.int .u8 0),(.int .u8 0),(.int .u8 0),(.int .u8 0),(.int .u8 0),(.int .u8 0),(.int .u8 0),(.int .u8 0),(.int .u8 0),(.int .u8 0),(.int .u8 0),(.int .u8 0),(.int .u8 0),(.int .u8 0)]),true,[],[]⟩
def zdE:TI:=⟨true,1,0, .flat,(.tuple [(.int .u32 0),(.int .u32 0)]),true,[],[]⟩
def zdM:TI:=⟨true,1,8,(.int .u64),(.int .u64 0),true,[],[]⟩
def zd6:TI:=⟨true,1,8,(.ptr 3), .nilp,true,[],[]⟩
def zd9:TI:=⟨true,32,32,(.arr 32 1),(.agg [(.int .u8 0),(.int .u8 0),(.int .u8 0),(.int .u8 0),(.int .u8 0),(.int .u8 0),(.int .u8 0),(.int .u8 0),(.int .u8 0),(.int .u8 0),(.int .u8 0),(.int .u8 0),(.int .u8 0),(.int .u8 0),(.int .u8 0),(.int .u8 0),(.int .u8 0),(.int .u8 0),(.int .u8 0),(.int .u8 0),(.int .u8 0),(.int .u8 0),(.int .u8 0),(.int .u8 0),(.int .u8 0),(.int .u8 0),(.int .u8 0),(.int .u8 0),(.int .u8 0),(.int .u8 0),(.int .u8 0),(.int .u8 0)]),true,[],[]⟩
def zew:TI:=⟨true,64,64,(.arr 64 1),(.agg [(.int .u8 0),(.int .u8 0),(.int .u8 0),(.int .u8 0),(.int .u8 0),(.int .u8 0),(.int .u8 0),(.int .u8 0),(.int .u8 0),(.int .u8 0),(.int .u8 0),(.int .u8 0),(.int .u8 0),(.int .u8 0),(.int .u8 0),(.int .u8 0),(.int .u8 0),(.int .u8 0),(.int .u8 0),(.int .u8 0),(.int .u8 0),(.int .u8 0),(.int .u8 0),(.int .u8 0),(.int .u8 0),(.int .u8 0),(.int .u8 0),(.int .u8 0),(.int .u8 0),(.int .u8 0),(.int .u8 0),(.int .u8 0),(.int .u8 0),(.int .u8 0),(.int .u8 0),(.int .u8 0),(.int .u8 0),(.int .u8 0),(.int .u8 0),(.int .u8 0),(.int .u8 0),(.int .u8 0),(.int .u8 0),(.int .u8 0),(.int .u8 0),(.int .u8 0),(.int .u8 0),(.int .u8 0),(.int .u8 0),(.int .u8 0),(.int .u8 0),(.int .u8 0),(.int .u8 0),(.int .u8 0),(.int .u8 0),(.int .u8 0),(.int .u8 0),(.int .u8 0),(.int .u8 0),(.int .u8 0),(.int .u8 0),(.int .u8 0),(.int .u8 0),(.int .u8 0)]),true,[],[]⟩
def zd3:TI:=⟨true,1,8,(.ptr 307), .nilp,true,[],[]⟩
def zds:TI:=⟨true,1,0, .flat,(.tuple [(.int .i64 0),(.int .i64 0)]),true,[],[]⟩
def zfh:TI:=⟨true,4,40,(.struct [(0,1),(1,1),(2,1),(3,1)]),(.agg [.nilp, .nilp, .nilp,(.str [])]),true,[17,17,17,9],[]⟩
def ze9:TI:=⟨true,4,40,(.struct [(0,1),(1,1),(2,1),(3,1)]),(.agg [.nilp, .nilp, .nilp,(.str [])]),true,[17,17,17,9],[]⟩
def zd4:TI:=⟨true,0,0,(.arr 0 1),(.agg []),true,[],[]⟩
def zeW:TI:=⟨true,0,0,(.struct [(0,0)]),(.agg []),true,[320],[]⟩
def ze2:TI:=⟨true,0,0,(.struct [(0,0)]),(.agg []),true,[320],[]⟩
def zem:TI:=⟨true,1,1,(.int .u8),(.int .u8 0),true,[],[]⟩
def zed:TI:=⟨true,1,1,(.int .u8),(.int .u8 0),true,[],[]⟩
def zdT:TI:=⟨true,1,4,(.int .i32),(.int .i32 0),true,[],[]⟩
def zeF:TI:=⟨true,1,4,(.int .i32),(.int .i32 0),true,[],[]⟩
def zdz:TI:=⟨true,11,48,(.struct [(0,1),(1,1),(2,1),(3,1),(4,1),(5,1),(6,1),(7,1),(8,1),(9,1),(10,1)]),(.agg [(.int .u64 0),(.int .u64 0),(.int .u32 0),(.int .u8 0),(.int .u8 0),(.int .u8 0),(.int .u8 0), .nilfunc, .nilp,(.int .i32 0),(.int .i32 0)]),true,[12,12,223,324,5,5,325,326,267,327,328],[]⟩
def zeU:TI:=⟨true,11,48,(.struct [(0,1),(1,1),(2,1),(3,1),(4,1),(5,1),(6,1),(7,1),(8,1),(9,1),(10,1)]),(.agg [(.int .u64 0),(.int .u64 0),(.int .u32 0),(.int .u8 0),(.int .u8 0),(.int .u8 0),(.int .u8 0), .nilfunc, .nilp,(.int .i32 0),(.int .i32 0)]),true,[12,12,223,324,5,5,325,326,267,327,328],[]⟩
def lW:TT:=(.node (.node (.node (.node (.node (.node (.node .leaf 0 ty0 .leaf) 2 ty2 (.node .leaf 3 ty3 .leaf)) 4 ty4 (.node (.node .leaf 5 ty5 .leaf) 6 ty6 (.node .leaf 7 ty7 .leaf))) 8 ty8 (.node (.node (.node .leaf 9 ty9 .leaf) 10 zgn (.node .leaf 11 zfW .leaf)) 12 zfx (.node (.node .leaf 13 zgC .leaf) 14 zf7 (.node .leaf 15 zgr .leaf)))) 16 zgc (.node (.node (.node (.node .leaf 17 zgm .leaf) 18 zgq (.node .leaf 19 zfI .leaf)) 21 zgv (.node (.node .leaf 22 zfJ .leaf) 23 zfS (.node .leaf 24 zfy .leaf))) 25 zf9 (.node (.node (.node .leaf 26 zfV .leaf) 27 zgz (.node .leaf 31 zfD .leaf)) 33 zfG (.node (.node .leaf 34 zfE .leaf) 42 zf4 (.node .leaf 43 zf5 .leaf))))) 44 zfA (.node (.node (.node (.node (.node .leaf 45 zfZ .leaf) 55 zgB (.node .leaf 56 zgA .leaf)) 57 zgj (.node (.node .leaf 58 zfK .leaf) 59 zgd (.node .leaf 61 zgu .leaf))) 64 zgx (.node (.node (.node .leaf 65 zge .leaf) 67 zfR (.node .leaf 68 zf0 .leaf)) 71 zf2 (.node (.node .leaf 77 zgi .leaf) 78 zgo (.node .leaf 80 zfT .leaf)))) 81 zgb (.node (.node (.node (.node .leaf 87 zgl .leaf) 101 zdx (.node .leaf 102 zfq .leaf)) 103 zdd (.node (.node .leaf 106 zfm .leaf) 107 zeZ (.node .leaf 112 zeh .leaf))) 113 zfk (.node (.node (.node .leaf 115 zdg .leaf) 116 zen (.node .leaf 117 zdA .leaf)) 124 zet (.node (.node .leaf 139 zdQ .leaf) 140 zde (.node .leaf 141 zdh .leaf)))))) 147 zdn (.node (.node (.node (.node (.node (.node .leaf 148 zej .leaf) 157 zfp (.node .leaf 158 zeI .leaf)) 164 zfd (.node (.node .leaf 171 zfj .leaf) 184 zdk (.node .leaf 192 zdj .leaf))) 200 zdo (.node (.node (.node .leaf 211 zdB .leaf) 213 zeT (.node .leaf 214 zd0 .leaf)) 223 zea (.node (.node .leaf 224 zfa .leaf) 228 zeb (.node .leaf 230 zd8 .leaf)))) 231 zfg (.node (.node (.node (.node .leaf 233 zeY .leaf) 234 zdY (.node .leaf 236 zfo .leaf)) 237 zeJ (.node (.node .leaf 238 zer .leaf) 240 zdP (.node .leaf 241 ze0 .leaf))) 242 zeu (.node (.node (.node .leaf 243 zd7 .leaf) 249 zeQ (.node .leaf 252 zes .leaf)) 253 zef (.node (.node .leaf 254 zd5 .leaf) 262 zdU (.node .leaf 265 zeg .leaf))))) 267 zfn (.node (.node (.node (.node (.node .leaf 274 zec .leaf) 277 zeN (.node .leaf 279 zdG .leaf)) 282 zeR (.node (.node .leaf 288 zdV .leaf) 289 zfs (.node .leaf 291 zeA .leaf))) 292 zdJ (.node (.node (.node .leaf 295 zeG .leaf) 301 zeH (.node .leaf 302 zeP .leaf)) 303 zdC (.node (.node .leaf 304 zdK .leaf) 305 zdE (.node .leaf 307 zdM .leaf)))) 311 zd6 (.node (.node (.node (.node .leaf 313 zd9 .leaf) 314 zew (.node .leaf 315 zd3 .leaf)) 316 zds (.node (.node .leaf 318 zfh .leaf) 319 ze9 (.node .leaf 320 zd4 .leaf))) 321 zeW (.node (.node (.node .leaf 322 ze2 .leaf) 324 zem (.node .leaf 325 zed .leaf)) 327 zdT (.node (.node .leaf 328 zeF .leaf) 329 zdz (.node .leaf 330 zeU .leaf)))))))
set_option maxRecDepth 100000 in
theorem oU:lW.toList.map (fun p=>ti Tryz.prog p.1)=lW.toList.map (·.2):=O8
noncomputable def tyT (t:TypeId):TI:=match lW.get t with|some v=>v|none=>ti Tryz.prog t
theorem gw:tyT=ti Tryz.prog:=TT.eq_of oU
def GM:List Int:= [31,28,31,30,31,30,31,31,30,31,30,31]
def G6:List Int:= [1,10,100,1000,10000,100000,1000000,10000000,100000000,1000000000,10000000000,100000000000,1000000000000,10000000000000,100000000000000,1000000000000000,10000000000000000,100000000000000000,1000000000000000000,10000000000000000000]
def gl0 (mx:Int) (g:Nat):List V:=match g with
 |0=>GM.map (vI .i64)
 |1=> [.int .i64 mx]
 |2=>G6.map (vI .u64)
 |_=> []
section
variable {gl:Nat→List V} {ops:Array Oper} {K:AFr→St→Prop} {s0:St} {cs:List Code} {AQ:Exit→AFr→St→Prop} {id:Nat} {fr fr':AFr} {st st':St} {i:Nat} {x:Cfg} {E:List Nat} {B:List (List Nat)} {rest seen:List Nat} {fx:List (Nat×Option V×V)}
theorem kP (k:Nat) {q:Option V} {v:V} (hq:q=some v) (h:xu Tryz.prog gl ops (k+1) (Wz (qy tyT gl ops i k x) (xC ops k) v) K)
  (hik:Nat.ble i k=true:=by kernel_rfl) (he:YH tyT gl ops i k x=Z1 q (qy tyT gl ops i k x).2:=by kernel_rfl):xu Tryz.prog gl ops i x K:=lT gw k hq hik he h
theorem kC (k:Nat) (R:Ren) {f:FuncId} {args1:List V} {st1 st1':St} {r:V} (hc:uQ Tryz.prog gl f args1 st1 (Out r st1'))
  (h:xu Tryz.prog gl ops (k+1) (gn (qy tyT gl ops i k x) (xC ops k) (V.ren R r) (fun st=>St.after R st st1')) K)
  (hb:goB tyT gl ops i k x R f args1 st1=true:=by kernel_rfl) (he:Bc R st1 args1=goR tyT gl ops i k x R args1 st1:=by kernel_rfl):xu Tryz.prog gl ops i x K:=zf6 gw k R hc hb he h
theorem kA (k t:Nat) {α:Type} (c:α→List V) {l l2 l':List α} {e e2:TypeId} {sz bytes b2:Nat} {tok2:Tok} (h1:jR bytes l l2=some l')
  (h:xu Tryz.prog gl ops (k+1) (gn (qy tyT gl ops i k x) (xC ops k) (.sl sz (l'.map c) (.fam t l'.length)) (fun st=>st.setFam t l'.length)) K)
  (hb:(Nat.ble i k&&pG tyT e sz bytes)=true:=by kernel_rfl) (he:((qy tyT gl ops i k x).2.fams[t]?,YH tyT gl ops i k x)=(some l.length,ja tyT (qy tyT gl ops i k x).2 (.slice e sz bytes) (.slice e2 sz b2) (.sl sz (l.map c) (.fam t l.length)) (.sl sz (l2.map c) tok2)):=by kernel_rfl):xu Tryz.prog gl ops i x K:=zek gw k t c h1 hb he h
theorem kN (k:Nat) {α:Type} (c:α→List V) {l2 l':List α} {e e2:TypeId} {sz bytes b2:Nat} {tok2:Tok} (h1:jR bytes [] l2=some l')
  (h:xu Tryz.prog gl ops (k+1) (gn (qy tyT gl ops i k x) (xC ops k) (.sl sz (l'.map c) (.fam (qy tyT gl ops i k x).2.fams.length l'.length)) (fun st=>st.pushFam l'.length)) K)
  (hb:(Nat.ble i k&&pG tyT e sz bytes)=true:=by kernel_rfl) (he:YH tyT gl ops i k x=ja tyT (qy tyT gl ops i k x).2 (.slice e sz bytes) (.slice e2 sz b2) .nilsl (.sl sz (l2.map c) tok2):=by kernel_rfl):xu Tryz.prog gl ops i x K:=zcQ gw k c h1 hb he h
theorem kS (k:Nat) (s:List UInt8) (h:xu Tryz.prog gl ops (k+1) (Wz (qy tyT gl ops i k x) (xC ops k) (.sl 1 ((s2b s).map (cI .u8)) .none)) K)
  (hik:Nat.ble i k=true:=by kernel_rfl) (he:YH tyT gl ops i k x=Z1 (some (.sl 1 (gk s) .none)) (qy tyT gl ops i k x).2:=by kernel_rfl):xu Tryz.prog gl ops i x K:=zdp gw k s hik he h
theorem kB (k:Nat) (l:List Int) (h:xu Tryz.prog gl ops (k+1) (Wz (qy tyT gl ops i k x) (xC ops k) (.str (b2s l))) K)
  (hik:Nat.ble i k=true:=by kernel_rfl) (he:YH tyT gl ops i k x=Z1 (match pz (l.map (cI .u8))with|some b=>some (.str b)|none=>none) (qy tyT gl ops i k x).2:=by kernel_rfl):xu Tryz.prog gl ops i x K:=zfr gw k l hik he h
theorem kV (k m f id:Nat) {cell:Option (List V)} {q:St→Option (V×St)} {v:V} {F:St→St} (hq:∀st:St,st.vars.length=m→st.fams.length=f→st.vars[id]? =cell→q st=some (v,F st))
  (h:xu Tryz.prog gl ops (k+1) (gn (qy tyT gl ops i k x) (xC ops k) v F) K) (hik:Nat.ble i k=true:=by kernel_rfl)
  (he:((qy tyT gl ops i k x).2.vars.length,(qy tyT gl ops i k x).2.fams.length,(qy tyT gl ops i k x).2.vars[id]?,YH tyT gl ops i k x)=(m,f,cell,q (qy tyT gl ops i k x).2):=by kernel_rfl):xu Tryz.prog gl ops i x K:=zcg gw k m f id hq hik he h
theorem kL (k:Nat) {v:V} {cells:List V} (h:xu Tryz.prog gl ops (k+1) (gn (qy tyT gl ops i k x) (xC ops k) v (fun st=>st.push [.buf cells])) K)
  (hik:Nat.ble i k=true:=by kernel_rfl) (he:zc7 tyT gl ops i k x=some (v,cells):=by kernel_rfl):xu Tryz.prog gl ops i x K:=zeL gw k hik he h
theorem dV {fx:List (Nat×Option V×V)} (hf:JY fx) (m f id:Nat) {cell:Option (List V)} {q:St→Option (V×St)} {v:V} {F:St→St} (hq:∀st:St,st.vars.length=m→st.fams.length=f→st.vars[id]? =cell→q st=some (v,F st))
  (h:aDC Tryz.prog gl ops E B rest (i::seen) (gn x (xC ops i) v F) K) (hb:E.contains i=true:=by kernel_rfl)
  (he:(x.2.vars.length,x.2.fams.length,x.2.vars[id]?,Py tyT gl ops i x)=(m,f,cell,q x.2):=by kernel_rfl)
  (hs:(stX tyT gl ops E B i seen (gn x (xC ops i) v F),svX ops E B fx i seen (gn x (xC ops i) v F))=(stY tyT gl ops E B fx i seen (gn x (xC ops i) v F),svY ops E B fx i seen (gn x (xC ops i) v F)):=by kernel_rfl):aDC Tryz.prog gl ops E B (i::rest) seen x K:=zcC gw hf m f id hq hb he hs h
theorem kE (R:Ren) (hb:za1 tyT gl ops i x s0 R fr' st'=true:=by kernel_rfl) (he:wkL R fr' st'=zbu tyT gl ops i x R fr' st':=by kernel_rfl):xu Tryz.prog gl ops i x (toW s0 fr' st'):=zez gw R hb he
theorem reg {c:Code} (fr':AFr) (st':St) (h:xu Tryz.prog gl ops 0 (fr,st) (toW s0 fr' st')) (h2:zw Tryz.prog gl s0 (c::cs) AQ fr' st'):zw Tryz.prog gl s0 (.region id ops false::c::cs) AQ fr st:=nd fr' st' zJ h h2
theorem zgp (fr':AFr) (st':St) (hcl:Cl s0 (AQ .normal)) (h:xu Tryz.prog gl ops 0 (fr,st) (toW s0 fr' st')) (h2:zw Tryz.prog gl s0 [] AQ fr' st'):zw Tryz.prog gl s0 [.region id ops false] AQ fr st:=nd fr' st' (j3 hcl) h h2
theorem drw {c:Code} (order E:List Nat) (B:List (List Nat)) (fr':AFr) (st':St) (h:aDC Tryz.prog gl ops E B order [] (fr,st) (toW s0 fr' st')) (h2:zw Tryz.prog gl s0 (c::cs) AQ fr' st')
  (hm:Tryz.prog.follows .mixedOrders=true:=by kernel_rfl) (hc:Xh ops fr.n order E B=true:=by kernel_rfl):zw Tryz.prog gl s0 (.region id ops true::c::cs) AQ fr st:=GD order E B fr' st' hm hc zJ h h2
theorem zdI (order E:List Nat) (B:List (List Nat)) (fr':AFr) (st':St) (hcl:Cl s0 (AQ .normal)) (h:aDC Tryz.prog gl ops E B order [] (fr,st) (toW s0 fr' st')) (h2:zw Tryz.prog gl s0 [] AQ fr' st')
  (hm:Tryz.prog.follows .mixedOrders=true:=by kernel_rfl) (hc:Xh ops fr.n order E B=true:=by kernel_rfl):zw Tryz.prog gl s0 [.region id ops true] AQ fr st:=GD order E B fr' st' hm hc (j3 hcl) h h2
theorem dS (os:List Nat) (h:aDC Tryz.prog gl ops E B rest (os.reverse++seen) (zcR tyT gl ops E os x) K) (hb:zcz tyT gl ops E os x=true:=by kernel_rfl):aDC Tryz.prog gl ops E B (os++rest) seen x K:=zdu gw os hb h
theorem dP {q:Option V} {v:V} (hq:q=some v) (h:aDC Tryz.prog gl ops E B rest (i::seen) (Wz x (xC ops i) v) K) (hb:fT ops E i=true:=by kernel_rfl) (he:Py tyT gl ops i x=Z1 q x.2:=by kernel_rfl):aDC Tryz.prog gl ops E B (i::rest) seen x K:=zcq gw hq hb he h
theorem dF (hf:JY fx) (h:aDC Tryz.prog gl ops E B rest (i::seen) (GN tyT gl ops i x) K) (hb:zcx tyT gl ops E i x=true:=by kernel_rfl)
  (hs:(stX tyT gl ops E B i seen (GN tyT gl ops i x),svX ops E B fx i seen (GN tyT gl ops i x))=(stY tyT gl ops E B fx i seen (GN tyT gl ops i x),svY ops E B fx i seen (GN tyT gl ops i x)):=by kernel_rfl):aDC Tryz.prog gl ops E B (i::rest) seen x K:=zdv gw hf hb hs h
theorem dC (hf:JY fx) (R:Ren) {f:FuncId} {args1:List V} {st1 st1':St} {r:V} (hc:uQ Tryz.prog gl f args1 st1 (Out r st1')) (h:aDC Tryz.prog gl ops E B rest (i::seen) (gn x (xC ops i) (V.ren R r) (fun st=>St.after R st st1')) K)
  (hb:zcM ops E i x R f args1 st1=true:=by kernel_rfl) (he:Bc R st1 args1=zcH ops i x R args1 st1:=by kernel_rfl)
  (hs:(stX tyT gl ops E B i seen (gn x (xC ops i) (V.ren R r) (fun st=>St.after R st st1')),svX ops E B fx i seen (gn x (xC ops i) (V.ren R r) (fun st=>St.after R st st1')))=(stY tyT gl ops E B fx i seen (gn x (xC ops i) (V.ren R r) (fun st=>St.after R st st1')),svY ops E B fx i seen (gn x (xC ops i) (V.ren R r) (fun st=>St.after R st st1'))):=by kernel_rfl):aDC Tryz.prog gl ops E B (i::rest) seen x K:=zgk gw hf R hc hb he hs h
theorem dA (hf:JY fx) (t:Nat) {α:Type} (c:α→List V) {l l2 l':List α} {e e2:TypeId} {sz bytes b2:Nat} {tok2:Tok} (h1:jR bytes l l2=some l')
  (h:aDC Tryz.prog gl ops E B rest (i::seen) (gn x (xC ops i) (.sl sz (l'.map c) (.fam t l'.length)) (fun st=>st.setFam t l'.length)) K)
  (hb:(E.contains i&&pG tyT e sz bytes)=true:=by kernel_rfl) (he:(x.2.fams[t]?,Py tyT gl ops i x)=(some l.length,ja tyT x.2 (.slice e sz bytes) (.slice e2 sz b2) (.sl sz (l.map c) (.fam t l.length)) (.sl sz (l2.map c) tok2)):=by kernel_rfl)
  (hs:(stX tyT gl ops E B i seen (gn x (xC ops i) (.sl sz (l'.map c) (.fam t l'.length)) (fun st=>st.setFam t l'.length)),svX ops E B fx i seen (gn x (xC ops i) (.sl sz (l'.map c) (.fam t l'.length)) (fun st=>st.setFam t l'.length)))=(stY tyT gl ops E B fx i seen (gn x (xC ops i) (.sl sz (l'.map c) (.fam t l'.length)) (fun st=>st.setFam t l'.length)),svY ops E B fx i seen (gn x (xC ops i) (.sl sz (l'.map c) (.fam t l'.length)) (fun st=>st.setFam t l'.length))):=by kernel_rfl):aDC Tryz.prog gl ops E B (i::rest) seen x K:=ze1 gw hf t c h1 hb he hs h
theorem dE (R:Ren) (hb:wkB s0 R x.1 x.2 fr' st'=true:=by kernel_rfl) (he:wkL R fr' st'=wkR R x.1 x.2 fr' st':=by kernel_rfl):aDC Tryz.prog gl ops E B [] seen x (toW s0 fr' st'):=zdq R hb he
theorem wk (R:Ren) (hb:wkB s0 R fr st fr' st'=true:=by kernel_rfl) (he:wkL R fr' st'=wkR R fr st fr' st':=by kernel_rfl):Wk s0 fr st fr' st':=Wk.gen R hb he
theorem zm {c:Code} (order E:List Nat) (B:List (List Nat)) (ks:List Nat) (new:List (Nat×V)) (st':St) (h:aDC Tryz.prog gl ops E B order [] (fr,st) (toW s0 (oM fr ks new) st')) (h2:zw Tryz.prog gl s0 (c::cs) AQ (oM fr ks new) st')
  (hm:Tryz.prog.follows .mixedOrders=true:=by kernel_rfl) (hc:Xh ops fr.n order E B=true:=by kernel_rfl):zw Tryz.prog gl s0 (.region id ops true::c::cs) AQ fr st:=GD order E B _ _ hm hc zJ h h2
theorem zs {c:Code} (order E:List Nat) (B:List (List Nat)) (ks:List Nat) (new:List (Nat×V)) (h:aDC Tryz.prog gl ops E B order [] (fr,st) (toW s0 (oM fr ks new) st)) (h2:zw Tryz.prog gl s0 (c::cs) AQ (oM fr ks new) st)
  (hm:Tryz.prog.follows .mixedOrders=true:=by kernel_rfl) (hc:Xh ops fr.n order E B=true:=by kernel_rfl):zw Tryz.prog gl s0 (.region id ops true::c::cs) AQ fr st:=GD order E B _ _ hm hc zJ h h2
theorem zmN (hcl:Cl s0 (AQ .normal)) (order E:List Nat) (B:List (List Nat)) (ks:List Nat) (new:List (Nat×V)) (st':St) (h:aDC Tryz.prog gl ops E B order [] (fr,st) (toW s0 (oM fr ks new) st')) (h2:zw Tryz.prog gl s0 [] AQ (oM fr ks new) st')
  (hm:Tryz.prog.follows .mixedOrders=true:=by kernel_rfl) (hc:Xh ops fr.n order E B=true:=by kernel_rfl):zw Tryz.prog gl s0 [.region id ops true] AQ fr st:=GD order E B _ _ hm hc (j3 hcl) h h2
theorem bF {α:Type} {c:Operand} {x y:Code} {t:Bool} {a b:Option α} {r:α} (h:(if t=true then a else b)=some r) (h1:a=some r→zw Tryz.prog gl s0 (x::cs) AQ fr st) (h2:b=some r→zw Tryz.prog gl s0 (y::cs) AQ fr st) (hc:fr.eval c= .bool t:=by kernel_rfl):zw Tryz.prog gl s0 (.cond c x y::cs) AQ fr st:=
 zc8 t hc (fun hb=>h1 (oA hb h)) (fun hb=>h2 (mW hb h))
theorem bT {c:Operand} {x y:Code} (h1:zw Tryz.prog gl s0 (x::cs) AQ fr st) (hc:fr.eval c= .bool true:=by kernel_rfl):zw Tryz.prog gl s0 (.cond c x y::cs) AQ fr st:=zc8 true hc (fun _=>h1) (fun hb=>Bool.noConfusion hb)
theorem bN {c:Operand} {x y:Code} (h2:zw Tryz.prog gl s0 (y::cs) AQ fr st) (hc:fr.eval c= .bool false:=by kernel_rfl):zw Tryz.prog gl s0 (.cond c x y::cs) AQ fr st:=zc8 false hc (fun hb=>Bool.noConfusion hb) (fun _=>h2)
theorem gF {α:Type} (k d:Nat) {b:Bool} {a a':Option α} {r:α} (h:(if b=true then a else a')=some r) (ht:a=some r→xu Tryz.prog gl ops k (Wz (qy tyT gl ops i k x) (some d) (.bool true)) K) (hf:a'=some r→xu Tryz.prog gl ops k (Wz (qy tyT gl ops i k x) (some d) (.bool false)) K)
  (hik:Nat.ble i k=true:=by kernel_rfl) (he:GU tyT gl ops i k x=some (d, .bool b):=by kernel_rfl):xu Tryz.prog gl ops i x K:=zbA gw k d b hik he (fun hb=>ht (oA hb h)) (fun hb=>hf (mW hb h))
theorem hF {α:Type} (d:Nat) {b:Bool} {a a':Option α} {r:α} (h:(if b=true then a else a')=some r) (ht:a=some r→aDC Tryz.prog gl ops E B (i::rest) seen (Wz x (some d) (.bool true)) K) (hf:a'=some r→aDC Tryz.prog gl ops E B (i::rest) seen (Wz x (some d) (.bool false)) K)
  (he:lR ops i x=some (d, .bool b):=by kernel_rfl):aDC Tryz.prog gl ops E B (i::rest) seen x K:=zbI d b he (fun hb=>ht (oA hb h)) (fun hb=>hf (mW hb h))
theorem fnc {f:FuncId} {fn:Func} {c:Code} {args:List V} {Q:V→St→Prop} (hf:Tryz.prog.funcs[f]? =some fn) (hb:fn.body=some c) (h:zw Tryz.prog gl st [c] (XR Tryz.prog gl st fn Q) (G4 fn.ntmps args) st)
  (hn : (fn.name == "runtime.NumGoroutine") = false := by kernel_rfl) (hl : Nat.ble args.length fn.ntmps = true := by kernel_rfl) : uQ Tryz.prog gl f args st Q := uQ.ofB hf hb hn (Nat.le_of_ble_eq_true hl) h
theorem rt {fn:Func} {r:V} (R:Ren)
  (hb:((dQ tyT gl fr st fn.results.toList).isSome&&wkB s0 R ⟨1,[(0,Ga tyT gl fr st fn.results.toList)]⟩ st ⟨1,[(0,r)]⟩ st')=true:=by kernel_rfl)
  (hl:wkL R ⟨1,[(0,r)]⟩ st'=wkR R ⟨1,[(0,Ga tyT gl fr st fn.results.toList)]⟩ st ⟨1,[(0,r)]⟩ st':=by kernel_rfl):XR Tryz.prog gl s0 fn (Out r st') .ret fr st:=zbY gw R (.inr rfl) hb hl
theorem rno {fn:Func} {r:V} (R:Ren)
  (hb:((dQ tyT gl fr st fn.results.toList).isSome&&wkB s0 R ⟨1,[(0,Ga tyT gl fr st fn.results.toList)]⟩ st ⟨1,[(0,r)]⟩ st')=true:=by kernel_rfl)
  (hl:wkL R ⟨1,[(0,r)]⟩ st'=wkR R ⟨1,[(0,Ga tyT gl fr st fn.results.toList)]⟩ st ⟨1,[(0,r)]⟩ st':=by kernel_rfl):XR Tryz.prog gl s0 fn (Out r st') .normal fr st:=zbY gw R (.inl rfl) hb hl
end
abbrev AC (mx:Int) (f:FuncId) (args:List V) (s:List (List V)) (r:V) (s':List (List V)):Prop:=uQ Tryz.prog (gl0 mx) f args ⟨s,[]⟩ (Out r ⟨s',[]⟩)
abbrev ACf (mx:Int) (f:FuncId) (args:List V) (s:List (List V)) (r:V) (s':List (List V)) (fs:List Nat):Prop:=uQ Tryz.prog (gl0 mx) f args ⟨s,[]⟩ (Out r ⟨s',fs⟩)
section
variable {gl:Nat→List V} {ops:Array Oper} {s0:St} {cs:List Code} {AQ:Exit→AFr→St→Prop} {id:Nat} {fr:AFr} {st:St} {i:Nat} {x y:Cfg} {c:Code}
theorem ed (hb:Us tyT gl ops i x=true:=by kernel_rfl):xu Tryz.prog gl ops i x (toW s0 (Y0 tyT gl ops i x).1 (Y0 tyT gl ops i x).2):=mE gw hb
theorem rg (h2:zw Tryz.prog gl s0 (c::cs) AQ (Y0 tyT gl ops 0 (fr,st)).1 (Y0 tyT gl ops 0 (fr,st)).2) (hb:Us tyT gl ops 0 (fr,st)=true:=by kernel_rfl):zw Tryz.prog gl s0 (.region id ops false::c::cs) AQ fr st:=tw (y:=(fr,st)) (mE gw hb) h2
theorem rgN (hcl:Cl s0 (AQ .normal)) (h2:AQ .normal (Y0 tyT gl ops 0 (fr,st)).1 (Y0 tyT gl ops 0 (fr,st)).2) (hb:Us tyT gl ops 0 (fr,st)=true:=by kernel_rfl):zw Tryz.prog gl s0 [.region id ops false] AQ fr st:=nx (y:=(fr,st)) hcl (mE gw hb) h2
theorem rC (h:xu Tryz.prog gl ops 0 (fr,st) (toW s0 y.1 y.2)) (h2:zw Tryz.prog gl s0 (c::cs) AQ y.1 y.2):zw Tryz.prog gl s0 (.region id ops false::c::cs) AQ fr st:=tw (y:=(fr,st)) h h2
theorem rCN (hcl:Cl s0 (AQ .normal)) (h:xu Tryz.prog gl ops 0 (fr,st) (toW s0 y.1 y.2)) (h2:AQ .normal y.1 y.2):zw Tryz.prog gl s0 [.region id ops false] AQ fr st:=nx (y:=(fr,st)) hcl h h2
end
def Im (p q:Prop):Prop:=p→q
section
variable {gl:Nat→List V} {ops:Array Oper} {K:AFr→St→Prop} {s0:St} {c d:Code} {cs:List Code} {AQ:Exit→AFr→St→Prop} {id:Nat} {fr fr':AFr} {st st':St} {i:Nat} {x:Cfg} {E:List Nat} {B:List (List Nat)} {rest seen:List Nat} {fx:List (Nat×Option V×V)} {p Q:Prop}
theorem fnL {f : FuncId} {fn : Func} {args : List V} {Q : V → St → Prop} (hf : Tryz.prog.funcs[f]? = some fn) (hb : fn.body = some c) (h : Im (p) (zw Tryz.prog gl st (flat c []) (XR Tryz.prog gl st fn Q) (G4 fn.ntmps args) st)) (hn : (fn.name == "runtime.NumGoroutine") = false := by kernel_rfl) (hl : Nat.ble args.length fn.ntmps = true := by kernel_rfl) : Im (p) (uQ Tryz.prog gl f args st Q) := fun k => fnc hf hb (pR _ (h k)) hn hl
theorem bEL {α β:Type} {x:Option α} {f:α→Option β} {y:β} (k:∀a,x=some a→Im (f a=some y) (Q)):Im (x.bind f=some y) (Q):=fun h=>bE h k
theorem lfL {A:Prop} (f:A→Q) (t:Im (p) (A)):Im (p) (Q):=fun z=>f (t z)
theorem imA (h:p) (t:Im (p) (Q)):Q:=t h
inductive Tg (R:Ren):Prop|mk
theorem rtT {fn:Func} {r:V} {R:Ren} (_:Tg R) (hb:((dQ tyT gl fr st fn.results.toList).isSome&&wkB s0 R ⟨1,[(0,Ga tyT gl fr st fn.results.toList)]⟩ st ⟨1,[(0,r)]⟩ st')=true:=by kernel_rfl)
  (hl:wkL R ⟨1,[(0,r)]⟩ st'=wkR R ⟨1,[(0,Ga tyT gl fr st fn.results.toList)]⟩ st ⟨1,[(0,r)]⟩ st':=by kernel_rfl):XR Tryz.prog gl s0 fn (Out r st') .ret fr st:=rt R hb hl
theorem rnT {fn:Func} {r:V} {R:Ren} (_:Tg R) (hb:((dQ tyT gl fr st fn.results.toList).isSome&&wkB s0 R ⟨1,[(0,Ga tyT gl fr st fn.results.toList)]⟩ st ⟨1,[(0,r)]⟩ st')=true:=by kernel_rfl)
  (hl:wkL R ⟨1,[(0,r)]⟩ st'=wkR R ⟨1,[(0,Ga tyT gl fr st fn.results.toList)]⟩ st ⟨1,[(0,r)]⟩ st':=by kernel_rfl):XR Tryz.prog gl s0 fn (Out r st') .normal fr st:=rno R hb hl
theorem keT {R:Ren} (_:Tg R) (hb:za1 tyT gl ops i x s0 R fr' st'=true:=by kernel_rfl) (he:wkL R fr' st'=zbu tyT gl ops i x R fr' st':=by kernel_rfl):xu Tryz.prog gl ops i x (toW s0 fr' st'):=kE R hb he
theorem rJ {P:Prop} (R:Ren) (q:Tg R→P:=by intro t h; cases h; exact rtT t):P:=q .mk
theorem nJ {P:Prop} (R:Ren) (q:Tg R→P:=by intro t h; cases h; exact rnT t):P:=q .mk
theorem eJ {P:Prop} (R:Ren) (q:Tg R→P:=by intro t h; cases h; exact keT t):P:=q .mk
theorem nEL {α:Type} {r:α}:Im ((none:Option α)=some r) (Q):=fun h=>nomatch h
theorem hvL {R Y Z:Type} {o:Ctl R Y} {g:R→Option Z} {x:R} {r:Z} (hr:∀x,o= .ret x→g x=some r) (t:Im (g x=some r) (Q)):Im (some (.ret x)=some o) (Q):=fun h=>t (hr _ (sI h))
theorem rgL (h2:Im (p) (zw Tryz.prog gl s0 (c::cs) AQ (Y0 tyT gl ops 0 (fr,st)).1 (Y0 tyT gl ops 0 (fr,st)).2)) (hb:Us tyT gl ops 0 (fr,st)=true:=by kernel_rfl):Im (p) (zw Tryz.prog gl s0 (.region id ops false::c::cs) AQ fr st):=fun k=>rg (h2 k) hb
theorem z8 (hcl:Cl s0 (AQ .normal)) (h2:Im (p) (AQ .normal (Y0 tyT gl ops 0 (fr,st)).1 (Y0 tyT gl ops 0 (fr,st)).2)) (hb:Us tyT gl ops 0 (fr,st)=true:=by kernel_rfl):Im (p) (zw Tryz.prog gl s0 [.region id ops false] AQ fr st):=fun k=>rgN hcl (h2 k) hb
theorem rCL {y:Cfg} (h:Im (True) (xu Tryz.prog gl ops 0 (fr,st) (toW s0 y.1 y.2))) (h2:Im (p) (zw Tryz.prog gl s0 (c::cs) AQ y.1 y.2)):Im (p) (zw Tryz.prog gl s0 (.region id ops false::c::cs) AQ fr st):=fun k=>rC (h trivial) (h2 k)
theorem xo {y:Cfg} (hcl:Cl s0 (AQ .normal)) (h:Im (True) (xu Tryz.prog gl ops 0 (fr,st) (toW s0 y.1 y.2))) (h2:Im (p) (AQ .normal y.1 y.2)):Im (p) (zw Tryz.prog gl s0 [.region id ops false] AQ fr st):=fun k=>rCN hcl (h trivial) (h2 k)
theorem edL (hb:Us tyT gl ops i x=true:=by kernel_rfl):Im (p) (xu Tryz.prog gl ops i x (toW s0 (Y0 tyT gl ops i x).1 (Y0 tyT gl ops i x).2)):=fun _=>ed hb
theorem kPL (k:Nat) {q:Option V} {v:V} (hq:q=some v) (h:Im (p) (xu Tryz.prog gl ops (k+1) (Wz (qy tyT gl ops i k x) (xC ops k) v) K)) (hik:Nat.ble i k=true:=by kernel_rfl) (he:YH tyT gl ops i k x=Z1 q (qy tyT gl ops i k x).2:=by kernel_rfl):Im (p) (xu Tryz.prog gl ops i x K):=fun z=>kP k hq (h z) hik he
theorem kCL (k:Nat) (R:Ren) {f:FuncId} {args1:List V} {st1 st1':St} {r:V} (hc:uQ Tryz.prog gl f args1 st1 (Out r st1')) (h:Im (p) (xu Tryz.prog gl ops (k+1) (gn (qy tyT gl ops i k x) (xC ops k) (V.ren R r) (fun st=>St.after R st st1')) K)) (hb:goB tyT gl ops i k x R f args1 st1=true:=by kernel_rfl) (he:Bc R st1 args1=goR tyT gl ops i k x R args1 st1:=by kernel_rfl):Im (p) (xu Tryz.prog gl ops i x K):=fun z=>kC k R hc (h z) hb he
theorem gFL {α:Type} (k d:Nat) {b:Bool} {a a':Option α} {r:α} (ht:Im (a=some r) (xu Tryz.prog gl ops k (Wz (qy tyT gl ops i k x) (some d) (.bool true)) K)) (hf:Im (a'=some r) (xu Tryz.prog gl ops k (Wz (qy tyT gl ops i k x) (some d) (.bool false)) K)) (hik:Nat.ble i k=true:=by kernel_rfl) (he:GU tyT gl ops i k x=some (d, .bool b):=by kernel_rfl):Im ((if b=true then a else a')=some r) (xu Tryz.prog gl ops i x K):=fun h=>gF k d h ht hf hik he
theorem kFL {α:Type} {t:Bool} {A B:Option α} {r:α} (h1:t=true→Im (A=some r) (Q)) (h2:t=false→Im (B=some r) (Q)):Im ((if t=true then A else B)=some r) (Q):=fun h=>kF h h1 h2
theorem bFL {α:Type} {q:Operand} {x y:Code} {t:Bool} {a b:Option α} {r:α} (h1:Im (a=some r) (zw Tryz.prog gl s0 (flat x cs) AQ fr st)) (h2:Im (b=some r) (zw Tryz.prog gl s0 (flat y cs) AQ fr st)) (hc:fr.eval q= .bool t:=by kernel_rfl):Im ((if t=true then a else b)=some r) (zw Tryz.prog gl s0 (.cond q x y::cs) AQ fr st):=fun h=>bF h (fun k=>pR _ (h1 k)) (fun k=>pR _ (h2 k)) hc
theorem bTL {q:Operand} {x y:Code} (h1:Im (p) (zw Tryz.prog gl s0 (flat x cs) AQ fr st)) (hc:fr.eval q= .bool true:=by kernel_rfl):Im (p) (zw Tryz.prog gl s0 (.cond q x y::cs) AQ fr st):=fun k=>bT (pR _ (h1 k)) hc
theorem bNL {q:Operand} {x y:Code} (h1:Im (p) (zw Tryz.prog gl s0 (flat y cs) AQ fr st)) (hc:fr.eval q= .bool false:=by kernel_rfl):Im (p) (zw Tryz.prog gl s0 (.cond q x y::cs) AQ fr st):=fun k=>bN (pR _ (h1 k)) hc
theorem rgF {a:Prop} (k:a) (fr':AFr) (st':St) (h:Im (a) (xu Tryz.prog gl ops 0 (fr,st) (toW s0 fr' st'))) (h2:Im (p) (zw Tryz.prog gl s0 (c::cs) AQ fr' st')):Im (p) (zw Tryz.prog gl s0 (.region id ops false::c::cs) AQ fr st):=fun z=>reg fr' st' (h k) (h2 z)
theorem Gl {a:Prop} (k:a) (hcl:Cl s0 (AQ .normal)) (fr':AFr) (st':St) (h:Im (a) (xu Tryz.prog gl ops 0 (fr,st) (toW s0 fr' st'))) (h2:Im (p) (AQ .normal fr' st')):Im (p) (zw Tryz.prog gl s0 [.region id ops false] AQ fr st):=fun z=>zgp fr' st' hcl (h k) (h2 z)
theorem zo (h:Im (p) (zw Tryz.prog gl s0 (flat c []) (Zy id (uy (zw Tryz.prog gl s0 cs AQ) AQ)) fr st)):Im (p) (zw Tryz.prog gl s0 (.block id c::cs) AQ fr st):=fun k=>nw (pR _ (h k))
theorem zad (h:Im (p) (zw Tryz.prog gl s0 (flat c []) (noG (uy (zw Tryz.prog gl s0 cs AQ) AQ)) fr st)):Im (p) (zw Tryz.prog gl s0 (.scope c::cs) AQ fr st):=fun k=>zaL (pR _ (h k))
theorem GX {n:Nat} (h:Im (p) (zw Tryz.prog gl s0 (flat c []) (uy (pe Tryz.prog gl s0 c AQ n) AQ) fr st)):Im (p) (pe Tryz.prog gl s0 c AQ (n+1) fr st):=fun k=>zaR (pR _ (h k))
theorem XG {n:Nat} (h:Im (p) (zw Tryz.prog gl s0 (flat c []) (uy (pe Tryz.prog gl s0 c AQ n) AQ) fr st)):Im (p) (uy (pe Tryz.prog gl s0 c AQ (n+1)) AQ .normal fr st):=fun k=>sn (pR _ (h k))
theorem ya (h:Im (p) (AQ .ret fr st)):Im (p) (zw Tryz.prog gl s0 (.ret::cs) AQ fr st):=fun k=>zbU (h k)
theorem bW (h:Im (p) (AQ (.exit id) fr st)):Im (p) (zw Tryz.prog gl s0 (.exit id::cs) AQ fr st):=fun k=>zcU (h k)
theorem tF {l:Nat} (h:Im (p) (zw Tryz.prog gl s0 cs AQ fr st)):Im (p) (zw Tryz.prog gl s0 (.label l::cs) AQ fr st):=fun k=>za5 (h k)
theorem yV (hw:Wk s0 fr st fr' st') (h:Im (p) (zw Tryz.prog gl s0 (c::cs) AQ fr' st')):Im (p) (zw Tryz.prog gl s0 (c::cs) AQ fr st):=fun k=>zgf hw (h k)
theorem XW (h:Im (p) (AQ (.exit id) fr st)):Im (p) (uy K AQ (.exit id) fr st):=h
theorem wo (h:Im (p) (AQ .ret fr st)):Im (p) (uy K AQ .ret fr st):=h
theorem yf (h:Im (p) (AQ .ret fr st)):Im (p) (Zy id (uy K AQ) .ret fr st):=h
theorem zp (h:Im (p) (K fr st)):Im (p) (Zy id (uy K AQ) .normal fr st):=h
theorem UJ (h:Im (p) (K fr st)):Im (p) (Zy id (uy K AQ) (.exit id) fr st):=fun k=>zbs (h k)
theorem db {id':Nat} (h:Im (p) (AQ (.exit id') fr st)) (hne:Nat.beq id' id=false:=by kernel_rfl):Im (p) (Zy id (uy K AQ) (.exit id') fr st):=fun k=>zaA hne (h k)
theorem yn {Y:Type} {F:Y→AFr} {S:Y→St} {L:Y→Prop} (h:Im (p) (AQ .ret fr st)):Im (p) (dv s0 id F S L AQ .ret fr st):=h
theorem dM {Y:Type} {F:Y→AFr} {S:Y→St} {L:Y→Prop} (h:Im (p) (Ye s0 F S L fr st)):Im (p) (dv s0 id F S L AQ (.exit id) fr st):=fun k=>zbD (h k)
theorem jnL {Y:Type} {F:Y→AFr} {S:Y→St} {v y:Y} (R:Ren) (hb:wkB s0 R fr st (F v) (S v)=true:=by kernel_rfl) (he:wkL R (F v) (S v)=wkR R fr st (F v) (S v):=by kernel_rfl):Im (some v=some y) (Ye s0 F S (fun z=>y=z) fr st):=fun h=>⟨v,sI h,Wk.gen R hb he⟩
theorem jCL {Z Y:Type} {F:Y→AFr} {S:Y→St} {v:Y} {o:Ctl Z Y} (R:Ren) (hb:wkB s0 R fr st (F v) (S v)=true:=by kernel_rfl) (he:wkL R (F v) (S v)=wkR R fr st (F v) (S v):=by kernel_rfl):Im (some (.nxt v)=some o) (Ye s0 F S (fun z=>o= .nxt z) fr st):=fun h=>⟨v,sI h,Wk.gen R hb he⟩
theorem lpL {X Y:Type} (g:Nat→X→Option Y) {o:Y} {n:Nat} (x0:X) (R:Ren) (F:X→AFr) (S:X→St) (round:∀k x,Im (g (k+1) x=some o) (zw Tryz.prog gl s0 (flat c []) (uy (Ye s0 F S (fun x=>g k x=some o)) AQ) (F x) (S x))) (h0:∀x,g 0 x=none:=by intro _; rfl) (hb:wkB s0 R fr st (F x0) (S x0)=true:=by kernel_rfl) (he:wkL R (F x0) (S x0)=wkR R fr st (F x0) (S x0):=by kernel_rfl):Im (g n x0=some o) (zw Tryz.prog gl s0 (.loop c::cs) AQ fr st):=
 fun h=>zcf F S (fun k x=>g k x=some o) (fun x hx=>by rw [h0]at hx; cases hx) n x0 h (Wk.gen R hb he) fun k x h=>pR _ (round k x h)
theorem cuL {Y Z:Type} {o:Option Y} {f:Y→Option Z} {r:Z} (F:Y→AFr) (S:Y→St) (h1:∀y,Im (o=some y) (zw Tryz.prog gl s0 [c] (uy (Ye s0 F S (fun z=>y=z)) AQ) fr st)) (h2:∀y,Im (f y=some r) (zw Tryz.prog gl s0 (d::cs) AQ (F y) (S y))):Im (o.bind f=some r) (zw Tryz.prog gl s0 (c::d::cs) AQ fr st):=fun h=>cuE h F S h1 h2
theorem blL {Y Z:Type} {o:Option Y} {f:Y→Option Z} {r:Z} (F:Y→AFr) (S:Y→St) (h1:∀y,Im (o=some y) (zw Tryz.prog gl s0 (flat c []) (dv s0 id F S (fun z=>y=z) AQ) fr st)) (h2:∀y,Im (f y=some r) (zw Tryz.prog gl s0 (d::cs) AQ (F y) (S y))):Im (o.bind f=some r) (zw Tryz.prog gl s0 (.block id c::d::cs) AQ fr st):=fun h=>blE h F S (fun y k=>pR _ (h1 y k)) h2
theorem ccL {R Y Z:Type} {o:Option (Ctl R Y)} {g:R→Option Z} {f:Y→Option Z} {r:Z} (F:Y→AFr) (S:Y→St) (h1:∀y,(∀x,y= .ret x→g x=some r)→Im (o=some y) (zw Tryz.prog gl s0 [c] (uy (Ye s0 F S (fun z=>y= .nxt z)) AQ) fr st)) (h2:∀y,Im (f y=some r) (zw Tryz.prog gl s0 (d::cs) AQ (F y) (S y))):Im (yb o g f=some r) (zw Tryz.prog gl s0 (c::d::cs) AQ fr st):=fun h=>cuC h F S (fun y k e=>h1 y e k) h2
theorem bcL {R Y Z:Type} {o:Option (Ctl R Y)} {g:R→Option Z} {f:Y→Option Z} {r:Z} (F:Y→AFr) (S:Y→St) (h1:∀y,(∀x,y= .ret x→g x=some r)→Im (o=some y) (zw Tryz.prog gl s0 (flat c []) (dv s0 id F S (fun z=>y= .nxt z) AQ) fr st)) (h2:∀y,Im (f y=some r) (zw Tryz.prog gl s0 (d::cs) AQ (F y) (S y))):Im (yb o g f=some r) (zw Tryz.prog gl s0 (.block id c::d::cs) AQ fr st):=fun h=>blC h F S (fun y k e=>pR _ (h1 y e k)) h2
theorem zga {Y Z:Type} {o:Option Y} {f:Y→Option Z} {r:Z} (hcl:Cl s0 (AQ .normal)) (F:Y→AFr) (S:Y→St) (h1:∀y,Im (o=some y) (zw Tryz.prog gl s0 (flat c []) (dv s0 id F S (fun z=>y=z) AQ) fr st)) (h2:∀y,Im (f y=some r) (AQ .normal (F y) (S y))):Im (o.bind f=some r) (zw Tryz.prog gl s0 [.block id c] AQ fr st):=fun h=>zfX h hcl F S (fun y k=>pR _ (h1 y k)) h2
theorem rv {R Y Z:Type} {o:Option (Ctl R Y)} {g:R→Option Z} {f:Y→Option Z} {r:Z} (hcl:Cl s0 (AQ .normal)) (F:Y→AFr) (S:Y→St) (h1:∀y,(∀x,y= .ret x→g x=some r)→Im (o=some y) (zw Tryz.prog gl s0 (flat c []) (dv s0 id F S (fun z=>y= .nxt z) AQ) fr st)) (h2:∀y,Im (f y=some r) (AQ .normal (F y) (S y))):Im (yb o g f=some r) (zw Tryz.prog gl s0 [.block id c] AQ fr st):=fun h=>zfH h hcl F S (fun y k e=>pR _ (h1 y e k)) h2
end
end Go.Abs
end
