/- The program's types and functions in the abstract reading, its records as Lean structures, and the contracts of library functions. -/
import Derived.Test.YtbggpcnbbhjiaaaGreatDoorS
set_option linter.unusedVariables false
set_option linter.unusedSimpArgs false
set_option linter.unnecessarySimpa false
section
namespace Go.Abs
open Go Go.Proofs
def ty0:TI:=⟨true,1,0, .flat,(.tuple []),true,[],[]⟩
def ty2:TI:=⟨true,1,8,(.int .i64),(.int .i64 0),true,[],[]⟩
def ty3:TI:=⟨true,1,8,(.int .i64),(.int .i64 0),true,[],[]⟩
def ty4:TI:=⟨true,1,1, .bool,(.bool false),true,[],[]⟩
def ty5:TI:=⟨true,1,1,(.int .u8),(.int .u8 0),true,[],[]⟩
def ty6:TI:=⟨true,1,1,(.int .u8),(.int .u8 0),true,[],[]⟩
def ty7:TI:=⟨true,4,24,(.struct [(0,1),(1,1),(2,1),(3,1)]),(.agg [(.int .i64 0),(.int .i64 0),(.bool false),(.int .u8 0)]),true,[2,3,4,6],[(.int .i64),(.int .i64), .bool,(.int .u8)]⟩
def ty8:TI:=⟨true,4,24,(.struct [(0,1),(1,1),(2,1),(3,1)]),(.agg [(.int .i64 0),(.int .i64 0),(.bool false),(.int .u8 0)]),true,[2,3,4,6],[(.int .i64),(.int .i64), .bool,(.int .u8)]⟩
def ty9:TI:=⟨true,1,16, .str,(.str []),true,[],[]⟩
def zeN:TI:=⟨true,1,16, .str,(.str []),true,[],[]⟩
def zen:TI:=⟨true,1,16, .str,(.str []),true,[],[]⟩
def zdY:TI:=⟨true,1,8,(.int .u64),(.int .u64 0),true,[],[]⟩
def ze3:TI:=⟨true,2,24,(.struct [(0,1),(1,1)]),(.agg [(.str []),(.int .u64 0)]),true,[9,12],[]⟩
def zey:TI:=⟨true,2,24,(.struct [(0,1),(1,1)]),(.agg [(.str []),(.int .u64 0)]),true,[9,12],[]⟩
def zeS:TI:=⟨true,1,8,(.ptr 319), .nilp,true,[],[]⟩
def zeC:TI:=⟨true,1,8,(.ptr 322), .nilp,true,[],[]⟩
def zeM:TI:=⟨true,1,8,(.ptr 330), .nilp,true,[],[]⟩
def zeQ:TI:=⟨true,1,8,(.struct [(0,1)]),(.agg [.nilp]),true,[17],[]⟩
def zd9:TI:=⟨true,1,8,(.struct [(0,1)]),(.agg [.nilp]),true,[17],[]⟩
def zeV:TI:=⟨true,1,4,(.int .i32),(.int .i32 0),true,[],[]⟩
def zea:TI:=⟨true,1,24,(.slice 3 1 8), .nilsl,true,[],[]⟩
def zei:TI:=⟨true,1,24,(.slice 9 1 16), .nilsl,true,[],[]⟩
def zdZ:TI:=⟨true,1,24,(.slice 59 3 48), .nilsl,true,[],[]⟩
def zeA:TI:=⟨true,1,24,(.slice 68 4 64), .nilsl,true,[],[]⟩
def zel:TI:=⟨true,11,128,(.struct [(0,1),(1,1),(2,1),(3,1),(4,1),(5,1),(6,1),(7,1),(8,1),(9,1),(10,1)]),(.agg [(.int .i64 0),(.str []),(.int .i64 0), .nilsl,(.bool false),(.bool false),(.bool false), .nilsl,(.int .i64 0),(.bool false), .nilsl]),true,[3,9,3,23,4,4,4,24,3,4,25],[]⟩
def zeZ:TI:=⟨true,11,128,(.struct [(0,1),(1,1),(2,1),(3,1),(4,1),(5,1),(6,1),(7,1),(8,1),(9,1),(10,1)]),(.agg [(.int .i64 0),(.str []),(.int .i64 0), .nilsl,(.bool false),(.bool false),(.bool false), .nilsl,(.int .i64 0),(.bool false), .nilsl]),true,[3,9,3,23,4,4,4,24,3,4,25],[]⟩
def zd4:TI:=⟨true,1,8,(.ptr 78), .nilp,true,[],[]⟩
def zd7:TI:=⟨true,1,8,(.int .i64),(.int .i64 0),true,[],[]⟩
def zd5:TI:=⟨true,1,0, .flat,(.tuple [(.str []),(.int .i64 0)]),true,[],[]⟩
def zev:TI:=⟨true,3,40,(.struct [(0,1),(1,1),(2,1)]),(.agg [(.int .i64 0),(.int .i64 0), .nilsl]),true,[3,3,23],[]⟩
def zew:TI:=⟨true,3,40,(.struct [(0,1),(1,1),(2,1)]),(.agg [(.int .i64 0),(.int .i64 0), .nilsl]),true,[3,3,23],[]⟩
def zd1:TI:=⟨true,5,72,(.struct [(0,1),(1,1),(2,3)]),(.agg [(.int .i64 0), .nilsl,(.int .i64 0),(.int .i64 0), .nilsl]),true,[3,22,43],[]⟩
def zep:TI:=⟨true,5,72,(.struct [(0,1),(1,1),(2,3)]),(.agg [(.int .i64 0), .nilsl,(.int .i64 0),(.int .i64 0), .nilsl]),true,[3,22,43],[]⟩
def ze1:TI:=⟨true,1,24,(.slice 141 1 24), .nilsl,true,[],[]⟩
def ze0:TI:=⟨true,1,24,(.struct [(0,1)]),(.agg [.nilsl]),true,[55],[]⟩
def zeJ:TI:=⟨true,1,24,(.struct [(0,1)]),(.agg [.nilsl]),true,[55],[]⟩
def zeb:TI:=⟨true,3,48,(.struct [(0,1),(1,1),(2,1)]),(.agg [(.int .i64 0),(.str []), .nilsl]),true,[3,9,57],[]⟩
def zeD:TI:=⟨true,3,48,(.struct [(0,1),(1,1),(2,1)]),(.agg [(.int .i64 0),(.str []), .nilsl]),true,[3,9,57],[]⟩
def zeU:TI:=⟨true,1,24,(.slice 27 11 128), .nilsl,true,[],[]⟩
def zeX:TI:=⟨true,3,40,(.struct [(0,1),(1,1),(2,1)]),(.agg [(.int .i64 0),(.str []),(.str [])]),true,[3,9,9],[(.int .i64), .str, .str]⟩
def zeE:TI:=⟨true,3,40,(.struct [(0,1),(1,1),(2,1)]),(.agg [(.int .i64 0),(.str []),(.str [])]),true,[3,9,9],[(.int .i64), .str, .str]⟩
def zeh:TI:=⟨true,4,64,(.struct [(0,1),(1,3)]),(.agg [.nilsl,(.int .i64 0),(.str []),(.str [])]),true,[57,65],[]⟩
def zeq:TI:=⟨true,4,64,(.struct [(0,1),(1,3)]),(.agg [.nilsl,(.int .i64 0),(.str []),(.str [])]),true,[57,65],[]⟩
def zet:TI:=⟨true,1,0, .flat,(.tuple [.nilsl,(.int .i64 0)]),true,[],[]⟩
def zeI:TI:=⟨true,2,32,(.struct [(0,1),(1,1)]),(.agg [.nilsl,(.int .i64 0)]),true,[22,3],[]⟩
def zeO:TI:=⟨true,2,32,(.struct [(0,1),(1,1)]),(.agg [.nilsl,(.int .i64 0)]),true,[22,3],[]⟩
def zej:TI:=⟨true,2,24,(.struct [(0,1),(1,1)]),(.agg [(.str []),(.int .i64 0)]),true,[9,33],[.str,(.int .i64)]⟩
def zeB:TI:=⟨true,2,24,(.struct [(0,1),(1,1)]),(.agg [(.str []),(.int .i64 0)]),true,[9,33],[.str,(.int .i64)]⟩
def zeL:TI:=⟨true,1,8,(.ptr 81), .nilp,true,[],[]⟩
def zbU:TI:=⟨true,1,24,(.slice 5 1 1), .nilsl,true,[],[]⟩
def zdR:TI:=⟨true,3,40,(.struct [(0,1),(1,1),(2,1)]),(.agg [(.int .i64 0),(.str []),(.str [])]),true,[3,9,9],[(.int .i64), .str, .str]⟩
def zbB:TI:=⟨true,3,40,(.struct [(0,1),(1,1),(2,1)]),(.agg [(.int .i64 0),(.str []),(.str [])]),true,[3,9,9],[(.int .i64), .str, .str]⟩
def zdN:TI:=⟨true,1,24,(.slice 103 3 40), .nilsl,true,[],[]⟩
def zdp:TI:=⟨true,1,0, .flat,(.tuple [.nilsl,(.int .i64 0)]),true,[],[]⟩
def zcH:TI:=⟨true,1,8,(.ptr 148), .nilp,true,[],[]⟩
def zdL:TI:=⟨true,1,8,(.ptr 116), .nilp,true,[],[]⟩
def zbE:TI:=⟨true,3,40,(.struct [(0,1),(1,1),(2,1)]),(.agg [.nilsl,(.int .i64 0),(.bool false)]),true,[106,3,4],[]⟩
def zcN:TI:=⟨true,3,40,(.struct [(0,1),(1,1),(2,1)]),(.agg [.nilsl,(.int .i64 0),(.bool false)]),true,[106,3,4],[]⟩
def zbX:TI:=⟨true,1,0, .flat,(.tuple [(.int .i64 0),(.int .i64 0)]),true,[],[]⟩
def zcU:TI:=⟨true,1,0, .flat,(.tuple [.nilsl,(.int .i64 0)]),true,[],[]⟩
def zcf:TI:=⟨true,3,40,(.struct [(0,1),(1,1),(2,1)]),(.agg [(.str []),(.int .i64 0),(.str [])]),true,[9,3,9],[.str,(.int .i64), .str]⟩
def zbC:TI:=⟨true,3,40,(.struct [(0,1),(1,1),(2,1)]),(.agg [(.str []),(.int .i64 0),(.str [])]),true,[9,3,9],[.str,(.int .i64), .str]⟩
def zbF:TI:=⟨true,1,24,(.slice 140 3 40), .nilsl,true,[],[]⟩
def zbK:TI:=⟨true,2,32,(.struct [(0,1),(1,1)]),(.agg [.nilsl,(.bool false)]),true,[106,4],[]⟩
def zcJ:TI:=⟨true,2,32,(.struct [(0,1),(1,1)]),(.agg [.nilsl,(.bool false)]),true,[106,4],[]⟩
def zdQ:TI:=⟨true,6,48,(.struct [(0,1),(1,1),(2,1),(3,1),(4,1),(5,1)]),(.agg [(.int .i64 0),(.int .i64 0),(.int .i64 0),(.int .i64 0),(.int .i64 0),(.int .i64 0)]),true,[3,3,3,3,3,3],[(.int .i64),(.int .i64),(.int .i64),(.int .i64),(.int .i64),(.int .i64)]⟩
def zc9:TI:=⟨true,6,48,(.struct [(0,1),(1,1),(2,1),(3,1),(4,1),(5,1)]),(.agg [(.int .i64 0),(.int .i64 0),(.int .i64 0),(.int .i64 0),(.int .i64 0),(.int .i64 0)]),true,[3,3,3,3,3,3],[(.int .i64),(.int .i64),(.int .i64),(.int .i64),(.int .i64),(.int .i64)]⟩
def zdC:TI:=⟨true,1,8,(.int .u64),(.int .u64 0),true,[],[]⟩
def zdK:TI:=⟨true,1,0, .flat,(.tuple [.nilsl,(.bool false)]),true,[],[]⟩
def zbI:TI:=⟨true,1,0, .flat,(.tuple [(.str []),(.int .i64 0),(.int .i64 0)]),true,[],[]⟩
def zbH:TI:=⟨true,1,8,(.int .u64),(.int .u64 0),true,[],[]⟩
def zbL:TI:=⟨true,1,8,(.int .i64),(.int .i64 0),true,[],[]⟩
def zbY:TI:=⟨true,1,0, .flat,(.tuple [(.bool false),(.int .i64 0)]),true,[],[]⟩
def zdk:TI:=⟨true,2,32,(.struct [(0,1),(1,1)]),(.agg [.nilsl,(.int .i64 0)]),true,[106,3],[]⟩
def zcp:TI:=⟨true,2,32,(.struct [(0,1),(1,1)]),(.agg [.nilsl,(.int .i64 0)]),true,[106,3],[]⟩
def zcA:TI:=⟨true,1,4,(.int .u32),(.int .u32 0),true,[],[]⟩
def zdA:TI:=⟨true,1,24,(.slice 223 1 4), .nilsl,true,[],[]⟩
def zcB:TI:=⟨true,1,0, .flat,(.tuple [.nilsl,(.int .i64 0)]),true,[],[]⟩
def zcy:TI:=⟨true,3,40,(.struct [(0,3)]),(.agg [(.int .i64 0),(.str []),(.str [])]),true,[65],[]⟩
def zdG:TI:=⟨true,3,40,(.struct [(0,3)]),(.agg [(.int .i64 0),(.str []),(.str [])]),true,[65],[]⟩
def zdo:TI:=⟨true,1,8,(.ptr 231), .nilp,true,[],[]⟩
def zcn:TI:=⟨true,1,24,(.slice 232 1 8), .nilsl,true,[],[]⟩
def zdP:TI:=⟨true,1,24,(.slice 23 1 24), .nilsl,true,[],[]⟩
def zda:TI:=⟨true,3,56,(.struct [(0,1),(1,1),(2,1)]),(.agg [(.str []),(.str []), .nilsl]),true,[9,9,236],[]⟩
def zcS:TI:=⟨true,3,56,(.struct [(0,1),(1,1),(2,1)]),(.agg [(.str []),(.str []), .nilsl]),true,[9,9,236],[]⟩
def zcd:TI:=⟨true,12,96,(.arr 12 1),(.agg [(.int .i64 0),(.int .i64 0),(.int .i64 0),(.int .i64 0),(.int .i64 0),(.int .i64 0),(.int .i64 0),(.int .i64 0),(.int .i64 0),(.int .i64 0),(.int .i64 0),(.int .i64 0)]),true,[],[]⟩
def zdq:TI:=⟨true,1,8,(.ptr 243), .nilp,true,[],[]⟩
def zcV:TI:=⟨true,2,32,(.struct [(0,1),(1,1)]),(.agg [.nilp, .nilsl]),true,[241,101],[]⟩
def zcx:TI:=⟨true,2,32,(.struct [(0,1),(1,1)]),(.agg [.nilp, .nilsl]),true,[241,101],[]⟩
def zdh:TI:=⟨true,1,0, .flat,(.tuple [(.str []),(.str []),(.bool false)]),true,[],[]⟩
def zcT:TI:=⟨true,1,1,(.int .i8),(.int .i8 0),true,[],[]⟩
def zcF:TI:=⟨true,1,8,(.ptr 214), .nilp,true,[],[]⟩
def zcv:TI:=⟨true,64,256,(.arr 64 1),(.agg [(.int .u32 0),(.int .u32 0),(.int .u32 0),(.int .u32 0),(.int .u32 0),(.int .u32 0),(.int .u32 0),(.int .u32 0),(.int .u32 0),(.int .u32 0),(.int .u32 0),(.int .u32 0),(.int .u32 0),(.int .u32 0),(.int .u32 0),(.int .u32 0),(.int .u32 0),(.int .u32 0),(.int .u32 0),(.int .u32 0),(.int .u32 0),(.int .u32 0),(.int .u32 0),(.int .u32 0),(.int .u32 0),(.int .u32 0),(.int .u32 0),(.int .u32 0),(.int .u32 0),(.int .u32 0),(.int .u32 0),(.int .u32 0),(.int .u32 0),(.int .u32 0),(.int .u32 0),(.int .u32 0),(.int .u32 0),(.int .u32 0),(.int .u32 0),(.int .u32 0),(.int .u32 0),(.int .u32 0),(.int .u32 0),(.int .u32 0),(.int .u32 0),(.int .u32 0),(.int .u32 0),(.int .u32 0),(.int .u32 0),(.int .u32 0),(.int .u32 0),(.int .u32 0),(.int .u32 0),(.int .u32 0),(.int .u32 0),(.int .u32 0),(.int .u32 0),(.int .u32 0),(.int .u32 0),(.int .u32 0),(.int .u32 0),(.int .u32 0),(.int .u32 0),(.int .u32 0)]),true,[],[]⟩
def zcj:TI:=⟨true,1,0, .flat,(.tuple [(.str []),(.bool false)]),true,[],[]⟩
def zcG:TI:=⟨true,1,0, .flat,(.tuple [(.str []),(.str [])]),true,[],[]⟩
def zdO:TI:=⟨true,1,8,(.ptr 5), .nilp,true,[],[]⟩
def zcC:TI:=⟨true,1,8, .flat, .nilp,true,[],[]⟩
def zde:TI:=⟨true,1,0, .flat,(.tuple [(.int .i32 0),(.int .i64 0)]),true,[],[]⟩
def zb3:TI:=⟨true,24,24,(.arr 24 1),(.agg [(.int .u8 0),(.int .u8 0),(.int .u8 0),(.int .u8 0),(.int .u8 0),(.int .u8 0),(.int .u8 0),(.int .u8 0),(.int .u8 0),(.int .u8 0),(.int .u8 0),(.int .u8 0),(.int .u8 0),(.int .u8 0),(.int .u8 0),(.int .u8 0),(.int .u8 0),(.int .u8 0),(.int .u8 0),(.int .u8 0),(.int .u8 0),(.int .u8 0),(.int .u8 0),(.int .u8 0)]),true,[],[]⟩
def zdi:TI:=⟨true,1,0, .flat,(.tuple [.nilsl,(.str [])]),true,[],[]⟩
def zck:TI:=⟨true,20,160,(.arr 20 1),(.agg [(.int .u64 0),(.int .u64 0),(.int .u64 0),(.int .u64 0),(.int .u64 0),(.int .u64 0),(.int .u64 0),(.int .u64 0),(.int .u64 0),(.int .u64 0),(.int .u64 0),(.int .u64 0),(.int .u64 0),(.int .u64 0),(.int .u64 0),(.int .u64 0),(.int .u64 0),(.int .u64 0),(.int .u64 0),(.int .u64 0)]),true,[],[]⟩
def zdT:TI:=⟨true,65,65,(.arr 65 1),(.agg [(.int .u8 0),(.int .u8 0),(.int .u8 0),(.int .u8 0),(.int .u8 0),(.int .u8 0),(.int .u8 0),(.int .u8 0),(.int .u8 0),(.int .u8 0),(.int .u8 0),(.int .u8 0),(.int .u8 0),(.int .u8 0),(.int .u8 0),(.int .u8 0),(.int .u8 0),(.int .u8 0),(.int .u8 0),(.int .u8 0),(.int .u8 0),(.int .u8 0),(.int .u8 0),(.int .u8 0),(.int .u8 0),(.int .u8 0),(.int .u8 0),(.int .u8 0),(.int .u8 0),(.int .u8 0),(.int .u8 0),(.int .u8 0),(.int .u8 0),(.int .u8 0),(.int .u8 0),(.int .u8 0),(.int .u8 0),(.int .u8 0),(.int .u8 0),(.int .u8 0),(.int .u8 0),(.int .u8 0),(.int .u8 0),(.int .u8 0),(.int .u8 0),(.int .u8 0),(.int .u8 0),(.int .u8 0),(.int .u8 0),(.int .u8 0),(.int .u8 0),(.int .u8 0),(.int .u8 0),(.int .u8 0),(.int .u8 0),(.int .u8 0),(.int .u8 0),(.int .u8 0),(.int .u8 0),(.int .u8 0),(.int .u8 0),(.int .u8 0),(.int .u8 0),(.int .u8 0),(.int .u8 0)]),true,[],[]⟩
def zc1:TI:=⟨true,1,8,(.int .i64),(.int .i64 0),true,[],[]⟩
def zb6:TI:=⟨true,1,0, .flat,(.tuple [(.int .i64 0),(.int .i64 0)]),true,[],[]⟩
def zc7:TI:=⟨true,1,0, .flat,(.tuple [(.int .i64 0),(.bool false)]),true,[],[]⟩
def zc8:TI:=⟨true,256,256,(.arr 256 1),(.agg [(.int .u8 0),(.int .u8 0),(.int .u8 0),(.int .u8 0),(.int .u8 0),(.int .u8 0),(.int .u8 0),(.int .u8 0),(.int .u8 0),(.int .u8 0),(.int .u8 0),(.int .u8 0),(.int .u8 0),(.int .u8 0),(.int .u8 0),(.int .u8 0),(.int .u8 0),(.int .u8 0),(.int .u8 0),(.int .u8 0),(.int .u8 0),(.int .u8 0),(.int .u8 0),(.int .u8 0),(.int .u8 0),(.int .u8 0),(.int .u8 0),(.int .u8 0),(.int .u8 0),(.int .u8 0),(.int .u8 0),(.int .u8 0),(.int .u8 0),(.int .u8 0),(.int .u8 0),(.int .u8 0),(.int .u8 0),(.int .u8 0),(.int .u8 0),(.int .u8 0),(.int .u8 0),(.int .u8 0),(.int .u8 0),(.int .u8 0),(.int .u8 0),(.int .u8 0),(.int .u8 0),(.int .u8 0),(.int .u8 0),(.int .u8 0),(.int .u8 0),(.int .u8 0),(.int .u8 0),(.int .u8 0),(.int .u8 0),(.int .u8 0),(.int .u8 0),(.int .u8 0),(.int .u8 0),(.int .u8 0),(.int .u8 0),(.int .u8 0),(.int .u8 0),(.int .u8 0),(.int .u8 0),(.int .u8 0),(.int .u8 0),(.int .u8 0),(.int .u8 0),(.int .u8 0),(.int .u8 0),(.int .u8 0),(.int .u8 0),(.int .u8 0),(.int .u8 0),(.int .u8 0),(.int .u8 0),(.int .u8 0),(.int .u8 0),(.int .u8 0),(.int .u8 0),(.int .u8 0),(.int .u8 0),(.int .u8 0),(.int .u8 0),(.int .u8 0),(.int .u8 0),(.int .u8 0),(.int .u8 0),(.int .u8 0),(.int .u8 0),(.int .u8 0),(.int .u8 0),(.int .u8 0),(.int .u8 0),(.int .u8 0),(.int .u8 0),(.int .u8 0),(.int .u8 0),(.int .u8 0),(.int .u8 0),(.int .u8 0),(.int .u8 0),(.int .u8 0),(.int .u8 0),(.int .u8 0),(.int .u8 0),(.int .u8 0),(.int .u8 0),(.int .u8 0),(.int .u8 0),(.int .u8 0),(.int .u8 0),(.int .u8 0),(.int .u8 0),(.int .u8 0),(.int .u8 0),(.int .u8 0),(.int .u8 0),(.int .u8 0),(.int .u8 0),(.int .u8 0),(.int .u8 0),(.int .u8 0),(.int .u8 0),(.int .u8 0),(.int .u8 0),(.int .u8 0),(.int .u8 0),(.int .u8 0),(.int .u8 0),(.int .u8 0),(.int .u8 0),(.int .u8 0),(.int .u8 0),(.int .u8 0),(.int .u8 0),(.int .u8 0),(.int .u8 0),(.int .u8 0),(.int .u8 0),(.int .u8 0),(.int .u8 0),(.int .u8 0),(.int .u8 0),(.int .u8 0),(.int .u8 0),(.int .u8 0),(.int .u8 0),(.int .u8 0),(.int .u8 0),(.int .u8 0),(.int .u8 0),(.int .u8 0),(.int .u8 0),(.int .u8 0),(.int .u8 0),(.int .u8 0),(.int .u8 0),(.int .u8 0),(.int .u8 0),(.int .u8 0),(.int .u8 0),(.int .u8 0),(.int .u8 0),(.int .u8 0),(.int .u8 0),(.int .u8 0),(.int .u8 0),(.int .u8 0),(.int .u8 0),(.int .u8 0),(.int .u8 0),(.int .u8 0),(.int .u8 0),(.int .u8 0),(.int .u8 0),(.int .u8 0),(.int .u8 0),(.int .u8 0),(.int .u8 0),(.int .u8 0),(.int .u8 0),(.int .u8 0),(.int .u8 0),(.int .u8 0),(.int .u8 0),(.int .u8 0),(.int .u8 0),(.int .u8 0),(.int .u8 0),(.int .u8 0),(.int .u8 0),(.int .u8 0),(.int .u8 0),(.int .u8 0),(.int .u8 0),(.int .u8 0),(.int .u8 0),(.int .u8 0),(.int .u8 0),(.int .u8 0),(.int .u8 0),(.int .u8 0),(.int .u8 0),(.int .u8 0),(.int .u8 0),(.int .u8 0),(.int .u8 0),(.int .u8 0),(.int .u8 0),(.int .u8 0),(.int .u8 0),(.int .u8 0),(.int .u8 0),(.int .u8 0),(.int .u8 0),(.int .u8 0),(.int .u8 0),(.int .u8 0),(.int .u8 0),(.int .u8 0),(.int .u8 0),(.int .u8 0),(.int .u8 0),(.int .u8 0),(.int .u8 0),(.int .u8 0),(.int .u8 0),(.int .u8 0),(.int .u8 0),(.int .u8 0),(.int .u8 0),(.int .u8 0),(.int .u8 0),(.int .u8 0),(.int .u8 0),(.int .u8 0),(.int .u8 0),(.int .u8 0),(.int .u8 0),(.int .u8 0),(.int .u8 0),(.int .u8 0),(.int .u8 0),(.int .u8 0),(.int .u8 0),(.int .u8 0),(.int .u8 0),(.int .u8 0),(.int .u8 0),(.int .u8 0),(.int .u8 0),(.int .u8 0),(.int .u8 0),(.int .u8 0)]),true,[],[]⟩
def zdg:TI:=⟨true,2,2,(.struct [(0,1),(1,1)]),(.agg [(.int .u8 0),(.int .u8 0)]),true,[5,5],[(.int .u8),(.int .u8)]⟩
def zbZ:TI:=⟨true,2,2,(.struct [(0,1),(1,1)]),(.agg [(.int .u8 0),(.int .u8 0)]),true,[5,5],[(.int .u8),(.int .u8)]⟩
def zb7:TI:=⟨true,32,32,(.arr 16 2),(.agg [(.int .u8 0),(.int .u8 0),(.int .u8 0),(.int .u8 0),(.int .u8 0),(.int .u8 0),(.int .u8 0),(.int .u8 0),(.int .u8 0),(.int .u8 0),(.int .u8 0),(.int .u8 0),(.int .u8 0),(.int .u8 0),(.int .u8 0),(.int .u8 0),(.int .u8 0),(.int .u8 0),(.int .u8 0),(.int .u8 0),(.int .u8 0),(.int .u8 0),(.int .u8 0),(.int .u8 0),(.int .u8 0),(.int .u8 0),(.int .u8 0),(.int .u8 0),(.int .u8 0),(.int .u8 0),(.int .u8 0),(.int .u8 0)]),true,[],[]⟩
def zb1:TI:=⟨true,1,0, .flat,(.tuple [(.int .u32 0),(.int .u32 0)]),true,[],[]⟩
def zca:TI:=⟨true,1,8,(.int .u64),(.int .u64 0),true,[],[]⟩
def zcw:TI:=⟨true,1,8,(.ptr 3), .nilp,true,[],[]⟩
def zcz:TI:=⟨true,32,32,(.arr 32 1),(.agg [(.int .u8 0),(.int .u8 0),(.int .u8 0),(.int .u8 0),(.int .u8 0),(.int .u8 0),(.int .u8 0),(.int .u8 0),(.int .u8 0),(.int .u8 0),(.int .u8 0),(.int .u8 0),(.int .u8 0),(.int .u8 0),(.int .u8 0),(.int .u8 0),(.int .u8 0),(.int .u8 0),(.int .u8 0),(.int .u8 0),(.int .u8 0),(.int .u8 0),(.int .u8 0),(.int .u8 0),(.int .u8 0),(.int .u8 0),(.int .u8 0),(.int .u8 0),(.int .u8 0),(.int .u8 0),(.int .u8 0),(.int .u8 0)]),true,[],[]⟩
def zcX:TI:=⟨true,64,64,(.arr 64 1),(.agg [(.int .u8 0),(.int .u8 0),(.int .u8 0),(.int .u8 0),(.int .u8 0),(.int .u8 0),(.int .u8 0),(.int .u8 0),(.int .u8 0),(.int .u8 0),(.int .u8 0),(.int .u8 0),(.int .u8 0),(.int .u8 0),(.int .u8 0),(.int .u8 0),(.int .u8 0),(.int .u8 0),(.int .u8 0),(.int .u8 0),(.int .u8 0),(.int .u8 0),(.int .u8 0),(.int .u8 0),(.int .u8 0),(.int .u8 0),(.int .u8 0),(.int .u8 0),(.int .u8 0),(.int .u8 0),(.int .u8 0),(.int .u8 0),(.int .u8 0),(.int .u8 0),(.int .u8 0),(.int .u8 0),(.int .u8 0),(.int .u8 0),(.int .u8 0),(.int .u8 0),(.int .u8 0),(.int .u8 0),(.int .u8 0),(.int .u8 0),(.int .u8 0),(.int .u8 0),(.int .u8 0),(.int .u8 0),(.int .u8 0),(.int .u8 0),(.int .u8 0),(.int .u8 0),(.int .u8 0),(.int .u8 0),(.int .u8 0),(.int .u8 0),(.int .u8 0),(.int .u8 0),(.int .u8 0),(.int .u8 0),(.int .u8 0),(.int .u8 0),(.int .u8 0),(.int .u8 0)]),true,[],[]⟩
def zct:TI:=⟨true,1,8,(.ptr 307), .nilp,true,[],[]⟩
def zbP:TI:=⟨true,1,0, .flat,(.tuple [(.int .i64 0),(.int .i64 0)]),true,[],[]⟩
def zdH:TI:=⟨true,4,40,(.struct [(0,1),(1,1),(2,1),(3,1)]),(.agg [.nilp, .nilp, .nilp,(.str [])]),true,[17,17,17,9],[]⟩
def zdz:TI:=⟨true,4,40,(.struct [(0,1),(1,1),(2,1),(3,1)]),(.agg [.nilp, .nilp, .nilp,(.str [])]),true,[17,17,17,9],[]⟩
def zcu:TI:=⟨true,0,0,(.arr 0 1),(.agg []),true,[],[]⟩
def zdn:TI:=⟨true,0,0,(.struct [(0,0)]),(.agg []),true,[320],[]⟩
def zds:TI:=⟨true,0,0,(.struct [(0,0)]),(.agg []),true,[320],[]⟩
def zcM:TI:=⟨true,1,1,(.int .u8),(.int .u8 0),true,[],[]⟩
def zcD:TI:=⟨true,1,1,(.int .u8),(.int .u8 0),true,[],[]⟩
def zci:TI:=⟨true,1,4,(.int .i32),(.int .i32 0),true,[],[]⟩
def zc6:TI:=⟨true,1,4,(.int .i32),(.int .i32 0),true,[],[]⟩
def zbW:TI:=⟨true,11,48,(.struct [(0,1),(1,1),(2,1),(3,1),(4,1),(5,1),(6,1),(7,1),(8,1),(9,1),(10,1)]),(.agg [(.int .u64 0),(.int .u64 0),(.int .u32 0),(.int .u8 0),(.int .u8 0),(.int .u8 0),(.int .u8 0), .nilfunc, .nilp,(.int .i32 0),(.int .i32 0)]),true,[12,12,223,324,5,5,325,326,267,327,328],[]⟩
def zdl:TI:=⟨true,11,48,(.struct [(0,1),(1,1),(2,1),(3,1),(4,1),(5,1),(6,1),(7,1),(8,1),(9,1),(10,1)]),(.agg [(.int .u64 0),(.int .u64 0),(.int .u32 0),(.int .u8 0),(.int .u8 0),(.int .u8 0),(.int .u8 0), .nilfunc, .nilp,(.int .i32 0),(.int .i32 0)]),true,[12,12,223,324,5,5,325,326,267,327,328],[]⟩
def fy:TT:=(.node (.node (.node (.node (.node (.node (.node .leaf 0 ty0 .leaf) 2 ty2 (.node .leaf 3 ty3 .leaf)) 4 ty4 (.node (.node .leaf 5 ty5 .leaf) 6 ty6 (.node .leaf 7 ty7 .leaf))) 8 ty8 (.node (.node (.node .leaf 9 ty9 .leaf) 10 zeN (.node .leaf 11 zen .leaf)) 12 zdY (.node (.node .leaf 13 ze3 .leaf) 14 zey (.node .leaf 15 zeS .leaf)))) 16 zeC (.node (.node (.node (.node .leaf 17 zeM .leaf) 18 zeQ (.node .leaf 19 zd9 .leaf)) 21 zeV (.node (.node .leaf 22 zea .leaf) 23 zei (.node .leaf 24 zdZ .leaf))) 25 zeA (.node (.node (.node .leaf 26 zel .leaf) 27 zeZ (.node .leaf 31 zd4 .leaf)) 33 zd7 (.node (.node .leaf 34 zd5 .leaf) 42 zev (.node .leaf 43 zew .leaf))))) 44 zd1 (.node (.node (.node (.node (.node .leaf 45 zep .leaf) 55 ze1 (.node .leaf 56 ze0 .leaf)) 57 zeJ (.node (.node .leaf 58 zeb .leaf) 59 zeD (.node .leaf 61 zeU .leaf))) 64 zeX (.node (.node (.node .leaf 65 zeE .leaf) 67 zeh (.node .leaf 68 zeq .leaf)) 71 zet (.node (.node .leaf 77 zeI .leaf) 78 zeO (.node .leaf 80 zej .leaf)))) 81 zeB (.node (.node (.node (.node .leaf 87 zeL .leaf) 101 zbU (.node .leaf 102 zdR .leaf)) 103 zbB (.node (.node .leaf 106 zdN .leaf) 107 zdp (.node .leaf 112 zcH .leaf))) 113 zdL (.node (.node (.node .leaf 115 zbE .leaf) 116 zcN (.node .leaf 117 zbX .leaf)) 124 zcU (.node (.node .leaf 139 zcf .leaf) 140 zbC (.node .leaf 141 zbF .leaf)))))) 147 zbK (.node (.node (.node (.node (.node (.node .leaf 148 zcJ .leaf) 157 zdQ (.node .leaf 158 zc9 .leaf)) 164 zdC (.node (.node .leaf 171 zdK .leaf) 184 zbI (.node .leaf 192 zbH .leaf))) 200 zbL (.node (.node (.node .leaf 211 zbY .leaf) 213 zdk (.node .leaf 214 zcp .leaf)) 223 zcA (.node (.node .leaf 224 zdA .leaf) 228 zcB (.node .leaf 230 zcy .leaf)))) 231 zdG (.node (.node (.node (.node .leaf 233 zdo .leaf) 234 zcn (.node .leaf 236 zdP .leaf)) 237 zda (.node (.node .leaf 238 zcS .leaf) 240 zcd (.node .leaf 241 zdq .leaf))) 242 zcV (.node (.node (.node .leaf 243 zcx .leaf) 249 zdh (.node .leaf 252 zcT .leaf)) 253 zcF (.node (.node .leaf 254 zcv .leaf) 262 zcj (.node .leaf 265 zcG .leaf))))) 267 zdO (.node (.node (.node (.node (.node .leaf 274 zcC .leaf) 277 zde (.node .leaf 279 zb3 .leaf)) 282 zdi (.node (.node .leaf 288 zck .leaf) 289 zdT (.node .leaf 291 zc1 .leaf))) 292 zb6 (.node (.node (.node .leaf 295 zc7 .leaf) 301 zc8 (.node .leaf 302 zdg .leaf)) 303 zbZ (.node (.node .leaf 304 zb7 .leaf) 305 zb1 (.node .leaf 307 zca .leaf)))) 311 zcw (.node (.node (.node (.node .leaf 313 zcz .leaf) 314 zcX (.node .leaf 315 zct .leaf)) 316 zbP (.node (.node .leaf 318 zdH .leaf) 319 zdz (.node .leaf 320 zcu .leaf))) 321 zdn (.node (.node (.node .leaf 322 zds .leaf) 324 zcM (.node .leaf 325 zcD .leaf)) 327 zci (.node (.node .leaf 328 zc6 .leaf) 329 zbW (.node .leaf 330 zdl .leaf)))))))
set_option maxRecDepth 100000 in
theorem nw:fy.toList.map (fun p=>ti Tryz.prog p.1)=fy.toList.map (·.2):=O7
noncomputable def tyT (t:TypeId):TI:=match fy.get t with|some v=>v|none=>ti Tryz.prog t
theorem gA:tyT=ti Tryz.prog:=TT.eq_of nw
def BA:List Int:= [31,28,31,30,31,30,31,31,30,31,30,31]
def BS:List Int:= [1,10,100,1000,10000,100000,1000000,10000000,100000000,1000000000,10000000000,100000000000,1000000000000,10000000000000,100000000000000,1000000000000000,10000000000000000,100000000000000000,1000000000000000000,10000000000000000000]
def gl0 (mx:Int) (g:Nat):List V:=match g with
 |0=>BA.map (vI .i64)
 |1=> [.int .i64 mx]
 |2=>BS.map (vI .u64)
 |_=> []
section
variable {gl:Nat→List V} {ops:Array Oper} {K:AFr→St→Prop} {s0:St} {cs:List Code} {AQ:Exit→AFr→St→Prop} {id:Nat} {fr fr':AFr} {st st':St} {i:Nat} {x:Cfg} {E:List Nat} {B:List (List Nat)} {rest seen:List Nat} {fx:List (Nat×Option V×V)}
theorem kP (k:Nat) {q:Option V} {v:V} (hq:q=some v) (h:xS Tryz.prog gl ops (k+1) (XH (kl tyT gl ops i k x) (xZ ops k) v) K)
  (hik:Nat.ble i k=true:=by kernel_rfl) (he:Xa tyT gl ops i k x=Zw q (kl tyT gl ops i k x).2:=by kernel_rfl):xS Tryz.prog gl ops i x K:=fq gA k hq hik he h
theorem kC (k:Nat) (R:Ren) {f:FuncId} {args1:List V} {st1 st1':St} {r:V} (hc:uR Tryz.prog gl f args1 st1 (Out r st1'))
  (h:xS Tryz.prog gl ops (k+1) (gj (kl tyT gl ops i k x) (xZ ops k) (V.ren R r) (fun st=>St.after R st st1')) K)
  (hb:goB tyT gl ops i k x R f args1 st1=true:=by kernel_rfl) (he:Kd R st1 args1=goR tyT gl ops i k x R args1 st1:=by kernel_rfl):xS Tryz.prog gl ops i x K:=zex gA k R hc hb he h
theorem kA (k t:Nat) {α:Type} (c:α→List V) {l l2 l':List α} {e e2:TypeId} {sz bytes b2:Nat} {tok2:Tok} (h1:gL bytes l l2=some l')
  (h:xS Tryz.prog gl ops (k+1) (gj (kl tyT gl ops i k x) (xZ ops k) (.sl sz (l'.map c) (.fam t l'.length)) (fun st=>st.setFam t l'.length)) K)
  (hb:(Nat.ble i k&&Yj tyT e sz bytes)=true:=by kernel_rfl) (he:((kl tyT gl ops i k x).2.fams[t]?,Xa tyT gl ops i k x)=(some l.length,qA tyT (kl tyT gl ops i k x).2 (.slice e sz bytes) (.slice e2 sz b2) (.sl sz (l.map c) (.fam t l.length)) (.sl sz (l2.map c) tok2)):=by kernel_rfl):xS Tryz.prog gl ops i x K:=zcK gA k t c h1 hb he h
theorem kS (k:Nat) (s:List UInt8) (h:xS Tryz.prog gl ops (k+1) (XH (kl tyT gl ops i k x) (xZ ops k) (.sl 1 ((s2b s).map (cI .u8)) .none)) K)
  (hik:Nat.ble i k=true:=by kernel_rfl) (he:Xa tyT gl ops i k x=Zw (some (.sl 1 (bR s) .none)) (kl tyT gl ops i k x).2:=by kernel_rfl):xS Tryz.prog gl ops i x K:=zbM gA k s hik he h
theorem kB (k:Nat) (l:List Int) (h:xS Tryz.prog gl ops (k+1) (XH (kl tyT gl ops i k x) (xZ ops k) (.str (b2s l))) K)
  (hik:Nat.ble i k=true:=by kernel_rfl) (he:Xa tyT gl ops i k x=Zw (match dT (l.map (cI .u8))with|some b=>some (.str b)|none=>none) (kl tyT gl ops i k x).2:=by kernel_rfl):xS Tryz.prog gl ops i x K:=zdS gA k l hik he h
theorem kV (k m f id:Nat) {cell:Option (List V)} {q:St→Option (V×St)} {v:V} {F:St→St} (hq:∀st:St,st.vars.length=m→st.fams.length=f→st.vars[id]? =cell→q st=some (v,F st))
  (h:xS Tryz.prog gl ops (k+1) (gj (kl tyT gl ops i k x) (xZ ops k) v F) K) (hik:Nat.ble i k=true:=by kernel_rfl)
  (he:((kl tyT gl ops i k x).2.vars.length,(kl tyT gl ops i k x).2.fams.length,(kl tyT gl ops i k x).2.vars[id]?,Xa tyT gl ops i k x)=(m,f,cell,q (kl tyT gl ops i k x).2):=by kernel_rfl):xS Tryz.prog gl ops i x K:=zaL gA k m f id hq hik he h
theorem kL (k:Nat) {v:V} {cells:List V} (h:xS Tryz.prog gl ops (k+1) (gj (kl tyT gl ops i k x) (xZ ops k) v (fun st=>st.push [.buf cells])) K)
  (hik:Nat.ble i k=true:=by kernel_rfl) (he:zbx tyT gl ops i k x=some (v,cells):=by kernel_rfl):xS Tryz.prog gl ops i x K:=zdd gA k hik he h
theorem dV {fx:List (Nat×Option V×V)} (hf:U3 fx) (m f id:Nat) {cell:Option (List V)} {q:St→Option (V×St)} {v:V} {F:St→St} (hq:∀st:St,st.vars.length=m→st.fams.length=f→st.vars[id]? =cell→q st=some (v,F st))
  (h:aDC Tryz.prog gl ops E B rest (i::seen) (gj x (xZ ops i) v F) K) (hb:E.contains i=true:=by kernel_rfl)
  (he:(x.2.vars.length,x.2.fams.length,x.2.vars[id]?,Dv tyT gl ops i x)=(m,f,cell,q x.2):=by kernel_rfl)
  (hs:(stX tyT gl ops E B i seen (gj x (xZ ops i) v F),svX ops E B fx i seen (gj x (xZ ops i) v F))=(stY tyT gl ops E B fx i seen (gj x (xZ ops i) v F),svY ops E B fx i seen (gj x (xZ ops i) v F)):=by kernel_rfl):aDC Tryz.prog gl ops E B (i::rest) seen x K:=za0 gA hf m f id hq hb he hs h
theorem kE (R:Ren) (hb:tr tyT gl ops i x s0 R fr' st'=true:=by kernel_rfl) (he:wkL R fr' st'=tV tyT gl ops i x R fr' st':=by kernel_rfl):xS Tryz.prog gl ops i x (toW s0 fr' st'):=zc0 gA R hb he
theorem reg {c:Code} (fr':AFr) (st':St) (h:xS Tryz.prog gl ops 0 (fr,st) (toW s0 fr' st')) (h2:zt Tryz.prog gl s0 (c::cs) AQ fr' st'):zt Tryz.prog gl s0 (.region id ops false::c::cs) AQ fr st:=lG fr' st' zS h h2
theorem zeP (fr':AFr) (st':St) (hcl:Cl s0 (AQ .normal)) (h:xS Tryz.prog gl ops 0 (fr,st) (toW s0 fr' st')) (h2:zt Tryz.prog gl s0 [] AQ fr' st'):zt Tryz.prog gl s0 [.region id ops false] AQ fr st:=lG fr' st' (j7 hcl) h h2
theorem drw {c:Code} (order E:List Nat) (B:List (List Nat)) (fr':AFr) (st':St) (h:aDC Tryz.prog gl ops E B order [] (fr,st) (toW s0 fr' st')) (h2:zt Tryz.prog gl s0 (c::cs) AQ fr' st')
  (hm:Tryz.prog.follows .mixedOrders=true:=by kernel_rfl) (hc:YJ ops fr.n order E B=true:=by kernel_rfl):zt Tryz.prog gl s0 (.region id ops true::c::cs) AQ fr st:=Br order E B fr' st' hm hc zS h h2
theorem zb5 (order E:List Nat) (B:List (List Nat)) (fr':AFr) (st':St) (hcl:Cl s0 (AQ .normal)) (h:aDC Tryz.prog gl ops E B order [] (fr,st) (toW s0 fr' st')) (h2:zt Tryz.prog gl s0 [] AQ fr' st')
  (hm:Tryz.prog.follows .mixedOrders=true:=by kernel_rfl) (hc:YJ ops fr.n order E B=true:=by kernel_rfl):zt Tryz.prog gl s0 [.region id ops true] AQ fr st:=Br order E B fr' st' hm hc (j7 hcl) h h2
theorem dS (os:List Nat) (h:aDC Tryz.prog gl ops E B rest (os.reverse++seen) (zbg tyT gl ops E os x) K) (hb:zaY tyT gl ops E os x=true:=by kernel_rfl):aDC Tryz.prog gl ops E B (os++rest) seen x K:=zbR gA os hb h
theorem dP {q:Option V} {v:V} (hq:q=some v) (h:aDC Tryz.prog gl ops E B rest (i::seen) (XH x (xZ ops i) v) K) (hb:eh ops E i=true:=by kernel_rfl) (he:Dv tyT gl ops i x=Zw q x.2:=by kernel_rfl):aDC Tryz.prog gl ops E B (i::rest) seen x K:=zaS gA hq hb he h
theorem dF (hf:U3 fx) (h:aDC Tryz.prog gl ops E B rest (i::seen) (BB tyT gl ops i x) K) (hb:zaX tyT gl ops E i x=true:=by kernel_rfl)
  (hs:(stX tyT gl ops E B i seen (BB tyT gl ops i x),svX ops E B fx i seen (BB tyT gl ops i x))=(stY tyT gl ops E B fx i seen (BB tyT gl ops i x),svY ops E B fx i seen (BB tyT gl ops i x)):=by kernel_rfl):aDC Tryz.prog gl ops E B (i::rest) seen x K:=zbS gA hf hb hs h
theorem dC (hf:U3 fx) (R:Ren) {f:FuncId} {args1:List V} {st1 st1':St} {r:V} (hc:uR Tryz.prog gl f args1 st1 (Out r st1')) (h:aDC Tryz.prog gl ops E B rest (i::seen) (gj x (xZ ops i) (V.ren R r) (fun st=>St.after R st st1')) K)
  (hb:zbc ops E i x R f args1 st1=true:=by kernel_rfl) (he:Kd R st1 args1=za6 ops i x R args1 st1:=by kernel_rfl)
  (hs:(stX tyT gl ops E B i seen (gj x (xZ ops i) (V.ren R r) (fun st=>St.after R st st1')),svX ops E B fx i seen (gj x (xZ ops i) (V.ren R r) (fun st=>St.after R st st1')))=(stY tyT gl ops E B fx i seen (gj x (xZ ops i) (V.ren R r) (fun st=>St.after R st st1')),svY ops E B fx i seen (gj x (xZ ops i) (V.ren R r) (fun st=>St.after R st st1'))):=by kernel_rfl):aDC Tryz.prog gl ops E B (i::rest) seen x K:=zeK gA hf R hc hb he hs h
theorem dA (hf:U3 fx) (t:Nat) {α:Type} (c:α→List V) {l l2 l':List α} {e e2:TypeId} {sz bytes b2:Nat} {tok2:Tok} (h1:gL bytes l l2=some l')
  (h:aDC Tryz.prog gl ops E B rest (i::seen) (gj x (xZ ops i) (.sl sz (l'.map c) (.fam t l'.length)) (fun st=>st.setFam t l'.length)) K)
  (hb:(E.contains i&&Yj tyT e sz bytes)=true:=by kernel_rfl) (he:(x.2.fams[t]?,Dv tyT gl ops i x)=(some l.length,qA tyT x.2 (.slice e sz bytes) (.slice e2 sz b2) (.sl sz (l.map c) (.fam t l.length)) (.sl sz (l2.map c) tok2)):=by kernel_rfl)
  (hs:(stX tyT gl ops E B i seen (gj x (xZ ops i) (.sl sz (l'.map c) (.fam t l'.length)) (fun st=>st.setFam t l'.length)),svX ops E B fx i seen (gj x (xZ ops i) (.sl sz (l'.map c) (.fam t l'.length)) (fun st=>st.setFam t l'.length)))=(stY tyT gl ops E B fx i seen (gj x (xZ ops i) (.sl sz (l'.map c) (.fam t l'.length)) (fun st=>st.setFam t l'.length)),svY ops E B fx i seen (gj x (xZ ops i) (.sl sz (l'.map c) (.fam t l'.length)) (fun st=>st.setFam t l'.length))):=by kernel_rfl):aDC Tryz.prog gl ops E B (i::rest) seen x K:=zdr gA hf t c h1 hb he hs h
theorem dE (R:Ren) (hb:wkB s0 R x.1 x.2 fr' st'=true:=by kernel_rfl) (he:wkL R fr' st'=wkR R x.1 x.2 fr' st':=by kernel_rfl):aDC Tryz.prog gl ops E B [] seen x (toW s0 fr' st'):=zbN R hb he
theorem wk (R:Ren) (hb:wkB s0 R fr st fr' st'=true:=by kernel_rfl) (he:wkL R fr' st'=wkR R fr st fr' st':=by kernel_rfl):Wk s0 fr st fr' st':=Wk.gen R hb he
theorem zm {c:Code} (order E:List Nat) (B:List (List Nat)) (ks:List Nat) (new:List (Nat×V)) (st':St) (h:aDC Tryz.prog gl ops E B order [] (fr,st) (toW s0 (nn fr ks new) st')) (h2:zt Tryz.prog gl s0 (c::cs) AQ (nn fr ks new) st')
  (hm:Tryz.prog.follows .mixedOrders=true:=by kernel_rfl) (hc:YJ ops fr.n order E B=true:=by kernel_rfl):zt Tryz.prog gl s0 (.region id ops true::c::cs) AQ fr st:=Br order E B _ _ hm hc zS h h2
theorem zs {c:Code} (order E:List Nat) (B:List (List Nat)) (ks:List Nat) (new:List (Nat×V)) (h:aDC Tryz.prog gl ops E B order [] (fr,st) (toW s0 (nn fr ks new) st)) (h2:zt Tryz.prog gl s0 (c::cs) AQ (nn fr ks new) st)
  (hm:Tryz.prog.follows .mixedOrders=true:=by kernel_rfl) (hc:YJ ops fr.n order E B=true:=by kernel_rfl):zt Tryz.prog gl s0 (.region id ops true::c::cs) AQ fr st:=Br order E B _ _ hm hc zS h h2
theorem zmN (hcl:Cl s0 (AQ .normal)) (order E:List Nat) (B:List (List Nat)) (ks:List Nat) (new:List (Nat×V)) (st':St) (h:aDC Tryz.prog gl ops E B order [] (fr,st) (toW s0 (nn fr ks new) st')) (h2:zt Tryz.prog gl s0 [] AQ (nn fr ks new) st')
  (hm:Tryz.prog.follows .mixedOrders=true:=by kernel_rfl) (hc:YJ ops fr.n order E B=true:=by kernel_rfl):zt Tryz.prog gl s0 [.region id ops true] AQ fr st:=Br order E B _ _ hm hc (j7 hcl) h h2
theorem bF {α:Type} {c:Operand} {x y:Code} {t:Bool} {a b:Option α} {r:α} (h:(if t=true then a else b)=some r) (h1:a=some r→zt Tryz.prog gl s0 (x::cs) AQ fr st) (h2:b=some r→zt Tryz.prog gl s0 (y::cs) AQ fr st) (hc:fr.eval c= .bool t:=by kernel_rfl):zt Tryz.prog gl s0 (.cond c x y::cs) AQ fr st:=
 zby t hc (fun hb=>h1 (mZ hb h)) (fun hb=>h2 (lv hb h))
theorem bT {c:Operand} {x y:Code} (h1:zt Tryz.prog gl s0 (x::cs) AQ fr st) (hc:fr.eval c= .bool true:=by kernel_rfl):zt Tryz.prog gl s0 (.cond c x y::cs) AQ fr st:=zby true hc (fun _=>h1) (fun hb=>Bool.noConfusion hb)
theorem bN {c:Operand} {x y:Code} (h2:zt Tryz.prog gl s0 (y::cs) AQ fr st) (hc:fr.eval c= .bool false:=by kernel_rfl):zt Tryz.prog gl s0 (.cond c x y::cs) AQ fr st:=zby false hc (fun hb=>Bool.noConfusion hb) (fun _=>h2)
theorem gF {α:Type} (k d:Nat) {b:Bool} {a a':Option α} {r:α} (h:(if b=true then a else a')=some r) (ht:a=some r→xS Tryz.prog gl ops k (XH (kl tyT gl ops i k x) (some d) (.bool true)) K) (hf:a'=some r→xS Tryz.prog gl ops k (XH (kl tyT gl ops i k x) (some d) (.bool false)) K)
  (hik:Nat.ble i k=true:=by kernel_rfl) (he:BI tyT gl ops i k x=some (d, .bool b):=by kernel_rfl):xS Tryz.prog gl ops i x K:=t7 gA k d b hik he (fun hb=>ht (mZ hb h)) (fun hb=>hf (lv hb h))
theorem hF {α:Type} (d:Nat) {b:Bool} {a a':Option α} {r:α} (h:(if b=true then a else a')=some r) (ht:a=some r→aDC Tryz.prog gl ops E B (i::rest) seen (XH x (some d) (.bool true)) K) (hf:a'=some r→aDC Tryz.prog gl ops E B (i::rest) seen (XH x (some d) (.bool false)) K)
  (he:fp ops i x=some (d, .bool b):=by kernel_rfl):aDC Tryz.prog gl ops E B (i::rest) seen x K:=zae d b he (fun hb=>ht (mZ hb h)) (fun hb=>hf (lv hb h))
theorem fnc {f:FuncId} {fn:Func} {c:Code} {args:List V} {Q:V→St→Prop} (hf:Tryz.prog.funcs[f]? =some fn) (hb:fn.body=some c) (h:zt Tryz.prog gl st [c] (Xi Tryz.prog gl st fn Q) (BO fn.ntmps args) st)
  (hn : (fn.name == "runtime.NumGoroutine") = false := by kernel_rfl) (hl : Nat.ble args.length fn.ntmps = true := by kernel_rfl) : uR Tryz.prog gl f args st Q := uR.ofB hf hb hn (Nat.le_of_ble_eq_true hl) h
theorem rt {fn:Func} {r:V} (R:Ren)
  (hb:((dh tyT gl fr st fn.results.toList).isSome&&wkB s0 R ⟨1,[(0,KY tyT gl fr st fn.results.toList)]⟩ st ⟨1,[(0,r)]⟩ st')=true:=by kernel_rfl)
  (hl:wkL R ⟨1,[(0,r)]⟩ st'=wkR R ⟨1,[(0,KY tyT gl fr st fn.results.toList)]⟩ st ⟨1,[(0,r)]⟩ st':=by kernel_rfl):Xi Tryz.prog gl s0 fn (Out r st') .ret fr st:=zas gA R (.inr rfl) hb hl
theorem rno {fn:Func} {r:V} (R:Ren)
  (hb:((dh tyT gl fr st fn.results.toList).isSome&&wkB s0 R ⟨1,[(0,KY tyT gl fr st fn.results.toList)]⟩ st ⟨1,[(0,r)]⟩ st')=true:=by kernel_rfl)
  (hl:wkL R ⟨1,[(0,r)]⟩ st'=wkR R ⟨1,[(0,KY tyT gl fr st fn.results.toList)]⟩ st ⟨1,[(0,r)]⟩ st':=by kernel_rfl):Xi Tryz.prog gl s0 fn (Out r st') .normal fr st:=zas gA R (.inl rfl) hb hl
end
abbrev AC (mx:Int) (f:FuncId) (args:List V) (s:List (List V)) (r:V) (s':List (List V)):Prop:=uR Tryz.prog (gl0 mx) f args ⟨s,[]⟩ (Out r ⟨s',[]⟩)
section
variable {gl:Nat→List V} {ops:Array Oper} {s0:St} {cs:List Code} {AQ:Exit→AFr→St→Prop} {id:Nat} {fr:AFr} {st:St} {i:Nat} {x y:Cfg} {c:Code}
theorem ed (hb:Vt tyT gl ops i x=true:=by kernel_rfl):xS Tryz.prog gl ops i x (toW s0 (Yu tyT gl ops i x).1 (Yu tyT gl ops i x).2):=fX gA hb
theorem rg (h2:zt Tryz.prog gl s0 (c::cs) AQ (Yu tyT gl ops 0 (fr,st)).1 (Yu tyT gl ops 0 (fr,st)).2) (hb:Vt tyT gl ops 0 (fr,st)=true:=by kernel_rfl):zt Tryz.prog gl s0 (.region id ops false::c::cs) AQ fr st:=rS (y:=(fr,st)) (fX gA hb) h2
theorem rgN (hcl:Cl s0 (AQ .normal)) (h2:AQ .normal (Yu tyT gl ops 0 (fr,st)).1 (Yu tyT gl ops 0 (fr,st)).2) (hb:Vt tyT gl ops 0 (fr,st)=true:=by kernel_rfl):zt Tryz.prog gl s0 [.region id ops false] AQ fr st:=lU (y:=(fr,st)) hcl (fX gA hb) h2
theorem rC (h:xS Tryz.prog gl ops 0 (fr,st) (toW s0 y.1 y.2)) (h2:zt Tryz.prog gl s0 (c::cs) AQ y.1 y.2):zt Tryz.prog gl s0 (.region id ops false::c::cs) AQ fr st:=rS (y:=(fr,st)) h h2
theorem rCN (hcl:Cl s0 (AQ .normal)) (h:xS Tryz.prog gl ops 0 (fr,st) (toW s0 y.1 y.2)) (h2:AQ .normal y.1 y.2):zt Tryz.prog gl s0 [.region id ops false] AQ fr st:=lU (y:=(fr,st)) hcl h h2
end
def Im (p q:Prop):Prop:=p→q
section
variable {gl:Nat→List V} {ops:Array Oper} {K:AFr→St→Prop} {s0:St} {c d:Code} {cs:List Code} {AQ:Exit→AFr→St→Prop} {id:Nat} {fr fr':AFr} {st st':St} {i:Nat} {x:Cfg} {E:List Nat} {B:List (List Nat)} {rest seen:List Nat} {fx:List (Nat×Option V×V)} {p Q:Prop}
theorem fnL {f : FuncId} {fn : Func} {args : List V} {Q : V → St → Prop} (hf : Tryz.prog.funcs[f]? = some fn) (hb : fn.body = some c) (h : Im (p) (zt Tryz.prog gl st (flat c []) (Xi Tryz.prog gl st fn Q) (BO fn.ntmps args) st)) (hn : (fn.name == "runtime.NumGoroutine") = false := by kernel_rfl) (hl : Nat.ble args.length fn.ntmps = true := by kernel_rfl) : Im (p) (uR Tryz.prog gl f args st Q) := fun k => fnc hf hb (pV _ (h k)) hn hl
theorem bEL {α β:Type} {x:Option α} {f:α→Option β} {y:β} (k:∀a,x=some a→Im (f a=some y) (Q)):Im (x.bind f=some y) (Q):=fun h=>bE h k
theorem lfL {A:Prop} (f:A→Q) (t:Im (p) (A)):Im (p) (Q):=fun z=>f (t z)
theorem imA (h:p) (t:Im (p) (Q)):Q:=t h
inductive Tg (R:Ren):Prop|mk
theorem rtT {fn:Func} {r:V} {R:Ren} (_:Tg R) (hb:((dh tyT gl fr st fn.results.toList).isSome&&wkB s0 R ⟨1,[(0,KY tyT gl fr st fn.results.toList)]⟩ st ⟨1,[(0,r)]⟩ st')=true:=by kernel_rfl)
  (hl:wkL R ⟨1,[(0,r)]⟩ st'=wkR R ⟨1,[(0,KY tyT gl fr st fn.results.toList)]⟩ st ⟨1,[(0,r)]⟩ st':=by kernel_rfl):Xi Tryz.prog gl s0 fn (Out r st') .ret fr st:=rt R hb hl
theorem rnT {fn:Func} {r:V} {R:Ren} (_:Tg R) (hb:((dh tyT gl fr st fn.results.toList).isSome&&wkB s0 R ⟨1,[(0,KY tyT gl fr st fn.results.toList)]⟩ st ⟨1,[(0,r)]⟩ st')=true:=by kernel_rfl)
  (hl:wkL R ⟨1,[(0,r)]⟩ st'=wkR R ⟨1,[(0,KY tyT gl fr st fn.results.toList)]⟩ st ⟨1,[(0,r)]⟩ st':=by kernel_rfl):Xi Tryz.prog gl s0 fn (Out r st') .normal fr st:=rno R hb hl
theorem keT {R:Ren} (_:Tg R) (hb:tr tyT gl ops i x s0 R fr' st'=true:=by kernel_rfl) (he:wkL R fr' st'=tV tyT gl ops i x R fr' st':=by kernel_rfl):xS Tryz.prog gl ops i x (toW s0 fr' st'):=kE R hb he
theorem rJ {P:Prop} (R:Ren) (q:Tg R→P:=by intro t h; cases h; exact rtT t):P:=q .mk
theorem nJ {P:Prop} (R:Ren) (q:Tg R→P:=by intro t h; cases h; exact rnT t):P:=q .mk
theorem eJ {P:Prop} (R:Ren) (q:Tg R→P:=by intro t h; cases h; exact keT t):P:=q .mk
theorem nEL {α:Type} {r:α}:Im ((none:Option α)=some r) (Q):=fun h=>nomatch h
theorem hvL {R Y Z:Type} {o:Ctl R Y} {g:R→Option Z} {x:R} {r:Z} (hr:∀x,o= .ret x→g x=some r) (t:Im (g x=some r) (Q)):Im (some (.ret x)=some o) (Q):=fun h=>t (hr _ (sI h))
theorem rgL (h2:Im (p) (zt Tryz.prog gl s0 (c::cs) AQ (Yu tyT gl ops 0 (fr,st)).1 (Yu tyT gl ops 0 (fr,st)).2)) (hb:Vt tyT gl ops 0 (fr,st)=true:=by kernel_rfl):Im (p) (zt Tryz.prog gl s0 (.region id ops false::c::cs) AQ fr st):=fun k=>rg (h2 k) hb
theorem yl (hcl:Cl s0 (AQ .normal)) (h2:Im (p) (AQ .normal (Yu tyT gl ops 0 (fr,st)).1 (Yu tyT gl ops 0 (fr,st)).2)) (hb:Vt tyT gl ops 0 (fr,st)=true:=by kernel_rfl):Im (p) (zt Tryz.prog gl s0 [.region id ops false] AQ fr st):=fun k=>rgN hcl (h2 k) hb
theorem rCL {y:Cfg} (h:Im (True) (xS Tryz.prog gl ops 0 (fr,st) (toW s0 y.1 y.2))) (h2:Im (p) (zt Tryz.prog gl s0 (c::cs) AQ y.1 y.2)):Im (p) (zt Tryz.prog gl s0 (.region id ops false::c::cs) AQ fr st):=fun k=>rC (h trivial) (h2 k)
theorem wO {y:Cfg} (hcl:Cl s0 (AQ .normal)) (h:Im (True) (xS Tryz.prog gl ops 0 (fr,st) (toW s0 y.1 y.2))) (h2:Im (p) (AQ .normal y.1 y.2)):Im (p) (zt Tryz.prog gl s0 [.region id ops false] AQ fr st):=fun k=>rCN hcl (h trivial) (h2 k)
theorem edL (hb:Vt tyT gl ops i x=true:=by kernel_rfl):Im (p) (xS Tryz.prog gl ops i x (toW s0 (Yu tyT gl ops i x).1 (Yu tyT gl ops i x).2)):=fun _=>ed hb
theorem kPL (k:Nat) {q:Option V} {v:V} (hq:q=some v) (h:Im (p) (xS Tryz.prog gl ops (k+1) (XH (kl tyT gl ops i k x) (xZ ops k) v) K)) (hik:Nat.ble i k=true:=by kernel_rfl) (he:Xa tyT gl ops i k x=Zw q (kl tyT gl ops i k x).2:=by kernel_rfl):Im (p) (xS Tryz.prog gl ops i x K):=fun z=>kP k hq (h z) hik he
theorem kCL (k:Nat) (R:Ren) {f:FuncId} {args1:List V} {st1 st1':St} {r:V} (hc:uR Tryz.prog gl f args1 st1 (Out r st1')) (h:Im (p) (xS Tryz.prog gl ops (k+1) (gj (kl tyT gl ops i k x) (xZ ops k) (V.ren R r) (fun st=>St.after R st st1')) K)) (hb:goB tyT gl ops i k x R f args1 st1=true:=by kernel_rfl) (he:Kd R st1 args1=goR tyT gl ops i k x R args1 st1:=by kernel_rfl):Im (p) (xS Tryz.prog gl ops i x K):=fun z=>kC k R hc (h z) hb he
theorem gFL {α:Type} (k d:Nat) {b:Bool} {a a':Option α} {r:α} (ht:Im (a=some r) (xS Tryz.prog gl ops k (XH (kl tyT gl ops i k x) (some d) (.bool true)) K)) (hf:Im (a'=some r) (xS Tryz.prog gl ops k (XH (kl tyT gl ops i k x) (some d) (.bool false)) K)) (hik:Nat.ble i k=true:=by kernel_rfl) (he:BI tyT gl ops i k x=some (d, .bool b):=by kernel_rfl):Im ((if b=true then a else a')=some r) (xS Tryz.prog gl ops i x K):=fun h=>gF k d h ht hf hik he
theorem kFL {α:Type} {t:Bool} {A B:Option α} {r:α} (h1:t=true→Im (A=some r) (Q)) (h2:t=false→Im (B=some r) (Q)):Im ((if t=true then A else B)=some r) (Q):=fun h=>kF h h1 h2
theorem bFL {α:Type} {q:Operand} {x y:Code} {t:Bool} {a b:Option α} {r:α} (h1:Im (a=some r) (zt Tryz.prog gl s0 (flat x cs) AQ fr st)) (h2:Im (b=some r) (zt Tryz.prog gl s0 (flat y cs) AQ fr st)) (hc:fr.eval q= .bool t:=by kernel_rfl):Im ((if t=true then a else b)=some r) (zt Tryz.prog gl s0 (.cond q x y::cs) AQ fr st):=fun h=>bF h (fun k=>pV _ (h1 k)) (fun k=>pV _ (h2 k)) hc
theorem bTL {q:Operand} {x y:Code} (h1:Im (p) (zt Tryz.prog gl s0 (flat x cs) AQ fr st)) (hc:fr.eval q= .bool true:=by kernel_rfl):Im (p) (zt Tryz.prog gl s0 (.cond q x y::cs) AQ fr st):=fun k=>bT (pV _ (h1 k)) hc
theorem bNL {q:Operand} {x y:Code} (h1:Im (p) (zt Tryz.prog gl s0 (flat y cs) AQ fr st)) (hc:fr.eval q= .bool false:=by kernel_rfl):Im (p) (zt Tryz.prog gl s0 (.cond q x y::cs) AQ fr st):=fun k=>bN (pV _ (h1 k)) hc
theorem rgF {a:Prop} (k:a) (fr':AFr) (st':St) (h:Im (a) (xS Tryz.prog gl ops 0 (fr,st) (toW s0 fr' st'))) (h2:Im (p) (zt Tryz.prog gl s0 (c::cs) AQ fr' st')):Im (p) (zt Tryz.prog gl s0 (.region id ops false::c::cs) AQ fr st):=fun z=>reg fr' st' (h k) (h2 z)
theorem BW {a:Prop} (k:a) (hcl:Cl s0 (AQ .normal)) (fr':AFr) (st':St) (h:Im (a) (xS Tryz.prog gl ops 0 (fr,st) (toW s0 fr' st'))) (h2:Im (p) (AQ .normal fr' st')):Im (p) (zt Tryz.prog gl s0 [.region id ops false] AQ fr st):=fun z=>zeP fr' st' hcl (h k) (h2 z)
theorem zp (h:Im (p) (zt Tryz.prog gl s0 (flat c []) (pU id (un (zt Tryz.prog gl s0 cs AQ) AQ)) fr st)):Im (p) (zt Tryz.prog gl s0 (.block id c::cs) AQ fr st):=fun k=>lT (pV _ (h k))
theorem sr (h:Im (p) (zt Tryz.prog gl s0 (flat c []) (noG (un (zt Tryz.prog gl s0 cs AQ) AQ)) fr st)):Im (p) (zt Tryz.prog gl s0 (.scope c::cs) AQ fr st):=fun k=>s8 (pV _ (h k))
theorem sO {n:Nat} (h:Im (p) (zt Tryz.prog gl s0 (flat c []) (un (du Tryz.prog gl s0 c AQ n) AQ) fr st)):Im (p) (du Tryz.prog gl s0 c AQ (n+1) fr st):=fun k=>te (pV _ (h k))
theorem GN {n:Nat} (h:Im (p) (zt Tryz.prog gl s0 (flat c []) (un (du Tryz.prog gl s0 c AQ n) AQ) fr st)):Im (p) (un (du Tryz.prog gl s0 c AQ (n+1)) AQ .normal fr st):=fun k=>oK (pV _ (h k))
theorem yu (h:Im (p) (AQ .ret fr st)):Im (p) (zt Tryz.prog gl s0 (.ret::cs) AQ fr st):=fun k=>zap (h k)
theorem bz (h:Im (p) (AQ (.exit id) fr st)):Im (p) (zt Tryz.prog gl s0 (.exit id::cs) AQ fr st):=fun k=>zbk (h k)
theorem rY {l:Nat} (h:Im (p) (zt Tryz.prog gl s0 cs AQ fr st)):Im (p) (zt Tryz.prog gl s0 (.label l::cs) AQ fr st):=fun k=>tw (h k)
theorem xR (hw:Wk s0 fr st fr' st') (h:Im (p) (zt Tryz.prog gl s0 (c::cs) AQ fr' st')):Im (p) (zt Tryz.prog gl s0 (c::cs) AQ fr st):=fun k=>zeF hw (h k)
theorem Xn (h:Im (p) (AQ (.exit id) fr st)):Im (p) (un K AQ (.exit id) fr st):=h
theorem wx (h:Im (p) (AQ .ret fr st)):Im (p) (un K AQ .ret fr st):=h
theorem yO (h:Im (p) (AQ .ret fr st)):Im (p) (pU id (un K AQ) .ret fr st):=h
theorem zq (h:Im (p) (K fr st)):Im (p) (pU id (un K AQ) .normal fr st):=h
theorem VG (h:Im (p) (K fr st)):Im (p) (pU id (un K AQ) (.exit id) fr st):=fun k=>tU (h k)
theorem gG {id':Nat} (h:Im (p) (AQ (.exit id') fr st)) (hne:Nat.beq id' id=false:=by kernel_rfl):Im (p) (pU id (un K AQ) (.exit id') fr st):=fun k=>sT hne (h k)
theorem yi {Y:Type} {F:Y→AFr} {S:Y→St} {L:Y→Prop} (h:Im (p) (AQ .ret fr st)):Im (p) (dH s0 id F S L AQ .ret fr st):=h
theorem db {Y:Type} {F:Y→AFr} {S:Y→St} {L:Y→Prop} (h:Im (p) (ZK s0 F S L fr st)):Im (p) (dH s0 id F S L AQ (.exit id) fr st):=fun k=>zab (h k)
theorem jnL {Y:Type} {F:Y→AFr} {S:Y→St} {v y:Y} (R:Ren) (hb:wkB s0 R fr st (F v) (S v)=true:=by kernel_rfl) (he:wkL R (F v) (S v)=wkR R fr st (F v) (S v):=by kernel_rfl):Im (some v=some y) (ZK s0 F S (fun z=>y=z) fr st):=fun h=>⟨v,sI h,Wk.gen R hb he⟩
theorem jCL {Z Y:Type} {F:Y→AFr} {S:Y→St} {v:Y} {o:Ctl Z Y} (R:Ren) (hb:wkB s0 R fr st (F v) (S v)=true:=by kernel_rfl) (he:wkL R (F v) (S v)=wkR R fr st (F v) (S v):=by kernel_rfl):Im (some (.nxt v)=some o) (ZK s0 F S (fun z=>o= .nxt z) fr st):=fun h=>⟨v,sI h,Wk.gen R hb he⟩
theorem lpL {X Y:Type} (g:Nat→X→Option Y) {o:Y} {n:Nat} (x0:X) (R:Ren) (F:X→AFr) (S:X→St) (round:∀k x,Im (g (k+1) x=some o) (zt Tryz.prog gl s0 (flat c []) (un (ZK s0 F S (fun x=>g k x=some o)) AQ) (F x) (S x))) (h0:∀x,g 0 x=none:=by intro _; rfl) (hb:wkB s0 R fr st (F x0) (S x0)=true:=by kernel_rfl) (he:wkL R (F x0) (S x0)=wkR R fr st (F x0) (S x0):=by kernel_rfl):Im (g n x0=some o) (zt Tryz.prog gl s0 (.loop c::cs) AQ fr st):=
 fun h=>zaK F S (fun k x=>g k x=some o) (fun x hx=>by rw [h0]at hx; cases hx) n x0 h (Wk.gen R hb he) fun k x h=>pV _ (round k x h)
theorem cuL {Y Z:Type} {o:Option Y} {f:Y→Option Z} {r:Z} (F:Y→AFr) (S:Y→St) (h1:∀y,Im (o=some y) (zt Tryz.prog gl s0 [c] (un (ZK s0 F S (fun z=>y=z)) AQ) fr st)) (h2:∀y,Im (f y=some r) (zt Tryz.prog gl s0 (d::cs) AQ (F y) (S y))):Im (o.bind f=some r) (zt Tryz.prog gl s0 (c::d::cs) AQ fr st):=fun h=>cuE h F S h1 h2
theorem blL {Y Z:Type} {o:Option Y} {f:Y→Option Z} {r:Z} (F:Y→AFr) (S:Y→St) (h1:∀y,Im (o=some y) (zt Tryz.prog gl s0 (flat c []) (dH s0 id F S (fun z=>y=z) AQ) fr st)) (h2:∀y,Im (f y=some r) (zt Tryz.prog gl s0 (d::cs) AQ (F y) (S y))):Im (o.bind f=some r) (zt Tryz.prog gl s0 (.block id c::d::cs) AQ fr st):=fun h=>blE h F S (fun y k=>pV _ (h1 y k)) h2
theorem ccL {R Y Z:Type} {o:Option (Ctl R Y)} {g:R→Option Z} {f:Y→Option Z} {r:Z} (F:Y→AFr) (S:Y→St) (h1:∀y,(∀x,y= .ret x→g x=some r)→Im (o=some y) (zt Tryz.prog gl s0 [c] (un (ZK s0 F S (fun z=>y= .nxt z)) AQ) fr st)) (h2:∀y,Im (f y=some r) (zt Tryz.prog gl s0 (d::cs) AQ (F y) (S y))):Im (z8 o g f=some r) (zt Tryz.prog gl s0 (c::d::cs) AQ fr st):=fun h=>cuC h F S (fun y k e=>h1 y e k) h2
theorem bcL {R Y Z:Type} {o:Option (Ctl R Y)} {g:R→Option Z} {f:Y→Option Z} {r:Z} (F:Y→AFr) (S:Y→St) (h1:∀y,(∀x,y= .ret x→g x=some r)→Im (o=some y) (zt Tryz.prog gl s0 (flat c []) (dH s0 id F S (fun z=>y= .nxt z) AQ) fr st)) (h2:∀y,Im (f y=some r) (zt Tryz.prog gl s0 (d::cs) AQ (F y) (S y))):Im (z8 o g f=some r) (zt Tryz.prog gl s0 (.block id c::d::cs) AQ fr st):=fun h=>blC h F S (fun y k e=>pV _ (h1 y e k)) h2
theorem nV {R Y Z:Type} {o:Option (Ctl R Y)} {g:R→Option Z} {f:Y→Option Z} {r:Z} (hcl:Cl s0 (AQ .normal)) (F:Y→AFr) (S:Y→St) (h1:∀y,(∀x,y= .ret x→g x=some r)→Im (o=some y) (zt Tryz.prog gl s0 (flat c []) (dH s0 id F S (fun z=>y= .nxt z) AQ) fr st)) (h2:∀y,Im (f y=some r) (AQ .normal (F y) (S y))):Im (z8 o g f=some r) (zt Tryz.prog gl s0 [.block id c] AQ fr st):=fun h=>zd8 h hcl F S (fun y k e=>pV _ (h1 y e k)) h2
end
end Go.Abs
end
