/- The program's types and functions in the abstract reading, its records as Lean structures, and the contracts of library functions. -/
import Derived.Test.YtbggpcnbbhjiaaaGreatDoorS
set_option linter.unusedVariables false
set_option linter.unusedSimpArgs false
set_option linter.unnecessarySimpa false
section
namespace Go.Abs
open Go Go.Proofs
def ty0 : TI := ⟨true, 1, 0, .flat, (.tuple []), true, []⟩
def ty2 : TI := ⟨true, 1, 8, (.int .i64), (.int .i64 0), true, []⟩
def ty3 : TI := ⟨true, 1, 8, (.int .i64), (.int .i64 0), true, []⟩
def ty4 : TI := ⟨true, 1, 1, .bool, (.bool false), true, []⟩
def ty5 : TI := ⟨true, 1, 1, (.int .u8), (.int .u8 0), true, []⟩
def ty6 : TI := ⟨true, 1, 1, (.int .u8), (.int .u8 0), true, []⟩
def ty7 : TI := ⟨true, 4, 24, (.struct [(0, 1), (1, 1), (2, 1), (3, 1)]), (.agg [(.int .i64 0), (.int .i64 0), (.bool false), (.int .u8 0)]), true, [2, 3, 4, 6]⟩
def ty8 : TI := ⟨true, 4, 24, (.struct [(0, 1), (1, 1), (2, 1), (3, 1)]), (.agg [(.int .i64 0), (.int .i64 0), (.bool false), (.int .u8 0)]), true, [2, 3, 4, 6]⟩
def ty9 : TI := ⟨true, 1, 16, .str, (.str []), true, []⟩
def ty10 : TI := ⟨true, 1, 16, .str, (.str []), true, []⟩
def ty11 : TI := ⟨true, 1, 16, .str, (.str []), true, []⟩
def ty12 : TI := ⟨true, 1, 8, (.int .u64), (.int .u64 0), true, []⟩
def ty13 : TI := ⟨true, 2, 24, (.struct [(0, 1), (1, 1)]), (.agg [(.str []), (.int .u64 0)]), true, [9, 12]⟩
def ty14 : TI := ⟨true, 2, 24, (.struct [(0, 1), (1, 1)]), (.agg [(.str []), (.int .u64 0)]), true, [9, 12]⟩
def ty15 : TI := ⟨true, 1, 8, (.ptr 319), .nilp, true, []⟩
def ty16 : TI := ⟨true, 1, 8, (.ptr 322), .nilp, true, []⟩
def ty17 : TI := ⟨true, 1, 8, (.ptr 330), .nilp, true, []⟩
def ty18 : TI := ⟨true, 1, 8, (.struct [(0, 1)]), (.agg [.nilp]), true, [17]⟩
def ty19 : TI := ⟨true, 1, 8, (.struct [(0, 1)]), (.agg [.nilp]), true, [17]⟩
def ty21 : TI := ⟨true, 1, 4, (.int .i32), (.int .i32 0), true, []⟩
def ty22 : TI := ⟨true, 1, 24, (.slice 3 1 8), .nilsl, true, []⟩
def ty23 : TI := ⟨true, 1, 24, (.slice 9 1 16), .nilsl, true, []⟩
def ty24 : TI := ⟨true, 1, 24, (.slice 59 3 48), .nilsl, true, []⟩
def ty25 : TI := ⟨true, 1, 24, (.slice 68 4 64), .nilsl, true, []⟩
def ty26 : TI := ⟨true, 11, 128, (.struct [(0, 1), (1, 1), (2, 1), (3, 1), (4, 1), (5, 1), (6, 1), (7, 1), (8, 1), (9, 1), (10, 1)]), (.agg [(.int .i64 0), (.str []), (.int .i64 0), .nilsl, (.bool false), (.bool false), (.bool false), .nilsl, (.int .i64 0), (.bool false), .nilsl]), true, [3, 9, 3, 23, 4, 4, 4, 24, 3, 4, 25]⟩
def ty27 : TI := ⟨true, 11, 128, (.struct [(0, 1), (1, 1), (2, 1), (3, 1), (4, 1), (5, 1), (6, 1), (7, 1), (8, 1), (9, 1), (10, 1)]), (.agg [(.int .i64 0), (.str []), (.int .i64 0), .nilsl, (.bool false), (.bool false), (.bool false), .nilsl, (.int .i64 0), (.bool false), .nilsl]), true, [3, 9, 3, 23, 4, 4, 4, 24, 3, 4, 25]⟩
def ty31 : TI := ⟨true, 1, 8, (.ptr 78), .nilp, true, []⟩
def ty33 : TI := ⟨true, 1, 8, (.int .i64), (.int .i64 0), true, []⟩
def ty34 : TI := ⟨true, 1, 0, .flat, (.tuple [(.str []), (.int .i64 0)]), true, []⟩
def ty42 : TI := ⟨true, 3, 40, (.struct [(0, 1), (1, 1), (2, 1)]), (.agg [(.int .i64 0), (.int .i64 0), .nilsl]), true, [3, 3, 23]⟩
def ty43 : TI := ⟨true, 3, 40, (.struct [(0, 1), (1, 1), (2, 1)]), (.agg [(.int .i64 0), (.int .i64 0), .nilsl]), true, [3, 3, 23]⟩
def ty44 : TI := ⟨true, 5, 72, (.struct [(0, 1), (1, 1), (2, 3)]), (.agg [(.int .i64 0), .nilsl, (.int .i64 0), (.int .i64 0), .nilsl]), true, [3, 22, 43]⟩
def ty45 : TI := ⟨true, 5, 72, (.struct [(0, 1), (1, 1), (2, 3)]), (.agg [(.int .i64 0), .nilsl, (.int .i64 0), (.int .i64 0), .nilsl]), true, [3, 22, 43]⟩
def ty55 : TI := ⟨true, 1, 24, (.slice 141 1 24), .nilsl, true, []⟩
def ty56 : TI := ⟨true, 1, 24, (.struct [(0, 1)]), (.agg [.nilsl]), true, [55]⟩
def ty57 : TI := ⟨true, 1, 24, (.struct [(0, 1)]), (.agg [.nilsl]), true, [55]⟩
def ty58 : TI := ⟨true, 3, 48, (.struct [(0, 1), (1, 1), (2, 1)]), (.agg [(.int .i64 0), (.str []), .nilsl]), true, [3, 9, 57]⟩
def ty59 : TI := ⟨true, 3, 48, (.struct [(0, 1), (1, 1), (2, 1)]), (.agg [(.int .i64 0), (.str []), .nilsl]), true, [3, 9, 57]⟩
def ty61 : TI := ⟨true, 1, 24, (.slice 27 11 128), .nilsl, true, []⟩
def ty64 : TI := ⟨true, 3, 40, (.struct [(0, 1), (1, 1), (2, 1)]), (.agg [(.int .i64 0), (.str []), (.str [])]), true, [3, 9, 9]⟩
def ty65 : TI := ⟨true, 3, 40, (.struct [(0, 1), (1, 1), (2, 1)]), (.agg [(.int .i64 0), (.str []), (.str [])]), true, [3, 9, 9]⟩
def ty67 : TI := ⟨true, 4, 64, (.struct [(0, 1), (1, 3)]), (.agg [.nilsl, (.int .i64 0), (.str []), (.str [])]), true, [57, 65]⟩
def ty68 : TI := ⟨true, 4, 64, (.struct [(0, 1), (1, 3)]), (.agg [.nilsl, (.int .i64 0), (.str []), (.str [])]), true, [57, 65]⟩
def ty71 : TI := ⟨true, 1, 0, .flat, (.tuple [.nilsl, (.int .i64 0)]), true, []⟩
def ty77 : TI := ⟨true, 2, 32, (.struct [(0, 1), (1, 1)]), (.agg [.nilsl, (.int .i64 0)]), true, [22, 3]⟩
def ty78 : TI := ⟨true, 2, 32, (.struct [(0, 1), (1, 1)]), (.agg [.nilsl, (.int .i64 0)]), true, [22, 3]⟩
def ty80 : TI := ⟨true, 2, 24, (.struct [(0, 1), (1, 1)]), (.agg [(.str []), (.int .i64 0)]), true, [9, 33]⟩
def ty81 : TI := ⟨true, 2, 24, (.struct [(0, 1), (1, 1)]), (.agg [(.str []), (.int .i64 0)]), true, [9, 33]⟩
def ty87 : TI := ⟨true, 1, 8, (.ptr 81), .nilp, true, []⟩
def ty101 : TI := ⟨true, 1, 24, (.slice 5 1 1), .nilsl, true, []⟩
def ty102 : TI := ⟨true, 3, 40, (.struct [(0, 1), (1, 1), (2, 1)]), (.agg [(.int .i64 0), (.str []), (.str [])]), true, [3, 9, 9]⟩
def ty103 : TI := ⟨true, 3, 40, (.struct [(0, 1), (1, 1), (2, 1)]), (.agg [(.int .i64 0), (.str []), (.str [])]), true, [3, 9, 9]⟩
def ty106 : TI := ⟨true, 1, 24, (.slice 103 3 40), .nilsl, true, []⟩
def ty107 : TI := ⟨true, 1, 0, .flat, (.tuple [.nilsl, (.int .i64 0)]), true, []⟩
def ty112 : TI := ⟨true, 1, 8, (.ptr 148), .nilp, true, []⟩
def ty113 : TI := ⟨true, 1, 8, (.ptr 116), .nilp, true, []⟩
def ty115 : TI := ⟨true, 3, 40, (.struct [(0, 1), (1, 1), (2, 1)]), (.agg [.nilsl, (.int .i64 0), (.bool false)]), true, [106, 3, 4]⟩
def ty116 : TI := ⟨true, 3, 40, (.struct [(0, 1), (1, 1), (2, 1)]), (.agg [.nilsl, (.int .i64 0), (.bool false)]), true, [106, 3, 4]⟩
def ty117 : TI := ⟨true, 1, 0, .flat, (.tuple [(.int .i64 0), (.int .i64 0)]), true, []⟩
def ty124 : TI := ⟨true, 1, 0, .flat, (.tuple [.nilsl, (.int .i64 0)]), true, []⟩
def ty139 : TI := ⟨true, 3, 40, (.struct [(0, 1), (1, 1), (2, 1)]), (.agg [(.str []), (.int .i64 0), (.str [])]), true, [9, 3, 9]⟩
def ty140 : TI := ⟨true, 3, 40, (.struct [(0, 1), (1, 1), (2, 1)]), (.agg [(.str []), (.int .i64 0), (.str [])]), true, [9, 3, 9]⟩
def ty141 : TI := ⟨true, 1, 24, (.slice 140 3 40), .nilsl, true, []⟩
def ty147 : TI := ⟨true, 2, 32, (.struct [(0, 1), (1, 1)]), (.agg [.nilsl, (.bool false)]), true, [106, 4]⟩
def ty148 : TI := ⟨true, 2, 32, (.struct [(0, 1), (1, 1)]), (.agg [.nilsl, (.bool false)]), true, [106, 4]⟩
def ty157 : TI := ⟨true, 6, 48, (.struct [(0, 1), (1, 1), (2, 1), (3, 1), (4, 1), (5, 1)]), (.agg [(.int .i64 0), (.int .i64 0), (.int .i64 0), (.int .i64 0), (.int .i64 0), (.int .i64 0)]), true, [3, 3, 3, 3, 3, 3]⟩
def ty158 : TI := ⟨true, 6, 48, (.struct [(0, 1), (1, 1), (2, 1), (3, 1), (4, 1), (5, 1)]), (.agg [(.int .i64 0), (.int .i64 0), (.int .i64 0), (.int .i64 0), (.int .i64 0), (.int .i64 0)]), true, [3, 3, 3, 3, 3, 3]⟩
def ty164 : TI := ⟨true, 1, 8, (.int .u64), (.int .u64 0), true, []⟩
def ty171 : TI := ⟨true, 1, 0, .flat, (.tuple [.nilsl, (.bool false)]), true, []⟩
def ty184 : TI := ⟨true, 1, 0, .flat, (.tuple [(.str []), (.int .i64 0), (.int .i64 0)]), true, []⟩
def ty192 : TI := ⟨true, 1, 8, (.int .u64), (.int .u64 0), true, []⟩
def ty200 : TI := ⟨true, 1, 8, (.int .i64), (.int .i64 0), true, []⟩
def ty211 : TI := ⟨true, 1, 0, .flat, (.tuple [(.bool false), (.int .i64 0)]), true, []⟩
def ty213 : TI := ⟨true, 2, 32, (.struct [(0, 1), (1, 1)]), (.agg [.nilsl, (.int .i64 0)]), true, [106, 3]⟩
def ty214 : TI := ⟨true, 2, 32, (.struct [(0, 1), (1, 1)]), (.agg [.nilsl, (.int .i64 0)]), true, [106, 3]⟩
def ty223 : TI := ⟨true, 1, 4, (.int .u32), (.int .u32 0), true, []⟩
def ty224 : TI := ⟨true, 1, 24, (.slice 223 1 4), .nilsl, true, []⟩
def ty228 : TI := ⟨true, 1, 0, .flat, (.tuple [.nilsl, (.int .i64 0)]), true, []⟩
def ty230 : TI := ⟨true, 3, 40, (.struct [(0, 3)]), (.agg [(.int .i64 0), (.str []), (.str [])]), true, [65]⟩
def ty231 : TI := ⟨true, 3, 40, (.struct [(0, 3)]), (.agg [(.int .i64 0), (.str []), (.str [])]), true, [65]⟩
def ty233 : TI := ⟨true, 1, 8, (.ptr 231), .nilp, true, []⟩
def ty234 : TI := ⟨true, 1, 24, (.slice 232 1 8), .nilsl, true, []⟩
def ty236 : TI := ⟨true, 1, 24, (.slice 23 1 24), .nilsl, true, []⟩
def ty237 : TI := ⟨true, 3, 56, (.struct [(0, 1), (1, 1), (2, 1)]), (.agg [(.str []), (.str []), .nilsl]), true, [9, 9, 236]⟩
def ty238 : TI := ⟨true, 3, 56, (.struct [(0, 1), (1, 1), (2, 1)]), (.agg [(.str []), (.str []), .nilsl]), true, [9, 9, 236]⟩
def ty240 : TI := ⟨true, 12, 96, (.arr 12 1), (.agg [(.int .i64 0), (.int .i64 0), (.int .i64 0), (.int .i64 0), (.int .i64 0), (.int .i64 0), (.int .i64 0), (.int .i64 0), (.int .i64 0), (.int .i64 0), (.int .i64 0), (.int .i64 0)]), true, []⟩
def ty241 : TI := ⟨true, 1, 8, (.ptr 243), .nilp, true, []⟩
def ty242 : TI := ⟨true, 2, 32, (.struct [(0, 1), (1, 1)]), (.agg [.nilp, .nilsl]), true, [241, 101]⟩
def ty243 : TI := ⟨true, 2, 32, (.struct [(0, 1), (1, 1)]), (.agg [.nilp, .nilsl]), true, [241, 101]⟩
def ty249 : TI := ⟨true, 1, 0, .flat, (.tuple [(.str []), (.str []), (.bool false)]), true, []⟩
def ty252 : TI := ⟨true, 1, 1, (.int .i8), (.int .i8 0), true, []⟩
def ty253 : TI := ⟨true, 1, 8, (.ptr 214), .nilp, true, []⟩
def ty254 : TI := ⟨true, 64, 256, (.arr 64 1), (.agg [(.int .u32 0), (.int .u32 0), (.int .u32 0), (.int .u32 0), (.int .u32 0), (.int .u32 0), (.int .u32 0), (.int .u32 0), (.int .u32 0), (.int .u32 0), (.int .u32 0), (.int .u32 0), (.int .u32 0), (.int .u32 0), (.int .u32 0), (.int .u32 0), (.int .u32 0), (.int .u32 0), (.int .u32 0), (.int .u32 0), (.int .u32 0), (.int .u32 0), (.int .u32 0), (.int .u32 0), (.int .u32 0), (.int .u32 0), (.int .u32 0), (.int .u32 0), (.int .u32 0), (.int .u32 0), (.int .u32 0), (.int .u32 0), (.int .u32 0), (.int .u32 0), (.int .u32 0), (.int .u32 0), (.int .u32 0), (.int .u32 0), (.int .u32 0), (.int .u32 0), (.int .u32 0), (.int .u32 0), (.int .u32 0), (.int .u32 0), (.int .u32 0), (.int .u32 0), (.int .u32 0), (.int .u32 0), (.int .u32 0), (.int .u32 0), (.int .u32 0), (.int .u32 0), (.int .u32 0), (.int .u32 0), (.int .u32 0), (.int .u32 0), (.int .u32 0), (.int .u32 0), (.int .u32 0), (.int .u32 0), (.int .u32 0), (.int .u32 0), (.int .u32 0), (.int .u32 0)]), true, []⟩
def ty262 : TI := ⟨true, 1, 0, .flat, (.tuple [(.str []), (.bool false)]), true, []⟩
def ty265 : TI := ⟨true, 1, 0, .flat, (.tuple [(.str []), (.str [])]), true, []⟩
def ty267 : TI := ⟨true, 1, 8, (.ptr 5), .nilp, true, []⟩
def ty274 : TI := ⟨true, 1, 8, .flat, .nilp, true, []⟩
def ty277 : TI := ⟨true, 1, 0, .flat, (.tuple [(.int .i32 0), (.int .i64 0)]), true, []⟩
def ty279 : TI := ⟨true, 24, 24, (.arr 24 1), (.agg [(.int .u8 0), (.int .u8 0), (.int .u8 0), (.int .u8 0), (.int .u8 0), (.int .u8 0), (.int .u8 0), (.int .u8 0), (.int .u8 0), (.int .u8 0), (.int .u8 0), (.int .u8 0), (.int .u8 0), (.int .u8 0), (.int .u8 0), (.int .u8 0), (.int .u8 0), (.int .u8 0), (.int .u8 0), (.int .u8 0), (.int .u8 0), (.int .u8 0), (.int .u8 0), (.int .u8 0)]), true, []⟩
def ty282 : TI := ⟨true, 1, 0, .flat, (.tuple [.nilsl, (.str [])]), true, []⟩
def ty288 : TI := ⟨true, 20, 160, (.arr 20 1), (.agg [(.int .u64 0), (.int .u64 0), (.int .u64 0), (.int .u64 0), (.int .u64 0), (.int .u64 0), (.int .u64 0), (.int .u64 0), (.int .u64 0), (.int .u64 0), (.int .u64 0), (.int .u64 0), (.int .u64 0), (.int .u64 0), (.int .u64 0), (.int .u64 0), (.int .u64 0), (.int .u64 0), (.int .u64 0), (.int .u64 0)]), true, []⟩
def ty289 : TI := ⟨true, 65, 65, (.arr 65 1), (.agg [(.int .u8 0), (.int .u8 0), (.int .u8 0), (.int .u8 0), (.int .u8 0), (.int .u8 0), (.int .u8 0), (.int .u8 0), (.int .u8 0), (.int .u8 0), (.int .u8 0), (.int .u8 0), (.int .u8 0), (.int .u8 0), (.int .u8 0), (.int .u8 0), (.int .u8 0), (.int .u8 0), (.int .u8 0), (.int .u8 0), (.int .u8 0), (.int .u8 0), (.int .u8 0), (.int .u8 0), (.int .u8 0), (.int .u8 0), (.int .u8 0), (.int .u8 0), (.int .u8 0), (.int .u8 0), (.int .u8 0), (.int .u8 0), (.int .u8 0), (.int .u8 0), (.int .u8 0), (.int .u8 0), (.int .u8 0), (.int .u8 0), (.int .u8 0), (.int .u8 0), (.int .u8 0), (.int .u8 0), (.int .u8 0), (.int .u8 0), (.int .u8 0), (.int .u8 0), (.int .u8 0), (.int .u8 0), (.int .u8 0), (.int .u8 0), (.int .u8 0), (.int .u8 0), (.int .u8 0), (.int .u8 0), (.int .u8 0), (.int .u8 0), (.int .u8 0), (.int .u8 0), (.int .u8 0), (.int .u8 0), (.int .u8 0), (.int .u8 0), (.int .u8 0), (.int .u8 0), (.int .u8 0)]), true, []⟩
def ty291 : TI := ⟨true, 1, 8, (.int .i64), (.int .i64 0), true, []⟩
def ty292 : TI := ⟨true, 1, 0, .flat, (.tuple [(.int .i64 0), (.int .i64 0)]), true, []⟩
def ty295 : TI := ⟨true, 1, 0, .flat, (.tuple [(.int .i64 0), (.bool false)]), true, []⟩
def ty301 : TI := ⟨true, 256, 256, (.arr 256 1), (.agg [(.int .u8 0), (.int .u8 0), (.int .u8 0), (.int .u8 0), (.int .u8 0), (.int .u8 0), (.int .u8 0), (.int .u8 0), (.int .u8 0), (.int .u8 0), (.int .u8 0), (.int .u8 0), (.int .u8 0), (.int .u8 0), (.int .u8 0), (.int .u8 0), (.int .u8 0), (.int .u8 0), (.int .u8 0), (.int .u8 0), (.int .u8 0), (.int .u8 0), (.int .u8 0), (.int .u8 0), (.int .u8 0), (.int .u8 0), (.int .u8 0), (.int .u8 0), (.int .u8 0), (.int .u8 0), (.int .u8 0), (.int .u8 0), (.int .u8 0), (.int .u8 0), (.int .u8 0), (.int .u8 0), (.int .u8 0), (.int .u8 0), (.int .u8 0), (.int .u8 0), (.int .u8 0), (.int .u8 0), (.int .u8 0), (.int .u8 0), (.int .u8 0), (.int .u8 0), (.int .u8 0), (.int .u8 0), (.int .u8 0), (.int .u8 0), (.int .u8 0), (.int .u8 0), (.int .u8 0), (.int .u8 0), (.int .u8 0), (.int .u8 0), (.int .u8 0), (.int .u8 0), (.int .u8 0), (.int .u8 0), (.int .u8 0), (.int .u8 0), (.int .u8 0), (.int .u8 0), (.int .u8 0), (.int .u8 0), (.int .u8 0), (.int .u8 0), (.int .u8 0), (.int .u8 0), (.int .u8 0), (.int .u8 0), (.int .u8 0), (.int .u8 0), (.int .u8 0), (.int .u8 0), (.int .u8 0), (.int .u8 0), (.int .u8 0), (.int .u8 0), (.int .u8 0), (.int .u8 0), (.int .u8 0), (.int .u8 0), (.int .u8 0), (.int .u8 0), (.int .u8 0), (.int .u8 0), (.int .u8 0), (.int .u8 0), (.int .u8 0), (.int .u8 0), (.int .u8 0), (.int .u8 0), (.int .u8 0), (.int .u8 0), (.int .u8 0), (.int .u8 0), (.int .u8 0), (.int .u8 0), (.int .u8 0), (.int .u8 0), (.int .u8 0), (.int .u8 0), (.int .u8 0), (.int .u8 0), (.int .u8 0), (.int .u8 0), (.int .u8 0), (.int .u8 0), (.int .u8 0), (.int .u8 0), (.int .u8 0), (.int .u8 0), (.int .u8 0), (.int .u8 0), (.int .u8 0), (.int .u8 0), (.int .u8 0), (.int .u8 0), (.int .u8 0), (.int .u8 0), (.int .u8 0), (.int .u8 0), (.int .u8 0), (.int .u8 0), (.int .u8 0), (.int .u8 0), (.int .u8 0), (.int .u8 0), (.int .u8 0), (.int .u8 0), (.int .u8 0), (.int .u8 0), (.int .u8 0), (.int .u8 0), (.int .u8 0), (.int .u8 0), (.int .u8 0), (.int .u8 0), (.int .u8 0), (.int .u8 0), (.int .u8 0), (.int .u8 0), (.int .u8 0), (.int .u8 0), (.int .u8 0), (.int .u8 0), (.int .u8 0), (.int .u8 0), (.int .u8 0), (.int .u8 0), (.int .u8 0), (.int .u8 0), (.int .u8 0), (.int .u8 0), (.int .u8 0), (.int .u8 0), (.int .u8 0), (.int .u8 0), (.int .u8 0), (.int .u8 0), (.int .u8 0), (.int .u8 0), (.int .u8 0), (.int .u8 0), (.int .u8 0), (.int .u8 0), (.int .u8 0), (.int .u8 0), (.int .u8 0), (.int .u8 0), (.int .u8 0), (.int .u8 0), (.int .u8 0), (.int .u8 0), (.int .u8 0), (.int .u8 0), (.int .u8 0), (.int .u8 0), (.int .u8 0), (.int .u8 0), (.int .u8 0), (.int .u8 0), (.int .u8 0), (.int .u8 0), (.int .u8 0), (.int .u8 0), (.int .u8 0), (.int .u8 0), (.int .u8 0), (.int .u8 0), (.int .u8 0), (.int .u8 0), (.int .u8 0), (.int .u8 0), (.int .u8 0), (.int .u8 0), (.int .u8 0), (.int .u8 0), (.int .u8 0), (.int .u8 0), (.int .u8 0), (.int .u8 0), (.int .u8 0), (.int .u8 0), (.int .u8 0), (.int .u8 0), (.int .u8 0), (.int .u8 0), (.int .u8 0), (.int .u8 0), (.int .u8 0), (.int .u8 0), (.int .u8 0), (.int .u8 0), (.int .u8 0), (.int .u8 0), (.int .u8 0), (.int .u8 0), (.int .u8 0), (.int .u8 0), (.int .u8 0), (.int .u8 0), (.int .u8 0), (.int .u8 0), (.int .u8 0), (.int .u8 0), (.int .u8 0), (.int .u8 0), (.int .u8 0), (.int .u8 0), (.int .u8 0), (.int .u8 0), (.int .u8 0), (.int .u8 0), (.int .u8 0), (.int .u8 0), (.int .u8 0), (.int .u8 0), (.int .u8 0), (.int .u8 0), (.int .u8 0), (.int .u8 0), (.int .u8 0), (.int .u8 0), (.int .u8 0), (.int .u8 0), (.int .u8 0), (.int .u8 0), (.int .u8 0), (.int .u8 0), (.int .u8 0), (.int .u8 0), (.int .u8 0), (.int .u8 0)]), true, []⟩
def ty302 : TI := ⟨true, 2, 2, (.struct [(0, 1), (1, 1)]), (.agg [(.int .u8 0), (.int .u8 0)]), true, [5, 5]⟩
def ty303 : TI := ⟨true, 2, 2, (.struct [(0, 1), (1, 1)]), (.agg [(.int .u8 0), (.int .u8 0)]), true, [5, 5]⟩
def ty304 : TI := ⟨true, 32, 32, (.arr 16 2), (.agg [(.int .u8 0), (.int .u8 0), (.int .u8 0), (.int .u8 0), (.int .u8 0), (.int .u8 0), (.int .u8 0), (.int .u8 0), (.int .u8 0), (.int .u8 0), (.int .u8 0), (.int .u8 0), (.int .u8 0), (.int .u8 0), (.int .u8 0), (.int .u8 0), (.int .u8 0), (.int .u8 0), (.int .u8 0), (.int .u8 0), (.int .u8 0), (.int .u8 0), (.int .u8 0), (.int .u8 0), (.int .u8 0), (.int .u8 0), (.int .u8 0), (.int .u8 0), (.int .u8 0), (.int .u8 0), (.int .u8 0), (.int .u8 0)]), true, []⟩
def ty305 : TI := ⟨true, 1, 0, .flat, (.tuple [(.int .u32 0), (.int .u32 0)]), true, []⟩
def ty307 : TI := ⟨true, 1, 8, (.int .u64), (.int .u64 0), true, []⟩
def ty311 : TI := ⟨true, 1, 8, (.ptr 3), .nilp, true, []⟩
def ty313 : TI := ⟨true, 32, 32, (.arr 32 1), (.agg [(.int .u8 0), (.int .u8 0), (.int .u8 0), (.int .u8 0), (.int .u8 0), (.int .u8 0), (.int .u8 0), (.int .u8 0), (.int .u8 0), (.int .u8 0), (.int .u8 0), (.int .u8 0), (.int .u8 0), (.int .u8 0), (.int .u8 0), (.int .u8 0), (.int .u8 0), (.int .u8 0), (.int .u8 0), (.int .u8 0), (.int .u8 0), (.int .u8 0), (.int .u8 0), (.int .u8 0), (.int .u8 0), (.int .u8 0), (.int .u8 0), (.int .u8 0), (.int .u8 0), (.int .u8 0), (.int .u8 0), (.int .u8 0)]), true, []⟩
def ty314 : TI := ⟨true, 64, 64, (.arr 64 1), (.agg [(.int .u8 0), (.int .u8 0), (.int .u8 0), (.int .u8 0), (.int .u8 0), (.int .u8 0), (.int .u8 0), (.int .u8 0), (.int .u8 0), (.int .u8 0), (.int .u8 0), (.int .u8 0), (.int .u8 0), (.int .u8 0), (.int .u8 0), (.int .u8 0), (.int .u8 0), (.int .u8 0), (.int .u8 0), (.int .u8 0), (.int .u8 0), (.int .u8 0), (.int .u8 0), (.int .u8 0), (.int .u8 0), (.int .u8 0), (.int .u8 0), (.int .u8 0), (.int .u8 0), (.int .u8 0), (.int .u8 0), (.int .u8 0), (.int .u8 0), (.int .u8 0), (.int .u8 0), (.int .u8 0), (.int .u8 0), (.int .u8 0), (.int .u8 0), (.int .u8 0), (.int .u8 0), (.int .u8 0), (.int .u8 0), (.int .u8 0), (.int .u8 0), (.int .u8 0), (.int .u8 0), (.int .u8 0), (.int .u8 0), (.int .u8 0), (.int .u8 0), (.int .u8 0), (.int .u8 0), (.int .u8 0), (.int .u8 0), (.int .u8 0), (.int .u8 0), (.int .u8 0), (.int .u8 0), (.int .u8 0), (.int .u8 0), (.int .u8 0), (.int .u8 0), (.int .u8 0)]), true, []⟩
def ty315 : TI := ⟨true, 1, 8, (.ptr 307), .nilp, true, []⟩
def ty316 : TI := ⟨true, 1, 0, .flat, (.tuple [(.int .i64 0), (.int .i64 0)]), true, []⟩
def ty318 : TI := ⟨true, 4, 40, (.struct [(0, 1), (1, 1), (2, 1), (3, 1)]), (.agg [.nilp, .nilp, .nilp, (.str [])]), true, [17, 17, 17, 9]⟩
def ty319 : TI := ⟨true, 4, 40, (.struct [(0, 1), (1, 1), (2, 1), (3, 1)]), (.agg [.nilp, .nilp, .nilp, (.str [])]), true, [17, 17, 17, 9]⟩
def ty320 : TI := ⟨true, 0, 0, (.arr 0 1), (.agg []), true, []⟩
def ty321 : TI := ⟨true, 0, 0, (.struct [(0, 0)]), (.agg []), true, [320]⟩
def ty322 : TI := ⟨true, 0, 0, (.struct [(0, 0)]), (.agg []), true, [320]⟩
def ty324 : TI := ⟨true, 1, 1, (.int .u8), (.int .u8 0), true, []⟩
def ty325 : TI := ⟨true, 1, 1, (.int .u8), (.int .u8 0), true, []⟩
def ty327 : TI := ⟨true, 1, 4, (.int .i32), (.int .i32 0), true, []⟩
def ty328 : TI := ⟨true, 1, 4, (.int .i32), (.int .i32 0), true, []⟩
def ty329 : TI := ⟨true, 11, 48, (.struct [(0, 1), (1, 1), (2, 1), (3, 1), (4, 1), (5, 1), (6, 1), (7, 1), (8, 1), (9, 1), (10, 1)]), (.agg [(.int .u64 0), (.int .u64 0), (.int .u32 0), (.int .u8 0), (.int .u8 0), (.int .u8 0), (.int .u8 0), .nilfunc, .nilp, (.int .i32 0), (.int .i32 0)]), true, [12, 12, 223, 324, 5, 5, 325, 326, 267, 327, 328]⟩
def ty330 : TI := ⟨true, 11, 48, (.struct [(0, 1), (1, 1), (2, 1), (3, 1), (4, 1), (5, 1), (6, 1), (7, 1), (8, 1), (9, 1), (10, 1)]), (.agg [(.int .u64 0), (.int .u64 0), (.int .u32 0), (.int .u8 0), (.int .u8 0), (.int .u8 0), (.int .u8 0), .nilfunc, .nilp, (.int .i32 0), (.int .i32 0)]), true, [12, 12, 223, 324, 5, 5, 325, 326, 267, 327, 328]⟩
def tyTree : TT := (.node (.node (.node (.node (.node (.node (.node .leaf 0 ty0 .leaf) 2 ty2 (.node .leaf 3 ty3 .leaf)) 4 ty4 (.node (.node .leaf 5 ty5 .leaf) 6 ty6 (.node .leaf 7 ty7 .leaf))) 8 ty8 (.node (.node (.node .leaf 9 ty9 .leaf) 10 ty10 (.node .leaf 11 ty11 .leaf)) 12 ty12 (.node (.node .leaf 13 ty13 .leaf) 14 ty14 (.node .leaf 15 ty15 .leaf)))) 16 ty16 (.node (.node (.node (.node .leaf 17 ty17 .leaf) 18 ty18 (.node .leaf 19 ty19 .leaf)) 21 ty21 (.node (.node .leaf 22 ty22 .leaf) 23 ty23 (.node .leaf 24 ty24 .leaf))) 25 ty25 (.node (.node (.node .leaf 26 ty26 .leaf) 27 ty27 (.node .leaf 31 ty31 .leaf)) 33 ty33 (.node (.node .leaf 34 ty34 .leaf) 42 ty42 (.node .leaf 43 ty43 .leaf))))) 44 ty44 (.node (.node (.node (.node (.node .leaf 45 ty45 .leaf) 55 ty55 (.node .leaf 56 ty56 .leaf)) 57 ty57 (.node (.node .leaf 58 ty58 .leaf) 59 ty59 (.node .leaf 61 ty61 .leaf))) 64 ty64 (.node (.node (.node .leaf 65 ty65 .leaf) 67 ty67 (.node .leaf 68 ty68 .leaf)) 71 ty71 (.node (.node .leaf 77 ty77 .leaf) 78 ty78 (.node .leaf 80 ty80 .leaf)))) 81 ty81 (.node (.node (.node (.node .leaf 87 ty87 .leaf) 101 ty101 (.node .leaf 102 ty102 .leaf)) 103 ty103 (.node (.node .leaf 106 ty106 .leaf) 107 ty107 (.node .leaf 112 ty112 .leaf))) 113 ty113 (.node (.node (.node .leaf 115 ty115 .leaf) 116 ty116 (.node .leaf 117 ty117 .leaf)) 124 ty124 (.node (.node .leaf 139 ty139 .leaf) 140 ty140 (.node .leaf 141 ty141 .leaf)))))) 147 ty147 (.node (.node (.node (.node (.node (.node .leaf 148 ty148 .leaf) 157 ty157 (.node .leaf 158 ty158 .leaf)) 164 ty164 (.node (.node .leaf 171 ty171 .leaf) 184 ty184 (.node .leaf 192 ty192 .leaf))) 200 ty200 (.node (.node (.node .leaf 211 ty211 .leaf) 213 ty213 (.node .leaf 214 ty214 .leaf)) 223 ty223 (.node (.node .leaf 224 ty224 .leaf) 228 ty228 (.node .leaf 230 ty230 .leaf)))) 231 ty231 (.node (.node (.node (.node .leaf 233 ty233 .leaf) 234 ty234 (.node .leaf 236 ty236 .leaf)) 237 ty237 (.node (.node .leaf 238 ty238 .leaf) 240 ty240 (.node .leaf 241 ty241 .leaf))) 242 ty242 (.node (.node (.node .leaf 243 ty243 .leaf) 249 ty249 (.node .leaf 252 ty252 .leaf)) 253 ty253 (.node (.node .leaf 254 ty254 .leaf) 262 ty262 (.node .leaf 265 ty265 .leaf))))) 267 ty267 (.node (.node (.node (.node (.node .leaf 274 ty274 .leaf) 277 ty277 (.node .leaf 279 ty279 .leaf)) 282 ty282 (.node (.node .leaf 288 ty288 .leaf) 289 ty289 (.node .leaf 291 ty291 .leaf))) 292 ty292 (.node (.node (.node .leaf 295 ty295 .leaf) 301 ty301 (.node .leaf 302 ty302 .leaf)) 303 ty303 (.node (.node .leaf 304 ty304 .leaf) 305 ty305 (.node .leaf 307 ty307 .leaf)))) 311 ty311 (.node (.node (.node (.node .leaf 313 ty313 .leaf) 314 ty314 (.node .leaf 315 ty315 .leaf)) 316 ty316 (.node (.node .leaf 318 ty318 .leaf) 319 ty319 (.node .leaf 320 ty320 .leaf))) 321 ty321 (.node (.node (.node .leaf 322 ty322 .leaf) 324 ty324 (.node .leaf 325 ty325 .leaf)) 327 ty327 (.node (.node .leaf 328 ty328 .leaf) 329 ty329 (.node .leaf 330 ty330 .leaf)))))))
set_option maxRecDepth 100000 in
theorem tyTree_eq : tyTree.toList.map (fun p => ti Tryz.prog p.1) = tyTree.toList.map (·.2) := by kernel_rfl
noncomputable def tyT (t : TypeId) : TI := match tyTree.get t with | some v => v | none => ti Tryz.prog t
theorem tyT_eq : tyT = ti Tryz.prog := TT.eq_of tyTree_eq
def tab0 : List Int := [31, 28, 31, 30, 31, 30, 31, 31, 30, 31, 30, 31]
def tab2 : List Int := [1, 10, 100, 1000, 10000, 100000, 1000000, 10000000, 100000000, 1000000000, 10000000000, 100000000000, 1000000000000, 10000000000000, 100000000000000, 1000000000000000, 10000000000000000, 100000000000000000, 1000000000000000000, 10000000000000000000]
def gl0 (mx : Int) (g : Nat) : List V := match g with
 | 0 => tab0.map (vI .i64)
 | 1 => [.int .i64 mx]
 | 2 => tab2.map (vI .u64)
 | _ => []
section
variable {gl : Nat → List V} {ops : Array Oper} {K : AFr → St → Prop} {s0 : St} {cs : List Code} {AQ : Exit → AFr → St → Prop} {id : Nat} {fr fr' : AFr} {st st' : St} {i : Nat} {x : Cfg} {E : List Nat} {B : List (List Nat)} {rest seen : List Nat} {fx : List (Nat × Option V × V)}
theorem kP (k : Nat) {q : Option V} {v : V} (hq : q = some v) (h : aOpsC Tryz.prog gl ops (k + 1) (putX (runX tyT gl ops i k x) (dstAt ops k) v) K)
  (hik : Nat.ble i k = true := by kernel_rfl) (he : stepX tyT gl ops i k x = withSt q (runX tyT gl ops i k x).2 := by kernel_rfl) : aOpsC Tryz.prog gl ops i x K := c_pure tyT_eq k hq hik he h
theorem kC (k : Nat) (R : Ren) {f : FuncId} {args1 : List V} {st1 st1' : St} {r : V} (hc : ACalls Tryz.prog gl f args1 st1 (Out r st1'))
  (h : aOpsC Tryz.prog gl ops (k + 1) (setX (runX tyT gl ops i k x) (dstAt ops k) (V.ren R r) (fun st => St.after R st st1')) K)
  (hb : goB tyT gl ops i k x R f args1 st1 = true := by kernel_rfl) (he : callL R st1 args1 = goR tyT gl ops i k x R args1 st1 := by kernel_rfl) : aOpsC Tryz.prog gl ops i x K := c_go tyT_eq k R hc hb he h
theorem kA (k t : Nat) {α : Type} (c : α → List V) {l l2 l' : List α} {e e2 : TypeId} {sz bytes b2 : Nat} {tok2 : Tok} (h1 : lapp bytes l l2 = some l')
  (h : aOpsC Tryz.prog gl ops (k + 1) (setX (runX tyT gl ops i k x) (dstAt ops k) (.sl sz (l'.map c) (.fam t l'.length)) (fun st => st.setFam t l'.length)) K)
  (hb : (Nat.ble i k && appOk tyT e sz bytes) = true := by kernel_rfl) (he : ((runX tyT gl ops i k x).2.fams[t]?, stepX tyT gl ops i k x) = (some l.length, aappendT tyT (runX tyT gl ops i k x).2 (.slice e sz bytes) (.slice e2 sz b2) (.sl sz (l.map c) (.fam t l.length)) (.sl sz (l2.map c) tok2)) := by kernel_rfl) : aOpsC Tryz.prog gl ops i x K := c_app tyT_eq k t c h1 hb he h
theorem kS (k : Nat) (s : List UInt8) (h : aOpsC Tryz.prog gl ops (k + 1) (putX (runX tyT gl ops i k x) (dstAt ops k) (.sl 1 ((s2b s).map (cI .u8)) .none)) K)
  (hik : Nat.ble i k = true := by kernel_rfl) (he : stepX tyT gl ops i k x = withSt (some (.sl 1 (byteRow s) .none)) (runX tyT gl ops i k x).2 := by kernel_rfl) : aOpsC Tryz.prog gl ops i x K := c_s2b tyT_eq k s hik he h
theorem kB (k : Nat) (l : List Int) (h : aOpsC Tryz.prog gl ops (k + 1) (putX (runX tyT gl ops i k x) (dstAt ops k) (.str (b2s l))) K)
  (hik : Nat.ble i k = true := by kernel_rfl) (he : stepX tyT gl ops i k x = withSt (match toBytes (l.map (cI .u8)) with | some b => some (.str b) | none => none) (runX tyT gl ops i k x).2 := by kernel_rfl) : aOpsC Tryz.prog gl ops i x K := c_b2s tyT_eq k l hik he h
theorem kV (k m f id : Nat) {cell : Option (List V)} {q : St → Option (V × St)} {v : V} {F : St → St} (hq : ∀ st : St, st.vars.length = m → st.fams.length = f → st.vars[id]? = cell → q st = some (v, F st))
  (h : aOpsC Tryz.prog gl ops (k + 1) (setX (runX tyT gl ops i k x) (dstAt ops k) v F) K) (hik : Nat.ble i k = true := by kernel_rfl)
  (he : ((runX tyT gl ops i k x).2.vars.length, (runX tyT gl ops i k x).2.fams.length, (runX tyT gl ops i k x).2.vars[id]?, stepX tyT gl ops i k x) = (m, f, cell, q (runX tyT gl ops i k x).2) := by kernel_rfl) : aOpsC Tryz.prog gl ops i x K := c_effv tyT_eq k m f id hq hik he h
theorem kL (k : Nat) {v : V} {cells : List V} (h : aOpsC Tryz.prog gl ops (k + 1) (setX (runX tyT gl ops i k x) (dstAt ops k) v (fun st => st.push [.buf cells])) K)
  (hik : Nat.ble i k = true := by kernel_rfl) (he : litX tyT gl ops i k x = some (v, cells) := by kernel_rfl) : aOpsC Tryz.prog gl ops i x K := c_lit tyT_eq k hik he h
theorem dV {fx : List (Nat × Option V × V)} (hf : fxOk fx) (m f id : Nat) {cell : Option (List V)} {q : St → Option (V × St)} {v : V} {F : St → St} (hq : ∀ st : St, st.vars.length = m → st.fams.length = f → st.vars[id]? = cell → q st = some (v, F st))
  (h : aDC Tryz.prog gl ops E B rest (i :: seen) (setX x (dstAt ops i) v F) K) (hb : E.contains i = true := by kernel_rfl)
  (he : (x.2.vars.length, x.2.fams.length, x.2.vars[id]?, oneX tyT gl ops i x) = (m, f, cell, q x.2) := by kernel_rfl)
  (hs : (stX tyT gl ops E B i seen (setX x (dstAt ops i) v F), svX ops E B fx i seen (setX x (dstAt ops i) v F)) = (stY tyT gl ops E B fx i seen (setX x (dstAt ops i) v F), svY ops E B fx i seen (setX x (dstAt ops i) v F)) := by kernel_rfl) : aDC Tryz.prog gl ops E B (i :: rest) seen x K := d_effv tyT_eq hf m f id hq hb he hs h
theorem kE (R : Ren) (hb : endB tyT gl ops i x s0 R fr' st' = true := by kernel_rfl) (he : wkL R fr' st' = endR tyT gl ops i x R fr' st' := by kernel_rfl) : aOpsC Tryz.prog gl ops i x (toW s0 fr' st') := c_end tyT_eq R hb he
theorem reg {c : Code} (fr' : AFr) (st' : St) (h : aOpsC Tryz.prog gl ops 0 (fr, st) (toW s0 fr' st')) (h2 : BCodes Tryz.prog gl s0 (c :: cs) AQ fr' st') : BCodes Tryz.prog gl s0 (.region id ops false :: c :: cs) AQ fr st := c_reg fr' st' cl_cons h h2
theorem regN (fr' : AFr) (st' : St) (hcl : Cl s0 (AQ .normal)) (h : aOpsC Tryz.prog gl ops 0 (fr, st) (toW s0 fr' st')) (h2 : BCodes Tryz.prog gl s0 [] AQ fr' st') : BCodes Tryz.prog gl s0 [.region id ops false] AQ fr st := c_reg fr' st' (cl_nil hcl) h h2
theorem drw {c : Code} (order E : List Nat) (B : List (List Nat)) (fr' : AFr) (st' : St) (h : aDC Tryz.prog gl ops E B order [] (fr, st) (toW s0 fr' st')) (h2 : BCodes Tryz.prog gl s0 (c :: cs) AQ fr' st')
  (hm : Tryz.prog.follows .mixedOrders = true := by kernel_rfl) (hc : drawChk ops fr.n order E B = true := by kernel_rfl) : BCodes Tryz.prog gl s0 (.region id ops true :: c :: cs) AQ fr st := c_draw order E B fr' st' hm hc cl_cons h h2
theorem dS (os : List Nat) (h : aDC Tryz.prog gl ops E B rest (os.reverse ++ seen) (segV tyT gl ops E os x) K) (hb : segB tyT gl ops E os x = true := by kernel_rfl) : aDC Tryz.prog gl ops E B (os ++ rest) seen x K := d_seg tyT_eq os hb h
theorem dP {q : Option V} {v : V} (hq : q = some v) (h : aDC Tryz.prog gl ops E B rest (i :: seen) (putX x (dstAt ops i) v) K) (hb : stillB ops E i = true := by kernel_rfl) (he : oneX tyT gl ops i x = withSt q x.2 := by kernel_rfl) : aDC Tryz.prog gl ops E B (i :: rest) seen x K := d_pure tyT_eq hq hb he h
theorem dF (hf : fxOk fx) (h : aDC Tryz.prog gl ops E B rest (i :: seen) (effX tyT gl ops i x) K) (hb : effB tyT gl ops E i x = true := by kernel_rfl)
  (hs : (stX tyT gl ops E B i seen (effX tyT gl ops i x), svX ops E B fx i seen (effX tyT gl ops i x)) = (stY tyT gl ops E B fx i seen (effX tyT gl ops i x), svY ops E B fx i seen (effX tyT gl ops i x)) := by kernel_rfl) : aDC Tryz.prog gl ops E B (i :: rest) seen x K := d_eff tyT_eq hf hb hs h
theorem dC (hf : fxOk fx) (R : Ren) {f : FuncId} {args1 : List V} {st1 st1' : St} {r : V} (hc : ACalls Tryz.prog gl f args1 st1 (Out r st1')) (h : aDC Tryz.prog gl ops E B rest (i :: seen) (setX x (dstAt ops i) (V.ren R r) (fun st => St.after R st st1')) K)
  (hb : goDB ops E i x R f args1 st1 = true := by kernel_rfl) (he : callL R st1 args1 = goDR ops i x R args1 st1 := by kernel_rfl)
  (hs : (stX tyT gl ops E B i seen (setX x (dstAt ops i) (V.ren R r) (fun st => St.after R st st1')), svX ops E B fx i seen (setX x (dstAt ops i) (V.ren R r) (fun st => St.after R st st1'))) = (stY tyT gl ops E B fx i seen (setX x (dstAt ops i) (V.ren R r) (fun st => St.after R st st1')), svY ops E B fx i seen (setX x (dstAt ops i) (V.ren R r) (fun st => St.after R st st1'))) := by kernel_rfl) : aDC Tryz.prog gl ops E B (i :: rest) seen x K := d_go tyT_eq hf R hc hb he hs h
theorem dA (hf : fxOk fx) (t : Nat) {α : Type} (c : α → List V) {l l2 l' : List α} {e e2 : TypeId} {sz bytes b2 : Nat} {tok2 : Tok} (h1 : lapp bytes l l2 = some l')
  (h : aDC Tryz.prog gl ops E B rest (i :: seen) (setX x (dstAt ops i) (.sl sz (l'.map c) (.fam t l'.length)) (fun st => st.setFam t l'.length)) K)
  (hb : (E.contains i && appOk tyT e sz bytes) = true := by kernel_rfl) (he : (x.2.fams[t]?, oneX tyT gl ops i x) = (some l.length, aappendT tyT x.2 (.slice e sz bytes) (.slice e2 sz b2) (.sl sz (l.map c) (.fam t l.length)) (.sl sz (l2.map c) tok2)) := by kernel_rfl)
  (hs : (stX tyT gl ops E B i seen (setX x (dstAt ops i) (.sl sz (l'.map c) (.fam t l'.length)) (fun st => st.setFam t l'.length)), svX ops E B fx i seen (setX x (dstAt ops i) (.sl sz (l'.map c) (.fam t l'.length)) (fun st => st.setFam t l'.length))) = (stY tyT gl ops E B fx i seen (setX x (dstAt ops i) (.sl sz (l'.map c) (.fam t l'.length)) (fun st => st.setFam t l'.length)), svY ops E B fx i seen (setX x (dstAt ops i) (.sl sz (l'.map c) (.fam t l'.length)) (fun st => st.setFam t l'.length))) := by kernel_rfl) : aDC Tryz.prog gl ops E B (i :: rest) seen x K := d_app tyT_eq hf t c h1 hb he hs h
theorem dE (R : Ren) (hb : wkB s0 R x.1 x.2 fr' st' = true := by kernel_rfl) (he : wkL R fr' st' = wkR R x.1 x.2 fr' st' := by kernel_rfl) : aDC Tryz.prog gl ops E B [] seen x (toW s0 fr' st') := d_end R hb he
theorem wk (R : Ren) (hb : wkB s0 R fr st fr' st' = true := by kernel_rfl) (he : wkL R fr' st' = wkR R fr st fr' st' := by kernel_rfl) : Wk s0 fr st fr' st' := Wk.gen R hb he
theorem rm {c : Code} (ks : List Nat) (new : List (Nat × V)) (st' : St) (h : aOpsC Tryz.prog gl ops 0 (fr, st) (toW s0 (carF fr ks new) st')) (h2 : BCodes Tryz.prog gl s0 (c :: cs) AQ (carF fr ks new) st') : BCodes Tryz.prog gl s0 (.region id ops false :: c :: cs) AQ fr st := c_reg _ _ cl_cons h h2
theorem rs {c : Code} (ks : List Nat) (new : List (Nat × V)) (h : aOpsC Tryz.prog gl ops 0 (fr, st) (toW s0 (carF fr ks new) st)) (h2 : BCodes Tryz.prog gl s0 (c :: cs) AQ (carF fr ks new) st) : BCodes Tryz.prog gl s0 (.region id ops false :: c :: cs) AQ fr st := c_reg _ _ cl_cons h h2
theorem rmN (hcl : Cl s0 (AQ .normal)) (ks : List Nat) (new : List (Nat × V)) (st' : St) (h : aOpsC Tryz.prog gl ops 0 (fr, st) (toW s0 (carF fr ks new) st')) (h2 : BCodes Tryz.prog gl s0 [] AQ (carF fr ks new) st') : BCodes Tryz.prog gl s0 [.region id ops false] AQ fr st := c_reg _ _ (cl_nil hcl) h h2
theorem rsN (hcl : Cl s0 (AQ .normal)) (ks : List Nat) (new : List (Nat × V)) (h : aOpsC Tryz.prog gl ops 0 (fr, st) (toW s0 (carF fr ks new) st)) (h2 : BCodes Tryz.prog gl s0 [] AQ (carF fr ks new) st) : BCodes Tryz.prog gl s0 [.region id ops false] AQ fr st := c_reg _ _ (cl_nil hcl) h h2
theorem zm {c : Code} (order E : List Nat) (B : List (List Nat)) (ks : List Nat) (new : List (Nat × V)) (st' : St) (h : aDC Tryz.prog gl ops E B order [] (fr, st) (toW s0 (carF fr ks new) st')) (h2 : BCodes Tryz.prog gl s0 (c :: cs) AQ (carF fr ks new) st')
  (hm : Tryz.prog.follows .mixedOrders = true := by kernel_rfl) (hc : drawChk ops fr.n order E B = true := by kernel_rfl) : BCodes Tryz.prog gl s0 (.region id ops true :: c :: cs) AQ fr st := c_draw order E B _ _ hm hc cl_cons h h2
theorem zs {c : Code} (order E : List Nat) (B : List (List Nat)) (ks : List Nat) (new : List (Nat × V)) (h : aDC Tryz.prog gl ops E B order [] (fr, st) (toW s0 (carF fr ks new) st)) (h2 : BCodes Tryz.prog gl s0 (c :: cs) AQ (carF fr ks new) st)
  (hm : Tryz.prog.follows .mixedOrders = true := by kernel_rfl) (hc : drawChk ops fr.n order E B = true := by kernel_rfl) : BCodes Tryz.prog gl s0 (.region id ops true :: c :: cs) AQ fr st := c_draw order E B _ _ hm hc cl_cons h h2
theorem zmN (hcl : Cl s0 (AQ .normal)) (order E : List Nat) (B : List (List Nat)) (ks : List Nat) (new : List (Nat × V)) (st' : St) (h : aDC Tryz.prog gl ops E B order [] (fr, st) (toW s0 (carF fr ks new) st')) (h2 : BCodes Tryz.prog gl s0 [] AQ (carF fr ks new) st')
  (hm : Tryz.prog.follows .mixedOrders = true := by kernel_rfl) (hc : drawChk ops fr.n order E B = true := by kernel_rfl) : BCodes Tryz.prog gl s0 [.region id ops true] AQ fr st := c_draw order E B _ _ hm hc (cl_nil hcl) h h2
theorem bF {α : Type} {c : Operand} {x y : Code} {t : Bool} {a b : Option α} {r : α} (h : (if t = true then a else b) = some r) (h1 : a = some r → BCodes Tryz.prog gl s0 (x :: cs) AQ fr st) (h2 : b = some r → BCodes Tryz.prog gl s0 (y :: cs) AQ fr st) (hc : fr.eval c = .bool t := by kernel_rfl) : BCodes Tryz.prog gl s0 (.cond c x y :: cs) AQ fr st :=
 b_if t hc (fun hb => h1 (ite_t hb h)) (fun hb => h2 (ite_f hb h))
theorem bN {c : Operand} {x y : Code} (h2 : BCodes Tryz.prog gl s0 (y :: cs) AQ fr st) (hc : fr.eval c = .bool false := by kernel_rfl) : BCodes Tryz.prog gl s0 (.cond c x y :: cs) AQ fr st := b_if false hc (fun hb => Bool.noConfusion hb) (fun _ => h2)
theorem gF {α : Type} (k d : Nat) {b : Bool} {a a' : Option α} {r : α} (h : (if b = true then a else a') = some r) (ht : a = some r → aOpsC Tryz.prog gl ops k (putX (runX tyT gl ops i k x) (some d) (.bool true)) K) (hf : a' = some r → aOpsC Tryz.prog gl ops k (putX (runX tyT gl ops i k x) (some d) (.bool false)) K)
  (hik : Nat.ble i k = true := by kernel_rfl) (he : guardX tyT gl ops i k x = some (d, .bool b) := by kernel_rfl) : aOpsC Tryz.prog gl ops i x K := c_guard tyT_eq k d b hik he (fun hb => ht (ite_t hb h)) (fun hb => hf (ite_f hb h))
theorem hF {α : Type} (d : Nat) {b : Bool} {a a' : Option α} {r : α} (h : (if b = true then a else a') = some r) (ht : a = some r → aDC Tryz.prog gl ops E B (i :: rest) seen (putX x (some d) (.bool true)) K) (hf : a' = some r → aDC Tryz.prog gl ops E B (i :: rest) seen (putX x (some d) (.bool false)) K)
  (he : guardI ops i x = some (d, .bool b) := by kernel_rfl) : aDC Tryz.prog gl ops E B (i :: rest) seen x K := d_guard d b he (fun hb => ht (ite_t hb h)) (fun hb => hf (ite_f hb h))
theorem fnc {f : FuncId} {fn : Func} {c : Code} {args : List V} {Q : V → St → Prop} (hf : Tryz.prog.funcs[f]? = some fn) (hb : fn.body = some c) (h : BCodes Tryz.prog gl st [c] (bodyB Tryz.prog gl st fn Q) (argFr fn.ntmps args) st)
  (hn : (fn.name == "runtime.NumGoroutine") = false := by kernel_rfl) (hl : Nat.ble args.length fn.ntmps = true := by kernel_rfl) : ACalls Tryz.prog gl f args st Q := ACalls.ofB hf hb hn (Nat.le_of_ble_eq_true hl) h
theorem rt {fn : Func} {r : V} (R : Ren)
  (hb : ((aresultsT tyT gl fr st fn.results.toList).isSome && wkB s0 R ⟨1, [(0, resV tyT gl fr st fn.results.toList)]⟩ st ⟨1, [(0, r)]⟩ st') = true := by kernel_rfl)
  (hl : wkL R ⟨1, [(0, r)]⟩ st' = wkR R ⟨1, [(0, resV tyT gl fr st fn.results.toList)]⟩ st ⟨1, [(0, r)]⟩ st' := by kernel_rfl) : bodyB Tryz.prog gl s0 fn (Out r st') .ret fr st := b_end tyT_eq R (.inr rfl) hb hl
theorem rno {fn : Func} {r : V} (R : Ren)
  (hb : ((aresultsT tyT gl fr st fn.results.toList).isSome && wkB s0 R ⟨1, [(0, resV tyT gl fr st fn.results.toList)]⟩ st ⟨1, [(0, r)]⟩ st') = true := by kernel_rfl)
  (hl : wkL R ⟨1, [(0, r)]⟩ st' = wkR R ⟨1, [(0, resV tyT gl fr st fn.results.toList)]⟩ st ⟨1, [(0, r)]⟩ st' := by kernel_rfl) : bodyB Tryz.prog gl s0 fn (Out r st') .normal fr st := b_end tyT_eq R (.inl rfl) hb hl
end
abbrev AC (mx : Int) (f : FuncId) (args : List V) (s : List (List V)) (r : V) (s' : List (List V)) : Prop := ACalls Tryz.prog (gl0 mx) f args ⟨s, []⟩ (Out r ⟨s', []⟩)
abbrev ACf (mx : Int) (f : FuncId) (args : List V) (s : List (List V)) (r : V) (s' : List (List V)) (fs : List Nat) : Prop := ACalls Tryz.prog (gl0 mx) f args ⟨s, []⟩ (Out r ⟨s', fs⟩)
end Go.Abs
end
