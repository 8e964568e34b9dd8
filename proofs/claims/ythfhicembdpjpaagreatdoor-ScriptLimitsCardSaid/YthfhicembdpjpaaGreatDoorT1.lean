/- The program's types in the abstract reading, its records as Lean structures, and the contracts of library functions. No condition beyond each statement's own. -/
import Derived.Test.YthfhicembdpjpaaGreatDoorS
set_option linter.unusedVariables false
set_option linter.unusedSimpArgs false
set_option linter.unnecessarySimpa false
section
namespace Go.Abs
open Go Go.Proofs
def ty0 : TI := ⟨true, 1, 0, .flat, (.tuple []), true, [], []⟩
def ty2 : TI := ⟨true, 1, 8, (.int .i64), (.int .i64 0), true, [], []⟩
def ty3 : TI := ⟨true, 1, 8, (.int .i64), (.int .i64 0), true, [], []⟩
def ty4 : TI := ⟨true, 1, 1, .bool, (.bool false), true, [], []⟩
def ty5 : TI := ⟨true, 1, 1, (.int .u8), (.int .u8 0), true, [], []⟩
def ty6 : TI := ⟨true, 1, 1, (.int .u8), (.int .u8 0), true, [], []⟩
def ty7 : TI := ⟨true, 4, 24, (.struct [(0, 1), (1, 1), (2, 1), (3, 1)]), (.agg [(.int .i64 0), (.int .i64 0), (.bool false), (.int .u8 0)]), true, [2, 3, 4, 6], [(.int .i64), (.int .i64), .bool, (.int .u8)]⟩
def ty8 : TI := ⟨true, 4, 24, (.struct [(0, 1), (1, 1), (2, 1), (3, 1)]), (.agg [(.int .i64 0), (.int .i64 0), (.bool false), (.int .u8 0)]), true, [2, 3, 4, 6], [(.int .i64), (.int .i64), .bool, (.int .u8)]⟩
def ty9 : TI := ⟨true, 1, 16, .str, (.str []), true, [], []⟩
def ty10 : TI := ⟨true, 1, 16, .str, (.str []), true, [], []⟩
def ty11 : TI := ⟨true, 1, 16, .str, (.str []), true, [], []⟩
def ty12 : TI := ⟨true, 1, 8, (.int .u64), (.int .u64 0), true, [], []⟩
def ty13 : TI := ⟨true, 2, 24, (.struct [(0, 1), (1, 1)]), (.agg [(.str []), (.int .u64 0)]), true, [9, 12], []⟩
def ty14 : TI := ⟨true, 2, 24, (.struct [(0, 1), (1, 1)]), (.agg [(.str []), (.int .u64 0)]), true, [9, 12], []⟩
def ty15 : TI := ⟨true, 1, 8, (.ptr 496), .nilp, true, [], []⟩
def ty16 : TI := ⟨true, 1, 8, (.ptr 499), .nilp, true, [], []⟩
def ty17 : TI := ⟨true, 1, 8, (.ptr 506), .nilp, true, [], []⟩
def ty18 : TI := ⟨true, 1, 8, (.struct [(0, 1)]), (.agg [.nilp]), true, [17], []⟩
def ty19 : TI := ⟨true, 1, 8, (.struct [(0, 1)]), (.agg [.nilp]), true, [17], []⟩
def ty20 : TI := ⟨true, 1, 16, .iface, .niliface, true, [], []⟩
def ty21 : TI := ⟨true, 1, 4, (.int .i32), (.int .i32 0), true, [], []⟩
def ty22 : TI := ⟨true, 1, 24, (.slice 3 1 8), .nilsl, true, [], []⟩
def ty23 : TI := ⟨true, 1, 8, (.ptr 66), .nilp, true, [], []⟩
def ty25 : TI := ⟨true, 1, 24, (.slice 9 1 16), .nilsl, true, [], []⟩
def ty26 : TI := ⟨true, 1, 24, (.slice 22 1 24), .nilsl, true, [], []⟩
def ty28 : TI := ⟨true, 1, 24, (.slice 44 5 80), .nilsl, true, [], []⟩
def ty29 : TI := ⟨true, 1, 24, (.slice 63 50 632), .nilsl, true, [], []⟩
def ty30 : TI := ⟨true, 1, 8, (.int .i64), (.int .i64 0), true, [], []⟩
def ty31 : TI := ⟨true, 1, 0, .flat, (.tuple [.nilsl, .nilsl, (.int .i64 0), (.int .i64 0)]), true, [], []⟩
def ty37 : TI := ⟨true, 1, 24, (.slice 83 1 24), .nilsl, true, [], []⟩
def ty38 : TI := ⟨true, 1, 24, (.struct [(0, 1)]), (.agg [.nilsl]), true, [37], []⟩
def ty39 : TI := ⟨true, 1, 24, (.struct [(0, 1)]), (.agg [.nilsl]), true, [37], []⟩
def ty42 : TI := ⟨true, 1, 24, (.slice 118 4 64), .nilsl, true, [], []⟩
def ty43 : TI := ⟨true, 5, 80, (.struct [(0, 1), (1, 1), (2, 1), (3, 1), (4, 1)]), (.agg [.nilsl, (.str []), (.int .i64 0), (.int .i64 0), .nilsl]), true, [39, 9, 3, 3, 42], []⟩
def ty44 : TI := ⟨true, 5, 80, (.struct [(0, 1), (1, 1), (2, 1), (3, 1), (4, 1)]), (.agg [.nilsl, (.str []), (.int .i64 0), (.int .i64 0), .nilsl]), true, [39, 9, 3, 3, 42], []⟩
def ty45 : TI := ⟨true, 1, 0, .flat, (.tuple [(.str []), (.int .i64 0)]), true, [], []⟩
def ty47 : TI := ⟨true, 1, 24, (.slice 5 1 1), .nilsl, true, [], []⟩
def ty48 : TI := ⟨true, 1, 24, (.slice 220 2 32), .nilsl, true, [], []⟩
def ty49 : TI := ⟨true, 1, 24, (.slice 213 3 48), .nilsl, true, [], []⟩
def ty50 : TI := ⟨true, 2, 48, (.struct [(0, 1), (1, 1)]), (.agg [.nilsl, .nilsl]), true, [49, 49], []⟩
def ty51 : TI := ⟨true, 2, 48, (.struct [(0, 1), (1, 1)]), (.agg [.nilsl, .nilsl]), true, [49, 49], []⟩
def ty52 : TI := ⟨true, 1, 24, (.slice 123 3 40), .nilsl, true, [], []⟩
def ty53 : TI := ⟨true, 19, 304, (.struct [(0, 1), (1, 1), (2, 1), (3, 1), (4, 1), (5, 1), (6, 1), (7, 1), (8, 1), (9, 1), (10, 1), (11, 1), (12, 2), (14, 1), (15, 1), (16, 1), (17, 1), (18, 1)]), (.agg [(.bool false), (.bool false), (.int .i64 0), (.int .i64 0), .nilsl, .nilsl, .nilsl, (.int .i64 0), (.int .i64 0), (.int .i64 0), .nilsl, (.bool false), .nilsl, .nilsl, (.str []), (.str []), .nilsl, .nilsl, .nilsl]), true, [4, 4, 3, 3, 25, 25, 48, 3, 3, 3, 49, 4, 51, 9, 9, 42, 42, 52], []⟩
def ty54 : TI := ⟨true, 19, 304, (.struct [(0, 1), (1, 1), (2, 1), (3, 1), (4, 1), (5, 1), (6, 1), (7, 1), (8, 1), (9, 1), (10, 1), (11, 1), (12, 2), (14, 1), (15, 1), (16, 1), (17, 1), (18, 1)]), (.agg [(.bool false), (.bool false), (.int .i64 0), (.int .i64 0), .nilsl, .nilsl, .nilsl, (.int .i64 0), (.int .i64 0), (.int .i64 0), .nilsl, (.bool false), .nilsl, .nilsl, (.str []), (.str []), .nilsl, .nilsl, .nilsl]), true, [4, 4, 3, 3, 25, 25, 48, 3, 3, 3, 49, 4, 51, 9, 9, 42, 42, 52], []⟩
def ty55 : TI := ⟨true, 30, 400, (.struct [(0, 1), (1, 1), (2, 1), (3, 1), (4, 19), (23, 1), (24, 1), (25, 1), (26, 1), (27, 1), (28, 1), (29, 1)]), (.agg [(.int .i64 0), (.int .i64 0), (.int .i64 0), (.str []), (.bool false), (.bool false), (.int .i64 0), (.int .i64 0), .nilsl, .nilsl, .nilsl, (.int .i64 0), (.int .i64 0), (.int .i64 0), .nilsl, (.bool false), .nilsl, .nilsl, (.str []), (.str []), .nilsl, .nilsl, .nilsl, (.int .i64 0), (.int .i64 0), (.int .i64 0), (.int .i64 0), (.int .i64 0), (.int .i64 0), (.bool false)]), true, [3, 3, 3, 9, 54, 3, 3, 3, 3, 3, 3, 4], []⟩
def ty56 : TI := ⟨true, 30, 400, (.struct [(0, 1), (1, 1), (2, 1), (3, 1), (4, 19), (23, 1), (24, 1), (25, 1), (26, 1), (27, 1), (28, 1), (29, 1)]), (.agg [(.int .i64 0), (.int .i64 0), (.int .i64 0), (.str []), (.bool false), (.bool false), (.int .i64 0), (.int .i64 0), .nilsl, .nilsl, .nilsl, (.int .i64 0), (.int .i64 0), (.int .i64 0), .nilsl, (.bool false), .nilsl, .nilsl, (.str []), (.str []), .nilsl, .nilsl, .nilsl, (.int .i64 0), (.int .i64 0), (.int .i64 0), (.int .i64 0), (.int .i64 0), (.int .i64 0), (.bool false)]), true, [3, 3, 3, 9, 54, 3, 3, 3, 3, 3, 3, 4], []⟩
def ty57 : TI := ⟨true, 2, 32, (.struct [(0, 1), (1, 1)]), (.agg [(.int .i64 0), .nilsl]), true, [3, 22], []⟩
def ty58 : TI := ⟨true, 2, 32, (.struct [(0, 1), (1, 1)]), (.agg [(.int .i64 0), .nilsl]), true, [3, 22], []⟩
def ty59 : TI := ⟨true, 1, 24, (.slice 228 4 64), .nilsl, true, [], []⟩
def ty60 : TI := ⟨true, 11, 128, (.struct [(0, 1), (1, 1), (2, 1), (3, 1), (4, 1), (5, 1), (6, 1), (7, 1), (8, 1), (9, 1), (10, 1)]), (.agg [(.int .i64 0), (.str []), (.int .i64 0), .nilsl, (.bool false), (.bool false), (.bool false), .nilsl, (.int .i64 0), (.bool false), .nilsl]), true, [3, 9, 3, 25, 4, 4, 4, 49, 3, 4, 59], []⟩
def ty61 : TI := ⟨true, 11, 128, (.struct [(0, 1), (1, 1), (2, 1), (3, 1), (4, 1), (5, 1), (6, 1), (7, 1), (8, 1), (9, 1), (10, 1)]), (.agg [(.int .i64 0), (.str []), (.int .i64 0), .nilsl, (.bool false), (.bool false), (.bool false), .nilsl, (.int .i64 0), (.bool false), .nilsl]), true, [3, 9, 3, 25, 4, 4, 4, 49, 3, 4, 59], []⟩
def ty62 : TI := ⟨true, 50, 632, (.struct [(0, 1), (1, 1), (2, 30), (32, 1), (33, 1), (34, 1), (35, 1), (36, 2), (38, 11), (49, 1)]), (.agg [(.int .i64 0), (.int .i64 0), (.int .i64 0), (.int .i64 0), (.int .i64 0), (.str []), (.bool false), (.bool false), (.int .i64 0), (.int .i64 0), .nilsl, .nilsl, .nilsl, (.int .i64 0), (.int .i64 0), (.int .i64 0), .nilsl, (.bool false), .nilsl, .nilsl, (.str []), (.str []), .nilsl, .nilsl, .nilsl, (.int .i64 0), (.int .i64 0), (.int .i64 0), (.int .i64 0), (.int .i64 0), (.int .i64 0), (.bool false), (.bool false), (.int .i64 0), (.int .i64 0), (.int .i64 0), (.int .i64 0), .nilsl, (.int .i64 0), (.str []), (.int .i64 0), .nilsl, (.bool false), (.bool false), (.bool false), .nilsl, (.int .i64 0), (.bool false), .nilsl, .nilsl]), true, [3, 3, 56, 4, 3, 3, 3, 58, 61, 22], []⟩
def ty63 : TI := ⟨true, 50, 632, (.struct [(0, 1), (1, 1), (2, 30), (32, 1), (33, 1), (34, 1), (35, 1), (36, 2), (38, 11), (49, 1)]), (.agg [(.int .i64 0), (.int .i64 0), (.int .i64 0), (.int .i64 0), (.int .i64 0), (.str []), (.bool false), (.bool false), (.int .i64 0), (.int .i64 0), .nilsl, .nilsl, .nilsl, (.int .i64 0), (.int .i64 0), (.int .i64 0), .nilsl, (.bool false), .nilsl, .nilsl, (.str []), (.str []), .nilsl, .nilsl, .nilsl, (.int .i64 0), (.int .i64 0), (.int .i64 0), (.int .i64 0), (.int .i64 0), (.int .i64 0), (.bool false), (.bool false), (.int .i64 0), (.int .i64 0), (.int .i64 0), (.int .i64 0), .nilsl, (.int .i64 0), (.str []), (.int .i64 0), .nilsl, (.bool false), (.bool false), (.bool false), .nilsl, (.int .i64 0), (.bool false), .nilsl, .nilsl]), true, [3, 3, 56, 4, 3, 3, 3, 58, 61, 22], []⟩
def ty65 : TI := ⟨true, 2, 32, (.struct [(0, 1), (1, 1)]), (.agg [.nilsl, (.int .i64 0)]), true, [22, 3], []⟩
def ty66 : TI := ⟨true, 2, 32, (.struct [(0, 1), (1, 1)]), (.agg [.nilsl, (.int .i64 0)]), true, [22, 3], []⟩
def ty67 : TI := ⟨true, 1, 0, .flat, (.tuple [(.str []), (.str []), (.bool false)]), true, [], []⟩
def ty74 : TI := ⟨true, 1, 0, .flat, (.tuple [.nilsl, (.bool false)]), true, [], []⟩
def ty81 : TI := ⟨true, 3, 40, (.struct [(0, 1), (1, 1), (2, 1)]), (.agg [(.str []), (.int .i64 0), (.str [])]), true, [9, 3, 9], [.str, (.int .i64), .str]⟩
def ty82 : TI := ⟨true, 3, 40, (.struct [(0, 1), (1, 1), (2, 1)]), (.agg [(.str []), (.int .i64 0), (.str [])]), true, [9, 3, 9], [.str, (.int .i64), .str]⟩
def ty83 : TI := ⟨true, 1, 24, (.slice 82 3 40), .nilsl, true, [], []⟩
def ty87 : TI := ⟨true, 1, 8, (.ptr 89), .nilp, true, [], []⟩
def ty88 : TI := ⟨true, 2, 32, (.struct [(0, 1), (1, 1)]), (.agg [.nilp, .nilsl]), true, [87, 47], []⟩
def ty89 : TI := ⟨true, 2, 32, (.struct [(0, 1), (1, 1)]), (.agg [.nilp, .nilsl]), true, [87, 47], []⟩
def ty90 : TI := ⟨true, 1, 16, .iface, .niliface, true, [], []⟩
def ty91 : TI := ⟨true, 1, 16, .iface, .niliface, true, [], []⟩
def ty92 : TI := ⟨true, 1, 0, .flat, (.tuple [(.int .i64 0), .niliface]), true, [], []⟩
def ty95 : TI := ⟨true, 1, 8, (.ptr 98), .nilp, true, [], []⟩
def ty97 : TI := ⟨true, 2, 32, (.struct [(0, 1), (1, 1)]), (.agg [.nilsl, (.bool false)]), true, [25, 4], []⟩
def ty98 : TI := ⟨true, 2, 32, (.struct [(0, 1), (1, 1)]), (.agg [.nilsl, (.bool false)]), true, [25, 4], []⟩
def ty103 : TI := ⟨true, 1, 0, .flat, (.tuple [.nilsl, (.int .i64 0)]), true, [], []⟩
def ty111 : TI := ⟨true, 1, 8, (.ptr 114), .nilp, true, [], []⟩
def ty113 : TI := ⟨true, 3, 40, (.struct [(0, 1), (1, 1), (2, 1)]), (.agg [.nilsl, (.int .i64 0), (.bool false)]), true, [25, 3, 4], []⟩
def ty114 : TI := ⟨true, 3, 40, (.struct [(0, 1), (1, 1), (2, 1)]), (.agg [.nilsl, (.int .i64 0), (.bool false)]), true, [25, 3, 4], []⟩
def ty117 : TI := ⟨true, 4, 64, (.struct [(0, 1), (1, 1), (2, 1), (3, 1)]), (.agg [.nilsl, (.int .i64 0), (.bool false), .nilsl]), true, [49, 3, 4, 39], []⟩
def ty118 : TI := ⟨true, 4, 64, (.struct [(0, 1), (1, 1), (2, 1), (3, 1)]), (.agg [.nilsl, (.int .i64 0), (.bool false), .nilsl]), true, [49, 3, 4, 39], []⟩
def ty120 : TI := ⟨true, 1, 0, .flat, (.tuple [.nilsl, (.int .i64 0)]), true, [], []⟩
def ty122 : TI := ⟨true, 3, 40, (.struct [(0, 1), (1, 1), (2, 1)]), (.agg [(.str []), (.bool false), (.str [])]), true, [9, 4, 9], [.str, .bool, .str]⟩
def ty123 : TI := ⟨true, 3, 40, (.struct [(0, 1), (1, 1), (2, 1)]), (.agg [(.str []), (.bool false), (.str [])]), true, [9, 4, 9], [.str, .bool, .str]⟩
def ty125 : TI := ⟨true, 3, 40, (.struct [(0, 1), (1, 1), (2, 1)]), (.agg [(.int .i64 0), (.int .i64 0), .nilsl]), true, [3, 3, 25], []⟩
def ty126 : TI := ⟨true, 3, 40, (.struct [(0, 1), (1, 1), (2, 1)]), (.agg [(.int .i64 0), (.int .i64 0), .nilsl]), true, [3, 3, 25], []⟩
def ty127 : TI := ⟨true, 5, 72, (.struct [(0, 1), (1, 1), (2, 3)]), (.agg [(.int .i64 0), .nilsl, (.int .i64 0), (.int .i64 0), .nilsl]), true, [3, 22, 126], []⟩
def ty128 : TI := ⟨true, 5, 72, (.struct [(0, 1), (1, 1), (2, 3)]), (.agg [(.int .i64 0), .nilsl, (.int .i64 0), (.int .i64 0), .nilsl]), true, [3, 22, 126], []⟩
def ty131 : TI := ⟨true, 1, 4, (.int .u32), (.int .u32 0), true, [], []⟩
def ty132 : TI := ⟨true, 1, 24, (.slice 131 1 4), .nilsl, true, [], []⟩
def ty134 : TI := ⟨true, 1, 8, (.int .u64), (.int .u64 0), true, [], []⟩
def ty142 : TI := ⟨true, 2, 24, (.struct [(0, 1), (1, 1)]), (.agg [(.str []), (.int .i64 0)]), true, [9, 30], [.str, (.int .i64)]⟩
def ty143 : TI := ⟨true, 2, 24, (.struct [(0, 1), (1, 1)]), (.agg [(.str []), (.int .i64 0)]), true, [9, 30], [.str, (.int .i64)]⟩
def ty151 : TI := ⟨true, 1, 8, (.ptr 5), .nilp, true, [], []⟩
def ty155 : TI := ⟨true, 1, 0, .flat, (.tuple [(.str []), (.bool false)]), true, [], []⟩
def ty160 : TI := ⟨true, 1, 8, (.ptr 279), .nilp, true, [], []⟩
def ty161 : TI := ⟨true, 1, 0, .flat, (.tuple [.nilp, (.int .i64 0)]), true, [], []⟩
def ty172 : TI := ⟨true, 1, 8, (.ptr 285), .nilp, true, [], []⟩
def ty173 : TI := ⟨true, 1, 0, .flat, (.tuple [(.int .i64 0), (.bool false)]), true, [], []⟩
def ty178 : TI := ⟨true, 1, 24, (.slice 184 3 40), .nilsl, true, [], []⟩
def ty179 : TI := ⟨true, 2, 32, (.struct [(0, 1), (1, 1)]), (.agg [.nilsl, (.int .i64 0)]), true, [178, 3], []⟩
def ty180 : TI := ⟨true, 2, 32, (.struct [(0, 1), (1, 1)]), (.agg [.nilsl, (.int .i64 0)]), true, [178, 3], []⟩
def ty183 : TI := ⟨true, 3, 40, (.struct [(0, 1), (1, 1), (2, 1)]), (.agg [(.int .i64 0), (.str []), (.str [])]), true, [3, 9, 9], [(.int .i64), .str, .str]⟩
def ty184 : TI := ⟨true, 3, 40, (.struct [(0, 1), (1, 1), (2, 1)]), (.agg [(.int .i64 0), (.str []), (.str [])]), true, [3, 9, 9], [(.int .i64), .str, .str]⟩
def ty186 : TI := ⟨true, 1, 0, .flat, (.tuple [.nilsl, (.int .i64 0)]), true, [], []⟩
def ty188 : TI := ⟨true, 1, 8, (.ptr 180), .nilp, true, [], []⟩
def ty189 : TI := ⟨true, 1, 0, .flat, (.tuple [(.int .i64 0), (.int .i64 0)]), true, [], []⟩
def ty193 : TI := ⟨true, 1, 8, (.ptr 56), .nilp, true, [], []⟩
def ty199 : TI := ⟨true, 1, 8, (.ptr 202), .nilp, true, [], []⟩
def ty201 : TI := ⟨true, 3, 40, (.struct [(0, 1), (1, 1), (2, 1)]), (.agg [.nilsl, (.int .i64 0), (.bool false)]), true, [178, 3, 4], []⟩
def ty202 : TI := ⟨true, 3, 40, (.struct [(0, 1), (1, 1), (2, 1)]), (.agg [.nilsl, (.int .i64 0), (.bool false)]), true, [178, 3, 4], []⟩
def ty209 : TI := ⟨true, 1, 0, .flat, (.tuple [.nilsl, (.int .i64 0)]), true, [], []⟩
def ty212 : TI := ⟨true, 3, 48, (.struct [(0, 1), (1, 1), (2, 1)]), (.agg [(.int .i64 0), (.str []), .nilsl]), true, [3, 9, 39], []⟩
def ty213 : TI := ⟨true, 3, 48, (.struct [(0, 1), (1, 1), (2, 1)]), (.agg [(.int .i64 0), (.str []), .nilsl]), true, [3, 9, 39], []⟩
def ty219 : TI := ⟨true, 2, 32, (.struct [(0, 1), (1, 1)]), (.agg [(.str []), (.str [])]), true, [9, 9], [.str, .str]⟩
def ty220 : TI := ⟨true, 2, 32, (.struct [(0, 1), (1, 1)]), (.agg [(.str []), (.str [])]), true, [9, 9], [.str, .str]⟩
def ty223 : TI := ⟨true, 1, 24, (.slice 42 1 24), .nilsl, true, [], []⟩
def ty225 : TI := ⟨true, 3, 40, (.struct [(0, 1), (1, 1), (2, 1)]), (.agg [(.int .i64 0), (.str []), (.str [])]), true, [3, 9, 9], [(.int .i64), .str, .str]⟩
def ty226 : TI := ⟨true, 3, 40, (.struct [(0, 1), (1, 1), (2, 1)]), (.agg [(.int .i64 0), (.str []), (.str [])]), true, [3, 9, 9], [(.int .i64), .str, .str]⟩
def ty227 : TI := ⟨true, 4, 64, (.struct [(0, 1), (1, 3)]), (.agg [.nilsl, (.int .i64 0), (.str []), (.str [])]), true, [39, 226], []⟩
def ty228 : TI := ⟨true, 4, 64, (.struct [(0, 1), (1, 3)]), (.agg [.nilsl, (.int .i64 0), (.str []), (.str [])]), true, [39, 226], []⟩
def ty229 : TI := ⟨true, 64, 256, (.arr 64 1), (.agg [(.int .u32 0), (.int .u32 0), (.int .u32 0), (.int .u32 0), (.int .u32 0), (.int .u32 0), (.int .u32 0), (.int .u32 0), (.int .u32 0), (.int .u32 0), (.int .u32 0), (.int .u32 0), (.int .u32 0), (.int .u32 0), (.int .u32 0), (.int .u32 0), (.int .u32 0), (.int .u32 0), (.int .u32 0), (.int .u32 0), (.int .u32 0), (.int .u32 0), (.int .u32 0), (.int .u32 0), (.int .u32 0), (.int .u32 0), (.int .u32 0), (.int .u32 0), (.int .u32 0), (.int .u32 0), (.int .u32 0), (.int .u32 0), (.int .u32 0), (.int .u32 0), (.int .u32 0), (.int .u32 0), (.int .u32 0), (.int .u32 0), (.int .u32 0), (.int .u32 0), (.int .u32 0), (.int .u32 0), (.int .u32 0), (.int .u32 0), (.int .u32 0), (.int .u32 0), (.int .u32 0), (.int .u32 0), (.int .u32 0), (.int .u32 0), (.int .u32 0), (.int .u32 0), (.int .u32 0), (.int .u32 0), (.int .u32 0), (.int .u32 0), (.int .u32 0), (.int .u32 0), (.int .u32 0), (.int .u32 0), (.int .u32 0), (.int .u32 0), (.int .u32 0), (.int .u32 0)]), true, [], []⟩
def ty241 : TI := ⟨true, 1, 24, (.slice 248 2 32), .nilsl, true, [], []⟩
def ty243 : TI := ⟨true, 1, 24, (.slice 246 2 32), .nilsl, true, [], []⟩
def ty245 : TI := ⟨true, 2, 32, (.struct [(0, 1), (1, 1)]), (.agg [(.str []), (.str [])]), true, [9, 9], [.str, .str]⟩
def ty246 : TI := ⟨true, 2, 32, (.struct [(0, 1), (1, 1)]), (.agg [(.str []), (.str [])]), true, [9, 9], [.str, .str]⟩
def ty247 : TI := ⟨true, 2, 32, (.struct [(0, 1), (1, 1)]), (.agg [(.str []), (.str [])]), true, [9, 9], [.str, .str]⟩
def ty248 : TI := ⟨true, 2, 32, (.struct [(0, 1), (1, 1)]), (.agg [(.str []), (.str [])]), true, [9, 9], [.str, .str]⟩
def ty251 : TI := ⟨true, 1, 8, (.ptr 143), .nilp, true, [], []⟩
def ty252 : TI := ⟨true, 1, 8, (.ptr 254), .nilp, true, [], []⟩
def ty253 : TI := ⟨true, 1, 1, (.struct [(0, 1)]), (.agg [(.bool false)]), true, [4], [.bool]⟩
def ty254 : TI := ⟨true, 1, 1, (.struct [(0, 1)]), (.agg [(.bool false)]), true, [4], [.bool]⟩
def ty257 : TI := ⟨true, 1, 8, .flat, .nilp, true, [], []⟩
def ty262 : TI := ⟨true, 2, 24, (.struct [(0, 1), (1, 1)]), (.agg [(.str []), (.int .i64 0)]), true, [9, 30], [.str, (.int .i64)]⟩
def ty263 : TI := ⟨true, 2, 24, (.struct [(0, 1), (1, 1)]), (.agg [(.str []), (.int .i64 0)]), true, [9, 30], [.str, (.int .i64)]⟩
def ty267 : TI := ⟨true, 1, 8, (.ptr 263), .nilp, true, [], []⟩
def ty278 : TI := ⟨true, 1, 24, (.struct [(0, 1)]), (.agg [.nilsl]), true, [178], []⟩
def ty279 : TI := ⟨true, 1, 24, (.struct [(0, 1)]), (.agg [.nilsl]), true, [178], []⟩
def ty284 : TI := ⟨true, 2, 32, (.struct [(0, 1), (1, 1)]), (.agg [.nilsl, (.bool false)]), true, [178, 4], []⟩
def ty285 : TI := ⟨true, 2, 32, (.struct [(0, 1), (1, 1)]), (.agg [.nilsl, (.bool false)]), true, [178, 4], []⟩
def ty289 : TI := ⟨true, 1, 0, .flat, (.tuple [.nilsl, (.bool false)]), true, [], []⟩
def ty301 : TI := ⟨true, 1, 8, (.ptr 54), .nilp, true, [], []⟩
def ty303 : TI := ⟨true, 6, 48, (.struct [(0, 1), (1, 1), (2, 1), (3, 1), (4, 1), (5, 1)]), (.agg [(.int .i64 0), (.int .i64 0), (.int .i64 0), (.int .i64 0), (.int .i64 0), (.int .i64 0)]), true, [3, 3, 3, 3, 3, 3], [(.int .i64), (.int .i64), (.int .i64), (.int .i64), (.int .i64), (.int .i64)]⟩
def ty304 : TI := ⟨true, 6, 48, (.struct [(0, 1), (1, 1), (2, 1), (3, 1), (4, 1), (5, 1)]), (.agg [(.int .i64 0), (.int .i64 0), (.int .i64 0), (.int .i64 0), (.int .i64 0), (.int .i64 0)]), true, [3, 3, 3, 3, 3, 3], [(.int .i64), (.int .i64), (.int .i64), (.int .i64), (.int .i64), (.int .i64)]⟩
def ty305 : TI := ⟨true, 1, 0, .flat, (.tuple [(.str []), (.int .i64 0), (.int .i64 0)]), true, [], []⟩
def ty328 : TI := ⟨true, 1, 8, (.int .u64), (.int .u64 0), true, [], []⟩
def ty329 : TI := ⟨true, 3, 24, (.struct [(0, 1), (1, 1), (2, 1)]), (.agg [.nilp, .nilp, (.int .u64 0)]), true, [17, 257, 328], []⟩
def ty330 : TI := ⟨true, 3, 24, (.struct [(0, 1), (1, 1), (2, 1)]), (.agg [.nilp, .nilp, (.int .u64 0)]), true, [17, 257, 328], []⟩
def ty336 : TI := ⟨true, 2, 16, (.struct [(0, 1), (1, 1)]), (.agg [.nilfunc, .nilfunc]), true, [64, 332], []⟩
def ty337 : TI := ⟨true, 2, 16, (.struct [(0, 1), (1, 1)]), (.agg [.nilfunc, .nilfunc]), true, [64, 332], []⟩
def ty346 : TI := ⟨true, 1, 0, .flat, (.tuple [(.int .u32 0), (.int .u32 0)]), true, [], []⟩
def ty348 : TI := ⟨true, 1, 0, .flat, (.tuple [(.int .i32 0), (.int .i64 0)]), true, [], []⟩
def ty358 : TI := ⟨true, 1, 0, .flat, (.tuple [(.bool false), (.int .i64 0)]), true, [], []⟩
def ty361 : TI := ⟨true, 1, 0, .flat, (.tuple [.nilsl, (.int .i64 0)]), true, [], []⟩
def ty363 : TI := ⟨true, 1, 24, (.slice 25 1 24), .nilsl, true, [], []⟩
def ty364 : TI := ⟨true, 1, 0, .flat, (.tuple [.nilsl, (.int .i64 0)]), true, [], []⟩
def ty369 : TI := ⟨true, 1, 8, (.int .u64), (.int .u64 0), true, [], []⟩
def ty374 : TI := ⟨true, 1, 24, (.slice 4 1 1), .nilsl, true, [], []⟩
def ty376 : TI := ⟨true, 1, 8, (.struct [(0, 1)]), (.agg [.nilp]), true, [17], []⟩
def ty377 : TI := ⟨true, 1, 8, (.struct [(0, 1)]), (.agg [.nilp]), true, [17], []⟩
def ty378 : TI := ⟨true, 1, 8, (.ptr 508), .nilp, true, [], []⟩
def ty382 : TI := ⟨true, 1, 8, (.int .i64), (.int .i64 0), true, [], []⟩
def ty383 : TI := ⟨true, 1, 0, .flat, (.tuple [(.int .i64 0), (.int .i64 0)]), true, [], []⟩
def ty389 : TI := ⟨true, 1, 8, (.int .i64), (.int .i64 0), true, [], []⟩
def ty392 : TI := ⟨true, 1, 24, (.slice 397 5 48), .nilsl, true, [], []⟩
def ty396 : TI := ⟨true, 5, 48, (.struct [(0, 1), (1, 1), (2, 1), (3, 1), (4, 1)]), (.agg [(.str []), (.int .i64 0), .nilfunc, .nilfunc, .nilfunc]), true, [9, 3, 235, 394, 395], []⟩
def ty397 : TI := ⟨true, 5, 48, (.struct [(0, 1), (1, 1), (2, 1), (3, 1), (4, 1)]), (.agg [(.str []), (.int .i64 0), .nilfunc, .nilfunc, .nilfunc]), true, [9, 3, 235, 394, 395], []⟩
def ty399 : TI := ⟨true, 1, 24, (.struct [(0, 1)]), (.agg [.nilsl]), true, [47], []⟩
def ty400 : TI := ⟨true, 1, 24, (.struct [(0, 1)]), (.agg [.nilsl]), true, [47], []⟩
def ty402 : TI := ⟨true, 1, 8, (.int .i64), (.int .i64 0), true, [], []⟩
def ty403 : TI := ⟨true, 1, 0, .flat, (.tuple [(.int .i64 0), .niliface]), true, [], []⟩
def ty405 : TI := ⟨true, 1, 8, (.ptr 451), .nilp, true, [], []⟩
def ty412 : TI := ⟨true, 1, 1, (.int .i8), (.int .i8 0), true, [], []⟩
def ty413 : TI := ⟨true, 1, 0, .flat, (.tuple [.nilsl, (.int .i64 0)]), true, [], []⟩
def ty415 : TI := ⟨true, 3, 40, (.struct [(0, 3)]), (.agg [(.int .i64 0), (.str []), (.str [])]), true, [226], []⟩
def ty416 : TI := ⟨true, 3, 40, (.struct [(0, 3)]), (.agg [(.int .i64 0), (.str []), (.str [])]), true, [226], []⟩
def ty418 : TI := ⟨true, 1, 8, (.ptr 416), .nilp, true, [], []⟩
def ty419 : TI := ⟨true, 1, 24, (.slice 417 1 8), .nilsl, true, [], []⟩
def ty422 : TI := ⟨true, 1, 8, (.int .u64), (.int .u64 0), true, [], []⟩
def ty426 : TI := ⟨true, 1, 8, (.ptr 3), .nilp, true, [], []⟩
def ty429 : TI := ⟨true, 24, 24, (.arr 24 1), (.agg [(.int .u8 0), (.int .u8 0), (.int .u8 0), (.int .u8 0), (.int .u8 0), (.int .u8 0), (.int .u8 0), (.int .u8 0), (.int .u8 0), (.int .u8 0), (.int .u8 0), (.int .u8 0), (.int .u8 0), (.int .u8 0), (.int .u8 0), (.int .u8 0), (.int .u8 0), (.int .u8 0), (.int .u8 0), (.int .u8 0), (.int .u8 0), (.int .u8 0), (.int .u8 0), (.int .u8 0)]), true, [], []⟩
def ty431 : TI := ⟨true, 1, 0, .flat, (.tuple [.nilsl, (.str [])]), true, [], []⟩
def ty434 : TI := ⟨true, 12, 96, (.arr 12 1), (.agg [(.int .i64 0), (.int .i64 0), (.int .i64 0), (.int .i64 0), (.int .i64 0), (.int .i64 0), (.int .i64 0), (.int .i64 0), (.int .i64 0), (.int .i64 0), (.int .i64 0), (.int .i64 0)]), true, [], []⟩
def ty436 : TI := ⟨true, 1, 8, (.ptr 400), .nilp, true, [], []⟩
def ty444 : TI := ⟨true, 256, 256, (.arr 256 1), (.agg [(.int .u8 0), (.int .u8 0), (.int .u8 0), (.int .u8 0), (.int .u8 0), (.int .u8 0), (.int .u8 0), (.int .u8 0), (.int .u8 0), (.int .u8 0), (.int .u8 0), (.int .u8 0), (.int .u8 0), (.int .u8 0), (.int .u8 0), (.int .u8 0), (.int .u8 0), (.int .u8 0), (.int .u8 0), (.int .u8 0), (.int .u8 0), (.int .u8 0), (.int .u8 0), (.int .u8 0), (.int .u8 0), (.int .u8 0), (.int .u8 0), (.int .u8 0), (.int .u8 0), (.int .u8 0), (.int .u8 0), (.int .u8 0), (.int .u8 0), (.int .u8 0), (.int .u8 0), (.int .u8 0), (.int .u8 0), (.int .u8 0), (.int .u8 0), (.int .u8 0), (.int .u8 0), (.int .u8 0), (.int .u8 0), (.int .u8 0), (.int .u8 0), (.int .u8 0), (.int .u8 0), (.int .u8 0), (.int .u8 0), (.int .u8 0), (.int .u8 0), (.int .u8 0), (.int .u8 0), (.int .u8 0), (.int .u8 0), (.int .u8 0), (.int .u8 0), (.int .u8 0), (.int .u8 0), (.int .u8 0), (.int .u8 0), (.int .u8 0), (.int .u8 0), (.int .u8 0), (.int .u8 0), (.int .u8 0), (.int .u8 0), (.int .u8 0), (.int .u8 0), (.int .u8 0), (.int .u8 0), (.int .u8 0), (.int .u8 0), (.int .u8 0), (.int .u8 0), (.int .u8 0), (.int .u8 0), (.int .u8 0), (.int .u8 0), (.int .u8 0), (.int .u8 0), (.int .u8 0), (.int .u8 0), (.int .u8 0), (.int .u8 0), (.int .u8 0), (.int .u8 0), (.int .u8 0), (.int .u8 0), (.int .u8 0), (.int .u8 0), (.int .u8 0), (.int .u8 0), (.int .u8 0), (.int .u8 0), (.int .u8 0), (.int .u8 0), (.int .u8 0), (.int .u8 0), (.int .u8 0), (.int .u8 0), (.int .u8 0), (.int .u8 0), (.int .u8 0), (.int .u8 0), (.int .u8 0), (.int .u8 0), (.int .u8 0), (.int .u8 0), (.int .u8 0), (.int .u8 0), (.int .u8 0), (.int .u8 0), (.int .u8 0), (.int .u8 0), (.int .u8 0), (.int .u8 0), (.int .u8 0), (.int .u8 0), (.int .u8 0), (.int .u8 0), (.int .u8 0), (.int .u8 0), (.int .u8 0), (.int .u8 0), (.int .u8 0), (.int .u8 0), (.int .u8 0), (.int .u8 0), (.int .u8 0), (.int .u8 0), (.int .u8 0), (.int .u8 0), (.int .u8 0), (.int .u8 0), (.int .u8 0), (.int .u8 0), (.int .u8 0), (.int .u8 0), (.int .u8 0), (.int .u8 0), (.int .u8 0), (.int .u8 0), (.int .u8 0), (.int .u8 0), (.int .u8 0), (.int .u8 0), (.int .u8 0), (.int .u8 0), (.int .u8 0), (.int .u8 0), (.int .u8 0), (.int .u8 0), (.int .u8 0), (.int .u8 0), (.int .u8 0), (.int .u8 0), (.int .u8 0), (.int .u8 0), (.int .u8 0), (.int .u8 0), (.int .u8 0), (.int .u8 0), (.int .u8 0), (.int .u8 0), (.int .u8 0), (.int .u8 0), (.int .u8 0), (.int .u8 0), (.int .u8 0), (.int .u8 0), (.int .u8 0), (.int .u8 0), (.int .u8 0), (.int .u8 0), (.int .u8 0), (.int .u8 0), (.int .u8 0), (.int .u8 0), (.int .u8 0), (.int .u8 0), (.int .u8 0), (.int .u8 0), (.int .u8 0), (.int .u8 0), (.int .u8 0), (.int .u8 0), (.int .u8 0), (.int .u8 0), (.int .u8 0), (.int .u8 0), (.int .u8 0), (.int .u8 0), (.int .u8 0), (.int .u8 0), (.int .u8 0), (.int .u8 0), (.int .u8 0), (.int .u8 0), (.int .u8 0), (.int .u8 0), (.int .u8 0), (.int .u8 0), (.int .u8 0), (.int .u8 0), (.int .u8 0), (.int .u8 0), (.int .u8 0), (.int .u8 0), (.int .u8 0), (.int .u8 0), (.int .u8 0), (.int .u8 0), (.int .u8 0), (.int .u8 0), (.int .u8 0), (.int .u8 0), (.int .u8 0), (.int .u8 0), (.int .u8 0), (.int .u8 0), (.int .u8 0), (.int .u8 0), (.int .u8 0), (.int .u8 0), (.int .u8 0), (.int .u8 0), (.int .u8 0), (.int .u8 0), (.int .u8 0), (.int .u8 0), (.int .u8 0), (.int .u8 0), (.int .u8 0), (.int .u8 0), (.int .u8 0), (.int .u8 0), (.int .u8 0), (.int .u8 0), (.int .u8 0), (.int .u8 0), (.int .u8 0), (.int .u8 0), (.int .u8 0), (.int .u8 0), (.int .u8 0), (.int .u8 0), (.int .u8 0), (.int .u8 0), (.int .u8 0), (.int .u8 0), (.int .u8 0), (.int .u8 0), (.int .u8 0), (.int .u8 0), (.int .u8 0)]), true, [], []⟩
def ty445 : TI := ⟨true, 2, 2, (.struct [(0, 1), (1, 1)]), (.agg [(.int .u8 0), (.int .u8 0)]), true, [5, 5], [(.int .u8), (.int .u8)]⟩
def ty446 : TI := ⟨true, 2, 2, (.struct [(0, 1), (1, 1)]), (.agg [(.int .u8 0), (.int .u8 0)]), true, [5, 5], [(.int .u8), (.int .u8)]⟩
def ty447 : TI := ⟨true, 32, 32, (.arr 16 2), (.agg [(.int .u8 0), (.int .u8 0), (.int .u8 0), (.int .u8 0), (.int .u8 0), (.int .u8 0), (.int .u8 0), (.int .u8 0), (.int .u8 0), (.int .u8 0), (.int .u8 0), (.int .u8 0), (.int .u8 0), (.int .u8 0), (.int .u8 0), (.int .u8 0), (.int .u8 0), (.int .u8 0), (.int .u8 0), (.int .u8 0), (.int .u8 0), (.int .u8 0), (.int .u8 0), (.int .u8 0), (.int .u8 0), (.int .u8 0), (.int .u8 0), (.int .u8 0), (.int .u8 0), (.int .u8 0), (.int .u8 0), (.int .u8 0)]), true, [], []⟩
def ty448 : TI := ⟨true, 1, 0, .flat, (.tuple [(.int .u64 0), .niliface]), true, [], []⟩
def ty450 : TI := ⟨true, 3, 48, (.struct [(0, 1), (1, 1), (2, 1)]), (.agg [(.str []), (.str []), .niliface]), true, [9, 9, 91], []⟩
def ty451 : TI := ⟨true, 3, 48, (.struct [(0, 1), (1, 1), (2, 1)]), (.agg [(.str []), (.str []), .niliface]), true, [9, 9, 91], []⟩
def ty453 : TI := ⟨true, 1, 8, (.ptr 422), .nilp, true, [], []⟩
def ty454 : TI := ⟨true, 1, 0, .flat, (.tuple [(.int .i64 0), (.int .i64 0)]), true, [], []⟩
def ty456 : TI := ⟨true, 20, 160, (.arr 20 1), (.agg [(.int .u64 0), (.int .u64 0), (.int .u64 0), (.int .u64 0), (.int .u64 0), (.int .u64 0), (.int .u64 0), (.int .u64 0), (.int .u64 0), (.int .u64 0), (.int .u64 0), (.int .u64 0), (.int .u64 0), (.int .u64 0), (.int .u64 0), (.int .u64 0), (.int .u64 0), (.int .u64 0), (.int .u64 0), (.int .u64 0)]), true, [], []⟩
def ty457 : TI := ⟨true, 65, 65, (.arr 65 1), (.agg [(.int .u8 0), (.int .u8 0), (.int .u8 0), (.int .u8 0), (.int .u8 0), (.int .u8 0), (.int .u8 0), (.int .u8 0), (.int .u8 0), (.int .u8 0), (.int .u8 0), (.int .u8 0), (.int .u8 0), (.int .u8 0), (.int .u8 0), (.int .u8 0), (.int .u8 0), (.int .u8 0), (.int .u8 0), (.int .u8 0), (.int .u8 0), (.int .u8 0), (.int .u8 0), (.int .u8 0), (.int .u8 0), (.int .u8 0), (.int .u8 0), (.int .u8 0), (.int .u8 0), (.int .u8 0), (.int .u8 0), (.int .u8 0), (.int .u8 0), (.int .u8 0), (.int .u8 0), (.int .u8 0), (.int .u8 0), (.int .u8 0), (.int .u8 0), (.int .u8 0), (.int .u8 0), (.int .u8 0), (.int .u8 0), (.int .u8 0), (.int .u8 0), (.int .u8 0), (.int .u8 0), (.int .u8 0), (.int .u8 0), (.int .u8 0), (.int .u8 0), (.int .u8 0), (.int .u8 0), (.int .u8 0), (.int .u8 0), (.int .u8 0), (.int .u8 0), (.int .u8 0), (.int .u8 0), (.int .u8 0), (.int .u8 0), (.int .u8 0), (.int .u8 0), (.int .u8 0), (.int .u8 0)]), true, [], []⟩
def ty460 : TI := ⟨true, 1, 0, .flat, (.tuple [(.str []), (.str [])]), true, [], []⟩
def ty466 : TI := ⟨true, 1, 24, (.slice 426 1 8), .nilsl, true, [], []⟩
def ty474 : TI := ⟨true, 1, 8, (.ptr 476), .nilp, true, [], []⟩
def ty475 : TI := ⟨true, 1, 16, (.struct [(0, 1)]), (.agg [(.str [])]), true, [9], [.str]⟩
def ty476 : TI := ⟨true, 1, 16, (.struct [(0, 1)]), (.agg [(.str [])]), true, [9], [.str]⟩
def ty477 : TI := ⟨true, 1, 24, (.slice 49 1 24), .nilsl, true, [], []⟩
def ty479 : TI := ⟨true, 1, 8, (.ptr 49), .nilp, true, [], []⟩
def ty480 : TI := ⟨true, 1, 24, (.slice 479 1 8), .nilsl, true, [], []⟩
def ty481 : TI := ⟨true, 32, 32, (.arr 32 1), (.agg [(.int .u8 0), (.int .u8 0), (.int .u8 0), (.int .u8 0), (.int .u8 0), (.int .u8 0), (.int .u8 0), (.int .u8 0), (.int .u8 0), (.int .u8 0), (.int .u8 0), (.int .u8 0), (.int .u8 0), (.int .u8 0), (.int .u8 0), (.int .u8 0), (.int .u8 0), (.int .u8 0), (.int .u8 0), (.int .u8 0), (.int .u8 0), (.int .u8 0), (.int .u8 0), (.int .u8 0), (.int .u8 0), (.int .u8 0), (.int .u8 0), (.int .u8 0), (.int .u8 0), (.int .u8 0), (.int .u8 0), (.int .u8 0)]), true, [], []⟩
def ty482 : TI := ⟨true, 64, 64, (.arr 64 1), (.agg [(.int .u8 0), (.int .u8 0), (.int .u8 0), (.int .u8 0), (.int .u8 0), (.int .u8 0), (.int .u8 0), (.int .u8 0), (.int .u8 0), (.int .u8 0), (.int .u8 0), (.int .u8 0), (.int .u8 0), (.int .u8 0), (.int .u8 0), (.int .u8 0), (.int .u8 0), (.int .u8 0), (.int .u8 0), (.int .u8 0), (.int .u8 0), (.int .u8 0), (.int .u8 0), (.int .u8 0), (.int .u8 0), (.int .u8 0), (.int .u8 0), (.int .u8 0), (.int .u8 0), (.int .u8 0), (.int .u8 0), (.int .u8 0), (.int .u8 0), (.int .u8 0), (.int .u8 0), (.int .u8 0), (.int .u8 0), (.int .u8 0), (.int .u8 0), (.int .u8 0), (.int .u8 0), (.int .u8 0), (.int .u8 0), (.int .u8 0), (.int .u8 0), (.int .u8 0), (.int .u8 0), (.int .u8 0), (.int .u8 0), (.int .u8 0), (.int .u8 0), (.int .u8 0), (.int .u8 0), (.int .u8 0), (.int .u8 0), (.int .u8 0), (.int .u8 0), (.int .u8 0), (.int .u8 0), (.int .u8 0), (.int .u8 0), (.int .u8 0), (.int .u8 0), (.int .u8 0)]), true, [], []⟩
def ty484 : TI := ⟨true, 1, 8, (.int .i64), (.int .i64 0), true, [], []⟩
def ty485 : TI := ⟨true, 1, 0, .flat, (.tuple [(.int .i64 0), (.int .i64 0)]), true, [], []⟩
def ty490 : TI := ⟨true, 1, 8, (.int .u64), (.int .u64 0), true, [], []⟩
def ty493 : TI := ⟨true, 1, 8, (.ptr 490), .nilp, true, [], []⟩
def ty495 : TI := ⟨true, 4, 40, (.struct [(0, 1), (1, 1), (2, 1), (3, 1)]), (.agg [.nilp, .nilp, .nilp, (.str [])]), true, [17, 17, 17, 9], []⟩
def ty496 : TI := ⟨true, 4, 40, (.struct [(0, 1), (1, 1), (2, 1), (3, 1)]), (.agg [.nilp, .nilp, .nilp, (.str [])]), true, [17, 17, 17, 9], []⟩
def ty497 : TI := ⟨true, 0, 0, (.arr 0 1), (.agg []), true, [], []⟩
def ty498 : TI := ⟨true, 0, 0, (.struct [(0, 0)]), (.agg []), true, [497], []⟩
def ty499 : TI := ⟨true, 0, 0, (.struct [(0, 0)]), (.agg []), true, [497], []⟩
def ty500 : TI := ⟨true, 1, 1, (.int .u8), (.int .u8 0), true, [], []⟩
def ty501 : TI := ⟨true, 1, 1, (.int .u8), (.int .u8 0), true, [], []⟩
def ty503 : TI := ⟨true, 1, 4, (.int .i32), (.int .i32 0), true, [], []⟩
def ty504 : TI := ⟨true, 1, 4, (.int .i32), (.int .i32 0), true, [], []⟩
def ty505 : TI := ⟨true, 11, 48, (.struct [(0, 1), (1, 1), (2, 1), (3, 1), (4, 1), (5, 1), (6, 1), (7, 1), (8, 1), (9, 1), (10, 1)]), (.agg [(.int .u64 0), (.int .u64 0), (.int .u32 0), (.int .u8 0), (.int .u8 0), (.int .u8 0), (.int .u8 0), .nilfunc, .nilp, (.int .i32 0), (.int .i32 0)]), true, [12, 12, 131, 500, 5, 5, 501, 502, 151, 503, 504], []⟩
def ty506 : TI := ⟨true, 11, 48, (.struct [(0, 1), (1, 1), (2, 1), (3, 1), (4, 1), (5, 1), (6, 1), (7, 1), (8, 1), (9, 1), (10, 1)]), (.agg [(.int .u64 0), (.int .u64 0), (.int .u32 0), (.int .u8 0), (.int .u8 0), (.int .u8 0), (.int .u8 0), .nilfunc, .nilp, (.int .i32 0), (.int .i32 0)]), true, [12, 12, 131, 500, 5, 5, 501, 502, 151, 503, 504], []⟩
def ty507 : TI := ⟨true, 2, 24, (.struct [(0, 1), (1, 1)]), (.agg [(.str []), (.int .u8 0)]), true, [9, 501], []⟩
def ty508 : TI := ⟨true, 2, 24, (.struct [(0, 1), (1, 1)]), (.agg [(.str []), (.int .u8 0)]), true, [9, 501], []⟩
def tyTree : TT := (.node (.node (.node (.node (.node (.node (.node (.node .leaf 0 ty0 .leaf) 2 ty2 (.node .leaf 3 ty3 .leaf)) 4 ty4 (.node (.node .leaf 5 ty5 .leaf) 6 ty6 .leaf)) 7 ty7 (.node (.node (.node .leaf 8 ty8 .leaf) 9 ty9 (.node .leaf 10 ty10 .leaf)) 11 ty11 (.node (.node .leaf 12 ty12 .leaf) 13 ty13 .leaf))) 14 ty14 (.node (.node (.node (.node .leaf 15 ty15 .leaf) 16 ty16 (.node .leaf 17 ty17 .leaf)) 18 ty18 (.node (.node .leaf 19 ty19 .leaf) 20 ty20 .leaf)) 21 ty21 (.node (.node (.node .leaf 22 ty22 .leaf) 23 ty23 (.node .leaf 25 ty25 .leaf)) 26 ty26 (.node (.node .leaf 28 ty28 .leaf) 29 ty29 .leaf)))) 30 ty30 (.node (.node (.node (.node (.node .leaf 31 ty31 .leaf) 37 ty37 (.node .leaf 38 ty38 .leaf)) 39 ty39 (.node (.node .leaf 42 ty42 .leaf) 43 ty43 .leaf)) 44 ty44 (.node (.node (.node .leaf 45 ty45 .leaf) 47 ty47 (.node .leaf 48 ty48 .leaf)) 49 ty49 (.node (.node .leaf 50 ty50 .leaf) 51 ty51 .leaf))) 52 ty52 (.node (.node (.node (.node .leaf 53 ty53 .leaf) 54 ty54 (.node .leaf 55 ty55 .leaf)) 56 ty56 (.node (.node .leaf 57 ty57 .leaf) 58 ty58 .leaf)) 59 ty59 (.node (.node (.node .leaf 60 ty60 .leaf) 61 ty61 .leaf) 62 ty62 (.node (.node .leaf 63 ty63 .leaf) 65 ty65 .leaf))))) 66 ty66 (.node (.node (.node (.node (.node (.node .leaf 67 ty67 .leaf) 74 ty74 (.node .leaf 81 ty81 .leaf)) 82 ty82 (.node (.node .leaf 83 ty83 .leaf) 87 ty87 .leaf)) 88 ty88 (.node (.node (.node .leaf 89 ty89 .leaf) 90 ty90 (.node .leaf 91 ty91 .leaf)) 92 ty92 (.node (.node .leaf 95 ty95 .leaf) 97 ty97 .leaf))) 98 ty98 (.node (.node (.node (.node .leaf 103 ty103 .leaf) 111 ty111 (.node .leaf 113 ty113 .leaf)) 114 ty114 (.node (.node .leaf 117 ty117 .leaf) 118 ty118 .leaf)) 120 ty120 (.node (.node (.node .leaf 122 ty122 .leaf) 123 ty123 .leaf) 125 ty125 (.node (.node .leaf 126 ty126 .leaf) 127 ty127 .leaf)))) 128 ty128 (.node (.node (.node (.node (.node .leaf 131 ty131 .leaf) 132 ty132 (.node .leaf 134 ty134 .leaf)) 142 ty142 (.node (.node .leaf 143 ty143 .leaf) 151 ty151 .leaf)) 155 ty155 (.node (.node (.node .leaf 160 ty160 .leaf) 161 ty161 (.node .leaf 172 ty172 .leaf)) 173 ty173 (.node (.node .leaf 178 ty178 .leaf) 179 ty179 .leaf))) 180 ty180 (.node (.node (.node (.node .leaf 183 ty183 .leaf) 184 ty184 (.node .leaf 186 ty186 .leaf)) 188 ty188 (.node (.node .leaf 189 ty189 .leaf) 193 ty193 .leaf)) 199 ty199 (.node (.node (.node .leaf 201 ty201 .leaf) 202 ty202 .leaf) 209 ty209 (.node (.node .leaf 212 ty212 .leaf) 213 ty213 .leaf)))))) 219 ty219 (.node (.node (.node (.node (.node (.node (.node .leaf 220 ty220 .leaf) 223 ty223 (.node .leaf 225 ty225 .leaf)) 226 ty226 (.node (.node .leaf 227 ty227 .leaf) 228 ty228 .leaf)) 229 ty229 (.node (.node (.node .leaf 241 ty241 .leaf) 243 ty243 (.node .leaf 245 ty245 .leaf)) 246 ty246 (.node (.node .leaf 247 ty247 .leaf) 248 ty248 .leaf))) 251 ty251 (.node (.node (.node (.node .leaf 252 ty252 .leaf) 253 ty253 (.node .leaf 254 ty254 .leaf)) 257 ty257 (.node (.node .leaf 262 ty262 .leaf) 263 ty263 .leaf)) 267 ty267 (.node (.node (.node .leaf 278 ty278 .leaf) 279 ty279 .leaf) 284 ty284 (.node (.node .leaf 285 ty285 .leaf) 289 ty289 .leaf)))) 301 ty301 (.node (.node (.node (.node (.node .leaf 303 ty303 .leaf) 304 ty304 (.node .leaf 305 ty305 .leaf)) 328 ty328 (.node (.node .leaf 329 ty329 .leaf) 330 ty330 .leaf)) 336 ty336 (.node (.node (.node .leaf 337 ty337 .leaf) 346 ty346 (.node .leaf 348 ty348 .leaf)) 358 ty358 (.node (.node .leaf 361 ty361 .leaf) 363 ty363 .leaf))) 364 ty364 (.node (.node (.node (.node .leaf 369 ty369 .leaf) 374 ty374 (.node .leaf 376 ty376 .leaf)) 377 ty377 (.node (.node .leaf 378 ty378 .leaf) 382 ty382 .leaf)) 383 ty383 (.node (.node (.node .leaf 389 ty389 .leaf) 392 ty392 .leaf) 396 ty396 (.node (.node .leaf 397 ty397 .leaf) 399 ty399 .leaf))))) 400 ty400 (.node (.node (.node (.node (.node (.node .leaf 402 ty402 .leaf) 403 ty403 (.node .leaf 405 ty405 .leaf)) 412 ty412 (.node (.node .leaf 413 ty413 .leaf) 415 ty415 .leaf)) 416 ty416 (.node (.node (.node .leaf 418 ty418 .leaf) 419 ty419 (.node .leaf 422 ty422 .leaf)) 426 ty426 (.node (.node .leaf 429 ty429 .leaf) 431 ty431 .leaf))) 434 ty434 (.node (.node (.node (.node .leaf 436 ty436 .leaf) 444 ty444 (.node .leaf 445 ty445 .leaf)) 446 ty446 (.node (.node .leaf 447 ty447 .leaf) 448 ty448 .leaf)) 450 ty450 (.node (.node (.node .leaf 451 ty451 .leaf) 453 ty453 .leaf) 454 ty454 (.node (.node .leaf 456 ty456 .leaf) 457 ty457 .leaf)))) 460 ty460 (.node (.node (.node (.node (.node .leaf 466 ty466 .leaf) 474 ty474 (.node .leaf 475 ty475 .leaf)) 476 ty476 (.node (.node .leaf 477 ty477 .leaf) 479 ty479 .leaf)) 480 ty480 (.node (.node (.node .leaf 481 ty481 .leaf) 482 ty482 (.node .leaf 484 ty484 .leaf)) 485 ty485 (.node (.node .leaf 490 ty490 .leaf) 493 ty493 .leaf))) 495 ty495 (.node (.node (.node (.node .leaf 496 ty496 .leaf) 497 ty497 (.node .leaf 498 ty498 .leaf)) 499 ty499 (.node (.node .leaf 500 ty500 .leaf) 501 ty501 .leaf)) 503 ty503 (.node (.node (.node .leaf 504 ty504 .leaf) 505 ty505 .leaf) 506 ty506 (.node (.node .leaf 507 ty507 .leaf) 508 ty508 .leaf)))))))
set_option maxRecDepth 100000 in
theorem tyTree_eq : tyTree.toList.map (fun p => ti Tryz.prog p.1) = tyTree.toList.map (·.2) := by kernel_rfl
noncomputable def tyT (t : TypeId) : TI := match tyTree.get t with | some v => v | none => ti Tryz.prog t
theorem tyT_eq : tyT = ti Tryz.prog := TT.eq_of tyTree_eq
def tab0 : List Int := [31, 28, 31, 30, 31, 30, 31, 31, 30, 31, 30, 31]
def tab2 : List Int := [1, 10, 100, 1000, 10000, 100000, 1000000, 10000000, 100000000, 1000000000, 10000000000, 100000000000, 1000000000000, 10000000000000, 100000000000000, 1000000000000000, 10000000000000000, 100000000000000000, 1000000000000000000, 10000000000000000000]
structure MX where
 m : Int
 a : TypeId
 b : TypeId
def gl0 (mx : MX) (g : Nat) : List V := match g with
 | 0 => [.int .i64 mx.m]
 | 1 => tab0.map (vI .i64)
 | 4 => [.iface mx.a .junk]
 | 5 => [.iface mx.b .junk]
 | 6 => tab2.map (vI .u64)
 | _ => []
section
variable {gl : Nat → List V} {ops : Array Oper} {K : AFr → St → Prop} {s0 : St} {cs : List Code} {AQ : Exit → AFr → St → Prop} {id : Nat} {fr fr' : AFr} {st st' : St} {i : Nat} {x : Cfg} {E : List Nat} {B : List (List Nat)} {rest seen : List Nat} {fx : List (Nat × Option V × V)}
theorem kP (k : Nat) {q : Option V} {v : V} (hq : q = some v) (h : aOpsC Tryz.prog gl ops (k + 1) (putX (runX tyT gl ops i k x) (dstAt ops k) v) K)
  (hik : Nat.ble i k = true := by kernel_rfl) (he : stepX tyT gl ops i k x = withSt q (runX tyT gl ops i k x).2 := by kernel_rfl) : aOpsC Tryz.prog gl ops i x K := c_pure tyT_eq k hq hik he h
theorem kC (k : Nat) (R : Ren) {f : FuncId} {args1 : List V} {st1 st1' : St} {r : V} (hc : ACalls Tryz.prog gl f args1 st1 (Out r st1'))
  (h : aOpsC Tryz.prog gl ops (k + 1) (setX (runX tyT gl ops i k x) (dstAt ops k) (V.ren R r) (fun st => St.after R st st1')) K)
  (hb : goB tyT gl ops i k x R f args1 st1 = true := by kernel_rfl) (he : callL R st1 args1 = goR tyT gl ops i k x R args1 st1 := by kernel_rfl) : aOpsC Tryz.prog gl ops i x K := c_go tyT_eq k R hc hb he h
theorem kA (k t : Nat) {α : Type} (c : α → List V) {l l2 l' : List α} {e e2 : TypeId} {sz bytes b2 : Nat} {tok2 : Tok} (h1 : lapp bytes l l2 = some l')
  (h : aOpsC Tryz.prog gl ops (k + 1) (setX (runX tyT gl ops i k x) (dstAt ops k) (.sl sz (l'.map c) (.fam t l'.length)) (fun st => st.setFam t l'.length)) K)
  (hb : (Nat.ble i k && appOk tyT e sz bytes) = true := by kernel_rfl) (he : ((runX tyT gl ops i k x).2.fams[t]?, stepX tyT gl ops i k x) = (some l.length, aappendT tyT (runX tyT gl ops i k x).2 (.slice e sz bytes) (.slice e2 sz b2) (.sl sz (l.map c) (.fam t l.length)) (.sl sz (l2.map c) tok2)) := by kernel_rfl) : aOpsC Tryz.prog gl ops i x K := c_app tyT_eq k t c h1 hb he h
theorem kS (k : Nat) (s : List UInt8) (h : aOpsC Tryz.prog gl ops (k + 1) (putX (runX tyT gl ops i k x) (dstAt ops k) (.sl 1 ((s2b s).map (cI .u8)) .none)) K)
  (hik : Nat.ble i k = true := by kernel_rfl) (he : stepX tyT gl ops i k x = withSt (some (.sl 1 (byteRow s) .none)) (runX tyT gl ops i k x).2 := by kernel_rfl) : aOpsC Tryz.prog gl ops i x K := c_s2b tyT_eq k s hik he h
theorem kB (k : Nat) (l : List Int) (h : aOpsC Tryz.prog gl ops (k + 1) (putX (runX tyT gl ops i k x) (dstAt ops k) (.str (b2s l))) K)
  (hik : Nat.ble i k = true := by kernel_rfl) (he : stepX tyT gl ops i k x = withSt (match toBytes (l.map (cI .u8)) with | some b => some (.str b) | none => none) (runX tyT gl ops i k x).2 := by kernel_rfl) : aOpsC Tryz.prog gl ops i x K := c_b2s tyT_eq k l hik he h
theorem kV (k m f id : Nat) {cell : Option (List V)} {q : St → Option (V × St)} {v : V} {F : St → St} (hq : ∀ st : St, st.vars.length = m → st.fams.length = f → st.vars[id]? = cell → q st = some (v, F st))
  (h : aOpsC Tryz.prog gl ops (k + 1) (setX (runX tyT gl ops i k x) (dstAt ops k) v F) K) (hik : Nat.ble i k = true := by kernel_rfl)
  (he : ((runX tyT gl ops i k x).2.vars.length, (runX tyT gl ops i k x).2.fams.length, (runX tyT gl ops i k x).2.vars[id]?, stepX tyT gl ops i k x) = (m, f, cell, q (runX tyT gl ops i k x).2) := by kernel_rfl) : aOpsC Tryz.prog gl ops i x K := c_effv tyT_eq k m f id hq hik he h
theorem kL (k : Nat) {v : V} {cells : List V} (h : aOpsC Tryz.prog gl ops (k + 1) (setX (runX tyT gl ops i k x) (dstAt ops k) v (fun st => st.push [.buf cells])) K)
  (hik : Nat.ble i k = true := by kernel_rfl) (he : litX tyT gl ops i k x = some (v, cells) := by kernel_rfl) : aOpsC Tryz.prog gl ops i x K := c_lit tyT_eq k hik he h
theorem dV {fx : List (Nat × Option V × V)} (hf : fxOk fx) (m f id : Nat) {cell : Option (List V)} {q : St → Option (V × St)} {v : V} {F : St → St} (hq : ∀ st : St, st.vars.length = m → st.fams.length = f → st.vars[id]? = cell → q st = some (v, F st))
  (h : aDC Tryz.prog gl ops E B rest (i :: seen) (setX x (dstAt ops i) v F) K) (hb : E.contains i = true := by kernel_rfl)
  (he : (x.2.vars.length, x.2.fams.length, x.2.vars[id]?, oneX tyT gl ops i x) = (m, f, cell, q x.2) := by kernel_rfl)
  (hs : (stX tyT gl ops E B i seen (setX x (dstAt ops i) v F), svX ops E B fx i seen (setX x (dstAt ops i) v F)) = (stY tyT gl ops E B fx i seen (setX x (dstAt ops i) v F), svY ops E B fx i seen (setX x (dstAt ops i) v F)) := by kernel_rfl) : aDC Tryz.prog gl ops E B (i :: rest) seen x K := d_effv tyT_eq hf m f id hq hb he hs h
theorem kE (R : Ren) (hb : endB tyT gl ops i x s0 R fr' st' = true := by kernel_rfl) (he : wkL R fr' st' = endR tyT gl ops i x R fr' st' := by kernel_rfl) : aOpsC Tryz.prog gl ops i x (toW s0 fr' st') := c_end tyT_eq R hb he
theorem reg {c : Code} (fr' : AFr) (st' : St) (h : aOpsC Tryz.prog gl ops 0 (fr, st) (toW s0 fr' st')) (h2 : BCodes Tryz.prog gl s0 (c :: cs) AQ fr' st') : BCodes Tryz.prog gl s0 (.region id ops false :: c :: cs) AQ fr st := c_reg fr' st' cl_cons h h2
theorem regN (fr' : AFr) (st' : St) (hcl : Cl s0 (AQ .normal)) (h : aOpsC Tryz.prog gl ops 0 (fr, st) (toW s0 fr' st')) (h2 : BCodes Tryz.prog gl s0 [] AQ fr' st') : BCodes Tryz.prog gl s0 [.region id ops false] AQ fr st := c_reg fr' st' (cl_nil hcl) h h2
theorem drw {c : Code} (order E : List Nat) (B : List (List Nat)) (fr' : AFr) (st' : St) (h : aDC Tryz.prog gl ops E B order [] (fr, st) (toW s0 fr' st')) (h2 : BCodes Tryz.prog gl s0 (c :: cs) AQ fr' st')
  (hm : Tryz.prog.follows .mixedOrders = true := by kernel_rfl) (hc : drawChk ops fr.n order E B = true := by kernel_rfl) : BCodes Tryz.prog gl s0 (.region id ops true :: c :: cs) AQ fr st := c_draw order E B fr' st' hm hc cl_cons h h2
theorem dS (os : List Nat) (h : aDC Tryz.prog gl ops E B rest (os.reverse ++ seen) (segV tyT gl ops E os x) K) (hb : segB tyT gl ops E os x = true := by kernel_rfl) : aDC Tryz.prog gl ops E B (os ++ rest) seen x K := d_seg tyT_eq os hb h
theorem dP {q : Option V} {v : V} (hq : q = some v) (h : aDC Tryz.prog gl ops E B rest (i :: seen) (putX x (dstAt ops i) v) K) (hb : stillB ops E i = true := by kernel_rfl) (he : oneX tyT gl ops i x = withSt q x.2 := by kernel_rfl) : aDC Tryz.prog gl ops E B (i :: rest) seen x K := d_pure tyT_eq hq hb he h
theorem dF (hf : fxOk fx) (h : aDC Tryz.prog gl ops E B rest (i :: seen) (effX tyT gl ops i x) K) (hb : effB tyT gl ops E i x = true := by kernel_rfl)
  (hs : (stX tyT gl ops E B i seen (effX tyT gl ops i x), svX ops E B fx i seen (effX tyT gl ops i x)) = (stY tyT gl ops E B fx i seen (effX tyT gl ops i x), svY ops E B fx i seen (effX tyT gl ops i x)) := by kernel_rfl) : aDC Tryz.prog gl ops E B (i :: rest) seen x K := d_eff tyT_eq hf hb hs h
theorem dC (hf : fxOk fx) (R : Ren) {f : FuncId} {args1 : List V} {st1 st1' : St} {r : V} (hc : ACalls Tryz.prog gl f args1 st1 (Out r st1')) (h : aDC Tryz.prog gl ops E B rest (i :: seen) (setX x (dstAt ops i) (V.ren R r) (fun st => St.after R st st1')) K)
  (hb : goDB ops E i x R f args1 st1 = true := by kernel_rfl) (he : callL R st1 args1 = goDR ops i x R args1 st1 := by kernel_rfl)
  (hs : (stX tyT gl ops E B i seen (setX x (dstAt ops i) (V.ren R r) (fun st => St.after R st st1')), svX ops E B fx i seen (setX x (dstAt ops i) (V.ren R r) (fun st => St.after R st st1'))) = (stY tyT gl ops E B fx i seen (setX x (dstAt ops i) (V.ren R r) (fun st => St.after R st st1')), svY ops E B fx i seen (setX x (dstAt ops i) (V.ren R r) (fun st => St.after R st st1'))) := by kernel_rfl) : aDC Tryz.prog gl ops E B (i :: rest) seen x K := d_go tyT_eq hf R hc hb he hs h
theorem dA (hf : fxOk fx) (t : Nat) {α : Type} (c : α → List V) {l l2 l' : List α} {e e2 : TypeId} {sz bytes b2 : Nat} {tok2 : Tok} (h1 : lapp bytes l l2 = some l')
  (h : aDC Tryz.prog gl ops E B rest (i :: seen) (setX x (dstAt ops i) (.sl sz (l'.map c) (.fam t l'.length)) (fun st => st.setFam t l'.length)) K)
  (hb : (E.contains i && appOk tyT e sz bytes) = true := by kernel_rfl) (he : (x.2.fams[t]?, oneX tyT gl ops i x) = (some l.length, aappendT tyT x.2 (.slice e sz bytes) (.slice e2 sz b2) (.sl sz (l.map c) (.fam t l.length)) (.sl sz (l2.map c) tok2)) := by kernel_rfl)
  (hs : (stX tyT gl ops E B i seen (setX x (dstAt ops i) (.sl sz (l'.map c) (.fam t l'.length)) (fun st => st.setFam t l'.length)), svX ops E B fx i seen (setX x (dstAt ops i) (.sl sz (l'.map c) (.fam t l'.length)) (fun st => st.setFam t l'.length))) = (stY tyT gl ops E B fx i seen (setX x (dstAt ops i) (.sl sz (l'.map c) (.fam t l'.length)) (fun st => st.setFam t l'.length)), svY ops E B fx i seen (setX x (dstAt ops i) (.sl sz (l'.map c) (.fam t l'.length)) (fun st => st.setFam t l'.length))) := by kernel_rfl) : aDC Tryz.prog gl ops E B (i :: rest) seen x K := d_app tyT_eq hf t c h1 hb he hs h
theorem dE (R : Ren) (hb : wkB s0 R x.1 x.2 fr' st' = true := by kernel_rfl) (he : wkL R fr' st' = wkR R x.1 x.2 fr' st' := by kernel_rfl) : aDC Tryz.prog gl ops E B [] seen x (toW s0 fr' st') := d_end R hb he
theorem wk (R : Ren) (hb : wkB s0 R fr st fr' st' = true := by kernel_rfl) (he : wkL R fr' st' = wkR R fr st fr' st' := by kernel_rfl) : Wk s0 fr st fr' st' := Wk.gen R hb he
theorem rm {c : Code} (ks : List Nat) (new : List (Nat × V)) (st' : St) (h : aOpsC Tryz.prog gl ops 0 (fr, st) (toW s0 (carF fr ks new) st')) (h2 : BCodes Tryz.prog gl s0 (c :: cs) AQ (carF fr ks new) st') : BCodes Tryz.prog gl s0 (.region id ops false :: c :: cs) AQ fr st := c_reg _ _ cl_cons h h2
theorem rs {c : Code} (ks : List Nat) (new : List (Nat × V)) (h : aOpsC Tryz.prog gl ops 0 (fr, st) (toW s0 (carF fr ks new) st)) (h2 : BCodes Tryz.prog gl s0 (c :: cs) AQ (carF fr ks new) st) : BCodes Tryz.prog gl s0 (.region id ops false :: c :: cs) AQ fr st := c_reg _ _ cl_cons h h2
theorem zm {c : Code} (order E : List Nat) (B : List (List Nat)) (ks : List Nat) (new : List (Nat × V)) (st' : St) (h : aDC Tryz.prog gl ops E B order [] (fr, st) (toW s0 (carF fr ks new) st')) (h2 : BCodes Tryz.prog gl s0 (c :: cs) AQ (carF fr ks new) st')
  (hm : Tryz.prog.follows .mixedOrders = true := by kernel_rfl) (hc : drawChk ops fr.n order E B = true := by kernel_rfl) : BCodes Tryz.prog gl s0 (.region id ops true :: c :: cs) AQ fr st := c_draw order E B _ _ hm hc cl_cons h h2
theorem zs {c : Code} (order E : List Nat) (B : List (List Nat)) (ks : List Nat) (new : List (Nat × V)) (h : aDC Tryz.prog gl ops E B order [] (fr, st) (toW s0 (carF fr ks new) st)) (h2 : BCodes Tryz.prog gl s0 (c :: cs) AQ (carF fr ks new) st)
  (hm : Tryz.prog.follows .mixedOrders = true := by kernel_rfl) (hc : drawChk ops fr.n order E B = true := by kernel_rfl) : BCodes Tryz.prog gl s0 (.region id ops true :: c :: cs) AQ fr st := c_draw order E B _ _ hm hc cl_cons h h2
theorem zmN (hcl : Cl s0 (AQ .normal)) (order E : List Nat) (B : List (List Nat)) (ks : List Nat) (new : List (Nat × V)) (st' : St) (h : aDC Tryz.prog gl ops E B order [] (fr, st) (toW s0 (carF fr ks new) st')) (h2 : BCodes Tryz.prog gl s0 [] AQ (carF fr ks new) st')
  (hm : Tryz.prog.follows .mixedOrders = true := by kernel_rfl) (hc : drawChk ops fr.n order E B = true := by kernel_rfl) : BCodes Tryz.prog gl s0 [.region id ops true] AQ fr st := c_draw order E B _ _ hm hc (cl_nil hcl) h h2
theorem bF {α : Type} {c : Operand} {x y : Code} {t : Bool} {a b : Option α} {r : α} (h : (if t = true then a else b) = some r) (h1 : a = some r → BCodes Tryz.prog gl s0 (x :: cs) AQ fr st) (h2 : b = some r → BCodes Tryz.prog gl s0 (y :: cs) AQ fr st) (hc : fr.eval c = .bool t := by kernel_rfl) : BCodes Tryz.prog gl s0 (.cond c x y :: cs) AQ fr st :=
 b_if t hc (fun hb => h1 (ite_t hb h)) (fun hb => h2 (ite_f hb h))
theorem bT {c : Operand} {x y : Code} (h1 : BCodes Tryz.prog gl s0 (x :: cs) AQ fr st) (hc : fr.eval c = .bool true := by kernel_rfl) : BCodes Tryz.prog gl s0 (.cond c x y :: cs) AQ fr st := b_if true hc (fun _ => h1) (fun hb => Bool.noConfusion hb)
theorem bN {c : Operand} {x y : Code} (h2 : BCodes Tryz.prog gl s0 (y :: cs) AQ fr st) (hc : fr.eval c = .bool false := by kernel_rfl) : BCodes Tryz.prog gl s0 (.cond c x y :: cs) AQ fr st := b_if false hc (fun hb => Bool.noConfusion hb) (fun _ => h2)
theorem gF {α : Type} (k d : Nat) {b : Bool} {a a' : Option α} {r : α} (h : (if b = true then a else a') = some r) (ht : a = some r → aOpsC Tryz.prog gl ops k (putX (runX tyT gl ops i k x) (some d) (.bool true)) K) (hf : a' = some r → aOpsC Tryz.prog gl ops k (putX (runX tyT gl ops i k x) (some d) (.bool false)) K)
  (hik : Nat.ble i k = true := by kernel_rfl) (he : guardX tyT gl ops i k x = some (d, .bool b) := by kernel_rfl) : aOpsC Tryz.prog gl ops i x K := c_guard tyT_eq k d b hik he (fun hb => ht (ite_t hb h)) (fun hb => hf (ite_f hb h))
theorem hF {α : Type} (d : Nat) {b : Bool} {a a' : Option α} {r : α} (h : (if b = true then a else a') = some r) (ht : a = some r → aDC Tryz.prog gl ops E B (i :: rest) seen (putX x (some d) (.bool true)) K) (hf : a' = some r → aDC Tryz.prog gl ops E B (i :: rest) seen (putX x (some d) (.bool false)) K)
  (he : guardI ops i x = some (d, .bool b) := by kernel_rfl) : aDC Tryz.prog gl ops E B (i :: rest) seen x K := d_guard d b he (fun hb => ht (ite_t hb h)) (fun hb => hf (ite_f hb h))
theorem fnc {f : FuncId} {fn : Func} {c : Code} {args : List V} {Q : V → St → Prop} (hf : Tryz.prog.funcs[f]? = some fn) (hb : fn.body = some c) (h : BCodes Tryz.prog gl st [c] (bodyB Tryz.prog gl st fn Q) (argFr fn.ntmps args) st)
  (hn : (fn.name == "runtime.NumGoroutine") = false := by kernel_rfl) (hl : Nat.ble args.length fn.ntmps = true := by kernel_rfl) : ACalls Tryz.prog gl f args st Q := ACalls.ofB hf hb hn (Nat.le_of_ble_eq_true hl) h
theorem rt {fn : Func} {r : V} (R : Ren)
  (hb : ((aresultsT tyT gl fr st fn.results.toList).isSome && wkB s0 R ⟨1, [(0, resV tyT gl fr st fn.results.toList)]⟩ st ⟨1, [(0, r)]⟩ st') = true := by kernel_rfl)
  (hl : wkL R ⟨1, [(0, r)]⟩ st' = wkR R ⟨1, [(0, resV tyT gl fr st fn.results.toList)]⟩ st ⟨1, [(0, r)]⟩ st' := by kernel_rfl) : bodyB Tryz.prog gl s0 fn (Out r st') .ret fr st := b_end tyT_eq R (.inr rfl) hb hl
theorem rno {fn : Func} {r : V} (R : Ren)
  (hb : ((aresultsT tyT gl fr st fn.results.toList).isSome && wkB s0 R ⟨1, [(0, resV tyT gl fr st fn.results.toList)]⟩ st ⟨1, [(0, r)]⟩ st') = true := by kernel_rfl)
  (hl : wkL R ⟨1, [(0, r)]⟩ st' = wkR R ⟨1, [(0, resV tyT gl fr st fn.results.toList)]⟩ st ⟨1, [(0, r)]⟩ st' := by kernel_rfl) : bodyB Tryz.prog gl s0 fn (Out r st') .normal fr st := b_end tyT_eq R (.inl rfl) hb hl
end
abbrev AC (mx : MX) (f : FuncId) (args : List V) (s : List (List V)) (r : V) (s' : List (List V)) : Prop := ACalls Tryz.prog (gl0 mx) f args ⟨s, []⟩ (Out r ⟨s', []⟩)
abbrev ACg (mx : MX) (f : FuncId) (args : List V) (s : List (List V)) (fs0 : List Nat) (r : V) (s' : List (List V)) (fs : List Nat) : Prop := ACalls Tryz.prog (gl0 mx) f args ⟨s, fs0⟩ (Out r ⟨s', fs⟩)
def oer (t : Nat) (e : Option Unit) : V := match e with | none => .niliface | some _ => .iface t .junk
section
variable {gl : Nat → List V} {ops : Array Oper} {s0 : St} {cs : List Code} {AQ : Exit → AFr → St → Prop} {id : Nat} {fr : AFr} {st : St} {i : Nat} {x y : Cfg} {c : Code}
theorem ed (hb : endOk tyT gl ops i x = true := by kernel_rfl) : aOpsC Tryz.prog gl ops i x (toW s0 (endC tyT gl ops i x).1 (endC tyT gl ops i x).2) := c_stop tyT_eq hb
theorem rg (h2 : BCodes Tryz.prog gl s0 (c :: cs) AQ (endC tyT gl ops 0 (fr, st)).1 (endC tyT gl ops 0 (fr, st)).2) (hb : endOk tyT gl ops 0 (fr, st) = true := by kernel_rfl) : BCodes Tryz.prog gl s0 (.region id ops false :: c :: cs) AQ fr st := c_regY (y := (fr, st)) (c_stop tyT_eq hb) h2
theorem rgN (hcl : Cl s0 (AQ .normal)) (h2 : AQ .normal (endC tyT gl ops 0 (fr, st)).1 (endC tyT gl ops 0 (fr, st)).2) (hb : endOk tyT gl ops 0 (fr, st) = true := by kernel_rfl) : BCodes Tryz.prog gl s0 [.region id ops false] AQ fr st := c_regYN (y := (fr, st)) hcl (c_stop tyT_eq hb) h2
theorem rC (h : aOpsC Tryz.prog gl ops 0 (fr, st) (toW s0 y.1 y.2)) (h2 : BCodes Tryz.prog gl s0 (c :: cs) AQ y.1 y.2) : BCodes Tryz.prog gl s0 (.region id ops false :: c :: cs) AQ fr st := c_regY (y := (fr, st)) h h2
theorem rCN (hcl : Cl s0 (AQ .normal)) (h : aOpsC Tryz.prog gl ops 0 (fr, st) (toW s0 y.1 y.2)) (h2 : AQ .normal y.1 y.2) : BCodes Tryz.prog gl s0 [.region id ops false] AQ fr st := c_regYN (y := (fr, st)) hcl h h2
end
def Im (p q : Prop) : Prop := p → q
section
variable {gl : Nat → List V} {ops : Array Oper} {K : AFr → St → Prop} {s0 : St} {c d : Code} {cs : List Code} {AQ : Exit → AFr → St → Prop} {id : Nat} {fr fr' : AFr} {st st' : St} {i : Nat} {x : Cfg} {E : List Nat} {B : List (List Nat)} {rest seen : List Nat} {fx : List (Nat × Option V × V)} {p Q : Prop}
theorem fnL {f : FuncId} {fn : Func} {args : List V} {Q : V → St → Prop} (hf : Tryz.prog.funcs[f]? = some fn) (hb : fn.body = some c) (h : Im (p) (BCodes Tryz.prog gl st (flat c []) (bodyB Tryz.prog gl st fn Q) (argFr fn.ntmps args) st)) (hn : (fn.name == "runtime.NumGoroutine") = false := by kernel_rfl) (hl : Nat.ble args.length fn.ntmps = true := by kernel_rfl) : Im (p) (ACalls Tryz.prog gl f args st Q) := fun k => fnc hf hb (b_flat _ (h k)) hn hl
theorem bEL {α β : Type} {x : Option α} {f : α → Option β} {y : β} (k : ∀ a, x = some a → Im (f a = some y) (Q)) : Im (x.bind f = some y) (Q) := fun h => bE h k
theorem lfL {A : Prop} (f : A → Q) (t : Im (p) (A)) : Im (p) (Q) := fun z => f (t z)
theorem imA (h : p) (t : Im (p) (Q)) : Q := t h
inductive Tg (R : Ren) : Prop | mk
theorem rtT {fn : Func} {r : V} {R : Ren} (_ : Tg R) (hb : ((aresultsT tyT gl fr st fn.results.toList).isSome && wkB s0 R ⟨1, [(0, resV tyT gl fr st fn.results.toList)]⟩ st ⟨1, [(0, r)]⟩ st') = true := by kernel_rfl)
  (hl : wkL R ⟨1, [(0, r)]⟩ st' = wkR R ⟨1, [(0, resV tyT gl fr st fn.results.toList)]⟩ st ⟨1, [(0, r)]⟩ st' := by kernel_rfl) : bodyB Tryz.prog gl s0 fn (Out r st') .ret fr st := rt R hb hl
theorem rnT {fn : Func} {r : V} {R : Ren} (_ : Tg R) (hb : ((aresultsT tyT gl fr st fn.results.toList).isSome && wkB s0 R ⟨1, [(0, resV tyT gl fr st fn.results.toList)]⟩ st ⟨1, [(0, r)]⟩ st') = true := by kernel_rfl)
  (hl : wkL R ⟨1, [(0, r)]⟩ st' = wkR R ⟨1, [(0, resV tyT gl fr st fn.results.toList)]⟩ st ⟨1, [(0, r)]⟩ st' := by kernel_rfl) : bodyB Tryz.prog gl s0 fn (Out r st') .normal fr st := rno R hb hl
theorem keT {R : Ren} (_ : Tg R) (hb : endB tyT gl ops i x s0 R fr' st' = true := by kernel_rfl) (he : wkL R fr' st' = endR tyT gl ops i x R fr' st' := by kernel_rfl) : aOpsC Tryz.prog gl ops i x (toW s0 fr' st') := kE R hb he
theorem rJ {P : Prop} (R : Ren) (q : Tg R → P := by intro t h; cases h; exact rtT t) : P := q .mk
theorem nJ {P : Prop} (R : Ren) (q : Tg R → P := by intro t h; cases h; exact rnT t) : P := q .mk
theorem eJ {P : Prop} (R : Ren) (q : Tg R → P := by intro t h; cases h; exact keT t) : P := q .mk
theorem nEL {α : Type} {r : α} : Im ((none : Option α) = some r) (Q) := fun h => nomatch h
theorem hvL {R Y Z : Type} {o : Ctl R Y} {g : R → Option Z} {x : R} {r : Z} (hr : ∀ x, o = .ret x → g x = some r) (t : Im (g x = some r) (Q)) : Im (some (.ret x) = some o) (Q) := fun h => t (hr _ (sI h))
theorem rgL (h2 : Im (p) (BCodes Tryz.prog gl s0 (c :: cs) AQ (endC tyT gl ops 0 (fr, st)).1 (endC tyT gl ops 0 (fr, st)).2)) (hb : endOk tyT gl ops 0 (fr, st) = true := by kernel_rfl) : Im (p) (BCodes Tryz.prog gl s0 (.region id ops false :: c :: cs) AQ fr st) := fun k => rg (h2 k) hb
theorem rgNL (hcl : Cl s0 (AQ .normal)) (h2 : Im (p) (AQ .normal (endC tyT gl ops 0 (fr, st)).1 (endC tyT gl ops 0 (fr, st)).2)) (hb : endOk tyT gl ops 0 (fr, st) = true := by kernel_rfl) : Im (p) (BCodes Tryz.prog gl s0 [.region id ops false] AQ fr st) := fun k => rgN hcl (h2 k) hb
theorem rCL {y : Cfg} (h : Im (True) (aOpsC Tryz.prog gl ops 0 (fr, st) (toW s0 y.1 y.2))) (h2 : Im (p) (BCodes Tryz.prog gl s0 (c :: cs) AQ y.1 y.2)) : Im (p) (BCodes Tryz.prog gl s0 (.region id ops false :: c :: cs) AQ fr st) := fun k => rC (h trivial) (h2 k)
theorem rCNL {y : Cfg} (hcl : Cl s0 (AQ .normal)) (h : Im (True) (aOpsC Tryz.prog gl ops 0 (fr, st) (toW s0 y.1 y.2))) (h2 : Im (p) (AQ .normal y.1 y.2)) : Im (p) (BCodes Tryz.prog gl s0 [.region id ops false] AQ fr st) := fun k => rCN hcl (h trivial) (h2 k)
theorem edL (hb : endOk tyT gl ops i x = true := by kernel_rfl) : Im (p) (aOpsC Tryz.prog gl ops i x (toW s0 (endC tyT gl ops i x).1 (endC tyT gl ops i x).2)) := fun _ => ed hb
theorem kPL (k : Nat) {q : Option V} {v : V} (hq : q = some v) (h : Im (p) (aOpsC Tryz.prog gl ops (k + 1) (putX (runX tyT gl ops i k x) (dstAt ops k) v) K)) (hik : Nat.ble i k = true := by kernel_rfl) (he : stepX tyT gl ops i k x = withSt q (runX tyT gl ops i k x).2 := by kernel_rfl) : Im (p) (aOpsC Tryz.prog gl ops i x K) := fun z => kP k hq (h z) hik he
theorem kCL (k : Nat) (R : Ren) {f : FuncId} {args1 : List V} {st1 st1' : St} {r : V} (hc : ACalls Tryz.prog gl f args1 st1 (Out r st1')) (h : Im (p) (aOpsC Tryz.prog gl ops (k + 1) (setX (runX tyT gl ops i k x) (dstAt ops k) (V.ren R r) (fun st => St.after R st st1')) K)) (hb : goB tyT gl ops i k x R f args1 st1 = true := by kernel_rfl) (he : callL R st1 args1 = goR tyT gl ops i k x R args1 st1 := by kernel_rfl) : Im (p) (aOpsC Tryz.prog gl ops i x K) := fun z => kC k R hc (h z) hb he
theorem gFL {α : Type} (k d : Nat) {b : Bool} {a a' : Option α} {r : α} (ht : Im (a = some r) (aOpsC Tryz.prog gl ops k (putX (runX tyT gl ops i k x) (some d) (.bool true)) K)) (hf : Im (a' = some r) (aOpsC Tryz.prog gl ops k (putX (runX tyT gl ops i k x) (some d) (.bool false)) K)) (hik : Nat.ble i k = true := by kernel_rfl) (he : guardX tyT gl ops i k x = some (d, .bool b) := by kernel_rfl) : Im ((if b = true then a else a') = some r) (aOpsC Tryz.prog gl ops i x K) := fun h => gF k d h ht hf hik he
theorem kFL {α : Type} {t : Bool} {A B : Option α} {r : α} (h1 : t = true → Im (A = some r) (Q)) (h2 : t = false → Im (B = some r) (Q)) : Im ((if t = true then A else B) = some r) (Q) := fun h => kF h h1 h2
theorem bFL {α : Type} {q : Operand} {x y : Code} {t : Bool} {a b : Option α} {r : α} (h1 : Im (a = some r) (BCodes Tryz.prog gl s0 (flat x cs) AQ fr st)) (h2 : Im (b = some r) (BCodes Tryz.prog gl s0 (flat y cs) AQ fr st)) (hc : fr.eval q = .bool t := by kernel_rfl) : Im ((if t = true then a else b) = some r) (BCodes Tryz.prog gl s0 (.cond q x y :: cs) AQ fr st) := fun h => bF h (fun k => b_flat _ (h1 k)) (fun k => b_flat _ (h2 k)) hc
theorem bTL {q : Operand} {x y : Code} (h1 : Im (p) (BCodes Tryz.prog gl s0 (flat x cs) AQ fr st)) (hc : fr.eval q = .bool true := by kernel_rfl) : Im (p) (BCodes Tryz.prog gl s0 (.cond q x y :: cs) AQ fr st) := fun k => bT (b_flat _ (h1 k)) hc
theorem bNL {q : Operand} {x y : Code} (h1 : Im (p) (BCodes Tryz.prog gl s0 (flat y cs) AQ fr st)) (hc : fr.eval q = .bool false := by kernel_rfl) : Im (p) (BCodes Tryz.prog gl s0 (.cond q x y :: cs) AQ fr st) := fun k => bN (b_flat _ (h1 k)) hc
theorem rgF {a : Prop} (k : a) (fr' : AFr) (st' : St) (h : Im (a) (aOpsC Tryz.prog gl ops 0 (fr, st) (toW s0 fr' st'))) (h2 : Im (p) (BCodes Tryz.prog gl s0 (c :: cs) AQ fr' st')) : Im (p) (BCodes Tryz.prog gl s0 (.region id ops false :: c :: cs) AQ fr st) := fun z => reg fr' st' (h k) (h2 z)
theorem rgFN {a : Prop} (k : a) (hcl : Cl s0 (AQ .normal)) (fr' : AFr) (st' : St) (h : Im (a) (aOpsC Tryz.prog gl ops 0 (fr, st) (toW s0 fr' st'))) (h2 : Im (p) (AQ .normal fr' st')) : Im (p) (BCodes Tryz.prog gl s0 [.region id ops false] AQ fr st) := fun z => regN fr' st' hcl (h k) (h2 z)
theorem b_blockL (h : Im (p) (BCodes Tryz.prog gl s0 (flat c []) (blockK id (thenK (BCodes Tryz.prog gl s0 cs AQ) AQ)) fr st)) : Im (p) (BCodes Tryz.prog gl s0 (.block id c :: cs) AQ fr st) := fun k => b_block (b_flat _ (h k))
theorem b_retL (h : Im (p) (AQ .ret fr st)) : Im (p) (BCodes Tryz.prog gl s0 (.ret :: cs) AQ fr st) := fun k => b_ret (h k)
theorem b_exitL (h : Im (p) (AQ (.exit id) fr st)) : Im (p) (BCodes Tryz.prog gl s0 (.exit id :: cs) AQ fr st) := fun k => b_exit (h k)
theorem b_wkL (hw : Wk s0 fr st fr' st') (h : Im (p) (BCodes Tryz.prog gl s0 (c :: cs) AQ fr' st')) : Im (p) (BCodes Tryz.prog gl s0 (c :: cs) AQ fr st) := fun k => b_wk hw (h k)
theorem tk_exitL (h : Im (p) (AQ (.exit id) fr st)) : Im (p) (thenK K AQ (.exit id) fr st) := h
theorem tk_retL (h : Im (p) (AQ .ret fr st)) : Im (p) (thenK K AQ .ret fr st) := h
theorem bk_retL (h : Im (p) (AQ .ret fr st)) : Im (p) (blockK id (thenK K AQ) .ret fr st) := h
theorem bk_normL (h : Im (p) (K fr st)) : Im (p) (blockK id (thenK K AQ) .normal fr st) := h
theorem bk_exitL (h : Im (p) (K fr st)) : Im (p) (blockK id (thenK K AQ) (.exit id) fr st) := fun k => bk_exit (h k)
theorem bk_otherL {id' : Nat} (h : Im (p) (AQ (.exit id') fr st)) (hne : Nat.beq id' id = false := by kernel_rfl) : Im (p) (blockK id (thenK K AQ) (.exit id') fr st) := fun k => bk_other hne (h k)
theorem bl_retL {Y : Type} {F : Y → AFr} {S : Y → St} {L : Y → Prop} (h : Im (p) (AQ .ret fr st)) : Im (p) (blockL s0 id F S L AQ .ret fr st) := h
theorem bl_exitL {Y : Type} {F : Y → AFr} {S : Y → St} {L : Y → Prop} (h : Im (p) (loopW s0 F S L fr st)) : Im (p) (blockL s0 id F S L AQ (.exit id) fr st) := fun k => bl_exit (h k)
theorem jnL {Y : Type} {F : Y → AFr} {S : Y → St} {v y : Y} (R : Ren) (hb : wkB s0 R fr st (F v) (S v) = true := by kernel_rfl) (he : wkL R (F v) (S v) = wkR R fr st (F v) (S v) := by kernel_rfl) : Im (some v = some y) (loopW s0 F S (fun z => y = z) fr st) := fun h => ⟨v, sI h, Wk.gen R hb he⟩
theorem jCL {Z Y : Type} {F : Y → AFr} {S : Y → St} {v : Y} {o : Ctl Z Y} (R : Ren) (hb : wkB s0 R fr st (F v) (S v) = true := by kernel_rfl) (he : wkL R (F v) (S v) = wkR R fr st (F v) (S v) := by kernel_rfl) : Im (some (.nxt v) = some o) (loopW s0 F S (fun z => o = .nxt z) fr st) := fun h => ⟨v, sI h, Wk.gen R hb he⟩
theorem lpL {X Y : Type} (g : Nat → X → Option Y) {o : Y} {n : Nat} (x0 : X) (R : Ren) (F : X → AFr) (S : X → St) (round : ∀ k x, Im (g (k + 1) x = some o) (BCodes Tryz.prog gl s0 (flat c []) (thenK (loopW s0 F S (fun x => g k x = some o)) AQ) (F x) (S x))) (h0 : ∀ x, g 0 x = none := by intro _; rfl) (hb : wkB s0 R fr st (F x0) (S x0) = true := by kernel_rfl) (he : wkL R (F x0) (S x0) = wkR R fr st (F x0) (S x0) := by kernel_rfl) : Im (g n x0 = some o) (BCodes Tryz.prog gl s0 (.loop c :: cs) AQ fr st) :=
 fun h => b_loop F S (fun k x => g k x = some o) (fun x hx => by rw [h0] at hx; cases hx) n x0 h (Wk.gen R hb he) fun k x h => b_flat _ (round k x h)
theorem cuL {Y Z : Type} {o : Option Y} {f : Y → Option Z} {r : Z} (F : Y → AFr) (S : Y → St) (h1 : ∀ y, Im (o = some y) (BCodes Tryz.prog gl s0 [c] (thenK (loopW s0 F S (fun z => y = z)) AQ) fr st)) (h2 : ∀ y, Im (f y = some r) (BCodes Tryz.prog gl s0 (d :: cs) AQ (F y) (S y))) : Im (o.bind f = some r) (BCodes Tryz.prog gl s0 (c :: d :: cs) AQ fr st) := fun h => cuE h F S h1 h2
theorem blL {Y Z : Type} {o : Option Y} {f : Y → Option Z} {r : Z} (F : Y → AFr) (S : Y → St) (h1 : ∀ y, Im (o = some y) (BCodes Tryz.prog gl s0 (flat c []) (blockL s0 id F S (fun z => y = z) AQ) fr st)) (h2 : ∀ y, Im (f y = some r) (BCodes Tryz.prog gl s0 (d :: cs) AQ (F y) (S y))) : Im (o.bind f = some r) (BCodes Tryz.prog gl s0 (.block id c :: d :: cs) AQ fr st) := fun h => blE h F S (fun y k => b_flat _ (h1 y k)) h2
theorem bcL {R Y Z : Type} {o : Option (Ctl R Y)} {g : R → Option Z} {f : Y → Option Z} {r : Z} (F : Y → AFr) (S : Y → St) (h1 : ∀ y, (∀ x, y = .ret x → g x = some r) → Im (o = some y) (BCodes Tryz.prog gl s0 (flat c []) (blockL s0 id F S (fun z => y = .nxt z) AQ) fr st)) (h2 : ∀ y, Im (f y = some r) (BCodes Tryz.prog gl s0 (d :: cs) AQ (F y) (S y))) : Im (ctlB o g f = some r) (BCodes Tryz.prog gl s0 (.block id c :: d :: cs) AQ fr st) := fun h => blC h F S (fun y k e => b_flat _ (h1 y e k)) h2
theorem blNL {Y Z : Type} {o : Option Y} {f : Y → Option Z} {r : Z} (hcl : Cl s0 (AQ .normal)) (F : Y → AFr) (S : Y → St) (h1 : ∀ y, Im (o = some y) (BCodes Tryz.prog gl s0 (flat c []) (blockL s0 id F S (fun z => y = z) AQ) fr st)) (h2 : ∀ y, Im (f y = some r) (AQ .normal (F y) (S y))) : Im (o.bind f = some r) (BCodes Tryz.prog gl s0 [.block id c] AQ fr st) := fun h => blEN h hcl F S (fun y k => b_flat _ (h1 y k)) h2
theorem bcNL {R Y Z : Type} {o : Option (Ctl R Y)} {g : R → Option Z} {f : Y → Option Z} {r : Z} (hcl : Cl s0 (AQ .normal)) (F : Y → AFr) (S : Y → St) (h1 : ∀ y, (∀ x, y = .ret x → g x = some r) → Im (o = some y) (BCodes Tryz.prog gl s0 (flat c []) (blockL s0 id F S (fun z => y = .nxt z) AQ) fr st)) (h2 : ∀ y, Im (f y = some r) (AQ .normal (F y) (S y))) : Im (ctlB o g f = some r) (BCodes Tryz.prog gl s0 [.block id c] AQ fr st) := fun h => blCN h hcl F S (fun y k e => b_flat _ (h1 y e k)) h2
end
end Go.Abs
end
section
namespace Go.Abs
open Go.RowKit (Below)
open Go Go.Proofs
section
variable {P : Program} {T : TypeId → TI} {gl : Nat → List V} {ops : Array Oper} {K : AFr → St → Prop} {E : List Nat} {B : List (List Nat)}
theorem c_efff (hT : T = ti P) {i : Nat} {x : Cfg} (k m f id : Nat) {cell : Option Nat} {q : St → Option (V × St)} {v : V} {F : St → St}
  (hq : ∀ st : St, st.vars.length = m → st.fams.length = f → st.fams[id]? = cell → q st = some (v, F st)) (hik : Nat.ble i k = true)
  (he : ((runX T gl ops i k x).2.vars.length, (runX T gl ops i k x).2.fams.length, (runX T gl ops i k x).2.fams[id]?, stepX T gl ops i k x) = (m, f, cell, q (runX T gl ops i k x).2))
  (h : aOpsC P gl ops (k + 1) (setX (runX T gl ops i k x) (dstAt ops k) v F) K) : aOpsC P gl ops i x K := by
 injection he with he1 he; injection he with he2 he; injection he with he3 he4
 have h1 := hq _ he1 he2 he3
 rw [runX_eq] at he1 he2 he3 he4 h1
 rw [stepX_eq] at he4
 rw [runX_eq, setX_eq] at h
 unfold aOpsC at h ⊢
 exact st_eff hT k h1 hik he4 h
end
section
variable {gl : Nat → List V} {ops : Array Oper} {K : AFr → St → Prop} {s0 : St} {cs : List Code} {AQ : Exit → AFr → St → Prop} {id : Nat} {fr fr' : AFr} {st st' : St} {i : Nat} {x : Cfg} {E : List Nat} {B : List (List Nat)} {rest seen : List Nat} {fx : List (Nat × Option V × V)}
theorem kT (k m f id : Nat) {cell : Option Nat} {q : St → Option (V × St)} {v : V} {F : St → St} (hq : ∀ st : St, st.vars.length = m → st.fams.length = f → st.fams[id]? = cell → q st = some (v, F st))
  (h : aOpsC Tryz.prog gl ops (k + 1) (setX (runX tyT gl ops i k x) (dstAt ops k) v F) K) (hik : Nat.ble i k = true := by kernel_rfl)
  (he : ((runX tyT gl ops i k x).2.vars.length, (runX tyT gl ops i k x).2.fams.length, (runX tyT gl ops i k x).2.fams[id]?, stepX tyT gl ops i k x) = (m, f, cell, q (runX tyT gl ops i k x).2) := by kernel_rfl) : aOpsC Tryz.prog gl ops i x K := c_efff tyT_eq k m f id hq hik he h
end
def lappS (bytes : Nat) (l : List Int) (s : List UInt8) : Option (List Int) := if (l.length + (s2b s).length) * bytes ≤ 140737488355328 then some (l ++ s2b s) else none
theorem x_appS {T : TypeId → TI} {l l' : List Int} {s : List UInt8} {t m f : Nat} {e : TypeId} {bytes : Nat} (ho : appOk T e 1 bytes = true) (h : lappS bytes l s = some l') :
  ∀ st : St, st.vars.length = m → st.fams.length = f → st.fams[t]? = some l.length →
   aappendT T st (.slice e 1 bytes) .str (.sl 1 (l.map (cI .u8)) (.fam t l.length)) (.str s) = some (.sl 1 (l'.map (cI .u8)) (.fam t l'.length), st.setFam t l'.length) := by
 intro st hm hf hc
 simp only [appOk, Bool.and_eq_true, beq_iff_eq, decide_eq_true_eq] at ho
 obtain ⟨⟨⟨h1, h2⟩, h3⟩, h4⟩ := ho
 unfold lappS at h
 split at h
 ·rename_i hb2; injection h with h; subst h
  by_cases hb1 : (s2b s).length = 0
  ·have e0 : s2b s = [] := List.eq_nil_of_length_eq_zero hb1
   have e1 : st.setFam t l.length = st := by
    obtain ⟨vs, fs⟩ := st
    simp only [St.setFam, St.mk.injEq, true_and]
    apply List.ext_getElem?
    intro i
    rw [List.getElem?_set]
    split
    ·rename_i e; subst e
     split
     ·exact hc.symm
     ·rename_i hl; rw [List.getElem?_eq_none (by omega)]
    ·rfl
   simp only [aappendT, h1, h2, h3, asrc, byteRow_s2b, and_self, if_true, e0, List.append_nil, e1, List.map_nil, List.length_nil]
  ·simp only [aappendT, h1, h2, h3, asrc, byteRow_s2b, and_self, if_true, List.length_map, hb1, if_false, h4, hb2, hc, List.map_append, List.length_append]
 ·cases h
section
variable {s0 st : St} {fr : AFr}
end
section
variable {P : Program}
end
section
variable {gl : Nat → List V} {ops : Array Oper} {s0 : St} {c : Code} {cs : List Code} {AQ : Exit → AFr → St → Prop} {id : Nat} {fr : AFr} {st : St} {p : Prop}
end
end Go.Abs
end
section
namespace Go.Abs
open Go Go.Proofs
structure T_certpathmade_Deck where
 f_L : (List Int)
 f_At : Int
def T_certpathmade_Deck.cells (x : T_certpathmade_Deck) : List V := [ql 1 (cI .i64) x.f_L, qi x.f_At]
structure T_api_Attribute where
 f_Type : (List UInt8)
 f_Kind : Int
 f_Value : (List UInt8)
def T_api_Attribute.cells (x : T_api_Attribute) : List V := [qs x.f_Type, qi x.f_Kind, qs x.f_Value]
structure T_api_Name where
 f_RDNs : (List (List T_api_Attribute))
def T_api_Name.cells (x : T_api_Name) : List V := [ql 1 (cL 3 T_api_Attribute.cells) x.f_RDNs]
structure T_api_GeneralName where
 f_Kind : Int
 f_Text : (List UInt8)
 f_Name : T_api_Name
def T_api_GeneralName.cells (x : T_api_GeneralName) : List V := [qi x.f_Kind, qs x.f_Text, ql 1 (cL 3 T_api_Attribute.cells) x.f_Name.f_RDNs]
structure T_api_Point where
 f_Names : (List T_api_GeneralName)
 f_Reasons : Int
 f_HasIssuer : Bool
 f_Issuer : T_api_Name
def T_api_Point.cells (x : T_api_Point) : List V := [ql 3 T_api_GeneralName.cells x.f_Names, qi x.f_Reasons, qb x.f_HasIssuer, ql 1 (cL 3 T_api_Attribute.cells) x.f_Issuer.f_RDNs]
structure T_api_Settings where
 f_Name : T_api_Name
 f_Seed : (List UInt8)
 f_Height : Int
 f_First : Int
 f_Points : (List T_api_Point)
def T_api_Settings.cells (x : T_api_Settings) : List V := [ql 1 (cL 3 T_api_Attribute.cells) x.f_Name.f_RDNs, qs x.f_Seed, qi x.f_Height, qi x.f_First, ql 4 T_api_Point.cells x.f_Points]
structure T_api_Mapping where
 f_Issuer : (List UInt8)
 f_Subject : (List UInt8)
def T_api_Mapping.cells (x : T_api_Mapping) : List V := [qs x.f_Issuer, qs x.f_Subject]
structure T_api_Subtrees where
 f_Permitted : (List T_api_GeneralName)
 f_Excluded : (List T_api_GeneralName)
def T_api_Subtrees.cells (x : T_api_Subtrees) : List V := [ql 3 T_api_GeneralName.cells x.f_Permitted, ql 3 T_api_GeneralName.cells x.f_Excluded]
structure T_api_Extension where
 f_ID : (List UInt8)
 f_Critical : Bool
 f_Value : (List UInt8)
def T_api_Extension.cells (x : T_api_Extension) : List V := [qs x.f_ID, qb x.f_Critical, qs x.f_Value]
structure T_api_Info where
 f_HasBasic : Bool
 f_CA : Bool
 f_PathLen : Int
 f_Usage : Int
 f_Purposes : (List (List UInt8))
 f_Policies : (List (List UInt8))
 f_Mappings : (List T_api_Mapping)
 f_RequireExplicit : Int
 f_InhibitMapping : Int
 f_InhibitAny : Int
 f_Names : (List T_api_GeneralName)
 f_HasConstraints : Bool
 f_Constraints : T_api_Subtrees
 f_SubjectKey : (List UInt8)
 f_AuthorityKey : (List UInt8)
 f_Points : (List T_api_Point)
 f_Freshest : (List T_api_Point)
 f_Unknown : (List T_api_Extension)
def T_api_Info.cells (x : T_api_Info) : List V := [qb x.f_HasBasic, qb x.f_CA, qi x.f_PathLen, qi x.f_Usage, ql 1 cS x.f_Purposes, ql 1 cS x.f_Policies, ql 2 T_api_Mapping.cells x.f_Mappings, qi x.f_RequireExplicit, qi x.f_InhibitMapping, qi x.f_InhibitAny, ql 3 T_api_GeneralName.cells x.f_Names, qb x.f_HasConstraints, ql 3 T_api_GeneralName.cells x.f_Constraints.f_Permitted, ql 3 T_api_GeneralName.cells x.f_Constraints.f_Excluded, qs x.f_SubjectKey, qs x.f_AuthorityKey, ql 4 T_api_Point.cells x.f_Points, ql 4 T_api_Point.cells x.f_Freshest, ql 3 T_api_Extension.cells x.f_Unknown]
structure T_api_Act where
 f_Kind : Int
 f_Time : Int
 f_Until : Int
 f_Data : (List UInt8)
 f_Info : T_api_Info
 f_Serial : Int
 f_Reason : Int
 f_Invalid : Int
 f_Part : Int
 f_Class : Int
 f_Base : Int
 f_Foreign : Bool
def T_api_Act.cells (x : T_api_Act) : List V := [qi x.f_Kind, qi x.f_Time, qi x.f_Until, qs x.f_Data, qb x.f_Info.f_HasBasic, qb x.f_Info.f_CA, qi x.f_Info.f_PathLen, qi x.f_Info.f_Usage, ql 1 cS x.f_Info.f_Purposes, ql 1 cS x.f_Info.f_Policies, ql 2 T_api_Mapping.cells x.f_Info.f_Mappings, qi x.f_Info.f_RequireExplicit, qi x.f_Info.f_InhibitMapping, qi x.f_Info.f_InhibitAny, ql 3 T_api_GeneralName.cells x.f_Info.f_Names, qb x.f_Info.f_HasConstraints, ql 3 T_api_GeneralName.cells x.f_Info.f_Constraints.f_Permitted, ql 3 T_api_GeneralName.cells x.f_Info.f_Constraints.f_Excluded, qs x.f_Info.f_SubjectKey, qs x.f_Info.f_AuthorityKey, ql 4 T_api_Point.cells x.f_Info.f_Points, ql 4 T_api_Point.cells x.f_Info.f_Freshest, ql 3 T_api_Extension.cells x.f_Info.f_Unknown, qi x.f_Serial, qi x.f_Reason, qi x.f_Invalid, qi x.f_Part, qi x.f_Class, qi x.f_Base, qb x.f_Foreign]
structure T_api_View where
 f_Time : Int
 f_Withheld : (List Int)
def T_api_View.cells (x : T_api_View) : List V := [qi x.f_Time, ql 1 (cI .i64) x.f_Withheld]
structure T_api_Key where
 f_Height : Int
 f_ID : (List UInt8)
 f_Root : (List UInt8)
def T_api_Key.cells (x : T_api_Key) : List V := [qi x.f_Height, qs x.f_ID, qs x.f_Root]
structure T_api_Anchor where
 f_Name : T_api_Name
 f_Key : T_api_Key
def T_api_Anchor.cells (x : T_api_Anchor) : List V := [ql 1 (cL 3 T_api_Attribute.cells) x.f_Name.f_RDNs, qi x.f_Key.f_Height, qs x.f_Key.f_ID, qs x.f_Key.f_Root]
structure T_api_Query where
 f_Time : Int
 f_Purpose : (List UInt8)
 f_Usage : Int
 f_Policies : (List (List UInt8))
 f_Explicit : Bool
 f_NoMapping : Bool
 f_NoAny : Bool
 f_Names : (List T_api_GeneralName)
 f_MaxLength : Int
 f_Status : Bool
 f_Issuers : (List T_api_Anchor)
def T_api_Query.cells (x : T_api_Query) : List V := [qi x.f_Time, qs x.f_Purpose, qi x.f_Usage, ql 1 cS x.f_Policies, qb x.f_Explicit, qb x.f_NoMapping, qb x.f_NoAny, ql 3 T_api_GeneralName.cells x.f_Names, qi x.f_MaxLength, qb x.f_Status, ql 4 T_api_Anchor.cells x.f_Issuers]
structure T_api_Deed where
 f_Kind : Int
 f_Who : Int
 f_Act : T_api_Act
 f_Hide : Bool
 f_Keep : Int
 f_Bytes : Int
 f_Target : Int
 f_View : T_api_View
 f_Query : T_api_Query
 f_Anchors : (List Int)
def T_api_Deed.cells (x : T_api_Deed) : List V := [qi x.f_Kind, qi x.f_Who, qi x.f_Act.f_Kind, qi x.f_Act.f_Time, qi x.f_Act.f_Until, qs x.f_Act.f_Data, qb x.f_Act.f_Info.f_HasBasic, qb x.f_Act.f_Info.f_CA, qi x.f_Act.f_Info.f_PathLen, qi x.f_Act.f_Info.f_Usage, ql 1 cS x.f_Act.f_Info.f_Purposes, ql 1 cS x.f_Act.f_Info.f_Policies, ql 2 T_api_Mapping.cells x.f_Act.f_Info.f_Mappings, qi x.f_Act.f_Info.f_RequireExplicit, qi x.f_Act.f_Info.f_InhibitMapping, qi x.f_Act.f_Info.f_InhibitAny, ql 3 T_api_GeneralName.cells x.f_Act.f_Info.f_Names, qb x.f_Act.f_Info.f_HasConstraints, ql 3 T_api_GeneralName.cells x.f_Act.f_Info.f_Constraints.f_Permitted, ql 3 T_api_GeneralName.cells x.f_Act.f_Info.f_Constraints.f_Excluded, qs x.f_Act.f_Info.f_SubjectKey, qs x.f_Act.f_Info.f_AuthorityKey, ql 4 T_api_Point.cells x.f_Act.f_Info.f_Points, ql 4 T_api_Point.cells x.f_Act.f_Info.f_Freshest, ql 3 T_api_Extension.cells x.f_Act.f_Info.f_Unknown, qi x.f_Act.f_Serial, qi x.f_Act.f_Reason, qi x.f_Act.f_Invalid, qi x.f_Act.f_Part, qi x.f_Act.f_Class, qi x.f_Act.f_Base, qb x.f_Act.f_Foreign, qb x.f_Hide, qi x.f_Keep, qi x.f_Bytes, qi x.f_Target, qi x.f_View.f_Time, ql 1 (cI .i64) x.f_View.f_Withheld, qi x.f_Query.f_Time, qs x.f_Query.f_Purpose, qi x.f_Query.f_Usage, ql 1 cS x.f_Query.f_Policies, qb x.f_Query.f_Explicit, qb x.f_Query.f_NoMapping, qb x.f_Query.f_NoAny, ql 3 T_api_GeneralName.cells x.f_Query.f_Names, qi x.f_Query.f_MaxLength, qb x.f_Query.f_Status, ql 4 T_api_Anchor.cells x.f_Query.f_Issuers, ql 1 (cI .i64) x.f_Anchors]
structure T_dname_short where
 f_word : (List UInt8)
 f_id : (List UInt8)
def T_dname_short.cells (x : T_dname_short) : List V := [qs x.f_word, qs x.f_id]
structure T_dname_item where
 f_code : (List UInt8)
 f_words : (List UInt8)
def T_dname_item.cells (x : T_dname_item) : List V := [qs x.f_code, qs x.f_words]
structure T_script_writer where
 f_line : (List UInt8)
 f_e : Int
def T_script_writer.cells (x : T_script_writer) : List V := [qs x.f_line, qi x.f_e]
structure T_record_Writer where
 f_b : (List Int)
def T_record_Writer.cells (x : T_record_Writer) : List V := [ql 1 (cI .u8) x.f_b]
structure T_script_reader where
 f_words : (List (List UInt8))
 f_bad : Bool
def T_script_reader.cells (x : T_script_reader) : List V := [ql 1 cS x.f_words, qb x.f_bad]
end Go.Abs
end
