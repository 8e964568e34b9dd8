/- The library functions that the law reaches, applied at this program. No condition beyond each statement's own. -/
import Derived.Test.YtbggpcnbbhjiaaaGreatDoorA31
set_option linter.unusedVariables false
set_option linter.unusedSimpArgs false
set_option linter.unnecessarySimpa false
section
namespace Go.Proofs
open Go.Shelf
def Tryz.lays156_ren : Go.Shelf.Ren := ⟨fun | 156 => 174 | 165 => 229 | 166 => 230 | 169 => 231 | 240 => 259 | 241 => 260 | 276 => 278 | 277 => 279 | n => n, fun | 31 => 23 | 9 => 9 | 3 => 3 | 4 => 4 | 0 => 0 | 20 => 20 | 72 => 243 | 76 => 246 | 70 => 241 | 37 => 101 | 75 => 245 | 127 => 267 | 164 => 274 | 5 => 5 | 80 => 197 | n => n, fun | n => n⟩
theorem Tryz.lays156 : Go.Proofs.Lays.n156 Tryz.prog Tryz.lays156_ren := {
 mixed := by kernel_rfl
 f156 := Tryz.func174.trans (congrArg some (by kernel_rfl))
 f165 := Tryz.func229.trans (congrArg some (by kernel_rfl))
 f166 := Tryz.func230.trans (congrArg some (by kernel_rfl))
 f169 := Tryz.func231.trans (congrArg some (by kernel_rfl))
 f240 := Tryz.func259.trans (congrArg some (by kernel_rfl))
 f241 := Tryz.func260.trans (congrArg some (by kernel_rfl))
 f276 := Tryz.func278.trans (congrArg some (by kernel_rfl))
 f277 := Tryz.func279.trans (congrArg some (by kernel_rfl))
 t0 := Tryz.underlying0
 a0 := Tryz.isAgg0
 z0 := Tryz.sizeOf0
 v0 := Tryz.zeroValue0
 t3 := Tryz.underlying3
 a3 := Tryz.isAgg3
 z3 := Tryz.sizeOf3
 v3 := Tryz.zeroValue3
 t4 := Tryz.underlying4
 a4 := Tryz.isAgg4
 z4 := Tryz.sizeOf4
 v4 := Tryz.zeroValue4
 t9 := Tryz.underlying9
 a9 := Tryz.isAgg9
 z9 := Tryz.sizeOf9
 v9 := Tryz.zeroValue9
 t20 := Tryz.underlying20
 a20 := Tryz.isAgg20
 z20 := Tryz.sizeOf20
 v20 := Tryz.zeroValue20
 t31 := Tryz.underlying23
 a31 := Tryz.isAgg23
 z31 := Tryz.sizeOf23
 v31 := Tryz.zeroValue23
 t37 := Tryz.underlying101
 a37 := Tryz.isAgg101
 z37 := Tryz.sizeOf101
 v37 := Tryz.zeroValue101
 t70 := Tryz.underlying241
 a70 := Tryz.isAgg241
 z70 := Tryz.sizeOf241
 v70 := Tryz.zeroValue241
 t72 := Tryz.underlying243
 a72 := Tryz.isAgg243
 z72 := Tryz.sizeOf243
 v72 := Tryz.zeroValue243
 t75 := Tryz.underlying245
 a75 := Tryz.isAgg245
 z75 := Tryz.sizeOf245
 v75 := Tryz.zeroValue245
 t76 := Tryz.underlying246
 a76 := Tryz.isAgg246
 z76 := Tryz.sizeOf246
 v76 := Tryz.zeroValue246
 t127 := Tryz.underlying267
 a127 := Tryz.isAgg267
 z127 := Tryz.sizeOf267
 v127 := Tryz.zeroValue267
 t164 := Tryz.underlying274
 a164 := Tryz.isAgg274
 z164 := Tryz.sizeOf274
 v164 := Tryz.zeroValue274 }
theorem Tryz.Builder_Extra_156 : Builder.Extra Tryz.prog Tryz.lays156_ren := {
 sizeBuilder := by kernel_rfl
 liesBuilder := by kernel_rfl
 t5 := Tryz.underlying5
 a5 := Tryz.isAgg5
 z5 := Tryz.sizeOf5
 v5 := Tryz.zeroValue5
 infoByte := by kernel_rfl
 cellsByte := by kernel_rfl
 sizeByte := by kernel_rfl
 neB5 := by decide }
open Go.RowKit in
theorem Tryz.strings_Join_none (a : Option Addr) (c : Nat) (sep : ByteArray) (w : World) :
  Calls Tryz.prog 174 #[.slice a 0 c, .string sep] w fun e w' => e = .returned (.string ⟨#[]⟩) ∧ w' = w := Any.strings_Join_none Tryz.lays156 Tryz.Builder_Extra_156 a c sep w
open Go.RowKit in
theorem Tryz.strings_Join (bk o c : Nat) (xs : List ByteArray) (sep : ByteArray) (w : World) (hcells : ∀ (j : Nat) x, xs[j]? = some x → w.cell? ⟨bk, o + j, none⟩ = some (.string x)) (hbk : bk < w.heap.size) (hN : xs.length ≤ 140737488355328) (hcap : xs.length ≤ c) (hlen : (Lib.join (xs.map (·.data.toList)) sep.data.toList).length ≤ 140737488355328) :
  Calls Tryz.prog 174 #[.slice (some ⟨bk, o, none⟩) xs.length c, .string sep] w fun e w' => e = .returned (.string ⟨(Lib.join (xs.map (·.data.toList)) sep.data.toList).toArray⟩) ∧ Below w.heap.size w w' := Any.strings_Join Tryz.lays156 Tryz.Builder_Extra_156 bk o c xs sep w hcells hbk hN hcap hlen
def Tryz.lays137_ren : Go.Shelf.Ren := ⟨fun | 137 => 244 | 217 => 269 | 266 => 290 | n => n, fun | 9 => 9 | 5 => 5 | 3 => 3 | n => n, fun | n => n⟩
theorem Tryz.lays137 : Go.Proofs.Lays.n137 Tryz.prog Tryz.lays137_ren := {
 mixed := by kernel_rfl
 f137 := Tryz.func244.trans (congrArg some (by kernel_rfl))
 f217 := Tryz.func269.trans (congrArg some (by kernel_rfl))
 f266 := Tryz.func290.trans (congrArg some (by kernel_rfl))
 t3 := Tryz.underlying3
 a3 := Tryz.isAgg3
 z3 := Tryz.sizeOf3
 v3 := Tryz.zeroValue3
 t5 := Tryz.underlying5
 a5 := Tryz.isAgg5
 z5 := Tryz.sizeOf5
 v5 := Tryz.zeroValue5
 t9 := Tryz.underlying9
 a9 := Tryz.isAgg9
 z9 := Tryz.sizeOf9
 v9 := Tryz.zeroValue9 }
open Go.RowKit in
theorem Tryz.strings_IndexByte (s : ByteArray) (c : Int) (w : World) :
  Calls Tryz.prog 244 #[.string s, .int .u8 c] w fun e w' => e = .returned (.int .i64 (Lib.indexByte s.data.toList c.toNat.toUInt8)) ∧ w' = w := Any.strings_IndexByte Tryz.lays137 s c w
def Tryz.lays219_ren : Go.Shelf.Ren := ⟨fun | 219 => 283 | 217 => 269 | 225 => 296 | 224 => 297 | 267 => 298 | 266 => 290 | 314 => 317 | n => n, fun | 9 => 9 | 3 => 3 | 4 => 4 | 5 => 5 | 46 => 164 | 146 => 305 | 51 => 223 | n => n, fun | 1 => 1 | n => n⟩
theorem Tryz.lays219 : Go.Proofs.Lays.n219 Tryz.prog Tryz.lays219_ren := {
 mixed := by kernel_rfl
 f217 := Tryz.func269.trans (congrArg some (by kernel_rfl))
 f219 := Tryz.func283.trans (congrArg some (by kernel_rfl))
 f224 := Tryz.func297.trans (congrArg some (by kernel_rfl))
 f225 := Tryz.func296.trans (congrArg some (by kernel_rfl))
 f266 := Tryz.func290.trans (congrArg some (by kernel_rfl))
 f267 := Tryz.func298.trans (congrArg some (by kernel_rfl))
 f314 := Tryz.func317.trans (congrArg some (by kernel_rfl))
 t3 := Tryz.underlying3
 a3 := Tryz.isAgg3
 z3 := Tryz.sizeOf3
 v3 := Tryz.zeroValue3
 t4 := Tryz.underlying4
 a4 := Tryz.isAgg4
 z4 := Tryz.sizeOf4
 v4 := Tryz.zeroValue4
 t5 := Tryz.underlying5
 a5 := Tryz.isAgg5
 z5 := Tryz.sizeOf5
 v5 := Tryz.zeroValue5
 t9 := Tryz.underlying9
 a9 := Tryz.isAgg9
 z9 := Tryz.sizeOf9
 v9 := Tryz.zeroValue9
 t46 := Tryz.underlying164
 a46 := Tryz.isAgg164
 z46 := Tryz.sizeOf164
 v46 := Tryz.zeroValue164
 t51 := Tryz.underlying223
 a51 := Tryz.isAgg223
 z51 := Tryz.sizeOf223
 v51 := Tryz.zeroValue223
 t146 := Tryz.underlying305
 a146 := Tryz.isAgg305
 z146 := Tryz.sizeOf305
 v146 := Tryz.zeroValue305
 g1 := by kernel_rfl }
open Go.RowKit Go.Lib in
theorem Tryz.stringslite_Index (s sub : ByteArray) (m : Int) (w : World) (hs : s.size < 4294967281) (hm : w.cell? ⟨1, 0, none⟩ = some (.int .i64 m)) :
  Calls Tryz.prog 283 #[.string s, .string sub] w fun e w' => e = .returned (.int .i64 (Lib.index s.data.toList sub.data.toList)) ∧ w' = w := Any.stringslite_Index Tryz.lays219 s sub m w hs hm
def Tryz.lays143_ren : Go.Shelf.Ren := ⟨fun | 143 => 263 | 219 => 283 | 217 => 269 | 225 => 296 | 224 => 297 | 267 => 298 | 266 => 290 | 314 => 317 | n => n, fun | 9 => 9 | 3 => 3 | 4 => 4 | 5 => 5 | 46 => 164 | 146 => 305 | 51 => 223 | n => n, fun | 1 => 1 | n => n⟩
theorem Tryz.lays143 : Go.Proofs.Lays.n143 Tryz.prog Tryz.lays143_ren := {
 mixed := by kernel_rfl
 f143 := Tryz.func263.trans (congrArg some (by kernel_rfl))
 f217 := Tryz.func269.trans (congrArg some (by kernel_rfl))
 f219 := Tryz.func283.trans (congrArg some (by kernel_rfl))
 f224 := Tryz.func297.trans (congrArg some (by kernel_rfl))
 f225 := Tryz.func296.trans (congrArg some (by kernel_rfl))
 f266 := Tryz.func290.trans (congrArg some (by kernel_rfl))
 f267 := Tryz.func298.trans (congrArg some (by kernel_rfl))
 f314 := Tryz.func317.trans (congrArg some (by kernel_rfl))
 t3 := Tryz.underlying3
 a3 := Tryz.isAgg3
 z3 := Tryz.sizeOf3
 v3 := Tryz.zeroValue3
 t4 := Tryz.underlying4
 a4 := Tryz.isAgg4
 z4 := Tryz.sizeOf4
 v4 := Tryz.zeroValue4
 t5 := Tryz.underlying5
 a5 := Tryz.isAgg5
 z5 := Tryz.sizeOf5
 v5 := Tryz.zeroValue5
 t9 := Tryz.underlying9
 a9 := Tryz.isAgg9
 z9 := Tryz.sizeOf9
 v9 := Tryz.zeroValue9
 t46 := Tryz.underlying164
 a46 := Tryz.isAgg164
 z46 := Tryz.sizeOf164
 v46 := Tryz.zeroValue164
 t51 := Tryz.underlying223
 a51 := Tryz.isAgg223
 z51 := Tryz.sizeOf223
 v51 := Tryz.zeroValue223
 t146 := Tryz.underlying305
 a146 := Tryz.isAgg305
 z146 := Tryz.sizeOf305
 v146 := Tryz.zeroValue305
 g1 := by kernel_rfl }
open Go.RowKit Go.Lib in
theorem Tryz.strings_Index (s sub : ByteArray) (m : Int) (w : World) (hs : s.size < 4294967281) (hm : w.cell? ⟨1, 0, none⟩ = some (.int .i64 m)) :
  Calls Tryz.prog 263 #[.string s, .string sub] w fun e w' => e = .returned (.int .i64 (Lib.index s.data.toList sub.data.toList)) ∧ w' = w := Any.strings_Index Tryz.lays143 s sub m w hs hm
def Tryz.lays138_ren : Go.Shelf.Ren := ⟨fun | 138 => 262 | 195 => 280 | 218 => 282 | 143 => 263 | 219 => 283 | 217 => 269 | 225 => 296 | 224 => 297 | 267 => 298 | 266 => 290 | 314 => 317 | n => n, fun | 9 => 9 | 3 => 3 | 4 => 4 | 5 => 5 | 0 => 0 | 46 => 164 | 146 => 305 | 51 => 223 | n => n, fun | 1 => 1 | n => n⟩
theorem Tryz.lays138 : Go.Proofs.Lays.n138 Tryz.prog Tryz.lays138_ren := {
 mixed := by kernel_rfl
 f138 := Tryz.func262.trans (congrArg some (by kernel_rfl))
 f143 := Tryz.func263.trans (congrArg some (by kernel_rfl))
 f195 := Tryz.func280.trans (congrArg some (by kernel_rfl))
 f217 := Tryz.func269.trans (congrArg some (by kernel_rfl))
 f218 := Tryz.func282.trans (congrArg some (by kernel_rfl))
 f219 := Tryz.func283.trans (congrArg some (by kernel_rfl))
 f224 := Tryz.func297.trans (congrArg some (by kernel_rfl))
 f225 := Tryz.func296.trans (congrArg some (by kernel_rfl))
 f266 := Tryz.func290.trans (congrArg some (by kernel_rfl))
 f267 := Tryz.func298.trans (congrArg some (by kernel_rfl))
 f314 := Tryz.func317.trans (congrArg some (by kernel_rfl))
 t0 := Tryz.underlying0
 a0 := Tryz.isAgg0
 z0 := Tryz.sizeOf0
 v0 := Tryz.zeroValue0
 t3 := Tryz.underlying3
 a3 := Tryz.isAgg3
 z3 := Tryz.sizeOf3
 v3 := Tryz.zeroValue3
 t4 := Tryz.underlying4
 a4 := Tryz.isAgg4
 z4 := Tryz.sizeOf4
 v4 := Tryz.zeroValue4
 t5 := Tryz.underlying5
 a5 := Tryz.isAgg5
 z5 := Tryz.sizeOf5
 v5 := Tryz.zeroValue5
 t9 := Tryz.underlying9
 a9 := Tryz.isAgg9
 z9 := Tryz.sizeOf9
 v9 := Tryz.zeroValue9
 t46 := Tryz.underlying164
 a46 := Tryz.isAgg164
 z46 := Tryz.sizeOf164
 v46 := Tryz.zeroValue164
 t51 := Tryz.underlying223
 a51 := Tryz.isAgg223
 z51 := Tryz.sizeOf223
 v51 := Tryz.zeroValue223
 t146 := Tryz.underlying305
 a146 := Tryz.isAgg305
 z146 := Tryz.sizeOf305
 v146 := Tryz.zeroValue305
 g1 := by kernel_rfl }
open Go.RowKit Go.Lib in
theorem Tryz.strings_Count_one (s : ByteArray) (c : UInt8) (w : World) :
  Calls Tryz.prog 262 #[.string s, .string ⟨#[c]⟩] w fun e w' => e = .returned (.int .i64 (Lib.countByte s.data.toList c)) ∧ w' = w := Any.strings_Count_one Tryz.lays138 s c w
def Tryz.laysM143_ren : Go.Shelf.Ren := ⟨fun | 143 => 263 | 219 => 283 | 217 => 269 | 225 => 296 | 224 => 297 | 267 => 298 | 266 => 290 | 314 => 317 | n => n, fun | 9 => 9 | 3 => 3 | 4 => 4 | 5 => 5 | 46 => 164 | 146 => 305 | 51 => 223 | n => n, fun | 1 => 1 | n => n⟩
theorem Tryz.laysM143 : Go.Proofs.LaysM.n143 Tryz.prog Tryz.laysM143_ren := {
 mixed := by kernel_rfl
 f143 := Tryz.func263.trans (congrArg some (by kernel_rfl))
 f217 := Tryz.func269.trans (congrArg some (by kernel_rfl))
 f219 := Tryz.func283.trans (congrArg some (by kernel_rfl))
 f224 := Tryz.func297.trans (congrArg some (by kernel_rfl))
 f225 := Tryz.func296.trans (congrArg some (by kernel_rfl))
 f266 := Tryz.func290.trans (congrArg some (by kernel_rfl))
 f267 := Tryz.func298.trans (congrArg some (by kernel_rfl))
 f314 := Tryz.func317.trans (congrArg some (by kernel_rfl))
 t3 := Tryz.underlying3
 a3 := Tryz.isAgg3
 z3 := Tryz.sizeOf3
 v3 := Tryz.zeroValue3
 t4 := Tryz.underlying4
 a4 := Tryz.isAgg4
 z4 := Tryz.sizeOf4
 v4 := Tryz.zeroValue4
 t5 := Tryz.underlying5
 a5 := Tryz.isAgg5
 z5 := Tryz.sizeOf5
 v5 := Tryz.zeroValue5
 t9 := Tryz.underlying9
 a9 := Tryz.isAgg9
 z9 := Tryz.sizeOf9
 v9 := Tryz.zeroValue9
 t46 := Tryz.underlying164
 a46 := Tryz.isAgg164
 z46 := Tryz.sizeOf164
 v46 := Tryz.zeroValue164
 t51 := Tryz.underlying223
 a51 := Tryz.isAgg223
 z51 := Tryz.sizeOf223
 v51 := Tryz.zeroValue223
 t146 := Tryz.underlying305
 a146 := Tryz.isAgg305
 z146 := Tryz.sizeOf305
 v146 := Tryz.zeroValue305
 g1 := by kernel_rfl
 i3 := by kernel_rfl
 i4 := by kernel_rfl
 i5 := by kernel_rfl
 i9 := by kernel_rfl
 i46 := by kernel_rfl
 i51 := by kernel_rfl
 i146 := by kernel_rfl
 m1 := by kernel_rfl
 s1_3 := fun w h => Go.Proofs.cell_of_shapedOpen_int (zero := #[.int .i64 0]) (t := 3) h (of_decide_eq_true (by kernel_rfl)) (by kernel_rfl) rfl (by kernel_rfl) (by kernel_rfl) Tryz.underlying3 }
def Tryz.lays192_ren : Go.Shelf.Ren := ⟨fun | 192 => 246 | 190 => 270 | 125 => 292 | 258 => 291 | 128 => 313 | 129 => 300 | 302 => 304 | 303 => 305 | 304 => 306 | 305 => 307 | 306 => 308 | 307 => 309 | 308 => 310 | 309 => 311 | 310 => 312 | 333 => 320 | 329 => 321 | 330 => 322 | 334 => 323 | 335 => 324 | 336 => 325 | 344 => 326 | n => n, fun | 31 => 23 | 0 => 0 | 9 => 9 | 3 => 3 | 46 => 164 | 51 => 223 | 53 => 192 | 4 => 4 | 183 => 292 | 182 => 291 | 131 => 295 | 5 => 5 | 218 => 307 | 222 => 311 | 228 => 315 | 229 => 316 | n => n, fun | n => n⟩
theorem Tryz.lays192 : Go.Proofs.Lays.n192 Tryz.prog Tryz.lays192_ren := {
 mixed := by kernel_rfl
 f125 := Tryz.func292.trans (congrArg some (by kernel_rfl))
 f128 := Tryz.func313.trans (congrArg some (by kernel_rfl))
 f129 := Tryz.func300.trans (congrArg some (by kernel_rfl))
 f190 := Tryz.func270.trans (congrArg some (by kernel_rfl))
 f192 := Tryz.func246.trans (congrArg some (by kernel_rfl))
 f258 := Tryz.func291.trans (congrArg some (by kernel_rfl))
 f302 := Tryz.func304.trans (congrArg some (by kernel_rfl))
 f303 := Tryz.func305.trans (congrArg some (by kernel_rfl))
 f304 := Tryz.func306.trans (congrArg some (by kernel_rfl))
 f305 := Tryz.func307.trans (congrArg some (by kernel_rfl))
 f306 := Tryz.func308.trans (congrArg some (by kernel_rfl))
 f307 := Tryz.func309.trans (congrArg some (by kernel_rfl))
 f308 := Tryz.func310.trans (congrArg some (by kernel_rfl))
 f309 := Tryz.func311.trans (congrArg some (by kernel_rfl))
 f310 := Tryz.func312.trans (congrArg some (by kernel_rfl))
 f329 := Tryz.func321.trans (congrArg some (by kernel_rfl))
 f330 := Tryz.func322.trans (congrArg some (by kernel_rfl))
 f333 := Tryz.func320.trans (congrArg some (by kernel_rfl))
 f334 := Tryz.func323.trans (congrArg some (by kernel_rfl))
 f335 := Tryz.func324.trans (congrArg some (by kernel_rfl))
 f336 := Tryz.func325.trans (congrArg some (by kernel_rfl))
 f344 := Tryz.func326.trans (congrArg some (by kernel_rfl))
 t0 := Tryz.underlying0
 a0 := Tryz.isAgg0
 z0 := Tryz.sizeOf0
 v0 := Tryz.zeroValue0
 t3 := Tryz.underlying3
 a3 := Tryz.isAgg3
 z3 := Tryz.sizeOf3
 v3 := Tryz.zeroValue3
 t4 := Tryz.underlying4
 a4 := Tryz.isAgg4
 z4 := Tryz.sizeOf4
 v4 := Tryz.zeroValue4
 t5 := Tryz.underlying5
 a5 := Tryz.isAgg5
 z5 := Tryz.sizeOf5
 v5 := Tryz.zeroValue5
 t9 := Tryz.underlying9
 a9 := Tryz.isAgg9
 z9 := Tryz.sizeOf9
 v9 := Tryz.zeroValue9
 t31 := Tryz.underlying23
 a31 := Tryz.isAgg23
 z31 := Tryz.sizeOf23
 v31 := Tryz.zeroValue23
 t46 := Tryz.underlying164
 a46 := Tryz.isAgg164
 z46 := Tryz.sizeOf164
 v46 := Tryz.zeroValue164
 t51 := Tryz.underlying223
 a51 := Tryz.isAgg223
 z51 := Tryz.sizeOf223
 v51 := Tryz.zeroValue223
 t53 := Tryz.underlying192
 a53 := Tryz.isAgg192
 z53 := Tryz.sizeOf192
 v53 := Tryz.zeroValue192
 t131 := Tryz.underlying295
 a131 := Tryz.isAgg295
 z131 := Tryz.sizeOf295
 v131 := Tryz.zeroValue295
 t182 := Tryz.underlying291
 a182 := Tryz.isAgg291
 z182 := Tryz.sizeOf291
 v182 := Tryz.zeroValue291
 t183 := Tryz.underlying292
 a183 := Tryz.isAgg292
 z183 := Tryz.sizeOf292
 v183 := Tryz.zeroValue292
 t218 := Tryz.underlying307
 a218 := Tryz.isAgg307
 z218 := Tryz.sizeOf307
 v218 := Tryz.zeroValue307
 t222 := Tryz.underlying311
 a222 := Tryz.isAgg311
 z222 := Tryz.sizeOf311
 v222 := Tryz.zeroValue311
 t228 := Tryz.underlying315
 a228 := Tryz.isAgg315
 z228 := Tryz.sizeOf315
 v228 := Tryz.zeroValue315
 t229 := Tryz.underlying316
 a229 := Tryz.isAgg316
 z229 := Tryz.sizeOf316
 v229 := Tryz.zeroValue316 }
open Go.Sort Go.RowKit in
theorem Tryz.sort_Strings (blk off cap : Nat) (ss : List (List UInt8)) (w : World) (hH : Holds encStr w blk off ss.toArray) (hblk : blk < w.heap.size) (hsz : ss.length < 4611686018427387904) :
  Calls Tryz.prog 246 #[.slice (some ⟨blk, off, none⟩) ss.length cap] w fun e w' =>
   e = .returned (.tuple #[]) ∧ ∃ n os, w' = grow (putRow encStr (Sort.ahead w n) blk off (ss.mergeSort fun x y => decide (x ≤ y)).toArray) os := Any.sort_Strings Tryz.lays192 blk off cap ss w hH hblk hsz
open Go.RowKit Go.Sort in
theorem Tryz.sort_Strings_none (p : Option Addr) (cap : Nat) (w : World) :
  Calls Tryz.prog 246 #[.slice p 0 cap] w fun e w' => e = .returned (.tuple #[]) ∧ w' = w := Any.sort_Strings_none Tryz.lays192 p cap w
end Go.Proofs
end
