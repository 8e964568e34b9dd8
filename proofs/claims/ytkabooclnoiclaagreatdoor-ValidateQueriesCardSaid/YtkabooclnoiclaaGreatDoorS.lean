/- Contracts of library functions. No condition. -/
import Derived.Test.YtkabooclnoiclaaGreatDoorA29
import Derived.Test.YtkabooclnoiclaaGreatDoorProg
import Derived.Shelf.Small.Strs
import Derived.Shelf.Strings.Count
import Derived.Shelf.Strings.Search1
import Derived.Shelf.Strings.Search2
import Derived.Shelf.Strings.Search3
set_option linter.all false
section
namespace Go.Proofs
open Go.Shelf
def Tryz.lays137_ren:Go.Shelf.Ren:=⟨fun|137=>198|217=>264|266=>308|n=>n,fun|9=>9|5=>5|3=>3|n=>n,fun|n=>n⟩
theorem Tryz.lays137:Go.Proofs.Lays.n137 Tryz.prog Tryz.lays137_ren:={
 mixed:=by kernel_rfl
 f137:=Tryz.func198.trans (congrArg some (by kernel_rfl))
 f217:=Tryz.func264.trans (congrArg some (by kernel_rfl))
 f266:=Tryz.func308.trans (congrArg some (by kernel_rfl))
 t3:=Tryz.underlying3
 a3:=Tryz.isAgg3
 z3:=Tryz.sizeOf3
 v3:=Tryz.zeroValue3
 t5:=Tryz.underlying5
 a5:=Tryz.isAgg5
 z5:=Tryz.sizeOf5
 v5:=Tryz.zeroValue5
 t9:=Tryz.underlying9
 a9:=Tryz.isAgg9
 z9:=Tryz.sizeOf9
 v9:=Tryz.zeroValue9}
open Go.RowKit in
theorem Tryz.strings_IndexByte (s:ByteArray) (c:Int) (w:World):
  Calls Tryz.prog 198 #[.string s, .int .u8 c] w fun e w'=>e= .returned (.int .i64 (Lib.indexByte s.data.toList c.toNat.toUInt8))∧w'=w:=Any.strings_IndexByte Tryz.lays137 s c w
def Tryz.lays217_ren:Go.Shelf.Ren:=⟨fun|217=>264|266=>308|n=>n,fun|9=>9|5=>5|3=>3|n=>n,fun|n=>n⟩
theorem Tryz.lays217:Go.Proofs.Lays.n217 Tryz.prog Tryz.lays217_ren:={
 mixed:=by kernel_rfl
 f217:=Tryz.func264.trans (congrArg some (by kernel_rfl))
 f266:=Tryz.func308.trans (congrArg some (by kernel_rfl))
 t3:=Tryz.underlying3
 a3:=Tryz.isAgg3
 z3:=Tryz.sizeOf3
 v3:=Tryz.zeroValue3
 t5:=Tryz.underlying5
 a5:=Tryz.isAgg5
 z5:=Tryz.sizeOf5
 v5:=Tryz.zeroValue5
 t9:=Tryz.underlying9
 a9:=Tryz.isAgg9
 z9:=Tryz.sizeOf9
 v9:=Tryz.zeroValue9}
open Go.RowKit Go.Lib in
theorem Tryz.stringslite_IndexByte (s:ByteArray) (c:Int) (w:World):
  Calls Tryz.prog 264 #[.string s, .int .u8 c] w fun e w'=>e= .returned (.int .i64 (Lib.indexByte s.data.toList c.toNat.toUInt8))∧w'=w:=Any.stringslite_IndexByte Tryz.lays217 s c w
def Tryz.lays219_ren:Go.Shelf.Ren:=⟨fun|219=>306|217=>264|225=>344|224=>345|267=>346|266=>308|314=>372|n=>n,fun|9=>9|3=>3|4=>4|5=>5|46=>254|146=>431|51=>284|n=>n,fun|1=>0|n=>n⟩
theorem Tryz.lays219:Go.Proofs.Lays.n219 Tryz.prog Tryz.lays219_ren:={
 mixed:=by kernel_rfl
 f217:=Tryz.func264.trans (congrArg some (by kernel_rfl))
 f219:=Tryz.func306.trans (congrArg some (by kernel_rfl))
 f224:=Tryz.func345.trans (congrArg some (by kernel_rfl))
 f225:=Tryz.func344.trans (congrArg some (by kernel_rfl))
 f266:=Tryz.func308.trans (congrArg some (by kernel_rfl))
 f267:=Tryz.func346.trans (congrArg some (by kernel_rfl))
 f314:=Tryz.func372.trans (congrArg some (by kernel_rfl))
 t3:=Tryz.underlying3
 a3:=Tryz.isAgg3
 z3:=Tryz.sizeOf3
 v3:=Tryz.zeroValue3
 t4:=Tryz.underlying4
 a4:=Tryz.isAgg4
 z4:=Tryz.sizeOf4
 v4:=Tryz.zeroValue4
 t5:=Tryz.underlying5
 a5:=Tryz.isAgg5
 z5:=Tryz.sizeOf5
 v5:=Tryz.zeroValue5
 t9:=Tryz.underlying9
 a9:=Tryz.isAgg9
 z9:=Tryz.sizeOf9
 v9:=Tryz.zeroValue9
 t46:=Tryz.underlying254
 a46:=Tryz.isAgg254
 z46:=Tryz.sizeOf254
 v46:=Tryz.zeroValue254
 t51:=Tryz.underlying284
 a51:=Tryz.isAgg284
 z51:=Tryz.sizeOf284
 v51:=Tryz.zeroValue284
 t146:=Tryz.underlying431
 a146:=Tryz.isAgg431
 z146:=Tryz.sizeOf431
 v146:=Tryz.zeroValue431
 g1:=by kernel_rfl}
open Go.RowKit Go.Lib in
theorem Tryz.stringslite_Index (s sub:ByteArray) (m:Int) (w:World) (hs:s.size<4294967281) (hm:w.cell? ⟨0,0,none⟩=some (.int .i64 m)):
  Calls Tryz.prog 306 #[.string s, .string sub] w fun e w'=>e= .returned (.int .i64 (Lib.index s.data.toList sub.data.toList))∧w'=w:=Any.stringslite_Index Tryz.lays219 s sub m w hs hm
def Tryz.lays143_ren:Go.Shelf.Ren:=⟨fun|143=>256|219=>306|217=>264|225=>344|224=>345|267=>346|266=>308|314=>372|n=>n,fun|9=>9|3=>3|4=>4|5=>5|46=>254|146=>431|51=>284|n=>n,fun|1=>0|n=>n⟩
theorem Tryz.lays143:Go.Proofs.Lays.n143 Tryz.prog Tryz.lays143_ren:={
 mixed:=by kernel_rfl
 f143:=Tryz.func256.trans (congrArg some (by kernel_rfl))
 f217:=Tryz.func264.trans (congrArg some (by kernel_rfl))
 f219:=Tryz.func306.trans (congrArg some (by kernel_rfl))
 f224:=Tryz.func345.trans (congrArg some (by kernel_rfl))
 f225:=Tryz.func344.trans (congrArg some (by kernel_rfl))
 f266:=Tryz.func308.trans (congrArg some (by kernel_rfl))
 f267:=Tryz.func346.trans (congrArg some (by kernel_rfl))
 f314:=Tryz.func372.trans (congrArg some (by kernel_rfl))
 t3:=Tryz.underlying3
 a3:=Tryz.isAgg3
 z3:=Tryz.sizeOf3
 v3:=Tryz.zeroValue3
 t4:=Tryz.underlying4
 a4:=Tryz.isAgg4
 z4:=Tryz.sizeOf4
 v4:=Tryz.zeroValue4
 t5:=Tryz.underlying5
 a5:=Tryz.isAgg5
 z5:=Tryz.sizeOf5
 v5:=Tryz.zeroValue5
 t9:=Tryz.underlying9
 a9:=Tryz.isAgg9
 z9:=Tryz.sizeOf9
 v9:=Tryz.zeroValue9
 t46:=Tryz.underlying254
 a46:=Tryz.isAgg254
 z46:=Tryz.sizeOf254
 v46:=Tryz.zeroValue254
 t51:=Tryz.underlying284
 a51:=Tryz.isAgg284
 z51:=Tryz.sizeOf284
 v51:=Tryz.zeroValue284
 t146:=Tryz.underlying431
 a146:=Tryz.isAgg431
 z146:=Tryz.sizeOf431
 v146:=Tryz.zeroValue431
 g1:=by kernel_rfl}
open Go.RowKit Go.Lib in
theorem Tryz.strings_Index (s sub:ByteArray) (m:Int) (w:World) (hs:s.size<4294967281) (hm:w.cell? ⟨0,0,none⟩=some (.int .i64 m)):
  Calls Tryz.prog 256 #[.string s, .string sub] w fun e w'=>e= .returned (.int .i64 (Lib.index s.data.toList sub.data.toList))∧w'=w:=Any.strings_Index Tryz.lays143 s sub m w hs hm
def Tryz.lays138_ren:Go.Shelf.Ren:=⟨fun|138=>255|195=>303|218=>305|143=>256|219=>306|217=>264|225=>344|224=>345|267=>346|266=>308|314=>372|n=>n,fun|9=>9|3=>3|4=>4|5=>5|0=>0|46=>254|146=>431|51=>284|n=>n,fun|1=>0|n=>n⟩
theorem Tryz.lays138:Go.Proofs.Lays.n138 Tryz.prog Tryz.lays138_ren:={
 mixed:=by kernel_rfl
 f138:=Tryz.func255.trans (congrArg some (by kernel_rfl))
 f143:=Tryz.func256.trans (congrArg some (by kernel_rfl))
 f195:=Tryz.func303.trans (congrArg some (by kernel_rfl))
 f217:=Tryz.func264.trans (congrArg some (by kernel_rfl))
 f218:=Tryz.func305.trans (congrArg some (by kernel_rfl))
 f219:=Tryz.func306.trans (congrArg some (by kernel_rfl))
 f224:=Tryz.func345.trans (congrArg some (by kernel_rfl))
 f225:=Tryz.func344.trans (congrArg some (by kernel_rfl))
 f266:=Tryz.func308.trans (congrArg some (by kernel_rfl))
 f267:=Tryz.func346.trans (congrArg some (by kernel_rfl))
 f314:=Tryz.func372.trans (congrArg some (by kernel_rfl))
 t0:=Tryz.underlying0
 a0:=Tryz.isAgg0
 z0:=Tryz.sizeOf0
 v0:=Tryz.zeroValue0
 t3:=Tryz.underlying3
 a3:=Tryz.isAgg3
 z3:=Tryz.sizeOf3
 v3:=Tryz.zeroValue3
 t4:=Tryz.underlying4
 a4:=Tryz.isAgg4
 z4:=Tryz.sizeOf4
 v4:=Tryz.zeroValue4
 t5:=Tryz.underlying5
 a5:=Tryz.isAgg5
 z5:=Tryz.sizeOf5
 v5:=Tryz.zeroValue5
 t9:=Tryz.underlying9
 a9:=Tryz.isAgg9
 z9:=Tryz.sizeOf9
 v9:=Tryz.zeroValue9
 t46:=Tryz.underlying254
 a46:=Tryz.isAgg254
 z46:=Tryz.sizeOf254
 v46:=Tryz.zeroValue254
 t51:=Tryz.underlying284
 a51:=Tryz.isAgg284
 z51:=Tryz.sizeOf284
 v51:=Tryz.zeroValue284
 t146:=Tryz.underlying431
 a146:=Tryz.isAgg431
 z146:=Tryz.sizeOf431
 v146:=Tryz.zeroValue431
 g1:=by kernel_rfl}
open Go.RowKit Go.Lib in
theorem Tryz.strings_Count_one (s:ByteArray) (c:UInt8) (w:World):
  Calls Tryz.prog 255 #[.string s, .string ⟨#[c]⟩] w fun e w'=>e= .returned (.int .i64 (Lib.countByte s.data.toList c))∧w'=w:=Any.strings_Count_one Tryz.lays138 s c w
end Go.Proofs
end
