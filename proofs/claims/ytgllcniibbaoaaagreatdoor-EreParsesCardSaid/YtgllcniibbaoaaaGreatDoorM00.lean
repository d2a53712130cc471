/- Lemmas of this claim. -/
import Derived.Shelf.Strings.Builder1
import Derived.Shelf.Strings.Trim
import Derived.Shelf.Small.Utf8
import Derived.Shelf.Small.Strs
import Derived.Shelf.Strings.BuilderF
import Derived.Shelf.Strings.BuilderK
import Derived.Shelf.Strings.BuilderRune
import Derived.Shelf.Utf8.AppendRune
import Derived.Shelf.Utf8.AppendRunePlain
import Derived.Shelf.Strings.Search1
import Derived.Shelf.Strings.Search2
import Derived.Shelf.Strings.Search3
import Derived.Shelf.LaysM
import Derived.Shelf.Strings.Shaped
import Derived.Shelf.Strings.Prefix
import Derived.Shelf.Unicode.Decode
import Derived.Shelf.Strings.Runes
import Derived.Shelf.Strings.AsciiSet
import Derived.Shelf.Unicode.DecodeSlow
import Derived.Shelf.Unicode.DecodeAny
import Derived.Shelf.Strings.BuilderCap
import Derived.Shelf.Slices.Turned
import Derived.Test.YtgllcniibbaoaaaGreatDoorProg
namespace Go.Proofs
open Go.Shelf
def Tryz.lays219_ren:Go.Shelf.Ren:=⟨fun|219=>206|217=>177|225=>209|224=>208|267=>210|266=>187|314=>211|n=>n,fun|9=>9|3=>3|4=>4|5=>5|46=>253|146=>286|51=>230|n=>n,fun|1=>0|n=>n⟩
def Tryz.lays143_ren:Go.Shelf.Ren:=⟨fun|143=>201|219=>206|217=>177|225=>209|224=>208|267=>210|266=>187|314=>211|n=>n,fun|9=>9|3=>3|4=>4|5=>5|46=>253|146=>286|51=>230|n=>n,fun|1=>0|n=>n⟩
theorem Tryz.lays143:Go.Proofs.Lays.n143 Tryz.prog Tryz.lays143_ren:={
 mixed:=by kernel_rfl
 f143:=Tryz.func201.trans (congrArg some (by kernel_rfl))
 f217:=Tryz.func177.trans (congrArg some (by kernel_rfl))
 f219:=Tryz.func206.trans (congrArg some (by kernel_rfl))
 f224:=Tryz.func208.trans (congrArg some (by kernel_rfl))
 f225:=Tryz.func209.trans (congrArg some (by kernel_rfl))
 f266:=Tryz.func187.trans (congrArg some (by kernel_rfl))
 f267:=Tryz.func210.trans (congrArg some (by kernel_rfl))
 f314:=Tryz.func211.trans (congrArg some (by kernel_rfl))
 t3:=Tryz.underlying3
 a3:=Tryz.isAgg3
 z3:=Tryz.sizeOf3
 v3:=Tryz.zeroValue3
 t4:=Tryz.underlying4
 a4:=Tryz.isAgg4
 z4:=Tryz.sizeOf4
 v4:=Tryz.zeroValue4
 t5:=Tryz.underlying5
 a5:=Tryz.isAgg5
 z5:=Tryz.sizeOf5
 v5:=Tryz.zeroValue5
 t9:=Tryz.underlying9
 a9:=Tryz.isAgg9
 z9:=Tryz.sizeOf9
 v9:=Tryz.zeroValue9
 t46:=Tryz.underlying253
 a46:=Tryz.isAgg253
 z46:=Tryz.sizeOf253
 v46:=Tryz.zeroValue253
 t51:=Tryz.underlying230
 a51:=Tryz.isAgg230
 z51:=Tryz.sizeOf230
 v51:=Tryz.zeroValue230
 t146:=Tryz.underlying286
 a146:=Tryz.isAgg286
 z146:=Tryz.sizeOf286
 v146:=Tryz.zeroValue286
 g1:=by kernel_rfl}
open Go.RowKit Go.Lib in
theorem Tryz.strings_Index(s sub:ByteArray)(m:Int)(w:World)(hs:s.size<4294967281)(hm:w.cell? ⟨0,0,none⟩=some (.int .i64 m)):
 Calls Tryz.prog 201 #[.string s,.string sub] w fun e w'=>e=.returned (.int .i64 (Lib.index s.data.toList sub.data.toList))∧w'=w:=Any.strings_Index Tryz.lays143 s sub m w hs hm
end Go.Proofs
