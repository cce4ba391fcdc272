/-
  DERIVED: THE SHELF's CONTRACTS AT THIS DUMP,IN PLAIN WORDS (tools/lay-plain.mjs out of 'TryzShelf.lean',which tools/lay-shelf.mjs wrote): THE SAME DECLARATIONS UNDER THE SAME NAMES: 'import','namespace','open','def','theorem' AND NOTHING ELSE: no command of the shelf's: FOR A HAND-IN. Each laying: the table of numbers ('.._ren') and one theorem,a field a fact of the dump's own or the kernel's comparison;each contract: ONE APPLICATION.
-/
import Derived.Shelf.Strings.Builder1
import Derived.Shelf.Small.Strs
import Derived.Shelf.Small.Wraps
import Derived.Shelf.Strings.BuilderF
import Derived.Shelf.Strings.BuilderK
import Derived.Shelf.Utf8.RuneCount
import Derived.Shelf.Strings.Search1
import Derived.Shelf.Strings.Search2
import Derived.Shelf.Strings.Search3
import Derived.Shelf.Strings.Cut
import Derived.Shelf.Strings.Count
import Derived.Shelf.LaysM
import Derived.Shelf.Strings.Shaped
import Derived.Shelf.Strings.Prefix
import Derived.Shelf.Strings.Split
import Derived.Shelf.Strings.SplitShaped
import Derived.Shelf.Unicode.Decode
import Derived.Shelf.Strings.RuneCount
import Derived.Shelf.Strings.Explode
import Derived.Shelf.Bits.Mul64
import Derived.Shelf.Unicode.DecodeSlow
import Derived.Shelf.Unicode.DecodeAny
import Derived.Shelf.Strings.BuilderCap
import Derived.Shelf.Slices.Turned
import Derived.Test.YtoelfmmfjebabaaGreatDoorProg
namespace Go.Proofs
open Go.Shelf
def Tryz.lays169_ren:Go.Shelf.Ren:=⟨fun | 169=>18 | n=>n,fun | 70=>61 | 9=>9 | 0=>0 | 72=>64 | 37=>62 | 127=>97 | 3=>3 | 5=>5 | n=>n,fun | n=>n⟩
theorem Tryz.lays169:Go.Proofs.Lays.n169 Tryz.prog Tryz.lays169_ren:={
  mixed:=by kernel_rfl
  f169:=Tryz.func18.trans (congrArg some (by kernel_rfl))
  t0:=Tryz.underlying0
  a0:=Tryz.isAgg0
  z0:=Tryz.sizeOf0
  v0:=Tryz.zeroValue0
  t3:=Tryz.underlying3
  a3:=Tryz.isAgg3
  z3:=Tryz.sizeOf3
  v3:=Tryz.zeroValue3
  t9:=Tryz.underlying9
  a9:=Tryz.isAgg9
  z9:=Tryz.sizeOf9
  v9:=Tryz.zeroValue9
  t37:=Tryz.underlying62
  a37:=Tryz.isAgg62
  z37:=Tryz.sizeOf62
  v37:=Tryz.zeroValue62
  t70:=Tryz.underlying61
  a70:=Tryz.isAgg61
  z70:=Tryz.sizeOf61
  v70:=Tryz.zeroValue61
  t72:=Tryz.underlying64
  a72:=Tryz.isAgg64
  z72:=Tryz.sizeOf64
  v72:=Tryz.zeroValue64
  t127:=Tryz.underlying97
  a127:=Tryz.isAgg97
  z127:=Tryz.sizeOf97
  v127:=Tryz.zeroValue97 }
theorem Tryz.Builder_Extra_169:Builder.Extra Tryz.prog Tryz.lays169_ren:={
  sizeBuilder:=by kernel_rfl
  liesBuilder:=by kernel_rfl
  t5:=Tryz.underlying5
  a5:=Tryz.isAgg5
  z5:=Tryz.sizeOf5
  v5:=Tryz.zeroValue5
  infoByte:=by kernel_rfl
  cellsByte:=by kernel_rfl
  sizeByte:=by kernel_rfl
  neB5:=by decide }
open Go.RowKit in
theorem Tryz.Builder_String_any (B b:Nat) (l:List UInt8) (w:World) (h:Lib.IsBuilder 64 5 B b (Lib.byteCells l) w) (hBw:B≤w.heap.size) :
    Calls Tryz.prog 18 #[.pointer (some ⟨b,0,none⟩)] w fun e w'=>e=.returned (.string ⟨l.toArray⟩)∧Below B w w':=Any.Builder_String_any Tryz.lays169 Tryz.Builder_Extra_169 B b l w h hBw
def Tryz.lays137_ren:Go.Shelf.Ren:=⟨fun | 137=>46 | 217=>75 | 266=>93 | n=>n,fun | 9=>9 | 5=>5 | 3=>3 | n=>n,fun | n=>n⟩
theorem Tryz.lays137:Go.Proofs.Lays.n137 Tryz.prog Tryz.lays137_ren:={
  mixed:=by kernel_rfl
  f137:=Tryz.func46.trans (congrArg some (by kernel_rfl))
  f217:=Tryz.func75.trans (congrArg some (by kernel_rfl))
  f266:=Tryz.func93.trans (congrArg some (by kernel_rfl))
  t3:=Tryz.underlying3
  a3:=Tryz.isAgg3
  z3:=Tryz.sizeOf3
  v3:=Tryz.zeroValue3
  t5:=Tryz.underlying5
  a5:=Tryz.isAgg5
  z5:=Tryz.sizeOf5
  v5:=Tryz.zeroValue5
  t9:=Tryz.underlying9
  a9:=Tryz.isAgg9
  z9:=Tryz.sizeOf9
  v9:=Tryz.zeroValue9 }
open Go.RowKit in
theorem Tryz.strings_IndexByte (s:ByteArray) (c:Int) (w:World) :
    Calls Tryz.prog 46 #[.string s,.int .u8 c] w fun e w'=>e=.returned (.int .i64 (Lib.indexByte s.data.toList c.toNat.toUInt8))∧w'=w:=Any.strings_IndexByte Tryz.lays137 s c w
def Tryz.lays103_ren:Go.Shelf.Ren:=⟨fun | 103=>77 | 210=>94 | 206=>76 | n=>n,fun | 9=>9 | 4=>4 | 24=>88 | 3=>3 | n=>n,fun | n=>n⟩
theorem Tryz.lays103:Go.Proofs.Lays.n103 Tryz.prog Tryz.lays103_ren:={
  mixed:=by kernel_rfl
  f103:=Tryz.func77.trans (congrArg some (by kernel_rfl))
  f206:=Tryz.func76.trans (congrArg some (by kernel_rfl))
  f210:=Tryz.func94.trans (congrArg some (by kernel_rfl))
  t3:=Tryz.underlying3
  a3:=Tryz.isAgg3
  z3:=Tryz.sizeOf3
  v3:=Tryz.zeroValue3
  t4:=Tryz.underlying4
  a4:=Tryz.isAgg4
  z4:=Tryz.sizeOf4
  v4:=Tryz.zeroValue4
  t9:=Tryz.underlying9
  a9:=Tryz.isAgg9
  z9:=Tryz.sizeOf9
  v9:=Tryz.zeroValue9
  t24:=Tryz.underlying88
  a24:=Tryz.isAgg88
  z24:=Tryz.sizeOf88
  v24:=Tryz.zeroValue88 }
open Go.RowKit in
theorem Tryz.strings_CutPrefix (s p:ByteArray) (w:World) :
    Calls Tryz.prog 77 #[.string s,.string p] w fun e w'=>e=.returned (.tuple #[.string ⟨(Lib.trimPrefix s.data.toList p.data.toList).toArray⟩,.bool (Lib.hasPrefix s.data.toList p.data.toList)])∧w'=w:=Any.strings_CutPrefix Tryz.lays103 s p w
def Tryz.lays144_ren:Go.Shelf.Ren:=⟨fun | 144=>133 | 143=>112 | 219=>100 | 217=>75 | 225=>107 | 224=>108 | 267=>109 | 266=>93 | 314=>116 | n=>n,fun | 9=>9 | 4=>4 | 3=>3 | 5=>5 | 46=>141 | 146=>158 | 51=>157 | n=>n,fun | 1=>2 | n=>n⟩
theorem Tryz.lays144:Go.Proofs.Lays.n144 Tryz.prog Tryz.lays144_ren:={
  mixed:=by kernel_rfl
  f143:=Tryz.func112.trans (congrArg some (by kernel_rfl))
  f144:=Tryz.func133.trans (congrArg some (by kernel_rfl))
  f217:=Tryz.func75.trans (congrArg some (by kernel_rfl))
  f219:=Tryz.func100.trans (congrArg some (by kernel_rfl))
  f224:=Tryz.func108.trans (congrArg some (by kernel_rfl))
  f225:=Tryz.func107.trans (congrArg some (by kernel_rfl))
  f266:=Tryz.func93.trans (congrArg some (by kernel_rfl))
  f267:=Tryz.func109.trans (congrArg some (by kernel_rfl))
  f314:=Tryz.func116.trans (congrArg some (by kernel_rfl))
  t3:=Tryz.underlying3
  a3:=Tryz.isAgg3
  z3:=Tryz.sizeOf3
  v3:=Tryz.zeroValue3
  t4:=Tryz.underlying4
  a4:=Tryz.isAgg4
  z4:=Tryz.sizeOf4
  v4:=Tryz.zeroValue4
  t5:=Tryz.underlying5
  a5:=Tryz.isAgg5
  z5:=Tryz.sizeOf5
  v5:=Tryz.zeroValue5
  t9:=Tryz.underlying9
  a9:=Tryz.isAgg9
  z9:=Tryz.sizeOf9
  v9:=Tryz.zeroValue9
  t46:=Tryz.underlying141
  a46:=Tryz.isAgg141
  z46:=Tryz.sizeOf141
  v46:=Tryz.zeroValue141
  t51:=Tryz.underlying157
  a51:=Tryz.isAgg157
  z51:=Tryz.sizeOf157
  v51:=Tryz.zeroValue157
  t146:=Tryz.underlying158
  a146:=Tryz.isAgg158
  z146:=Tryz.sizeOf158
  v146:=Tryz.zeroValue158
  g1:=by kernel_rfl }
open Go.RowKit Go.Lib in
theorem Tryz.strings_Contains (s sub:ByteArray) (m:Int) (w:World) (hs:s.size < 4294967281) (hm:w.cell? ⟨2,0,none⟩=some (.int .i64 m)) :
    Calls Tryz.prog 133 #[.string s,.string sub] w fun e w'=>e=.returned (.bool (Lib.contains s.data.toList sub.data.toList))∧w'=w:=Any.strings_Contains Tryz.lays144 s sub m w hs hm
def Tryz.lays145_ren:Go.Shelf.Ren:=⟨fun | 145=>61 | 220=>88 | 219=>100 | 217=>75 | 225=>107 | 224=>108 | 267=>109 | 266=>93 | 314=>116 | n=>n,fun | 9=>9 | 4=>4 | 59=>121 | 3=>3 | 5=>5 | 46=>141 | 146=>158 | 51=>157 | n=>n,fun | 1=>2 | n=>n⟩
theorem Tryz.lays145:Go.Proofs.Lays.n145 Tryz.prog Tryz.lays145_ren:={
  mixed:=by kernel_rfl
  f145:=Tryz.func61.trans (congrArg some (by kernel_rfl))
  f217:=Tryz.func75.trans (congrArg some (by kernel_rfl))
  f219:=Tryz.func100.trans (congrArg some (by kernel_rfl))
  f220:=Tryz.func88.trans (congrArg some (by kernel_rfl))
  f224:=Tryz.func108.trans (congrArg some (by kernel_rfl))
  f225:=Tryz.func107.trans (congrArg some (by kernel_rfl))
  f266:=Tryz.func93.trans (congrArg some (by kernel_rfl))
  f267:=Tryz.func109.trans (congrArg some (by kernel_rfl))
  f314:=Tryz.func116.trans (congrArg some (by kernel_rfl))
  t3:=Tryz.underlying3
  a3:=Tryz.isAgg3
  z3:=Tryz.sizeOf3
  v3:=Tryz.zeroValue3
  t4:=Tryz.underlying4
  a4:=Tryz.isAgg4
  z4:=Tryz.sizeOf4
  v4:=Tryz.zeroValue4
  t5:=Tryz.underlying5
  a5:=Tryz.isAgg5
  z5:=Tryz.sizeOf5
  v5:=Tryz.zeroValue5
  t9:=Tryz.underlying9
  a9:=Tryz.isAgg9
  z9:=Tryz.sizeOf9
  v9:=Tryz.zeroValue9
  t46:=Tryz.underlying141
  a46:=Tryz.isAgg141
  z46:=Tryz.sizeOf141
  v46:=Tryz.zeroValue141
  t51:=Tryz.underlying157
  a51:=Tryz.isAgg157
  z51:=Tryz.sizeOf157
  v51:=Tryz.zeroValue157
  t59:=Tryz.underlying121
  a59:=Tryz.isAgg121
  z59:=Tryz.sizeOf121
  v59:=Tryz.zeroValue121
  t146:=Tryz.underlying158
  a146:=Tryz.isAgg158
  z146:=Tryz.sizeOf158
  v146:=Tryz.zeroValue158
  g1:=by kernel_rfl }
open Go.RowKit Go.Lib in
theorem Tryz.strings_Cut (s sep:ByteArray) (m:Int) (w:World) (hs:s.size < 4294967281) (hm:w.cell? ⟨2,0,none⟩=some (.int .i64 m)) :
    Calls Tryz.prog 61 #[.string s,.string sep] w fun e w'=>e=.returned (.tuple #[.string ⟨(Lib.cut s.data.toList sep.data.toList).1.toArray⟩,.string ⟨(Lib.cut s.data.toList sep.data.toList).2.1.toArray⟩,.bool (Lib.cut s.data.toList sep.data.toList).2.2])∧∃ n,w'=w.drewN n:=Any.strings_Cut Tryz.lays145 s sep m w hs hm
def Tryz.lays99_ren:Go.Shelf.Ren:=⟨fun | 99=>47 | 206=>76 | n=>n,fun | 9=>9 | 4=>4 | 3=>3 | n=>n,fun | n=>n⟩
theorem Tryz.lays99:Go.Proofs.Lays.n99 Tryz.prog Tryz.lays99_ren:={
  mixed:=by kernel_rfl
  f99:=Tryz.func47.trans (congrArg some (by kernel_rfl))
  f206:=Tryz.func76.trans (congrArg some (by kernel_rfl))
  t3:=Tryz.underlying3
  a3:=Tryz.isAgg3
  z3:=Tryz.sizeOf3
  v3:=Tryz.zeroValue3
  t4:=Tryz.underlying4
  a4:=Tryz.isAgg4
  z4:=Tryz.sizeOf4
  v4:=Tryz.zeroValue4
  t9:=Tryz.underlying9
  a9:=Tryz.isAgg9
  z9:=Tryz.sizeOf9
  v9:=Tryz.zeroValue9 }
open Go.RowKit Go.Lib in
theorem Tryz.strings_HasPrefix (s p:ByteArray) (w:World) :
    Calls Tryz.prog 47 #[.string s,.string p] w fun e w'=>e=.returned (.bool (Lib.hasPrefix s.data.toList p.data.toList))∧w'=w:=Any.strings_HasPrefix Tryz.lays99 s p w
def Tryz.lays146_ren:Go.Shelf.Ren:=⟨fun | 146=>89 | 221=>101 | 268=>110 | 138=>111 | 143=>112 | 195=>117 | 197=>118 | 218=>119 | 219=>100 | 260=>122 | 217=>75 | 225=>107 | 224=>108 | 267=>109 | 266=>93 | 314=>116 | n=>n,fun | 9=>9 | 31=>26 | 3=>3 | 4=>4 | 0=>0 | 105=>160 | 21=>21 | 5=>5 | 46=>141 | 119=>162 | 139=>165 | 138=>164 | 146=>158 | 51=>157 | n=>n,fun | 1=>2 | 3=>3 | 4=>4 | n=>n⟩
theorem Tryz.lays146:Go.Proofs.Lays.n146 Tryz.prog Tryz.lays146_ren:={
  mixed:=by kernel_rfl
  f138:=Tryz.func111.trans (congrArg some (by kernel_rfl))
  f143:=Tryz.func112.trans (congrArg some (by kernel_rfl))
  f146:=Tryz.func89.trans (congrArg some (by kernel_rfl))
  f195:=Tryz.func117.trans (congrArg some (by kernel_rfl))
  f197:=Tryz.func118.trans (congrArg some (by kernel_rfl))
  f217:=Tryz.func75.trans (congrArg some (by kernel_rfl))
  f218:=Tryz.func119.trans (congrArg some (by kernel_rfl))
  f219:=Tryz.func100.trans (congrArg some (by kernel_rfl))
  f221:=Tryz.func101.trans (congrArg some (by kernel_rfl))
  f224:=Tryz.func108.trans (congrArg some (by kernel_rfl))
  f225:=Tryz.func107.trans (congrArg some (by kernel_rfl))
  f260:=Tryz.func122.trans (congrArg some (by kernel_rfl))
  f266:=Tryz.func93.trans (congrArg some (by kernel_rfl))
  f267:=Tryz.func109.trans (congrArg some (by kernel_rfl))
  f268:=Tryz.func110.trans (congrArg some (by kernel_rfl))
  f314:=Tryz.func116.trans (congrArg some (by kernel_rfl))
  t0:=Tryz.underlying0
  a0:=Tryz.isAgg0
  z0:=Tryz.sizeOf0
  v0:=Tryz.zeroValue0
  t3:=Tryz.underlying3
  a3:=Tryz.isAgg3
  z3:=Tryz.sizeOf3
  v3:=Tryz.zeroValue3
  t4:=Tryz.underlying4
  a4:=Tryz.isAgg4
  z4:=Tryz.sizeOf4
  v4:=Tryz.zeroValue4
  t5:=Tryz.underlying5
  a5:=Tryz.isAgg5
  z5:=Tryz.sizeOf5
  v5:=Tryz.zeroValue5
  t9:=Tryz.underlying9
  a9:=Tryz.isAgg9
  z9:=Tryz.sizeOf9
  v9:=Tryz.zeroValue9
  t21:=Tryz.underlying21
  a21:=Tryz.isAgg21
  z21:=Tryz.sizeOf21
  v21:=Tryz.zeroValue21
  t31:=Tryz.underlying26
  a31:=Tryz.isAgg26
  z31:=Tryz.sizeOf26
  v31:=Tryz.zeroValue26
  t46:=Tryz.underlying141
  a46:=Tryz.isAgg141
  z46:=Tryz.sizeOf141
  v46:=Tryz.zeroValue141
  t51:=Tryz.underlying157
  a51:=Tryz.isAgg157
  z51:=Tryz.sizeOf157
  v51:=Tryz.zeroValue157
  t105:=Tryz.underlying160
  a105:=Tryz.isAgg160
  z105:=Tryz.sizeOf160
  v105:=Tryz.zeroValue160
  t119:=Tryz.underlying162
  a119:=Tryz.isAgg162
  z119:=Tryz.sizeOf162
  t138:=Tryz.underlying164
  a138:=Tryz.isAgg164
  z138:=Tryz.sizeOf164
  v138:=Tryz.zeroValue164
  t139:=Tryz.underlying165
  a139:=Tryz.isAgg165
  z139:=Tryz.sizeOf165
  v139:=Tryz.zeroValue165
  t146:=Tryz.underlying158
  a146:=Tryz.isAgg158
  z146:=Tryz.sizeOf158
  v146:=Tryz.zeroValue158
  g1:=by kernel_rfl
  g3:=by kernel_rfl
  g4:=by kernel_rfl }
open Go.RowKit Go.Lib in
theorem Tryz.strings_Split (s sep:ByteArray) (m:Int) (w:World) (hs:s.size < 4294967281) (hm:w.cell? ⟨2,0,none⟩=some (.int .i64 m)) (h1:1≤sep.size) :
    Calls Tryz.prog 89 #[.string s,.string sep] w fun e w'=>
      e=.returned (.slice (some ⟨w.heap.size,0,none⟩) (Lib.countB s sep+1) (Lib.countB s sep+1))∧w'=w.alloc (.cells ((Lib.splitB sep 0 (Lib.countB s sep) s).map Value.string).toArray 9):=Any.strings_Split Tryz.lays146 (by kernel_rfl) s sep m w hs hm h1
def Tryz.lays264_ren:Go.Shelf.Ren:=⟨fun | 264=>78 | n=>n,fun | 53=>126 | 46=>141 | n=>n,fun | n=>n⟩
theorem Tryz.lays264:Go.Proofs.Lays.n264 Tryz.prog Tryz.lays264_ren:={
  mixed:=by kernel_rfl
  f264:=Tryz.func78.trans (congrArg some (by kernel_rfl))
  t46:=Tryz.underlying141
  a46:=Tryz.isAgg141
  z46:=Tryz.sizeOf141
  v46:=Tryz.zeroValue141
  t53:=Tryz.underlying126
  a53:=Tryz.isAgg126
  z53:=Tryz.sizeOf126
  v53:=Tryz.zeroValue126 }
open Go.RowKit Go.Lib in
theorem Tryz.bits_Mul64 (x y:Nat) (hx:x < 18446744073709551616) (hy:y < 18446744073709551616) (w:World) :
    Calls Tryz.prog 78 #[.int .u64 x,.int .u64 y] w fun e w'=>e=.returned (.tuple #[.int .u64 ((x * y / 18446744073709551616:Nat):Int),.int .u64 ((x * y % 18446744073709551616:Nat):Int)])∧w'=w:=Any.bits_Mul64 Tryz.lays264 x y hx hy w
end Go.Proofs
