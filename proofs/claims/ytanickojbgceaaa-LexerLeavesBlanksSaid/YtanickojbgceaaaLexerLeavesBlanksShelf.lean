/- Part of the proof of the law LexerLeavesBlanks: Shelf. -/
import Derived.Shelf.Small.Utf8
import Derived.Shelf.Small.Strs
import Derived.Shelf.Strings.Search1
import Derived.Shelf.Strings.Search2
import Derived.Shelf.Strings.Search3
import Derived.Shelf.LaysM
import Derived.Shelf.Strings.Shaped
import Derived.Shelf.Strings.Runes
import Derived.Test.YtanickojbgceaaaProg
namespace Go.Proofs
open Go.Shelf
def Try.lays137_ren : Go.Shelf.Ren := ⟨fun | 137 => 36 | 217 => 42 | 266 => 47 | n => n, fun | 9 => 9 | 5 => 5 | 3 => 3 | n => n, fun | n => n⟩
theorem Try.lays137 : Go.Proofs.Lays.n137 Try.prog Try.lays137_ren := {
 mixed := by kernel_rfl
 f137 := Try.func36.trans (congrArg some (by kernel_rfl))
 f217 := Try.func42.trans (congrArg some (by kernel_rfl))
 f266 := Try.func47.trans (congrArg some (by kernel_rfl))
 t3 := Try.underlying3
 a3 := Try.isAgg3
 z3 := Try.sizeOf3
 v3 := Try.zeroValue3
 t5 := Try.underlying5
 a5 := Try.isAgg5
 z5 := Try.sizeOf5
 v5 := Try.zeroValue5
 t9 := Try.underlying9
 a9 := Try.isAgg9
 z9 := Try.sizeOf9
 v9 := Try.zeroValue9 }
open Go.RowKit in
theorem Try.strings_IndexByte (s : ByteArray) (c : Int) (w : World) :
  Calls Try.prog 36 #[.string s, .int .u8 c] w fun e w' => e = .returned (.int .i64 (Lib.indexByte s.data.toList c.toNat.toUInt8)) ∧ w' = w := Any.strings_IndexByte Try.lays137 s c w
def Try.lays144_ren : Go.Shelf.Ren := ⟨fun | 144 => 27 | 143 => 40 | 219 => 43 | 217 => 42 | 225 => 46 | 224 => 45 | 267 => 48 | 266 => 47 | 314 => 49 | n => n, fun | 9 => 9 | 4 => 4 | 3 => 3 | 5 => 5 | 46 => 53 | 146 => 55 | 51 => 54 | n => n, fun | 1 => 0 | n => n⟩
theorem Try.lays144 : Go.Proofs.Lays.n144 Try.prog Try.lays144_ren := {
 mixed := by kernel_rfl
 f143 := Try.func40.trans (congrArg some (by kernel_rfl))
 f144 := Try.func27.trans (congrArg some (by kernel_rfl))
 f217 := Try.func42.trans (congrArg some (by kernel_rfl))
 f219 := Try.func43.trans (congrArg some (by kernel_rfl))
 f224 := Try.func45.trans (congrArg some (by kernel_rfl))
 f225 := Try.func46.trans (congrArg some (by kernel_rfl))
 f266 := Try.func47.trans (congrArg some (by kernel_rfl))
 f267 := Try.func48.trans (congrArg some (by kernel_rfl))
 f314 := Try.func49.trans (congrArg some (by kernel_rfl))
 t3 := Try.underlying3
 a3 := Try.isAgg3
 z3 := Try.sizeOf3
 v3 := Try.zeroValue3
 t4 := Try.underlying4
 a4 := Try.isAgg4
 z4 := Try.sizeOf4
 v4 := Try.zeroValue4
 t5 := Try.underlying5
 a5 := Try.isAgg5
 z5 := Try.sizeOf5
 v5 := Try.zeroValue5
 t9 := Try.underlying9
 a9 := Try.isAgg9
 z9 := Try.sizeOf9
 v9 := Try.zeroValue9
 t46 := Try.underlying53
 a46 := Try.isAgg53
 z46 := Try.sizeOf53
 v46 := Try.zeroValue53
 t51 := Try.underlying54
 a51 := Try.isAgg54
 z51 := Try.sizeOf54
 v51 := Try.zeroValue54
 t146 := Try.underlying55
 a146 := Try.isAgg55
 z146 := Try.sizeOf55
 v146 := Try.zeroValue55
 g1 := by kernel_rfl }
open Go.RowKit Go.Lib in
theorem Try.strings_Contains (s sub : ByteArray) (m : Int) (w : World) (hs : s.size < 4294967281) (hm : w.cell? ⟨0, 0, none⟩ = some (.int .i64 m)) :
  Calls Try.prog 27 #[.string s, .string sub] w fun e w' => e = .returned (.bool (Lib.contains s.data.toList sub.data.toList)) ∧ w' = w := Any.strings_Contains Try.lays144 s sub m w hs hm
def Try.lays151_ren : Go.Shelf.Ren := ⟨fun | 151 => 35 | 152 => 41 | 137 => 36 | 119 => 44 | 224 => 45 | 225 => 46 | 217 => 42 | 266 => 47 | n => n, fun | 9 => 9 | 21 => 21 | 4 => 4 | 3 => 3 | 5 => 5 | 0 => 0 | 46 => 53 | n => n, fun | n => n⟩
theorem Try.lays151 : Go.Proofs.Lays.n151 Try.prog Try.lays151_ren := {
 mixed := by kernel_rfl
 f119 := Try.func44.trans (congrArg some (by kernel_rfl))
 f137 := Try.func36.trans (congrArg some (by kernel_rfl))
 f151 := Try.func35.trans (congrArg some (by kernel_rfl))
 f152 := Try.func41.trans (congrArg some (by kernel_rfl))
 f217 := Try.func42.trans (congrArg some (by kernel_rfl))
 f224 := Try.func45.trans (congrArg some (by kernel_rfl))
 f225 := Try.func46.trans (congrArg some (by kernel_rfl))
 f266 := Try.func47.trans (congrArg some (by kernel_rfl))
 t0 := Try.underlying0
 a0 := Try.isAgg0
 z0 := Try.sizeOf0
 v0 := Try.zeroValue0
 t3 := Try.underlying3
 a3 := Try.isAgg3
 z3 := Try.sizeOf3
 v3 := Try.zeroValue3
 t4 := Try.underlying4
 a4 := Try.isAgg4
 z4 := Try.sizeOf4
 v4 := Try.zeroValue4
 t5 := Try.underlying5
 a5 := Try.isAgg5
 z5 := Try.sizeOf5
 v5 := Try.zeroValue5
 t9 := Try.underlying9
 a9 := Try.isAgg9
 z9 := Try.sizeOf9
 v9 := Try.zeroValue9
 t21 := Try.underlying21
 a21 := Try.isAgg21
 z21 := Try.sizeOf21
 v21 := Try.zeroValue21
 t46 := Try.underlying53
 a46 := Try.isAgg53
 z46 := Try.sizeOf53
 v46 := Try.zeroValue53 }
open Go.RowKit Go.Lib in
theorem Try.strings_ContainsRune_ascii (s : ByteArray) (r : Int) (w : World) (h0 : 0 ≤ r) (h1 : r < 128) :
  Calls Try.prog 35 #[.string s, .int .i32 r] w fun e w' => e = .returned (.bool (decide (0 ≤ Lib.indexByte s.data.toList r.toNat.toUInt8))) ∧ w' = w := Any.strings_ContainsRune_ascii Try.lays151 s r w h0 h1
end Go.Proofs
