/- Part of the proof of the law GraphtextWritesBack: Shelf. -/
import Derived.Shelf.Strings.Builder1
import Derived.Shelf.Strings.BuilderF
import Derived.Shelf.Strings.BuilderK
import Derived.Shelf.Strconv.Itoa0
import Derived.Shelf.Strconv.Itoa1
import Derived.Shelf.LaysM
import Derived.Shelf.Strconv.Itoa2
import Derived.Shelf.Strconv.Itoa3
import Derived.Shelf.Strings.Search1
import Derived.Shelf.Strings.Search2
import Derived.Shelf.Strings.Search3
import Derived.Shelf.Strings.Cut
import Derived.Shelf.Strings.Count
import Derived.Shelf.Strings.Shaped
import Derived.Shelf.Strings.Prefix
import Derived.Shelf.Strings.Split
import Derived.Shelf.Strings.SplitShaped
import Derived.Shelf.Unicode.DecodeSlow
import Derived.Test.YtinfejpkjddbiaaDoorProg
namespace Go.Proofs
open Go.Shelf
def Tryd.lays169_ren : Go.Shelf.Ren := ⟨fun | 169 => 32 | n => n, fun | 70 => 51 | 9 => 9 | 0 => 0 | 72 => 54 | 37 => 52 | 127 => 70 | 3 => 3 | 5 => 5 | n => n, fun | n => n⟩
theorem Tryd.lays169 : Go.Proofs.Lays.n169 Tryd.prog Tryd.lays169_ren := {
 mixed := by kernel_rfl
 f169 := Tryd.func32.trans (congrArg some (by kernel_rfl))
 t0 := Tryd.underlying0
 a0 := Tryd.isAgg0
 z0 := Tryd.sizeOf0
 v0 := Tryd.zeroValue0
 t3 := Tryd.underlying3
 a3 := Tryd.isAgg3
 z3 := Tryd.sizeOf3
 v3 := Tryd.zeroValue3
 t9 := Tryd.underlying9
 a9 := Tryd.isAgg9
 z9 := Tryd.sizeOf9
 v9 := Tryd.zeroValue9
 t37 := Tryd.underlying52
 a37 := Tryd.isAgg52
 z37 := Tryd.sizeOf52
 v37 := Tryd.zeroValue52
 t70 := Tryd.underlying51
 a70 := Tryd.isAgg51
 z70 := Tryd.sizeOf51
 v70 := Tryd.zeroValue51
 t72 := Tryd.underlying54
 a72 := Tryd.isAgg54
 z72 := Tryd.sizeOf54
 v72 := Tryd.zeroValue54
 t127 := Tryd.underlying70
 a127 := Tryd.isAgg70
 z127 := Tryd.sizeOf70
 v127 := Tryd.zeroValue70 }
theorem Tryd.Builder_Extra_169 : Builder.Extra Tryd.prog Tryd.lays169_ren := {
 sizeBuilder := by kernel_rfl
 liesBuilder := by kernel_rfl
 t5 := Tryd.underlying5
 a5 := Tryd.isAgg5
 z5 := Tryd.sizeOf5
 v5 := Tryd.zeroValue5
 infoByte := by kernel_rfl
 cellsByte := by kernel_rfl
 sizeByte := by kernel_rfl
 neB5 := by decide }
open Go.RowKit in
theorem Tryd.Builder_String_any (B b : Nat) (l : List UInt8) (w : World) (h : Lib.IsBuilder 54 5 B b (Lib.byteCells l) w) (hBw : B ≤ w.heap.size) :
  Calls Tryd.prog 32 #[.pointer (some ⟨b, 0, none⟩)] w fun e w' => e = .returned (.string ⟨l.toArray⟩) ∧ Below B w w' := Any.Builder_String_any Tryd.lays169 Tryd.Builder_Extra_169 B b l w h hBw
def Tryd.laysM171_ren : Go.Shelf.Ren := ⟨fun | 171 => 30 | 243 => 39 | 246 => 46 | 283 => 51 | 284 => 52 | 285 => 53 | 286 => 54 | 129 => 61 | 317 => 60 | 318 => 62 | 319 => 63 | 320 => 64 | 337 => 67 | 338 => 68 | n => n, fun | 3 => 3 | 9 => 9 | 2 => 2 | 4 => 4 | 171 => 81 | 0 => 0 | 53 => 82 | 37 => 52 | 5 => 5 | 173 => 85 | 212 => 90 | 51 => 91 | 20 => 20 | 213 => 92 | 46 => 88 | 232 => 102 | 233 => 103 | n => n, fun | 17 => 1 | 18 => 4 | 19 => 5 | n => n⟩
theorem Tryd.laysM171 : Go.Proofs.LaysM.n171 Tryd.prog Tryd.laysM171_ren := {
 mixed := by kernel_rfl
 f129 := Tryd.func61.trans (congrArg some (by kernel_rfl))
 f171 := Tryd.func30.trans (congrArg some (by kernel_rfl))
 f243 := Tryd.func39.trans (congrArg some (by kernel_rfl))
 f246 := Tryd.func46.trans (congrArg some (by kernel_rfl))
 f283 := Tryd.func51.trans (congrArg some (by kernel_rfl))
 f284 := Tryd.func52.trans (congrArg some (by kernel_rfl))
 f285 := Tryd.func53.trans (congrArg some (by kernel_rfl))
 f286 := Tryd.func54.trans (congrArg some (by kernel_rfl))
 f317 := Tryd.func60.trans (congrArg some (by kernel_rfl))
 f318 := Tryd.func62.trans (congrArg some (by kernel_rfl))
 f319 := Tryd.func63.trans (congrArg some (by kernel_rfl))
 f320 := Tryd.func64.trans (congrArg some (by kernel_rfl))
 f337 := Tryd.func67.trans (congrArg some (by kernel_rfl))
 f338 := Tryd.func68.trans (congrArg some (by kernel_rfl))
 t0 := Tryd.underlying0
 a0 := Tryd.isAgg0
 z0 := Tryd.sizeOf0
 v0 := Tryd.zeroValue0
 t2 := Tryd.underlying2
 a2 := Tryd.isAgg2
 z2 := Tryd.sizeOf2
 v2 := Tryd.zeroValue2
 t3 := Tryd.underlying3
 a3 := Tryd.isAgg3
 z3 := Tryd.sizeOf3
 v3 := Tryd.zeroValue3
 t4 := Tryd.underlying4
 a4 := Tryd.isAgg4
 z4 := Tryd.sizeOf4
 v4 := Tryd.zeroValue4
 t5 := Tryd.underlying5
 a5 := Tryd.isAgg5
 z5 := Tryd.sizeOf5
 v5 := Tryd.zeroValue5
 t9 := Tryd.underlying9
 a9 := Tryd.isAgg9
 z9 := Tryd.sizeOf9
 v9 := Tryd.zeroValue9
 t20 := Tryd.underlying20
 a20 := Tryd.isAgg20
 z20 := Tryd.sizeOf20
 v20 := Tryd.zeroValue20
 t37 := Tryd.underlying52
 a37 := Tryd.isAgg52
 z37 := Tryd.sizeOf52
 v37 := Tryd.zeroValue52
 t46 := Tryd.underlying88
 a46 := Tryd.isAgg88
 z46 := Tryd.sizeOf88
 v46 := Tryd.zeroValue88
 t51 := Tryd.underlying91
 a51 := Tryd.isAgg91
 z51 := Tryd.sizeOf91
 v51 := Tryd.zeroValue91
 t53 := Tryd.underlying82
 a53 := Tryd.isAgg82
 z53 := Tryd.sizeOf82
 v53 := Tryd.zeroValue82
 t171 := Tryd.underlying81
 a171 := Tryd.isAgg81
 z171 := Tryd.sizeOf81
 v171 := Tryd.zeroValue81
 t173 := Tryd.underlying85
 a173 := Tryd.isAgg85
 z173 := Tryd.sizeOf85
 v173 := Tryd.zeroValue85
 t212 := Tryd.underlying90
 a212 := Tryd.isAgg90
 z212 := Tryd.sizeOf90
 v212 := Tryd.zeroValue90
 t213 := Tryd.underlying92
 a213 := Tryd.isAgg92
 z213 := Tryd.sizeOf92
 t232 := Tryd.underlying102
 a232 := Tryd.isAgg102
 z232 := Tryd.sizeOf102
 v232 := Tryd.zeroValue102
 t233 := Tryd.underlying103
 a233 := Tryd.isAgg103
 z233 := Tryd.sizeOf103
 v233 := Tryd.zeroValue103
 g17 := by kernel_rfl
 g18 := by kernel_rfl
 g19 := by kernel_rfl
 i0 := by kernel_rfl
 i2 := by kernel_rfl
 i3 := by kernel_rfl
 i4 := by kernel_rfl
 i5 := by kernel_rfl
 i9 := by kernel_rfl
 i20 := by kernel_rfl
 i37 := by kernel_rfl
 i46 := by kernel_rfl
 i51 := by kernel_rfl
 i53 := by kernel_rfl
 i171 := by kernel_rfl
 i173 := by kernel_rfl
 i212 := by kernel_rfl
 i232 := by kernel_rfl
 i233 := by kernel_rfl
 m17 := by kernel_rfl
 m18 := by kernel_rfl
 m19 := by kernel_rfl }
open Go.RowKit Go.Sort Go.Lib in
theorem Tryd.strconv_Itoa (n : Int) (h0 : -9223372036854775808 ≤ n) (h1 : n ≤ 9223372036854775807) (w : World) (htab : Lib.TabIs Tryd.prog w "internal/strconv.uint64pow10" .u64 Lib.pow10Tab) :
  Calls Tryd.prog 30 #[.int .i64 n] w fun e w' => e = .returned (.string ⟨(Lib.itoa n).toArray⟩) ∧ ∃ k os, w' = grow (w.drewN k) os := Any.strconv_Itoa Tryd.laysM171 n h0 h1 w htab
def Tryd.lays145_ren : Go.Shelf.Ren := ⟨fun | 145 => 36 | 220 => 44 | 219 => 50 | 217 => 56 | 225 => 57 | 224 => 58 | 267 => 59 | 266 => 65 | 314 => 66 | n => n, fun | 9 => 9 | 4 => 4 | 59 => 64 | 3 => 3 | 5 => 5 | 46 => 88 | 146 => 99 | 51 => 91 | n => n, fun | 1 => 0 | n => n⟩
theorem Tryd.lays145 : Go.Proofs.Lays.n145 Tryd.prog Tryd.lays145_ren := {
 mixed := by kernel_rfl
 f145 := Tryd.func36.trans (congrArg some (by kernel_rfl))
 f217 := Tryd.func56.trans (congrArg some (by kernel_rfl))
 f219 := Tryd.func50.trans (congrArg some (by kernel_rfl))
 f220 := Tryd.func44.trans (congrArg some (by kernel_rfl))
 f224 := Tryd.func58.trans (congrArg some (by kernel_rfl))
 f225 := Tryd.func57.trans (congrArg some (by kernel_rfl))
 f266 := Tryd.func65.trans (congrArg some (by kernel_rfl))
 f267 := Tryd.func59.trans (congrArg some (by kernel_rfl))
 f314 := Tryd.func66.trans (congrArg some (by kernel_rfl))
 t3 := Tryd.underlying3
 a3 := Tryd.isAgg3
 z3 := Tryd.sizeOf3
 v3 := Tryd.zeroValue3
 t4 := Tryd.underlying4
 a4 := Tryd.isAgg4
 z4 := Tryd.sizeOf4
 v4 := Tryd.zeroValue4
 t5 := Tryd.underlying5
 a5 := Tryd.isAgg5
 z5 := Tryd.sizeOf5
 v5 := Tryd.zeroValue5
 t9 := Tryd.underlying9
 a9 := Tryd.isAgg9
 z9 := Tryd.sizeOf9
 v9 := Tryd.zeroValue9
 t46 := Tryd.underlying88
 a46 := Tryd.isAgg88
 z46 := Tryd.sizeOf88
 v46 := Tryd.zeroValue88
 t51 := Tryd.underlying91
 a51 := Tryd.isAgg91
 z51 := Tryd.sizeOf91
 v51 := Tryd.zeroValue91
 t59 := Tryd.underlying64
 a59 := Tryd.isAgg64
 z59 := Tryd.sizeOf64
 v59 := Tryd.zeroValue64
 t146 := Tryd.underlying99
 a146 := Tryd.isAgg99
 z146 := Tryd.sizeOf99
 v146 := Tryd.zeroValue99
 g1 := by kernel_rfl }
open Go.RowKit Go.Lib in
theorem Tryd.strings_Cut (s sep : ByteArray) (m : Int) (w : World) (hs : s.size < 4294967281) (hm : w.cell? ⟨0, 0, none⟩ = some (.int .i64 m)) :
  Calls Tryd.prog 36 #[.string s, .string sep] w fun e w' => e = .returned (.tuple #[.string ⟨(Lib.cut s.data.toList sep.data.toList).1.toArray⟩, .string ⟨(Lib.cut s.data.toList sep.data.toList).2.1.toArray⟩, .bool (Lib.cut s.data.toList sep.data.toList).2.2]) ∧ ∃ n, w' = w.drewN n := Any.strings_Cut Tryd.lays145 s sep m w hs hm
def Tryd.lays207_ren : Go.Shelf.Ren := ⟨fun | 207 => 43 | n => n, fun | 9 => 9 | 4 => 4 | 3 => 3 | n => n, fun | n => n⟩
theorem Tryd.lays207 : Go.Proofs.Lays.n207 Tryd.prog Tryd.lays207_ren := {
 mixed := by kernel_rfl
 f207 := Tryd.func43.trans (congrArg some (by kernel_rfl))
 t3 := Tryd.underlying3
 a3 := Tryd.isAgg3
 z3 := Tryd.sizeOf3
 v3 := Tryd.zeroValue3
 t4 := Tryd.underlying4
 a4 := Tryd.isAgg4
 z4 := Tryd.sizeOf4
 v4 := Tryd.zeroValue4
 t9 := Tryd.underlying9
 a9 := Tryd.isAgg9
 z9 := Tryd.sizeOf9
 v9 := Tryd.zeroValue9 }
open Go.RowKit Go.Lib in
theorem Tryd.stringslite_HasSuffix (s p : ByteArray) (w : World) (hs : s.size ≤ 9223372036854775807) :
  Calls Tryd.prog 43 #[.string s, .string p] w fun e w' => e = .returned (.bool (Lib.hasSuffix s.data.toList p.data.toList)) ∧ w' = w := Any.stringslite_HasSuffix Tryd.lays207 s p w hs
def Tryd.lays209_ren : Go.Shelf.Ren := ⟨fun | 209 => 34 | 207 => 43 | n => n, fun | 9 => 9 | 4 => 4 | 3 => 3 | n => n, fun | n => n⟩
theorem Tryd.lays209 : Go.Proofs.Lays.n209 Tryd.prog Tryd.lays209_ren := {
 mixed := by kernel_rfl
 f207 := Tryd.func43.trans (congrArg some (by kernel_rfl))
 f209 := Tryd.func34.trans (congrArg some (by kernel_rfl))
 t3 := Tryd.underlying3
 a3 := Tryd.isAgg3
 z3 := Tryd.sizeOf3
 v3 := Tryd.zeroValue3
 t4 := Tryd.underlying4
 a4 := Tryd.isAgg4
 z4 := Tryd.sizeOf4
 v4 := Tryd.zeroValue4
 t9 := Tryd.underlying9
 a9 := Tryd.isAgg9
 z9 := Tryd.sizeOf9
 v9 := Tryd.zeroValue9 }
open Go.RowKit Go.Lib in
theorem Tryd.stringslite_TrimSuffix (s p : ByteArray) (w : World) (hs : s.size ≤ 9223372036854775807) :
  Calls Tryd.prog 34 #[.string s, .string p] w fun e w' => e = .returned (.string ⟨(Lib.trimSuffix s.data.toList p.data.toList).toArray⟩) ∧ w' = w := Any.stringslite_TrimSuffix Tryd.lays209 s p w hs
def Tryd.lays102_ren : Go.Shelf.Ren := ⟨fun | 102 => 20 | 209 => 34 | 207 => 43 | n => n, fun | 9 => 9 | 4 => 4 | 3 => 3 | n => n, fun | n => n⟩
theorem Tryd.lays102 : Go.Proofs.Lays.n102 Tryd.prog Tryd.lays102_ren := {
 mixed := by kernel_rfl
 f102 := Tryd.func20.trans (congrArg some (by kernel_rfl))
 f207 := Tryd.func43.trans (congrArg some (by kernel_rfl))
 f209 := Tryd.func34.trans (congrArg some (by kernel_rfl))
 t3 := Tryd.underlying3
 a3 := Tryd.isAgg3
 z3 := Tryd.sizeOf3
 v3 := Tryd.zeroValue3
 t4 := Tryd.underlying4
 a4 := Tryd.isAgg4
 z4 := Tryd.sizeOf4
 v4 := Tryd.zeroValue4
 t9 := Tryd.underlying9
 a9 := Tryd.isAgg9
 z9 := Tryd.sizeOf9
 v9 := Tryd.zeroValue9 }
open Go.RowKit Go.Lib in
theorem Tryd.strings_TrimSuffix (s p : ByteArray) (w : World) (hs : s.size ≤ 9223372036854775807) :
  Calls Tryd.prog 20 #[.string s, .string p] w fun e w' => e = .returned (.string ⟨(Lib.trimSuffix s.data.toList p.data.toList).toArray⟩) ∧ w' = w := Any.strings_TrimSuffix Tryd.lays102 s p w hs
def Tryd.lays146_ren : Go.Shelf.Ren := ⟨fun | 146 => 19 | 221 => 33 | 268 => 40 | 138 => 41 | 143 => 42 | 195 => 47 | 197 => 48 | 218 => 49 | 219 => 50 | 260 => 55 | 217 => 56 | 225 => 57 | 224 => 58 | 267 => 59 | 266 => 65 | 314 => 66 | n => n, fun | 9 => 9 | 31 => 35 | 3 => 3 | 4 => 4 | 0 => 0 | 105 => 78 | 21 => 21 | 5 => 5 | 46 => 88 | 119 => 95 | 139 => 98 | 138 => 97 | 146 => 99 | 51 => 91 | n => n, fun | 1 => 0 | 3 => 2 | 4 => 3 | n => n⟩
theorem Tryd.lays146 : Go.Proofs.Lays.n146 Tryd.prog Tryd.lays146_ren := {
 mixed := by kernel_rfl
 f138 := Tryd.func41.trans (congrArg some (by kernel_rfl))
 f143 := Tryd.func42.trans (congrArg some (by kernel_rfl))
 f146 := Tryd.func19.trans (congrArg some (by kernel_rfl))
 f195 := Tryd.func47.trans (congrArg some (by kernel_rfl))
 f197 := Tryd.func48.trans (congrArg some (by kernel_rfl))
 f217 := Tryd.func56.trans (congrArg some (by kernel_rfl))
 f218 := Tryd.func49.trans (congrArg some (by kernel_rfl))
 f219 := Tryd.func50.trans (congrArg some (by kernel_rfl))
 f221 := Tryd.func33.trans (congrArg some (by kernel_rfl))
 f224 := Tryd.func58.trans (congrArg some (by kernel_rfl))
 f225 := Tryd.func57.trans (congrArg some (by kernel_rfl))
 f260 := Tryd.func55.trans (congrArg some (by kernel_rfl))
 f266 := Tryd.func65.trans (congrArg some (by kernel_rfl))
 f267 := Tryd.func59.trans (congrArg some (by kernel_rfl))
 f268 := Tryd.func40.trans (congrArg some (by kernel_rfl))
 f314 := Tryd.func66.trans (congrArg some (by kernel_rfl))
 t0 := Tryd.underlying0
 a0 := Tryd.isAgg0
 z0 := Tryd.sizeOf0
 v0 := Tryd.zeroValue0
 t3 := Tryd.underlying3
 a3 := Tryd.isAgg3
 z3 := Tryd.sizeOf3
 v3 := Tryd.zeroValue3
 t4 := Tryd.underlying4
 a4 := Tryd.isAgg4
 z4 := Tryd.sizeOf4
 v4 := Tryd.zeroValue4
 t5 := Tryd.underlying5
 a5 := Tryd.isAgg5
 z5 := Tryd.sizeOf5
 v5 := Tryd.zeroValue5
 t9 := Tryd.underlying9
 a9 := Tryd.isAgg9
 z9 := Tryd.sizeOf9
 v9 := Tryd.zeroValue9
 t21 := Tryd.underlying21
 a21 := Tryd.isAgg21
 z21 := Tryd.sizeOf21
 v21 := Tryd.zeroValue21
 t31 := Tryd.underlying35
 a31 := Tryd.isAgg35
 z31 := Tryd.sizeOf35
 v31 := Tryd.zeroValue35
 t46 := Tryd.underlying88
 a46 := Tryd.isAgg88
 z46 := Tryd.sizeOf88
 v46 := Tryd.zeroValue88
 t51 := Tryd.underlying91
 a51 := Tryd.isAgg91
 z51 := Tryd.sizeOf91
 v51 := Tryd.zeroValue91
 t105 := Tryd.underlying78
 a105 := Tryd.isAgg78
 z105 := Tryd.sizeOf78
 v105 := Tryd.zeroValue78
 t119 := Tryd.underlying95
 a119 := Tryd.isAgg95
 z119 := Tryd.sizeOf95
 t138 := Tryd.underlying97
 a138 := Tryd.isAgg97
 z138 := Tryd.sizeOf97
 v138 := Tryd.zeroValue97
 t139 := Tryd.underlying98
 a139 := Tryd.isAgg98
 z139 := Tryd.sizeOf98
 v139 := Tryd.zeroValue98
 t146 := Tryd.underlying99
 a146 := Tryd.isAgg99
 z146 := Tryd.sizeOf99
 v146 := Tryd.zeroValue99
 g1 := by kernel_rfl
 g3 := by kernel_rfl
 g4 := by kernel_rfl }
open Go.RowKit Go.Lib in
theorem Tryd.strings_Split (s sep : ByteArray) (m : Int) (w : World) (hs : s.size < 4294967281) (hm : w.cell? ⟨0, 0, none⟩ = some (.int .i64 m)) (h1 : 1 ≤ sep.size) :
  Calls Tryd.prog 19 #[.string s, .string sep] w fun e w' =>
   e = .returned (.slice (some ⟨w.heap.size, 0, none⟩) (Lib.countB s sep + 1) (Lib.countB s sep + 1)) ∧ w' = w.alloc (.cells ((Lib.splitB sep 0 (Lib.countB s sep) s).map Value.string).toArray 9) := Any.strings_Split Tryd.lays146 (by kernel_rfl) s sep m w hs hm h1
end Go.Proofs
