/- Part of the proof of the law GraphtextWritesBack: P0. -/
import Derived.Test.YtinfejpkjddbiaaDoorProg
import Derived.Test.YtinfejpkjddbiaaDoorGraphtextWritesBackShelf
import Derived.Below
import Derived.Deep.Draws
import Derived.Deep.AppendLies
import Derived.Maps.AppendAt
import Derived.OwnWalk
import Derived.Laws.BytesArg
import Derived.Laws.MakeOwn
import Derived.Laws.OwnMore
import Derived.Deep.OwnRows
import Derived.Tactics
import Derived.Lib.ConvBytes
import Derived.Laws.Slices
import Derived.WalkKit
import Derived.KernelRfl
import Derived.RowKit3
import Derived.Deep.LoopGhost
import Derived.Deep.QuietTactic
import Derived.BigQuiet
import Derived.WideLaws
import Derived.Deep.DeepCutAuto
import Derived.Deep.CutBlock
import Derived.Deep.RegionHeld3
import Derived.Laws.Rows
import Derived.Lib.AppendStr
import Derived.ArgAppend
import Derived.Laws.IdiomCopy
import Derived.OrdersHeld
import Derived.Laws.BitsLemmas
import Derived.RowKit
import Derived.Test.YtinfejpkjddbiaaDoorGraphtextWritesBackMp
import Derived.Laws.RangeAny
import Derived.Lib.SplitLaws
import Derived.Lib.CutLaws
import Derived.Test.YtinfejpkjddbiaaDoorGraphtextWritesBackBd
import Derived.Lib.AppendIntMem
import Derived.WalkSmall
import Derived.Lib.LaidTab
import Derived.Test.YtinfejpkjddbiaaDoorGraphtextWritesBackWWords
import Derived.Test.YtinfejpkjddbiaaDoorGraphtextWritesBackWLast
import Derived.Test.YtinfejpkjddbiaaDoorGraphtextWritesBackWTab
import Derived.Test.YtinfejpkjddbiaaDoorGraphtextWritesBackWApart
import Derived.Test.YtinfejpkjddbiaaDoorGraphtextWritesBackWFoot
import Derived.Test.YtinfejpkjddbiaaDoorGraphtextWritesBackWKept
import Derived.Test.YtinfejpkjddbiaaDoorGraphtextWritesBackWShare
import Derived.Test.YtinfejpkjddbiaaDoorGraphtextWritesBackWN
import Derived.Test.YtinfejpkjddbiaaDoorGraphtextWritesBackWEqStruct
import Derived.Test.YtinfejpkjddbiaaDoorGraphtextWritesBackWRepsOne
import Derived.Test.YtinfejpkjddbiaaDoorGraphtextWritesBackWInv
import Derived.Test.YtinfejpkjddbiaaDoorGraphtextWritesBackWGuard
import Derived.Test.YtinfejpkjddbiaaDoorGraphtextWritesBackWNEv
import Derived.Test.YtinfejpkjddbiaaDoorGraphtextWritesBackWMore
namespace Go.Proofs.YtinfejpkjddbiaaDoor.P
open Go.RowKit Go.Proofs.YtinfejpkjddbiaaDoorW.PrintWords Go.Proofs.YtinfejpkjddbiaaDoorW.PrintLast Go.Proofs.YtinfejpkjddbiaaDoorW.PrintMore
attribute [local go_sem] max2_int min2_int max_two min_two max_three min_three max_four min_four
set_option linter.unusedVariables false
set_option linter.unusedSimpArgs false
def errW : Option Int → Value
 | none => .nilIface
 | some c => .iface 0 (.int .i64 c)
theorem errW_none : errW none = .nilIface := rfl
theorem errW_some (c : Int) : errW (some c) = .iface 0 (.int .i64 c) := rfl
def Shp (w : World) : Prop := (∃ m, w.cell? ⟨0, 0, none⟩ = some (.int .i64 m)) ∧ Lib.TabIs Tryd.prog w "internal/strconv.uint64pow10" .u64 Lib.pow10Tab
theorem Shp.cell {w : World} (h : Shp w) : ∃ m, w.cell? ⟨0, 0, none⟩ = some (.int .i64 m) := h.1
theorem Shp.tab {w : World} (h : Shp w) : Lib.TabIs Tryd.prog w "internal/strconv.uint64pow10" .u64 Lib.pow10Tab := h.2
theorem Shp.below {w w1 : World} (h : Shp w) (hb : Below w.heap.size w w1) : Shp w1 := by
 obtain ⟨⟨m, hm⟩, ht⟩ := h
 refine ⟨⟨m, pw_cell_below hb hm⟩, ?_⟩
 unfold Lib.TabIs at ht ⊢
 cases hg : Tryd.prog.globalNamed "internal/strconv.uint64pow10" with
 | none => unfold World.var? at ht; rw [hg] at ht; cases ht
 | some g =>
  refine var?_below hb hg ?_ ht
  unfold World.var? at ht
  rw [hg] at ht
  rcases Nat.lt_or_ge g w.heap.size with h | h
  ·exact h
  ·simp [Array.getElem?_eq_none h] at ht
theorem Shp.alloc {w : World} (h : Shp w) (o : Obj) : Shp (w.alloc o) := h.below (below_alloc (Below.refl _ _) o)
theorem Shp.drewN {w : World} (h : Shp w) (n : Nat) : Shp (w.drewN n) := h
theorem Shp.drew {w : World} (h : Shp w) : Shp w.drew := h
theorem info3 : (Tryd.prog.info? 3).map (fun i => (i.zero, i.size, i.bytes)) = some (some (.int .i64 0), 1, 8) := by kernel_rfl
theorem info9 : (Tryd.prog.info? 9).map (fun i => (i.zero, i.size, i.bytes)) = some (some (.string ⟨#[]⟩), 1, 16) := by kernel_rfl
theorem info39 : (Tryd.prog.info? 39).map (fun i => (i.zero, i.size, i.bytes)) = some (some (.slice none 0 0), 1, 24) := by kernel_rfl
theorem info41 : (Tryd.prog.info? 41).map (fun i => (i.zero, i.size, i.bytes)) = some (some (.agg #[(.int .i64 0), (.int .i64 0)]), 2, 16) := by kernel_rfl
structure S41 where
 f0 : Int
 f1 : Int
def z41 : S41 := ⟨(0 : Int), (0 : Int)⟩
def k41 : Kd S41 := Kd.iso (Kd.pair (Kd.int .i64) (Kd.int .i64)) (fun x : S41 => (x.f0, x.f1))
theorem k41_open {w : World} {x : S41} {cs : List Value} (h : k41.K w x cs) : cs = [.int .i64 x.f0, .int .i64 x.f1] := by
 obtain ⟨_, _, rfl, rfl, rfl⟩ := h
 exact rfl
theorem k41_mkM (w : World) (base : Nat) (ok : Nat → Prop) (x : S41)  : k41.M w base ok x [.int .i64 x.f0, .int .i64 x.f1] := ⟨[.int .i64 x.f0], [.int .i64 x.f1], rfl, rfl, rfl⟩
def rd_T41 (xs : List S41) (i : Int) : S41 := xs.getD i.toNat z41
theorem at_T41 {w : World} {A : Option Addr} {n : Nat} {xs : List S41} (h : Kd.C k41 w A n xs) (i : Int) (h0 : 0 ≤ i) (h1 : i < n) : ∃ ad , A = some ad ∧ w.cell? (ad.add (i.toNat * 2)) = some (.int .i64 (rd_T41 xs i).f0) ∧ w.cell? ⟨(ad.add (i.toNat * 2)).block, (ad.add (i.toNat * 2)).off + 1, none⟩ = some (.int .i64 (rd_T41 xs i).f1) := by
 obtain ⟨ad, c, e, _, hK, hc0⟩ := Kd.C_get h z41 i h0 h1
 have hc : ∀ j u, c[j]? = some u → w.cell? (ad.add (i.toNat * 2 + j)) = some u := hc0
 obtain rfl := k41_open hK
 exact ⟨ad, e, hc 0 _ rfl, by rw [← add_field _ _ 1 (by omega)]; exact hc 1 _ rfl⟩
def rd_L3 (xs : List (List S41)) (i : Int) : (List S41) := xs.getD i.toNat ([] : List S41)
theorem at_L3 {w : World} {A : Option Addr} {n : Nat} {xs : List (List S41)} (h : Kd.C (Kd.slice 41 k41) w A n xs) (i : Int) (h0 : 0 ≤ i) (h1 : i < n) : ∃ ad A0 c0, A = some ad ∧ w.cell? (ad.add i.toNat) = some (.slice A0 (rd_L3 xs i).length c0) ∧ (rd_L3 xs i).length ≤ c0 ∧ k41.C w A0 (rd_L3 xs i).length (rd_L3 xs i) := by
 obtain ⟨ad, c, e, _, hK, hc0⟩ := Kd.C_get h ([] : List S41) i h0 h1
 have hc : ∀ j u, c[j]? = some u → w.cell? (ad.add (i.toNat * 1 + j)) = some u := hc0
 obtain ⟨A0, c0, rfl, l0, g0⟩ := hK
 exact ⟨ad, A0, c0, e, by have hq := hc 0 _ rfl; rwa [Nat.mul_one, Nat.add_zero] at hq, l0, g0⟩
end Go.Proofs.YtinfejpkjddbiaaDoor.P
