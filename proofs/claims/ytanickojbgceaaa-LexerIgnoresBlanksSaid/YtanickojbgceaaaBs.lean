/- Strings as lists of whole numbers (bs), places as what is left at them (pos), and small laws on them. -/
import Derived.Test.YtanickojbgceaaaWWords
import Derived.Test.YtanickojbgceaaaPv
import Derived.Lib.IndexMore
import Derived.Lib.IndexAny
import Derived.Laws.Strings
namespace Go.Proofs.Ytanickojbgceaaa.Bs
open Go.RowKit Go.Proofs.YtanickojbgceaaaW.PrintWords
set_option linter.unusedVariables false
def bs (a : ByteArray) : List Int := a.data.toList.map fun b => (b.toNat : Int)
def pos (a : ByteArray) (l : List Int) : Int := (a.size : Int) - l.length
theorem bs_len (a : ByteArray) : (bs a).length = a.size := by unfold bs; rw [List.length_map, Array.length_toList]; rfl
theorem le {a : ByteArray} {l : List Int} (h : l <:+ bs a) : l.length ≤ a.size := by rw [← bs_len]; exact h.length_le
theorem pos_ge {a : ByteArray} {l : List Int} (h : l <:+ bs a) : 0 ≤ pos a l := by have := le h; unfold pos; omega
theorem pos_le (a : ByteArray) (l : List Int) : pos a l ≤ a.size := by unfold pos; omega
theorem pos_cons (a : ByteArray) (c : Int) (l : List Int) : pos a (c :: l) + 1 = pos a l := by unfold pos; rw [List.length_cons]; omega
theorem pos_lt (a : ByteArray) (c : Int) (l : List Int) : pos a (c :: l) < a.size := by unfold pos; rw [List.length_cons]; omega
theorem pos_nil (a : ByteArray) : pos a [] = a.size := by unfold pos; simp
theorem pos_all (a : ByteArray) : pos a (bs a) = 0 := by unfold pos; rw [bs_len]; omega
theorem tail {c : Int} {l m : List Int} (h : c :: l <:+ m) : l <:+ m := (List.suffix_cons c l).trans h
theorem byte_bt {a : ByteArray} {i : Int} {c : Int} (h : (bs a)[i.toNat]? = some c) : bt a i = c := by
  unfold bs at h
  rw [List.getElem?_map] at h
  by_cases hlt : i.toNat < a.size
  · unfold bt
    rw [dif_pos hlt]
    have h2 : i.toNat < a.data.toList.length := by rw [Array.length_toList]; exact hlt
    rw [List.getElem?_eq_getElem h2, Option.map_some] at h
    exact Option.some.inj h
  · have h2 : a.data.toList.length ≤ i.toNat := by rw [Array.length_toList]; exact Nat.le_of_not_lt hlt
    rw [List.getElem?_eq_none h2] at h
    exact absurd h (by simp)
theorem bt_pos {a : ByteArray} {c : Int} {l : List Int} (h : c :: l <:+ bs a) : bt a (pos a (c :: l)) = c := by
  obtain ⟨u, hu⟩ := h
  refine byte_bt ?_
  have e : (pos a (c :: l)).toNat = u.length := by
    have := congrArg List.length hu
    rw [bs_len, List.length_append] at this
    unfold pos; omega
  rw [e, ← hu, List.getElem?_append_right (Nat.le_refl _), Nat.sub_self]; rfl
theorem bt_pos1 {a : ByteArray} {c d : Int} {l : List Int} (h : c :: d :: l <:+ bs a) : bt a (pos a (c :: d :: l) + 1) = d := by
  rw [pos_cons]; exact bt_pos (tail h)
theorem byte {a : ByteArray} {c : Int} (h : c ∈ bs a) : 0 ≤ c ∧ c < 256 := by
  obtain ⟨b, _, rfl⟩ := List.mem_map.mp h
  have := b.toNat_lt
  omega
theorem bs_append (a b : ByteArray) : bs (a ++ b) = bs a ++ bs b := by
  unfold bs
  rw [ByteArray.data_append, Array.toList_append, List.map_append]
theorem bs_extract (a : ByteArray) (i j : Nat) : bs (a.extract i j) = ((bs a).drop i).take (j - i) := by
  unfold bs
  rw [ByteArray.data_extract, Array.toList_extract, List.extract_eq_take_drop, ← List.map_drop, ← List.map_take]
theorem bs_inj {a b : ByteArray} (h : bs a = bs b) : a = b := by
  have h2 : a.data.toList = b.data.toList := by
    refine List.map_inj_right (f := fun b : UInt8 => (b.toNat : Int)) (fun x y e => ?_) |>.mp h
    exact UInt8.toNat_inj.mp (Int.ofNat.inj e)
  cases a; cases b; simp only [ByteArray.mk.injEq]; exact Array.toList_inj.mp h2
theorem toList_eq (a : ByteArray) : a.toList = a.data.toList := by
  exact Go.ByteArray.toList_eq a
end Go.Proofs.Ytanickojbgceaaa.Bs
