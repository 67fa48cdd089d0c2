/- The law LexerKnowsWords, out of its printed text. -/
import Derived.Test.YtanickojbgceaaaP16
import Derived.Test.YtanickojbgceaaaFn04f
namespace Go.Proofs.Ytanickojbgceaaa.Fn04
open Go.RowKit Go.Proofs.Ytanickojbgceaaa.P Go.Proofs.YtanickojbgceaaaW.PrintWords Go.Proofs.YtanickojbgceaaaW.PrintLast Go.Proofs.YtanickojbgceaaaW.PrintMore Go.Proofs.Ytanickojbgceaaa.Math04 Go.Proofs.Ytanickojbgceaaa.Bs
set_option linter.unusedVariables false
set_option linter.unusedSimpArgs false
/-- A list of words as one text with blanks. -/
def wordsT : List (List UInt8) → List UInt8
  | [] => [32]
  | w :: ws => 32 :: (w ++ wordsT ws)
def wordsA : List (List UInt8) := [[112, 114, 111, 103, 114, 97, 109], [118, 97, 114], [114, 117, 108, 101], [98, 111, 111, 108], [112, 111, 114, 116], [116, 114, 117, 101], [102, 97, 108, 115, 101], [110, 111, 110, 101], [110], [105, 100, 115], [105, 100], [100, 101, 103], [114, 111, 111, 116], [113], [119, 101, 105, 103, 104, 116], [98, 97, 99, 107]]
def wordsB : List (List UInt8) := [[97, 108, 108], [115, 111, 109, 101], [99, 111, 117, 110, 116], [102, 105, 114, 115, 116], [109, 105, 110], [109, 97, 120], [115, 117, 109], [109, 101, 120], [115, 101, 99, 111, 110, 100], [104, 101, 97, 100]]
def wordsL : List (List UInt8) := [[112, 114, 111, 103, 114, 97, 109], [118, 97, 114], [114, 117, 108, 101], [98, 111, 111, 108], [112, 111, 114, 116], [116, 114, 117, 101], [102, 97, 108, 115, 101], [110, 111, 110, 101], [110], [105, 100, 115], [105, 100], [100, 101, 103], [114, 111, 111, 116], [113], [119, 101, 105, 103, 104, 116], [98, 97, 99, 107], [97, 108, 108], [115, 111, 109, 101], [99, 111, 117, 110, 116], [102, 105, 114, 115, 116], [109, 105, 110], [109, 97, 120], [115, 117, 109], [109, 101, 120], [115, 101, 99, 111, 110, 100], [104, 101, 97, 100]]
theorem words_eq : wordsT wordsL = [32, 112, 114, 111, 103, 114, 97, 109, 32, 118, 97, 114, 32, 114, 117, 108, 101, 32, 98, 111, 111, 108, 32, 112, 111, 114, 116, 32, 116, 114, 117, 101, 32, 102, 97, 108, 115, 101, 32, 110, 111, 110, 101, 32, 110, 32, 105, 100, 115, 32, 105, 100, 32, 100, 101, 103, 32, 114, 111, 111, 116, 32, 113, 32, 119, 101, 105, 103, 104, 116, 32, 98, 97, 99, 107, 32, 97, 108, 108, 32, 115, 111, 109, 101, 32, 99, 111, 117, 110, 116, 32, 102, 105, 114, 115, 116, 32, 109, 105, 110, 32, 109, 97, 120, 32, 115, 117, 109, 32, 109, 101, 120, 32, 115, 101, 99, 111, 110, 100, 32, 104, 101, 97, 100, 32] := by decide +kernel
theorem wordsT_head : ∀ ws : List (List UInt8), ∃ y, wordsT ws = 32 :: y
  | [] => ⟨[], rfl⟩
  | w :: ws => ⟨_, rfl⟩
theorem past {w X : List UInt8} : ∀ v : List UInt8, (∀ c ∈ v, c ≠ 32) → decide (0 ≤ Lib.index (v ++ X) (32 :: w)) = decide (0 ≤ Lib.index X (32 :: w))
  | [], _ => rfl
  | c :: v, h => by
    have hc : c ≠ 32 := h c List.mem_cons_self
    rw [List.cons_append, idx_cons, past v (fun x hx => h x (List.mem_cons_of_mem _ hx))]
    have : (32 :: w).isPrefixOf (c :: (v ++ X)) = false := by
      rw [List.isPrefixOf_cons_cons, beq_eq_false_iff_ne.mpr (Ne.symm hc)]; rfl
    rw [this, Bool.false_or]
theorem pre_eq (Y : List UInt8) : ∀ w v : List UInt8, (∀ c ∈ w, c ≠ 32) → (∀ c ∈ v, c ≠ 32) → (w ++ [32]).isPrefixOf (v ++ 32 :: Y) = (w == v)
  | [], [], _, _ => by simp
  | [], c :: v, _, h => by
    have hc : c ≠ 32 := h c List.mem_cons_self
    rw [List.nil_append, List.cons_append, List.isPrefixOf_cons_cons, beq_eq_false_iff_ne.mpr (Ne.symm hc)]; rfl
  | c :: w, [], h, _ => by
    have hc : c ≠ 32 := h c List.mem_cons_self
    rw [List.nil_append, List.cons_append, List.isPrefixOf_cons_cons, beq_eq_false_iff_ne.mpr hc]; rfl
  | c :: w, d :: v, h, h2 => by
    rw [List.cons_append, List.cons_append, List.isPrefixOf_cons_cons, pre_eq Y w v (fun x hx => h x (List.mem_cons_of_mem _ hx)) (fun x hx => h2 x (List.mem_cons_of_mem _ hx)), List.cons_beq_cons]
theorem words_has {w : List UInt8} (hw : ∀ c ∈ w, c ≠ 32) (h0 : w ≠ []) : ∀ ws : List (List UInt8), (∀ v ∈ ws, ∀ c ∈ v, c ≠ 32) → Lib.contains (wordsT ws) (32 :: (w ++ [32])) = ws.contains w
  | [], _ => by
    cases w with
    | nil => exact absurd rfl h0
    | cons c w =>
      unfold Lib.contains wordsT
      rw [idx_cons, idx_nil]
      simp [List.isPrefixOf]
  | v :: ws, h => by
    have hv := h v List.mem_cons_self
    have ih := words_has hw h0 ws (fun x hx => h x (List.mem_cons_of_mem _ hx))
    unfold Lib.contains at ih ⊢
    unfold wordsT
    rw [idx_cons, past v hv, ih, List.contains_cons]
    obtain ⟨y, hy⟩ := wordsT_head ws
    rw [List.isPrefixOf_cons_cons, hy, pre_eq y w v hw hv]
    simp
theorem words_plain : ∀ v ∈ wordsL, ∀ c ∈ v, c ≠ 32 := by decide
theorem words_letters : ∀ v ∈ wordsL, ∀ c ∈ v, letterB (c.toNat : Int) = true := by decide
theorem words_full : ∀ v ∈ wordsL, v ≠ [] := by decide
theorem words_perm (L : List UInt8) : (wordsA.contains L || wordsB.contains L) = wordsL.contains L := by
  rw [Bool.eq_iff_iff, Bool.or_eq_true, List.contains_iff_mem, List.contains_iff_mem, List.contains_iff_mem]
  constructor
  · rintro (h | h)
    · exact (show ∀ v ∈ wordsA, v ∈ wordsL by decide) _ h
    · exact (show ∀ v ∈ wordsB, v ∈ wordsL by decide) _ h
  · intro h
    have := (show ∀ v ∈ wordsL, v ∈ wordsA ∨ v ∈ wordsB by decide) _ h
    exact this
theorem chainA {g : Nat → Bool → Option Bool} {r : Bool} {L : List UInt8} (h : Ev (fun k => g k ([[112, 114, 111, 103, 114, 97, 109], [118, 97, 114], [114, 117, 108, 101], [98, 111, 111, 108], [112, 111, 114, 116], [116, 114, 117, 101], [102, 97, 108, 115, 101], [110, 111, 110, 101], [110], [105, 100, 115], [105, 100], [100, 101, 103], [114, 111, 111, 116], [113], [119, 101, 105, 103, 104, 116], [98, 97, 99, 107]].contains L)) r) : Ev (fun k => if L = [112, 114, 111, 103, 114, 97, 109] then g k (L == [112, 114, 111, 103, 114, 97, 109]) else (if L = [118, 97, 114] then g k (L == [118, 97, 114]) else (if L = [114, 117, 108, 101] then g k (L == [114, 117, 108, 101]) else (if L = [98, 111, 111, 108] then g k (L == [98, 111, 111, 108]) else (if L = [112, 111, 114, 116] then g k (L == [112, 111, 114, 116]) else (if L = [116, 114, 117, 101] then g k (L == [116, 114, 117, 101]) else (if L = [102, 97, 108, 115, 101] then g k (L == [102, 97, 108, 115, 101]) else (if L = [110, 111, 110, 101] then g k (L == [110, 111, 110, 101]) else (if L = [110] then g k (L == [110]) else (if L = [105, 100, 115] then g k (L == [105, 100, 115]) else (if L = [105, 100] then g k (L == [105, 100]) else (if L = [100, 101, 103] then g k (L == [100, 101, 103]) else (if L = [114, 111, 111, 116] then g k (L == [114, 111, 111, 116]) else (if L = [113] then g k (L == [113]) else (if L = [119, 101, 105, 103, 104, 116] then g k (L == [119, 101, 105, 103, 104, 116]) else (g k (L == [98, 97, 99, 107]))))))))))))))))) r := by
  by_cases h0 : L = [112, 114, 111, 103, 114, 97, 109]
  · refine Pv.pos h0 ?_
    have e : (L == [112, 114, 111, 103, 114, 97, 109]) = [[112, 114, 111, 103, 114, 97, 109], [118, 97, 114], [114, 117, 108, 101], [98, 111, 111, 108], [112, 111, 114, 116], [116, 114, 117, 101], [102, 97, 108, 115, 101], [110, 111, 110, 101], [110], [105, 100, 115], [105, 100], [100, 101, 103], [114, 111, 111, 116], [113], [119, 101, 105, 103, 104, 116], [98, 97, 99, 107]].contains L := by rw [h0]; rfl
    rw [e]; exact h
  refine Pv.neg h0 ?_
  by_cases h1 : L = [118, 97, 114]
  · refine Pv.pos h1 ?_
    have e : (L == [118, 97, 114]) = [[112, 114, 111, 103, 114, 97, 109], [118, 97, 114], [114, 117, 108, 101], [98, 111, 111, 108], [112, 111, 114, 116], [116, 114, 117, 101], [102, 97, 108, 115, 101], [110, 111, 110, 101], [110], [105, 100, 115], [105, 100], [100, 101, 103], [114, 111, 111, 116], [113], [119, 101, 105, 103, 104, 116], [98, 97, 99, 107]].contains L := by rw [h1]; rfl
    rw [e]; exact h
  refine Pv.neg h1 ?_
  by_cases h2 : L = [114, 117, 108, 101]
  · refine Pv.pos h2 ?_
    have e : (L == [114, 117, 108, 101]) = [[112, 114, 111, 103, 114, 97, 109], [118, 97, 114], [114, 117, 108, 101], [98, 111, 111, 108], [112, 111, 114, 116], [116, 114, 117, 101], [102, 97, 108, 115, 101], [110, 111, 110, 101], [110], [105, 100, 115], [105, 100], [100, 101, 103], [114, 111, 111, 116], [113], [119, 101, 105, 103, 104, 116], [98, 97, 99, 107]].contains L := by rw [h2]; rfl
    rw [e]; exact h
  refine Pv.neg h2 ?_
  by_cases h3 : L = [98, 111, 111, 108]
  · refine Pv.pos h3 ?_
    have e : (L == [98, 111, 111, 108]) = [[112, 114, 111, 103, 114, 97, 109], [118, 97, 114], [114, 117, 108, 101], [98, 111, 111, 108], [112, 111, 114, 116], [116, 114, 117, 101], [102, 97, 108, 115, 101], [110, 111, 110, 101], [110], [105, 100, 115], [105, 100], [100, 101, 103], [114, 111, 111, 116], [113], [119, 101, 105, 103, 104, 116], [98, 97, 99, 107]].contains L := by rw [h3]; rfl
    rw [e]; exact h
  refine Pv.neg h3 ?_
  by_cases h4 : L = [112, 111, 114, 116]
  · refine Pv.pos h4 ?_
    have e : (L == [112, 111, 114, 116]) = [[112, 114, 111, 103, 114, 97, 109], [118, 97, 114], [114, 117, 108, 101], [98, 111, 111, 108], [112, 111, 114, 116], [116, 114, 117, 101], [102, 97, 108, 115, 101], [110, 111, 110, 101], [110], [105, 100, 115], [105, 100], [100, 101, 103], [114, 111, 111, 116], [113], [119, 101, 105, 103, 104, 116], [98, 97, 99, 107]].contains L := by rw [h4]; rfl
    rw [e]; exact h
  refine Pv.neg h4 ?_
  by_cases h5 : L = [116, 114, 117, 101]
  · refine Pv.pos h5 ?_
    have e : (L == [116, 114, 117, 101]) = [[112, 114, 111, 103, 114, 97, 109], [118, 97, 114], [114, 117, 108, 101], [98, 111, 111, 108], [112, 111, 114, 116], [116, 114, 117, 101], [102, 97, 108, 115, 101], [110, 111, 110, 101], [110], [105, 100, 115], [105, 100], [100, 101, 103], [114, 111, 111, 116], [113], [119, 101, 105, 103, 104, 116], [98, 97, 99, 107]].contains L := by rw [h5]; rfl
    rw [e]; exact h
  refine Pv.neg h5 ?_
  by_cases h6 : L = [102, 97, 108, 115, 101]
  · refine Pv.pos h6 ?_
    have e : (L == [102, 97, 108, 115, 101]) = [[112, 114, 111, 103, 114, 97, 109], [118, 97, 114], [114, 117, 108, 101], [98, 111, 111, 108], [112, 111, 114, 116], [116, 114, 117, 101], [102, 97, 108, 115, 101], [110, 111, 110, 101], [110], [105, 100, 115], [105, 100], [100, 101, 103], [114, 111, 111, 116], [113], [119, 101, 105, 103, 104, 116], [98, 97, 99, 107]].contains L := by rw [h6]; rfl
    rw [e]; exact h
  refine Pv.neg h6 ?_
  by_cases h7 : L = [110, 111, 110, 101]
  · refine Pv.pos h7 ?_
    have e : (L == [110, 111, 110, 101]) = [[112, 114, 111, 103, 114, 97, 109], [118, 97, 114], [114, 117, 108, 101], [98, 111, 111, 108], [112, 111, 114, 116], [116, 114, 117, 101], [102, 97, 108, 115, 101], [110, 111, 110, 101], [110], [105, 100, 115], [105, 100], [100, 101, 103], [114, 111, 111, 116], [113], [119, 101, 105, 103, 104, 116], [98, 97, 99, 107]].contains L := by rw [h7]; rfl
    rw [e]; exact h
  refine Pv.neg h7 ?_
  by_cases h8 : L = [110]
  · refine Pv.pos h8 ?_
    have e : (L == [110]) = [[112, 114, 111, 103, 114, 97, 109], [118, 97, 114], [114, 117, 108, 101], [98, 111, 111, 108], [112, 111, 114, 116], [116, 114, 117, 101], [102, 97, 108, 115, 101], [110, 111, 110, 101], [110], [105, 100, 115], [105, 100], [100, 101, 103], [114, 111, 111, 116], [113], [119, 101, 105, 103, 104, 116], [98, 97, 99, 107]].contains L := by rw [h8]; rfl
    rw [e]; exact h
  refine Pv.neg h8 ?_
  by_cases h9 : L = [105, 100, 115]
  · refine Pv.pos h9 ?_
    have e : (L == [105, 100, 115]) = [[112, 114, 111, 103, 114, 97, 109], [118, 97, 114], [114, 117, 108, 101], [98, 111, 111, 108], [112, 111, 114, 116], [116, 114, 117, 101], [102, 97, 108, 115, 101], [110, 111, 110, 101], [110], [105, 100, 115], [105, 100], [100, 101, 103], [114, 111, 111, 116], [113], [119, 101, 105, 103, 104, 116], [98, 97, 99, 107]].contains L := by rw [h9]; rfl
    rw [e]; exact h
  refine Pv.neg h9 ?_
  by_cases h10 : L = [105, 100]
  · refine Pv.pos h10 ?_
    have e : (L == [105, 100]) = [[112, 114, 111, 103, 114, 97, 109], [118, 97, 114], [114, 117, 108, 101], [98, 111, 111, 108], [112, 111, 114, 116], [116, 114, 117, 101], [102, 97, 108, 115, 101], [110, 111, 110, 101], [110], [105, 100, 115], [105, 100], [100, 101, 103], [114, 111, 111, 116], [113], [119, 101, 105, 103, 104, 116], [98, 97, 99, 107]].contains L := by rw [h10]; rfl
    rw [e]; exact h
  refine Pv.neg h10 ?_
  by_cases h11 : L = [100, 101, 103]
  · refine Pv.pos h11 ?_
    have e : (L == [100, 101, 103]) = [[112, 114, 111, 103, 114, 97, 109], [118, 97, 114], [114, 117, 108, 101], [98, 111, 111, 108], [112, 111, 114, 116], [116, 114, 117, 101], [102, 97, 108, 115, 101], [110, 111, 110, 101], [110], [105, 100, 115], [105, 100], [100, 101, 103], [114, 111, 111, 116], [113], [119, 101, 105, 103, 104, 116], [98, 97, 99, 107]].contains L := by rw [h11]; rfl
    rw [e]; exact h
  refine Pv.neg h11 ?_
  by_cases h12 : L = [114, 111, 111, 116]
  · refine Pv.pos h12 ?_
    have e : (L == [114, 111, 111, 116]) = [[112, 114, 111, 103, 114, 97, 109], [118, 97, 114], [114, 117, 108, 101], [98, 111, 111, 108], [112, 111, 114, 116], [116, 114, 117, 101], [102, 97, 108, 115, 101], [110, 111, 110, 101], [110], [105, 100, 115], [105, 100], [100, 101, 103], [114, 111, 111, 116], [113], [119, 101, 105, 103, 104, 116], [98, 97, 99, 107]].contains L := by rw [h12]; rfl
    rw [e]; exact h
  refine Pv.neg h12 ?_
  by_cases h13 : L = [113]
  · refine Pv.pos h13 ?_
    have e : (L == [113]) = [[112, 114, 111, 103, 114, 97, 109], [118, 97, 114], [114, 117, 108, 101], [98, 111, 111, 108], [112, 111, 114, 116], [116, 114, 117, 101], [102, 97, 108, 115, 101], [110, 111, 110, 101], [110], [105, 100, 115], [105, 100], [100, 101, 103], [114, 111, 111, 116], [113], [119, 101, 105, 103, 104, 116], [98, 97, 99, 107]].contains L := by rw [h13]; rfl
    rw [e]; exact h
  refine Pv.neg h13 ?_
  by_cases h14 : L = [119, 101, 105, 103, 104, 116]
  · refine Pv.pos h14 ?_
    have e : (L == [119, 101, 105, 103, 104, 116]) = [[112, 114, 111, 103, 114, 97, 109], [118, 97, 114], [114, 117, 108, 101], [98, 111, 111, 108], [112, 111, 114, 116], [116, 114, 117, 101], [102, 97, 108, 115, 101], [110, 111, 110, 101], [110], [105, 100, 115], [105, 100], [100, 101, 103], [114, 111, 111, 116], [113], [119, 101, 105, 103, 104, 116], [98, 97, 99, 107]].contains L := by rw [h14]; rfl
    rw [e]; exact h
  refine Pv.neg h14 ?_
  have e : (L == [98, 97, 99, 107]) = [[112, 114, 111, 103, 114, 97, 109], [118, 97, 114], [114, 117, 108, 101], [98, 111, 111, 108], [112, 111, 114, 116], [116, 114, 117, 101], [102, 97, 108, 115, 101], [110, 111, 110, 101], [110], [105, 100, 115], [105, 100], [100, 101, 103], [114, 111, 111, 116], [113], [119, 101, 105, 103, 104, 116], [98, 97, 99, 107]].contains L := by
    simp only [List.contains_cons, List.contains_nil, Bool.or_false, beq_eq_false_iff_ne.mpr h0, beq_eq_false_iff_ne.mpr h1, beq_eq_false_iff_ne.mpr h2, beq_eq_false_iff_ne.mpr h3, beq_eq_false_iff_ne.mpr h4, beq_eq_false_iff_ne.mpr h5, beq_eq_false_iff_ne.mpr h6, beq_eq_false_iff_ne.mpr h7, beq_eq_false_iff_ne.mpr h8, beq_eq_false_iff_ne.mpr h9, beq_eq_false_iff_ne.mpr h10, beq_eq_false_iff_ne.mpr h11, beq_eq_false_iff_ne.mpr h12, beq_eq_false_iff_ne.mpr h13, beq_eq_false_iff_ne.mpr h14, Bool.false_or]
  rw [e]; exact h
theorem chainB {g : Nat → Bool → Option Bool} {r : Bool} {L : List UInt8} (h : Ev (fun k => g k ([[97, 108, 108], [115, 111, 109, 101], [99, 111, 117, 110, 116], [102, 105, 114, 115, 116], [109, 105, 110], [109, 97, 120], [115, 117, 109], [109, 101, 120], [115, 101, 99, 111, 110, 100], [104, 101, 97, 100]].contains L)) r) : Ev (fun k => if L = [97, 108, 108] then g k (L == [97, 108, 108]) else (if L = [115, 111, 109, 101] then g k (L == [115, 111, 109, 101]) else (if L = [99, 111, 117, 110, 116] then g k (L == [99, 111, 117, 110, 116]) else (if L = [102, 105, 114, 115, 116] then g k (L == [102, 105, 114, 115, 116]) else (if L = [109, 105, 110] then g k (L == [109, 105, 110]) else (if L = [109, 97, 120] then g k (L == [109, 97, 120]) else (if L = [115, 117, 109] then g k (L == [115, 117, 109]) else (if L = [109, 101, 120] then g k (L == [109, 101, 120]) else (if L = [115, 101, 99, 111, 110, 100] then g k (L == [115, 101, 99, 111, 110, 100]) else (g k (L == [104, 101, 97, 100]))))))))))) r := by
  by_cases h0 : L = [97, 108, 108]
  · refine Pv.pos h0 ?_
    have e : (L == [97, 108, 108]) = [[97, 108, 108], [115, 111, 109, 101], [99, 111, 117, 110, 116], [102, 105, 114, 115, 116], [109, 105, 110], [109, 97, 120], [115, 117, 109], [109, 101, 120], [115, 101, 99, 111, 110, 100], [104, 101, 97, 100]].contains L := by rw [h0]; rfl
    rw [e]; exact h
  refine Pv.neg h0 ?_
  by_cases h1 : L = [115, 111, 109, 101]
  · refine Pv.pos h1 ?_
    have e : (L == [115, 111, 109, 101]) = [[97, 108, 108], [115, 111, 109, 101], [99, 111, 117, 110, 116], [102, 105, 114, 115, 116], [109, 105, 110], [109, 97, 120], [115, 117, 109], [109, 101, 120], [115, 101, 99, 111, 110, 100], [104, 101, 97, 100]].contains L := by rw [h1]; rfl
    rw [e]; exact h
  refine Pv.neg h1 ?_
  by_cases h2 : L = [99, 111, 117, 110, 116]
  · refine Pv.pos h2 ?_
    have e : (L == [99, 111, 117, 110, 116]) = [[97, 108, 108], [115, 111, 109, 101], [99, 111, 117, 110, 116], [102, 105, 114, 115, 116], [109, 105, 110], [109, 97, 120], [115, 117, 109], [109, 101, 120], [115, 101, 99, 111, 110, 100], [104, 101, 97, 100]].contains L := by rw [h2]; rfl
    rw [e]; exact h
  refine Pv.neg h2 ?_
  by_cases h3 : L = [102, 105, 114, 115, 116]
  · refine Pv.pos h3 ?_
    have e : (L == [102, 105, 114, 115, 116]) = [[97, 108, 108], [115, 111, 109, 101], [99, 111, 117, 110, 116], [102, 105, 114, 115, 116], [109, 105, 110], [109, 97, 120], [115, 117, 109], [109, 101, 120], [115, 101, 99, 111, 110, 100], [104, 101, 97, 100]].contains L := by rw [h3]; rfl
    rw [e]; exact h
  refine Pv.neg h3 ?_
  by_cases h4 : L = [109, 105, 110]
  · refine Pv.pos h4 ?_
    have e : (L == [109, 105, 110]) = [[97, 108, 108], [115, 111, 109, 101], [99, 111, 117, 110, 116], [102, 105, 114, 115, 116], [109, 105, 110], [109, 97, 120], [115, 117, 109], [109, 101, 120], [115, 101, 99, 111, 110, 100], [104, 101, 97, 100]].contains L := by rw [h4]; rfl
    rw [e]; exact h
  refine Pv.neg h4 ?_
  by_cases h5 : L = [109, 97, 120]
  · refine Pv.pos h5 ?_
    have e : (L == [109, 97, 120]) = [[97, 108, 108], [115, 111, 109, 101], [99, 111, 117, 110, 116], [102, 105, 114, 115, 116], [109, 105, 110], [109, 97, 120], [115, 117, 109], [109, 101, 120], [115, 101, 99, 111, 110, 100], [104, 101, 97, 100]].contains L := by rw [h5]; rfl
    rw [e]; exact h
  refine Pv.neg h5 ?_
  by_cases h6 : L = [115, 117, 109]
  · refine Pv.pos h6 ?_
    have e : (L == [115, 117, 109]) = [[97, 108, 108], [115, 111, 109, 101], [99, 111, 117, 110, 116], [102, 105, 114, 115, 116], [109, 105, 110], [109, 97, 120], [115, 117, 109], [109, 101, 120], [115, 101, 99, 111, 110, 100], [104, 101, 97, 100]].contains L := by rw [h6]; rfl
    rw [e]; exact h
  refine Pv.neg h6 ?_
  by_cases h7 : L = [109, 101, 120]
  · refine Pv.pos h7 ?_
    have e : (L == [109, 101, 120]) = [[97, 108, 108], [115, 111, 109, 101], [99, 111, 117, 110, 116], [102, 105, 114, 115, 116], [109, 105, 110], [109, 97, 120], [115, 117, 109], [109, 101, 120], [115, 101, 99, 111, 110, 100], [104, 101, 97, 100]].contains L := by rw [h7]; rfl
    rw [e]; exact h
  refine Pv.neg h7 ?_
  by_cases h8 : L = [115, 101, 99, 111, 110, 100]
  · refine Pv.pos h8 ?_
    have e : (L == [115, 101, 99, 111, 110, 100]) = [[97, 108, 108], [115, 111, 109, 101], [99, 111, 117, 110, 116], [102, 105, 114, 115, 116], [109, 105, 110], [109, 97, 120], [115, 117, 109], [109, 101, 120], [115, 101, 99, 111, 110, 100], [104, 101, 97, 100]].contains L := by rw [h8]; rfl
    rw [e]; exact h
  refine Pv.neg h8 ?_
  have e : (L == [104, 101, 97, 100]) = [[97, 108, 108], [115, 111, 109, 101], [99, 111, 117, 110, 116], [102, 105, 114, 115, 116], [109, 105, 110], [109, 97, 120], [115, 117, 109], [109, 101, 120], [115, 101, 99, 111, 110, 100], [104, 101, 97, 100]].contains L := by
    simp only [List.contains_cons, List.contains_nil, Bool.or_false, beq_eq_false_iff_ne.mpr h0, beq_eq_false_iff_ne.mpr h1, beq_eq_false_iff_ne.mpr h2, beq_eq_false_iff_ne.mpr h3, beq_eq_false_iff_ne.mpr h4, beq_eq_false_iff_ne.mpr h5, beq_eq_false_iff_ne.mpr h6, beq_eq_false_iff_ne.mpr h7, beq_eq_false_iff_ne.mpr h8, Bool.false_or]
  rw [e]; exact h
theorem run_letter {a : ByteArray} (ha : small a) {l : List Int} (h : l <:+ bs a) : Ev (fun k => lexer_while_at_lexer_letter.f k a (pos a l)) (pos a (l.dropWhile letterB)) :=
  run lexer_while_at_lexer_letter.l0 lexer_while_at_lexer_letter.j1 lexer_letter.f letterB letter_eq (fun k x i => by simp only [lexer_while_at_lexer_letter.l0]) (fun k x i t => by simp only [lexer_while_at_lexer_letter.j1]) ha l h
def isRes (a : ByteArray) : Bool := wordsL.contains a.data.toList
theorem dw_nil {q : Int → Bool} : ∀ {l : List Int}, l.dropWhile q = [] → ∀ c ∈ l, q c = true
  | [], _ => by simp
  | d :: l, h => by
    rw [List.dropWhile_cons] at h
    by_cases hd : q d = true
    · rw [if_pos hd] at h
      intro c hc
      rcases List.mem_cons.mp hc with rfl | hc
      · exact hd
      · exact dw_nil h c hc
    · rw [if_neg hd] at h; cases h
theorem dw_all {q : Int → Bool} : ∀ {l : List Int}, (∀ c ∈ l, q c = true) → l.dropWhile q = []
  | [], _ => rfl
  | d :: l, h => by
    rw [List.dropWhile_cons, if_pos (h d List.mem_cons_self)]
    exact dw_all (fun c hc => h c (List.mem_cons_of_mem _ hc))
theorem reserved_ev {a : ByteArray} (ha : a.size ≤ 100) : Ev (fun k => lexer_Reserved.f k a) (isRes a) := by
  have hsm : small a := by unfold small; omega
  unfold lexer_Reserved.f
  rw [toList_eq]
  by_cases h0 : a.data.toList = []
  · refine Pv.pos h0 (Pv.as (Ev.now _) ?_)
    unfold isRes; rw [h0]; rfl
  refine Pv.neg h0 ?_
  have z := run_letter hsm (List.suffix_refl (bs a))
  rw [pos_all] at z
  refine Ev.bind z ?_
  by_cases hl : (bs a).dropWhile letterB = []
  · rw [hl, pos_nil]
    have s1 : ((⟨#[32]⟩ : ByteArray) ++ a).size = 1 + a.size := by rw [ByteArray.size_append]; rfl
    refine Pv.pos rfl (Pv.pos (by omega) (Pv.pos (by omega) ?_))
    have hall := dw_nil hl
    have hsp : ∀ c ∈ a.data.toList, c ≠ 32 := by
      intro c hc e
      have := hall (c.toNat : Int) (List.mem_map.mpr ⟨c, hc, rfl⟩)
      rw [e] at this
      exact absurd this (by decide)
    have e : strings_Contains.f (⟨#[32, 112, 114, 111, 103, 114, 97, 109, 32, 118, 97, 114, 32, 114, 117, 108, 101, 32, 98, 111, 111, 108, 32, 112, 111, 114, 116, 32, 116, 114, 117, 101, 32, 102, 97, 108, 115, 101, 32, 110, 111, 110, 101, 32, 110, 32, 105, 100, 115, 32, 105, 100, 32, 100, 101, 103, 32, 114, 111, 111, 116, 32, 113, 32, 119, 101, 105, 103, 104, 116, 32, 98, 97, 99, 107, 32, 97, 108, 108, 32, 115, 111, 109, 101, 32, 99, 111, 117, 110, 116, 32, 102, 105, 114, 115, 116, 32, 109, 105, 110, 32, 109, 97, 120, 32, 115, 117, 109, 32, 109, 101, 120, 32, 115, 101, 99, 111, 110, 100, 32, 104, 101, 97, 100, 32]⟩ : ByteArray) (((⟨#[32]⟩ : ByteArray) ++ a) ++ (⟨#[32]⟩ : ByteArray)) = some (isRes a) := by
      have e3 : (((⟨#[32]⟩ : ByteArray) ++ a) ++ (⟨#[32]⟩ : ByteArray)).data.toList = 32 :: (a.data.toList ++ [32]) := by
        rw [ByteArray.data_append, ByteArray.data_append, Array.toList_append, Array.toList_append]; rfl
      unfold strings_Contains.f isRes
      rw [e3, ← words_has hsp h0 wordsL words_plain, words_eq]
      exact if_pos (by decide +kernel)
    exact Pv.const_bind e (Ev.now _)
  · refine Pv.neg ?_ (Pv.as (Ev.now _) ?_)
    · have := List.length_pos_iff.mpr hl
      unfold pos; omega
    · cases hr : isRes a with
      | false => rfl
      | true =>
        exfalso
        apply hl
        refine dw_all (fun c hc => ?_)
        obtain ⟨b, hb, rfl⟩ := List.mem_map.mp hc
        exact words_letters _ (List.contains_iff_mem.mp hr) b hb
theorem rreserved_ev (a : ByteArray) : Ev (fun k => selfstabref04_Reserved.f k a) (isRes a) := by
  unfold selfstabref04_Reserved.f
  rw [toList_eq]
  refine chainA (g := fun k b => selfstabref04_Reserved.j0 k a b) ?_
  have hp := words_perm a.data.toList
  unfold wordsA wordsB at hp
  refine Ev.step (fun k => by simp only [selfstabref04_Reserved.j0]; rfl) ?_
  rw [toList_eq]
  unfold isRes
  rw [← hp]
  generalize hA : List.contains _ a.data.toList = A at *
  cases A with
  | true => exact Pv.pos (by trivial) (Ev.now _)
  | false =>
    refine Pv.neg (by decide) ?_
    refine chainB (g := fun k b => selfstabref04_Reserved.j1 k b) ?_
    refine Ev.step (fun k => by simp only [selfstabref04_Reserved.j1]; rfl) ?_
    rw [Bool.false_or]
    generalize List.contains _ a.data.toList = B
    cases B with
    | true => exact Pv.pos (by trivial) (Ev.now _)
    | false => exact Pv.neg (by decide) (Ev.now _)
def isName (a : ByteArray) : Bool := match bs a with
  | [] => false
  | c :: cs => decide (a.size ≤ 24) && (letterB c && (decide (∀ x ∈ cs, innerB x = true) && !isRes a))
theorem name_ev {a : ByteArray} (ha : a.size ≤ 100) : Ev (fun k => lexer_Name.f k a) (isName a) := by
  have hsm : small a := by unfold small; omega
  unfold lexer_Name.f
  rw [toList_eq]
  cases hb : bs a with
  | nil =>
    have h0 : a.data.toList = [] := List.map_eq_nil_iff.mp hb
    refine Pv.pos h0 (Pv.as (Ev.now _) ?_)
    unfold isName; rw [hb]
  | cons c cs =>
    have h0 : ¬ a.data.toList = [] := by
      intro e; unfold bs at hb; rw [e] at hb; cases hb
    have hsz : a.size = cs.length + 1 := by rw [← bs_len, hb]; rfl
    have hn : isName a = (decide (a.size ≤ 24) && (letterB c && (decide (∀ x ∈ cs, innerB x = true) && !isRes a))) := by unfold isName; rw [hb]
    rw [hn]
    refine Pv.neg h0 ?_
    by_cases h24 : (a.size : Int) ≤ 24
    · rw [decide_eq_true (show a.size ≤ 24 by omega), Bool.true_and]
      refine Pv.pos h24 (Pv.pos (by omega) ?_)
      have hbt : bt a 0 = c := byte_bt (by rw [hb]; rfl)
      rw [hbt, letter_eq]
      refine Pv.some_bind (f := fun k t => if t = true then _ else _) ?_
      by_cases hl : letterB c = true
      · refine Pv.pos hl ?_
        have hin : innerB c = true := by unfold innerB; rw [hl]; rfl
        have z := run_inside hsm (List.suffix_refl (bs a))
        rw [pos_all, hb, List.dropWhile_cons, if_pos hin] at z
        refine Ev.bind z ?_
        rw [hl, Bool.true_and]
        by_cases hd : cs.dropWhile innerB = []
        · rw [hd, pos_nil, decide_eq_true (dw_nil hd), Bool.true_and]
          exact Pv.pos rfl (Ev.bind (reserved_ev ha) (Ev.now _))
        · refine Pv.neg ?_ (Pv.as (Ev.now _) ?_)
          · have := List.length_pos_iff.mpr hd
            unfold pos; omega
          · rw [decide_eq_false (fun h => hd (dw_all h)), Bool.false_and]
      · refine Pv.neg hl (Pv.as (Ev.now _) ?_)
        rw [Bool.eq_false_iff.mpr hl, Bool.false_and]
    · refine Pv.neg h24 (Pv.as (Ev.now _) ?_)
      rw [decide_eq_false (show ¬ a.size ≤ 24 by omega), Bool.false_and]
theorem rname_l {a : ByteArray} (ha : a.size ≤ 100) : ∀ l : List Int, l <:+ bs a → Ev (fun k => selfstabref04_Name.l0 k a (pos a l)) (decide (∀ x ∈ l, innerB x = true) && !isRes a)
  | [], h => by
    refine Ev.step (fun k => by simp only [selfstabref04_Name.l0]; rfl) ?_
    refine Pv.neg (by rw [pos_nil]; omega) (Ev.bind (rreserved_ev a) (Pv.as (Ev.now _) ?_))
    rw [decide_eq_true (by simp), Bool.true_and]
  | c :: l, h => by
    refine Ev.step (fun k => by simp only [selfstabref04_Name.l0]; rfl) ?_
    refine Pv.pos (pos_lt a c l) (Pv.pos (pos_ge h) ?_)
    rw [bt_pos h, rinner_eq]
    refine Pv.some_bind (f := fun k t => if t = true then _ else _) ?_
    by_cases hc : innerB c = true
    · refine Pv.pos hc ?_
      rw [w1 (by unfold small; omega) h]
      refine Pv.as (rname_l ha l (tail h)) ?_
      congr 1
      exact decide_eq_decide.mpr (by simp [hc])
    · refine Pv.neg hc (Pv.as (Ev.now _) ?_)
      rw [decide_eq_false (fun h => hc (h c List.mem_cons_self)), Bool.false_and]
theorem rname_ev {a : ByteArray} (ha : a.size ≤ 100) : Ev (fun k => selfstabref04_Name.f k a) (isName a) := by
  have no : isName a = false → Ev (fun k => selfstabref04_Name.j0 k a true) (isName a) := by
    intro h
    rw [h]
    refine Ev.step (fun k => by simp only [selfstabref04_Name.j0]; rfl) ?_
    exact Pv.pos (by trivial) (Ev.now _)
  unfold selfstabref04_Name.f
  cases hb : bs a with
  | nil =>
    have hsz : a.size = 0 := by rw [← bs_len, hb]; rfl
    exact Pv.pos (by omega) (no (by unfold isName; rw [hb]))
  | cons c cs =>
    have hsz : a.size = cs.length + 1 := by rw [← bs_len, hb]; rfl
    have hn : isName a = (decide (a.size ≤ 24) && (letterB c && (decide (∀ x ∈ cs, innerB x = true) && !isRes a))) := by unfold isName; rw [hb]
    refine Pv.neg (by omega) ?_
    by_cases h24 : (a.size : Int) > 24
    · refine Pv.pos h24 (no ?_)
      rw [hn, decide_eq_false (show ¬ a.size ≤ 24 by omega), Bool.false_and]
    · refine Pv.neg h24 (Pv.pos (by omega) ?_)
      have hbt : bt a 0 = c := byte_bt (by rw [hb]; rfl)
      rw [hbt, rletter_eq]
      refine Pv.some_bind (f := fun k t => selfstabref04_Name.j0 k a (!t)) ?_
      by_cases hl : letterB c = true
      · rw [hl]
        refine Ev.step (fun k => by simp only [selfstabref04_Name.j0]; rfl) ?_
        refine Pv.neg (by decide) ?_
        have hs : cs <:+ bs a := by rw [hb]; exact List.suffix_cons c cs
        have hp : pos a cs = 1 := by unfold pos; omega
        have z := rname_l ha cs hs
        rw [hp] at z
        refine Pv.as z ?_
        rw [hn, decide_eq_true (show a.size ≤ 24 by omega), hl]; rfl
      · rw [Bool.eq_false_iff.mpr hl]
        refine no ?_
        rw [hn, Bool.eq_false_iff.mpr hl]; simp
end Go.Proofs.Ytanickojbgceaaa.Fn04
namespace Go.Proofs.Ytanickojbgceaaa.Pure
open Go.RowKit Go.Proofs.Ytanickojbgceaaa.P Go.Proofs.YtanickojbgceaaaW.PrintWords Go.Proofs.YtanickojbgceaaaW.PrintLast Go.Proofs.YtanickojbgceaaaW.PrintMore Go.Proofs.Ytanickojbgceaaa.Math04 Go.Proofs.Ytanickojbgceaaa.Bs

theorem LexerKnowsWords : ∀ (a0 : ByteArray), a0.size ≤ maxLen → ∃ k, selfstablaw04_LexerKnowsWords.f k a0 = some true := by
  intro a0 _
  refine Ev.rounds (g := fun k => selfstablaw04_LexerKnowsWords.f k a0) ?_
  unfold selfstablaw04_LexerKnowsWords.f
  by_cases h : (a0.size : Int) > 100
  · exact Pv.pos h (Ev.bind Fn04.awake (Ev.now _))
  have h100 : a0.size ≤ 100 := by omega
  refine Pv.neg h (Ev.bind Fn04.awake (Pv.pos (by trivial) (Ev.bind (Fn04.reserved_ev h100) (Ev.bind (Fn04.rreserved_ev a0) (Pv.pos (beq_self_eq_true _) (Ev.bind (Fn04.name_ev h100) (Ev.bind (Fn04.rname_ev h100) (Pv.pos (beq_self_eq_true _) (Ev.bind (Fn04.name_ev h100) ?_)))))))))
  by_cases hn : Fn04.isName a0 = true
  · refine Pv.pos hn (Ev.bind (Fn04.reserved_ev h100) (Pv.as (Ev.now _) ?_))
    unfold Fn04.isName at hn
    cases hb : bs a0 with
    | nil => rw [hb] at hn; cases hn
    | cons c cs =>
      rw [hb] at hn
      simp only [Bool.and_eq_true] at hn
      exact hn.2.2.2
  · exact Pv.neg hn (Ev.now _)

end Go.Proofs.Ytanickojbgceaaa.Pure
