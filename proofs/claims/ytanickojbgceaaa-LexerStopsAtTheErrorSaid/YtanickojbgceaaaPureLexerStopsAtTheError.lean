/- The law LexerStopsAtTheError, out of its printed text. -/
import Derived.Test.YtanickojbgceaaaP14
import Derived.Test.YtanickojbgceaaaFn04f
namespace Go.Proofs.Ytanickojbgceaaa.Fn04
open Go.RowKit Go.Proofs.Ytanickojbgceaaa.P Go.Proofs.YtanickojbgceaaaW.PrintWords Go.Proofs.YtanickojbgceaaaW.PrintLast Go.Proofs.YtanickojbgceaaaW.PrintMore Go.Proofs.Ytanickojbgceaaa.Math04 Go.Proofs.Ytanickojbgceaaa.Bs
set_option linter.unusedVariables false
set_option linter.unusedSimpArgs false
theorem mk_ext {a b : ByteArray} {x : List Int} (h : (b.size : Int) = a.size + x.length) (t : Tk) : mk b (ext x t) = mk a t := by
  have : pos b (t.2.1 ++ x) = pos a t.2.1 := by unfold pos; rw [List.length_append]; omega
  unfold mk ext
  rw [this]
theorem stops_ok {a b : ByteArray} (hb : bs b = bs a ++ 32 :: 10 :: (bs b).drop (a.size + 2)) (hs : b.size ≤ 4096) (ha : a.size ≤ 4096) {ts : List Tk} (hx : Lx (skipS false (bs a)) ts none) :
    (∃ ts2, scanR b = (ts.map (mk a) ++ ts2, 0, 0)) ∨ (∃ p e, e ≠ 0 ∧ scanR b = ([], p, e)) := by
  have hsz : (b.size : Int) = a.size + (32 :: 10 :: (bs b).drop (a.size + 2)).length := by
    have := congrArg List.length hb
    rw [List.length_append, bs_len, bs_len] at this
    omega
  by_cases he : skipS false (bs a) = []
  · have hts : ts = [] := by
      rw [he] at hx
      cases hx with
      | nil => rfl
      | cons h _ _ => exact absurd rfl h
    subst hts
    rcases scan_or (a := b) hs with ⟨ts2, _, h2⟩ | ⟨ts2, q, e, _, h3, _, h4⟩
    · exact Or.inl ⟨ts2.map (mk b), h2⟩
    · exact Or.inr ⟨_, _, h3, h4⟩
  · obtain ⟨ts2, o2, h2⟩ := hx.ok_app ((bs b).drop (a.size + 2)) rfl he
    rw [← skip_more false (bs a) _ he, ← hb] at h2
    cases o2 with
    | none =>
      left
      refine ⟨ts2.map (mk b), ?_⟩
      rw [scan_ok hs h2, List.map_append, List.map_map]
      congr 2
      exact List.map_congr_left (fun t _ => mk_ext hsz t)
    | some z =>
      obtain ⟨q, e⟩ := z
      exact Or.inr ⟨_, e, (h2.err_ne q e rfl).1, scan_err hs h2⟩
theorem same_len (k : Nat) : True := trivial
end Go.Proofs.Ytanickojbgceaaa.Fn04
namespace Go.Proofs.Ytanickojbgceaaa.Pure
open Go.RowKit Go.Proofs.Ytanickojbgceaaa.P Go.Proofs.YtanickojbgceaaaW.PrintWords Go.Proofs.YtanickojbgceaaaW.PrintLast Go.Proofs.YtanickojbgceaaaW.PrintMore Go.Proofs.Ytanickojbgceaaa.Math04 Go.Proofs.Ytanickojbgceaaa.Bs
set_option linter.unusedVariables false

theorem LexerStopsAtTheError : ∀ (a0 : ByteArray) (a1 : ByteArray), a0.size ≤ maxLen → a1.size ≤ maxLen → ∃ k, selfstablaw04_LexerStopsAtTheError.f k a0 a1 = some true := by
  intro a0 a1 _ _
  refine Ev.rounds (g := fun k => selfstablaw04_LexerStopsAtTheError.f k a0 a1) ?_
  have no : Ev (fun k => selfstablaw04_LexerStopsAtTheError.j0 k a0 a1 true) true := by
    refine Ev.step (fun k => by simp only [selfstablaw04_LexerStopsAtTheError.j0]; rfl) ?_
    exact Pv.pos (by trivial) (Ev.bind Fn04.awake (Ev.now _))
  unfold selfstablaw04_LexerStopsAtTheError.f
  by_cases h1 : (a0.size : Int) > 2000
  · exact Pv.pos h1 no
  refine Pv.neg h1 ?_
  by_cases h2 : (a1.size : Int) > 200
  · rw [decide_eq_true h2]; exact no
  rw [decide_eq_false h2]
  refine Ev.step (fun k => by simp only [selfstablaw04_LexerStopsAtTheError.j0]; rfl) ?_
  refine Pv.neg (by decide) ?_
  have z := Fn04.lscan a0
  rcases Fn04.scan_or (a := a0) (by omega) with ⟨ts, hx, hs⟩ | ⟨ts, q, e, hx, he, hq, hs⟩
  · rw [hs] at z
    refine Ev.bind z (Pv.pos rfl ?_)
    have s1 : (a0 ++ (⟨#[32, 10]⟩ : ByteArray)).size = a0.size + 2 := by rw [ByteArray.size_append]; rfl
    have s2 : ((a0 ++ (⟨#[32, 10]⟩ : ByteArray)) ++ a1).size = a0.size + 2 + a1.size := by rw [ByteArray.size_append, s1]
    have hb : bs ((a0 ++ (⟨#[32, 10]⟩ : ByteArray)) ++ a1) = bs a0 ++ 32 :: 10 :: (bs ((a0 ++ (⟨#[32, 10]⟩ : ByteArray)) ++ a1)).drop (a0.size + 2) := by
      rw [bs_append, bs_append, List.append_assoc, List.drop_append, bs_len]
      have : (bs a0).drop (a0.size + 2) = [] := List.drop_eq_nil_of_le (by rw [bs_len]; omega)
      rw [this, Nat.add_sub_cancel_left]; rfl
    refine Pv.pos (by omega) (Pv.pos (by omega) (Ev.bind (Fn04.lscan _) ?_))
    have hl := hx.len
    have hl2 := skipS_le false (bs a0)
    rw [bs_len] at hl2
    rcases Fn04.stops_ok hb (by omega) (by omega) hx with ⟨ts2, h3⟩ | ⟨p, e, he, h3⟩
    · rw [h3]
      refine Pv.pos rfl (Ev.bind Fn04.awake (Pv.pos (by trivial) ?_))
      have hl3 : ((ts.map (Fn04.mk a0) ++ ts2).length : Int) = (ts.map (Fn04.mk a0)).length + ts2.length := by rw [List.length_append]; omega
      show Ev (fun k => if ((ts.map (Fn04.mk a0) ++ ts2).length : Int) ≥ ((ts.map (Fn04.mk a0)).length : Int) then (if 0 ≤ ((ts.map (Fn04.mk a0)).length : Int) then (if ((ts.map (Fn04.mk a0)).length : Int) ≤ ((ts.map (Fn04.mk a0) ++ ts2).length : Int) then ((selfstabref04_Same.f k ((ts.map (Fn04.mk a0) ++ ts2).take ((ts.map (Fn04.mk a0)).length : Int).toNat) (ts.map (Fn04.mk a0))).bind fun t292 => (some t292)) else none) else none) else (some false)) true
      rw [Int.toNat_natCast, List.take_left]
      refine Pv.pos (by omega) (Pv.pos (by omega) (Pv.pos (by omega) (Ev.bind (Fn04.same_refl _ (by rw [List.length_map]; omega)) (Ev.now _))))
    · rw [h3]
      refine Pv.neg he (Ev.bind Fn04.awake (Pv.pos (by trivial) (Ev.now _)))
  · rw [hs] at z
    refine Ev.bind z (Pv.neg he (Pv.pos rfl ?_))
    have hsuf : q <:+ bs a0 := by
      obtain ⟨p, ts2, hp, _⟩ := hx.before q e rfl
      exact List.IsSuffix.trans ⟨p, hp.symm⟩ (Fn04.skip_all a0)
    have hg := pos_ge hsuf
    have hlt : pos a0 q < a0.size := by
      have := List.length_pos_iff.mpr hq
      unfold pos; omega
    show Ev (fun k => if pos a0 q < 0 then (selfstablaw04_LexerStopsAtTheError.j1 k a0 a1 (pos a0 q) e true) else (selfstablaw04_LexerStopsAtTheError.j1 k a0 a1 (pos a0 q) e (decide (pos a0 q ≥ (a0.size : Int))))) true
    refine Pv.neg (by omega) ?_
    rw [decide_eq_false (by omega)]
    refine Ev.step (fun k => by simp only [selfstablaw04_LexerStopsAtTheError.j1]; rfl) ?_
    refine Pv.neg (by decide) (Pv.pos hg (Pv.pos (by omega) ?_))
    -- the text before
    obtain ⟨p, ts2, hp, hpx⟩ := hx.before q e rfl
    obtain ⟨g, hgg⟩ := skipS_suffix false (bs a0)
    have hall : bs a0 = (g ++ p) ++ q := by rw [List.append_assoc, ← hp]; exact hgg
    have hcut : bs (a0.extract 0 (pos a0 q).toNat) = g ++ p := by
      rw [bs_extract, List.drop_zero, Nat.sub_zero]
      have : (pos a0 q).toNat = (g ++ p).length := by
        have := congrArg List.length hall
        rw [List.length_append, bs_len] at this
        unfold pos; omega
      rw [this, hall, List.take_left]
    have hsk : skipS false (g ++ p) = p := skip_cut false g p q (by rw [← hp, ← hgg])
    have hsz1 : (a0.extract 0 (pos a0 q).toNat).size ≤ 4096 := by
      rw [← bs_len, hcut]
      have := congrArg List.length hall
      rw [List.length_append, bs_len] at this
      omega
    have z1 := Fn04.lscan (a0.extract 0 (pos a0 q).toNat)
    rw [Fn04.scan_ok hsz1 (by rw [hcut, hsk]; exact hpx)] at z1
    refine Ev.bind z1 ?_
    have s1 : (a0 ++ (⟨#[32]⟩ : ByteArray)).size = a0.size + 1 := by rw [ByteArray.size_append]; rfl
    have s2 : ((a0 ++ (⟨#[32]⟩ : ByteArray)) ++ a1).size = a0.size + 1 + a1.size := by rw [ByteArray.size_append, s1]
    have hb : bs ((a0 ++ (⟨#[32]⟩ : ByteArray)) ++ a1) = bs a0 ++ 32 :: bs a1 := by
      rw [bs_append, bs_append, List.append_assoc]; rfl
    obtain ⟨ts3, h3⟩ := hx.err_app (d := 32) (by decide) (bs a1) q e rfl
    have hne : skipS false (bs a0) ≠ [] := by
      intro e0; rw [hp] at e0
      have h5 := congrArg List.length e0
      have h6 := List.length_pos_iff.mpr hq
      rw [List.length_append, List.length_nil] at h5
      omega
    rw [← skip_more false (bs a0) _ hne, ← hb] at h3
    have z2 := Fn04.lscan ((a0 ++ (⟨#[32]⟩ : ByteArray)) ++ a1)
    rw [Fn04.scan_err (by omega) h3] at z2
    have hpos : pos ((a0 ++ (⟨#[32]⟩ : ByteArray)) ++ a1) (q ++ 32 :: bs a1) = pos a0 q := by
      unfold pos; rw [s2, List.length_append, List.length_cons, bs_len]; omega
    rw [hpos] at z2
    refine Pv.pos (by omega) (Pv.pos (by omega) (Ev.bind z2 (Ev.bind Fn04.awake (Pv.pos (by trivial) (Pv.pos rfl (Pv.pos rfl (Pv.as (Ev.now _) ?_)))))))
    exact beq_self_eq_true _

end Go.Proofs.Ytanickojbgceaaa.Pure
