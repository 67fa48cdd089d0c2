/- Part of the proof of the law GraphtextWritesBack: Mp. -/
import Derived.Maps.RangeWalk
import Derived.Maps.OwnOps
import Derived.Maps.OwnSet
import Derived.Maps.Views
import Derived.DeepKeys4
import Derived.Below
namespace Go.Proofs.YtinfejpkjddbiaaDoor.Mp
open Go.RowKit Go.Maps
variable {P : Program} {k e : TypeId} {w : World} {b n : Nat}
theorem wf_i64 {x : Int} (h1 : -9223372036854775808 ≤ x) (h2 : x ≤ 9223372036854775807) : (Lit.int .i64 x).wf = true := by
 simp only [Lit.wf, Bool.and_eq_true, decide_eq_true_eq];exact ⟨h1, h2⟩
def IB (P : Program) (k e : TypeId) (w : World) (b n : Nat) (f : Int → Bool) : Prop :=
 ∃ D : DataW Unit, w.ownsMap P k (plainElem P e) b n D ∧ ∀ x, (Lit.int .i64 x).wf = true → D.atKey (.int .i64 x) (.lit (.bool false)) = .lit (.bool (f x))
theorem IB.made (w : World) (P : Program) (k e : TypeId) : IB P k e (w.alloc (.map #[] 0)) w.heap.size 0 (fun _ => false) :=
 ⟨.map [], World.ownsMap_made w P k _, fun _ _ => rfl⟩
theorem IB.move {w' : World} {f : Int → Bool} (h : IB P k e w b n f) (hb : w'.heap[b]? = w.heap[b]?) : IB P k e w' b n f := by
 obtain ⟨D, ⟨es, clock, h1, h2⟩, hf⟩ := h
 exact ⟨D, ⟨es, clock, hb.trans h1, h2⟩, hf⟩
theorem IB.lt {f : Int → Bool} (h : IB P k e w b n f) : b < w.heap.size := by obtain ⟨D, h, _⟩ := h; exact h.lt
theorem IB.below {w' : World} {f : Int → Bool} (h : IB P k e w b n f) (hb : Below w.heap.size w w') : IB P k e w' b n f := h.move (hb.block b h.lt)
theorem plainElem_bool_inv (he : P.underlying e = some .bool) {v : Value} {z : DataW Unit × List MemPlace} (h : plainElem P e v = some z) : ∃ x, v = .bool x ∧ z = (.lit (.bool x), []) := by
 unfold plainElem at h
 rw [he] at h
 cases v <;> simp at h
 exact ⟨_, rfl, h.symm⟩
theorem IB.look {t : TypeId} {f : Int → Bool} (h : IB P k e w b n f) (hk : P.underlying k = some (.int .i64)) (he : P.underlying e = some .bool) (ht : P.underlying t = some (.map k e)) (hz : ∀ w, (zeroValue e).run P w = .ok (.bool false) w) {x : Int} (hx : (Lit.int .i64 x).wf = true) :
  (Instr.lookup t (.map (some b)) (.int .i64 x) false).run P w = .ok (.bool (f x)) w := by
 obtain ⟨D, h, hf⟩ := h
 obtain ⟨v, ps, hrun, hv⟩ := h.lookup (int_keyed hk) ht (hz w) (plainElem_bool he false) (keyOf_int_mk hk hx)
 obtain ⟨y, rfl, hy⟩ := plainElem_bool_inv he hv
 rw [hf x hx] at hy
 simp only [Prod.mk.injEq] at hy
 have := hy.1
 injection this with this
 injection this with this
 rw [hrun, this]
theorem IB.put {t : TypeId} {f : Int → Bool} (h : IB P k e w b n f) (hk : P.underlying k = some (.int .i64)) (he : P.underlying e = some .bool) (ht : P.underlying t = some (.map k e)) (hn : n < maxLen) {x : Int} (y : Bool) (hx : (Lit.int .i64 x).wf = true) :
  ∃ w', (Instr.mapUpdate t (.map (some b)) (.int .i64 x) (.bool y)).run P w = .ok () w' ∧ IB P k e w' b (n + 1) (fun z => if z = x then y else f z) ∧ w.grownBy w' (some b) := by
 obtain ⟨D, h, hf⟩ := h
 obtain ⟨w', hrun, hown, hg⟩ := h.update (int_keyed hk) ht hn (keyOf_int_mk hk hx) (plainElem_bool he y)
 refine ⟨w', hrun, ⟨_, hown, fun z hz => ?_⟩, hg⟩
 show _ = DataW.lit (.bool (if z = x then y else f z))
 by_cases hzx : z = x
 ·subst hzx;rw [if_pos rfl, atKey_put_same h.isMap ((int_keyed hk).key (keyOf_int_mk hk hx))]
 ·rw [if_neg hzx, atKey_put_other (fun e => hzx (by injection e))]
  exact hf z hz
theorem below_row {B : Nat} {w0 w w' : World} {b : Nat} (hb : Below B w0 w) (hg : w.grownBy w' (some b)) (hB : B ≤ b) (hs : B ≤ w.heap.size) : Below B w0 w' :=
 hb.trans ⟨hg.os, hg.tape, hg.output, hg.size, fun k hk => hg.block k (by omega) (fun e => by injection e; omega)⟩
theorem wp_IB_put {ops : Array Oper} {rest : List Oper} {o : Oper} {a : Act} {Q : Exit → Act → World → Prop} (hg : o.guard = none) (m x v : Operand) (t : TypeId) (hop : o.op = Op.mapUpdate t m x v) (f : Int → Bool)
  (hk : P.underlying k = some (.int .i64)) (he : P.underlying e = some .bool) (ht : P.underlying t = some (.map k e)) (hm : a.eval m = .map (some b)) (z : Int) (y : Bool) (hx : a.eval x = .int .i64 z) (hv : a.eval v = .bool y) (hwf : (Lit.int .i64 z).wf = true)
  (h : IB P k e w b n f) (hn : n < maxLen) (hK : ∀ w', IB P k e w' b (n + 1) (fun u => if u = z then y else f u) → w.grownBy w' (some b) → wpList P ops Q rest (a.put o.dst undef) w') : wpList P ops Q (o :: rest) a w := by
 refine wpList_plain hg fun K' hK' => ?_
 obtain ⟨w', hrun, r1, r2⟩ := h.put hk he ht hn y hwf
 unfold Oper.wp
 simp [execOp, hop, hm, hx, hv, hrun, Result.andThen]
 exact hK' _ _ (hK w' r1 r2)
theorem wp_makeMap {ops : Array Oper} {rest : List Oper} {o : Oper} {a : Act} {Q : Exit → Act → World → Prop} (hg : o.guard = none) (t : TypeId) (hop : o.op = Op.makeMap t none)
  (hK : ∀ b, b = w.heap.size → ∀ w', w' = w.alloc (.map #[] 0) → wpList P ops Q rest (a.put o.dst (.map (some b))) w') : wpList P ops Q (o :: rest) a w := by
 refine wpList_plain hg fun K' hK' => ?_
 unfold Oper.wp
 simp [execOp, hop, run_makeMap, Result.andThen]
 exact hK' _ _ (hK _ rfl _ rfl)
theorem IB.seen {s : List Int} {x : Int} (h : IB P k e w b n (fun u => if u = x then true else s.contains u)) : IB P k e w b n (fun u => (x :: s).contains u) := by
 have : (fun u => (x :: s).contains u) = (fun u => if u = x then true else s.contains u) := by
  funext u
  rw [List.contains_cons]
  by_cases h : u = x
  ·subst h; simp
  ·rw [if_neg h, beq_eq_false_iff_ne.2 h, Bool.false_or]
 rw [this]; exact h
theorem IB.none (h : IB P k e w b n (fun _ => false)) : IB P k e w b n (fun u => ([] : List Int).contains u) := h
def KL (a b : Int) : Lit := .string (keyBytes [.int .i64 a, .int .i64 b])
def pv (a b : Int) : Value := .agg #[.int .i64 a, .int .i64 b]
def W2 (a b : Int) : Prop := (Lit.int .i64 a).wf = true ∧ (Lit.int .i64 b).wf = true
structure PairKey (P : Program) (k : TypeId) : Prop where
 law : Keyed P k
 mk_ : ∀ a b, W2 a b → keyOf P k (pv a b) = some (KL a b)
 inv_ : ∀ key kl, keyOf P k key = some kl → ∃ a b, key = pv a b ∧ W2 a b ∧ kl = KL a b
theorem PairKey.inj (K : PairKey P k) {a b c d : Int} (h1 : W2 a b) (h2 : W2 c d) (h : KL a b = KL c d) : a = c ∧ b = d := by
 have := K.law.inj (K.mk_ a b h1) (h ▸ K.mk_ c d h2)
 unfold pv at this
 simpa using this
def one (v : Value) : Option (List Lit) := match v with
 | .int q n => if q = .i64 ∧ (Lit.int .i64 n).wf = true then some [.int .i64 n] else none
 | _ => none
theorem one_some {v : Value} {l : List Lit} (h : one v = some l) : ∃ x, v = .int .i64 x ∧ (Lit.int .i64 x).wf = true ∧ l = [.int .i64 x] := by
 unfold one at h
 split at h
 ·split at h
  ·rename_i q n hc
   obtain ⟨rfl, hw⟩ := hc
   injection h with h
   exact ⟨n, rfl, hw, h.symm⟩
  ·cases h
 ·cases h
theorem pairKey {fs : Array Field} {f1 f2 : Field} {ti : TypeId} {m : Nat} (hl : laidOutB P = true) (hu : P.underlying k = some (.struct fs)) (hfs : fs.toList = [f1, f2]) (h1 : f1.type = ti) (h2 : f2.type = ti) (o1 : f1.offset = 0) (o2 : f2.offset = 1) (n1 : (f1.name != "_") = true) (n2 : (f2.name != "_") = true)
  (hi : P.underlying ti = some (.int .i64)) (hc : P.cellsOf ti = 1) (hck : P.cellsOf k = 2) (hkt : P.keyType k = true) (hka : P.keyTypeAt 2 k = true) (hrow : k < P.types.size) (hsz : P.types.size = m + 1) : PairKey P k := by
 have hall : fs.all (fun f => f.name != "_") = true := by
  rw [Array.all_eq_true']
  intro f hf;have : f ∈ fs.toList := by simpa using hf
  rw [hfs] at this
  rcases List.mem_cons.1 this with rfl | h
  ·exact n1
  ·rw [List.mem_singleton.1 h]; exact n2
 have int : ∀ v : Value, P.keyLits P.types.size ti [v] = one v := by
  intro v;rw [hsz]
  unfold Program.keyLits
  rw [hi]
  cases v <;> rfl
 have key : ∀ v1 v2 : Value, P.keyLits (P.types.size + 1) k [v1, v2] = (one v1).bind fun a => (one v2).map fun b => a ++ b := by
  intro v1 v2;unfold Program.keyLits
  rw [hu]
  simp only [hck, hall, and_true, hfs, List.length_cons, List.length_nil, if_true, List.mapM_cons, List.mapM_nil, h1, h2, o1, o2, hc, List.drop_zero, List.drop_succ_cons, List.take_succ_cons, List.take_zero, int];cases one v1 <;> cases one v2 <;> simp
 have kof : ∀ v, keyOf P k v = if P.keyType k && v.formed P k then (P.keyLits (P.types.size + 1) k v.cells.toList).map fun ls => .string (keyBytes ls) else none := by
  intro v;unfold keyOf
  rw [hu]
 refine ⟨Keyed.of_law (deep_law_laid hl (m := 2) (by omega) hrow hka (by rw [hu])), fun a b h => ?_, fun v kl h => ?_⟩
 ·rw [kof, hkt]
  have e : (pv a b).formed P k = true := by unfold pv Value.formed; rw [hu]; simp [hck]
  rw [e]
  have ec : (pv a b).cells.toList = [.int .i64 a, .int .i64 b] := rfl
  rw [ec, key]
  unfold one
  simp only [h.1, h.2, and_self, if_true, Option.bind_some, Option.map_some, Bool.and_self];rfl
 ·rw [kof, hkt] at h
  cases v with
  | agg cs =>
   unfold Value.formed at h
   rw [hu] at h
   simp only [hck, Bool.true_and] at h
   by_cases hs : cs.size = 2
   ·obtain ⟨x, y, rfl⟩ : ∃ x y, cs = #[x, y] := by
     obtain ⟨l⟩ := cs
     match l, hs with
     | [x, y], _ => exact ⟨x, y, rfl⟩
    have ec : (Value.agg #[x, y]).cells.toList = [x, y] := rfl
    rw [ec, key] at h
    simp only [List.size_toArray, List.length_cons, List.length_nil, beq_self_eq_true, if_true] at h
    obtain ⟨z, hz, rfl⟩ := Option.map_eq_some_iff.1 h
    obtain ⟨a, ha, hb⟩ := Option.bind_eq_some_iff.1 hz
    obtain ⟨b, hb2, rfl⟩ := Option.map_eq_some_iff.1 hb
    obtain ⟨x, rfl, wx, rfl⟩ := one_some ha
    obtain ⟨y, rfl, wy, rfl⟩ := one_some hb2
    exact ⟨x, y, rfl, ⟨wx, wy⟩, rfl⟩
   ·rw [beq_eq_false_iff_ne.2 hs] at h
    cases h
  | _ => unfold Value.formed at h; simp [hu] at h
def lk : List (Int × Int × Int) → Int → Int → Int
 | [], _, _ => 0
 | (a, b, c) :: r, x, y => if a = x then (if b = y then c else lk r x y) else lk r x y
def hk : List (Int × Int × Int) → Int → Int → Bool
 | [], _, _ => false
 | (a, b, _) :: r, x, y => if a = x then (if b = y then true else hk r x y) else hk r x y
def Same (D : DataW Unit) (ws : List (Int × Int × Int)) : Prop :=
 (∀ x y, W2 x y → D.atKey (KL x y) (.lit (.int .i64 0)) = .lit (.int .i64 (lk ws x y))) ∧ ∀ x y, W2 x y → Maps.has D (KL x y) = hk ws x y
def PI (P : Program) (k e : TypeId) (w : World) (b n : Nat) (ws : List (Int × Int × Int)) : Prop := ∃ D : DataW Unit, w.ownsMap P k (plainElem P e) b n D ∧ Same D ws
theorem PI.made (w : World) (P : Program) (k e : TypeId) : PI P k e (w.alloc (.map #[] 0)) w.heap.size 0 [] :=
 ⟨.map [], World.ownsMap_made w P k _, fun _ _ _ => rfl, fun _ _ _ => rfl⟩
theorem PI.move {w' : World} {ws : List (Int × Int × Int)} (h : PI P k e w b n ws) (hb : w'.heap[b]? = w.heap[b]?) : PI P k e w' b n ws := by
 obtain ⟨D, ⟨es, clock, h1, h2⟩, hf⟩ := h
 exact ⟨D, ⟨es, clock, hb.trans h1, h2⟩, hf⟩
theorem PI.lt {ws : List (Int × Int × Int)} (h : PI P k e w b n ws) : b < w.heap.size := by obtain ⟨D, h, _⟩ := h; exact h.lt
theorem PI.below {w' : World} {ws : List (Int × Int × Int)} (h : PI P k e w b n ws) (hb : Below w.heap.size w w') : PI P k e w' b n ws := h.move (hb.block b h.lt)
theorem own_look {t : TypeId} {D : DataW Unit} {ws : List (Int × Int × Int)} (h : w.ownsMap P k (plainElem P e) b n D) (hs : Same D ws) (K : PairKey P k) (he : P.underlying e = some (.int .i64)) (ht : P.underlying t = some (.map k e)) (hz : ∀ w, (zeroValue e).run P w = .ok (.int .i64 0) w) {x y : Int} (hx : W2 x y) :
  (Instr.lookup t (.map (some b)) (pv x y) false).run P w = .ok (.int .i64 (lk ws x y)) w := by
 obtain ⟨c, hrun, hat, _⟩ := h.lookup_int K.law ht he (hz w) (K.mk_ x y hx)
 rw [hs.1 x y hx] at hat
 injection hat with hat
 injection hat with _ hat
 rw [hrun, hat]
theorem PI.look {t : TypeId} {ws : List (Int × Int × Int)} (h : PI P k e w b n ws) (K : PairKey P k) (he : P.underlying e = some (.int .i64)) (ht : P.underlying t = some (.map k e)) (hz : ∀ w, (zeroValue e).run P w = .ok (.int .i64 0) w) {x y : Int} (hx : W2 x y) :
  (Instr.lookup t (.map (some b)) (pv x y) false).run P w = .ok (.int .i64 (lk ws x y)) w := by
 obtain ⟨D, h, hs⟩ := h
 exact own_look h hs K he ht hz hx
theorem PI.put {t : TypeId} {ws : List (Int × Int × Int)} (h : PI P k e w b n ws) (K : PairKey P k) (he : P.underlying e = some (.int .i64)) (ht : P.underlying t = some (.map k e)) (hn : n < maxLen) {x y c : Int} (hx : W2 x y) (hc : (Lit.int .i64 c).wf = true) :
  ∃ w', (Instr.mapUpdate t (.map (some b)) (pv x y) (.int .i64 c)).run P w = .ok () w' ∧ PI P k e w' b (n + 1) ((x, y, c) :: ws) ∧ w.grownBy w' (some b) := by
 obtain ⟨D, h, hs⟩ := h
 obtain ⟨w', hrun, hown, hg⟩ := h.update K.law ht hn (K.mk_ x y hx) (plainElem_int he hc)
 have hkl := K.law.key (K.mk_ x y hx)
 refine ⟨w', hrun, ⟨_, hown, fun u v hu => ?_, fun u v hu => ?_⟩, hg⟩
 ·show _ = DataW.lit (.int .i64 (if x = u then (if y = v then c else lk ws u v) else lk ws u v))
  by_cases h1 : x = u
  ·by_cases h2 : y = v
   ·subst h1 h2
    rw [if_pos rfl, if_pos rfl, atKey_put_same h.isMap hkl]
   ·rw [if_pos h1, if_neg h2, atKey_put_other (fun e => h2 (K.inj hu hx e).2.symm)]
    exact hs.1 u v hu
  ·rw [if_neg h1, atKey_put_other (fun e => h1 (K.inj hu hx e).1.symm)]
   exact hs.1 u v hu
 ·show _ = (if x = u then (if y = v then true else hk ws u v) else hk ws u v)
  by_cases h1 : x = u
  ·by_cases h2 : y = v
   ·subst h1 h2
    rw [if_pos rfl, if_pos rfl, has_put_same h.isMap hkl]
   ·rw [if_pos h1, if_neg h2, has_put_other (fun e => h2 (K.inj hu hx e).2.symm)]
    exact hs.2 u v hu
  ·rw [if_neg h1, has_put_other (fun e => h1 (K.inj hu hx e).1.symm)]
   exact hs.2 u v hu
theorem wp_PI_put {ops : Array Oper} {rest : List Oper} {o : Oper} {a : Act} {Q : Exit → Act → World → Prop} (hg : o.guard = none) (m x v : Operand) (t : TypeId) (hop : o.op = Op.mapUpdate t m x v) (ws : List (Int × Int × Int))
  (K : PairKey P k) (he : P.underlying e = some (.int .i64)) (ht : P.underlying t = some (.map k e)) (hm : a.eval m = .map (some b)) (z1 z2 c : Int) (hx : a.eval x = pv z1 z2) (hv : a.eval v = .int .i64 c) (hwf : W2 z1 z2) (hc : (Lit.int .i64 c).wf = true)
  (h : PI P k e w b n ws) (hn : n < maxLen) (hK : ∀ w', PI P k e w' b (n + 1) ((z1, z2, c) :: ws) → w.grownBy w' (some b) → wpList P ops Q rest (a.put o.dst undef) w') : wpList P ops Q (o :: rest) a w := by
 refine wpList_plain hg fun K' hK' => ?_
 obtain ⟨w', hrun, r1, r2⟩ := h.put K he ht hn hwf hc
 unfold Oper.wp
 simp [execOp, hop, hm, hx, hv, hrun, Result.andThen]
 exact hK' _ _ (hK w' r1 r2)
def PR (P : Program) (k e : TypeId) (w : World) (b r n : Nat) (ws : List (Int × Int × Int)) (cnt : Nat) : Prop :=
 ∃ (D : DataW Unit) (left : Lit → Bool), w.ranges P k (plainElem P e) b r n D left cnt ∧ Same D ws ∧ ∀ x y, W2 x y → hk ws x y = true → left (KL x y) = false → lk ws y x = lk ws x y
def sym (ws : List (Int × Int × Int)) : Bool := ws.all fun t => lk ws t.2.1 t.1 == lk ws t.1 t.2.1
theorem PR.kept {w' : World} {r : Nat} {ws : List (Int × Int × Int)} {cnt : Nat} {row : Option Nat} (h : PR P k e w b r n ws cnt) (hg : w.grownBy w' row) (h1 : some b ≠ row) (h2 : some r ≠ row) : PR P k e w' b r n ws cnt := by
 obtain ⟨D, left, h, hs⟩ := h
 exact ⟨D, left, h.kept hg h1 h2, hs⟩
theorem PR.lt {r : Nat} {ws : List (Int × Int × Int)} {cnt : Nat} (h : PR P k e w b r n ws cnt) : b < w.heap.size ∧ r < w.heap.size := by obtain ⟨D, left, h, _⟩ := h; exact ⟨h.owns.lt, h.lt⟩
theorem PR.move {w' : World} {r : Nat} {ws : List (Int × Int × Int)} {cnt : Nat} (h : PR P k e w b r n ws cnt) (hb : w'.heap[b]? = w.heap[b]?) (hr : w'.heap[r]? = w.heap[r]?) : PR P k e w' b r n ws cnt := by
 obtain ⟨D, left, ⟨es, clock, since, seen, c0, a1, a2, a3, a4, a5, a6⟩, hs⟩ := h
 exact ⟨D, left, ⟨es, clock, since, seen, c0, hb.trans a1, a2, a3, a4, hr.trans a5, a6⟩, hs⟩
theorem PR.left {r : Nat} {ws : List (Int × Int × Int)} {cnt : Nat} (h : PR P k e w b r n ws cnt) : w.rangeLeft b r = cnt := by obtain ⟨D, left, h, _⟩ := h; exact h.left_eq
theorem PR.look {t : TypeId} {r cnt : Nat} {ws : List (Int × Int × Int)} (h : PR P k e w b r n ws cnt) (K : PairKey P k) (he : P.underlying e = some (.int .i64)) (ht : P.underlying t = some (.map k e)) (hz : ∀ w, (zeroValue e).run P w = .ok (.int .i64 0) w) {x y : Int} (hx : W2 x y) :
  (Instr.lookup t (.map (some b)) (pv x y) false).run P w = .ok (.int .i64 (lk ws x y)) w := by
 obtain ⟨D, left, h, hs, _⟩ := h
 exact own_look h.owns hs K he ht hz hx
theorem hk_all {ws : List (Int × Int × Int)} (f : Int → Int → Prop) (h : ∀ x y, W2 x y → hk ws x y = true → f x y) (hw : ∀ t ∈ ws, W2 t.1 t.2.1) : ∀ t ∈ ws, f t.1 t.2.1 := by
 intro t ht;refine h _ _ (hw t ht) ?_
 clear h hw;induction ws with
 | nil => cases ht
 | cons a ws ih =>
  obtain ⟨a1, a2, a3⟩ := a
  show (if a1 = t.1 then (if a2 = t.2.1 then true else hk ws t.1 t.2.1) else hk ws t.1 t.2.1) = true
  rcases List.mem_cons.1 ht with rfl | ht
  ·simp
  ·rw [ih ht]; simp
theorem hk_mem {ws : List (Int × Int × Int)} {x y : Int} (h : hk ws x y = true) : ∃ c, (x, y, c) ∈ ws := by
 induction ws with
 | nil => cases h
 | cons a ws ih =>
  obtain ⟨a1, a2, a3⟩ := a
  change (if a1 = x then (if a2 = y then true else hk ws x y) else hk ws x y) = true at h
  by_cases h1 : a1 = x
  ·by_cases h2 : a2 = y
   ·exact ⟨a3, by rw [h1, h2]; exact List.mem_cons_self⟩
   ·rw [if_pos h1, if_neg h2] at h
    obtain ⟨c, hc⟩ := ih h
    exact ⟨c, List.mem_cons_of_mem _ hc⟩
  ·rw [if_neg h1] at h
   obtain ⟨c, hc⟩ := ih h
   exact ⟨c, List.mem_cons_of_mem _ hc⟩
theorem sym_false {ws : List (Int × Int × Int)} {x y : Int} (h : hk ws x y = true) (hne : ¬ lk ws y x = lk ws x y) : sym ws = false := by
 obtain ⟨c, hc⟩ := hk_mem h
 cases hs : sym ws with
 | false => rfl
 | true =>
  unfold sym at hs
  rw [List.all_eq_true] at hs
  exact absurd (beq_iff_eq.1 (hs _ hc)) hne
variable {ops : Array Oper} {rest : List Oper} {o : Oper} {a : Act} {Q : Exit → Act → World → Prop}
theorem wp_PI_range {ws : List (Int × Int × Int)} (hg : o.guard = none) (m : Operand) (t : TypeId) (hop : o.op = Op.range t m) (K : PairKey P k) (ht : P.underlying t = some (.map k e)) (hm : a.eval m = .map (some b)) (h : PI P k e w b n ws)
  (hK : ∀ w' cnt, PR P k e w' b w.heap.size n ws cnt → w.grownBy w' none → w'.heap.size = w.heap.size + 1 → wpList P ops Q rest (a.put o.dst (.pointer (some ⟨w.heap.size, 0, none⟩))) w') : wpList P ops Q (o :: rest) a w := by
 obtain ⟨D, h, hs⟩ := h
 refine wpList_range_own w hg m t hop k e K.law ht _ b n D hm h fun w' hr hgr hsz => hK w' _ ⟨D, _, hr, hs, fun x y hx hh hl => ?_⟩ hgr hsz
 rw [hs.2 x y hx] at hl
 rw [hh] at hl
 cases hl
theorem wp_PR_next {ws : List (Int × Int × Int)} {r cnt : Nat} (hg : o.guard = none) (it : Operand) (hop : o.op = Op.next it false) (K : PairKey P k) (he : P.underlying e = some (.int .i64)) (hit : a.eval it = .pointer (some ⟨r, 0, none⟩)) (hws : ∀ t ∈ ws, W2 t.1 t.2.1) (h : PR P k e w b r n ws cnt)
  (hDone : sym ws = true → wpList P ops Q rest (a.put o.dst (.tuple #[.bool false])) w)
  (hMore : ∀ (x y : Int) (w' : World) (cnt' : Nat), W2 x y → hk ws x y = true → (lk ws y x = lk ws x y → PR P k e w' b r n ws cnt') → cnt' < cnt → w.grownBy w' (some r) → w'.heap.size = w.heap.size → (∀ w2, w2.heap = w'.heap → (Instr.entry (.pointer (some ⟨r, 0, none⟩))).run P w2 = .ok (.tuple #[pv x y, .int .i64 (lk ws x y)]) w2) →
   (∀ w2, w2.heap[b]? = w'.heap[b]? → ∀ t, P.underlying t = some (.map k e) → (∀ w, (zeroValue e).run P w = .ok (.int .i64 0) w) → ∀ u v, W2 u v → (Instr.lookup t (.map (some b)) (pv u v) false).run P w2 = .ok (.int .i64 (lk ws u v)) w2) →
   wpList P ops Q rest (a.put o.dst (.tuple #[.bool true, pv x y, .int .i64 (lk ws x y)])) w') : wpList P ops Q (o :: rest) a w := by
 obtain ⟨D, left, hr, hs, hl⟩ := h
 refine wpList_next_ranges w hg it hop k K.law (plainElem P e) (fun p : Int × Int => pv p.1 p.2) (Value.int .i64) (fun key kl hkey => by obtain ⟨x, y, rfl, _⟩ := K.inv_ key kl hkey; exact ⟨(x, y), rfl⟩) (fun v y hv => by obtain ⟨c, rfl, _⟩ := plainElem_int_inv he hv; exact ⟨c, rfl⟩)
  b r n D left cnt hit hr (fun _ h0 => hDone ?_) (fun p c kl y w' cnt' hkey hlk hv hat hrg hlt hgr hsz hen => ?_)
 ·unfold sym
  rw [List.all_eq_true]
  intro t ht;rw [beq_iff_eq]
  exact hk_all (fun x y => lk ws y x = lk ws x y) (fun x y hx hh => hl x y hx hh (h0 _)) hws t ht
 ·obtain ⟨p1, p2⟩ := p
  obtain ⟨x, y', e1, hw, rfl⟩ := K.inv_ _ kl hkey
  have e2 : p1 = x ∧ p2 = y' := by
   have : pv p1 p2 = pv x y' := e1
   unfold pv at this
   simpa using this
  obtain ⟨rfl, rfl⟩ := e2
  have hh : hk ws p1 p2 = true := by
   rw [← hs.2 p1 p2 hw]
   exact has_true_of_atKey hat
  obtain ⟨c', ec, rfl, _⟩ := plainElem_int_inv he hv
  injection ec with _ ec
  subst ec
  have hc : c = lk ws p1 p2 := by
   have := (hat (.lit (.int .i64 0))).symm.trans (hs.1 p1 p2 hw)
   injection this with this
   injection this with _ this
  subst hc;refine hMore p1 p2 w' cnt' hw hh (fun heq => ⟨D, _, hrg, hs, fun u v hu hh2 hl2 => ?_⟩) hlt hgr hsz (fun w2 h2 => ?_) (fun w2 h2 t ht hz u v hu => ?_)
  ·simp only [Bool.and_eq_false_iff, Bool.not_eq_false'] at hl2
   rcases hl2 with hl2 | hl2
   ·exact hl u v hu hh2 hl2
   ·have := WideAt.sameKey_eq hl2
    obtain ⟨rfl, rfl⟩ := K.inj hu hw this
    exact heq
  ·obtain ⟨es, clock, since, seen, c0, a1, a2, a3, a4, a5, a6⟩ := hrg
   have b1 : w2.heap[b]? = some (.map es clock) := by rw [h2]; exact a1
   have b5 : w2.heap[r]? = some (.mapIter (some b) since seen c0) := by rw [h2]; exact a5
   simp only [Instr.entry, getObj, Sem.run_bind, Sem.run, a5, Result.andThen] at hen
   simp only [Instr.entry, getObj, Sem.run_bind, Sem.run, b5, Result.andThen];cases hsb : seen.back? with
   | none => rw [hsb] at hen; cases hen
   | some stamp =>
    rw [hsb] at hen
    simp only [Sem.run_bind, Sem.run, a1, Result.andThen] at hen
    simp only [Sem.run_bind, Sem.run, b1, Result.andThen];by_cases hcc : (clock != c0) = true
    ·rw [if_pos hcc] at hen; cases hen
    ·rw [if_neg hcc] at hen ⊢
     cases hf : es.find? (fun x => x.born == stamp) with
     | none => rw [hf] at hen; cases hen
     | some x =>
      rw [hf] at hen
      have : (Value.tuple #[x.key, x.val]) = .tuple #[pv p1 p2, .int .i64 (lk ws p1 p2)] := by
       have h9 : Result.ok (Value.tuple #[x.key, x.val]) w' = Result.ok (.tuple #[pv p1 p2, .int .i64 (lk ws p1 p2)]) w' := hen
       injection h9
      show Result.ok (Value.tuple #[x.key, x.val]) w2 = _
      rw [this]
  ·have := own_look (t := t) (w := w2) (b := b) (n := n) (D := D) (ws := ws) (by obtain ⟨es, clock, h1, h3⟩ := hrg.owns; exact ⟨es, clock, h2.trans h1, h3⟩) hs K he ht hz hu
   exact this
end Go.Proofs.YtinfejpkjddbiaaDoor.Mp
