/-
  The plain laws of the variants: what the printed functions come to, on lists of small size. No condition beside the sizes that each lemma names.
  The plain laws of the variants, third part: sets that rise, and what is found in them. No condition beside sizes.
  The plain laws of the variants, fourth part: what a right family is, keys and counts; the law on them. No condition beside sizes.
  The plain law of the variants' rows: the iterator's wheels, the rows counted like digits, and that the first rows are those that the reference tells. No condition beside the sizes that each lemma names.
  The plain law of a family's check: what the program and the reference tell is the same; and what a right family's sets are. No condition beside sizes.
  The plain law of a family's check, second part: all sets, as the program and as the reference check them. No condition beside sizes.
-/
import Derived.Test.YtohnahbjmcelfaaDoorAU
import Derived.Test.YtohnahbjmcelfaaDoorPlain
namespace Go.Proofs.YtohnahbjmcelfaaDoor.V
set_option linter.unusedVariables false
open Go.RowKit Go.Proofs.YtohnahbjmcelfaaDoorW.PrintWords Go.Proofs.YtohnahbjmcelfaaDoorW.PrintLast Go.Proofs.YtohnahbjmcelfaaDoorW.PrintMore

theorem rdL_nat (l : List (List Int)) (i : Nat) : rd_L1 l (i : Int) = l.getD i [] := by simp [rd_L1]

theorem drop_same (x y : List Int) (i : Nat) (hx : i < x.length) (hy : i < y.length) (he : x[i] = y[i]) : decide (x.drop i = y.drop i) = decide (x.drop (i + 1) = y.drop (i + 1)) := by
  rw [List.drop_eq_getElem_cons hx, List.drop_eq_getElem_cons hy, he]
  simp only [List.cons.injEq, true_and]
theorem drop_other (x y : List Int) (i : Nat) (hx : i < x.length) (hy : i < y.length) (he : ¬ x[i] = y[i]) : decide (x.drop i = y.drop i) = false := by
  refine decide_eq_false (fun h => ?_)
  rw [List.drop_eq_getElem_cons hx, List.drop_eq_getElem_cons hy] at h
  exact he (List.cons.inj h).1

theorem same_l0 (x y : List Int) (hl : x.length = y.length) (hs : x.length < 1000000) (d : Nat) : ∀ i : Nat, i + d = x.length → Ev (fun k => eponymlaw01_Same.l0 k x y (i : Int)) (decide (x.drop i = y.drop i)) := by
  induction d with
  | zero =>
    intro i hi
    refine Ev.step (f := fun _ => some true) (fun k => by simp only [eponymlaw01_Same.l0]; rw [if_neg (by omega)]) ?_
    have e1 : x.drop i = [] := List.drop_eq_nil_of_le (by omega)
    have e2 : y.drop i = [] := List.drop_eq_nil_of_le (by omega)
    rw [e1, e2]
    exact Ev.now true
  | succ d ih =>
    intro i hi
    have hx : i < x.length := by omega
    have hy : i < y.length := by omega
    have ex : rd x (i : Int) = x[i] := by rw [rd_nat, List.getD_eq_getElem?_getD, List.getElem?_eq_getElem hx]; rfl
    have ey : rd y (i : Int) = y[i] := by rw [rd_nat, List.getD_eq_getElem?_getD, List.getElem?_eq_getElem hy]; rfl
    by_cases he : x[i] = y[i]
    · refine Ev.step (f := fun k => eponymlaw01_Same.l0 k x y ((i + 1 : Nat) : Int)) (fun k => by
        simp only [eponymlaw01_Same.l0]
        rw [if_pos (by omega), if_pos (by omega), if_pos (by omega), if_pos (by rw [ex, ey]; exact he), w64 (by omega) (by omega)]; rfl) ?_
      rw [drop_same x y i hx hy he]
      exact ih (i + 1) (by omega)
    · refine Ev.step (f := fun _ => some false) (fun k => by
        simp only [eponymlaw01_Same.l0]
        rw [if_pos (by omega), if_pos (by omega), if_pos (by omega), if_neg (by rw [ex, ey]; exact he)]) ?_
      rw [drop_other x y i hx hy he]
      exact Ev.now false
theorem same_ev (x y : List Int) (hs : x.length < 1000000) : Ev (fun k => eponymlaw01_Same.f k x y) (decide (x = y)) := by
  unfold eponymlaw01_Same.f
  by_cases hl : x.length = y.length
  · refine Ev.pos (by omega) ?_
    simpa using same_l0 x y hl hs x.length 0 (by omega)
  · refine Ev.neg (by omega) ?_
    have : x ≠ y := fun e => hl (by rw [e])
    simpa [this] using Ev.now false

theorem equal_l0 (x y : List Int) (hl : x.length = y.length) (hs : x.length < 1000000) (d : Nat) : ∀ i : Nat, i + d = x.length → Ev (fun k => slices_Equal_rune_rune.l0 k x y (x.length : Int) (i : Int)) (decide (x.drop i = y.drop i)) := by
  induction d with
  | zero =>
    intro i hi
    refine Ev.step (f := fun _ => some true) (fun k => by simp only [slices_Equal_rune_rune.l0]; rw [if_neg (by omega)]) ?_
    have e1 : x.drop i = [] := List.drop_eq_nil_of_le (by omega)
    have e2 : y.drop i = [] := List.drop_eq_nil_of_le (by omega)
    rw [e1, e2]
    exact Ev.now true
  | succ d ih =>
    intro i hi
    have hx : i < x.length := by omega
    have hy : i < y.length := by omega
    have ex : rd x (i : Int) = x[i] := by rw [rd_nat, List.getD_eq_getElem?_getD, List.getElem?_eq_getElem hx]; rfl
    have ey : rd y (i : Int) = y[i] := by rw [rd_nat, List.getD_eq_getElem?_getD, List.getElem?_eq_getElem hy]; rfl
    by_cases he : x[i] = y[i]
    · refine Ev.step (f := fun k => slices_Equal_rune_rune.l0 k x y (x.length : Int) ((i + 1 : Nat) : Int)) (fun k => by
        simp only [slices_Equal_rune_rune.l0]
        rw [if_pos (by omega), if_pos (by omega), if_pos (by omega), if_pos (by omega), if_pos (by rw [ex, ey]; exact he), w64 (by omega) (by omega)]; rfl) ?_
      rw [drop_same x y i hx hy he]
      exact ih (i + 1) (by omega)
    · refine Ev.step (f := fun _ => some false) (fun k => by
        simp only [slices_Equal_rune_rune.l0]
        rw [if_pos (by omega), if_pos (by omega), if_pos (by omega), if_pos (by omega), if_neg (by rw [ex, ey]; exact he)]) ?_
      rw [drop_other x y i hx hy he]
      exact Ev.now false
theorem equal_ev (x y : List Int) (hs : x.length < 1000000) : Ev (fun k => slices_Equal_rune_rune.f k x y) (decide (x = y)) := by
  unfold slices_Equal_rune_rune.f
  by_cases hl : x.length = y.length
  · refine Ev.pos (by omega) ?_
    simpa using equal_l0 x y hl hs x.length 0 (by omega)
  · refine Ev.neg (by omega) ?_
    have : x ≠ y := fun e => hl (by rw [e])
    simpa [this] using Ev.now false

end Go.Proofs.YtohnahbjmcelfaaDoor.V
namespace Go.Proofs.YtohnahbjmcelfaaDoor.V
open Go.RowKit Go.Proofs.YtohnahbjmcelfaaDoorW.PrintWords Go.Proofs.YtohnahbjmcelfaaDoorW.PrintLast Go.Proofs.YtohnahbjmcelfaaDoorW.PrintMore
open VarPlain (setOf)

/-- a set that rises. -/
def Rises (l : List Int) : Prop := ∀ i, i + 1 < l.length → l.getD i 0 < l.getD (i + 1) 0
theorem Rises.lt {l : List Int} (h : Rises l) (i j : Nat) (hij : i < j) (hj : j < l.length) : l.getD i 0 < l.getD j 0 := by
  obtain ⟨d, rfl⟩ : ∃ d, j = i + 1 + d := ⟨j - (i + 1), by omega⟩
  clear hij
  induction d with
  | zero => exact h i (by omega)
  | succ d ih => exact Int.lt_trans (ih (by omega)) (h (i + 1 + d) (by omega))
/-- a family's sets, as they are looked at. -/
structure Fine (s : List (List Int)) : Prop where
  few : s.length ≤ 20
  small : ∀ j, j < s.length → (s.getD j []).length ≤ 20
  two : ∀ j, j < s.length → 2 ≤ (s.getD j []).length
  rises : ∀ j, j < s.length → Rises (s.getD j [])

theorem half (a b : Int) (h0 : 0 ≤ a) (h1 : a ≤ b) (h2 : b < 1000000) : wrap64 ((IntKind.u64.wrap (wrap64 (a + b))) / 2) = (a + b) / 2 := by
  have e1 : wrap64 (a + b) = a + b := w64' (by omega) (by omega)
  have e2 : IntKind.u64.wrap (a + b) = a + b := IntWalk.u64_in _ (by omega)
  rw [e1, e2, w64' (by omega) (by omega)]
theorem mem_getD (l : List Int) (r : Int) : r ∈ l ↔ ∃ i, i < l.length ∧ l.getD i 0 = r := by
  constructor
  · intro h
    obtain ⟨i, hi, e⟩ := List.getElem_of_mem h
    exact ⟨i, hi, by rw [List.getD_eq_getElem?_getD, List.getElem?_eq_getElem hi]; exact e⟩
  · rintro ⟨i, hi, e⟩
    rw [List.getD_eq_getElem?_getD, List.getElem?_eq_getElem hi] at e
    rw [← e]
    exact List.getElem_mem hi

theorem less_some (a b : Int) : cmp_Less_rune.f a b = some (decide (a < b)) := by
  unfold cmp_Less_rune.f cmp_isNaN_rune.f
  simp

theorem bs_l0 (l : List Int) (r : Int) (hl : l.length < 1000) (hr : Rises l) (d : Nat) : ∀ lo hi : Nat, lo ≤ hi → hi ≤ l.length → hi - lo ≤ d → (∀ j, j < lo → l.getD j 0 < r) → (∀ j, hi ≤ j → j < l.length → r ≤ l.getD j 0) →
    Ex (fun k => slices_BinarySearch_rune_rune.l0 k l r (l.length : Int) (lo : Int) (hi : Int)) (fun p => p.2 = decide (r ∈ l)) := by
  induction d with
  | zero =>
    intro lo hi h1 h2 h3 h4 h5
    have e : lo = hi := by omega
    subst e
    refine Ex.succ ?_
    simp only [slices_BinarySearch_rune_rune.l0]
    refine Ex.ite (fun h => absurd h (by omega)) (fun _ => ?_)
    refine Ex.ite (fun hlt => ?_) (fun hge => ?_)
    · refine Ex.ite (fun _ => ?_) (fun h => absurd (by omega) h)
      refine Ex.ite (fun _ => ?_) (fun h => absurd hlt h)
      refine Ex.ite (fun he => Ex.now _ ?_) (fun hne => ?_)
      · rw [rd_nat] at he
        exact (decide_eq_true ((mem_getD l r).2 ⟨lo, by omega, he⟩)).symm
      · refine Ex.bindc (a := false) (by simp [slices_isNaN_rune.f]) ?_
        refine Ex.ite (fun h => absurd h (by simp)) (fun _ => Ex.now _ ?_)
        rw [rd_nat] at hne
        refine (decide_eq_false (fun hm => ?_)).symm
        obtain ⟨i, hi, e⟩ := (mem_getD l r).1 hm
        rcases Nat.lt_trichotomy i lo with h | h | h
        · have := h4 i h; omega
        · subst h; exact hne e
        · have := hr.lt lo i h hi
          have := h5 lo (Nat.le_refl _) (by omega)
          omega
    · refine Ex.now _ ?_
      refine (decide_eq_false (fun hm => ?_)).symm
      obtain ⟨i, hi, e⟩ := (mem_getD l r).1 hm
      have := h4 i (by omega)
      omega
  | succ d ih =>
    intro lo hi h1 h2 h3 h4 h5
    by_cases hlt : lo < hi
    · refine Ex.succ ?_
      simp only [slices_BinarySearch_rune_rune.l0]
      rw [half (lo : Int) (hi : Int) (by omega) (by omega) (by omega)]
      obtain ⟨m, hm⟩ : ∃ m : Nat, ((lo : Int) + hi) / 2 = (m : Int) := ⟨(lo + hi) / 2, by omega⟩
      rw [hm]
      refine Ex.ite (fun _ => ?_) (fun h => absurd (by omega) h)
      refine Ex.ite (fun _ => ?_) (fun h => absurd (by omega) h)
      refine Ex.ite (fun _ => ?_) (fun h => absurd (by omega) h)
      rw [rd_nat]
      refine Ex.bindc (less_some _ _) ?_
      refine Ex.ite (fun hc => ?_) (fun hc => ?_)
      · rw [w64 (by omega) (by omega)]
        have hc' : l.getD m 0 < r := of_decide_eq_true hc
        refine ih (m + 1) hi (by omega) h2 (by omega) (fun j hj => ?_) h5
        rcases Nat.lt_or_ge j m with h | h
        · exact Int.lt_trans (hr.lt j m h (by omega)) hc'
        · rw [show j = m by omega]; exact hc'
      · have hc' : ¬ l.getD m 0 < r := fun h => hc (decide_eq_true h)
        refine ih lo m (by omega) (by omega) (by omega) h4 (fun j h6 h7 => ?_)
        rcases Nat.lt_or_ge m j with h | h
        · have := hr.lt m j h h7; omega
        · rw [show j = m by omega]; omega
    · exact ih lo hi h1 h2 (by omega) h4 h5
theorem bs_ex (l : List Int) (r : Int) (hl : l.length < 1000) (hr : Rises l) : Ex (fun k => slices_BinarySearch_rune_rune.f k l r) (fun p => p.2 = decide (r ∈ l)) :=
  bs_l0 l r hl hr l.length 0 l.length (by omega) (by omega) (by omega) (fun j hj => by omega) (fun j h1 h2 => by omega)

theorem setOf_step (s : List (List Int)) (i : Nat) (hi : i < s.length) (r : Int) : setOf (s.drop i) r = if r ∈ s.getD i [] then s.getD i [] else setOf (s.drop (i + 1)) r := by
  rw [List.drop_eq_getElem_cons hi, List.getD_eq_getElem?_getD, List.getElem?_eq_getElem hi]
  rfl
theorem find_ev (a : ByteArray) (s : List (List Int)) (hs : Fine s) (r : Int) : Ev (fun k => variants_find.f k a s r) (setOf s r) := by
  have l0 : ∀ (d i : Nat), i + d = s.length → Ev (fun k => variants_find.l0 k r s (s.length : Int) (i : Int)) (setOf (s.drop i) r) := by
    intro d
    induction d with
    | zero =>
      intro i hi
      refine Ev.step (f := fun _ => some []) (fun k => by simp only [variants_find.l0]; rw [if_neg (by omega)]) ?_
      rw [List.drop_eq_nil_of_le (by omega)]
      exact Ev.now []
    | succ d ih =>
      intro i hi
      have hlt : i < s.length := by omega
      obtain ⟨p, hp, hp2⟩ := bs_ex (s.getD i []) r (by have := hs.small i hlt; omega) (hs.rises i hlt)
      refine Ev.step (f := fun k => (slices_BinarySearch_rune_rune.f k (s.getD i []) r).bind fun bt111 => (if bt111.2 = true then (some (s.getD i [])) else (variants_find.l0 k r s (s.length : Int) ((i + 1 : Nat) : Int)))) (fun k => by
        simp only [variants_find.l0]
        rw [if_pos (by omega), if_pos (by omega), if_pos (by omega), w64 (by omega) (by have := hs.few; omega), rdL_nat]; rfl) ?_
      refine Ev.bind hp ?_
      rw [setOf_step s i hlt, hp2]
      by_cases hm : r ∈ s.getD i []
      · rw [if_pos hm]
        exact Ev.pos (decide_eq_true hm) (Ev.now _)
      · rw [if_neg hm]
        exact Ev.neg (by rw [decide_eq_false hm]; simp) (ih (i + 1) (by omega))
  have := l0 s.length 0 (by omega)
  simpa [variants_find.f] using this
theorem setOf_len (s : List (List Int)) (r : Int) (n : Nat) (h : ∀ x ∈ s, x.length ≤ n) : (setOf s r).length ≤ n := by
  induction s with
  | nil => simp [setOf]
  | cons x s ih =>
    unfold setOf
    split
    · exact h x (by simp)
    · exact ih (fun y hy => h y (by simp [hy]))
theorem Fine.mem {s : List (List Int)} (hs : Fine s) : ∀ x ∈ s, x.length ≤ 20 := fun x hx => by
  obtain ⟨i, hi, e⟩ := List.getElem_of_mem hx
  have := hs.small i hi
  rw [List.getD_eq_getElem?_getD, List.getElem?_eq_getElem hi] at this
  rw [← e]; exact this
theorem set_ev (a : ByteArray) (s : List (List Int)) (hs : Fine s) (r : Int) : Ev (fun k => variants_Set.f k a s r) (setOf s r) := by
  unfold variants_Set.f
  refine Ev.bind (find_ev a s hs r) ?_
  have := setOf_len s r 20 hs.mem
  rw [show slices_Clone_rune_rune.f (setOf s r) = some (setOf s r) from by unfold slices_Clone_rune_rune.f; rw [if_pos (by omega)]]
  exact Ev.now _
end Go.Proofs.YtohnahbjmcelfaaDoor.V
namespace Go.Proofs.YtohnahbjmcelfaaDoor.V
open Go.RowKit Go.Proofs.YtohnahbjmcelfaaDoorW.PrintWords Go.Proofs.YtohnahbjmcelfaaDoorW.PrintLast Go.Proofs.YtohnahbjmcelfaaDoorW.PrintMore
open VarPlain (setOf)

/-! ### Great, Right -/
/-- of few small sets. -/
structure Small (s : List (List Int)) : Prop where
  few : s.length ≤ 20
  small : ∀ j, j < s.length → (s.getD j []).length ≤ 20
theorem great_ex (a : ByteArray) (s : List (List Int)) (hs : s.length ≤ 35184372088832) : Ex (fun k => eponymlaw19_Great.f k a s) (fun b => b = false → Small s ∧ a.size ≤ 100) := by
  have l0 : ∀ (hf : s.length ≤ 20) (ha : a.size ≤ 100) (d i : Nat), i + d = s.length → (∀ j, j < i → (s.getD j []).length ≤ 20) → Ex (fun k => eponymlaw19_Great.l0 k (i : Int) a s) (fun b => b = false → Small s ∧ a.size ≤ 100) := by
    intro hf ha d
    induction d with
    | zero =>
      intro i hi h
      refine Ex.succ ?_
      simp only [eponymlaw19_Great.l0]
      exact Ex.ite (fun h => absurd h (by omega)) (fun _ => Ex.now _ (fun _ => ⟨⟨hf, fun j hj => h j (by omega)⟩, ha⟩))
    | succ d ih =>
      intro i hi h
      refine Ex.succ ?_
      simp only [eponymlaw19_Great.l0]
      refine Ex.ite (fun _ => ?_) (fun h => absurd (by omega) h)
      refine Ex.ite (fun _ => ?_) (fun h => absurd (by omega) h)
      rw [rdL_nat]
      refine Ex.ite (fun _ => Ex.now _ (fun h => by cases h)) (fun hc => ?_)
      rw [w64 (by omega) (by omega)]
      refine ih (i + 1) (by omega) (fun j hj => ?_)
      rcases Nat.lt_or_ge j i with h1 | h1
      · exact h j h1
      · rw [show j = i by omega]; omega
  unfold eponymlaw19_Great.f
  refine Ex.ite (fun _ => ?_) (fun hc => ?_)
  · refine Ex.succ ?_
    simp only [eponymlaw19_Great.j0]
    exact Ex.ite (fun _ => Ex.now _ (fun h => by cases h)) (fun h => absurd trivial h)
  · refine Ex.succ ?_
    simp only [eponymlaw19_Great.j0]
    refine Ex.ite (fun _ => Ex.now _ (fun h => by cases h)) (fun h => ?_)
    have ha : a.size ≤ 100 := by
      have : ¬ (a.size : Int) > 100 := fun h1 => h (decide_eq_true h1)
      omega
    exact l0 (by omega) ha s.length 0 (by omega) (fun j hj => by omega)

theorem rises_of (x : List Int) (h : ∀ m, 1 ≤ m → m < x.length → x.getD (m - 1) 0 < x.getD m 0) : Rises x := fun i hi => by
  have := h (i + 1) (by omega) hi
  simpa using this
/-! ### keys -/
def keyOf (s : List (List Int)) (r : Int) : Int := if setOf s r = [] then r else (setOf s r).getD 0 0
def keys (s : List (List Int)) (l : List Int) : List Int := l.map (keyOf s)
theorem keys_length (s : List (List Int)) (l : List Int) : (keys s l).length = l.length := by simp [keys]
theorem key_ev (a : ByteArray) (s : List (List Int)) (hs : Fine s) (l : List Int) (hl : l.length ≤ 1000) : Ev (fun k => variants_Key.f k a s l) (keys s l) := by
  have l0 : ∀ (d i : Nat), i + d = l.length → Ev (fun k => variants_Key.l0 k (keys s (l.take i) ++ l.drop i) (l.length : Int) (i : Int) a s) (keys s l) := by
    intro d
    induction d with
    | zero =>
      intro i hi
      refine Ev.step (f := fun _ => some (keys s (l.take i) ++ l.drop i)) (fun k => by simp only [variants_Key.l0]; rw [if_neg (by omega)]) ?_
      rw [List.take_of_length_le (by omega), List.drop_eq_nil_of_le (by omega), List.append_nil]
      exact Ev.now _
    | succ d ih =>
      intro i hi
      have hlt : i < l.length := by omega
      have hkl : (keys s (l.take i)).length = i := by rw [keys_length, List.length_take]; omega
      have hnext : keys s (l.take (i + 1)) ++ l.drop (i + 1) = (keys s (l.take i) ++ l.drop i).set i (keyOf s (l.getD i 0)) := by
        rw [List.take_succ_eq_append_getElem hlt, List.getD_eq_getElem?_getD, List.getElem?_eq_getElem hlt, List.drop_eq_getElem_cons hlt]
        rw [List.set_append_right _ _ (by omega), hkl, Nat.sub_self, List.set_cons_zero]
        unfold keys
        rw [List.map_append, List.append_assoc]
        rfl
      have hrd : rd (keys s (l.take i) ++ l.drop i) (i : Int) = l.getD i 0 := by
        rw [rd_nat, List.getD_eq_getElem?_getD, List.getElem?_append_right (by omega), hkl, List.drop_eq_getElem_cons hlt, List.getD_eq_getElem?_getD, List.getElem?_eq_getElem hlt, Nat.sub_self]
        rfl
      have hih := ih (i + 1) (by omega)
      rw [hnext] at hih
      have hlen : (keys s (l.take i) ++ l.drop i).length = l.length := by rw [List.length_append, hkl, List.length_drop]; omega
      refine Ev.step (f := fun k => (variants_find.f k a s (l.getD i 0)).bind fun t => (if (t.length : Int) > 0 then (variants_Key.l0 k ((keys s (l.take i) ++ l.drop i).set i (rd t 0)) (l.length : Int) ((i + 1 : Nat) : Int) a s) else (variants_Key.l0 k (keys s (l.take i) ++ l.drop i) (l.length : Int) ((i + 1 : Nat) : Int) a s))) (fun k => by
        simp only [variants_Key.l0]
        rw [if_pos (by omega), if_pos (by omega), if_pos (by omega), w64 (by omega) (by omega), hrd]; rfl) ?_
      refine Ev.bind (find_ev a s hs _) ?_
      by_cases he : setOf s (l.getD i 0) = []
      · rw [he]
        refine Ev.neg (by simp) ?_
        have ek : keyOf s (l.getD i 0) = l.getD i 0 := by unfold keyOf; rw [if_pos he]
        have e2 : (keys s (l.take i) ++ l.drop i).set i (keyOf s (l.getD i 0)) = keys s (l.take i) ++ l.drop i := by
          rw [ek, List.set_append_right _ _ (by omega), hkl, Nat.sub_self, List.drop_eq_getElem_cons hlt, List.getD_eq_getElem?_getD, List.getElem?_eq_getElem hlt]
          rfl
        rw [e2] at hih
        exact hih
      · have hp : 0 < (setOf s (l.getD i 0)).length := List.length_pos_iff.2 he
        refine Ev.pos (by omega) ?_
        have e2 : keyOf s (l.getD i 0) = rd (setOf s (l.getD i 0)) 0 := by unfold keyOf; rw [if_neg he]; rfl
        rw [e2] at hih
        exact hih
  unfold variants_Key.f
  refine Ev.pos (by omega) ?_
  simpa [keys] using l0 l.length 0 (by omega)
theorem psame_ev (a : ByteArray) (s : List (List Int)) (hs : Fine s) (l m : List Int) (hl : l.length ≤ 1000) (hm : m.length ≤ 1000) : Ev (fun k => variants_Same.f k a s l m) (decide (keys s l = keys s m)) := by
  unfold variants_Same.f
  refine Ev.bind (key_ev a s hs l hl) (Ev.bind (key_ev a s hs m hm) (Ev.bind (equal_ev _ _ (by rw [keys_length]; omega)) (Ev.now _)))

/-! ### counts -/
def cnt (s : List (List Int)) (n : Int) (r : Int) : Int := mn (n * mx ((setOf s r).length : Int) 1) 1073741824
def cntOf (s : List (List Int)) (n : Int) (l : List Int) : Int := l.foldl (cnt s) n
theorem cnt_range (s : List (List Int)) (hs : Fine s) (n r : Int) (h0 : 1 ≤ n) (h1 : n ≤ 1073741824) : 1 ≤ cnt s n r ∧ cnt s n r ≤ 1073741824 ∧ n * mx ((setOf s r).length : Int) 1 ≤ 21474836480 ∧ 1 ≤ n * mx ((setOf s r).length : Int) 1 := by
  have hl := setOf_len s r 20 hs.mem
  have hm : 1 ≤ mx ((setOf s r).length : Int) 1 ∧ mx ((setOf s r).length : Int) 1 ≤ 20 := by unfold mx; constructor <;> split <;> omega
  unfold cnt mn
  generalize mx ((setOf s r).length : Int) 1 = m at hm ⊢
  have h2 : n * m ≤ 1073741824 * 20 := Int.mul_le_mul h1 hm.2 (by omega) (by omega)
  have h3 : 1 * 1 ≤ n * m := Int.mul_le_mul h0 hm.1 (by omega) (by omega)
  refine ⟨?_, ?_, by omega, by omega⟩ <;> split <;> omega
theorem pcount_ev (a : ByteArray) (s : List (List Int)) (hs : Fine s) (l : List Int) (hl : l.length ≤ 1000) : Ev (fun k => variants_Count.f k a s l) (cntOf s 1 l) := by
  have l0 : ∀ (d i : Nat) (n : Int), i + d = l.length → 1 ≤ n → n ≤ 1073741824 → Ev (fun k => variants_Count.l0 k n l (l.length : Int) (i : Int) a s) (cntOf s n (l.drop i)) := by
    intro d
    induction d with
    | zero =>
      intro i n hi h0 h1
      refine Ev.step (f := fun _ => some n) (fun k => by simp only [variants_Count.l0]; rw [if_neg (by omega)]) ?_
      rw [List.drop_eq_nil_of_le (by omega)]
      exact Ev.now _
    | succ d ih =>
      intro i n hi h0 h1
      have hlt : i < l.length := by omega
      obtain ⟨c1, c2, c3, c4⟩ := cnt_range s hs n (l.getD i 0) h0 h1
      have hih := ih (i + 1) (cnt s n (l.getD i 0)) (by omega) c1 c2
      refine Ev.step (f := fun k => (variants_find.f k a s (l.getD i 0)).bind fun t247 => (variants_Count.l0 k (mn (wrap64 (n * (mx (t247.length : Int) 1))) 1073741824) l (l.length : Int) ((i + 1 : Nat) : Int) a s)) (fun k => by
        simp only [variants_Count.l0]
        rw [if_pos (by omega), if_pos (by omega), if_pos (by omega), w64 (by omega) (by omega), rd_nat]; rfl) ?_
      refine Ev.bind (find_ev a s hs _) ?_
      rw [w64' (by omega) (by omega), List.drop_eq_getElem_cons hlt]
      have e1 : l[i] = l.getD i 0 := by rw [List.getD_eq_getElem?_getD, List.getElem?_eq_getElem hlt]; rfl
      rw [e1]
      exact hih
  have := l0 l.length 0 1 (by omega) (by omega) (by omega)
  simpa [variants_Count.f] using this
/-! ### the law of keys -/
theorem awake_ev : Ev (fun k => eponymlaw19_awake.f k) true := Ev.of eponymlaw19_awake.mono (k := 40) (by decide +kernel)
end Go.Proofs.YtohnahbjmcelfaaDoor.V
namespace Go.Proofs.YtohnahbjmcelfaaDoor.V
open Go.RowKit Go.Proofs.YtohnahbjmcelfaaDoorW.PrintWords Go.Proofs.YtohnahbjmcelfaaDoorW.PrintLast Go.Proofs.YtohnahbjmcelfaaDoorW.PrintMore
open VarPlain (setOf wheel prod wl from_ dig row)

def wheels (s : List (List Int)) (l : List Int) : List (List Int) := l.map (wheel s)
theorem wheels_length (s : List (List Int)) (l : List Int) : (wheels s l).length = l.length := by simp [wheels]
theorem wheels_at (s : List (List Int)) (l : List Int) (j : Nat) (h : j < l.length) : (wheels s l).getD j [] = wheel s (l.getD j 0) := by
  simp [wheels, List.getD_eq_getElem?_getD, h]
theorem wheel_pos (s : List (List Int)) (r : Int) : 0 < (wheel s r).length := by
  unfold wheel
  split
  · simp
  · next h => exact List.length_pos_iff.2 h
theorem wheel_mx (s : List (List Int)) (r : Int) : ((wheel s r).length : Int) = mx ((setOf s r).length : Int) 1 := by
  unfold wheel
  split
  · next h => rw [h]; rfl
  · next h =>
    have := List.length_pos_iff.2 h
    unfold mx
    split <;> omega
theorem wheels_wl (s : List (List Int)) (l : List Int) (j : Nat) (h : j < (wheels s l).length) : 0 < wl (wheels s l) j := by
  rw [wheels_length] at h
  unfold VarPlain.wl
  rw [wheels_at s l j h]
  exact wheel_pos s _
theorem prod_wheels (s : List (List Int)) (l : List Int) : 0 < prod (wheels s l) := VarPlain.prod_pos' _ (wheels_wl s l)

theorem seq_ev (a : ByteArray) (s : List (List Int)) (hs : Fine s) (l : List Int) (hl : l.length ≤ 900) : Ev (fun k => variants_Seq.f k a s l) (wheels s l) := by
  have l0 : ∀ (d i : Nat), i + d = l.length → Ev (fun k => variants_Seq.l0 k (wheels s (l.take i) ++ List.replicate (l.length - i) []) (l.length : Int) (i : Int) a s l) (wheels s l) := by
    intro d
    induction d with
    | zero =>
      intro i hi
      refine Ev.step (f := fun _ => some (wheels s (l.take i) ++ List.replicate (l.length - i) [])) (fun k => by simp only [variants_Seq.l0]; rw [if_neg (by omega)]) ?_
      rw [List.take_of_length_le (by omega), show l.length - i = 0 by omega, List.replicate_zero, List.append_nil]
      exact Ev.now _
    | succ d ih =>
      intro i hi
      have hlt : i < l.length := by omega
      have hkl : (wheels s (l.take i)).length = i := by rw [wheels_length, List.length_take]; omega
      have hnext : wheels s (l.take (i + 1)) ++ List.replicate (l.length - (i + 1)) [] = (wheels s (l.take i) ++ List.replicate (l.length - i) []).set i (wheel s (l.getD i 0)) := by
        rw [List.take_succ_eq_append_getElem hlt, List.getD_eq_getElem?_getD, List.getElem?_eq_getElem hlt]
        rw [List.set_append_right _ _ (by omega), hkl, Nat.sub_self, show l.length - i = (l.length - (i + 1)) + 1 by omega, List.replicate_succ, List.set_cons_zero]
        unfold wheels
        rw [List.map_append, List.append_assoc]
        rfl
      have hih := ih (i + 1) (by omega)
      rw [hnext] at hih
      have hlen : (wheels s (l.take i) ++ List.replicate (l.length - i) ([] : List Int)).length = l.length := by rw [List.length_append, hkl, List.length_replicate]; omega
      refine Ev.step (f := fun k => (variants_Set.f k a s (l.getD i 0)).bind fun t => (if (t.length : Int) = 0 then variants_Seq.l0 k ((wheels s (l.take i) ++ List.replicate (l.length - i) []).set i [l.getD i 0]) (l.length : Int) ((i + 1 : Nat) : Int) a s l else variants_Seq.l0 k ((wheels s (l.take i) ++ List.replicate (l.length - i) []).set i t) (l.length : Int) ((i + 1 : Nat) : Int) a s l)) (fun k => by
        simp only [variants_Seq.l0]
        rw [if_pos (by omega), if_pos (by omega), if_pos (by omega), w64 (by omega) (by omega), rd_nat]; rfl) ?_
      refine Ev.bind (set_ev a s hs _) ?_
      by_cases he : setOf s (l.getD i 0) = []
      · rw [he]
        refine Ev.pos (by simp) ?_
        have ek : wheel s (l.getD i 0) = [l.getD i 0] := by unfold VarPlain.wheel; rw [if_pos he]
        rw [ek] at hih
        exact hih
      · have hp : 0 < (setOf s (l.getD i 0)).length := List.length_pos_iff.2 he
        refine Ev.neg (by omega) ?_
        have ek : wheel s (l.getD i 0) = setOf s (l.getD i 0) := by unfold VarPlain.wheel; rw [if_neg he]
        rw [ek] at hih
        exact hih
  unfold variants_Seq.f
  refine Ev.pos (by omega) ?_
  simpa [wheels] using l0 l.length 0 (by omega)
theorem all_wheels (s : List (List Int)) (l : List Int) : (wheels s l).all (fun x => decide (0 < x.length)) = true := by
  refine List.all_eq_true.2 (fun x hx => ?_)
  unfold wheels at hx
  obtain ⟨r, _, rfl⟩ := List.mem_map.1 hx
  exact decide_eq_true (wheel_pos s r)
/-- the first rows. -/
def firsts (s : List (List Int)) (l : List Int) (most : Int) : List (List Int) := (List.range (min most.toNat (prod (wheels s l)))).map (row (wheels s l))
theorem firsts_length (s : List (List Int)) (l : List Int) (most : Int) : (firsts s l most).length = min most.toNat (prod (wheels s l)) := by simp [firsts]
theorem firsts_at (s : List (List Int)) (l : List Int) (most : Int) (i : Nat) (h : i < (firsts s l most).length) : rd_L1 (firsts s l most) (i : Int) = row (wheels s l) i := by
  rw [rdL_nat]
  rw [firsts_length] at h
  simp [firsts, List.getD_eq_getElem?_getD, List.getElem?_range h]
theorem all_ev (a : ByteArray) (s : List (List Int)) (hs : Fine s) (l : List Int) (hl : l.length ≤ 900) (most : Int) (hm : most ≤ 1000) : Ev (fun k => variants_All.f k a s l most) (firsts s l most) := by
  unfold variants_All.f
  by_cases h1 : most < 1
  · refine Ev.pos h1 ?_
    have : firsts s l most = [] := by unfold firsts; rw [show most.toNat = 0 by omega, Nat.zero_min]; rfl
    rw [this]
    exact Ev.now _
  · refine Ev.neg h1 (Ev.bind (seq_ev a s hs l hl) (Ev.pos (by rw [wheels_length]; omega) (Ev.pos (all_wheels s l) (Ev.pos ?_ (Ev.now _)))))
    have := Nat.min_le_left most.toNat (prod (wheels s l))
    omega

theorem cnt_min (n m : Int) (h0 : 1 ≤ n) (h1 : 1 ≤ m) (p : Int) (hp : 1 ≤ p) : mn (mn (n * m) 1073741824 * p) 1073741824 = mn (n * m * p) 1073741824 := by
  have h2 : 1 * 1 ≤ n * m := Int.mul_le_mul h0 h1 (by omega) (by omega)
  generalize n * m = x at h2 ⊢
  unfold mn
  by_cases hx : 1073741824 < x
  · rw [if_pos hx]
    have h3 : 1073741824 * 1 ≤ 1073741824 * p := Int.mul_le_mul_of_nonneg_left hp (by omega)
    have h4 : x * 1 ≤ x * p := Int.mul_le_mul_of_nonneg_left hp (by omega)
    by_cases h5 : 1073741824 < 1073741824 * p
    · rw [if_pos h5, if_pos (by omega)]
    · rw [if_neg h5, if_pos (by omega)]; omega
  · rw [if_neg hx]
theorem cntOf_prod (s : List (List Int)) (hs : Fine s) (l : List Int) : ∀ n : Int, 1 ≤ n → n ≤ 1073741824 → cntOf s n l = mn (n * (prod (wheels s l) : Int)) 1073741824 := by
  induction l with
  | nil =>
    intro n h0 h1
    show n = mn (n * ((1 : Nat) : Int)) 1073741824
    unfold mn
    split <;> omega
  | cons r l ih =>
    intro n h0 h1
    obtain ⟨c1, c2, c3, c4⟩ := cnt_range s hs n r h0 h1
    have e0 : cntOf s n (r :: l) = cntOf s (cnt s n r) l := rfl
    have e1 : prod (wheels s (r :: l)) = (wheel s r).length * prod (wheels s l) := rfl
    have hp := prod_wheels s l
    have hm : 1 ≤ mx ((setOf s r).length : Int) 1 := by unfold mx; split <;> omega
    rw [e0, ih _ c1 c2, e1, Int.natCast_mul, wheel_mx, ← Int.mul_assoc]
    exact cnt_min n _ h0 hm _ (by omega)

end Go.Proofs.YtohnahbjmcelfaaDoor.V
namespace Go.Proofs.YtohnahbjmcelfaaDoor.V
set_option linter.unusedVariables false
open Go.RowKit Go.Proofs.YtohnahbjmcelfaaDoorW.PrintWords Go.Proofs.YtohnahbjmcelfaaDoorW.PrintLast Go.Proofs.YtohnahbjmcelfaaDoorW.PrintMore Go.Proofs.YtohnahbjmcelfaaDoor.Er
open Classical

def Rt (r : Int) : Prop := 0 ≤ r ∧ r ≤ 1114111 ∧ ¬ (55296 ≤ r ∧ r ≤ 57343)
theorem pright_ev (r : Int) : utf_Right.f r = some (decide (Rt r)) := by
  unfold utf_Right.f
  by_cases c1 : r ≥ 0
  · rw [if_pos c1]
    by_cases c2 : r ≤ 1114111
    · rw [if_pos c2]
      by_cases c3 : r < 55296
      · rw [if_pos c3, decide_eq_true (p := Rt r) ⟨c1, c2, by omega⟩]
      · rw [if_neg c3]
        by_cases c4 : r > 57343
        · rw [decide_eq_true c4, decide_eq_true (p := Rt r) ⟨c1, c2, by omega⟩]
        · rw [decide_eq_false c4, decide_eq_false (p := Rt r) (fun h => h.2.2 ⟨by omega, by omega⟩)]
    · rw [if_neg c2, decide_eq_false (p := Rt r) (fun h => c2 h.2.1)]
  · rw [if_neg c1, decide_eq_false (p := Rt r) (fun h => c1 h.1)]
def AllR (x : List Int) : Prop := ∀ m, m < x.length → Rt (x.getD m 0)
def Up (x : List Int) : Prop := ∀ m, 1 ≤ m → m < x.length → x.getD (m - 1) 0 < x.getD m 0
/-- what is wrong with a set. -/
noncomputable def setE (s : List (List Int)) (i : Nat) : Nat :=
  if (s.getD i []).length < 2 then 16 else if ¬ AllR (s.getD i []) then 4 else if ¬ Up (s.getD i []) then 6 else if 0 < i ∧ (s.getD i []).getD 0 0 ≤ (s.getD (i - 1) []).getD 0 0 then 6 else 0
def dup (s : List (List Int)) (i : Nat) : Prop := ∃ j, j < i ∧ ∃ m, m < (s.getD i []).length ∧ (s.getD i []).getD m 0 ∈ s.getD j []
noncomputable def chk (s : List (List Int)) : Nat → Nat → Int × Int
  | 0, _ => (0, 0)
  | d + 1, i => if setE s i ≠ 0 then ((i : Int), (setE s i : Int)) else if dup s i then ((i : Int), 7) else chk s d (i + 1)
theorem setE_le (s : List (List Int)) (i : Nat) : setE s i ≤ 18 := by
  unfold setE
  let P : Nat → Prop := fun n => n ≤ 18
  show P _
  repeat' (refine ite_p (P := P) (fun _ => ?_) (fun _ => ?_))
  all_goals (show _ ≤ _; omega)
theorem chk_number (s : List (List Int)) : ∀ (d i : Nat), 0 ≤ (chk s d i).2 ∧ (chk s d i).2 ≤ 18
  | 0, i => by simp [chk]
  | d + 1, i => by
    have := setE_le s i
    simp only [chk]
    by_cases c : setE s i ≠ 0
    · rw [if_pos c]; simp only; omega
    · rw [if_neg c]
      by_cases c2 : dup s i
      · rw [if_pos c2]; simp
      · rw [if_neg c2]; exact chk_number s d (i + 1)
theorem setE_zero {s : List (List Int)} {i : Nat} (h : setE s i = 0) : 2 ≤ (s.getD i []).length ∧ AllR (s.getD i []) ∧ Up (s.getD i []) ∧ ¬ (0 < i ∧ (s.getD i []).getD 0 0 ≤ (s.getD (i - 1) []).getD 0 0) := by
  unfold setE at h
  by_cases c1 : (s.getD i []).length < 2
  · rw [if_pos c1] at h; omega
  rw [if_neg c1] at h
  by_cases c2 : AllR (s.getD i [])
  rotate_left
  · rw [if_pos c2] at h; omega
  rw [if_neg (fun g => g c2)] at h
  by_cases c3 : Up (s.getD i [])
  rotate_left
  · rw [if_pos c3] at h; omega
  rw [if_neg (fun g => g c3)] at h
  by_cases c4 : 0 < i ∧ (s.getD i []).getD 0 0 ≤ (s.getD (i - 1) []).getD 0 0
  · rw [if_pos c4] at h; omega
  exact ⟨by omega, c2, c3, c4⟩

/-! ### a set, as the program checks it -/
theorem ps_l0 (x : List Int) (hx : x.length ≤ 20) (i : Int) (a : ByteArray) (s : List (List Int)) (r : Nat) (h1 : AllR x → Ev (fun k => variants_setError.l1 k i x 1 a s) r) (h2 : ¬ AllR x → r = 4) :
    ∀ (d j : Nat), j + d = x.length → (∀ m, m < j → Rt (x.getD m 0)) → Ev (fun k => variants_setError.l0 k i x x (x.length : Int) (j : Int) a s) r := by
  intro d
  induction d with
  | zero =>
    intro j hj hr
    refine Ev.succ ?_
    simp only [variants_setError.l0]
    exact Ev.neg (by omega) (h1 (fun m hm => hr m (by omega)))
  | succ d ih =>
    intro j hj hr
    refine Ev.succ ?_
    simp only [variants_setError.l0]
    refine Ev.pos (by omega) (Ev.pos (by omega) (Ev.pos (by omega) (Ev.bindc (pright_ev _) ?_)))
    rw [rd_nat, w64 (by omega) (by omega)]
    refine Ev.ite (fun c => ?_) (fun c => ?_)
    · refine ih (j + 1) (by omega) (fun m hm => ?_)
      by_cases e : m = j
      · subst e; exact of_decide_eq_true c
      · exact hr m (by omega)
    · exact Ev.is (h2 (fun h => c (decide_eq_true (h j (by omega))))).symm
theorem ps_l1 (x : List Int) (hx : x.length ≤ 20) (h0 : 0 < x.length) (i : Nat) (a : ByteArray) (s : List (List Int)) (hi : i < s.length) (hs : s.length ≤ 20) (hp : 0 < i → 0 < (s.getD (i - 1) []).length) :
    ∀ (d j : Nat), j + d = x.length → 1 ≤ j → (∀ m, 1 ≤ m → m < j → x.getD (m - 1) 0 < x.getD m 0) → Ev (fun k => variants_setError.l1 k (i : Int) x (j : Int) a s) (if ¬ Up x then 6 else if 0 < i ∧ x.getD 0 0 ≤ (s.getD (i - 1) []).getD 0 0 then 6 else 0) := by
  intro d
  induction d with
  | zero =>
    intro j hj h1 hr
    refine Ev.succ ?_
    simp only [variants_setError.l1]
    have hup : Up x := fun m hm hm2 => hr m hm (by omega)
    have e0 : (if ¬ Up x then 6 else if 0 < i ∧ x.getD 0 0 ≤ (s.getD (i - 1) []).getD 0 0 then 6 else 0) = (if 0 < i ∧ x.getD 0 0 ≤ (s.getD (i - 1) []).getD 0 0 then 6 else 0) := if_neg (fun g => g hup)
    rw [e0]
    refine Ev.neg (by omega) (Ev.ite (fun c => ?_) (fun c => ?_))
    · have hp' := hp (by omega)
      rw [w64' (by omega) (by omega), show (i : Int) - 1 = ((i - 1 : Nat) : Int) by omega, rdL_nat]
      refine Ev.pos (by omega) (Ev.pos (by omega) (Ev.pos (by omega) (Ev.pos (by omega) ?_)))
      have e1 : rd x 0 = x.getD 0 0 := rd_nat x 0
      have e2 : rd (s.getD (i - 1) []) 0 = (s.getD (i - 1) []).getD 0 0 := rd_nat _ 0
      rw [e1, e2]
      refine Ev.ite (fun c2 => Ev.is ?_) (fun c2 => Ev.is ?_)
      · rw [if_pos ⟨by omega, c2⟩]
      · rw [if_neg (fun g => c2 g.2)]
    · exact Ev.is (if_neg (fun g => c (by omega))).symm
  | succ d ih =>
    intro j hj h1 hr
    refine Ev.succ ?_
    simp only [variants_setError.l1]
    rw [w64' (i := (j : Int) - 1) (by omega) (by omega), show (j : Int) - 1 = ((j - 1 : Nat) : Int) by omega, rd_nat, rd_nat, w64 (by omega) (by omega)]
    refine Ev.pos (by omega) (Ev.pos (by omega) (Ev.pos (by omega) (Ev.pos (by omega) ?_)))
    refine Ev.ite (fun c => ?_) (fun c => ?_)
    · exact Ev.is (if_pos (fun g : Up x => absurd (g j h1 (by omega)) (by omega))).symm
    · refine ih (j + 1) (by omega) (by omega) (fun m hm hm2 => ?_)
      by_cases e : m = j
      · subst e; omega
      · exact hr m hm (by omega)
theorem pset_ev (a : ByteArray) (s : List (List Int)) (hs : Small s) (i : Nat) (hi : i < s.length) (hp : 0 < i → 0 < (s.getD (i - 1) []).length) : Ev (fun k => variants_setError.f k a s (i : Int)) (setE s i) := by
  have hsm := hs.small i hi
  have hf := hs.few
  simp only [variants_setError.f]
  rw [rdL_nat]
  refine Ev.pos (by omega) (Ev.pos (by omega) ?_)
  unfold setE
  by_cases c1 : (s.getD i []).length < 2
  · rw [if_pos c1]
    exact Ev.pos (by omega) (Ev.now _)
  rw [if_neg c1]
  refine Ev.neg (by omega) ?_
  refine ps_l0 (s.getD i []) (by omega) (i : Int) a s _ (fun h => ?_) (fun h => if_pos h) (s.getD i []).length 0 (by omega) (fun m hm => by omega)
  rw [if_neg (fun g => g h)]
  exact ps_l1 (s.getD i []) (by omega) (by omega) i a s hi hf hp ((s.getD i []).length - 1) 1 (by omega) (by omega) (fun m h1 h2 => by omega)
end Go.Proofs.YtohnahbjmcelfaaDoor.V
namespace Go.Proofs.YtohnahbjmcelfaaDoor.V
set_option linter.unusedVariables false
open Go.RowKit Go.Proofs.YtohnahbjmcelfaaDoorW.PrintWords Go.Proofs.YtohnahbjmcelfaaDoorW.PrintLast Go.Proofs.YtohnahbjmcelfaaDoorW.PrintMore Go.Proofs.YtohnahbjmcelfaaDoor.Er
open Classical

theorem valid_ev (a : ByteArray) (ha : a.size ≤ 1000000) : Ev (fun k => utf_Valid.f k a) (decide ((decS a).2.2 = 0)) := by
  unfold utf_Valid.f
  refine Ev.bind (pdec_ev a ha) (Ev.is ?_)
  show (eo (decS a).2.1 (decS a).2.2).isNone = _
  by_cases c : (decS a).2.2 = 0
  · rw [c, eo_zero, decide_eq_true rfl]; rfl
  · rw [decide_eq_false c]
    unfold eo
    rw [if_neg c]
    rfl
theorem vfault (at_ : Int) (c : Nat) (h : c ≠ 0 ∧ c < 64) : variants_fault.f at_ c = some (eo at_ (c : Int)) := by
  unfold variants_fault.f
  rw [if_pos h, eo_enc at_ c h.1]

theorem getD_take (l : List Int) (j m : Nat) (h : m < j) : (l.take j).getD m 0 = l.getD m 0 := by
  simp [List.getD, h]
theorem take_more (l : List Int) (j : Nat) (h : j < l.length) : l.take (j + 1) = l.take j ++ [l.getD j 0] := by
  rw [List.take_succ_eq_append_getElem h]
  simp [h]
/-- what was seen: the runes of the sets ahead. -/
def Seen (s : List (List Int)) (i : Nat) (S : List Int) : Prop := S.length ≤ 20 * i ∧ ∀ r, r ∈ S ↔ ∃ j, j < i ∧ r ∈ s.getD j []
theorem pc_l2 (a : ByteArray) (s : List (List Int)) (hs : Small s) (i : Nat) (hi : i < s.length) (hr : AllR (s.getD i [])) (hu : Up (s.getD i [])) (S0 : List Int) (hS : Seen s i S0) (r : Option Int)
    (h1 : dup s i → r = eo (i : Int) 7) (h2 : ¬ dup s i → ∀ S, Seen s (i + 1) S → Ev (fun k => variants_Check.l1 k S ((i + 1 : Nat) : Int) a s) r) :
    ∀ (d j : Nat) (S : List Int), j + d = (s.getD i []).length → S.length ≤ 20 * i + j → (∀ x, x ∈ S ↔ x ∈ S0 ∨ x ∈ (s.getD i []).take j) → (∀ m, m < j → (s.getD i []).getD m 0 ∉ S0) → Ev (fun k => variants_Check.l2 k S (i : Int) (s.getD i []) (j : Int) a s) r := by
  have hsm := hs.small i hi
  have hf := hs.few
  have hri : Rises (s.getD i []) := rises_of _ hu
  intro d
  induction d with
  | zero =>
    intro j S hj hl hS1 hn
    refine Ev.succ ?_
    simp only [variants_Check.l2]
    rw [w64 (i := (i : Int)) (by omega) (by omega), show (i : Int) + 1 = ((i + 1 : Nat) : Int) by omega]
    refine Ev.neg (by omega) (h2 ?_ S ⟨by omega, fun x => ?_⟩)
    · rintro ⟨j1, hj1, m, hm, hin⟩
      exact hn m (by omega) ((hS.2 _).2 ⟨j1, hj1, hin⟩)
    · rw [hS1, hS.2, List.take_of_length_le (by omega)]
      constructor
      · rintro (⟨j1, hj1, h⟩ | h)
        · exact ⟨j1, by omega, h⟩
        · exact ⟨i, by omega, h⟩
      · rintro ⟨j1, hj1, h⟩
        by_cases e : j1 = i
        · subst e; exact .inr h
        · exact .inl ⟨j1, by omega, h⟩
  | succ d ih =>
    intro j S hj hl hS1 hn
    have hrj := hr j (by omega)
    refine Ev.succ ?_
    simp only [variants_Check.l2]
    rw [w64 (by omega) (by omega), rd_nat]
    refine Ev.pos (by omega) (Ev.pos (by omega) (Ev.pos ⟨by omega, by have := hrj.1; omega, by have := hrj.2.1; omega⟩ ?_))
    have hnt : (s.getD i []).getD j 0 ∉ (s.getD i []).take j := fun hm => by
      obtain ⟨m, hm1, hm2⟩ := (mem_getD _ _).1 hm
      rw [List.length_take] at hm1
      have hlt := hri.lt m j (by omega) (by omega)
      rw [getD_take _ _ _ (by omega)] at hm2
      omega
    refine Ev.ite (fun c => ?_) (fun c => ?_)
    · have c0 : (s.getD i []).getD j 0 ∈ S0 := ((hS1 _).1 c).resolve_right hnt
      obtain ⟨j1, hj1, hin⟩ := (hS.2 _).1 c0
      exact Ev.bindc' (vfault (i : Int) 7 (by omega)) (h1 ⟨j1, hj1, j, by omega, hin⟩).symm
    · have c0 : (s.getD i []).getD j 0 ∉ S0 := fun h => c ((hS1 _).2 (.inl h))
      refine ih (j + 1) _ (by omega) (by simp; omega) (fun x => ?_) (fun m hm => ?_)
      · rw [List.mem_cons, hS1]
        rw [take_more _ j (by omega), List.mem_append, List.mem_singleton]
        constructor
        · rintro (h | h | h)
          · exact .inr (.inr h)
          · exact .inl h
          · exact .inr (.inl h)
        · rintro (h | h | h)
          · exact .inr (.inl h)
          · exact .inr (.inr h)
          · exact .inl h
      · by_cases e : m = j
        · subst e; exact c0
        · exact hn m (by omega)
theorem pc_l1 (a : ByteArray) (s : List (List Int)) (hs : Small s) : ∀ (d i : Nat) (S : List Int), i + d = s.length → Seen s i S → (0 < i → 0 < (s.getD (i - 1) []).length) → Ev (fun k => variants_Check.l1 k S (i : Int) a s) (eo (chk s d i).1 (chk s d i).2)
  | 0, i, S, hd, hS, hp => by
    refine Ev.succ ?_
    simp only [variants_Check.l1]
    exact Ev.neg (by omega) (Ev.now _)
  | d + 1, i, S, hd, hS, hp => by
    have hf := hs.few
    refine Ev.succ ?_
    simp only [variants_Check.l1]
    refine Ev.pos (by omega) (Ev.pos (by omega) (Ev.bind (pset_ev a s hs i (by omega) hp) ?_))
    rw [rdL_nat]
    simp only [chk]
    refine Ev.ite (fun c => ?_) (fun c => ?_)
    · rw [if_neg (fun g => g c)]
      have hz := setE_zero c
      refine pc_l2 a s hs i (by omega) hz.2.1 hz.2.2.1 S hS _ (fun h => by rw [if_pos h]) (fun h S2 hS2 => ?_) (s.getD i []).length 0 S (by omega) (by have := hS.1; omega) (fun x => by simp) (fun m hm => by omega)
      rw [if_neg h]
      exact pc_l1 a s hs d (i + 1) S2 (by omega) hS2 (fun _ => by rw [Nat.add_sub_cancel]; omega)
    · rw [if_pos c]
      have := setE_le s i
      exact Ev.bindc' (vfault (i : Int) (setE s i) ⟨c, by omega⟩) rfl
theorem pc_l0 (a : ByteArray) (s : List (List Int)) (hs : Small s) : ∀ (d i : Nat) (n : Int), i + d = s.length → 0 ≤ n → n ≤ 20 * i → Ev (fun k => variants_Check.l0 k n (i : Int) a s) (eo (chk s s.length 0).1 (chk s s.length 0).2)
  | 0, i, n, hd, h0, hn => by
    refine Ev.succ ?_
    simp only [variants_Check.l0]
    exact Ev.neg (by omega) (pc_l1 a s hs s.length 0 [] (by omega) ⟨by simp, fun r => by simp⟩ (fun h => by omega))
  | d + 1, i, n, hd, h0, hn => by
    have hf := hs.few
    have hsm := hs.small i (by omega)
    refine Ev.succ ?_
    simp only [variants_Check.l0]
    rw [rdL_nat, w64 (by omega) (by omega), w64' (by omega) (by omega)]
    refine Ev.pos (by omega) (Ev.pos (by omega) (Ev.neg (by omega) ?_))
    exact pc_l0 a s hs d (i + 1) _ (by omega) (by omega) (by omega)
/-- what is wrong with a family. -/
noncomputable def chkF (a : ByteArray) (s : List (List Int)) : Int × Int := if a.size = 0 ∨ 63 < a.size ∨ (decS a).2.2 ≠ 0 then (0, 5) else chk s s.length 0
theorem pcheck_ev (a : ByteArray) (s : List (List Int)) (hs : Small s) (ha : a.size ≤ 100) : Ev (fun k => variants_Check.f k a s) (eo (chkF a s).1 (chkF a s).2) := by
  unfold variants_Check.f chkF
  refine Ev.ite (fun c1 => ?_) (fun c1 => Ev.ite (fun c2 => ?_) (fun c2 => Ev.bind (valid_ev a (by omega)) (Ev.ite (fun c3 => ?_) (fun c3 => ?_))))
  · rw [if_pos (.inl (by omega))]
    exact Ev.bindc' (vfault 0 5 (by omega)) rfl
  · rw [if_pos (.inr (.inl (by omega)))]
    exact Ev.bindc' (vfault 0 5 (by omega)) rfl
  · have c3' := of_decide_eq_true c3
    rw [if_neg (by rintro (h | h | h) <;> omega)]
    exact pc_l0 a s hs s.length 0 0 (by omega) (by omega) (by omega)
  · rw [if_pos (.inr (.inr (fun h => c3 (decide_eq_true h))))]
    exact Ev.bindc' (vfault 0 5 (by omega)) rfl

theorem chkF_number (a : ByteArray) (s : List (List Int)) : 0 ≤ (chkF a s).2 ∧ (chkF a s).2 ≤ 18 := by
  unfold chkF
  by_cases c : a.size = 0 ∨ 63 < a.size ∨ (decS a).2.2 ≠ 0
  · rw [if_pos c]; simp
  · rw [if_neg c]; exact chk_number s _ _
/-- a family that is right has fine sets. -/
theorem chk_fine (s : List (List Int)) : ∀ (d i : Nat), i + d = s.length → (chk s d i).2 = 0 → ∀ j, i ≤ j → j < s.length → setE s j = 0
  | 0, i, hd, h, j, h1, h2 => by omega
  | d + 1, i, hd, h, j, h1, h2 => by
    simp only [chk] at h
    by_cases c : setE s i ≠ 0
    · rw [if_pos c] at h; simp only at h; omega
    rw [if_neg c] at h
    by_cases c2 : dup s i
    · rw [if_pos c2] at h; simp at h
    rw [if_neg c2] at h
    by_cases e : j = i
    · subst e; omega
    · exact chk_fine s d (i + 1) (by omega) h j (by omega) h2
theorem chkF_fine (a : ByteArray) (s : List (List Int)) (hs : Small s) (h : (chkF a s).2 = 0) : Fine s := by
  unfold chkF at h
  by_cases c : a.size = 0 ∨ 63 < a.size ∨ (decS a).2.2 ≠ 0
  · rw [if_pos c] at h; simp at h
  rw [if_neg c] at h
  have hz := fun j (hj : j < s.length) => setE_zero (chk_fine s _ _ (by omega) h j (by omega) hj)
  exact ⟨hs.few, hs.small, fun j hj => (hz j hj).1, fun j hj => rises_of _ (hz j hj).2.2.1⟩

theorem chk_disj (s : List (List Int)) : ∀ (d i : Nat), i + d = s.length → (chk s d i).2 = 0 → ∀ j, i ≤ j → j < s.length → ¬ dup s j
  | 0, i, hd, h, j, h1, h2 => by omega
  | d + 1, i, hd, h, j, h1, h2 => by
    simp only [chk] at h
    by_cases c : setE s i ≠ 0
    · rw [if_pos c] at h; simp only at h; omega
    rw [if_neg c] at h
    by_cases c2 : dup s i
    · rw [if_pos c2] at h; simp at h
    rw [if_neg c2] at h
    by_cases e : j = i
    · subst e; exact c2
    · exact chk_disj s d (i + 1) (by omega) h j (by omega) h2
/-- sets that share nothing. -/
def Disj (s : List (List Int)) : Prop := ∀ i j, i < s.length → j < i → ∀ r, r ∈ s.getD i [] → r ∉ s.getD j []
theorem chkF_disj (a : ByteArray) (s : List (List Int)) (h : (chkF a s).2 = 0) : Disj s := by
  unfold chkF at h
  by_cases c : a.size = 0 ∨ 63 < a.size ∨ (decS a).2.2 ≠ 0
  · rw [if_pos c] at h; simp at h
  rw [if_neg c] at h
  intro i j hi hj r hr hr2
  obtain ⟨m, hm, he⟩ := (mem_getD _ _).1 hr
  exact chk_disj s _ _ (by omega) h i (by omega) hi ⟨j, hj, m, hm, by rw [he]; exact hr2⟩
end Go.Proofs.YtohnahbjmcelfaaDoor.V
