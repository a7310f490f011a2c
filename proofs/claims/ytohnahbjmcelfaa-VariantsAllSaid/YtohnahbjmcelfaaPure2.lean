/- The plain laws of the variants, third part: sets that rise, and what is found in them. No condition beside sizes. -/
import Derived.Test.YtohnahbjmcelfaaPure1
namespace Go.Proofs.Ytohnahbjmcelfaa.V
open Go.RowKit Go.Proofs.YtohnahbjmcelfaaW.PrintWords Go.Proofs.YtohnahbjmcelfaaW.PrintLast Go.Proofs.YtohnahbjmcelfaaW.PrintMore
open VarPlain (setOf)

/-- a set that rises. -/
def Rises (l : List Int) : Prop := ∀ i, i + 1 < l.length → l.getD i 0 < l.getD (i + 1) 0
theorem Rises.lt {l : List Int} (h : Rises l) (i j : Nat) (hij : i < j) (hj : j < l.length) : l.getD i 0 < l.getD j 0 := by
  obtain ⟨d, rfl⟩ : ∃ d, j = i + 1 + d := ⟨j - (i + 1), by omega⟩
  clear hij
  induction d with
  | zero => exact h i (by omega)
  | succ d ih => exact Int.lt_trans (ih (by omega)) (h (i + 1 + d) (by omega))
/-- a family's sets, as they are looked at. -/
structure Fine (s : List (List Int)) : Prop where
  few : s.length ≤ 20
  small : ∀ j, j < s.length → (s.getD j []).length ≤ 20
  two : ∀ j, j < s.length → 2 ≤ (s.getD j []).length
  rises : ∀ j, j < s.length → Rises (s.getD j [])

theorem half (a b : Int) (h0 : 0 ≤ a) (h1 : a ≤ b) (h2 : b < 1000000) : wrap64 ((IntKind.u64.wrap (wrap64 (a + b))) / 2) = (a + b) / 2 := by
  have e1 : wrap64 (a + b) = a + b := w64' (by omega) (by omega)
  have e2 : IntKind.u64.wrap (a + b) = a + b := IntWalk.u64_in _ (by omega)
  rw [e1, e2, w64' (by omega) (by omega)]
theorem mem_getD (l : List Int) (r : Int) : r ∈ l ↔ ∃ i, i < l.length ∧ l.getD i 0 = r := by
  constructor
  · intro h
    obtain ⟨i, hi, e⟩ := List.getElem_of_mem h
    exact ⟨i, hi, by rw [List.getD_eq_getElem?_getD, List.getElem?_eq_getElem hi]; exact e⟩
  · rintro ⟨i, hi, e⟩
    rw [List.getD_eq_getElem?_getD, List.getElem?_eq_getElem hi] at e
    rw [← e]
    exact List.getElem_mem hi

theorem less_some (a b : Int) : cmp_Less_rune.f a b = some (decide (a < b)) := by
  unfold cmp_Less_rune.f cmp_isNaN_rune.f
  simp

theorem bs_l0 (l : List Int) (r : Int) (hl : l.length < 1000) (hr : Rises l) (d : Nat) : ∀ lo hi : Nat, lo ≤ hi → hi ≤ l.length → hi - lo ≤ d → (∀ j, j < lo → l.getD j 0 < r) → (∀ j, hi ≤ j → j < l.length → r ≤ l.getD j 0) →
    Ex (fun k => slices_BinarySearch_rune_rune.l0 k l r (l.length : Int) (lo : Int) (hi : Int)) (fun p => p.2 = decide (r ∈ l)) := by
  induction d with
  | zero =>
    intro lo hi h1 h2 h3 h4 h5
    have e : lo = hi := by omega
    subst e
    refine Ex.succ ?_
    simp only [slices_BinarySearch_rune_rune.l0]
    refine Ex.ite (fun h => absurd h (by omega)) (fun _ => ?_)
    refine Ex.ite (fun hlt => ?_) (fun hge => ?_)
    · refine Ex.ite (fun _ => ?_) (fun h => absurd (by omega) h)
      refine Ex.ite (fun _ => ?_) (fun h => absurd hlt h)
      refine Ex.ite (fun he => Ex.now _ ?_) (fun hne => ?_)
      · rw [rd_nat] at he
        exact (decide_eq_true ((mem_getD l r).2 ⟨lo, by omega, he⟩)).symm
      · refine Ex.bindc (a := false) (by simp [slices_isNaN_rune.f]) ?_
        refine Ex.ite (fun h => absurd h (by simp)) (fun _ => Ex.now _ ?_)
        rw [rd_nat] at hne
        refine (decide_eq_false (fun hm => ?_)).symm
        obtain ⟨i, hi, e⟩ := (mem_getD l r).1 hm
        rcases Nat.lt_trichotomy i lo with h | h | h
        · have := h4 i h; omega
        · subst h; exact hne e
        · have := hr.lt lo i h hi
          have := h5 lo (Nat.le_refl _) (by omega)
          omega
    · refine Ex.now _ ?_
      refine (decide_eq_false (fun hm => ?_)).symm
      obtain ⟨i, hi, e⟩ := (mem_getD l r).1 hm
      have := h4 i (by omega)
      omega
  | succ d ih =>
    intro lo hi h1 h2 h3 h4 h5
    by_cases hlt : lo < hi
    · refine Ex.succ ?_
      simp only [slices_BinarySearch_rune_rune.l0]
      rw [half (lo : Int) (hi : Int) (by omega) (by omega) (by omega)]
      obtain ⟨m, hm⟩ : ∃ m : Nat, ((lo : Int) + hi) / 2 = (m : Int) := ⟨(lo + hi) / 2, by omega⟩
      rw [hm]
      refine Ex.ite (fun _ => ?_) (fun h => absurd (by omega) h)
      refine Ex.ite (fun _ => ?_) (fun h => absurd (by omega) h)
      refine Ex.ite (fun _ => ?_) (fun h => absurd (by omega) h)
      rw [rd_nat]
      refine Ex.bindc (less_some _ _) ?_
      refine Ex.ite (fun hc => ?_) (fun hc => ?_)
      · rw [w64 (by omega) (by omega)]
        have hc' : l.getD m 0 < r := of_decide_eq_true hc
        refine ih (m + 1) hi (by omega) h2 (by omega) (fun j hj => ?_) h5
        rcases Nat.lt_or_ge j m with h | h
        · exact Int.lt_trans (hr.lt j m h (by omega)) hc'
        · rw [show j = m by omega]; exact hc'
      · have hc' : ¬ l.getD m 0 < r := fun h => hc (decide_eq_true h)
        refine ih lo m (by omega) (by omega) (by omega) h4 (fun j h6 h7 => ?_)
        rcases Nat.lt_or_ge m j with h | h
        · have := hr.lt m j h h7; omega
        · rw [show j = m by omega]; omega
    · exact ih lo hi h1 h2 (by omega) h4 h5
theorem bs_ex (l : List Int) (r : Int) (hl : l.length < 1000) (hr : Rises l) : Ex (fun k => slices_BinarySearch_rune_rune.f k l r) (fun p => p.2 = decide (r ∈ l)) :=
  bs_l0 l r hl hr l.length 0 l.length (by omega) (by omega) (by omega) (fun j hj => by omega) (fun j h1 h2 => by omega)

theorem setOf_step (s : List (List Int)) (i : Nat) (hi : i < s.length) (r : Int) : setOf (s.drop i) r = if r ∈ s.getD i [] then s.getD i [] else setOf (s.drop (i + 1)) r := by
  rw [List.drop_eq_getElem_cons hi, List.getD_eq_getElem?_getD, List.getElem?_eq_getElem hi]
  rfl
theorem find_ev (a : ByteArray) (s : List (List Int)) (hs : Fine s) (r : Int) : Ev (fun k => variants_find.f k a s r) (setOf s r) := by
  have l0 : ∀ (d i : Nat), i + d = s.length → Ev (fun k => variants_find.l0 k r s (s.length : Int) (i : Int)) (setOf (s.drop i) r) := by
    intro d
    induction d with
    | zero =>
      intro i hi
      refine Ev.step (f := fun _ => some []) (fun k => by simp only [variants_find.l0]; rw [if_neg (by omega)]) ?_
      rw [List.drop_eq_nil_of_le (by omega)]
      exact Ev.now []
    | succ d ih =>
      intro i hi
      have hlt : i < s.length := by omega
      obtain ⟨p, hp, hp2⟩ := bs_ex (s.getD i []) r (by have := hs.small i hlt; omega) (hs.rises i hlt)
      refine Ev.step (f := fun k => (slices_BinarySearch_rune_rune.f k (s.getD i []) r).bind fun bt111 => (if bt111.2 = true then (some (s.getD i [])) else (variants_find.l0 k r s (s.length : Int) ((i + 1 : Nat) : Int)))) (fun k => by
        simp only [variants_find.l0]
        rw [if_pos (by omega), if_pos (by omega), if_pos (by omega), w64 (by omega) (by have := hs.few; omega), rdL_nat]; rfl) ?_
      refine Ev.bind hp ?_
      rw [setOf_step s i hlt, hp2]
      by_cases hm : r ∈ s.getD i []
      · rw [if_pos hm]
        exact Ev.pos (decide_eq_true hm) (Ev.now _)
      · rw [if_neg hm]
        exact Ev.neg (by rw [decide_eq_false hm]; simp) (ih (i + 1) (by omega))
  have := l0 s.length 0 (by omega)
  simpa [variants_find.f] using this
theorem refset_ev (a : ByteArray) (s : List (List Int)) (hs : Fine s) (r : Int) : Ev (fun k => eponymref19_Set.f k a s r) (setOf s r) := by
  have l0 : ∀ (d i : Nat), i + d = s.length → Ev (fun k => eponymref19_Set.l0 k r (i : Int) a s) (setOf (s.drop i) r) := by
    intro d
    induction d with
    | zero =>
      intro i hi
      refine Ev.step (f := fun _ => some []) (fun k => by simp only [eponymref19_Set.l0]; rw [if_neg (by omega)]) ?_
      rw [List.drop_eq_nil_of_le (by omega)]
      exact Ev.now []
    | succ d ih =>
      intro i hi
      have hlt : i < s.length := by omega
      refine Ev.step (f := fun k => (eponymref19_in.f k (s.getD i []) r).bind fun t => (if t = true then (some (s.getD i [])) else (eponymref19_Set.l0 k r ((i + 1 : Nat) : Int) a s))) (fun k => by
        simp only [eponymref19_Set.l0]
        rw [if_pos (by omega), if_pos (by omega), w64 (by omega) (by have := hs.few; omega), rdL_nat]; rfl) ?_
      refine Ev.bind (in_ev _ r (by have := hs.small i hlt; omega)) ?_
      rw [setOf_step s i hlt]
      by_cases hm : r ∈ s.getD i []
      · rw [if_pos hm]
        exact Ev.pos (decide_eq_true hm) (Ev.now _)
      · rw [if_neg hm]
        exact Ev.neg (by rw [decide_eq_false hm]; simp) (ih (i + 1) (by omega))
  have := l0 s.length 0 (by omega)
  simpa [eponymref19_Set.f] using this
theorem setOf_len (s : List (List Int)) (r : Int) (n : Nat) (h : ∀ x ∈ s, x.length ≤ n) : (setOf s r).length ≤ n := by
  induction s with
  | nil => simp [setOf]
  | cons x s ih =>
    unfold setOf
    split
    · exact h x (by simp)
    · exact ih (fun y hy => h y (by simp [hy]))
theorem Fine.mem {s : List (List Int)} (hs : Fine s) : ∀ x ∈ s, x.length ≤ 20 := fun x hx => by
  obtain ⟨i, hi, e⟩ := List.getElem_of_mem hx
  have := hs.small i hi
  rw [List.getD_eq_getElem?_getD, List.getElem?_eq_getElem hi] at this
  rw [← e]; exact this
theorem set_ev (a : ByteArray) (s : List (List Int)) (hs : Fine s) (r : Int) : Ev (fun k => variants_Set.f k a s r) (setOf s r) := by
  unfold variants_Set.f
  refine Ev.bind (find_ev a s hs r) ?_
  have := setOf_len s r 20 hs.mem
  rw [show slices_Clone_rune_rune.f (setOf s r) = some (setOf s r) from by unfold slices_Clone_rune_rune.f; rw [if_pos (by omega)]]
  exact Ev.now _
end Go.Proofs.Ytohnahbjmcelfaa.V
