/- The plain laws of the variants: what the printed functions come to, on lists of small size. No condition beside the sizes that each lemma names. -/
import Derived.Test.YtohnahbjmcelfaaVx13
import Derived.Test.YtohnahbjmcelfaaVx12
import Derived.Test.YtohnahbjmcelfaaVx11
import Derived.Test.YtohnahbjmcelfaaVx4
namespace Go.Proofs.Ytohnahbjmcelfaa.V
open Go.RowKit Go.Proofs.YtohnahbjmcelfaaW.PrintWords Go.Proofs.YtohnahbjmcelfaaW.PrintLast Go.Proofs.YtohnahbjmcelfaaW.PrintMore

theorem Ev.pos {α : Type} {c : Prop} [Decidable c] {f g : Nat → Option α} {r : α} (hc : c) (h : Ev f r) : Ev (fun k => if c then f k else g k) r := by
  obtain ⟨K, h⟩ := h
  exact ⟨K, fun k hk => by simp only [if_pos hc]; exact h k hk⟩
theorem Ev.neg {α : Type} {c : Prop} [Decidable c] {f g : Nat → Option α} {r : α} (hc : ¬ c) (h : Ev g r) : Ev (fun k => if c then f k else g k) r := by
  obtain ⟨K, h⟩ := h
  exact ⟨K, fun k hk => by simp only [if_neg hc]; exact h k hk⟩
theorem w64 {i : Int} (h0 : 0 ≤ i) (h1 : i < 4611686018427387904) : wrap64 (i + 1) = i + 1 := by unfold wrap64; omega

/-! ### rows -/
theorem rd_nat (l : List Int) (i : Nat) : rd l (i : Int) = l.getD i 0 := by simp [rd]
theorem rdL_nat (l : List (List Int)) (i : Nat) : rd_L1 l (i : Int) = l.getD i [] := by simp [rd_L1]

theorem drop_same (x y : List Int) (i : Nat) (hx : i < x.length) (hy : i < y.length) (he : x[i] = y[i]) : decide (x.drop i = y.drop i) = decide (x.drop (i + 1) = y.drop (i + 1)) := by
  rw [List.drop_eq_getElem_cons hx, List.drop_eq_getElem_cons hy, he]
  simp only [List.cons.injEq, true_and]
theorem drop_other (x y : List Int) (i : Nat) (hx : i < x.length) (hy : i < y.length) (he : ¬ x[i] = y[i]) : decide (x.drop i = y.drop i) = false := by
  refine decide_eq_false (fun h => ?_)
  rw [List.drop_eq_getElem_cons hx, List.drop_eq_getElem_cons hy] at h
  exact he (List.cons.inj h).1

theorem same_l0 (x y : List Int) (hl : x.length = y.length) (hs : x.length < 1000000) (d : Nat) : ∀ i : Nat, i + d = x.length → Ev (fun k => eponymlaw01_Same.l0 k x y (i : Int)) (decide (x.drop i = y.drop i)) := by
  induction d with
  | zero =>
    intro i hi
    refine Ev.step (f := fun _ => some true) (fun k => by simp only [eponymlaw01_Same.l0]; rw [if_neg (by omega)]) ?_
    have e1 : x.drop i = [] := List.drop_eq_nil_of_le (by omega)
    have e2 : y.drop i = [] := List.drop_eq_nil_of_le (by omega)
    rw [e1, e2]
    exact Ev.now true
  | succ d ih =>
    intro i hi
    have hx : i < x.length := by omega
    have hy : i < y.length := by omega
    have ex : rd x (i : Int) = x[i] := by rw [rd_nat, List.getD_eq_getElem?_getD, List.getElem?_eq_getElem hx]; rfl
    have ey : rd y (i : Int) = y[i] := by rw [rd_nat, List.getD_eq_getElem?_getD, List.getElem?_eq_getElem hy]; rfl
    by_cases he : x[i] = y[i]
    · refine Ev.step (f := fun k => eponymlaw01_Same.l0 k x y ((i + 1 : Nat) : Int)) (fun k => by
        simp only [eponymlaw01_Same.l0]
        rw [if_pos (by omega), if_pos (by omega), if_pos (by omega), if_pos (by rw [ex, ey]; exact he), w64 (by omega) (by omega)]; rfl) ?_
      rw [drop_same x y i hx hy he]
      exact ih (i + 1) (by omega)
    · refine Ev.step (f := fun _ => some false) (fun k => by
        simp only [eponymlaw01_Same.l0]
        rw [if_pos (by omega), if_pos (by omega), if_pos (by omega), if_neg (by rw [ex, ey]; exact he)]) ?_
      rw [drop_other x y i hx hy he]
      exact Ev.now false
theorem same_ev (x y : List Int) (hs : x.length < 1000000) : Ev (fun k => eponymlaw01_Same.f k x y) (decide (x = y)) := by
  unfold eponymlaw01_Same.f
  by_cases hl : x.length = y.length
  · refine Ev.pos (by omega) ?_
    simpa using same_l0 x y hl hs x.length 0 (by omega)
  · refine Ev.neg (by omega) ?_
    have : x ≠ y := fun e => hl (by rw [e])
    simpa [this] using Ev.now false

theorem equal_l0 (x y : List Int) (hl : x.length = y.length) (hs : x.length < 1000000) (d : Nat) : ∀ i : Nat, i + d = x.length → Ev (fun k => slices_Equal_rune_rune.l0 k x y (x.length : Int) (i : Int)) (decide (x.drop i = y.drop i)) := by
  induction d with
  | zero =>
    intro i hi
    refine Ev.step (f := fun _ => some true) (fun k => by simp only [slices_Equal_rune_rune.l0]; rw [if_neg (by omega)]) ?_
    have e1 : x.drop i = [] := List.drop_eq_nil_of_le (by omega)
    have e2 : y.drop i = [] := List.drop_eq_nil_of_le (by omega)
    rw [e1, e2]
    exact Ev.now true
  | succ d ih =>
    intro i hi
    have hx : i < x.length := by omega
    have hy : i < y.length := by omega
    have ex : rd x (i : Int) = x[i] := by rw [rd_nat, List.getD_eq_getElem?_getD, List.getElem?_eq_getElem hx]; rfl
    have ey : rd y (i : Int) = y[i] := by rw [rd_nat, List.getD_eq_getElem?_getD, List.getElem?_eq_getElem hy]; rfl
    by_cases he : x[i] = y[i]
    · refine Ev.step (f := fun k => slices_Equal_rune_rune.l0 k x y (x.length : Int) ((i + 1 : Nat) : Int)) (fun k => by
        simp only [slices_Equal_rune_rune.l0]
        rw [if_pos (by omega), if_pos (by omega), if_pos (by omega), if_pos (by omega), if_pos (by rw [ex, ey]; exact he), w64 (by omega) (by omega)]; rfl) ?_
      rw [drop_same x y i hx hy he]
      exact ih (i + 1) (by omega)
    · refine Ev.step (f := fun _ => some false) (fun k => by
        simp only [slices_Equal_rune_rune.l0]
        rw [if_pos (by omega), if_pos (by omega), if_pos (by omega), if_pos (by omega), if_neg (by rw [ex, ey]; exact he)]) ?_
      rw [drop_other x y i hx hy he]
      exact Ev.now false
theorem equal_ev (x y : List Int) (hs : x.length < 1000000) : Ev (fun k => slices_Equal_rune_rune.f k x y) (decide (x = y)) := by
  unfold slices_Equal_rune_rune.f
  by_cases hl : x.length = y.length
  · refine Ev.pos (by omega) ?_
    simpa using equal_l0 x y hl hs x.length 0 (by omega)
  · refine Ev.neg (by omega) ?_
    have : x ≠ y := fun e => hl (by rw [e])
    simpa [this] using Ev.now false

theorem in_l0 (l : List Int) (r : Int) (hs : l.length < 1000000) (d : Nat) : ∀ i : Nat, i + d = l.length → Ev (fun k => eponymref19_in.l0 k l r (i : Int)) (decide (r ∈ l.drop i)) := by
  induction d with
  | zero =>
    intro i hi
    refine Ev.step (f := fun _ => some false) (fun k => by simp only [eponymref19_in.l0]; rw [if_neg (by omega)]) ?_
    rw [List.drop_eq_nil_of_le (by omega)]
    simpa using Ev.now false
  | succ d ih =>
    intro i hi
    have hx : i < l.length := by omega
    have ex : rd l (i : Int) = l[i] := by rw [rd_nat, List.getD_eq_getElem?_getD, List.getElem?_eq_getElem hx]; rfl
    by_cases he : l[i] = r
    · refine Ev.step (f := fun _ => some true) (fun k => by
        simp only [eponymref19_in.l0]
        rw [if_pos (by omega), if_pos (by omega), if_pos (by rw [ex]; exact he)]) ?_
      have e2 : decide (r ∈ l.drop i) = true := decide_eq_true (by rw [List.drop_eq_getElem_cons hx, he]; exact List.mem_cons_self)
      rw [e2]
      exact Ev.now true
    · refine Ev.step (f := fun k => eponymref19_in.l0 k l r ((i + 1 : Nat) : Int)) (fun k => by
        simp only [eponymref19_in.l0]
        rw [if_pos (by omega), if_pos (by omega), if_neg (by rw [ex]; exact he), w64 (by omega) (by omega)]; rfl) ?_
      have hne : ¬ r = l[i] := fun e => he e.symm
      have e2 : decide (r ∈ l.drop i) = decide (r ∈ l.drop (i + 1)) := by
        rw [List.drop_eq_getElem_cons hx]; simp only [List.mem_cons, hne, false_or]
      rw [e2]
      exact ih (i + 1) (by omega)
theorem in_ev (l : List Int) (r : Int) (hs : l.length < 1000000) : Ev (fun k => eponymref19_in.f k l r) (decide (r ∈ l)) := by
  have := in_l0 l r hs l.length 0 (by omega)
  simpa [eponymref19_in.f] using this
end Go.Proofs.Ytohnahbjmcelfaa.V
