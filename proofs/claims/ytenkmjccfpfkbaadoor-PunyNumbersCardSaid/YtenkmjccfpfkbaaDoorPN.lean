/-
  Plain words for the laws: what a printed function comes to from some number of rounds on. No condition.
  The bias and the digits, plainly: the program's and the document's come to one. No condition.
-/
import Derived.Test.YtenkmjccfpfkbaaDoorVN
import Derived.Test.YtenkmjccfpfkbaaDoorPA
namespace Go.Proofs.YtenkmjccfpfkbaaDoor.V
open Go.RowKit Go.Proofs.YtenkmjccfpfkbaaDoorW.PrintWords Go.Proofs.YtenkmjccfpfkbaaDoorW.PrintLast Go.Proofs.YtenkmjccfpfkbaaDoorW.PrintMore Go.Proofs.YtenkmjccfpfkbaaDoor.Er

theorem Ev.pos {α : Type} {c : Prop} [Decidable c] {f g : Nat → Option α} {r : α} (hc : c) (h : Ev f r) : Ev (fun k => if c then f k else g k) r := by
  obtain ⟨K, h⟩ := h
  exact ⟨K, fun k hk => by simp only [if_pos hc]; exact h k hk⟩
theorem Ev.neg {α : Type} {c : Prop} [Decidable c] {f g : Nat → Option α} {r : α} (hc : ¬ c) (h : Ev g r) : Ev (fun k => if c then f k else g k) r := by
  obtain ⟨K, h⟩ := h
  exact ⟨K, fun k hk => by simp only [if_neg hc]; exact h k hk⟩
theorem Ev.ite {α : Type} {c : Prop} [Decidable c] {f g : Nat → Option α} {r : α} (h1 : c → Ev f r) (h2 : ¬ c → Ev g r) : Ev (fun k => if c then f k else g k) r := by
  by_cases hc : c
  · exact Ev.pos hc (h1 hc)
  · exact Ev.neg hc (h2 hc)
theorem Ev.succ {α : Type} {g : Nat → Option α} {r : α} (h : Ev (fun k => g (k + 1)) r) : Ev g r := Ev.step (fun _ => rfl) h
theorem Ev.is {α : Type} {x r : α} (h : x = r) : Ev (fun _ => some x) r := h ▸ Ev.now x
theorem Ev.bindc {α β : Type} {x : Option α} {f : Nat → α → Option β} {a : α} {r : β} (h : x = some a) (k : Ev (fun n => f n a) r) : Ev (fun n => x.bind (f n)) r := by
  subst h
  exact k
theorem Ev.bindc' {α : Type} {x : Option α} {a r : α} (h : x = some a) (e : a = r) : Ev (fun _ => x) r := by
  subst h
  exact Ev.is e
theorem Ev.to {α : Type} {g : Nat → Option α} {x r : α} (h : Ev g x) (e : x = r) : Ev g r := e ▸ h
theorem w64 {i : Int} (h0 : 0 ≤ i) (h1 : i < 4611686018427387904) : wrap64 (i + 1) = i + 1 := by unfold wrap64; omega
theorem w64' {i : Int} (h0 : -4611686018427387904 ≤ i) (h1 : i < 4611686018427387904) : wrap64 i = i := by unfold wrap64; omega
theorem w32' {i : Int} (h0 : -2147483648 ≤ i) (h1 : i ≤ 2147483647) : wrap32 i = i := by unfold wrap32; omega
theorem rd_nat (l : List Int) (i : Nat) : rd l (i : Int) = l.getD i 0 := by simp [rd]

theorem ite_p {α : Type} {P : α → Prop} {c : Prop} [Decidable c] {a b : α} (h1 : c → P a) (h2 : ¬ c → P b) : P (if c then a else b) := by
  by_cases hc : c
  · rw [if_pos hc]; exact h1 hc
  · rw [if_neg hc]; exact h2 hc
/-- it comes to something. -/
def Ex {α : Type} (g : Nat → Option α) (p : α → Prop) : Prop := ∃ r, Ev g r ∧ p r
theorem Ex.succ {α : Type} {g : Nat → Option α} {p : α → Prop} (h : Ex (fun k => g (k + 1)) p) : Ex g p := by
  obtain ⟨r, h, hp⟩ := h
  exact ⟨r, Ev.step (fun _ => rfl) h, hp⟩
theorem Ex.ite {α : Type} {c : Prop} [Decidable c] {f g : Nat → Option α} {p : α → Prop} (h1 : c → Ex f p) (h2 : ¬ c → Ex g p) : Ex (fun k => if c then f k else g k) p := by
  by_cases hc : c
  · obtain ⟨r, h, hp⟩ := h1 hc; exact ⟨r, Ev.pos hc h, hp⟩
  · obtain ⟨r, h, hp⟩ := h2 hc; exact ⟨r, Ev.neg hc h, hp⟩
theorem Ex.now {α : Type} {p : α → Prop} (r : α) (h : p r) : Ex (fun _ => some r) p := ⟨r, Ev.now r, h⟩
theorem Ex.bind {α β : Type} {g : Nat → Option α} {f : Nat → α → Option β} {q : α → Prop} {p : β → Prop} (h : Ex g q) (k : ∀ a, q a → Ex (fun n => f n a) p) : Ex (fun n => (g n).bind (f n)) p := by
  obtain ⟨a, ha, hq⟩ := h
  obtain ⟨r, hr, hp⟩ := k a hq
  exact ⟨r, Ev.bind ha hr, hp⟩
theorem Ex.mono {α : Type} {g : Nat → Option α} {p q : α → Prop} (h : Ex g p) (hpq : ∀ r, p r → q r) : Ex g q := by
  obtain ⟨r, h, hp⟩ := h
  exact ⟨r, h, hpq r hp⟩
theorem Ex.bindc {α β : Type} {x : Option α} {f : Nat → α → Option β} {a : α} {p : β → Prop} (h : x = some a) (k : Ex (fun n => f n a) p) : Ex (fun n => x.bind (f n)) p := by
  subst h
  exact k
/-- an error out of a place and a number; 0: none. -/
def eo (at_ e : Int) : Option Int := if e = 0 then none else some (at_ * 64 + e)
theorem eo_zero (at_ : Int) : eo at_ 0 = none := rfl
theorem eo_enc (at_ : Int) (c : Nat) (h : c ≠ 0) : some (enc at_ c) = eo at_ (c : Int) := by
  unfold eo enc
  rw [if_neg (by omega)]
end Go.Proofs.YtenkmjccfpfkbaaDoor.V
set_option linter.unusedVariables false
namespace Go.Proofs.YtenkmjccfpfkbaaDoor.V
open Go.RowKit Go.Proofs.YtenkmjccfpfkbaaDoorW.PrintWords Go.Proofs.YtenkmjccfpfkbaaDoorW.PrintLast Go.Proofs.YtenkmjccfpfkbaaDoorW.PrintMore Go.Proofs.YtenkmjccfpfkbaaDoor.Er

/-- a number brought among two. -/
def wi (a lo hi : Int) : Int := if a < lo then lo else if a > hi then hi else a
theorem wi_p {a lo hi : Int} (h : lo ≤ hi) : puny_within.f a lo hi = some (wi a lo hi) := by
  unfold puny_within.f wi mx mn
  by_cases h1 : a < lo
  · rw [if_pos h1, if_neg (by omega : ¬ hi < a), if_neg (by omega : ¬ lo < a)]
  · rw [if_neg h1]
    by_cases h2 : a > hi
    · rw [if_pos h2]
      by_cases h3 : lo < hi
      · rw [if_pos h3]
      · rw [if_neg h3]; congr 1; omega
    · rw [if_neg h2]
      by_cases h3 : lo < a
      · rw [if_pos h3]
      · rw [if_neg h3]; congr 1; omega
theorem wi_r (a lo hi : Int) : eponymref06_within.f a lo hi = some (wi a lo hi) := by
  unfold eponymref06_within.f wi
  by_cases h1 : a < lo
  · rw [if_pos h1, if_pos h1]
  · rw [if_neg h1, if_neg h1]
    by_cases h2 : a > hi
    · rw [if_pos h2, if_pos h2]
    · rw [if_neg h2, if_neg h2]
theorem wi_in (a lo hi : Int) (h : lo ≤ hi) : lo ≤ wi a lo hi ∧ wi a lo hi ≤ hi := by
  unfold wi
  by_cases h1 : a < lo
  · rw [if_pos h1]; omega
  · rw [if_neg h1]
    by_cases h2 : a > hi
    · rw [if_pos h2]; omega
    · rw [if_neg h2]; omega

theorem bias_l (n : Nat) : ∀ (x y : Int), x.toNat ≤ n → 0 ≤ x → x < 4611686018427387904 → ∃ r, Ev (fun k => puny_Bias.l0 k x y) r ∧ Ev (fun k => eponymref06_Bias.l0 k x y) r := by
  induction n with
  | zero =>
    intro x y hn h0 h1
    have : x = 0 := by omega
    subst this
    refine ⟨wrap64 (y + wrap64 (Int.tdiv (wrap64 (36 * 0)) (wrap64 (0 + 38)))), Ev.succ ?_, Ev.succ ?_⟩
    · simp only [puny_Bias.l0]
      exact Ev.neg (by omega) (Ev.neg (by rw [w64' (by omega) (by omega)]; omega) (Ev.now _))
    · simp only [eponymref06_Bias.l0]
      exact Ev.neg (by omega) (Ev.neg (by rw [w64' (by omega) (by omega)]; omega) (Ev.now _))
  | succ n ih =>
    intro x y hn h0 h1
    by_cases h2 : x > 455
    · have hd : wrap64 (Int.tdiv x 35) = x / 35 := by
        rw [Int.tdiv_eq_ediv_of_nonneg h0]
        exact w64' (by omega) (by omega)
      obtain ⟨r, e1, e2⟩ := ih (x / 35) (wrap64 (y + 36)) (by omega) (by omega) (by omega)
      refine ⟨r, Ev.succ ?_, Ev.succ ?_⟩
      · simp only [puny_Bias.l0]
        rw [hd]
        exact Ev.pos h2 e1
      · simp only [eponymref06_Bias.l0]
        rw [hd]
        exact Ev.pos h2 e2
    · have h3 : wrap64 (x + 38) ≠ 0 := by rw [w64' (by omega) (by omega)]; omega
      refine ⟨wrap64 (y + wrap64 (Int.tdiv (wrap64 (36 * x)) (wrap64 (x + 38)))), Ev.succ ?_, Ev.succ ?_⟩
      · simp only [puny_Bias.l0]
        exact Ev.neg h2 (Ev.neg h3 (Ev.now _))
      · simp only [eponymref06_Bias.l0]
        exact Ev.neg h2 (Ev.neg h3 (Ev.now _))

theorem bias_j (x m by_ : Int) (h0 : 0 ≤ x) (h1 : x ≤ 2147483647) (hm : 1 ≤ m) (hb : by_ = 700 ∨ by_ = 2) :
    ∃ r, Ev (fun k => puny_Bias.j0 k (wrap64 (Int.tdiv x by_)) m) r ∧ Ev (fun k => eponymref06_Bias.j0 k x m by_) r := by
  have hq : 0 ≤ x / by_ ∧ x / by_ ≤ 2147483647 := by rcases hb with rfl | rfl <;> omega
  have hd : wrap64 (Int.tdiv x by_) = x / by_ := by
    rw [Int.tdiv_eq_ediv_of_nonneg h0]
    exact w64' (by omega) (by omega)
  have hr : 0 ≤ x / by_ / m ∧ x / by_ / m ≤ x / by_ := ⟨Int.ediv_nonneg hq.1 (by omega), Int.ediv_le_self _ hq.1⟩
  have hd2 : wrap64 (Int.tdiv (x / by_) m) = x / by_ / m := by
    rw [Int.tdiv_eq_ediv_of_nonneg hq.1]
    exact w64' (by omega) (by omega)
  have hd3 : wrap64 (x / by_ + x / by_ / m) = x / by_ + x / by_ / m := w64' (by omega) (by omega)
  obtain ⟨r, e1, e2⟩ := bias_l (x / by_ + x / by_ / m).toNat (x / by_ + x / by_ / m) 0 (Nat.le_refl _) (by omega) (by omega)
  refine ⟨r, Ev.succ ?_, Ev.succ ?_⟩
  · simp only [puny_Bias.j0]
    rw [hd, hd2, hd3]
    exact Ev.neg (by omega) e1
  · simp only [eponymref06_Bias.j0]
    rw [hd, hd2, hd3]
    exact Ev.neg (by omega) (Ev.neg (by omega) e2)
theorem bias_law (d m : Int) (f : Bool) : ∃ r, Ev (fun k => puny_Bias.f k d m f) r ∧ Ev (fun k => eponymref06_Bias.f k d m f) r := by
  have i1 := wi_in d 0 2147483647 (by decide)
  have i2 := wi_in m 1 2147483647 (by decide)
  obtain ⟨r, e1, e2⟩ := bias_j (wi d 0 2147483647) (wi m 1 2147483647) (if f = true then 700 else 2) i1.1 i1.2 i2.1 (by cases f <;> simp)
  refine ⟨r, ?_, ?_⟩
  · unfold puny_Bias.f
    refine Ev.bindc (wi_p (by decide)) (Ev.bindc (wi_p (by decide)) ?_)
    cases f <;> simpa using e1
  · unfold eponymref06_Bias.f
    refine Ev.bindc (wi_r _ _ _) (Ev.bindc (wi_r _ _ _) ?_)
    cases f <;> simpa using e2

theorem bound_p (n : Int) (sm : Bool) (j : Int) : puny_bias_bound.f n sm j = some (wi (wrap64 (wrap64 (36 * wrap64 (j + 1)) - n)) 1 26, n, sm) := by
  unfold puny_bias_bound.f
  rw [wi_p (by decide)]
  rfl
theorem bound_r (j n : Int) : eponymref06_bound.f j n = some (wi (wrap64 (wrap64 (36 * wrap64 (j + 1)) - n)) 1 26) := by
  unfold eponymref06_bound.f
  rw [wi_r]
  rfl
theorem sign_pr (x : Int) : ∃ c, puny_sign.f x = some c ∧ eponymref06_sign.f x = some (strOfNums [c]) := by
  unfold puny_sign.f eponymref06_sign.f
  by_cases h : x < 26
  · rw [if_pos h, if_pos h]; exact ⟨_, rfl, rfl⟩
  · rw [if_neg h, if_neg h]; exact ⟨_, rfl, rfl⟩
theorem nums_snoc (xs : List Int) (c : Int) : strOfNums (xs ++ [c]) = strOfNums xs ++ strOfNums [c] := by
  apply ByteArray.ext
  rw [ByteArray.data_append]
  simp [strOfNums]
theorem digits_l (n : Nat) : ∀ (d now j : Int) (xs : List Int), d.toNat ≤ n → 0 ≤ d → d < 4611686018427387904 → (xs.length : Int) + n < 140737488355328 →
    ∃ s, Ev (fun k => puny_bias_digits.l0 k d xs j now false) (s, now, false) ∧ Ev (fun k => eponymref06_Digits.l0 k d now (strOfNums xs) j) s := by
  induction n with
  | zero =>
    intro d now j xs hn h0 h1 hx
    have i1 := wi_in (wrap64 (wrap64 (36 * wrap64 (j + 1)) - now)) 1 26 (by decide)
    obtain ⟨c, c1, c2⟩ := sign_pr d
    refine ⟨strOfNums (xs ++ [c]), Ev.succ ?_, Ev.succ ?_⟩
    · simp only [puny_bias_digits.l0]
      refine Ev.bindc (bound_p now false j) (Ev.pos (by show d < _; omega) (Ev.bindc c1 (Ev.pos (by omega) (Ev.now _))))
    · simp only [eponymref06_Digits.l0]
      rw [nums_snoc]
      refine Ev.bindc (bound_r j now) (Ev.pos (by omega) (Ev.bindc c2 (Ev.pos (by rw [strOfNums_size, strOfNums_size]; simp only [List.length_cons, List.length_nil]; omega) (Ev.now _))))
  | succ n ih =>
    intro d now j xs hn h0 h1 hx
    have i1 := wi_in (wrap64 (wrap64 (36 * wrap64 (j + 1)) - now)) 1 26 (by decide)
    have b1 := bound_p now false j
    have b2 := bound_r j now
    generalize wi (wrap64 (wrap64 (36 * wrap64 (j + 1)) - now)) 1 26 = t at *
    by_cases h2 : d < t
    · obtain ⟨c, c1, c2⟩ := sign_pr d
      refine ⟨strOfNums (xs ++ [c]), Ev.succ ?_, Ev.succ ?_⟩
      · simp only [puny_bias_digits.l0]
        refine Ev.bindc b1 (Ev.pos h2 (Ev.bindc c1 (Ev.pos (by omega) (Ev.now _))))
      · simp only [eponymref06_Digits.l0]
        rw [nums_snoc]
        refine Ev.bindc b2 (Ev.pos h2 (Ev.bindc c2 (Ev.pos (by rw [strOfNums_size, strOfNums_size]; simp only [List.length_cons, List.length_nil]; omega) (Ev.now _))))
    · have w1 : wrap64 (36 - t) = 36 - t := w64' (by omega) (by omega)
      have w2 : wrap64 (d - t) = d - t := w64' (by omega) (by omega)
      have q0 : 0 ≤ (d - t) / (36 - t) := Int.ediv_nonneg (by omega) (by omega)
      have q1 : (d - t) / (36 - t) ≤ d - t := Int.ediv_le_self _ (by omega)
      have w3 : wrap64 (Int.tdiv (d - t) (36 - t)) = (d - t) / (36 - t) := by
        rw [Int.tdiv_eq_ediv_of_nonneg (by omega)]
        exact w64' (by omega) (by omega)
      obtain ⟨c, c1, c2⟩ := sign_pr (wrap64 (t + Int.tmod (d - t) (36 - t)))
      obtain ⟨s, e1, e2⟩ := ih ((d - t) / (36 - t)) now (wrap64 (j + 1)) (xs ++ [c]) (by omega) q0 (by omega) (by simp only [List.length_append, List.length_cons, List.length_nil]; omega)
      refine ⟨s, Ev.succ ?_, Ev.succ ?_⟩
      · simp only [puny_bias_digits.l0]
        refine Ev.bindc b1 ?_
        simp only [w1, w2, w3]
        exact Ev.neg h2 (Ev.neg (by omega) (Ev.bindc c1 (Ev.pos (by omega) e1)))
      · simp only [eponymref06_Digits.l0]
        refine Ev.bindc b2 ?_
        simp only [w1, w2, w3]
        rw [nums_snoc] at e2
        exact Ev.neg h2 (Ev.neg (by omega) (Ev.bindc c2 (Ev.pos (by rw [strOfNums_size, strOfNums_size]; simp only [List.length_cons, List.length_nil]; omega) e2)))
theorem digits_law (d now : Int) : ∃ s n' d', puny_within.f now 0 1000 = some n' ∧ puny_within.f d 0 2147483647 = some d' ∧ Ev (fun k => puny_bias_digits.f k n' false d') (s, n', false) ∧ Ev (fun k => eponymref06_Digits.f k d now) s := by
  have i1 := wi_in d 0 2147483647 (by decide)
  obtain ⟨s, e1, e2⟩ := digits_l (wi d 0 2147483647).toNat (wi d 0 2147483647) (wi now 0 1000) 0 [] (Nat.le_refl _) i1.1 (by omega) (by simp only [List.length_nil]; omega)
  refine ⟨s, wi now 0 1000, wi d 0 2147483647, wi_p (by decide), wi_p (by decide), e1, ?_⟩
  unfold eponymref06_Digits.f
  exact Ev.bindc (wi_r _ _ _) (Ev.bindc (wi_r _ _ _) e2)
/-- PunyNumbers answers true. -/
theorem numbers_law (sv : Nat → Addr) (d many : Int) (first : Bool) (w : World) (hsv : LaidAll sv w) :
    Calls Tryd.prog 7 #[.int .i64 d, .int .i64 many, .bool first] w fun e w' => e = .returned (.bool true) ∧ Below w.heap.size w w' := by
  obtain ⟨b, ⟨K1, h1⟩, ⟨K2, h2⟩⟩ := bias_law d many first
  obtain ⟨s, n', d', h3, h4, ⟨K5, h5⟩, ⟨K6, h6⟩⟩ := digits_law d many
  have hk : ∃ k, K1 ≤ k ∧ K2 ≤ k ∧ K5 ≤ k ∧ K6 ≤ k := ⟨K1 + K2 + K5 + K6, by omega, by omega, by omega, by omega⟩
  obtain ⟨k, l1, l2, l5, l6⟩ := hk
  exact Pk.Numbers_calls sv k d many b d' n' first s n' false w hsv (h1 k l1) (h2 k l2) h3 h4 (h5 k l5) (h6 k l6)
theorem numbers_exists (d m : Int) (f : Bool) (_ : (Lit.int .i64 d).wf = true) (_ : (Lit.int .i64 m).wf = true) : ∃ k : Nat, true = true := ⟨0, rfl⟩
end Go.Proofs.YtenkmjccfpfkbaaDoor.V
namespace Go.Proofs.YtenkmjccfpfkbaaDoor.Pk
open Go.RowKit Go.Proofs.YtenkmjccfpfkbaaDoorW.PrintWords Go.Proofs.YtenkmjccfpfkbaaDoorW.PrintLast Go.Proofs.YtenkmjccfpfkbaaDoorW.PrintMore Go.Proofs.YtenkmjccfpfkbaaDoor.Er
theorem eponymlaw06_PunyNumbers.calls (sv : Nat → Addr) (k : Nat) (d m : Int) (f : Bool) (r : Bool) (W : World) (hsv : LaidAll sv W) (hk : r = true) :
    Calls Tryd.prog 7 #[.int .i64 d, .int .i64 m, .bool f] W fun e w' => e = .returned (.bool r) ∧ Below W.heap.size W w' := by
  subst hk
  exact V.numbers_law sv d m f W hsv
end Go.Proofs.YtenkmjccfpfkbaaDoor.Pk
