/-
  The plain law of the variants: rows counted like digits, as functions on lists of numbers. No condition.
-/
namespace Go.Proofs.VarPlain

/-- the set that has a rune, set by set; [] : none. -/
def setOf : List (List Int) → Int → List Int
  | [], _ => []
  | x :: xs, r => if r ∈ x then x else setOf xs r

/-- the wheel of a rune: its set, or itself alone. -/
def wheel (sets : List (List Int)) (r : Int) : List Int := if setOf sets r = [] then [r] else setOf sets r

def prod : List (List Int) → Nat
  | [] => 1
  | x :: ws => x.length * prod ws

def wl (ws : List (List Int)) (j : Nat) : Nat := (ws.getD j []).length
/-- how many rows the places from j on have. -/
def from_ (ws : List (List Int)) (j : Nat) : Nat := prod (ws.drop j)
/-- the digit of row k at place j. -/
def dig (ws : List (List Int)) (k j : Nat) : Nat := (k / from_ ws (j + 1)) % wl ws j
/-- row k. -/
def row (ws : List (List Int)) (k : Nat) : List Int := (List.range ws.length).map fun j => (ws.getD j []).getD (dig ws k j) 0

theorem from_end (ws : List (List Int)) (j : Nat) (h : ws.length ≤ j) : from_ ws j = 1 := by
  unfold from_; rw [List.drop_eq_nil_of_le h]; rfl

theorem from_step (ws : List (List Int)) (j : Nat) (h : j < ws.length) : from_ ws j = wl ws j * from_ ws (j + 1) := by
  unfold from_ wl
  rw [List.drop_eq_getElem_cons h]
  simp [prod, List.getD_eq_getElem?_getD, List.getElem?_eq_getElem h]

theorem from_pos (ws : List (List Int)) (h : ∀ j, j < ws.length → 0 < wl ws j) (j : Nat) : 0 < from_ ws j := by
  by_cases hj : ws.length ≤ j
  · rw [from_end _ _ hj]; omega
  · have hj' : j < ws.length := by omega
    rw [from_step _ _ hj']
    exact Nat.mul_pos (h j hj') (from_pos ws h (j + 1))
termination_by ws.length - j

theorem from_dvd (ws : List (List Int)) (m j : Nat) (h : m ≤ j) : from_ ws j ∣ from_ ws m := by
  by_cases hj : m = j
  · rw [hj]; exact Nat.dvd_refl _
  · by_cases hm : m < ws.length
    · rw [from_step _ _ hm]
      exact Nat.dvd_trans (from_dvd ws (m + 1) j (by omega)) (Nat.dvd_mul_left _ _)
    · rw [from_end ws m (by omega), from_end ws j (by omega)]; exact Nat.dvd_refl _
termination_by j - m

theorem dig_lt (ws : List (List Int)) (h : ∀ j, j < ws.length → 0 < wl ws j) (k j : Nat) (hj : j < ws.length) : dig ws k j < wl ws j :=
  Nat.mod_lt _ (h j hj)

theorem prod_pos' (ws : List (List Int)) (h : ∀ j, j < ws.length → 0 < wl ws j) : 0 < prod ws := by
  have := from_pos ws h 0
  simpa [from_] using this

/-- all digits from m on are the last ones. -/
theorem last_digits (ws : List (List Int)) (h : ∀ j, j < ws.length → 0 < wl ws j) (k m : Nat) (hm : ∀ j, m ≤ j → j < ws.length → dig ws k j + 1 = wl ws j) :
    k % from_ ws m + 1 = from_ ws m := by
  by_cases hj : m < ws.length
  · have ih := last_digits ws h k (m + 1) (fun j h1 h2 => hm j (by omega) h2)
    have hd := hm m (Nat.le_refl _) hj
    rw [from_step _ _ hj, Nat.mul_comm, Nat.mod_mul]
    unfold dig at hd
    generalize k / from_ ws (m + 1) % wl ws m = a at hd ⊢
    generalize k % from_ ws (m + 1) = b at ih ⊢
    rw [← hd, Nat.mul_add]
    omega
  · rw [from_end ws m (by omega)]; omega
termination_by ws.length - m

theorem succ_div (a n : Nat) (h : a % n + 1 = n) : (a + 1) / n = a / n + 1 := by
  have hn : 0 < n := by omega
  have e := Nat.div_add_mod a n
  have : a + 1 = n * (a / n + 1) := by rw [Nat.mul_add]; omega
  rw [this, Nat.mul_div_cancel_left _ hn]

theorem succ_div_same (a n : Nat) (h : a % n + 1 < n) : (a + 1) / n = a / n := by
  have hn : 0 < n := by omega
  have e := Nat.div_add_mod a n
  have : a + 1 = n * (a / n) + (a % n + 1) := by omega
  rw [this, Nat.mul_add_div hn, Nat.div_eq_of_lt h, Nat.add_zero]

theorem succ_mod_same (a n : Nat) (h : a % n + 1 < n) : (a + 1) % n = a % n + 1 := by
  have e := Nat.div_add_mod a n
  have : a + 1 = n * (a / n) + (a % n + 1) := by omega
  rw [this, Nat.mul_add_mod, Nat.mod_eq_of_lt h]

/-- THE NEXT ROW: behind the last digit that may be turned on all are zero. -/
theorem next_zero (ws : List (List Int)) (h : ∀ j, j < ws.length → 0 < wl ws j) (k m j : Nat) (hm : ∀ j, m ≤ j → j < ws.length → dig ws k j + 1 = wl ws j)
    (h1 : m ≤ j) (h2 : j < ws.length) : dig ws (k + 1) j = 0 := by
  have hl := last_digits ws h k j (fun i a b => hm i (by omega) b)
  have hs := succ_div k _ hl
  have e := Nat.div_add_mod k (from_ ws j)
  have hk : k + 1 = from_ ws j * (k / from_ ws j + 1) := by rw [Nat.mul_add]; omega
  unfold dig
  rw [hk, from_step _ _ h2, Nat.mul_comm (wl ws j), Nat.mul_assoc, Nat.mul_div_cancel_left _ (from_pos ws h (j + 1)), Nat.mul_mod_right]

theorem next_here (ws : List (List Int)) (h : ∀ j, j < ws.length → 0 < wl ws j) (k m : Nat) (hm : ∀ j, m + 1 ≤ j → j < ws.length → dig ws k j + 1 = wl ws j)
    (hi : dig ws k m + 1 < wl ws m) : dig ws (k + 1) m = dig ws k m + 1 := by
  have hl := last_digits ws h k (m + 1) hm
  have hs := succ_div k _ hl
  unfold dig at hi ⊢
  rw [hs, succ_mod_same _ _ hi]

theorem next_before (ws : List (List Int)) (h : ∀ j, j < ws.length → 0 < wl ws j) (k m j : Nat) (hm : ∀ j, m + 1 ≤ j → j < ws.length → dig ws k j + 1 = wl ws j)
    (hi : dig ws k m + 1 < wl ws m) (h2 : m < ws.length) (hj : j < m) : dig ws (k + 1) j = dig ws k j := by
  have hl := last_digits ws h k (m + 1) hm
  have hs := succ_div k _ hl
  have hd : (k + 1) / from_ ws m = k / from_ ws m := by
    unfold dig at hi
    rw [from_step _ _ h2, Nat.mul_comm, ← Nat.div_div_eq_div_mul, hs, ← Nat.div_div_eq_div_mul, succ_div_same _ _ hi]
  obtain ⟨c, hc⟩ := from_dvd ws (j + 1) m (by omega)
  unfold dig
  rw [hc, ← Nat.div_div_eq_div_mul, hd, ← Nat.div_div_eq_div_mul]

/-- THE LAST ROW: all digits are the last ones just at the last row. -/
theorem last_row (ws : List (List Int)) (h : ∀ j, j < ws.length → 0 < wl ws j) (k : Nat) (hk : k < prod ws) (hm : ∀ j, j < ws.length → dig ws k j + 1 = wl ws j) : k + 1 = prod ws := by
  have hl := last_digits ws h k 0 (fun j _ b => hm j b)
  have e : from_ ws 0 = prod ws := by simp [from_]
  rw [e] at hl
  rw [Nat.mod_eq_of_lt hk] at hl
  exact hl

theorem not_last_row (ws : List (List Int)) (h : ∀ j, j < ws.length → 0 < wl ws j) (k m : Nat) (hk : k < prod ws) (hm : m < ws.length) (hd : dig ws k m + 1 < wl ws m) : k + 1 < prod ws := by
  by_cases hlt : k + 1 < prod ws
  · exact hlt
  · exfalso
    have he : k + 1 = prod ws := by omega
    have e : from_ ws 0 = prod ws := by simp [from_]
    obtain ⟨c, hc⟩ := from_dvd ws 0 m (Nat.zero_le _)
    rw [e, ← he, from_step _ _ hm] at hc
    have hp := from_pos ws h (m + 1)
    unfold dig at hd
    have h1 : (k + 1) / from_ ws (m + 1) = wl ws m * c := by
      rw [hc, Nat.mul_comm (wl ws m), Nat.mul_assoc, Nat.mul_div_cancel_left _ hp]
    have h2 : (k + 1) % from_ ws (m + 1) = 0 := by
      rw [hc, Nat.mul_comm (wl ws m), Nat.mul_assoc, Nat.mul_mod_right]
    have h3 : k / from_ ws (m + 1) + 1 = wl ws m * c := by
      rw [← h1]
      have e1 := Nat.div_add_mod (k + 1) (from_ ws (m + 1))
      rw [h2, h1] at e1
      have e2 : k = from_ ws (m + 1) * (wl ws m * c - 1) + (from_ ws (m + 1) - 1) := by
        have hpos : 0 < wl ws m * c := by
          rcases Nat.eq_zero_or_pos (wl ws m * c) with h0 | h0
          · rw [h0] at e1; omega
          · exact h0
        rw [Nat.mul_sub]
        have : from_ ws (m + 1) * 1 ≤ from_ ws (m + 1) * (wl ws m * c) := Nat.mul_le_mul_left _ hpos
        omega
      have hpos : 0 < wl ws m * c := by
        rcases Nat.eq_zero_or_pos (wl ws m * c) with h0 | h0
        · rw [h0] at e1; omega
        · exact h0
      rw [h1]
      conv => lhs; rw [e2]
      rw [Nat.mul_add_div hp, Nat.div_eq_of_lt (by omega)]
      omega
    have h4 : (k / from_ ws (m + 1) + 1) % wl ws m = 0 := by rw [h3, Nat.mul_mod_right]
    rw [succ_mod_same _ _ hd] at h4
    omega

theorem row_length (ws : List (List Int)) (k : Nat) : (row ws k).length = ws.length := by simp [row]
theorem row_at (ws : List (List Int)) (k j : Nat) (h : j < ws.length) : (row ws k).getD j 0 = (ws.getD j []).getD (dig ws k j) 0 := by
  simp [row, List.getD_eq_getElem?_getD, h]

end Go.Proofs.VarPlain
