/-
  The plain law of variants that are alike: rows rise, and have one key. No condition beside sizes.
  The plain law of variants that are alike, second part: the law itself. No condition beside sizes.
-/
import Derived.Test.YtohnahbjmcelfaaDoorAC
namespace Go.Proofs.YtohnahbjmcelfaaDoor.V
set_option linter.unusedVariables false
open Go.RowKit Go.Proofs.YtohnahbjmcelfaaDoorW.PrintWords Go.Proofs.YtohnahbjmcelfaaDoorW.PrintLast Go.Proofs.YtohnahbjmcelfaaDoorW.PrintMore Go.Proofs.YtohnahbjmcelfaaDoor.Er
open Classical
open VarPlain (setOf wheel prod wl from_ dig row)

/-! ### sets that share nothing -/
theorem setOf_cases (r : Int) : ∀ s : List (List Int), (∃ j, j < s.length ∧ r ∈ s.getD j [] ∧ setOf s r = s.getD j []) ∨ (setOf s r = [] ∧ ∀ j, j < s.length → r ∉ s.getD j [])
  | [] => .inr ⟨rfl, fun j hj => by simp at hj⟩
  | x :: s => by
    by_cases c : r ∈ x
    · exact .inl ⟨0, by simp, by simpa using c, by simp [setOf, c]⟩
    · rcases setOf_cases r s with ⟨j, h1, h2, h3⟩ | ⟨h1, h2⟩
      · exact .inl ⟨j + 1, by simpa using h1, by simpa using h2, by simpa [setOf, c] using h3⟩
      · refine .inr ⟨by simpa [setOf, c] using h1, fun j hj => ?_⟩
        cases j with
        | zero => simpa using c
        | succ j => simpa using h2 j (by simpa using hj)
theorem setOf_of {s : List (List Int)} (hD : Disj s) {j : Nat} (hj : j < s.length) {r : Int} (hr : r ∈ s.getD j []) : setOf s r = s.getD j [] := by
  rcases setOf_cases r s with ⟨j2, h1, h2, h3⟩ | ⟨h1, h2⟩
  · rcases Nat.lt_trichotomy j j2 with h | h | h
    · exact absurd hr (hD j2 j h1 h r h2)
    · rw [h]; exact h3
    · exact absurd h2 (hD j j2 hj h r hr)
  · exact absurd hr (h2 j hj)
theorem setOf_mem {s : List (List Int)} (hD : Disj s) {r y : Int} (hy : y ∈ setOf s r) : setOf s y = setOf s r := by
  rcases setOf_cases r s with ⟨j, h1, h2, h3⟩ | ⟨h1, h2⟩
  · rw [h3] at hy ⊢
    exact setOf_of hD h1 hy
  · rw [h1] at hy; simp at hy
theorem setOf_self {s : List (List Int)} {r : Int} (h : setOf s r ≠ []) : r ∈ setOf s r := by
  rcases setOf_cases r s with ⟨j, h1, h2, h3⟩ | ⟨h1, h2⟩
  · rw [h3]; exact h2
  · exact absurd h1 h
theorem wheel_set {s : List (List Int)} (hD : Disj s) {r y : Int} (hy : y ∈ wheel s r) : setOf s y = setOf s r := by
  unfold wheel at hy
  by_cases c : setOf s r = []
  · rw [if_pos c] at hy
    rw [List.mem_singleton.1 hy]
  · rw [if_neg c] at hy
    exact setOf_mem hD hy
theorem wheel_key {s : List (List Int)} (hD : Disj s) {r y : Int} (hy : y ∈ wheel s r) : keyOf s y = keyOf s r := by
  have h := wheel_set hD hy
  unfold keyOf
  rw [h]
  unfold wheel at hy
  by_cases c : setOf s r = []
  · rw [if_pos c] at hy
    rw [if_pos c, if_pos c, List.mem_singleton.1 hy]
  · rw [if_neg c, if_neg c]
theorem getD_mem {l : List Int} {j : Nat} (h : j < l.length) : l.getD j 0 ∈ l := (mem_getD l _).2 ⟨j, h, rfl⟩
/-- whose key is the same is of the wheel. -/
theorem key_wheel {s : List (List Int)} (hD : Disj s) {r y : Int} (h : keyOf s y = keyOf s r) : y ∈ wheel s r := by
  have ne : ∀ x : Int, setOf s x ≠ [] → keyOf s x ∈ setOf s x := fun x hx => by
    unfold keyOf
    rw [if_neg hx]
    exact getD_mem (List.length_pos_iff.2 hx)
  unfold wheel
  by_cases cr : setOf s r = []
  · rw [if_pos cr]
    have e : keyOf s r = r := by unfold keyOf; rw [if_pos cr]
    rw [e] at h
    by_cases cy : setOf s y = []
    · have e2 : keyOf s y = y := by unfold keyOf; rw [if_pos cy]
      rw [← e2, h]; exact List.mem_singleton.2 rfl
    · have := ne y cy
      rw [h] at this
      have := setOf_mem hD this
      rw [cr] at this
      exact absurd this.symm cy
  · rw [if_neg cr]
    have hr := ne r cr
    rw [← h] at hr
    have e3 := setOf_mem hD hr
    by_cases cy : setOf s y = []
    · have e2 : keyOf s y = y := by unfold keyOf; rw [if_pos cy]
      rw [e2] at hr; exact hr
    · have hy := ne y cy
      have e4 := setOf_mem hD hy
      rw [← e3, e4]
      exact setOf_self cy
/-- place by place of the wheels. -/
def Of (s : List (List Int)) (x l : List Int) : Prop := x.length = l.length ∧ ∀ j, j < l.length → x.getD j 0 ∈ wheel s (l.getD j 0)
theorem Of.cons {s : List (List Int)} {y r : Int} {x l : List Int} (h : Of s (y :: x) (r :: l)) : y ∈ wheel s r ∧ Of s x l :=
  ⟨by simpa using h.2 0 (by simp), by simpa using h.1, fun j hj => by simpa using h.2 (j + 1) (by simpa using hj)⟩
theorem of_keys {s : List (List Int)} (hD : Disj s) : ∀ {x l : List Int}, Of s x l → keys s x = keys s l
  | [], [], _ => rfl
  | [], _ :: _, h => by have := h.1; simp at this
  | _ :: _, [], h => by have := h.1; simp at this
  | y :: x, r :: l, h => by
    have h2 := h.cons
    have ih := of_keys hD h2.2
    unfold keys at ih ⊢
    rw [List.map_cons, List.map_cons, ih, wheel_key hD h2.1]
theorem of_cnt {s : List (List Int)} (hD : Disj s) : ∀ {x l : List Int} (n : Int), Of s x l → cntOf s n x = cntOf s n l
  | [], [], _, _ => rfl
  | [], _ :: _, _, h => by have := h.1; simp at this
  | _ :: _, [], _, h => by have := h.1; simp at this
  | y :: x, r :: l, n, h => by
    have h2 := h.cons
    have e : cnt s n y = cnt s n r := by unfold cnt; rw [wheel_set hD h2.1]
    show cntOf s (cnt s n y) x = cntOf s (cnt s n r) l
    rw [e]
    exact of_cnt hD _ h2.2
theorem keys_of {s : List (List Int)} (hD : Disj s) : ∀ {x l : List Int}, keys s x = keys s l → Of s x l
  | [], [], _ => ⟨rfl, fun j hj => by simp at hj⟩
  | [], _ :: _, h => by simp [keys] at h
  | _ :: _, [], h => by simp [keys] at h
  | y :: x, r :: l, h => by
    simp only [keys, List.map_cons, List.cons.injEq] at h
    have ih := keys_of hD (x := x) (l := l) h.2
    refine ⟨by have := ih.1; simp [this], fun j hj => ?_⟩
    cases j with
    | zero => simpa using key_wheel hD h.1
    | succ j => simpa using ih.2 j (by simpa using hj)

/-! ### rows -/
theorem wheels_cons (s : List (List Int)) (r : Int) (l : List Int) : wheels s (r :: l) = wheel s r :: wheels s l := rfl
theorem row_of (s : List (List Int)) (l : List Int) (i : Nat) : Of s (row (wheels s l) i) l := by
  refine ⟨by rw [VarPlain.row_length, wheels_length], fun j hj => ?_⟩
  rw [VarPlain.row_at _ _ _ (by rw [wheels_length]; exact hj)]
  have h := VarPlain.dig_lt (wheels s l) (wheels_wl s l) i j (by rw [wheels_length]; exact hj)
  unfold wl at h
  rw [wheels_at s l j hj] at h ⊢
  exact getD_mem h
theorem getD_cons_succ {α : Type} (x : α) (l : List α) (j : Nat) (d : α) : (x :: l).getD (j + 1) d = l.getD j d := by simp
theorem dig_zero (x : List Int) (ws : List (List Int)) (d k : Nat) (hk : k < prod ws) (hd : d < x.length) : dig (x :: ws) (d * prod ws + k) 0 = d := by
  unfold dig from_ wl
  simp only [List.drop_succ_cons, List.drop_zero, List.getD_cons_zero]
  rw [Nat.mul_comm, Nat.mul_add_div (by omega), Nat.div_eq_of_lt hk, Nat.add_zero, Nat.mod_eq_of_lt hd]
theorem dig_succ (x : List Int) (ws : List (List Int)) (hp : ∀ j, j < ws.length → 0 < wl ws j) (d k j : Nat) (hj : j < ws.length) : dig (x :: ws) (d * prod ws + k) (j + 1) = dig ws k j := by
  have e1 : from_ (x :: ws) (j + 1 + 1) = from_ ws (j + 1) := by unfold from_; rw [List.drop_succ_cons]
  have e2 : wl (x :: ws) (j + 1) = wl ws j := by unfold wl; rw [getD_cons_succ]
  unfold dig
  rw [e1, e2]
  have h0 : from_ ws 0 = prod ws := by simp [from_]
  obtain ⟨q, hq⟩ := VarPlain.from_dvd ws 0 j (Nat.zero_le _)
  rw [h0, VarPlain.from_step ws j hj] at hq
  have hF := VarPlain.from_pos ws hp (j + 1)
  have e3 : d * prod ws + k = from_ ws (j + 1) * (wl ws j * (q * d)) + k := by
    rw [hq, Nat.mul_comm d, Nat.mul_comm (wl ws j) (from_ ws (j + 1)), Nat.mul_assoc, Nat.mul_assoc]
  rw [e3, Nat.mul_add_div hF, Nat.mul_add_mod]
theorem row_cons (x : List Int) (ws : List (List Int)) (hp : ∀ j, j < ws.length → 0 < wl ws j) (d k : Nat) (hk : k < prod ws) (hd : d < x.length) : row (x :: ws) (d * prod ws + k) = x.getD d 0 :: row ws k := by
  unfold row
  rw [List.length_cons, List.range_succ_eq_map, List.map_cons, List.map_map]
  congr 1
  · rw [dig_zero x ws d k hk hd]; simp
  · apply List.map_congr_left
    intro j hj
    have hj' := List.mem_range.1 hj
    show ((x :: ws).getD (j + 1) []).getD (dig (x :: ws) (d * prod ws + k) (j + 1)) 0 = _
    rw [dig_succ x ws hp d k j hj', getD_cons_succ]
/-- whatever is of the wheels is one of the rows. -/
theorem of_row (s : List (List Int)) : ∀ {m l : List Int}, Of s m l → ∃ i, i < prod (wheels s l) ∧ row (wheels s l) i = m
  | [], [], _ => ⟨0, by simp [wheels, prod], by simp [row, wheels]⟩
  | [], _ :: _, h => by have := h.1; simp at this
  | _ :: _, [], h => by have := h.1; simp at this
  | y :: m, r :: l, h => by
    have h2 := h.cons
    obtain ⟨k, hk, hr⟩ := of_row s h2.2
    obtain ⟨d, hd, he⟩ := (mem_getD _ _).1 h2.1
    refine ⟨d * prod (wheels s l) + k, ?_, ?_⟩
    · rw [wheels_cons]
      show _ < (wheel s r).length * prod (wheels s l)
      have : (d + 1) * prod (wheels s l) ≤ (wheel s r).length * prod (wheels s l) := Nat.mul_le_mul_right _ hd
      rw [Nat.add_mul] at this
      omega
    · rw [wheels_cons, row_cons _ _ (wheels_wl s l) d k hk hd, he, hr]
theorem row_zero (s : List (List Int)) (l : List Int) : row (wheels s l) 0 = keys s l := by
  refine List.ext_getElem (by rw [VarPlain.row_length, wheels_length, keys_length]) (fun j h1 h2 => ?_)
  rw [VarPlain.row_length, wheels_length] at h1
  have e1 : (row (wheels s l) 0)[j] = (row (wheels s l) 0).getD j 0 := by simp [VarPlain.row_length, wheels_length, h1]
  rw [e1, VarPlain.row_at _ _ _ (by rw [wheels_length]; exact h1), wheels_at s l j h1]
  have e2 : dig (wheels s l) 0 j = 0 := by unfold dig; rw [Nat.zero_div, Nat.zero_mod]
  rw [e2]
  have e3 : (keys s l)[j] = keyOf s (l.getD j 0) := by simp [keys, h1]
  rw [e3]
  unfold wheel keyOf
  by_cases c : setOf s (l.getD j 0) = []
  · rw [if_pos c, if_pos c]; rfl
  · rw [if_neg c, if_neg c]
/-- each row is above the one ahead of it. -/
theorem last_place (ws : List (List Int)) (hp : ∀ j, j < ws.length → 0 < wl ws j) (k : Nat) (hk : k + 1 < prod ws) : ∀ t, t ≤ ws.length → (∀ j, t ≤ j → j < ws.length → dig ws k j + 1 = wl ws j) →
    ∃ m, m < ws.length ∧ dig ws k m + 1 < wl ws m ∧ ∀ j, m + 1 ≤ j → j < ws.length → dig ws k j + 1 = wl ws j
  | 0, _, h => absurd (VarPlain.last_row ws hp k (by omega) (fun j hj => h j (Nat.zero_le _) hj)) (by omega)
  | t + 1, ht, h => by
    have hl := VarPlain.dig_lt ws hp k t (by omega)
    by_cases c : dig ws k t + 1 = wl ws t
    · refine last_place ws hp k hk t (by omega) (fun j h1 h2 => ?_)
      by_cases e : j = t
      · rw [e]; exact c
      · exact h j (by omega) h2
    · exact ⟨t, by omega, by omega, h⟩
theorem wheel_rises {s : List (List Int)} (hs : Fine s) (r : Int) : Rises (wheel s r) := by
  unfold wheel
  by_cases c : setOf s r = []
  · rw [if_pos c]; intro i hi; simp at hi
  · rw [if_neg c]
    rcases setOf_cases r s with ⟨j, h1, h2, h3⟩ | ⟨h1, h2⟩
    · rw [h3]; exact hs.rises j h1
    · exact absurd h1 c
theorem rows_rise {s : List (List Int)} (hs : Fine s) (l : List Int) (k : Nat) (hk : k + 1 < prod (wheels s l)) : ∃ m, m < l.length ∧ (∀ j, j < m → (row (wheels s l) (k + 1)).getD j 0 = (row (wheels s l) k).getD j 0) ∧ (row (wheels s l) k).getD m 0 < (row (wheels s l) (k + 1)).getD m 0 := by
  have hp := wheels_wl s l
  obtain ⟨m, h1, h2, h3⟩ := last_place (wheels s l) hp k hk _ (Nat.le_refl _) (fun j a b => by omega)
  have hm : m < l.length := by rw [wheels_length] at h1; exact h1
  refine ⟨m, hm, fun j hj => ?_, ?_⟩
  · rw [VarPlain.row_at _ _ _ (by omega), VarPlain.row_at _ _ _ (by omega), VarPlain.next_before _ hp k m j h3 h2 h1 hj]
  · rw [VarPlain.row_at _ _ _ h1, VarPlain.row_at _ _ _ h1, VarPlain.next_here _ hp k m h3 h2]
    unfold wl at h2
    rw [wheels_at s l m hm] at h2 ⊢
    exact wheel_rises hs _ _ h2
end Go.Proofs.YtohnahbjmcelfaaDoor.V
namespace Go.Proofs.YtohnahbjmcelfaaDoor.V
set_option linter.unusedVariables false
open Go.RowKit Go.Proofs.YtohnahbjmcelfaaDoorW.PrintWords Go.Proofs.YtohnahbjmcelfaaDoorW.PrintLast Go.Proofs.YtohnahbjmcelfaaDoorW.PrintMore Go.Proofs.YtohnahbjmcelfaaDoor.Er
open Classical
open VarPlain (setOf wheel prod wl from_ dig row)

theorem al_end (a : ByteArray) (s : List (List Int)) (hs : Fine s) (hD : Disj s) (l m : List Int) (hl : l.length ≤ 8) (hm : m.length ≤ 8) (x8 : Bool) (h8 : x8 = decide (∃ i, i < (firsts s l 50).length ∧ row (wheels s l) i = m)) (i : Nat) (hi : (firsts s l 50).length ≤ i) : Ev (fun k => eponymlaw19_VariantsAlike.l0 k l m (firsts s l 50) x8 (i : Int) a s) true := by
  refine Ev.succ ?_
  simp only [eponymlaw19_VariantsAlike.l0]
  refine Ev.neg (by omega) (Ev.bind (pcount_ev a s hs l (by omega)) (Ev.ite (fun _ => Ev.now _) (fun c => Ev.bind (psame_ev a s hs l m (by omega) (by omega)) (Ev.is ?_))))
  have hc := cntOf_prod s hs l 1 (by omega) (by omega)
  have hp := prod_wheels s l
  rw [hc] at c
  have hsmall : prod (wheels s l) ≤ 50 := by
    unfold mn at c
    by_cases c2 : (1073741824 : Int) < 1 * (prod (wheels s l) : Int)
    · rw [if_pos c2] at c; omega
    · rw [if_neg c2] at c; omega
  have hn : (firsts s l 50).length = prod (wheels s l) := by rw [firsts_length]; omega
  rw [h8, hn]
  have hiff : (∃ i, i < prod (wheels s l) ∧ row (wheels s l) i = m) ↔ keys s l = keys s m := by
    constructor
    · rintro ⟨i, h1, rfl⟩
      exact (of_keys hD (row_of s l i)).symm
    · intro h
      exact of_row s (keys_of hD h.symm)
  by_cases g : keys s l = keys s m
  · rw [decide_eq_true g, decide_eq_true (hiff.2 g)]; rfl
  · rw [decide_eq_false g, decide_eq_false (fun h => g (hiff.1 h))]; rfl
/-- behind a row: on to the next one. -/
theorem al_next (a : ByteArray) (s : List (List Int)) (hs : Fine s) (hD : Disj s) (l m : List Int) (hl : l.length ≤ 8) (hm : m.length ≤ 8) (x8 : Bool) (i : Nat) (hi : i < (firsts s l 50).length) (h8 : x8 = decide (∃ j, j < i ∧ row (wheels s l) j = m))
    (hnext : Ev (fun k => eponymlaw19_VariantsAlike.l0 k l m (firsts s l 50) (decide (∃ j, j < i + 1 ∧ row (wheels s l) j = m)) ((i + 1 : Nat) : Int) a s) true) :
    Ev (fun k => if x8 = true then eponymlaw19_VariantsAlike.l0 k l m (firsts s l 50) true (wrap64 ((i : Int) + 1)) a s else (eponymlaw01_Same.f k (rd_L1 (firsts s l 50) (i : Int)) m).bind fun t => eponymlaw19_VariantsAlike.l0 k l m (firsts s l 50) t (wrap64 ((i : Int) + 1)) a s) true := by
  have hn : (firsts s l 50).length ≤ 50 := by rw [firsts_length]; exact Nat.min_le_left _ _
  rw [w64 (by omega) (by omega), show (i : Int) + 1 = ((i + 1 : Nat) : Int) by omega, firsts_at s l 50 i hi]
  refine Ev.ite (fun c => ?_) (fun c => ?_)
  · rw [h8] at c
    obtain ⟨j, hj, he⟩ := of_decide_eq_true c
    rw [decide_eq_true ⟨j, by omega, he⟩] at hnext
    exact hnext
  · rw [h8] at c
    refine Ev.bind (same_ev _ _ (by rw [VarPlain.row_length, wheels_length]; omega)) ?_
    have e : decide (row (wheels s l) i = m) = decide (∃ j, j < i + 1 ∧ row (wheels s l) j = m) := by
      by_cases g : row (wheels s l) i = m
      · rw [decide_eq_true g, decide_eq_true ⟨i, by omega, g⟩]
      · rw [decide_eq_false g, decide_eq_false]
        rintro ⟨j, hj, he⟩
        by_cases e2 : j = i
        · rw [e2] at he; exact g he
        · exact c (decide_eq_true ⟨j, by omega, he⟩)
    rw [e]
    exact hnext
theorem al_l1 (a : ByteArray) (s : List (List Int)) (hs : Fine s) (hD : Disj s) (l m : List Int) (hl : l.length ≤ 8) (hm : m.length ≤ 8) (x8 : Bool) (i : Nat) (hi : i + 1 < (firsts s l 50).length) (h8 : x8 = decide (∃ j, j < i + 1 ∧ row (wheels s l) j = m))
    (hnext : Ev (fun k => eponymlaw19_VariantsAlike.l0 k l m (firsts s l 50) (decide (∃ j, j < i + 1 + 1 ∧ row (wheels s l) j = m)) ((i + 1 + 1 : Nat) : Int) a s) true)
    (p : Nat) (hp : p < l.length) (heq : ∀ j, j < p → (row (wheels s l) (i + 1)).getD j 0 = (row (wheels s l) i).getD j 0) (hlt : (row (wheels s l) i).getD p 0 < (row (wheels s l) (i + 1)).getD p 0) :
    ∀ (d q : Nat), q + d = p → Ev (fun k => eponymlaw19_VariantsAlike.l1 k l m (firsts s l 50) x8 ((i + 1 : Nat) : Int) (q : Int) a s) true := by
  have hn : (firsts s l 50).length ≤ 50 := by rw [firsts_length]; exact Nat.min_le_left _ _
  have e1 := firsts_at s l 50 (i + 1) hi
  have e2 := firsts_at s l 50 i (by omega)
  have hL1 : (row (wheels s l) (i + 1)).length = l.length := by rw [VarPlain.row_length, wheels_length]
  have hL2 : (row (wheels s l) i).length = l.length := by rw [VarPlain.row_length, wheels_length]
  intro d
  induction d with
  | zero =>
    intro q hq
    have hgo := al_next a s hs hD l m hl hm x8 (i + 1) hi h8 hnext
    refine Ev.succ ?_
    simp only [eponymlaw19_VariantsAlike.l1]
    rw [w64' (i := ((i + 1 : Nat) : Int) - 1) (by omega) (by omega), show ((i + 1 : Nat) : Int) - 1 = (i : Int) by omega, e1, e2, hL1, hL2, rd_nat, rd_nat, w64 (i := ((i + 1 : Nat) : Int)) (by omega) (by omega), w64 (i := (q : Int)) (by omega) (by omega)]
    rw [e1, w64 (i := ((i + 1 : Nat) : Int)) (by omega) (by omega)] at hgo
    obtain rfl : q = p := by omega
    refine Ev.pos (by omega) (Ev.pos (by omega) (Ev.pos (by omega) (Ev.pos (by omega) (Ev.pos (by omega) (Ev.pos (by omega) (Ev.pos (by omega) (Ev.pos (by omega) ?_)))))))
    exact Ev.neg (by omega) (Ev.neg (by omega) (Ev.neg (by omega) hgo))
  | succ d ih =>
    intro q hq
    refine Ev.succ ?_
    simp only [eponymlaw19_VariantsAlike.l1]
    rw [w64' (i := ((i + 1 : Nat) : Int) - 1) (by omega) (by omega), show ((i + 1 : Nat) : Int) - 1 = (i : Int) by omega, e1, e2, hL1, hL2, rd_nat, rd_nat, w64 (i := ((i + 1 : Nat) : Int)) (by omega) (by omega), w64 (i := (q : Int)) (by omega) (by omega)]
    refine Ev.pos (by omega) (Ev.pos (by omega) (Ev.pos (by omega) (Ev.pos (by omega) (Ev.pos (by omega) (Ev.pos (by omega) (Ev.pos (by omega) (Ev.pos (by omega) ?_)))))))
    exact Ev.pos (heq q (by omega)) (ih (q + 1) (by omega))
theorem al_j2 (a : ByteArray) (s : List (List Int)) (hs : Fine s) (hD : Disj s) (l m : List Int) (hl : l.length ≤ 8) (hm : m.length ≤ 8) (x8 : Bool) (i : Nat) (hi : i < (firsts s l 50).length) (h8 : x8 = decide (∃ j, j < i ∧ row (wheels s l) j = m))
    (hnext : Ev (fun k => eponymlaw19_VariantsAlike.l0 k l m (firsts s l 50) (decide (∃ j, j < i + 1 ∧ row (wheels s l) j = m)) ((i + 1 : Nat) : Int) a s) true) :
    Ev (fun k => eponymlaw19_VariantsAlike.j2 k l m (firsts s l 50) x8 (i : Int) false a s) true := by
  have hn : (firsts s l 50).length ≤ 50 := by rw [firsts_length]; exact Nat.min_le_left _ _
  refine Ev.succ ?_
  simp only [eponymlaw19_VariantsAlike.j2]
  refine Ev.neg (by simp) ?_
  by_cases c : 0 < i
  · obtain ⟨i, rfl⟩ : ∃ j, i = j + 1 := ⟨i - 1, by omega⟩
    have hlen := firsts_length s l 50
    obtain ⟨p, h1, h2, h3⟩ := rows_rise hs l i (by omega)
    exact Ev.pos (by omega) (al_l1 a s hs hD l m hl hm x8 i hi h8 hnext p h1 h2 h3 p 0 (by omega))
  · have hgo := al_next a s hs hD l m hl hm x8 i hi h8 hnext
    refine Ev.neg (by omega) ?_
    cases x8 with
    | true =>
      refine Ev.pos rfl ?_
      exact Ev.congr (fun k => by simp) hgo
    | false =>
      refine Ev.neg (by simp) (Ev.pos (by omega) (Ev.pos (by omega) ?_))
      exact Ev.congr (fun k => by simp) hgo
theorem al_l0 (a : ByteArray) (s : List (List Int)) (hs : Fine s) (hD : Disj s) (l m : List Int) (hl : l.length ≤ 8) (hm : m.length ≤ 8) : ∀ (d i : Nat), i + d = (firsts s l 50).length → Ev (fun k => eponymlaw19_VariantsAlike.l0 k l m (firsts s l 50) (decide (∃ j, j < i ∧ row (wheels s l) j = m)) (i : Int) a s) true
  | 0, i, hd => by
    obtain rfl : i = (firsts s l 50).length := by omega
    exact al_end a s hs hD l m hl hm _ rfl _ (Nat.le_refl _)
  | d + 1, i, hd => by
    have hnext := al_l0 a s hs hD l m hl hm d (i + 1) (by omega)
    have hn : (firsts s l 50).length ≤ 50 := by rw [firsts_length]; exact Nat.min_le_left _ _
    have hgo := al_j2 a s hs hD l m hl hm _ i (by omega) rfl hnext
    have hof := row_of s l i
    have hL : (row (wheels s l) i).length = l.length := by rw [VarPlain.row_length, wheels_length]
    refine Ev.succ ?_
    simp only [eponymlaw19_VariantsAlike.l0]
    rw [firsts_at s l 50 i (by omega)]
    refine Ev.pos (by omega) (Ev.pos (by omega) (Ev.bind (psame_ev a s hs _ l (by omega) (by omega)) (Ev.pos (decide_eq_true (of_keys hD hof)) ?_)))
    refine Ev.bind (pcount_ev a s hs _ (by omega)) (Ev.bind (pcount_ev a s hs l (by omega)) (Ev.pos (of_cnt hD 1 hof) ?_))
    refine Ev.ite (fun c => ?_) (fun c => hgo)
    obtain rfl : i = 0 := by omega
    refine Ev.bind (key_ev a s hs l (by omega)) (Ev.bind (same_ev _ _ (by omega)) ?_)
    rw [decide_eq_true (row_zero s l)]
    exact hgo
theorem alike_law (a : ByteArray) (s : List (List Int)) (l m : List Int) (hsz : s.length * 24 ≤ 140737488351232) : ∃ k, eponymlaw19_VariantsAlike.f k a s l m = some true := by
  refine Ev.rounds ?_
  unfold eponymlaw19_VariantsAlike.f
  have jt : Ev (fun k => eponymlaw19_VariantsAlike.j0 k l m true a s) true := by
    refine Ev.succ ?_
    simp only [eponymlaw19_VariantsAlike.j0]
    exact Ev.pos (by trivial) (Ev.now _)
  refine Ev.bind awake_ev (Ev.pos rfl ?_)
  obtain ⟨b, hb, hb2⟩ := great_ex a s (by omega)
  refine Ev.bind hb ?_
  cases b with
  | true => exact Ev.pos rfl jt
  | false =>
    obtain ⟨hs, ha2⟩ := hb2 rfl
    refine Ev.neg (by simp) (Ev.ite (fun _ => jt) (fun c1 => Ev.ite (fun _ => jt) (fun c2 => Ev.bind (pcheck_ev a s hs (by omega)) (Ev.ite (fun c3 => ?_) (fun _ => jt)))))
    have hz : (chkF a s).2 = 0 := by
      unfold eo at c3
      by_cases g : (chkF a s).2 = 0
      · exact g
      · rw [if_neg g] at c3; simp at c3
    have hf := chkF_fine a s hs hz
    refine Ev.succ ?_
    simp only [eponymlaw19_VariantsAlike.j0]
    refine Ev.neg (by simp) (Ev.bind (all_ev a s hf l (by omega) 50 (by omega)) ?_)
    have h := al_l0 a s hf (chkF_disj a s hz) l m (by omega) (by omega) (firsts s l 50).length 0 (by omega)
    simpa using h
theorem alike_lawL (a : ByteArray) (s : List (List Int)) (l m : List Int) (ha : a.size ≤ 140737488351232) (hsz : s.length * 24 ≤ 140737488351232) (hwf : ∀ x ∈ s, x.length ≤ maxLen ∧ ∀ n ∈ x, (Lit.int .i32 n).wf = true)
    (hl : l.length ≤ maxLen) (hlw : ∀ x ∈ l, (Lit.int .i32 x).wf = true) (hm : m.length ≤ maxLen) (hmw : ∀ x ∈ m, (Lit.int .i32 x).wf = true) : ∃ k, eponymlaw19_VariantsAlike.f k a s l m = some true := alike_law a s l m hsz
end Go.Proofs.YtohnahbjmcelfaaDoor.V
