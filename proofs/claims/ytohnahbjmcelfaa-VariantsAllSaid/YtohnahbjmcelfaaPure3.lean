/- The plain laws of the variants, fourth part: what a right family is, keys and counts; the law on them. No condition beside sizes. -/
import Derived.Test.YtohnahbjmcelfaaPure2
namespace Go.Proofs.Ytohnahbjmcelfaa.V
open Go.RowKit Go.Proofs.YtohnahbjmcelfaaW.PrintWords Go.Proofs.YtohnahbjmcelfaaW.PrintLast Go.Proofs.YtohnahbjmcelfaaW.PrintMore
open VarPlain (setOf)

/-! ### Great, Right -/
/-- of few small sets. -/
structure Small (s : List (List Int)) : Prop where
  few : s.length ≤ 20
  small : ∀ j, j < s.length → (s.getD j []).length ≤ 20
theorem great_ex (a : ByteArray) (s : List (List Int)) (hs : s.length ≤ 35184372088832) : Ex (fun k => eponymlaw19_Great.f k a s) (fun b => b = false → Small s ∧ a.size ≤ 100) := by
  have l0 : ∀ (hf : s.length ≤ 20) (ha : a.size ≤ 100) (d i : Nat), i + d = s.length → (∀ j, j < i → (s.getD j []).length ≤ 20) → Ex (fun k => eponymlaw19_Great.l0 k (i : Int) a s) (fun b => b = false → Small s ∧ a.size ≤ 100) := by
    intro hf ha d
    induction d with
    | zero =>
      intro i hi h
      refine Ex.succ ?_
      simp only [eponymlaw19_Great.l0]
      exact Ex.ite (fun h => absurd h (by omega)) (fun _ => Ex.now _ (fun _ => ⟨⟨hf, fun j hj => h j (by omega)⟩, ha⟩))
    | succ d ih =>
      intro i hi h
      refine Ex.succ ?_
      simp only [eponymlaw19_Great.l0]
      refine Ex.ite (fun _ => ?_) (fun h => absurd (by omega) h)
      refine Ex.ite (fun _ => ?_) (fun h => absurd (by omega) h)
      rw [rdL_nat]
      refine Ex.ite (fun _ => Ex.now _ (fun h => by cases h)) (fun hc => ?_)
      rw [w64 (by omega) (by omega)]
      refine ih (i + 1) (by omega) (fun j hj => ?_)
      rcases Nat.lt_or_ge j i with h1 | h1
      · exact h j h1
      · rw [show j = i by omega]; omega
  unfold eponymlaw19_Great.f
  refine Ex.ite (fun _ => ?_) (fun hc => ?_)
  · refine Ex.succ ?_
    simp only [eponymlaw19_Great.j0]
    exact Ex.ite (fun _ => Ex.now _ (fun h => by cases h)) (fun h => absurd trivial h)
  · refine Ex.succ ?_
    simp only [eponymlaw19_Great.j0]
    refine Ex.ite (fun _ => Ex.now _ (fun h => by cases h)) (fun h => ?_)
    have ha : a.size ≤ 100 := by
      have : ¬ (a.size : Int) > 100 := fun h1 => h (decide_eq_true h1)
      omega
    exact l0 (by omega) ha s.length 0 (by omega) (fun j hj => by omega)

theorem rises_of (x : List Int) (h : ∀ m, 1 ≤ m → m < x.length → x.getD (m - 1) 0 < x.getD m 0) : Rises x := fun i hi => by
  have := h (i + 1) (by omega) hi
  simpa using this
/-- what Check's answer 0 says, of the sets from i on. -/
def From (s : List (List Int)) (i : Nat) (p : Int × Int) : Prop := p.2 = 0 → ∀ j, i ≤ j → j < s.length → 2 ≤ (s.getD j []).length ∧ Rises (s.getD j [])
theorem check_l1 (a : ByteArray) (s : List (List Int)) (hs : Small s) (d : Nat) : ∀ i : Nat, i + d = s.length → (∀ j, j < i → 2 ≤ (s.getD j []).length) → Ex (fun k => eponymref19_Check.l1 k (i : Int) a s) (From s i) := by
  induction d with
  | zero =>
    intro i hi _
    refine Ex.succ ?_
    simp only [eponymref19_Check.l1]
    exact Ex.ite (fun h => absurd h (by omega)) (fun _ => Ex.now _ (fun _ j h1 h2 => by omega))
  | succ d ih =>
    intro i hi hprev
    have hi20 := hs.few
    have hlt : i < s.length := by omega
    have hx20 := hs.small i hlt
    obtain ⟨x, hx⟩ : ∃ x, s.getD i [] = x := ⟨_, rfl⟩
    rw [hx] at hx20
    have hnext : 2 ≤ x.length → Ex (fun k => eponymref19_Check.l1 k ((i + 1 : Nat) : Int) a s) (From s (i + 1)) := fun h2 => ih (i + 1) (by omega) (fun j hj => by
      rcases Nat.lt_or_ge j i with h | h
      · exact hprev j h
      · rw [show j = i by omega, hx]; exact h2)
    -- l5, l4: are they there already
    have l45 : ∀ (h2 : 2 ≤ x.length) (e j : Nat), j + e = i → Ex (fun k => eponymref19_Check.l4 k (i : Int) x (j : Int) a s) (From s (i + 1)) := by
      intro h2 e
      induction e with
      | zero =>
        intro j hj
        refine Ex.succ ?_
        simp only [eponymref19_Check.l4]
        refine Ex.ite (fun h => absurd h (by omega)) (fun _ => ?_)
        rw [w64 (by omega) (by omega)]
        exact hnext h2
      | succ e ihe =>
        intro j hj
        have l5 : ∀ (c m : Nat), m + c = x.length → Ex (fun k => eponymref19_Check.l5 k (i : Int) x (j : Int) (m : Int) a s) (From s (i + 1)) := by
          intro c
          induction c with
          | zero =>
            intro m hm
            refine Ex.succ ?_
            simp only [eponymref19_Check.l5]
            refine Ex.ite (fun h => absurd h (by omega)) (fun _ => ?_)
            rw [w64 (by omega) (by omega)]
            exact ihe (j + 1) (by omega)
          | succ c ihc =>
            intro m hm
            refine Ex.succ ?_
            simp only [eponymref19_Check.l5]
            refine Ex.ite (fun _ => ?_) (fun h => absurd (by omega) h)
            refine Ex.ite (fun _ => ?_) (fun h => absurd (by omega) h)
            refine Ex.ite (fun _ => ?_) (fun h => absurd (by omega) h)
            refine Ex.ite (fun _ => ?_) (fun h => absurd (by omega) h)
            rw [rdL_nat]
            refine Ex.bind (q := fun _ => True) ⟨_, in_ev _ _ (by have := hs.small j (by omega); omega), trivial⟩ (fun b _ => ?_)
            refine Ex.ite (fun _ => Ex.now _ (fun h => by simp at h)) (fun _ => ?_)
            rw [w64 (by omega) (by omega)]
            exact ihc (m + 1) (by omega)
        refine Ex.succ ?_
        simp only [eponymref19_Check.l4]
        refine Ex.ite (fun _ => ?_) (fun h => absurd (by omega) h)
        exact l5 x.length 0 (by omega)
    have j5 : ∀ (h2 : 2 ≤ x.length) (b : Bool), Ex (fun k => eponymref19_Check.j5 k (i : Int) x b a s) (From s (i + 1)) := fun h2 b => by
      refine Ex.succ ?_
      simp only [eponymref19_Check.j5]
      refine Ex.ite (fun _ => Ex.now _ (fun h => by simp at h)) (fun _ => ?_)
      exact l45 h2 i 0 (by omega)
    have hfull : ∀ (h2 : 2 ≤ x.length) (hr : Rises x) (p : Int × Int), From s (i + 1) p → From s i p := fun h2 hr p hp h0 j h3 h4 => by
      rcases Nat.lt_or_ge i j with h5 | h5
      · exact hp h0 j h5 h4
      · rw [show j = i by omega, hx]; exact ⟨h2, hr⟩
    have l3 : ∀ (h2 : 2 ≤ x.length) (e m : Nat), 1 ≤ m → m + e = x.length → (∀ q, 1 ≤ q → q < m → x.getD (q - 1) 0 < x.getD q 0) → Ex (fun k => eponymref19_Check.l3 k (i : Int) x (m : Int) a s) (From s i) := by
      intro h2 e
      induction e with
      | zero =>
        intro m h1 hm hq
        have hr : Rises x := rises_of x (fun q h3 h4 => hq q h3 (by omega))
        refine Ex.succ ?_
        simp only [eponymref19_Check.l3]
        refine Ex.ite (fun h => absurd h (by omega)) (fun _ => ?_)
        refine Ex.ite (fun hi0 => ?_) (fun _ => (j5 h2 _).mono (hfull h2 hr))
        obtain ⟨i0, hi0'⟩ : ∃ i0, i = i0 + 1 := ⟨i - 1, by omega⟩
        have ew : wrap64 ((i : Int) - 1) = (i0 : Int) := by rw [w64' (by omega) (by omega)]; omega
        rw [ew, rdL_nat]
        refine Ex.ite (fun _ => ?_) (fun h => absurd (by omega) h)
        refine Ex.ite (fun _ => ?_) (fun h => absurd (by omega) h)
        refine Ex.ite (fun _ => ?_) (fun h => absurd (by omega) h)
        refine Ex.ite (fun _ => ?_) (fun h => absurd (by have := hprev i0 (by omega); omega) h)
        exact (j5 h2 _).mono (hfull h2 hr)
      | succ e ihe =>
        intro m h1 hm hq
        refine Ex.succ ?_
        simp only [eponymref19_Check.l3]
        refine Ex.ite (fun _ => ?_) (fun h => absurd (by omega) h)
        have ew : wrap64 ((m : Int) - 1) = ((m - 1 : Nat) : Int) := by rw [w64' (by omega) (by omega)]; omega
        rw [ew, rd_nat, rd_nat, w64 (by omega) (by omega)]
        refine Ex.ite (fun _ => ?_) (fun h => absurd (by omega) h)
        refine Ex.ite (fun _ => ?_) (fun h => absurd (by omega) h)
        refine Ex.ite (fun _ => ?_) (fun h => absurd (by omega) h)
        refine Ex.ite (fun _ => Ex.now _ (fun h => by simp at h)) (fun hc => ?_)
        refine ihe (m + 1) (by omega) (by omega) (fun q h3 h4 => ?_)
        rcases Nat.lt_or_ge q m with h5 | h5
        · exact hq q h3 h5
        · rw [show q = m by omega]; omega
    have l2 : ∀ (h2 : 2 ≤ x.length) (e m : Nat), m + e = x.length → Ex (fun k => eponymref19_Check.l2 k (i : Int) x (m : Int) a s) (From s i) := by
      intro h2 e
      induction e with
      | zero =>
        intro m hm
        refine Ex.succ ?_
        simp only [eponymref19_Check.l2]
        refine Ex.ite (fun h => absurd h (by omega)) (fun _ => ?_)
        exact l3 h2 (x.length - 1) 1 (by omega) (by omega) (fun q h3 h4 => by omega)
      | succ e ihe =>
        intro m hm
        refine Ex.succ ?_
        simp only [eponymref19_Check.l2]
        refine Ex.ite (fun _ => ?_) (fun h => absurd (by omega) h)
        refine Ex.ite (fun _ => ?_) (fun h => absurd (by omega) h)
        obtain ⟨b, hb⟩ := right_some (rd x (m : Int))
        refine Ex.bindc hb ?_
        refine Ex.ite (fun _ => ?_) (fun _ => Ex.now _ (fun h => by simp at h))
        rw [w64 (by omega) (by omega)]
        exact ihe (m + 1) (by omega)
    refine Ex.succ ?_
    simp only [eponymref19_Check.l1]
    refine Ex.ite (fun _ => ?_) (fun h => absurd (by omega) h)
    refine Ex.ite (fun _ => ?_) (fun h => absurd (by omega) h)
    rw [rdL_nat, hx]
    refine Ex.ite (fun _ => Ex.now _ (fun h => by simp at h)) (fun hc => ?_)
    exact l2 (by omega) x.length 0 (by omega)
theorem check_ex (a : ByteArray) (s : List (List Int)) (hs : Small s) (ha : a.size ≤ 100) : Ex (fun k => eponymref19_Check.f k a s) (From s 0) := by
  have l0 : ∀ (d i : Nat) (n : Int), i + d = s.length → 0 ≤ n → n ≤ 20 * i → Ex (fun k => eponymref19_Check.l0 k n (i : Int) a s) (From s 0) := by
    intro d
    have hf := hs.few
    induction d with
    | zero =>
      intro i n hi h0 hn
      refine Ex.succ ?_
      simp only [eponymref19_Check.l0]
      refine Ex.ite (fun h => absurd h (by omega)) (fun _ => ?_)
      refine Ex.ite (fun _ => Ex.now _ (fun h => by simp at h)) (fun _ => ?_)
      exact check_l1 a s hs s.length 0 (by omega) (fun j hj => by omega)
    | succ d ih =>
      intro i n hi h0 hn
      refine Ex.succ ?_
      simp only [eponymref19_Check.l0]
      refine Ex.ite (fun _ => ?_) (fun h => absurd (by omega) h)
      refine Ex.ite (fun _ => ?_) (fun h => absurd (by omega) h)
      have := hs.small i (by omega)
      rw [rdL_nat, w64 (by omega) (by omega), w64' (by omega) (by omega)]
      exact ih (i + 1) _ (by omega) (by omega) (by omega)
  have j0 : ∀ b, Ex (fun k => eponymref19_Check.j0 k b a s) (From s 0) := fun b => by
    refine Ex.succ ?_
    simp only [eponymref19_Check.j0]
    refine Ex.ite (fun _ => Ex.now _ (fun h => by simp at h)) (fun _ => ?_)
    exact l0 s.length 0 0 (by omega) (by omega) (by omega)
  unfold eponymref19_Check.f
  refine Ex.bind (decode_ex a ha) (fun r _ => ?_)
  exact Ex.ite (fun _ => j0 _) (fun _ => Ex.ite (fun _ => j0 _) (fun _ => j0 _))
theorem right_ex (a : ByteArray) (s : List (List Int)) (hs : Small s) (ha : a.size ≤ 100) : Ex (fun k => eponymlaw19_Right.f k a s) (fun b => b = true → Fine s) := by
  unfold eponymlaw19_Right.f
  refine Ex.bind (check_ex a s hs ha) (fun r hr => Ex.now _ (fun h => ?_))
  have h0 : r.2 = 0 := by simpa using h
  exact ⟨hs.few, hs.small, fun j hj => (hr h0 j (Nat.zero_le _) hj).1, fun j hj => (hr h0 j (Nat.zero_le _) hj).2⟩

/-! ### keys -/
def keyOf (s : List (List Int)) (r : Int) : Int := if setOf s r = [] then r else (setOf s r).getD 0 0
def keys (s : List (List Int)) (l : List Int) : List Int := l.map (keyOf s)
theorem keys_length (s : List (List Int)) (l : List Int) : (keys s l).length = l.length := by simp [keys]
theorem refkey_ev (a : ByteArray) (s : List (List Int)) (hs : Fine s) (l : List Int) (hl : l.length ≤ 1000) : Ev (fun k => eponymref19_Key.f k a s l) (keys s l) := by
  have l0 : ∀ (d i : Nat), i + d = l.length → Ev (fun k => eponymref19_Key.l0 k l (keys s (l.take i)) (i : Int) a s) (keys s l) := by
    intro d
    induction d with
    | zero =>
      intro i hi
      refine Ev.step (f := fun _ => some (keys s (l.take i))) (fun k => by simp only [eponymref19_Key.l0]; rw [if_neg (by omega)]) ?_
      rw [List.take_of_length_le (by omega)]
      exact Ev.now _
    | succ d ih =>
      intro i hi
      have hlt : i < l.length := by omega
      have hnext : keys s (l.take (i + 1)) = keys s (l.take i) ++ [keyOf s (l.getD i 0)] := by
        rw [List.take_succ_eq_append_getElem hlt, List.getD_eq_getElem?_getD, List.getElem?_eq_getElem hlt]
        unfold keys
        rw [List.map_append]
        rfl
      have hlen : (keys s (l.take i)).length < 35184372088832 := by rw [keys_length, List.length_take]; omega
      have hih := ih (i + 1) (by omega)
      rw [hnext] at hih
      refine Ev.step (f := fun k => (eponymref19_Set.f k a s (l.getD i 0)).bind fun t225 => (if (t225.length : Int) > 0 then (if 0 < (t225.length : Int) then (if (keys s (l.take i)).length < 35184372088832 then (eponymref19_Key.l0 k l (keys s (l.take i) ++ [rd t225 0]) ((i + 1 : Nat) : Int) a s) else (none)) else (none)) else (if (keys s (l.take i)).length < 35184372088832 then (eponymref19_Key.l0 k l (keys s (l.take i) ++ [l.getD i 0]) ((i + 1 : Nat) : Int) a s) else (none)))) (fun k => by
        simp only [eponymref19_Key.l0]
        rw [if_pos (by omega), if_pos (by omega), w64 (by omega) (by omega), rd_nat]; rfl) ?_
      refine Ev.bind (refset_ev a s hs _) ?_
      by_cases he : setOf s (l.getD i 0) = []
      · have ek : keyOf s (l.getD i 0) = l.getD i 0 := by unfold keyOf; rw [if_pos he]
        rw [ek] at hih
        rw [he]
        exact Ev.neg (by simp) (Ev.pos hlen hih)
      · have hp : 0 < (setOf s (l.getD i 0)).length := List.length_pos_iff.2 he
        have ek : keyOf s (l.getD i 0) = rd (setOf s (l.getD i 0)) 0 := by unfold keyOf; rw [if_neg he]; rfl
        rw [ek] at hih
        exact Ev.pos (by omega) (Ev.pos (by omega) (Ev.pos hlen hih))
  have := l0 l.length 0 (by omega)
  simpa [eponymref19_Key.f, keys] using this
theorem key_ev (a : ByteArray) (s : List (List Int)) (hs : Fine s) (l : List Int) (hl : l.length ≤ 1000) : Ev (fun k => variants_Key.f k a s l) (keys s l) := by
  have l0 : ∀ (d i : Nat), i + d = l.length → Ev (fun k => variants_Key.l0 k (keys s (l.take i) ++ l.drop i) (l.length : Int) (i : Int) a s) (keys s l) := by
    intro d
    induction d with
    | zero =>
      intro i hi
      refine Ev.step (f := fun _ => some (keys s (l.take i) ++ l.drop i)) (fun k => by simp only [variants_Key.l0]; rw [if_neg (by omega)]) ?_
      rw [List.take_of_length_le (by omega), List.drop_eq_nil_of_le (by omega), List.append_nil]
      exact Ev.now _
    | succ d ih =>
      intro i hi
      have hlt : i < l.length := by omega
      have hkl : (keys s (l.take i)).length = i := by rw [keys_length, List.length_take]; omega
      have hnext : keys s (l.take (i + 1)) ++ l.drop (i + 1) = (keys s (l.take i) ++ l.drop i).set i (keyOf s (l.getD i 0)) := by
        rw [List.take_succ_eq_append_getElem hlt, List.getD_eq_getElem?_getD, List.getElem?_eq_getElem hlt, List.drop_eq_getElem_cons hlt]
        rw [List.set_append_right _ _ (by omega), hkl, Nat.sub_self, List.set_cons_zero]
        unfold keys
        rw [List.map_append, List.append_assoc]
        rfl
      have hrd : rd (keys s (l.take i) ++ l.drop i) (i : Int) = l.getD i 0 := by
        rw [rd_nat, List.getD_eq_getElem?_getD, List.getElem?_append_right (by omega), hkl, List.drop_eq_getElem_cons hlt, List.getD_eq_getElem?_getD, List.getElem?_eq_getElem hlt, Nat.sub_self]
        rfl
      have hih := ih (i + 1) (by omega)
      rw [hnext] at hih
      have hlen : (keys s (l.take i) ++ l.drop i).length = l.length := by rw [List.length_append, hkl, List.length_drop]; omega
      refine Ev.step (f := fun k => (variants_find.f k a s (l.getD i 0)).bind fun t => (if (t.length : Int) > 0 then (variants_Key.l0 k ((keys s (l.take i) ++ l.drop i).set i (rd t 0)) (l.length : Int) ((i + 1 : Nat) : Int) a s) else (variants_Key.l0 k (keys s (l.take i) ++ l.drop i) (l.length : Int) ((i + 1 : Nat) : Int) a s))) (fun k => by
        simp only [variants_Key.l0]
        rw [if_pos (by omega), if_pos (by omega), if_pos (by omega), w64 (by omega) (by omega), hrd]; rfl) ?_
      refine Ev.bind (find_ev a s hs _) ?_
      by_cases he : setOf s (l.getD i 0) = []
      · rw [he]
        refine Ev.neg (by simp) ?_
        have ek : keyOf s (l.getD i 0) = l.getD i 0 := by unfold keyOf; rw [if_pos he]
        have e2 : (keys s (l.take i) ++ l.drop i).set i (keyOf s (l.getD i 0)) = keys s (l.take i) ++ l.drop i := by
          rw [ek, List.set_append_right _ _ (by omega), hkl, Nat.sub_self, List.drop_eq_getElem_cons hlt, List.getD_eq_getElem?_getD, List.getElem?_eq_getElem hlt]
          rfl
        rw [e2] at hih
        exact hih
      · have hp : 0 < (setOf s (l.getD i 0)).length := List.length_pos_iff.2 he
        refine Ev.pos (by omega) ?_
        have e2 : keyOf s (l.getD i 0) = rd (setOf s (l.getD i 0)) 0 := by unfold keyOf; rw [if_neg he]; rfl
        rw [e2] at hih
        exact hih
  unfold variants_Key.f
  refine Ev.pos (by omega) ?_
  simpa [keys] using l0 l.length 0 (by omega)
theorem psame_ev (a : ByteArray) (s : List (List Int)) (hs : Fine s) (l m : List Int) (hl : l.length ≤ 1000) (hm : m.length ≤ 1000) : Ev (fun k => variants_Same.f k a s l m) (decide (keys s l = keys s m)) := by
  unfold variants_Same.f
  refine Ev.bind (key_ev a s hs l hl) (Ev.bind (key_ev a s hs m hm) (Ev.bind (equal_ev _ _ (by rw [keys_length]; omega)) (Ev.now _)))

/-! ### counts -/
def cnt (s : List (List Int)) (n : Int) (r : Int) : Int := mn (n * mx ((setOf s r).length : Int) 1) 1073741824
def cntOf (s : List (List Int)) (n : Int) (l : List Int) : Int := l.foldl (cnt s) n
theorem cnt_range (s : List (List Int)) (hs : Fine s) (n r : Int) (h0 : 1 ≤ n) (h1 : n ≤ 1073741824) : 1 ≤ cnt s n r ∧ cnt s n r ≤ 1073741824 ∧ n * mx ((setOf s r).length : Int) 1 ≤ 21474836480 ∧ 1 ≤ n * mx ((setOf s r).length : Int) 1 := by
  have hl := setOf_len s r 20 hs.mem
  have hm : 1 ≤ mx ((setOf s r).length : Int) 1 ∧ mx ((setOf s r).length : Int) 1 ≤ 20 := by unfold mx; constructor <;> split <;> omega
  unfold cnt mn
  generalize mx ((setOf s r).length : Int) 1 = m at hm ⊢
  have h2 : n * m ≤ 1073741824 * 20 := Int.mul_le_mul h1 hm.2 (by omega) (by omega)
  have h3 : 1 * 1 ≤ n * m := Int.mul_le_mul h0 hm.1 (by omega) (by omega)
  refine ⟨?_, ?_, by omega, by omega⟩ <;> split <;> omega
theorem pcount_ev (a : ByteArray) (s : List (List Int)) (hs : Fine s) (l : List Int) (hl : l.length ≤ 1000) : Ev (fun k => variants_Count.f k a s l) (cntOf s 1 l) := by
  have l0 : ∀ (d i : Nat) (n : Int), i + d = l.length → 1 ≤ n → n ≤ 1073741824 → Ev (fun k => variants_Count.l0 k n l (l.length : Int) (i : Int) a s) (cntOf s n (l.drop i)) := by
    intro d
    induction d with
    | zero =>
      intro i n hi h0 h1
      refine Ev.step (f := fun _ => some n) (fun k => by simp only [variants_Count.l0]; rw [if_neg (by omega)]) ?_
      rw [List.drop_eq_nil_of_le (by omega)]
      exact Ev.now _
    | succ d ih =>
      intro i n hi h0 h1
      have hlt : i < l.length := by omega
      obtain ⟨c1, c2, c3, c4⟩ := cnt_range s hs n (l.getD i 0) h0 h1
      have hih := ih (i + 1) (cnt s n (l.getD i 0)) (by omega) c1 c2
      refine Ev.step (f := fun k => (variants_find.f k a s (l.getD i 0)).bind fun t247 => (variants_Count.l0 k (mn (wrap64 (n * (mx (t247.length : Int) 1))) 1073741824) l (l.length : Int) ((i + 1 : Nat) : Int) a s)) (fun k => by
        simp only [variants_Count.l0]
        rw [if_pos (by omega), if_pos (by omega), if_pos (by omega), w64 (by omega) (by omega), rd_nat]; rfl) ?_
      refine Ev.bind (find_ev a s hs _) ?_
      rw [w64' (by omega) (by omega), List.drop_eq_getElem_cons hlt]
      have e1 : l[i] = l.getD i 0 := by rw [List.getD_eq_getElem?_getD, List.getElem?_eq_getElem hlt]; rfl
      rw [e1]
      exact hih
  have := l0 l.length 0 1 (by omega) (by omega) (by omega)
  simpa [variants_Count.f] using this
theorem rcount_ev (a : ByteArray) (s : List (List Int)) (hs : Fine s) (l : List Int) (hl : l.length ≤ 1000) : Ev (fun k => eponymref19_Count.f k a s l) (cntOf s 1 l) := by
  have l0 : ∀ (d i : Nat) (n : Int), i + d = l.length → 1 ≤ n → n ≤ 1073741824 → Ev (fun k => eponymref19_Count.l0 k l n (i : Int) a s) (cntOf s n (l.drop i)) := by
    intro d
    induction d with
    | zero =>
      intro i n hi h0 h1
      refine Ev.step (f := fun _ => some n) (fun k => by simp only [eponymref19_Count.l0]; rw [if_neg (by omega)]) ?_
      rw [List.drop_eq_nil_of_le (by omega)]
      exact Ev.now _
    | succ d ih =>
      intro i n hi h0 h1
      have hlt : i < l.length := by omega
      obtain ⟨c1, c2, c3, c4⟩ := cnt_range s hs n (l.getD i 0) h0 h1
      have hih := ih (i + 1) (cnt s n (l.getD i 0)) (by omega) c1 c2
      have e1 : l[i] = l.getD i 0 := by rw [List.getD_eq_getElem?_getD, List.getElem?_eq_getElem hlt]; rfl
      have e2 : cntOf s n (l.drop i) = cntOf s (cnt s n (l.getD i 0)) (l.drop (i + 1)) := by rw [List.drop_eq_getElem_cons hlt, e1]; rfl
      rw [e2]
      refine Ev.step (f := fun k => (eponymref19_Set.f k a s (l.getD i 0)).bind fun t200 => (if (t200.length : Int) > 0 then (if (wrap64 (n * (t200.length : Int))) > 1073741824 then (eponymref19_Count.l0 k l 1073741824 ((i + 1 : Nat) : Int) a s) else (eponymref19_Count.l0 k l (wrap64 (n * (t200.length : Int))) ((i + 1 : Nat) : Int) a s)) else (if n > 1073741824 then (eponymref19_Count.l0 k l 1073741824 ((i + 1 : Nat) : Int) a s) else (eponymref19_Count.l0 k l n ((i + 1 : Nat) : Int) a s)))) (fun k => by
        simp only [eponymref19_Count.l0]
        rw [if_pos (by omega), if_pos (by omega), w64 (by omega) (by omega), rd_nat]; rfl) ?_
      refine Ev.bind (refset_ev a s hs _) ?_
      by_cases hp : ((setOf s (l.getD i 0)).length : Int) > 0
      · have em : mx ((setOf s (l.getD i 0)).length : Int) 1 = ((setOf s (l.getD i 0)).length : Int) := by unfold mx; split <;> omega
        have ec : cnt s n (l.getD i 0) = mn (n * ((setOf s (l.getD i 0)).length : Int)) 1073741824 := by unfold cnt; rw [em]
        rw [em] at c3 c4
        rw [ec] at hih ⊢
        refine Ev.pos hp ?_
        rw [w64' (by omega) (by omega)]
        by_cases hb : n * ((setOf s (l.getD i 0)).length : Int) > 1073741824
        · have : mn (n * ((setOf s (l.getD i 0)).length : Int)) 1073741824 = 1073741824 := by unfold mn; split <;> omega
          rw [this] at hih ⊢
          exact Ev.pos hb hih
        · have : mn (n * ((setOf s (l.getD i 0)).length : Int)) 1073741824 = n * ((setOf s (l.getD i 0)).length : Int) := by unfold mn; split <;> omega
          rw [this] at hih ⊢
          exact Ev.neg hb hih
      · have em : mx ((setOf s (l.getD i 0)).length : Int) 1 = 1 := by unfold mx; split <;> omega
        have ec : cnt s n (l.getD i 0) = n := by unfold cnt; rw [em, Int.mul_one]; unfold mn; split <;> omega
        rw [ec] at hih ⊢
        exact Ev.neg hp (Ev.neg (by omega) hih)
  have := l0 l.length 0 1 (by omega) (by omega) (by omega)
  simpa [eponymref19_Count.f] using this

/-! ### the law of keys -/
theorem awake_ev : Ev (fun k => eponymlaw19_awake.f k) true := Ev.of eponymlaw19_awake.mono (k := 40) (by decide +kernel)
end Go.Proofs.Ytohnahbjmcelfaa.V
