/- The plain laws of the variants, second part: the reference's reading of a name ends, whatever it says, and what a right family's sets are. No condition beside sizes. -/
import Derived.Test.YtohnahbjmcelfaaPure0
namespace Go.Proofs.Ytohnahbjmcelfaa.V
open Go.RowKit Go.Proofs.YtohnahbjmcelfaaW.PrintWords Go.Proofs.YtohnahbjmcelfaaW.PrintLast Go.Proofs.YtohnahbjmcelfaaW.PrintMore

/-- it comes to something. -/
def Ex {α : Type} (g : Nat → Option α) (p : α → Prop) : Prop := ∃ r, Ev g r ∧ p r
theorem Ex.succ {α : Type} {g : Nat → Option α} {p : α → Prop} (h : Ex (fun k => g (k + 1)) p) : Ex g p := by
  obtain ⟨r, h, hp⟩ := h
  exact ⟨r, Ev.step (fun _ => rfl) h, hp⟩
theorem Ex.ite {α : Type} {c : Prop} [Decidable c] {f g : Nat → Option α} {p : α → Prop} (h1 : c → Ex f p) (h2 : ¬ c → Ex g p) : Ex (fun k => if c then f k else g k) p := by
  by_cases hc : c
  · obtain ⟨r, h, hp⟩ := h1 hc; exact ⟨r, Ev.pos hc h, hp⟩
  · obtain ⟨r, h, hp⟩ := h2 hc; exact ⟨r, Ev.neg hc h, hp⟩
theorem Ex.now {α : Type} {p : α → Prop} (r : α) (h : p r) : Ex (fun _ => some r) p := ⟨r, Ev.now r, h⟩
theorem Ex.bind {α β : Type} {g : Nat → Option α} {f : Nat → α → Option β} {q : α → Prop} {p : β → Prop} (h : Ex g q) (k : ∀ a, q a → Ex (fun n => f n a) p) : Ex (fun n => (g n).bind (f n)) p := by
  obtain ⟨a, ha, hq⟩ := h
  obtain ⟨r, hr, hp⟩ := k a hq
  exact ⟨r, Ev.bind ha hr, hp⟩
theorem Ex.mono {α : Type} {g : Nat → Option α} {p q : α → Prop} (h : Ex g p) (hpq : ∀ r, p r → q r) : Ex g q := by
  obtain ⟨r, h, hp⟩ := h
  exact ⟨r, h, hpq r hp⟩
theorem Ex.bindc {α β : Type} {x : Option α} {f : Nat → α → Option β} {a : α} {p : β → Prop} (h : x = some a) (k : Ex (fun n => f n a) p) : Ex (fun n => x.bind (f n)) p := by
  subst h
  exact k

theorem w64' {i : Int} (h0 : -4611686018427387904 ≤ i) (h1 : i < 4611686018427387904) : wrap64 i = i := by unfold wrap64; omega

theorem value_l0 (s : ByteArray) (hs : s.size ≤ 1000) (d : Nat) : ∀ (i : Nat) (x5 : Int), i + d = s.size → Ex (fun k => eponymref01_value.l0 k s (s.size : Int) x5 (i : Int)) (fun _ => True) := by
  induction d with
  | zero =>
    intro i x5 hi
    refine Ex.succ ?_
    simp only [eponymref01_value.l0]
    refine Ex.ite (fun h => absurd h (by omega)) (fun _ => Ex.now _ trivial)
  | succ d ih =>
    intro i x5 hi
    refine Ex.succ ?_
    simp only [eponymref01_value.l0]
    refine Ex.ite (fun _ => ?_) (fun h => absurd (by omega) h)
    refine Ex.ite (fun _ => ?_) (fun h => absurd (by omega) h)
    refine Ex.ite (fun _ => ?_) (fun h => absurd (by omega) h)
    refine Ex.ite (fun _ => Ex.now _ trivial) (fun _ => ?_)
    refine Ex.ite (fun _ => Ex.now _ trivial) (fun _ => ?_)
    rw [w64 (by omega) (by omega)]
    exact ih (i + 1) _ (by omega)
theorem value_j6 (s : ByteArray) (hs : s.size ≤ 1000) (h0 : 0 < s.size) (x5 : Int) : Ex (fun k => eponymref01_value.j6 k s (s.size : Int) x5) (fun _ => True) := by
  refine Ex.succ ?_
  simp only [eponymref01_value.j6]
  exact Ex.ite (fun _ => Ex.now _ trivial) (fun _ => value_l0 s hs (s.size - 1) 1 x5 (by omega))
theorem value_ex (s : ByteArray) (hs : s.size ≤ 1000) (h0 : 0 < s.size) : Ex (fun k => eponymref01_value.f k s) (fun _ => True) := by
  have j5 : ∀ x3 x5 b, Ex (fun k => eponymref01_value.j5 k s x3 (s.size : Int) x5 b) (fun _ => True) := fun x3 x5 b => by
    refine Ex.succ ?_
    simp only [eponymref01_value.j5]
    exact Ex.ite (fun _ => value_j6 s hs h0 _) (fun _ => value_j6 s hs h0 _)
  have j4 : ∀ x3 x5, Ex (fun k => eponymref01_value.j4 k s x3 (s.size : Int) x5) (fun _ => True) := fun x3 x5 => by
    refine Ex.succ ?_
    simp only [eponymref01_value.j4]
    exact Ex.ite (fun _ => Ex.ite (fun _ => j5 _ _ _) (fun _ => j5 _ _ _)) (fun _ => j5 _ _ _)
  have j3 : ∀ x3 x5 b, Ex (fun k => eponymref01_value.j3 k s x3 (s.size : Int) x5 b) (fun _ => True) := fun x3 x5 b => by
    refine Ex.succ ?_
    simp only [eponymref01_value.j3]
    exact Ex.ite (fun _ => j4 _ _) (fun _ => j4 _ _)
  have j2 : ∀ x3 x5, Ex (fun k => eponymref01_value.j2 k s x3 (s.size : Int) x5) (fun _ => True) := fun x3 x5 => by
    refine Ex.succ ?_
    simp only [eponymref01_value.j2]
    exact Ex.ite (fun _ => Ex.ite (fun _ => j3 _ _ _) (fun _ => j3 _ _ _)) (fun _ => j3 _ _ _)
  have j1 : ∀ x3 x5 b, Ex (fun k => eponymref01_value.j1 k s x3 (s.size : Int) x5 b) (fun _ => True) := fun x3 x5 b => by
    refine Ex.succ ?_
    simp only [eponymref01_value.j1]
    exact Ex.ite (fun _ => j2 _ _) (fun _ => j2 _ _)
  have j0 : ∀ x3 b, Ex (fun k => eponymref01_value.j0 k s x3 (s.size : Int) b) (fun _ => True) := fun x3 b => by
    refine Ex.succ ?_
    simp only [eponymref01_value.j0]
    exact Ex.ite (fun _ => Ex.now _ trivial) (fun _ => Ex.ite (fun _ => Ex.ite (fun _ => j1 _ _ _) (fun _ => j1 _ _ _)) (fun _ => j1 _ _ _))
  unfold eponymref01_value.f
  refine Ex.ite (fun _ => ?_) (fun h => absurd (by omega) h)
  exact Ex.ite (fun _ => j0 _ _) (fun _ => j0 _ _)
theorem some_ex (a b n : Int) : Ex (fun k => eponymref01_some.f k a b n) (fun _ => True) := by
  have j2 : ∀ x0 x1 x8, Ex (fun k => eponymref01_some.j2 k x0 x1 x8) (fun _ => True) := fun x0 x1 x8 => by
    refine Ex.succ ?_
    simp only [eponymref01_some.j2]
    repeat' first | exact Ex.now _ trivial | refine Ex.ite (fun _ => ?_) (fun _ => ?_)
  have j1 : ∀ x0 x1 x7 x8, Ex (fun k => eponymref01_some.j1 k x0 x1 x7 x8) (fun _ => True) := fun x0 x1 x7 x8 => by
    refine Ex.succ ?_
    simp only [eponymref01_some.j1]
    exact Ex.ite (fun _ => j2 _ _ _) (fun _ => j2 _ _ _)
  have j0 : ∀ x0 x1 x2 x7 x8, Ex (fun k => eponymref01_some.j0 k x0 x1 x2 x7 x8) (fun _ => True) := fun x0 x1 x2 x7 x8 => by
    refine Ex.succ ?_
    simp only [eponymref01_some.j0]
    exact Ex.ite (fun _ => j1 _ _ _ _) (fun _ => j1 _ _ _ _)
  unfold eponymref01_some.f
  exact Ex.ite (fun _ => j0 _ _ _ _ _) (fun _ => j0 _ _ _ _ _)
theorem form_some (r : Int) : ∃ s, eponymref01_Form.f r = some s := by
  unfold eponymref01_Form.f
  split
  · exact ⟨_, rfl⟩
  · split
    · exact ⟨_, rfl⟩
    · split <;> exact ⟨_, rfl⟩
theorem right_some (r : Int) : ∃ b, eponymref01_Right.f r = some b := by
  unfold eponymref01_Right.f
  split
  · split
    · split <;> exact ⟨_, rfl⟩
    · exact ⟨_, rfl⟩
  · exact ⟨_, rfl⟩

theorem next_l1 (s : ByteArray) (h0 : 0 < s.size) (hs : s.size ≤ 200) (d : Nat) : ∀ n : Nat, 1 ≤ n → n + d = 300 → Ex (fun k => eponymref01_Next.l1 k s (n : Int)) (fun r => r.2.2 ≠ 0) := by
  induction d with
  | zero =>
    intro n h1 hn
    refine Ex.succ ?_
    simp only [eponymref01_Next.l1]
    exact Ex.ite (fun h => absurd h (by omega)) (fun _ => Ex.now _ (by simp))
  | succ d ih =>
    intro n h1 hn
    refine Ex.succ ?_
    simp only [eponymref01_Next.l1]
    refine Ex.ite (fun h4 => ?_) (fun _ => Ex.now _ (by simp))
    -- the two texts grow
    have l2 : ∀ (e : Nat) (x y : ByteArray), 0 < x.size → 0 < y.size → x.size ≤ 400 - e → y.size ≤ 400 - e → e ≤ 200 → n ≤ x.size + e → Ex (fun k => eponymref01_Next.l2 k s (n : Int) x y) (fun r => r.2.2 ≠ 0) := by
      intro e
      induction e with
      | zero =>
        intro x y hx hy hxs hys _ he
        refine Ex.succ ?_
        simp only [eponymref01_Next.l2]
        refine Ex.ite (fun h => absurd h (by omega)) (fun _ => ?_)
        refine Ex.bind (value_ex x (by omega) hx) (fun a _ => ?_)
        refine Ex.bind (value_ex y (by omega) hy) (fun b _ => ?_)
        have hrec : Ex (fun k => eponymref01_Next.l1 k s (wrap64 ((n : Int) + 1))) (fun r => r.2.2 ≠ 0) := by
          rw [w64 (by omega) (by omega)]; exact ih (n + 1) (by omega) (by omega)
        refine Ex.ite (fun _ => ?_) (fun _ => hrec)
        refine Ex.ite (fun _ => ?_) (fun _ => hrec)
        refine Ex.bind (some_ex a b n) (fun c _ => ?_)
        exact Ex.ite (fun _ => Ex.now _ (by simp)) (fun _ => hrec)
      | succ e ihe =>
        intro x y hx hy hxs hys he2 he
        refine Ex.succ ?_
        simp only [eponymref01_Next.l2]
        refine Ex.ite (fun _ => ?_) (fun _ => ?_)
        · refine Ex.ite (fun _ => ?_) (fun h => absurd (by omega) h)
          refine Ex.ite (fun _ => ?_) (fun h => absurd (by omega) h)
          have e1 : ∀ (z : ByteArray) (b : UInt8), (z ++ (⟨#[b]⟩ : ByteArray)).size = z.size + 1 := fun z b => by rw [ByteArray.size_append]; rfl
          refine ihe _ _ ?_ ?_ ?_ ?_ (by omega) ?_
          all_goals (rw [e1]; omega)
        · refine Ex.bind (value_ex x (by omega) hx) (fun a _ => ?_)
          refine Ex.bind (value_ex y (by omega) hy) (fun b _ => ?_)
          have hrec : Ex (fun k => eponymref01_Next.l1 k s (wrap64 ((n : Int) + 1))) (fun r => r.2.2 ≠ 0) := by
            rw [w64 (by omega) (by omega)]; exact ih (n + 1) (by omega) (by omega)
          refine Ex.ite (fun _ => ?_) (fun _ => hrec)
          refine Ex.ite (fun _ => ?_) (fun _ => hrec)
          refine Ex.bind (some_ex a b n) (fun c _ => ?_)
          exact Ex.ite (fun _ => Ex.now _ (by simp)) (fun _ => hrec)
    exact l2 4 s s h0 h0 (by omega) (by omega) (by omega) (by omega)
theorem next_ex (s : ByteArray) (hs : s.size ≤ 100) (at_ : Nat) (ha : at_ < s.size) : Ex (fun k => eponymref01_Next.f k s (at_ : Int)) (fun r => r.2.2 = 0 → 1 ≤ r.2.1 ∧ r.2.1 ≤ 4) := by
  have hstop : ∀ n : Nat, 1 ≤ n → n ≤ 5 → Ex (fun k => eponymref01_Next.j1 k s (at_ : Int) (n : Int) false) (fun r => r.2.2 = 0 → 1 ≤ r.2.1 ∧ r.2.1 ≤ 4) := fun n h1 h5 => by
    refine Ex.succ ?_
    simp only [eponymref01_Next.j1]
    refine Ex.ite (fun h => absurd h (by simp)) (fun _ => ?_)
    refine Ex.ite (fun _ => ?_) (fun h => absurd (by omega) h)
    refine Ex.ite (fun _ => ?_) (fun h => absurd (by omega) h)
    have hsz : (s.extract ((at_ : Int)).toNat s.size).size = s.size - at_ := by simp [ByteArray.size_extract]
    rw [hsz, w64 (by omega) (by omega)]
    refine (next_l1 (s.extract ((at_ : Int)).toNat s.size) (by rw [hsz]; omega) (by rw [hsz]; omega) (300 - (s.size - at_ + 1)) (s.size - at_ + 1) (by omega) (by omega)).mono (fun r hr h => absurd h hr)
  have l0 : ∀ (d n : Nat), 1 ≤ n → n + d = 5 → Ex (fun k => eponymref01_Next.l0 k s (at_ : Int) (n : Int)) (fun r => r.2.2 = 0 → 1 ≤ r.2.1 ∧ r.2.1 ≤ 4) := by
    intro d
    induction d with
    | zero =>
      intro n h1 hn
      refine Ex.succ ?_
      simp only [eponymref01_Next.l0]
      exact Ex.ite (fun h => absurd h (by omega)) (fun _ => hstop n h1 (by omega))
    | succ d ih =>
      intro n h1 hn
      refine Ex.succ ?_
      simp only [eponymref01_Next.l0]
      refine Ex.ite (fun _ => ?_) (fun h => absurd (by omega) h)
      have hrec : Ex (fun k => eponymref01_Next.l0 k s (at_ : Int) (wrap64 ((n : Int) + 1))) (fun r => r.2.2 = 0 → 1 ≤ r.2.1 ∧ r.2.1 ≤ 4) := by
        rw [w64 (by omega) (by omega)]; exact ih (n + 1) (by omega) (by omega)
      rw [w64' (i := (at_ : Int) + n) (by omega) (by omega)]
      by_cases hfit : (at_ : Int) + n ≤ s.size
      · rw [decide_eq_true hfit]
        refine Ex.succ ?_
        simp only [eponymref01_Next.j1]
        rw [w64' (i := (at_ : Int) + n) (by omega) (by omega)]
        refine Ex.ite (fun _ => ?_) (fun h => absurd trivial h)
        refine Ex.ite (fun _ => ?_) (fun h => absurd (by omega) h)
        refine Ex.ite (fun _ => ?_) (fun h => absurd (by omega) h)
        refine Ex.ite (fun _ => ?_) (fun h => absurd hfit h)
        have hsz : (s.extract ((at_ : Int)).toNat ((at_ : Int) + n).toNat).size = n := by simp only [ByteArray.size_extract]; omega
        refine Ex.bind (value_ex _ (by rw [hsz]; omega) (by rw [hsz]; omega)) (fun v _ => ?_)
        refine Ex.ite (fun _ => ?_) (fun _ => hrec)
        obtain ⟨b, hb⟩ := right_some v
        refine Ex.bindc hb ?_
        refine Ex.ite (fun _ => ?_) (fun _ => hrec)
        obtain ⟨t, ht⟩ := form_some v
        refine Ex.bindc ht ?_
        exact Ex.ite (fun _ => Ex.now _ (fun _ => ⟨by simp; omega, by simp; omega⟩)) (fun _ => hrec)
      · rw [decide_eq_false hfit]
        exact hstop n h1 (by omega)
  have := l0 4 1 (by omega) (by omega)
  simpa [eponymref01_Next.f] using this
theorem decode_ex (s : ByteArray) (hs : s.size ≤ 100) : Ex (fun k => eponymref01_Decode.f k s) (fun _ => True) := by
  have l0 : ∀ (d at_ : Nat) (out : List Int), s.size ≤ at_ + d → at_ ≤ s.size + 10 → out.length ≤ at_ → Ex (fun k => eponymref01_Decode.l0 k s out (at_ : Int)) (fun _ => True) := by
    intro d
    induction d with
    | zero =>
      intro at_ out hd ha ho
      refine Ex.succ ?_
      simp only [eponymref01_Decode.l0]
      exact Ex.ite (fun h => absurd h (by omega)) (fun _ => Ex.now _ trivial)
    | succ d ih =>
      intro at_ out hd ha ho
      refine Ex.succ ?_
      simp only [eponymref01_Decode.l0]
      refine Ex.ite (fun hlt => ?_) (fun _ => Ex.now _ trivial)
      refine Ex.bind (next_ex s hs at_ (by omega)) (fun r hr => ?_)
      refine Ex.ite (fun h0 => ?_) (fun _ => Ex.now _ trivial)
      refine Ex.ite (fun _ => ?_) (fun h => absurd (by omega) h)
      obtain ⟨h1, h4⟩ := hr h0
      obtain ⟨n, hn⟩ := Int.eq_ofNat_of_zero_le (show 0 ≤ r.2.1 by omega)
      rw [hn] at h1 h4 ⊢
      rw [w64' (by omega) (by omega)]
      exact ih (at_ + n) _ (by omega) (by omega) (by simp; omega)
  exact l0 s.size 0 [] (by omega) (by omega) (by simp)
end Go.Proofs.Ytohnahbjmcelfaa.V
