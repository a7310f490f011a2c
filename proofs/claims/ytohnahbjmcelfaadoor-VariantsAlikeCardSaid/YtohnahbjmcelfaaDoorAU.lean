/-
  Plain words for the laws: what a printed function comes to from some number of rounds on. No condition.
  UTF-8, plainly: the program's reading of a text and the reference's come to the same runes, places and numbers. No condition but a size.
  UTF-8, plainly: a whole text, as the program reads it. No condition but a size.
-/
import Derived.Test.YtohnahbjmcelfaaDoorAlike
namespace Go.Proofs.YtohnahbjmcelfaaDoor.V
open Go.RowKit Go.Proofs.YtohnahbjmcelfaaDoorW.PrintWords Go.Proofs.YtohnahbjmcelfaaDoorW.PrintLast Go.Proofs.YtohnahbjmcelfaaDoorW.PrintMore Go.Proofs.YtohnahbjmcelfaaDoor.Er

theorem Ev.pos {α : Type} {c : Prop} [Decidable c] {f g : Nat → Option α} {r : α} (hc : c) (h : Ev f r) : Ev (fun k => if c then f k else g k) r := by
  obtain ⟨K, h⟩ := h
  exact ⟨K, fun k hk => by simp only [if_pos hc]; exact h k hk⟩
theorem Ev.neg {α : Type} {c : Prop} [Decidable c] {f g : Nat → Option α} {r : α} (hc : ¬ c) (h : Ev g r) : Ev (fun k => if c then f k else g k) r := by
  obtain ⟨K, h⟩ := h
  exact ⟨K, fun k hk => by simp only [if_neg hc]; exact h k hk⟩
theorem Ev.ite {α : Type} {c : Prop} [Decidable c] {f g : Nat → Option α} {r : α} (h1 : c → Ev f r) (h2 : ¬ c → Ev g r) : Ev (fun k => if c then f k else g k) r := by
  by_cases hc : c
  · exact Ev.pos hc (h1 hc)
  · exact Ev.neg hc (h2 hc)
theorem Ev.succ {α : Type} {g : Nat → Option α} {r : α} (h : Ev (fun k => g (k + 1)) r) : Ev g r := Ev.step (fun _ => rfl) h
theorem Ev.is {α : Type} {x r : α} (h : x = r) : Ev (fun _ => some x) r := h ▸ Ev.now x
theorem Ev.bindc {α β : Type} {x : Option α} {f : Nat → α → Option β} {a : α} {r : β} (h : x = some a) (k : Ev (fun n => f n a) r) : Ev (fun n => x.bind (f n)) r := by
  subst h
  exact k
theorem Ev.bindc' {α : Type} {x : Option α} {a r : α} (h : x = some a) (e : a = r) : Ev (fun _ => x) r := by
  subst h
  exact Ev.is e
theorem Ev.to {α : Type} {g : Nat → Option α} {x r : α} (h : Ev g x) (e : x = r) : Ev g r := e ▸ h
theorem w64 {i : Int} (h0 : 0 ≤ i) (h1 : i < 4611686018427387904) : wrap64 (i + 1) = i + 1 := by unfold wrap64; omega
theorem w64' {i : Int} (h0 : -4611686018427387904 ≤ i) (h1 : i < 4611686018427387904) : wrap64 i = i := by unfold wrap64; omega
theorem w32' {i : Int} (h0 : -2147483648 ≤ i) (h1 : i ≤ 2147483647) : wrap32 i = i := by unfold wrap32; omega
theorem rd_nat (l : List Int) (i : Nat) : rd l (i : Int) = l.getD i 0 := by simp [rd]

theorem ite_p {α : Type} {P : α → Prop} {c : Prop} [Decidable c] {a b : α} (h1 : c → P a) (h2 : ¬ c → P b) : P (if c then a else b) := by
  by_cases hc : c
  · rw [if_pos hc]; exact h1 hc
  · rw [if_neg hc]; exact h2 hc
/-- it comes to something. -/
def Ex {α : Type} (g : Nat → Option α) (p : α → Prop) : Prop := ∃ r, Ev g r ∧ p r
theorem Ex.succ {α : Type} {g : Nat → Option α} {p : α → Prop} (h : Ex (fun k => g (k + 1)) p) : Ex g p := by
  obtain ⟨r, h, hp⟩ := h
  exact ⟨r, Ev.step (fun _ => rfl) h, hp⟩
theorem Ex.ite {α : Type} {c : Prop} [Decidable c] {f g : Nat → Option α} {p : α → Prop} (h1 : c → Ex f p) (h2 : ¬ c → Ex g p) : Ex (fun k => if c then f k else g k) p := by
  by_cases hc : c
  · obtain ⟨r, h, hp⟩ := h1 hc; exact ⟨r, Ev.pos hc h, hp⟩
  · obtain ⟨r, h, hp⟩ := h2 hc; exact ⟨r, Ev.neg hc h, hp⟩
theorem Ex.now {α : Type} {p : α → Prop} (r : α) (h : p r) : Ex (fun _ => some r) p := ⟨r, Ev.now r, h⟩
theorem Ex.bind {α β : Type} {g : Nat → Option α} {f : Nat → α → Option β} {q : α → Prop} {p : β → Prop} (h : Ex g q) (k : ∀ a, q a → Ex (fun n => f n a) p) : Ex (fun n => (g n).bind (f n)) p := by
  obtain ⟨a, ha, hq⟩ := h
  obtain ⟨r, hr, hp⟩ := k a hq
  exact ⟨r, Ev.bind ha hr, hp⟩
theorem Ex.mono {α : Type} {g : Nat → Option α} {p q : α → Prop} (h : Ex g p) (hpq : ∀ r, p r → q r) : Ex g q := by
  obtain ⟨r, h, hp⟩ := h
  exact ⟨r, h, hpq r hp⟩
theorem Ex.bindc {α β : Type} {x : Option α} {f : Nat → α → Option β} {a : α} {p : β → Prop} (h : x = some a) (k : Ex (fun n => f n a) p) : Ex (fun n => x.bind (f n)) p := by
  subst h
  exact k
/-- an error out of a place and a number; 0: none. -/
def eo (at_ e : Int) : Option Int := if e = 0 then none else some (at_ * 64 + e)
theorem eo_zero (at_ : Int) : eo at_ 0 = none := rfl
theorem eo_enc (at_ : Int) (c : Nat) (h : c ≠ 0) : some (enc at_ c) = eo at_ (c : Int) := by
  unfold eo enc
  rw [if_neg (by omega)]
end Go.Proofs.YtohnahbjmcelfaaDoor.V
namespace Go.Proofs.YtohnahbjmcelfaaDoor.V
set_option linter.unusedVariables false
open Go.RowKit Go.Proofs.YtohnahbjmcelfaaDoorW.PrintWords Go.Proofs.YtohnahbjmcelfaaDoorW.PrintLast Go.Proofs.YtohnahbjmcelfaaDoorW.PrintMore Go.Proofs.YtohnahbjmcelfaaDoor.Er

def lo2 (b0 : Int) : Int := if b0 = 224 then 160 else if b0 = 240 then 144 else 128
def hi2 (b0 : Int) : Int := if b0 = 237 then 159 else if b0 = 244 then 143 else 191
/-- what stands at a place: the rune, its width, and a number; m: how many bytes there are from there on. -/
def nx (b0 : Int) (m : Nat) (b1 b2 b3 : Int) : Int × Int × Int :=
  if b0 < 128 then (b0, 1, 0) else if b0 < 194 then (0, 0, 1) else if 245 ≤ b0 then (0, 0, 1) else
  if m ≤ 1 then (0, 0, 2) else if b1 < lo2 b0 then (0, 0, 1) else if hi2 b0 < b1 then (0, 0, 1) else
  if b0 < 224 then ((b0 - 192) * 64 + (b1 - 128), 2, 0) else
  if m ≤ 2 then (0, 0, 2) else if b2 < 128 then (0, 0, 1) else if 191 < b2 then (0, 0, 1) else
  if b0 < 240 then ((b0 - 224) * 4096 + (b1 - 128) * 64 + (b2 - 128), 3, 0) else
  if m ≤ 3 then (0, 0, 2) else if b3 < 128 then (0, 0, 1) else if 191 < b3 then (0, 0, 1) else
  ((b0 - 240) * 262144 + (b1 - 128) * 4096 + (b2 - 128) * 64 + (b3 - 128), 4, 0)
def nxAt (s : ByteArray) (a : Nat) : Int × Int × Int := nx (bt s a) (s.size - a) (bt s (a + 1 : Nat)) (bt s (a + 2 : Nat)) (bt s (a + 3 : Nat))
theorem nx_number (b0 : Int) (m : Nat) (b1 b2 b3 : Int) : (nx b0 m b1 b2 b3).2.2 = 0 ∨ (nx b0 m b1 b2 b3).2.2 = 1 ∨ (nx b0 m b1 b2 b3).2.2 = 2 := by
  unfold nx
  let P : Int × Int × Int → Prop := fun p => p.2.2 = 0 ∨ p.2.2 = 1 ∨ p.2.2 = 2
  show P _
  repeat' (refine ite_p (P := P) (fun _ => ?_) (fun _ => ?_))
  all_goals first | exact .inl rfl | exact .inr (.inl rfl) | exact .inr (.inr rfl)
theorem nx_width (b0 : Int) (m : Nat) (hm : 1 ≤ m) (b1 b2 b3 : Int) (h : (nx b0 m b1 b2 b3).2.2 = 0) : 1 ≤ (nx b0 m b1 b2 b3).2.1 ∧ (nx b0 m b1 b2 b3).2.1 ≤ m := by
  revert h
  unfold nx
  let P : Int × Int × Int → Prop := fun p => p.2.2 = 0 → 1 ≤ p.2.1 ∧ p.2.1 ≤ m
  show P _
  repeat' (refine ite_p (P := P) (fun _ => ?_) (fun _ => ?_))
  all_goals (intro h; first | exact absurd h (show ¬ (1 : Int) = 0 by decide) | exact absurd h (show ¬ (2 : Int) = 0 by decide) | (refine ⟨?_, ?_⟩ <;> (first | omega | (dsimp only; omega))))

/-! ### the program's -/
def firstOf (b : Int) : Int × Int × Int × Int := if b < 128 then (0, b, 128, 191) else if b < 194 then (-1, 0, 128, 191) else if b < 224 then (1, b - 192, 128, 191) else if b < 240 then (2, b - 224, lo2 b, hi2 b) else if b < 245 then (3, b - 240, lo2 b, hi2 b) else (-1, 0, 128, 191)
theorem first_all : ∀ b : Fin 256, utf_first.f 3 ((b.val : Nat) : Int) = some (firstOf ((b.val : Nat) : Int)) := by decide +kernel
theorem first_ev (b : Int) (h0 : 0 ≤ b) (h1 : b ≤ 255) : Ev (fun k => utf_first.f k b) (firstOf b) := by
  refine Ev.of (fun k => utf_first.mono b k) (k := 3) ?_
  have := first_all ⟨b.toNat, by omega⟩
  rwa [show ((b.toNat : Nat) : Int) = b by omega] at this
theorem u8and63 (b : Int) (h0 : 0 ≤ b) (h1 : b ≤ 255) : Go.bits .and .u8 b 63 = b % 64 := u8_and63 _ h0 (by omega)
theorem pnext_end (s : ByteArray) (a x4 x7 x8 x9 x10 : Int) (h : x7 < x10) (h7 : 0 ≤ x7) (h8 : x7 ≤ 3) : Ev (fun k => utf_Next.l0 k s a x4 x7 x8 x9 x10) (x4, x7 + 1, none) := by
  refine Ev.succ ?_
  simp only [utf_Next.l0]
  refine Ev.neg (by omega) ?_
  rw [w64' (by omega) (by omega)]
  exact Ev.now _
theorem pnext_short (s : ByteArray) (hs : s.size ≤ 1000000) (a x4 x7 x8 x9 x10 : Int) (h : x10 ≤ x7) (ha : 0 ≤ a) (hb : a < s.size) (h0 : 1 ≤ x10) (h1 : x10 ≤ 3) (hx : (s.size : Int) ≤ a + x10) : Ev (fun k => utf_Next.l0 k s a x4 x7 x8 x9 x10) (0, 0, eo a 2) := by
  refine Ev.succ ?_
  simp only [utf_Next.l0]
  refine Ev.pos h ?_
  rw [w64' (i := a + x10) (by omega) (by omega)]
  refine Ev.pos hx ?_
  exact Ev.bindc (a := some (enc a 2)) rfl (Ev.is (by rw [eo_enc a 2 (by decide)]; rfl))
theorem pnext_bad (s : ByteArray) (hs : s.size ≤ 1000000) (a x4 x7 x8 x9 x10 : Int) (h : x10 ≤ x7) (ha : 0 ≤ a) (h0 : 1 ≤ x10) (h1 : x10 ≤ 3) (hx : a + x10 < (s.size : Int)) (hw : bt s (a + x10) < x8 ∨ x9 < bt s (a + x10)) : Ev (fun k => utf_Next.l0 k s a x4 x7 x8 x9 x10) (0, 0, eo a 1) := by
  refine Ev.succ ?_
  simp only [utf_Next.l0]
  refine Ev.pos h ?_
  rw [w64' (i := a + x10) (by omega) (by omega)]
  refine Ev.neg (by omega) ?_
  refine Ev.pos (by omega) ?_
  refine Ev.pos hx ?_
  refine Ev.ite (fun _ => ?_) (fun hn => ?_)
  · exact Ev.bindc (a := some (enc a 1)) rfl (Ev.is (by rw [eo_enc a 1 (by decide)]; rfl))
  · refine Ev.pos (by omega) ?_
    exact Ev.bindc (a := some (enc a 1)) rfl (Ev.is (by rw [eo_enc a 1 (by decide)]; rfl))
theorem pnext_go (s : ByteArray) (hs : s.size ≤ 1000000) (a x4 x7 x8 x9 x10 : Int) (r : Int × Int × Option Int) (h : x10 ≤ x7) (ha : 0 ≤ a) (h0 : 1 ≤ x10) (h1 : x10 ≤ 3) (hx : a + x10 < (s.size : Int)) (hw : x8 ≤ bt s (a + x10) ∧ bt s (a + x10) ≤ x9) (h8 : 128 ≤ x8) (h9 : x9 ≤ 191) (h4 : 0 ≤ x4) (h5 : x4 < 1048576)
    (hr : Ev (fun k => utf_Next.l0 k s a (x4 * 64 + (bt s (a + x10) - 128)) x7 128 191 (x10 + 1)) r) : Ev (fun k => utf_Next.l0 k s a x4 x7 x8 x9 x10) r := by
  refine Ev.succ ?_
  simp only [utf_Next.l0]
  refine Ev.pos h ?_
  rw [w64' (i := a + x10) (by omega) (by omega)]
  refine Ev.neg (by omega) ?_
  refine Ev.pos (by omega) ?_
  refine Ev.pos hx ?_
  refine Ev.neg (by omega) ?_
  refine Ev.neg (by omega) ?_
  have hb := bt_range s (a + x10)
  rw [u8and63 _ hb.1 hb.2, w32' (i := x4 * 64) (by omega) (by omega), w32' (i := bt s (a + x10) % 64) (by omega) (by omega), i32_or6 _ _ (by omega) (by omega) (by omega) (by omega) (by omega), w64' (i := x10 + 1) (by omega) (by omega)]
  have e : x4 * 64 + bt s (a + x10) % 64 = x4 * 64 + (bt s (a + x10) - 128) := by omega
  rw [e]
  exact hr
theorem lo2_range (b : Int) : 128 ≤ lo2 b ∧ lo2 b ≤ 160 := by unfold lo2; repeat' split <;> omega
theorem hi2_range (b : Int) : 143 ≤ hi2 b ∧ hi2 b ≤ 191 := by unfold hi2; repeat' split <;> omega
def errOf (a : Int) (p : Int × Int × Int) : Int × Int × Option Int := (p.1, p.2.1, eo a p.2.2)
theorem pnext_ev (s : ByteArray) (hs : s.size ≤ 1000000) (a : Nat) (ha : a < s.size) : Ev (fun k => utf_Next.f k s (a : Int)) (errOf a (nxAt s a)) := by
  have hb0 := bt_range s (a : Int)
  have e1 : ((a + 1 : Nat) : Int) = (a : Int) + 1 := by omega
  have e2 : ((a + 2 : Nat) : Int) = (a : Int) + 2 := by omega
  have e3 : ((a + 3 : Nat) : Int) = (a : Int) + 3 := by omega
  have hb1 := bt_range s ((a : Int) + 1)
  have hb2 := bt_range s ((a : Int) + 2)
  have hb3 := bt_range s ((a : Int) + 3)
  have hl := lo2_range (bt s (a : Int))
  have hh := hi2_range (bt s (a : Int))
  unfold utf_Next.f nxAt
  rw [e1, e2, e3]
  refine Ev.neg (by omega) ?_
  rw [decide_eq_false (by omega)]
  refine Ev.succ ?_
  simp only [utf_Next.j0]
  refine Ev.neg (by simp) ?_
  refine Ev.pos (by omega) ?_
  refine Ev.pos (by omega) ?_
  refine Ev.bind (first_ev _ hb0.1 hb0.2) ?_
  have fault1 : Ev (fun _ : Nat => (utf_fault.f (a : Int) 1).bind fun t153 => some ((0 : Int), (0 : Int), t153)) (errOf a (0, 0, 1)) := Ev.bindc (a := some (enc a 1)) rfl (Ev.is (by rw [eo_enc a 1 (by decide)]; rfl))
  unfold nx firstOf
  by_cases c0 : bt s (a : Int) < 128
  · simp only [if_pos c0]
    refine Ev.neg (by omega) ?_
    exact Ev.to (pnext_end s a _ 0 _ _ 1 (by omega) (by omega) (by omega)) rfl
  simp only [if_neg c0]
  by_cases c1 : bt s (a : Int) < 194
  · simp only [if_pos c1]
    exact Ev.pos (by omega) fault1
  simp only [if_neg c1]
  by_cases c2 : 245 ≤ bt s (a : Int)
  · simp only [if_pos c2, if_neg (show ¬ bt s (a : Int) < 224 by omega), if_neg (show ¬ bt s (a : Int) < 240 by omega), if_neg (show ¬ bt s (a : Int) < 245 by omega)]
    exact Ev.pos (by omega) fault1
  simp only [if_neg c2]
  -- the second byte
  have two : ∀ (m bits low high : Int), 1 ≤ m → m ≤ 3 → 0 ≤ bits → bits < 32 → low = lo2 (bt s (a : Int)) → high = hi2 (bt s (a : Int)) → ∀ r : Int × Int × Int,
      (s.size - a > 1 → low ≤ bt s ((a : Int) + 1) → bt s ((a : Int) + 1) ≤ high → Ev (fun k => utf_Next.l0 k s a (bits * 64 + (bt s ((a : Int) + 1) - 128)) m 128 191 2) (errOf a r)) →
      Ev (fun k => utf_Next.l0 k s a bits m low high 1) (errOf a (if s.size - a ≤ 1 then (0, 0, 2) else if bt s ((a : Int) + 1) < lo2 (bt s (a : Int)) then (0, 0, 1) else if hi2 (bt s (a : Int)) < bt s ((a : Int) + 1) then (0, 0, 1) else r)) := by
    intro m bits low high hm1 hm3 hb0' hb1' hlow hhigh r hr
    by_cases d1 : s.size - a ≤ 1
    · simp only [if_pos d1]
      exact (pnext_short s hs a _ m _ _ 1 (by omega) (by omega) (by omega) (by omega) (by omega) (by omega))
    simp only [if_neg d1]
    by_cases d2 : bt s ((a : Int) + 1) < lo2 (bt s (a : Int))
    · simp only [if_pos d2]
      exact (pnext_bad s hs a _ m _ _ 1 (by omega) (by omega) (by omega) (by omega) (by omega) (.inl (by omega)))
    simp only [if_neg d2]
    by_cases d3 : hi2 (bt s (a : Int)) < bt s ((a : Int) + 1)
    · simp only [if_pos d3]
      exact (pnext_bad s hs a _ m _ _ 1 (by omega) (by omega) (by omega) (by omega) (by omega) (.inr (by omega)))
    simp only [if_neg d3]
    exact pnext_go s hs a _ m _ _ 1 _ (by omega) (by omega) (by omega) (by omega) (by omega) ⟨by omega, by omega⟩ (by omega) (by omega) (by omega) (by omega) (hr (by omega) (by omega) (by omega))
  -- the third and the fourth byte
  have more : ∀ (j : Nat) (m bits : Int), (j = 2 ∨ j = 3) → (j : Int) ≤ m → m ≤ 3 → 0 ≤ bits → bits < 262144 → ∀ r : Int × Int × Int,
      (s.size - a > j → 128 ≤ bt s ((a : Int) + j) → bt s ((a : Int) + j) ≤ 191 → Ev (fun k => utf_Next.l0 k s a (bits * 64 + (bt s ((a : Int) + j) - 128)) m 128 191 (j + 1)) (errOf a r)) →
      Ev (fun k => utf_Next.l0 k s a bits m 128 191 j) (errOf a (if s.size - a ≤ j then (0, 0, 2) else if bt s ((a : Int) + j) < 128 then (0, 0, 1) else if 191 < bt s ((a : Int) + j) then (0, 0, 1) else r)) := by
    intro j m bits hj hm1 hm3 hb0' hb1' r hr
    by_cases d1 : s.size - a ≤ j
    · simp only [if_pos d1]
      exact (pnext_short s hs a _ m _ _ j (by omega) (by omega) (by omega) (by omega) (by omega) (by omega))
    simp only [if_neg d1]
    by_cases d2 : bt s ((a : Int) + j) < 128
    · simp only [if_pos d2]
      exact (pnext_bad s hs a _ m _ _ j (by omega) (by omega) (by omega) (by omega) (by omega) (.inl (by omega)))
    simp only [if_neg d2]
    by_cases d3 : 191 < bt s ((a : Int) + j)
    · simp only [if_pos d3]
      exact (pnext_bad s hs a _ m _ _ j (by omega) (by omega) (by omega) (by omega) (by omega) (.inr (by omega)))
    simp only [if_neg d3]
    exact pnext_go s hs a _ m _ _ j _ (by omega) (by omega) (by omega) (by omega) (by omega) ⟨by omega, by omega⟩ (by omega) (by omega) (by omega) (by omega) (hr (by omega) (by omega) (by omega))
  by_cases c3 : bt s (a : Int) < 224
  · simp only [if_pos c3]
    refine Ev.neg (by omega) ?_
    refine two 1 _ 128 191 (by omega) (by omega) (by omega) (by omega) (by unfold lo2; repeat' split <;> omega) (by unfold hi2; repeat' split <;> omega) _ (fun _ h1 h2 => ?_)
    exact Ev.to (pnext_end s a _ 1 _ _ 2 (by omega) (by omega) (by omega)) rfl
  simp only [if_neg c3]
  by_cases c4 : bt s (a : Int) < 240
  · simp only [if_pos c4]
    refine Ev.neg (by omega) ?_
    refine two 2 _ _ _ (by omega) (by omega) (by omega) (by omega) rfl rfl _ (fun _ h1 h2 => ?_)
    refine more 2 2 _ (by omega) (by omega) (by omega) (by omega) (by omega) _ (fun _ h3 h4 => ?_)
    refine Ev.to (pnext_end s a _ 2 _ _ 3 (by omega) (by omega) (by omega)) ?_
    unfold errOf
    refine Prod.ext ?_ rfl
    show ((bt s (a : Int) - 224) * 64 + (bt s ((a : Int) + 1) - 128)) * 64 + (bt s ((a : Int) + (2 : Nat)) - 128) = (bt s (a : Int) - 224) * 4096 + (bt s ((a : Int) + 1) - 128) * 64 + (bt s ((a : Int) + 2) - 128)
    rw [show ((2 : Nat) : Int) = 2 from rfl]
    omega
  simp only [if_neg c4, if_pos (show bt s (a : Int) < 245 by omega)]
  refine Ev.neg (by omega) ?_
  refine two 3 _ _ _ (by omega) (by omega) (by omega) (by omega) rfl rfl _ (fun _ h1 h2 => ?_)
  refine more 2 3 _ (by omega) (by omega) (by omega) (by omega) (by omega) _ (fun _ h3 h4 => ?_)
  refine more 3 3 _ (by omega) (by omega) (by omega) (by omega) (by omega) _ (fun _ h5 h6 => ?_)
  refine Ev.to (pnext_end s a _ 3 _ _ 4 (by omega) (by omega) (by omega)) ?_
  unfold errOf
  refine Prod.ext ?_ rfl
  show (((bt s (a : Int) - 240) * 64 + (bt s ((a : Int) + 1) - 128)) * 64 + (bt s ((a : Int) + (2 : Nat)) - 128)) * 64 + (bt s ((a : Int) + (3 : Nat)) - 128) = (bt s (a : Int) - 240) * 262144 + (bt s ((a : Int) + 1) - 128) * 4096 + (bt s ((a : Int) + 2) - 128) * 64 + (bt s ((a : Int) + 3) - 128)
  rw [show ((2 : Nat) : Int) = 2 from rfl, show ((3 : Nat) : Int) = 3 from rfl]
  omega
end Go.Proofs.YtohnahbjmcelfaaDoor.V
namespace Go.Proofs.YtohnahbjmcelfaaDoor.V
set_option linter.unusedVariables false
open Go.RowKit Go.Proofs.YtohnahbjmcelfaaDoorW.PrintWords Go.Proofs.YtohnahbjmcelfaaDoorW.PrintLast Go.Proofs.YtohnahbjmcelfaaDoorW.PrintMore Go.Proofs.YtohnahbjmcelfaaDoor.Er

/-- a whole text's runes, from a place on; or the place and the number of what is wrong first. -/
def decL (s : ByteArray) : Nat → Nat → List Int → List Int × Int × Int
  | 0, _, out => (out, 0, 0)
  | d + 1, a, out => if a < s.size then (if (nxAt s a).2.2 = 0 then decL s d (a + (nxAt s a).2.1.toNat) (out ++ [(nxAt s a).1]) else ([], (a : Int), (nxAt s a).2.2)) else (out, 0, 0)
def decS (s : ByteArray) : List Int × Int × Int := decL s s.size 0 []
def errL (p : List Int × Int × Int) : List Int × Option Int := (p.1, eo p.2.1 p.2.2)
theorem decL_end (s : ByteArray) (d a : Nat) (out : List Int) (h : s.size ≤ a) : decL s d a out = (out, 0, 0) := by
  cases d with
  | zero => rfl
  | succ d => exact if_neg (by omega)
theorem pdec_l0 (s : ByteArray) (hs : s.size ≤ 1000000) : ∀ (d a : Nat) (out : List Int), s.size ≤ a + d → a ≤ s.size → out.length ≤ a → Ev (fun k => utf_Decode.l0 k s out (a : Int)) (errL (decL s d a out))
  | d, a, out, hd, ha, ho => by
    by_cases c : a < s.size
    rotate_left
    · rw [decL_end s d a out (by omega)]
      refine Ev.succ ?_
      simp only [utf_Decode.l0]
      exact Ev.neg (by omega) (Ev.now _)
    cases d with
    | zero => omega
    | succ d =>
      have hw := nx_width (bt s (a : Int)) (s.size - a) (by omega) (bt s (a + 1 : Nat)) (bt s (a + 2 : Nat)) (bt s (a + 3 : Nat))
      have hn := nx_number (bt s (a : Int)) (s.size - a) (bt s (a + 1 : Nat)) (bt s (a + 2 : Nat)) (bt s (a + 3 : Nat))
      refine Ev.succ ?_
      simp only [utf_Decode.l0]
      refine Ev.pos (by omega) (Ev.bind (pnext_ev s hs a c) ?_)
      simp only [decL, if_pos c, errOf]
      by_cases e : (nxAt s a).2.2 = 0
      · rw [if_pos e]
        have hw' := hw e
        have h0 : eo (a : Int) (nxAt s a).2.2 = none := by rw [e]; rfl
        refine Ev.pos (by rw [h0]; rfl) (Ev.pos (by omega) ?_)
        have hw1 : 1 ≤ (nxAt s a).2.1 := hw'.1
        have hw2 : (nxAt s a).2.1 ≤ ((s.size - a : Nat) : Int) := hw'.2
        rw [w64' (by omega) (by omega), show (a : Int) + (nxAt s a).2.1 = ((a + (nxAt s a).2.1.toNat : Nat) : Int) by omega]
        exact pdec_l0 s hs d _ _ (by omega) (by omega) (by simp; omega)
      · rw [if_neg e]
        have : eo (a : Int) (nxAt s a).2.2 = some ((a : Int) * 64 + (nxAt s a).2.2) := if_neg e
        refine Ev.neg (by rw [this]; simp) (Ev.is ?_)
        rw [this]
        unfold errL
        rw [this]
        rfl
termination_by d => d
theorem pdec_ev (s : ByteArray) (hs : s.size ≤ 1000000) : Ev (fun k => utf_Decode.f k s) (errL (decS s)) := pdec_l0 s hs s.size 0 [] (by omega) (by omega) (by simp)
theorem decL_number (s : ByteArray) : ∀ (d a : Nat) (out : List Int), 0 ≤ (decL s d a out).2.2 ∧ (decL s d a out).2.2 ≤ 2
  | 0, a, out => by simp [decL]
  | d + 1, a, out => by
    have hn := nx_number (bt s (a : Int)) (s.size - a) (bt s (a + 1 : Nat)) (bt s (a + 2 : Nat)) (bt s (a + 3 : Nat))
    simp only [decL]
    by_cases c : a < s.size
    · rw [if_pos c]
      by_cases e : (nxAt s a).2.2 = 0
      · rw [if_pos e]; exact decL_number s d _ _
      · rw [if_neg e]
        have hn' : (nxAt s a).2.2 = 0 ∨ (nxAt s a).2.2 = 1 ∨ (nxAt s a).2.2 = 2 := hn
        simp only
        omega
    · rw [if_neg c]; simp
theorem decS_number (s : ByteArray) : 0 ≤ (decS s).2.2 ∧ (decS s).2.2 ≤ 2 := decL_number s _ _ _
end Go.Proofs.YtohnahbjmcelfaaDoor.V
