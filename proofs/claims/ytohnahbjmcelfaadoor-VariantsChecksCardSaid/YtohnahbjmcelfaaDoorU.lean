/-
  UTF-8, plainly: the program's reading of a text and the reference's come to the same runes, places and numbers. No condition but a size.
  UTF-8, plainly, second part: the reference's reading of one place. No condition but a size.
  UTF-8, plainly, third part: the reference's reading of one place is the program's. No condition but a size.
  UTF-8, plainly, fourth part: the reference's reading of one place comes to the same as the program's; and so does a whole text's. No condition but a size.
  UTF-8, plainly, fifth part: the reference's reading of one place, and of a whole text. No condition but a size.
  UTF-8, plainly, sixth part: one place, and a whole text, as the program and as the reference read it. No condition but a size.
-/
import Derived.Test.YtohnahbjmcelfaaDoorP0
namespace Go.Proofs.YtohnahbjmcelfaaDoor.V
set_option linter.unusedVariables false
open Go.RowKit Go.Proofs.YtohnahbjmcelfaaDoorW.PrintWords Go.Proofs.YtohnahbjmcelfaaDoorW.PrintLast Go.Proofs.YtohnahbjmcelfaaDoorW.PrintMore Go.Proofs.YtohnahbjmcelfaaDoor.Er

def lo2 (b0 : Int) : Int := if b0 = 224 then 160 else if b0 = 240 then 144 else 128
def hi2 (b0 : Int) : Int := if b0 = 237 then 159 else if b0 = 244 then 143 else 191
/-- what stands at a place: the rune, its width, and a number; m: how many bytes there are from there on. -/
def nx (b0 : Int) (m : Nat) (b1 b2 b3 : Int) : Int × Int × Int :=
  if b0 < 128 then (b0, 1, 0) else if b0 < 194 then (0, 0, 1) else if 245 ≤ b0 then (0, 0, 1) else
  if m ≤ 1 then (0, 0, 2) else if b1 < lo2 b0 then (0, 0, 1) else if hi2 b0 < b1 then (0, 0, 1) else
  if b0 < 224 then ((b0 - 192) * 64 + (b1 - 128), 2, 0) else
  if m ≤ 2 then (0, 0, 2) else if b2 < 128 then (0, 0, 1) else if 191 < b2 then (0, 0, 1) else
  if b0 < 240 then ((b0 - 224) * 4096 + (b1 - 128) * 64 + (b2 - 128), 3, 0) else
  if m ≤ 3 then (0, 0, 2) else if b3 < 128 then (0, 0, 1) else if 191 < b3 then (0, 0, 1) else
  ((b0 - 240) * 262144 + (b1 - 128) * 4096 + (b2 - 128) * 64 + (b3 - 128), 4, 0)
def nxAt (s : ByteArray) (a : Nat) : Int × Int × Int := nx (bt s a) (s.size - a) (bt s (a + 1 : Nat)) (bt s (a + 2 : Nat)) (bt s (a + 3 : Nat))
theorem nx_number (b0 : Int) (m : Nat) (b1 b2 b3 : Int) : (nx b0 m b1 b2 b3).2.2 = 0 ∨ (nx b0 m b1 b2 b3).2.2 = 1 ∨ (nx b0 m b1 b2 b3).2.2 = 2 := by
  unfold nx
  let P : Int × Int × Int → Prop := fun p => p.2.2 = 0 ∨ p.2.2 = 1 ∨ p.2.2 = 2
  show P _
  repeat' (refine ite_p (P := P) (fun _ => ?_) (fun _ => ?_))
  all_goals first | exact .inl rfl | exact .inr (.inl rfl) | exact .inr (.inr rfl)
theorem nx_width (b0 : Int) (m : Nat) (hm : 1 ≤ m) (b1 b2 b3 : Int) (h : (nx b0 m b1 b2 b3).2.2 = 0) : 1 ≤ (nx b0 m b1 b2 b3).2.1 ∧ (nx b0 m b1 b2 b3).2.1 ≤ m := by
  revert h
  unfold nx
  let P : Int × Int × Int → Prop := fun p => p.2.2 = 0 → 1 ≤ p.2.1 ∧ p.2.1 ≤ m
  show P _
  repeat' (refine ite_p (P := P) (fun _ => ?_) (fun _ => ?_))
  all_goals (intro h; first | exact absurd h (show ¬ (1 : Int) = 0 by decide) | exact absurd h (show ¬ (2 : Int) = 0 by decide) | (refine ⟨?_, ?_⟩ <;> (first | omega | (dsimp only; omega))))

/-! ### the program's -/
def firstOf (b : Int) : Int × Int × Int × Int := if b < 128 then (0, b, 128, 191) else if b < 194 then (-1, 0, 128, 191) else if b < 224 then (1, b - 192, 128, 191) else if b < 240 then (2, b - 224, lo2 b, hi2 b) else if b < 245 then (3, b - 240, lo2 b, hi2 b) else (-1, 0, 128, 191)
theorem first_all : ∀ b : Fin 256, utf_first.f 3 ((b.val : Nat) : Int) = some (firstOf ((b.val : Nat) : Int)) := by decide +kernel
theorem first_ev (b : Int) (h0 : 0 ≤ b) (h1 : b ≤ 255) : Ev (fun k => utf_first.f k b) (firstOf b) := by
  refine Ev.of (fun k => utf_first.mono b k) (k := 3) ?_
  have := first_all ⟨b.toNat, by omega⟩
  rwa [show ((b.toNat : Nat) : Int) = b by omega] at this
theorem u8and63 (b : Int) (h0 : 0 ≤ b) (h1 : b ≤ 255) : Go.bits .and .u8 b 63 = b % 64 := u8_and63 _ h0 (by omega)
theorem pnext_end (s : ByteArray) (a x4 x7 x8 x9 x10 : Int) (h : x7 < x10) (h7 : 0 ≤ x7) (h8 : x7 ≤ 3) : Ev (fun k => utf_Next.l0 k s a x4 x7 x8 x9 x10) (x4, x7 + 1, none) := by
  refine Ev.succ ?_
  simp only [utf_Next.l0]
  refine Ev.neg (by omega) ?_
  rw [w64' (by omega) (by omega)]
  exact Ev.now _
theorem pnext_short (s : ByteArray) (hs : s.size ≤ 1000000) (a x4 x7 x8 x9 x10 : Int) (h : x10 ≤ x7) (ha : 0 ≤ a) (hb : a < s.size) (h0 : 1 ≤ x10) (h1 : x10 ≤ 3) (hx : (s.size : Int) ≤ a + x10) : Ev (fun k => utf_Next.l0 k s a x4 x7 x8 x9 x10) (0, 0, eo a 2) := by
  refine Ev.succ ?_
  simp only [utf_Next.l0]
  refine Ev.pos h ?_
  rw [w64' (i := a + x10) (by omega) (by omega)]
  refine Ev.pos hx ?_
  exact Ev.bindc (a := some (enc a 2)) rfl (Ev.is (by rw [eo_enc a 2 (by decide)]; rfl))
theorem pnext_bad (s : ByteArray) (hs : s.size ≤ 1000000) (a x4 x7 x8 x9 x10 : Int) (h : x10 ≤ x7) (ha : 0 ≤ a) (h0 : 1 ≤ x10) (h1 : x10 ≤ 3) (hx : a + x10 < (s.size : Int)) (hw : bt s (a + x10) < x8 ∨ x9 < bt s (a + x10)) : Ev (fun k => utf_Next.l0 k s a x4 x7 x8 x9 x10) (0, 0, eo a 1) := by
  refine Ev.succ ?_
  simp only [utf_Next.l0]
  refine Ev.pos h ?_
  rw [w64' (i := a + x10) (by omega) (by omega)]
  refine Ev.neg (by omega) ?_
  refine Ev.pos (by omega) ?_
  refine Ev.pos hx ?_
  refine Ev.ite (fun _ => ?_) (fun hn => ?_)
  · exact Ev.bindc (a := some (enc a 1)) rfl (Ev.is (by rw [eo_enc a 1 (by decide)]; rfl))
  · refine Ev.pos (by omega) ?_
    exact Ev.bindc (a := some (enc a 1)) rfl (Ev.is (by rw [eo_enc a 1 (by decide)]; rfl))
theorem pnext_go (s : ByteArray) (hs : s.size ≤ 1000000) (a x4 x7 x8 x9 x10 : Int) (r : Int × Int × Option Int) (h : x10 ≤ x7) (ha : 0 ≤ a) (h0 : 1 ≤ x10) (h1 : x10 ≤ 3) (hx : a + x10 < (s.size : Int)) (hw : x8 ≤ bt s (a + x10) ∧ bt s (a + x10) ≤ x9) (h8 : 128 ≤ x8) (h9 : x9 ≤ 191) (h4 : 0 ≤ x4) (h5 : x4 < 1048576)
    (hr : Ev (fun k => utf_Next.l0 k s a (x4 * 64 + (bt s (a + x10) - 128)) x7 128 191 (x10 + 1)) r) : Ev (fun k => utf_Next.l0 k s a x4 x7 x8 x9 x10) r := by
  refine Ev.succ ?_
  simp only [utf_Next.l0]
  refine Ev.pos h ?_
  rw [w64' (i := a + x10) (by omega) (by omega)]
  refine Ev.neg (by omega) ?_
  refine Ev.pos (by omega) ?_
  refine Ev.pos hx ?_
  refine Ev.neg (by omega) ?_
  refine Ev.neg (by omega) ?_
  have hb := bt_range s (a + x10)
  rw [u8and63 _ hb.1 hb.2, w32' (i := x4 * 64) (by omega) (by omega), w32' (i := bt s (a + x10) % 64) (by omega) (by omega), i32_or6 _ _ (by omega) (by omega) (by omega) (by omega) (by omega), w64' (i := x10 + 1) (by omega) (by omega)]
  have e : x4 * 64 + bt s (a + x10) % 64 = x4 * 64 + (bt s (a + x10) - 128) := by omega
  rw [e]
  exact hr
theorem lo2_range (b : Int) : 128 ≤ lo2 b ∧ lo2 b ≤ 160 := by unfold lo2; repeat' split <;> omega
theorem hi2_range (b : Int) : 143 ≤ hi2 b ∧ hi2 b ≤ 191 := by unfold hi2; repeat' split <;> omega
def errOf (a : Int) (p : Int × Int × Int) : Int × Int × Option Int := (p.1, p.2.1, eo a p.2.2)
theorem pnext_ev (s : ByteArray) (hs : s.size ≤ 1000000) (a : Nat) (ha : a < s.size) : Ev (fun k => utf_Next.f k s (a : Int)) (errOf a (nxAt s a)) := by
  have hb0 := bt_range s (a : Int)
  have e1 : ((a + 1 : Nat) : Int) = (a : Int) + 1 := by omega
  have e2 : ((a + 2 : Nat) : Int) = (a : Int) + 2 := by omega
  have e3 : ((a + 3 : Nat) : Int) = (a : Int) + 3 := by omega
  have hb1 := bt_range s ((a : Int) + 1)
  have hb2 := bt_range s ((a : Int) + 2)
  have hb3 := bt_range s ((a : Int) + 3)
  have hl := lo2_range (bt s (a : Int))
  have hh := hi2_range (bt s (a : Int))
  unfold utf_Next.f nxAt
  rw [e1, e2, e3]
  refine Ev.neg (by omega) ?_
  rw [decide_eq_false (by omega)]
  refine Ev.succ ?_
  simp only [utf_Next.j0]
  refine Ev.neg (by simp) ?_
  refine Ev.pos (by omega) ?_
  refine Ev.pos (by omega) ?_
  refine Ev.bind (first_ev _ hb0.1 hb0.2) ?_
  have fault1 : Ev (fun _ : Nat => (utf_fault.f (a : Int) 1).bind fun t153 => some ((0 : Int), (0 : Int), t153)) (errOf a (0, 0, 1)) := Ev.bindc (a := some (enc a 1)) rfl (Ev.is (by rw [eo_enc a 1 (by decide)]; rfl))
  unfold nx firstOf
  by_cases c0 : bt s (a : Int) < 128
  · simp only [if_pos c0]
    refine Ev.neg (by omega) ?_
    exact Ev.to (pnext_end s a _ 0 _ _ 1 (by omega) (by omega) (by omega)) rfl
  simp only [if_neg c0]
  by_cases c1 : bt s (a : Int) < 194
  · simp only [if_pos c1]
    exact Ev.pos (by omega) fault1
  simp only [if_neg c1]
  by_cases c2 : 245 ≤ bt s (a : Int)
  · simp only [if_pos c2, if_neg (show ¬ bt s (a : Int) < 224 by omega), if_neg (show ¬ bt s (a : Int) < 240 by omega), if_neg (show ¬ bt s (a : Int) < 245 by omega)]
    exact Ev.pos (by omega) fault1
  simp only [if_neg c2]
  -- the second byte
  have two : ∀ (m bits low high : Int), 1 ≤ m → m ≤ 3 → 0 ≤ bits → bits < 32 → low = lo2 (bt s (a : Int)) → high = hi2 (bt s (a : Int)) → ∀ r : Int × Int × Int,
      (s.size - a > 1 → low ≤ bt s ((a : Int) + 1) → bt s ((a : Int) + 1) ≤ high → Ev (fun k => utf_Next.l0 k s a (bits * 64 + (bt s ((a : Int) + 1) - 128)) m 128 191 2) (errOf a r)) →
      Ev (fun k => utf_Next.l0 k s a bits m low high 1) (errOf a (if s.size - a ≤ 1 then (0, 0, 2) else if bt s ((a : Int) + 1) < lo2 (bt s (a : Int)) then (0, 0, 1) else if hi2 (bt s (a : Int)) < bt s ((a : Int) + 1) then (0, 0, 1) else r)) := by
    intro m bits low high hm1 hm3 hb0' hb1' hlow hhigh r hr
    by_cases d1 : s.size - a ≤ 1
    · simp only [if_pos d1]
      exact (pnext_short s hs a _ m _ _ 1 (by omega) (by omega) (by omega) (by omega) (by omega) (by omega))
    simp only [if_neg d1]
    by_cases d2 : bt s ((a : Int) + 1) < lo2 (bt s (a : Int))
    · simp only [if_pos d2]
      exact (pnext_bad s hs a _ m _ _ 1 (by omega) (by omega) (by omega) (by omega) (by omega) (.inl (by omega)))
    simp only [if_neg d2]
    by_cases d3 : hi2 (bt s (a : Int)) < bt s ((a : Int) + 1)
    · simp only [if_pos d3]
      exact (pnext_bad s hs a _ m _ _ 1 (by omega) (by omega) (by omega) (by omega) (by omega) (.inr (by omega)))
    simp only [if_neg d3]
    exact pnext_go s hs a _ m _ _ 1 _ (by omega) (by omega) (by omega) (by omega) (by omega) ⟨by omega, by omega⟩ (by omega) (by omega) (by omega) (by omega) (hr (by omega) (by omega) (by omega))
  -- the third and the fourth byte
  have more : ∀ (j : Nat) (m bits : Int), (j = 2 ∨ j = 3) → (j : Int) ≤ m → m ≤ 3 → 0 ≤ bits → bits < 262144 → ∀ r : Int × Int × Int,
      (s.size - a > j → 128 ≤ bt s ((a : Int) + j) → bt s ((a : Int) + j) ≤ 191 → Ev (fun k => utf_Next.l0 k s a (bits * 64 + (bt s ((a : Int) + j) - 128)) m 128 191 (j + 1)) (errOf a r)) →
      Ev (fun k => utf_Next.l0 k s a bits m 128 191 j) (errOf a (if s.size - a ≤ j then (0, 0, 2) else if bt s ((a : Int) + j) < 128 then (0, 0, 1) else if 191 < bt s ((a : Int) + j) then (0, 0, 1) else r)) := by
    intro j m bits hj hm1 hm3 hb0' hb1' r hr
    by_cases d1 : s.size - a ≤ j
    · simp only [if_pos d1]
      exact (pnext_short s hs a _ m _ _ j (by omega) (by omega) (by omega) (by omega) (by omega) (by omega))
    simp only [if_neg d1]
    by_cases d2 : bt s ((a : Int) + j) < 128
    · simp only [if_pos d2]
      exact (pnext_bad s hs a _ m _ _ j (by omega) (by omega) (by omega) (by omega) (by omega) (.inl (by omega)))
    simp only [if_neg d2]
    by_cases d3 : 191 < bt s ((a : Int) + j)
    · simp only [if_pos d3]
      exact (pnext_bad s hs a _ m _ _ j (by omega) (by omega) (by omega) (by omega) (by omega) (.inr (by omega)))
    simp only [if_neg d3]
    exact pnext_go s hs a _ m _ _ j _ (by omega) (by omega) (by omega) (by omega) (by omega) ⟨by omega, by omega⟩ (by omega) (by omega) (by omega) (by omega) (hr (by omega) (by omega) (by omega))
  by_cases c3 : bt s (a : Int) < 224
  · simp only [if_pos c3]
    refine Ev.neg (by omega) ?_
    refine two 1 _ 128 191 (by omega) (by omega) (by omega) (by omega) (by unfold lo2; repeat' split <;> omega) (by unfold hi2; repeat' split <;> omega) _ (fun _ h1 h2 => ?_)
    exact Ev.to (pnext_end s a _ 1 _ _ 2 (by omega) (by omega) (by omega)) rfl
  simp only [if_neg c3]
  by_cases c4 : bt s (a : Int) < 240
  · simp only [if_pos c4]
    refine Ev.neg (by omega) ?_
    refine two 2 _ _ _ (by omega) (by omega) (by omega) (by omega) rfl rfl _ (fun _ h1 h2 => ?_)
    refine more 2 2 _ (by omega) (by omega) (by omega) (by omega) (by omega) _ (fun _ h3 h4 => ?_)
    refine Ev.to (pnext_end s a _ 2 _ _ 3 (by omega) (by omega) (by omega)) ?_
    unfold errOf
    refine Prod.ext ?_ rfl
    show ((bt s (a : Int) - 224) * 64 + (bt s ((a : Int) + 1) - 128)) * 64 + (bt s ((a : Int) + (2 : Nat)) - 128) = (bt s (a : Int) - 224) * 4096 + (bt s ((a : Int) + 1) - 128) * 64 + (bt s ((a : Int) + 2) - 128)
    rw [show ((2 : Nat) : Int) = 2 from rfl]
    omega
  simp only [if_neg c4, if_pos (show bt s (a : Int) < 245 by omega)]
  refine Ev.neg (by omega) ?_
  refine two 3 _ _ _ (by omega) (by omega) (by omega) (by omega) rfl rfl _ (fun _ h1 h2 => ?_)
  refine more 2 3 _ (by omega) (by omega) (by omega) (by omega) (by omega) _ (fun _ h3 h4 => ?_)
  refine more 3 3 _ (by omega) (by omega) (by omega) (by omega) (by omega) _ (fun _ h5 h6 => ?_)
  refine Ev.to (pnext_end s a _ 3 _ _ 4 (by omega) (by omega) (by omega)) ?_
  unfold errOf
  refine Prod.ext ?_ rfl
  show (((bt s (a : Int) - 240) * 64 + (bt s ((a : Int) + 1) - 128)) * 64 + (bt s ((a : Int) + (2 : Nat)) - 128)) * 64 + (bt s ((a : Int) + (3 : Nat)) - 128) = (bt s (a : Int) - 240) * 262144 + (bt s ((a : Int) + 1) - 128) * 4096 + (bt s ((a : Int) + 2) - 128) * 64 + (bt s ((a : Int) + 3) - 128)
  rw [show ((2 : Nat) : Int) = 2 from rfl, show ((3 : Nat) : Int) = 3 from rfl]
  omega
end Go.Proofs.YtohnahbjmcelfaaDoor.V
namespace Go.Proofs.YtohnahbjmcelfaaDoor.V
set_option linter.unusedVariables false
open Go.RowKit Go.Proofs.YtohnahbjmcelfaaDoorW.PrintWords Go.Proofs.YtohnahbjmcelfaaDoorW.PrintLast Go.Proofs.YtohnahbjmcelfaaDoorW.PrintMore Go.Proofs.YtohnahbjmcelfaaDoor.Er

/-- the rune that n bytes would be, by their bits; -1: none. -/
def val1 (b0 : Int) : Int := if b0 < 128 then b0 else -1
def val2 (b0 b1 : Int) : Int := if 192 ≤ b0 ∧ b0 < 224 ∧ 128 ≤ b1 ∧ b1 ≤ 191 then (b0 - 192) * 64 + (b1 - 128) else -1
def val3 (b0 b1 b2 : Int) : Int := if 224 ≤ b0 ∧ b0 < 240 ∧ 128 ≤ b1 ∧ b1 ≤ 191 ∧ 128 ≤ b2 ∧ b2 ≤ 191 then (b0 - 224) * 4096 + (b1 - 128) * 64 + (b2 - 128) else -1
def val4 (b0 b1 b2 b3 : Int) : Int := if 240 ≤ b0 ∧ b0 < 248 ∧ 128 ≤ b1 ∧ b1 ≤ 191 ∧ 128 ≤ b2 ∧ b2 ≤ 191 ∧ 128 ≤ b3 ∧ b3 ≤ 191 then (b0 - 240) * 262144 + (b1 - 128) * 4096 + (b2 - 128) * 64 + (b3 - 128) else -1

theorem val_end (t : ByteArray) (n x5 : Int) (j : Int) (h : n ≤ j) : Ev (fun k => eponymref01_value.l0 k t n x5 j) x5 := by
  refine Ev.succ ?_
  simp only [eponymref01_value.l0]
  exact Ev.neg (by omega) (Ev.now _)
theorem val_bad (t : ByteArray) (n x5 : Int) (j : Int) (h : j < n) (h0 : 0 ≤ j) (h1 : n = t.size) (hw : bt t j < 128 ∨ 191 < bt t j) : Ev (fun k => eponymref01_value.l0 k t n x5 j) (-1) := by
  refine Ev.succ ?_
  simp only [eponymref01_value.l0]
  refine Ev.pos h (Ev.pos h0 (Ev.pos (by omega) (Ev.ite (fun _ => Ev.now _) (fun hn => Ev.pos (by omega) (Ev.now _)))))
theorem val_go (t : ByteArray) (n x5 : Int) (j r : Int) (h : j < n) (h0 : 0 ≤ j) (h4 : j ≤ 4) (h1 : n = t.size) (hw : 128 ≤ bt t j ∧ bt t j ≤ 191) (h2 : 0 ≤ x5) (h3 : x5 < 1048576)
    (hr : Ev (fun k => eponymref01_value.l0 k t n (x5 * 64 + (bt t j - 128)) (j + 1)) r) : Ev (fun k => eponymref01_value.l0 k t n x5 j) r := by
  refine Ev.succ ?_
  simp only [eponymref01_value.l0]
  refine Ev.pos h (Ev.pos h0 (Ev.pos (by omega) (Ev.neg (by omega) (Ev.neg (by omega) ?_))))
  rw [w64' (i := j + 1) (by omega) (by omega), w32' (i := x5 * 64) (by omega) (by omega), w32' (i := bt t j) (by omega) (by omega), w32' (i := x5 * 64 + bt t j) (by omega) (by omega), w32' (by omega) (by omega)]
  rw [show x5 * 64 + bt t j - 128 = x5 * 64 + (bt t j - 128) by omega]
  exact hr
theorem val_j6 (t : ByteArray) (n x5 r : Int) (h : 0 ≤ x5) (hr : Ev (fun k => eponymref01_value.l0 k t n x5 1) r) : Ev (fun k => eponymref01_value.j6 k t n x5) r := by
  refine Ev.succ ?_
  simp only [eponymref01_value.j6]
  exact Ev.neg (by omega) hr
theorem val_none (t : ByteArray) (n : Int) : Ev (fun k => eponymref01_value.j6 k t n (-1)) (-1) := by
  refine Ev.succ ?_
  simp only [eponymref01_value.j6]
  exact Ev.pos (by omega) (Ev.now _)
theorem val_ev1 (t : ByteArray) (ht : t.size = 1) : Ev (fun k => eponymref01_value.f k t) (val1 (bt t 0)) := by
  have hb := bt_range t 0
  unfold val1
  simp only [eponymref01_value.f]
  refine Ev.pos (by omega) (Ev.pos (by omega) ?_)
  rw [w32' (i := bt t 0) (by omega) (by omega)]
  refine Ev.succ ?_
  simp only [eponymref01_value.j0, decide_eq_true_eq]
  refine Ev.ite (fun c => Ev.is (if_pos c).symm) (fun c => ?_)
  rw [if_neg c]
  refine Ev.neg (by omega) (Ev.succ ?_)
  simp only [eponymref01_value.j1]
  refine Ev.neg (by simp) (Ev.succ ?_)
  simp only [eponymref01_value.j2]
  refine Ev.neg (by omega) (Ev.succ ?_)
  simp only [eponymref01_value.j3]
  refine Ev.neg (by simp) (Ev.succ ?_)
  simp only [eponymref01_value.j4]
  refine Ev.neg (by omega) (Ev.succ ?_)
  simp only [eponymref01_value.j5]
  exact Ev.neg (by simp) (val_none _ _)
/-- behind the first tests. -/
theorem val_tail2 (t : ByteArray) (n x3 x4 : Int) (r : Int) (hn : n = 2) (h : Ev (fun k => eponymref01_value.j6 k t n x4) r) : Ev (fun k => eponymref01_value.j2 k t x3 n x4) r := by
  refine Ev.succ ?_
  simp only [eponymref01_value.j2]
  refine Ev.neg (by omega) (Ev.succ ?_)
  simp only [eponymref01_value.j3]
  refine Ev.neg (by simp) (Ev.succ ?_)
  simp only [eponymref01_value.j4]
  refine Ev.neg (by omega) (Ev.succ ?_)
  simp only [eponymref01_value.j5]
  exact Ev.neg (by simp) h
theorem val_ev2 (t : ByteArray) (ht : t.size = 2) : Ev (fun k => eponymref01_value.f k t) (val2 (bt t 0) (bt t 1)) := by
  have hb := bt_range t 0
  have hb1 := bt_range t 1
  unfold val2
  simp only [eponymref01_value.f]
  refine Ev.pos (by omega) (Ev.neg (by omega) ?_)
  rw [w32' (i := bt t 0) (by omega) (by omega)]
  refine Ev.succ ?_
  simp only [eponymref01_value.j0]
  refine Ev.neg (by simp) (Ev.pos (by omega) ?_)
  have no : ¬ (192 ≤ bt t 0 ∧ bt t 0 < 224) → Ev (fun k => eponymref01_value.j2 k t (bt t 0) (t.size : Int) (-1)) (if 192 ≤ bt t 0 ∧ bt t 0 < 224 ∧ 128 ≤ bt t 1 ∧ bt t 1 ≤ 191 then (bt t 0 - 192) * 64 + (bt t 1 - 128) else -1) := fun h => by
    rw [if_neg (by omega)]
    exact val_tail2 _ _ _ _ _ (by omega) (val_none _ _)
  refine Ev.ite (fun c1 => Ev.succ ?_) (fun c1 => Ev.succ ?_)
  · simp only [eponymref01_value.j1, decide_eq_true_eq]
    refine Ev.ite (fun c2 => ?_) (fun c2 => no (by omega))
    rw [w32' (i := bt t 0 - 192) (by omega) (by omega)]
    refine val_tail2 _ _ _ _ _ (by omega) (val_j6 _ _ _ _ (by omega) ?_)
    by_cases c3 : 128 ≤ bt t 1 ∧ bt t 1 ≤ 191
    · rw [if_pos (by omega)]
      exact val_go _ _ _ _ _ (by omega) (by omega) (by omega) rfl c3 (by omega) (by omega) (val_end _ _ _ _ (by omega))
    · rw [if_neg (by omega)]
      exact val_bad _ _ _ _ (by omega) (by omega) rfl (by omega)
  · simp only [eponymref01_value.j1]
    exact Ev.neg (by simp) (no (by omega))
theorem val_tail3 (t : ByteArray) (n x3 x4 : Int) (r : Int) (hn : n = 3) (h : Ev (fun k => eponymref01_value.j6 k t n x4) r) : Ev (fun k => eponymref01_value.j4 k t x3 n x4) r := by
  refine Ev.succ ?_
  simp only [eponymref01_value.j4]
  refine Ev.neg (by omega) (Ev.succ ?_)
  simp only [eponymref01_value.j5]
  exact Ev.neg (by simp) h
theorem val_ev3 (t : ByteArray) (ht : t.size = 3) : Ev (fun k => eponymref01_value.f k t) (val3 (bt t 0) (bt t 1) (bt t 2)) := by
  have hb := bt_range t 0
  have hb1 := bt_range t 1
  have hb2 := bt_range t 2
  unfold val3
  simp only [eponymref01_value.f]
  refine Ev.pos (by omega) (Ev.neg (by omega) ?_)
  rw [w32' (i := bt t 0) (by omega) (by omega)]
  refine Ev.succ ?_
  simp only [eponymref01_value.j0]
  refine Ev.neg (by simp) (Ev.neg (by omega) (Ev.succ ?_))
  simp only [eponymref01_value.j1]
  refine Ev.neg (by simp) (Ev.succ ?_)
  simp only [eponymref01_value.j2]
  refine Ev.pos (by omega) ?_
  have no : ¬ (224 ≤ bt t 0 ∧ bt t 0 < 240) → Ev (fun k => eponymref01_value.j4 k t (bt t 0) (t.size : Int) (-1)) (if 224 ≤ bt t 0 ∧ bt t 0 < 240 ∧ 128 ≤ bt t 1 ∧ bt t 1 ≤ 191 ∧ 128 ≤ bt t 2 ∧ bt t 2 ≤ 191 then (bt t 0 - 224) * 4096 + (bt t 1 - 128) * 64 + (bt t 2 - 128) else -1) := fun h => by
    rw [if_neg (by omega)]
    exact val_tail3 _ _ _ _ _ (by omega) (val_none _ _)
  refine Ev.ite (fun c1 => Ev.succ ?_) (fun c1 => Ev.succ ?_)
  · simp only [eponymref01_value.j3, decide_eq_true_eq]
    refine Ev.ite (fun c2 => ?_) (fun c2 => no (by omega))
    rw [w32' (i := bt t 0 - 224) (by omega) (by omega)]
    refine val_tail3 _ _ _ _ _ (by omega) (val_j6 _ _ _ _ (by omega) ?_)
    by_cases c3 : 128 ≤ bt t 1 ∧ bt t 1 ≤ 191
    · refine val_go _ _ _ _ _ (by omega) (by omega) (by omega) rfl c3 (by omega) (by omega) ?_
      by_cases c4 : 128 ≤ bt t 2 ∧ bt t 2 ≤ 191
      · rw [if_pos (by omega)]
        refine Ev.to (val_go _ _ _ _ _ (by omega) (by omega) (by omega) rfl c4 (by omega) (by omega) (val_end _ _ _ _ (by omega))) ?_
        show ((bt t 0 - 224) * 64 + (bt t 1 - 128)) * 64 + (bt t 2 - 128) = _
        omega
      · rw [if_neg (by omega)]
        exact val_bad _ _ _ _ (by omega) (by omega) rfl (by have : bt t (1 + 1) = bt t 2 := rfl; omega)
    · rw [if_neg (by omega)]
      exact val_bad _ _ _ _ (by omega) (by omega) rfl (by omega)
  · simp only [eponymref01_value.j3]
    exact Ev.neg (by simp) (no (by omega))
theorem val_ev4 (t : ByteArray) (ht : t.size = 4) : Ev (fun k => eponymref01_value.f k t) (val4 (bt t 0) (bt t 1) (bt t 2) (bt t 3)) := by
  have hb := bt_range t 0
  have hb1 := bt_range t 1
  have hb2 := bt_range t 2
  have hb3 := bt_range t 3
  unfold val4
  simp only [eponymref01_value.f]
  refine Ev.pos (by omega) (Ev.neg (by omega) ?_)
  rw [w32' (i := bt t 0) (by omega) (by omega)]
  refine Ev.succ ?_
  simp only [eponymref01_value.j0]
  refine Ev.neg (by simp) (Ev.neg (by omega) (Ev.succ ?_))
  simp only [eponymref01_value.j1]
  refine Ev.neg (by simp) (Ev.succ ?_)
  simp only [eponymref01_value.j2]
  refine Ev.neg (by omega) (Ev.succ ?_)
  simp only [eponymref01_value.j3]
  refine Ev.neg (by simp) (Ev.succ ?_)
  simp only [eponymref01_value.j4]
  refine Ev.pos (by omega) ?_
  have no : ¬ (240 ≤ bt t 0 ∧ bt t 0 < 248) → Ev (fun k => eponymref01_value.j6 k t (t.size : Int) (-1)) (if 240 ≤ bt t 0 ∧ bt t 0 < 248 ∧ 128 ≤ bt t 1 ∧ bt t 1 ≤ 191 ∧ 128 ≤ bt t 2 ∧ bt t 2 ≤ 191 ∧ 128 ≤ bt t 3 ∧ bt t 3 ≤ 191 then (bt t 0 - 240) * 262144 + (bt t 1 - 128) * 4096 + (bt t 2 - 128) * 64 + (bt t 3 - 128) else -1) := fun h => by
    rw [if_neg (by omega)]
    exact val_none _ _
  refine Ev.ite (fun c1 => Ev.succ ?_) (fun c1 => Ev.succ ?_)
  · simp only [eponymref01_value.j5, decide_eq_true_eq]
    refine Ev.ite (fun c2 => ?_) (fun c2 => no (by omega))
    rw [w32' (i := bt t 0 - 240) (by omega) (by omega)]
    refine val_j6 _ _ _ _ (by omega) ?_
    have e2 : bt t (1 + 1) = bt t 2 := rfl
    have e3 : bt t (1 + 1 + 1) = bt t 3 := rfl
    by_cases c3 : 128 ≤ bt t 1 ∧ bt t 1 ≤ 191
    · refine val_go _ _ _ _ _ (by omega) (by omega) (by omega) rfl c3 (by omega) (by omega) ?_
      by_cases c4 : 128 ≤ bt t 2 ∧ bt t 2 ≤ 191
      · refine val_go _ _ _ _ _ (by omega) (by omega) (by omega) rfl c4 (by omega) (by omega) ?_
        by_cases c5 : 128 ≤ bt t 3 ∧ bt t 3 ≤ 191
        · rw [if_pos (by omega)]
          refine Ev.to (val_go _ _ _ _ _ (by omega) (by omega) (by omega) rfl c5 (by rw [e2]; omega) (by rw [e2]; omega) (val_end _ _ _ _ (by omega))) ?_
          show (((bt t 0 - 240) * 64 + (bt t 1 - 128)) * 64 + (bt t 2 - 128)) * 64 + (bt t 3 - 128) = _
          omega
        · rw [if_neg (by omega)]
          exact val_bad _ _ _ _ (by omega) (by omega) rfl (by rw [e3]; omega)
      · rw [if_neg (by omega)]
        exact val_bad _ _ _ _ (by omega) (by omega) rfl (by rw [e2]; omega)
    · rw [if_neg (by omega)]
      exact val_bad _ _ _ _ (by omega) (by omega) rfl (by omega)
  · simp only [eponymref01_value.j5]
    exact Ev.neg (by simp) (no (by omega))

/-- whether some right rune from a to b has n bytes. -/
def someOf (a b n : Int) : Bool :=
  let least : Int := if n = 4 then 65536 else if n = 3 then 2048 else 128
  let most : Int := if n = 4 then 1114111 else if n = 3 then 65535 else 2047
  let x : Int := if a < least then least else a
  let y : Int := if b > most then most else b
  decide ((if 55296 ≤ x ∧ x ≤ 57343 then 57344 else x) ≤ y)
theorem some_j2 (x b most : Int) : Ev (fun k => eponymref01_some.j2 k x b most) (decide ((if 55296 ≤ x ∧ x ≤ 57343 then 57344 else x) ≤ (if b > most then most else b))) := by
  refine Ev.succ ?_
  simp only [eponymref01_some.j2]
  refine Ev.ite (fun c1 => ?_) (fun c1 => ?_)
  · rw [if_pos c1]
    refine Ev.ite (fun c2 => Ev.ite (fun c3 => ?_) (fun c3 => ?_)) (fun c2 => ?_)
    · rw [if_pos ⟨c2, c3⟩]; exact Ev.now _
    · rw [if_neg (fun h => c3 h.2)]; exact Ev.now _
    · rw [if_neg (fun h => c2 h.1)]; exact Ev.now _
  · rw [if_neg c1]
    refine Ev.ite (fun c2 => Ev.ite (fun c3 => ?_) (fun c3 => ?_)) (fun c2 => ?_)
    · rw [if_pos ⟨c2, c3⟩]; exact Ev.now _
    · rw [if_neg (fun h => c3 h.2)]; exact Ev.now _
    · rw [if_neg (fun h => c2 h.1)]; exact Ev.now _
theorem some_j1 (a b least most : Int) : Ev (fun k => eponymref01_some.j1 k a b least most) (decide ((if 55296 ≤ (if a < least then least else a) ∧ (if a < least then least else a) ≤ 57343 then 57344 else (if a < least then least else a)) ≤ (if b > most then most else b))) := by
  refine Ev.succ ?_
  simp only [eponymref01_some.j1]
  refine Ev.ite (fun c1 => ?_) (fun c1 => ?_)
  · rw [if_pos c1]; exact some_j2 _ _ _
  · rw [if_neg c1]; exact some_j2 _ _ _
theorem some_ev (a b n : Int) : Ev (fun k => eponymref01_some.f k a b n) (someOf a b n) := by
  unfold someOf
  simp only [eponymref01_some.f]
  refine Ev.ite (fun c1 => Ev.succ ?_) (fun c1 => Ev.succ ?_)
  · simp only [eponymref01_some.j0]
    refine Ev.neg (by omega) ?_
    rw [if_neg (show ¬ n = 4 by omega), if_pos c1, if_neg (show ¬ n = 4 by omega), if_pos c1]
    exact some_j1 _ _ _ _
  · simp only [eponymref01_some.j0]
    refine Ev.ite (fun c2 => ?_) (fun c2 => ?_)
    · rw [if_pos c2, if_pos c2]
      exact some_j1 _ _ _ _
    · rw [if_neg c2, if_neg c2, if_neg c1, if_neg c1]
      exact some_j1 _ _ _ _
end Go.Proofs.YtohnahbjmcelfaaDoor.V
namespace Go.Proofs.YtohnahbjmcelfaaDoor.V
set_option linter.unusedVariables false
open Go.RowKit Go.Proofs.YtohnahbjmcelfaaDoorW.PrintWords Go.Proofs.YtohnahbjmcelfaaDoorW.PrintLast Go.Proofs.YtohnahbjmcelfaaDoorW.PrintMore Go.Proofs.YtohnahbjmcelfaaDoor.Er

theorem bt_get (s : ByteArray) (i : Nat) (h : i < s.size) : bt s (i : Int) = ((s[i]'h).toNat : Int) := by
  have := bt_at s (i : Int) (by simpa using h)
  rw [← this]
  rfl
theorem bt_extract (s : ByteArray) (a b i : Nat) (hb : b ≤ s.size) (hi : a + i < b) : bt (s.extract a b) (i : Int) = bt s ((a : Int) + (i : Int)) := by
  have hz : i < (s.extract a b).size := by rw [ByteArray.size_extract]; omega
  rw [bt_get _ i hz, show (a : Int) + (i : Int) = ((a + i : Nat) : Int) by omega, bt_get s (a + i) (by omega), ByteArray.getElem_extract]
theorem bt_left (s t : ByteArray) (i : Nat) (h : i < s.size) : bt (s ++ t) (i : Int) = bt s (i : Int) := by
  rw [bt_get _ i (by rw [ByteArray.size_append]; omega), bt_get s i h, ByteArray.getElem_append_left h]
theorem bt_right (s t : ByteArray) (i : Nat) (h : i < t.size) : bt (s ++ t) ((s.size + i : Nat) : Int) = bt t (i : Int) := by
  rw [bt_get _ (s.size + i) (by rw [ByteArray.size_append]; omega), bt_get t i h, ByteArray.getElem_append_right (by omega)]
  simp
theorem bytes_same (s t : ByteArray) : s.toList = t.toList ↔ s.size = t.size ∧ ∀ i : Nat, i < s.size → bt s (i : Int) = bt t (i : Int) := by
  rw [ByteArray.toList_eq, ByteArray.toList_eq]
  constructor
  · intro h
    have e : s = t := ByteArray.ext (Array.toList_inj.1 h)
    subst e
    exact ⟨rfl, fun _ _ => rfl⟩
  · rintro ⟨hs, h⟩
    refine List.ext_getElem (by simpa using hs) (fun i h1 h2 => ?_)
    have h3 : i < s.size := by simpa using h1
    have := h i h3
    rw [bt_get s i h3, bt_get t i (by omega)] at this
    have h4 : s[i] = t[i] := UInt8.toNat_inj.1 (by omega)
    rw [Array.getElem_toList, Array.getElem_toList]
    exact h4
theorem num_size (l : List Int) : (strOfNums l).size = l.length := by
  unfold strOfNums
  simp [ByteArray.size]
theorem num_bt (l : List Int) (i : Nat) (h : i < l.length) (h0 : 0 ≤ l.getD i 0) (h1 : l.getD i 0 ≤ 255) : bt (strOfNums l) (i : Int) = l.getD i 0 := by
  have hz : i < (strOfNums l).size := by rw [num_size]; exact h
  rw [bt_get _ i hz]
  have e : l.getD i 0 = l[i] := by simp [h]
  rw [e] at h0 h1 ⊢
  have e2 : (strOfNums l)[i]'hz = UInt8.ofNat (l[i]).toNat := by
    show (strOfNums l).data[i]'hz = _
    simp [strOfNums]
  rw [e2]
  simp
  omega

theorem right_ev (r : Int) : eponymref01_Right.f r = some (decide (0 ≤ r ∧ r ≤ 1114111 ∧ ¬ (55296 ≤ r ∧ r ≤ 57343))) := by
  unfold eponymref01_Right.f
  by_cases c1 : r ≥ 0
  · rw [if_pos c1]
    by_cases c2 : r ≤ 1114111
    · rw [if_pos c2]
      by_cases c3 : r ≥ 55296
      · rw [if_pos c3]
        by_cases c4 : r ≤ 57343
        · rw [decide_eq_true c4, decide_eq_false (by omega)]; rfl
        · rw [decide_eq_false c4, decide_eq_true (by omega)]; rfl
      · rw [if_neg c3, decide_eq_true (by omega)]; rfl
    · rw [if_neg c2, decide_eq_false (by omega)]
  · rw [if_neg c1, decide_eq_false (by omega)]
/-- the forms of runes. -/
def formOf (r : Int) : List Int :=
  if r < 128 then [r % 256] else if r < 2048 then [192 + r / 64, 128 + r % 64] else if r < 65536 then [224 + r / 4096, 128 + r / 64 % 64, 128 + r % 64]
  else [240 + r / 262144, 128 + r / 4096 % 64, 128 + r / 64 % 64, 128 + r % 64]
theorem m256 {x : Int} (h0 : 0 ≤ x) (h1 : x < 256) : x % 256 = x := Int.emod_eq_of_lt h0 h1
theorem form_ev (r : Int) (h0 : 0 ≤ r) (h1 : r ≤ 1114111) : eponymref01_Form.f r = some (strOfNums (formOf r)) := by
  unfold eponymref01_Form.f formOf
  have d1 := Int.tdiv_eq_ediv_of_nonneg (b := 64) h0
  have d2 := Int.tdiv_eq_ediv_of_nonneg (b := 4096) h0
  have d3 := Int.tdiv_eq_ediv_of_nonneg (b := 262144) h0
  have m1 := Int.tmod_eq_emod_of_nonneg (b := 64) h0
  rw [d1, d2, d3, m1, w32' (i := r / 64) (by omega) (by omega), w32' (i := r / 4096) (by omega) (by omega), w32' (i := r / 262144) (by omega) (by omega),
    Int.tmod_eq_emod_of_nonneg (b := 64) (show 0 ≤ r / 64 by omega), Int.tmod_eq_emod_of_nonneg (b := 64) (show 0 ≤ r / 4096 by omega)]
  by_cases c1 : r < 128
  · rw [if_pos c1, if_pos c1]
  rw [if_neg c1, if_neg c1]
  by_cases c2 : r < 2048
  · rw [if_pos c2, if_pos c2, w32' (by omega) (by omega), w32' (by omega) (by omega), m256 (by omega) (by omega), m256 (by omega) (by omega)]
  rw [if_neg c2, if_neg c2]
  by_cases c3 : r < 65536
  · rw [if_pos c3, if_pos c3, w32' (by omega) (by omega), w32' (by omega) (by omega), w32' (by omega) (by omega), m256 (by omega) (by omega), m256 (by omega) (by omega), m256 (by omega) (by omega)]
  · rw [if_neg c3, if_neg c3, w32' (by omega) (by omega), w32' (by omega) (by omega), w32' (by omega) (by omega), w32' (by omega) (by omega), m256 (by omega) (by omega), m256 (by omega) (by omega), m256 (by omega) (by omega), m256 (by omega) (by omega)]
end Go.Proofs.YtohnahbjmcelfaaDoor.V
namespace Go.Proofs.YtohnahbjmcelfaaDoor.V
set_option linter.unusedVariables false
open Go.RowKit Go.Proofs.YtohnahbjmcelfaaDoorW.PrintWords Go.Proofs.YtohnahbjmcelfaaDoorW.PrintLast Go.Proofs.YtohnahbjmcelfaaDoorW.PrintMore Go.Proofs.YtohnahbjmcelfaaDoor.Er

theorem getD_range (l : List Int) (h : ∀ x ∈ l, 0 ≤ x ∧ x ≤ 255) (i : Nat) : 0 ≤ l.getD i 0 ∧ l.getD i 0 ≤ 255 := by
  by_cases hi : i < l.length
  · have e : l.getD i 0 = l[i] := by simp [hi]
    rw [e]
    exact h _ (List.getElem_mem hi)
  · have e : l.getD i 0 = 0 := by simp [Nat.le_of_not_lt hi]
    rw [e]
    omega
theorem form_bytes (v : Int) (h0 : 0 ≤ v) (h1 : v ≤ 1114111) (i : Nat) : 0 ≤ (formOf v).getD i 0 ∧ (formOf v).getD i 0 ≤ 255 := by
  refine getD_range _ (fun x hx => ?_) i
  unfold formOf at hx
  by_cases c1 : v < 128
  · rw [if_pos c1] at hx
    simp only [List.mem_cons, List.not_mem_nil, or_false] at hx
    omega
  rw [if_neg c1] at hx
  by_cases c2 : v < 2048
  · rw [if_pos c2] at hx
    simp only [List.mem_cons, List.not_mem_nil, or_false] at hx
    omega
  rw [if_neg c2] at hx
  by_cases c3 : v < 65536
  · rw [if_pos c3] at hx
    simp only [List.mem_cons, List.not_mem_nil, or_false] at hx
    omega
  rw [if_neg c3] at hx
  simp only [List.mem_cons, List.not_mem_nil, or_false] at hx
  omega
theorem form_same (v : Int) (h0 : 0 ≤ v) (h1 : v ≤ 1114111) (t : ByteArray) : (strOfNums (formOf v)).toList = t.toList ↔ (formOf v).length = t.size ∧ ∀ i : Nat, i < (formOf v).length → (formOf v).getD i 0 = bt t (i : Int) := by
  rw [bytes_same, num_size]
  constructor
  · rintro ⟨e, h⟩
    exact ⟨e, fun i hi => by rw [← h i hi, num_bt _ _ hi (form_bytes v h0 h1 i).1 (form_bytes v h0 h1 i).2]⟩
  · rintro ⟨e, h⟩
    exact ⟨e, fun i hi => by rw [← h i hi, num_bt _ _ hi (form_bytes v h0 h1 i).1 (form_bytes v h0 h1 i).2]⟩
/-- a rune that is right and whose form stands at a place, n bytes long. -/
def Fits (s : ByteArray) (a n : Nat) (v : Int) : Prop := (0 ≤ v ∧ v ≤ 1114111 ∧ ¬ (55296 ≤ v ∧ v ≤ 57343)) ∧ (formOf v).length = n ∧ ∀ i : Nat, i < n → (formOf v).getD i 0 = bt s ((a : Int) + (i : Int))
theorem rn_fit (s : ByteArray) (hs : s.size ≤ 1000000) (a n : Nat) (v : Int) (hfit : a + n ≤ s.size) (h1 : 1 ≤ n) (h4 : n ≤ 4) (hv : Ev (fun k => eponymref01_value.f k (s.extract a (a + n))) v) (r : Int × Int × Int)
    (hyes : Fits s a n v → r = (v, (n : Int), 0)) (hno : ¬ Fits s a n v → Ev (fun k => eponymref01_Next.l0 k s (a : Int) ((n + 1 : Nat) : Int)) r) : Ev (fun k => eponymref01_Next.l0 k s (a : Int) (n : Int)) r := by
  refine Ev.succ ?_
  simp only [eponymref01_Next.l0]
  refine Ev.pos (by omega) ?_
  rw [w64' (i := (a : Int) + n) (by omega) (by omega), decide_eq_true (by omega)]
  refine Ev.succ ?_
  simp only [eponymref01_Next.j1]
  rw [w64' (i := (a : Int) + n) (by omega) (by omega)]
  refine Ev.pos (by trivial) (Ev.pos (by omega) (Ev.pos (by omega) (Ev.pos (by omega) ?_)))
  have e : s.extract ((a : Int)).toNat ((a : Int) + (n : Int)).toNat = s.extract a (a + n) := by
    rw [show ((a : Int)).toNat = a by omega, show ((a : Int) + (n : Int)).toNat = a + n by omega]
  rw [e]
  have hz : (s.extract a (a + n)).size = n := by rw [ByteArray.size_extract]; omega
  rw [w64' (i := (n : Int) + 1) (by omega) (by omega), show (n : Int) + 1 = ((n + 1 : Nat) : Int) by omega]
  refine Ev.bind hv ?_
  refine Ev.ite (fun c1 => ?_) (fun c1 => hno (fun h => c1 h.1.1))
  refine Ev.bindc (right_ev v) ?_
  refine Ev.ite (fun c2 => ?_) (fun c2 => hno (fun h => c2 (decide_eq_true h.1)))
  have c2' := of_decide_eq_true c2
  refine Ev.bindc (form_ev v c2'.1 c2'.2.1) ?_
  have hiff := form_same v c2'.1 c2'.2.1 (s.extract a (a + n))
  rw [hz] at hiff
  refine Ev.ite (fun c3 => Ev.is ?_) (fun c3 => hno (fun h => c3 (hiff.2 ⟨h.2.1, fun i hi => ?_⟩)))
  · have h := hiff.1 c3
    refine (hyes ⟨c2', h.1, fun i hi => ?_⟩).symm
    rw [h.2 i (by omega), bt_extract s a (a + n) i (by omega) (by omega)]
  · have hl := h.2.1
    rw [h.2.2 i (by omega), bt_extract s a (a + n) i (by omega) (by omega)]
theorem rn_stop (s : ByteArray) (hs : s.size ≤ 1000000) (a n : Nat) (ha : a < s.size) (h : n = 5 ∨ n ≤ 4 ∧ s.size < a + n) (h1 : 1 ≤ n) (r : Int × Int × Int)
    (hr : Ev (fun k => eponymref01_Next.l1 k (s.extract a s.size) ((s.size - a + 1 : Nat) : Int)) r) : Ev (fun k => eponymref01_Next.l0 k s (a : Int) (n : Int)) r := by
  have hj : Ev (fun k => eponymref01_Next.j1 k s (a : Int) (n : Int) false) r := by
    refine Ev.succ ?_
    simp only [eponymref01_Next.j1]
    refine Ev.neg (by simp) (Ev.pos (by omega) (Ev.pos (by omega) ?_))
    rw [show ((a : Int)).toNat = a by omega]
    have hz : (s.extract a s.size).size = s.size - a := by rw [ByteArray.size_extract]; omega
    rw [hz, w64' (by omega) (by omega), show ((s.size - a : Nat) : Int) + 1 = ((s.size - a + 1 : Nat) : Int) by omega]
    exact hr
  refine Ev.succ ?_
  simp only [eponymref01_Next.l0]
  refine Ev.ite (fun c => ?_) (fun c => hj)
  rw [w64' (i := (a : Int) + n) (by omega) (by omega), decide_eq_false (by omega)]
  exact hj

theorem bt_one (c : UInt8) : bt (⟨#[c]⟩ : ByteArray) ((0 : Nat) : Int) = (c.toNat : Int) := by
  rw [bt_get _ 0 (by show 0 < 1; omega)]
  rfl
/-- a text made longer by one byte again and again. -/
def Padded (rest : ByteArray) (p : Nat) (c : Int) (t : ByteArray) : Prop := t.size = p ∧ ∀ i : Nat, i < p → bt t (i : Int) = if i < rest.size then bt rest (i : Int) else c
theorem Padded.more {rest : ByteArray} {p : Nat} {c : UInt8} {t : ByteArray} (h : Padded rest p (c.toNat : Int) t) (hp : rest.size ≤ p) : Padded rest (p + 1) (c.toNat : Int) (t ++ (⟨#[c]⟩ : ByteArray)) := by
  refine ⟨by rw [ByteArray.size_append, h.1]; rfl, fun i hi => ?_⟩
  by_cases c1 : i < p
  · rw [bt_left _ _ i (by rw [h.1]; exact c1)]
    exact h.2 i c1
  · obtain rfl : i = p := by omega
    rw [if_neg (by omega)]
    have := bt_right t (⟨#[c]⟩ : ByteArray) 0 (by show 0 < 1; omega)
    rw [h.1, Nat.add_zero] at this
    rw [this]
    exact bt_one c
theorem rn_pad (rest : ByteArray) (n : Nat) (h4 : n ≤ 4) (r : Int × Int × Int) (A B : Int)
    (hA : ∀ t, Padded rest n 128 t → Ev (fun k => eponymref01_value.f k t) A) (hB : ∀ t, Padded rest n 191 t → Ev (fun k => eponymref01_value.f k t) B)
    (hyes : 0 ≤ A → 0 ≤ B → someOf A B n = true → r = (0, 0, 2)) (hno : ¬ (0 ≤ A ∧ 0 ≤ B ∧ someOf A B n = true) → Ev (fun k => eponymref01_Next.l1 k rest ((n + 1 : Nat) : Int)) r) :
    ∀ (d p : Nat) (low high : ByteArray), p + d = n → rest.size ≤ p → Padded rest p 128 low → Padded rest p 191 high → Ev (fun k => eponymref01_Next.l2 k rest (n : Int) low high) r := by
  intro d
  induction d with
  | zero =>
    intro p low high hp hr hl hh
    obtain rfl : p = n := by omega
    refine Ev.succ ?_
    simp only [eponymref01_Next.l2]
    rw [hl.1, w64' (i := (p : Int) + 1) (by omega) (by omega), show (p : Int) + 1 = ((p + 1 : Nat) : Int) by omega]
    refine Ev.neg (by omega) (Ev.bind (hA low hl) (Ev.bind (hB high hh) ?_))
    refine Ev.ite (fun c1 => Ev.ite (fun c2 => ?_) (fun c2 => hno (fun h => c2 h.2.1))) (fun c1 => hno (fun h => c1 h.1))
    refine Ev.bind (some_ev A B p) ?_
    exact Ev.ite (fun c3 => Ev.is (hyes c1 c2 c3).symm) (fun c3 => hno (fun h => c3 h.2.2))
  | succ d ih =>
    intro p low high hp hr hl hh
    refine Ev.succ ?_
    simp only [eponymref01_Next.l2]
    have hl1 := hl.1
    have hh1 := hh.1
    refine Ev.pos (by omega) (Ev.pos (by omega) (Ev.pos (by omega) ?_))
    exact ih (p + 1) _ _ (by omega) (by omega) (Padded.more (c := 128) hl hr) (Padded.more (c := 191) hh hr)
theorem rn_l1 (rest : ByteArray) (n : Nat) (h4 : n ≤ 4) (hm : rest.size < n) (r : Int × Int × Int) (A B : Int)
    (hA : ∀ t, Padded rest n 128 t → Ev (fun k => eponymref01_value.f k t) A) (hB : ∀ t, Padded rest n 191 t → Ev (fun k => eponymref01_value.f k t) B)
    (hyes : 0 ≤ A → 0 ≤ B → someOf A B n = true → r = (0, 0, 2)) (hno : ¬ (0 ≤ A ∧ 0 ≤ B ∧ someOf A B n = true) → Ev (fun k => eponymref01_Next.l1 k rest ((n + 1 : Nat) : Int)) r) :
    Ev (fun k => eponymref01_Next.l1 k rest (n : Int)) r := by
  refine Ev.succ ?_
  simp only [eponymref01_Next.l1]
  refine Ev.pos (by omega) ?_
  have h0 : ∀ c, Padded rest rest.size c rest := fun c => ⟨rfl, fun i hi => by rw [if_pos hi]⟩
  exact rn_pad rest n h4 r A B hA hB hyes hno (n - rest.size) rest.size rest rest (by omega) (Nat.le_refl _) (h0 128) (h0 191)
theorem rn_end (rest : ByteArray) (n : Nat) (h : 5 ≤ n) : Ev (fun k => eponymref01_Next.l1 k rest (n : Int)) (0, 0, 1) := by
  refine Ev.succ ?_
  simp only [eponymref01_Next.l1]
  exact Ev.neg (by omega) (Ev.now _)
theorem padded2 {rest : ByteArray} {c : Int} {t : ByteArray} (h : Padded rest 2 c t) : Ev (fun k => eponymref01_value.f k t) (val2 (if 0 < rest.size then bt rest (0 : Nat) else c) (if 1 < rest.size then bt rest (1 : Nat) else c)) := by
  have e0 := h.2 0 (by omega)
  have e1 := h.2 1 (by omega)
  rw [← e0, ← e1]
  exact val_ev2 t h.1
theorem padded3 {rest : ByteArray} {c : Int} {t : ByteArray} (h : Padded rest 3 c t) : Ev (fun k => eponymref01_value.f k t) (val3 (if 0 < rest.size then bt rest (0 : Nat) else c) (if 1 < rest.size then bt rest (1 : Nat) else c) (if 2 < rest.size then bt rest (2 : Nat) else c)) := by
  have e0 := h.2 0 (by omega)
  have e1 := h.2 1 (by omega)
  have e2 := h.2 2 (by omega)
  rw [← e0, ← e1, ← e2]
  exact val_ev3 t h.1
theorem padded4 {rest : ByteArray} {c : Int} {t : ByteArray} (h : Padded rest 4 c t) : Ev (fun k => eponymref01_value.f k t) (val4 (if 0 < rest.size then bt rest (0 : Nat) else c) (if 1 < rest.size then bt rest (1 : Nat) else c) (if 2 < rest.size then bt rest (2 : Nat) else c) (if 3 < rest.size then bt rest (3 : Nat) else c)) := by
  have e0 := h.2 0 (by omega)
  have e1 := h.2 1 (by omega)
  have e2 := h.2 2 (by omega)
  have e3 := h.2 3 (by omega)
  rw [← e0, ← e1, ← e2, ← e3]
  exact val_ev4 t h.1
end Go.Proofs.YtohnahbjmcelfaaDoor.V
namespace Go.Proofs.YtohnahbjmcelfaaDoor.V
set_option linter.unusedVariables false
open Go.RowKit Go.Proofs.YtohnahbjmcelfaaDoorW.PrintWords Go.Proofs.YtohnahbjmcelfaaDoorW.PrintLast Go.Proofs.YtohnahbjmcelfaaDoorW.PrintMore Go.Proofs.YtohnahbjmcelfaaDoor.Er

theorem lo2_facts (b : Int) : (b = 224 → lo2 b = 160) ∧ (b = 240 → lo2 b = 144) ∧ (b ≠ 224 → b ≠ 240 → lo2 b = 128) := by
  unfold lo2
  refine ⟨fun h => by rw [if_pos h], fun h => by rw [if_neg (by omega), if_pos h], fun h1 h2 => by rw [if_neg h1, if_neg h2]⟩
theorem hi2_facts (b : Int) : (b = 237 → hi2 b = 159) ∧ (b = 244 → hi2 b = 143) ∧ (b ≠ 237 → b ≠ 244 → hi2 b = 191) := by
  unfold hi2
  refine ⟨fun h => by rw [if_pos h], fun h => by rw [if_neg (by omega), if_pos h], fun h1 h2 => by rw [if_neg h1, if_neg h2]⟩
theorem some_iff (a b n : Int) : someOf a b n = true ↔ ∃ z, a ≤ z ∧ z ≤ b ∧ (if n = 4 then 65536 else if n = 3 then 2048 else 128) ≤ z ∧ z ≤ (if n = 4 then 1114111 else if n = 3 then 65535 else 2047) ∧ ¬ (55296 ≤ z ∧ z ≤ 57343) := by
  unfold someOf
  simp only [decide_eq_true_eq]
  generalize hl : (if n = 4 then (65536 : Int) else if n = 3 then 2048 else 128) = least
  generalize hm : (if n = 4 then (1114111 : Int) else if n = 3 then 65535 else 2047) = most
  have h1 : (if a < least then least else a) = max a least := by
    by_cases c : a < least
    · rw [if_pos c]; omega
    · rw [if_neg c]; omega
  have h2 : (if b > most then most else b) = min b most := by
    by_cases c : b > most
    · rw [if_pos c]; omega
    · rw [if_neg c]; omega
  rw [h1, h2]
  by_cases c : 55296 ≤ max a least ∧ max a least ≤ 57343
  · rw [if_pos c]
    constructor
    · intro h; exact ⟨57344, by omega, by omega, by omega, by omega, by omega⟩
    · rintro ⟨z, h3, h4, h5, h6, h7⟩; omega
  · rw [if_neg c]
    constructor
    · intro h; exact ⟨max a least, by omega, by omega, by omega, by omega, by omega⟩
    · rintro ⟨z, h3, h4, h5, h6, h7⟩; omega
theorem val2_pos (b0 b1 : Int) : 0 ≤ val2 b0 b1 ↔ 192 ≤ b0 ∧ b0 < 224 ∧ 128 ≤ b1 ∧ b1 ≤ 191 := by
  unfold val2
  by_cases c : 192 ≤ b0 ∧ b0 < 224 ∧ 128 ≤ b1 ∧ b1 ≤ 191
  · rw [if_pos c]; omega
  · rw [if_neg c]; omega
theorem val3_pos (b0 b1 b2 : Int) : 0 ≤ val3 b0 b1 b2 ↔ 224 ≤ b0 ∧ b0 < 240 ∧ 128 ≤ b1 ∧ b1 ≤ 191 ∧ 128 ≤ b2 ∧ b2 ≤ 191 := by
  unfold val3
  by_cases c : 224 ≤ b0 ∧ b0 < 240 ∧ 128 ≤ b1 ∧ b1 ≤ 191 ∧ 128 ≤ b2 ∧ b2 ≤ 191
  · rw [if_pos c]; omega
  · rw [if_neg c]; omega
theorem val4_pos (b0 b1 b2 b3 : Int) : 0 ≤ val4 b0 b1 b2 b3 ↔ 240 ≤ b0 ∧ b0 < 248 ∧ 128 ≤ b1 ∧ b1 ≤ 191 ∧ 128 ≤ b2 ∧ b2 ≤ 191 ∧ 128 ≤ b3 ∧ b3 ≤ 191 := by
  unfold val4
  by_cases c : 240 ≤ b0 ∧ b0 < 248 ∧ 128 ≤ b1 ∧ b1 ≤ 191 ∧ 128 ≤ b2 ∧ b2 ≤ 191 ∧ 128 ≤ b3 ∧ b3 ≤ 191
  · rw [if_pos c]; omega
  · rw [if_neg c]; omega
/-- whether what is left may be the beginning of a form. -/
theorem t2 (b0 : Int) : (0 ≤ val2 b0 128 ∧ 0 ≤ val2 b0 191 ∧ someOf (val2 b0 128) (val2 b0 191) (2 : Nat) = true) ↔ 194 ≤ b0 ∧ b0 < 224 := by
  rw [val2_pos, val2_pos, some_iff, if_neg (by decide), if_neg (by decide), if_neg (by decide), if_neg (by decide)]
  constructor
  · rintro ⟨c1, c2, z, h1, h2, h3, h4, h5⟩
    simp only [val2, if_pos c1, if_pos c2] at h1 h2
    omega
  · intro h
    have c1 : 192 ≤ b0 ∧ b0 < 224 ∧ (128 : Int) ≤ 128 ∧ (128 : Int) ≤ 191 := by omega
    have c2 : 192 ≤ b0 ∧ b0 < 224 ∧ (128 : Int) ≤ 191 ∧ (191 : Int) ≤ 191 := by omega
    refine ⟨c1, c2, (b0 - 192) * 64, ?_, ?_, by omega, by omega, by omega⟩
    · simp only [val2, if_pos c1]; omega
    · simp only [val2, if_pos c2]; omega
theorem t3 (b0 x1 y1 : Int) (h : x1 = 128 ∧ y1 = 191 ∨ x1 = y1) : (0 ≤ val3 b0 x1 128 ∧ 0 ≤ val3 b0 y1 191 ∧ someOf (val3 b0 x1 128) (val3 b0 y1 191) (3 : Nat) = true) ↔ 224 ≤ b0 ∧ b0 < 240 ∧ 128 ≤ x1 ∧ y1 ≤ 191 ∧ (x1 = y1 → lo2 b0 ≤ x1 ∧ y1 ≤ hi2 b0) := by
  have hl := lo2_facts b0
  have hh := hi2_facts b0
  rw [val3_pos, val3_pos, some_iff, if_neg (by decide), if_pos (by decide), if_neg (by decide), if_pos (by decide)]
  constructor
  · rintro ⟨c1, c2, z, h1, h2, h3, h4, h5⟩
    simp only [val3, if_pos c1, if_pos c2] at h1 h2
    refine ⟨by omega, by omega, by omega, by omega, fun e => ⟨by omega, by omega⟩⟩
  · rintro ⟨g1, g2, g3, g4, g5⟩
    have c1 : 224 ≤ b0 ∧ b0 < 240 ∧ (128 : Int) ≤ x1 ∧ x1 ≤ 191 ∧ (128 : Int) ≤ 128 ∧ (128 : Int) ≤ 191 := by omega
    have c2 : 224 ≤ b0 ∧ b0 < 240 ∧ (128 : Int) ≤ y1 ∧ y1 ≤ 191 ∧ (128 : Int) ≤ 191 ∧ (191 : Int) ≤ 191 := by omega
    rcases h with ⟨rfl, rfl⟩ | rfl
    · refine ⟨c1, c2, if b0 = 224 then 2048 else (b0 - 224) * 4096, ?_⟩
      simp only [val3, if_pos c1, if_pos c2]
      by_cases c : b0 = 224
      · rw [if_pos c]; omega
      · rw [if_neg c]; omega
    · refine ⟨c1, c2, (b0 - 224) * 4096 + (x1 - 128) * 64, ?_⟩
      simp only [val3, if_pos c1, if_pos c2]
      have := g5 rfl
      omega
theorem t4 (b0 x1 y1 x2 y2 : Int) (h : x1 = 128 ∧ y1 = 191 ∧ x2 = 128 ∧ y2 = 191 ∨ x1 = y1 ∧ x2 = 128 ∧ y2 = 191 ∨ x1 = y1 ∧ x2 = y2) :
    (0 ≤ val4 b0 x1 x2 128 ∧ 0 ≤ val4 b0 y1 y2 191 ∧ someOf (val4 b0 x1 x2 128) (val4 b0 y1 y2 191) (4 : Nat) = true) ↔ 240 ≤ b0 ∧ b0 < 245 ∧ 128 ≤ x1 ∧ y1 ≤ 191 ∧ 128 ≤ x2 ∧ y2 ≤ 191 ∧ (x1 = y1 → lo2 b0 ≤ x1 ∧ y1 ≤ hi2 b0) := by
  have hl := lo2_facts b0
  have hh := hi2_facts b0
  rw [val4_pos, val4_pos, some_iff, if_pos (by decide), if_pos (by decide)]
  constructor
  · rintro ⟨c1, c2, z, h1, h2, h3, h4, h5⟩
    simp only [val4, if_pos c1, if_pos c2] at h1 h2
    refine ⟨by omega, by omega, by omega, by omega, by omega, by omega, fun e => ⟨by omega, by omega⟩⟩
  · rintro ⟨g1, g2, g3, g4, g6, g7, g5⟩
    have c1 : 240 ≤ b0 ∧ b0 < 248 ∧ (128 : Int) ≤ x1 ∧ x1 ≤ 191 ∧ (128 : Int) ≤ x2 ∧ x2 ≤ 191 ∧ (128 : Int) ≤ 128 ∧ (128 : Int) ≤ 191 := by omega
    have c2 : 240 ≤ b0 ∧ b0 < 248 ∧ (128 : Int) ≤ y1 ∧ y1 ≤ 191 ∧ (128 : Int) ≤ y2 ∧ y2 ≤ 191 ∧ (128 : Int) ≤ 191 ∧ (191 : Int) ≤ 191 := by omega
    refine ⟨c1, c2, ?_⟩
    simp only [val4, if_pos c1, if_pos c2]
    by_cases e : x1 = y1
    · have := g5 e
      exact ⟨(b0 - 240) * 262144 + (x1 - 128) * 4096 + (x2 - 128) * 64, by omega, by omega, by omega, by omega, by omega⟩
    · by_cases c : b0 = 240
      · exact ⟨65536, by omega, by omega, by omega, by omega, by omega⟩
      · exact ⟨(b0 - 240) * 262144, by omega, by omega, by omega, by omega, by omega⟩

theorem bt0 (s : ByteArray) (a b : Nat) (hb : b ≤ s.size) (hi : a < b) : bt (s.extract a b) 0 = bt s (a : Int) := by simpa using bt_extract s a b 0 hb (by omega)
theorem bt1 (s : ByteArray) (a b : Nat) (hb : b ≤ s.size) (hi : a + 1 < b) : bt (s.extract a b) 1 = bt s ((a : Int) + 1) := by simpa using bt_extract s a b 1 hb (by omega)
theorem bt2 (s : ByteArray) (a b : Nat) (hb : b ≤ s.size) (hi : a + 2 < b) : bt (s.extract a b) 2 = bt s ((a : Int) + 2) := by simpa using bt_extract s a b 2 hb (by omega)
theorem bt3 (s : ByteArray) (a b : Nat) (hb : b ≤ s.size) (hi : a + 3 < b) : bt (s.extract a b) 3 = bt s ((a : Int) + 3) := by simpa using bt_extract s a b 3 hb (by omega)
theorem fits1 (s : ByteArray) (a : Nat) : Fits s a 1 (val1 (bt s (a : Int))) ↔ bt s (a : Int) < 128 := by
  have hb := bt_range s (a : Int)
  unfold Fits val1
  by_cases c : bt s (a : Int) < 128
  · rw [if_pos c]
    refine ⟨fun _ => c, fun _ => ⟨by omega, by unfold formOf; rw [if_pos c]; rfl, fun i hi => ?_⟩⟩
    obtain rfl : i = 0 := by omega
    unfold formOf
    rw [if_pos c]
    simp
    omega
  · rw [if_neg c]
    exact ⟨fun h => absurd h.1.1 (by omega), fun h => absurd h c⟩
theorem fits2 (s : ByteArray) (a : Nat) : Fits s a 2 (val2 (bt s (a : Int)) (bt s ((a : Int) + 1))) ↔ 194 ≤ bt s (a : Int) ∧ bt s (a : Int) < 224 ∧ 128 ≤ bt s ((a : Int) + 1) ∧ bt s ((a : Int) + 1) ≤ 191 := by
  constructor
  · rintro ⟨h1, h2, _⟩
    have c := (val2_pos _ _).1 h1.1
    simp only [val2, if_pos c] at h2
    by_cases c1 : (bt s (a : Int) - 192) * 64 + (bt s ((a : Int) + 1) - 128) < 128
    · unfold formOf at h2
      rw [if_pos c1] at h2
      exact absurd h2 (by simp)
    · omega
  · intro c
    have e : val2 (bt s (a : Int)) (bt s ((a : Int) + 1)) = (bt s (a : Int) - 192) * 64 + (bt s ((a : Int) + 1) - 128) := if_pos (by omega)
    rw [e]
    have ef : formOf ((bt s (a : Int) - 192) * 64 + (bt s ((a : Int) + 1) - 128)) = [192 + ((bt s (a : Int) - 192) * 64 + (bt s ((a : Int) + 1) - 128)) / 64, 128 + ((bt s (a : Int) - 192) * 64 + (bt s ((a : Int) + 1) - 128)) % 64] := by
      unfold formOf
      rw [if_neg (by omega), if_pos (by omega)]
    refine ⟨by omega, by rw [ef]; rfl, fun i hi => ?_⟩
    rw [ef]
    rcases (by omega : i = 0 ∨ i = 1) with rfl | rfl
    · simp; omega
    · simp; omega
theorem fits3 (s : ByteArray) (a : Nat) : Fits s a 3 (val3 (bt s (a : Int)) (bt s ((a : Int) + 1)) (bt s ((a : Int) + 2))) ↔ 224 ≤ bt s (a : Int) ∧ bt s (a : Int) < 240 ∧ lo2 (bt s (a : Int)) ≤ bt s ((a : Int) + 1) ∧ bt s ((a : Int) + 1) ≤ hi2 (bt s (a : Int)) ∧ 128 ≤ bt s ((a : Int) + 2) ∧ bt s ((a : Int) + 2) ≤ 191 := by
  have hl := lo2_facts (bt s (a : Int))
  have hh := hi2_facts (bt s (a : Int))
  constructor
  · rintro ⟨h1, h2, _⟩
    have c := (val3_pos _ _ _).1 h1.1
    simp only [val3, if_pos c] at h1 h2
    have g : 2048 ≤ (bt s (a : Int) - 224) * 4096 + (bt s ((a : Int) + 1) - 128) * 64 + (bt s ((a : Int) + 2) - 128) := by
      refine Int.not_lt.1 (fun hlt => ?_)
      unfold formOf at h2
      by_cases c1 : (bt s (a : Int) - 224) * 4096 + (bt s ((a : Int) + 1) - 128) * 64 + (bt s ((a : Int) + 2) - 128) < 128
      · rw [if_pos c1] at h2
        exact absurd h2 (by simp)
      · rw [if_neg c1, if_pos hlt] at h2
        exact absurd h2 (by simp)
    omega
  · intro c
    have e : val3 (bt s (a : Int)) (bt s ((a : Int) + 1)) (bt s ((a : Int) + 2)) = (bt s (a : Int) - 224) * 4096 + (bt s ((a : Int) + 1) - 128) * 64 + (bt s ((a : Int) + 2) - 128) := if_pos (by omega)
    rw [e]
    generalize hv : (bt s (a : Int) - 224) * 4096 + (bt s ((a : Int) + 1) - 128) * 64 + (bt s ((a : Int) + 2) - 128) = v
    have ef : formOf v = [224 + v / 4096, 128 + v / 64 % 64, 128 + v % 64] := by
      unfold formOf
      rw [if_neg (by omega), if_neg (by omega), if_pos (by omega)]
    refine ⟨by omega, by rw [ef]; rfl, fun i hi => ?_⟩
    rw [ef]
    rcases (by omega : i = 0 ∨ i = 1 ∨ i = 2) with rfl | rfl | rfl
    · simp; omega
    · simp; omega
    · simp; omega
theorem fits4 (s : ByteArray) (a : Nat) : Fits s a 4 (val4 (bt s (a : Int)) (bt s ((a : Int) + 1)) (bt s ((a : Int) + 2)) (bt s ((a : Int) + 3))) ↔ 240 ≤ bt s (a : Int) ∧ bt s (a : Int) < 245 ∧ lo2 (bt s (a : Int)) ≤ bt s ((a : Int) + 1) ∧ bt s ((a : Int) + 1) ≤ hi2 (bt s (a : Int)) ∧ 128 ≤ bt s ((a : Int) + 2) ∧ bt s ((a : Int) + 2) ≤ 191 ∧ 128 ≤ bt s ((a : Int) + 3) ∧ bt s ((a : Int) + 3) ≤ 191 := by
  have hl := lo2_facts (bt s (a : Int))
  have hh := hi2_facts (bt s (a : Int))
  constructor
  · rintro ⟨h1, h2, _⟩
    have c := (val4_pos _ _ _ _).1 h1.1
    simp only [val4, if_pos c] at h1 h2
    generalize hv : (bt s (a : Int) - 240) * 262144 + (bt s ((a : Int) + 1) - 128) * 4096 + (bt s ((a : Int) + 2) - 128) * 64 + (bt s ((a : Int) + 3) - 128) = v at h1 h2
    have g : 65536 ≤ v := by
      refine Int.not_lt.1 (fun hlt => ?_)
      unfold formOf at h2
      by_cases c1 : v < 128
      · rw [if_pos c1] at h2
        exact absurd h2 (by simp)
      · rw [if_neg c1] at h2
        by_cases c2 : v < 2048
        · rw [if_pos c2] at h2
          exact absurd h2 (by simp)
        · rw [if_neg c2, if_pos hlt] at h2
          exact absurd h2 (by simp)
    omega
  · intro c
    have e : val4 (bt s (a : Int)) (bt s ((a : Int) + 1)) (bt s ((a : Int) + 2)) (bt s ((a : Int) + 3)) = (bt s (a : Int) - 240) * 262144 + (bt s ((a : Int) + 1) - 128) * 4096 + (bt s ((a : Int) + 2) - 128) * 64 + (bt s ((a : Int) + 3) - 128) := if_pos (by omega)
    rw [e]
    generalize hv : (bt s (a : Int) - 240) * 262144 + (bt s ((a : Int) + 1) - 128) * 4096 + (bt s ((a : Int) + 2) - 128) * 64 + (bt s ((a : Int) + 3) - 128) = v
    have ef : formOf v = [240 + v / 262144, 128 + v / 4096 % 64, 128 + v / 64 % 64, 128 + v % 64] := by
      unfold formOf
      rw [if_neg (by omega), if_neg (by omega), if_neg (by omega)]
    refine ⟨by omega, by rw [ef]; rfl, fun i hi => ?_⟩
    rw [ef]
    rcases (by omega : i = 0 ∨ i = 1 ∨ i = 2 ∨ i = 3) with rfl | rfl | rfl | rfl
    · simp; omega
    · simp; omega
    · simp; omega
    · simp; omega
end Go.Proofs.YtohnahbjmcelfaaDoor.V
namespace Go.Proofs.YtohnahbjmcelfaaDoor.V
set_option linter.unusedVariables false
open Go.RowKit Go.Proofs.YtohnahbjmcelfaaDoorW.PrintWords Go.Proofs.YtohnahbjmcelfaaDoorW.PrintLast Go.Proofs.YtohnahbjmcelfaaDoorW.PrintMore Go.Proofs.YtohnahbjmcelfaaDoor.Er

theorem lohi_two {b0 : Int} (h1 : ¬ b0 < 194) (h2 : b0 < 224) : lo2 b0 = 128 ∧ hi2 b0 = 191 := ⟨(lo2_facts b0).2.2 (by omega) (by omega), (hi2_facts b0).2.2 (by omega) (by omega)⟩
/-- no form stands there, and there are bytes enough. -/
theorem nx4 (b0 : Int) (m : Nat) (b1 b2 b3 : Int) (hm : 4 ≤ m) (n1 : ¬ b0 < 128) (n2 : ¬ (194 ≤ b0 ∧ b0 < 224 ∧ 128 ≤ b1 ∧ b1 ≤ 191)) (n3 : ¬ (224 ≤ b0 ∧ b0 < 240 ∧ lo2 b0 ≤ b1 ∧ b1 ≤ hi2 b0 ∧ 128 ≤ b2 ∧ b2 ≤ 191))
    (n4 : ¬ (240 ≤ b0 ∧ b0 < 245 ∧ lo2 b0 ≤ b1 ∧ b1 ≤ hi2 b0 ∧ 128 ≤ b2 ∧ b2 ≤ 191 ∧ 128 ≤ b3 ∧ b3 ≤ 191)) : nx b0 m b1 b2 b3 = (0, 0, 1) := by
  unfold nx
  rw [if_neg n1]
  by_cases c1 : b0 < 194
  · rw [if_pos c1]
  rw [if_neg c1]
  by_cases c2 : 245 ≤ b0
  · rw [if_pos c2]
  rw [if_neg c2, if_neg (show ¬ m ≤ 1 by omega)]
  by_cases c3 : b1 < lo2 b0
  · rw [if_pos c3]
  rw [if_neg c3]
  by_cases c4 : hi2 b0 < b1
  · rw [if_pos c4]
  rw [if_neg c4]
  by_cases c5 : b0 < 224
  · have h := lohi_two c1 c5
    exact absurd ⟨by omega, c5, by omega, by omega⟩ n2
  rw [if_neg c5, if_neg (show ¬ m ≤ 2 by omega)]
  by_cases c6 : b2 < 128
  · rw [if_pos c6]
  rw [if_neg c6]
  by_cases c7 : 191 < b2
  · rw [if_pos c7]
  rw [if_neg c7]
  by_cases c8 : b0 < 240
  · exact absurd ⟨by omega, c8, by omega, by omega, by omega, by omega⟩ n3
  rw [if_neg c8, if_neg (show ¬ m ≤ 3 by omega)]
  by_cases c9 : b3 < 128
  · rw [if_pos c9]
  rw [if_neg c9]
  by_cases c10 : 191 < b3
  · rw [if_pos c10]
  exact absurd ⟨by omega, by omega, by omega, by omega, by omega, by omega, by omega, by omega⟩ n4
theorem nx3 (b0 : Int) (b1 b2 b3 : Int) (n1 : ¬ b0 < 128) (n2 : ¬ (194 ≤ b0 ∧ b0 < 224 ∧ 128 ≤ b1 ∧ b1 ≤ 191)) (n3 : ¬ (224 ≤ b0 ∧ b0 < 240 ∧ lo2 b0 ≤ b1 ∧ b1 ≤ hi2 b0 ∧ 128 ≤ b2 ∧ b2 ≤ 191)) :
    nx b0 3 b1 b2 b3 = if 240 ≤ b0 ∧ b0 < 245 ∧ lo2 b0 ≤ b1 ∧ b1 ≤ hi2 b0 ∧ 128 ≤ b2 ∧ b2 ≤ 191 then (0, 0, 2) else (0, 0, 1) := by
  unfold nx
  rw [if_neg n1]
  by_cases c1 : b0 < 194
  · rw [if_pos c1, if_neg (by omega)]
  rw [if_neg c1]
  by_cases c2 : 245 ≤ b0
  · rw [if_pos c2, if_neg (by omega)]
  rw [if_neg c2, if_neg (show ¬ 3 ≤ 1 by omega)]
  by_cases c3 : b1 < lo2 b0
  · rw [if_pos c3, if_neg (fun h => absurd h.2.2.1 (by omega))]
  rw [if_neg c3]
  by_cases c4 : hi2 b0 < b1
  · rw [if_pos c4, if_neg (fun h => absurd h.2.2.2.1 (by omega))]
  rw [if_neg c4]
  by_cases c5 : b0 < 224
  · have h := lohi_two c1 c5
    exact absurd ⟨by omega, c5, by omega, by omega⟩ n2
  rw [if_neg c5, if_neg (show ¬ 3 ≤ 2 by omega)]
  by_cases c6 : b2 < 128
  · rw [if_pos c6, if_neg (fun h => absurd h.2.2.2.2.1 (by omega))]
  rw [if_neg c6]
  by_cases c7 : 191 < b2
  · rw [if_pos c7, if_neg (fun h => absurd h.2.2.2.2.2 (by omega))]
  rw [if_neg c7]
  by_cases c8 : b0 < 240
  · exact absurd ⟨by omega, c8, by omega, by omega, by omega, by omega⟩ n3
  rw [if_neg c8, if_pos (show 3 ≤ 3 by omega), if_pos ⟨by omega, by omega, by omega, by omega, by omega, by omega⟩]
theorem nx2 (b0 : Int) (b1 b2 b3 : Int) (n1 : ¬ b0 < 128) (n2 : ¬ (194 ≤ b0 ∧ b0 < 224 ∧ 128 ≤ b1 ∧ b1 ≤ 191)) :
    nx b0 2 b1 b2 b3 = if 224 ≤ b0 ∧ b0 < 245 ∧ lo2 b0 ≤ b1 ∧ b1 ≤ hi2 b0 then (0, 0, 2) else (0, 0, 1) := by
  unfold nx
  rw [if_neg n1]
  by_cases c1 : b0 < 194
  · rw [if_pos c1, if_neg (by omega)]
  rw [if_neg c1]
  by_cases c2 : 245 ≤ b0
  · rw [if_pos c2, if_neg (by omega)]
  rw [if_neg c2, if_neg (show ¬ 2 ≤ 1 by omega)]
  by_cases c3 : b1 < lo2 b0
  · rw [if_pos c3, if_neg (fun h => absurd h.2.2.1 (by omega))]
  rw [if_neg c3]
  by_cases c4 : hi2 b0 < b1
  · rw [if_pos c4, if_neg (fun h => absurd h.2.2.2 (by omega))]
  rw [if_neg c4]
  by_cases c5 : b0 < 224
  · have h := lohi_two c1 c5
    exact absurd ⟨by omega, c5, by omega, by omega⟩ n2
  rw [if_neg c5, if_pos (show 2 ≤ 2 by omega), if_pos ⟨by omega, by omega, by omega, by omega⟩]
theorem nx1 (b0 : Int) (b1 b2 b3 : Int) (n1 : ¬ b0 < 128) : nx b0 1 b1 b2 b3 = if 194 ≤ b0 ∧ b0 < 245 then (0, 0, 2) else (0, 0, 1) := by
  unfold nx
  rw [if_neg n1]
  by_cases c1 : b0 < 194
  · rw [if_pos c1, if_neg (by omega)]
  rw [if_neg c1]
  by_cases c2 : 245 ≤ b0
  · rw [if_pos c2, if_neg (by omega)]
  rw [if_neg c2, if_pos (show 1 ≤ 1 by omega), if_pos (by omega)]

set_option maxHeartbeats 4000000 in
theorem ref_tail (s : ByteArray) (hs : s.size ≤ 1000000) (a : Nat) (ha : a < s.size) (n1 : ¬ bt s (a : Int) < 128)
    (n2 : a + 2 ≤ s.size → ¬ (194 ≤ bt s (a : Int) ∧ bt s (a : Int) < 224 ∧ 128 ≤ bt s ((a : Int) + 1) ∧ bt s ((a : Int) + 1) ≤ 191))
    (n3 : a + 3 ≤ s.size → ¬ (224 ≤ bt s (a : Int) ∧ bt s (a : Int) < 240 ∧ lo2 (bt s (a : Int)) ≤ bt s ((a : Int) + 1) ∧ bt s ((a : Int) + 1) ≤ hi2 (bt s (a : Int)) ∧ 128 ≤ bt s ((a : Int) + 2) ∧ bt s ((a : Int) + 2) ≤ 191))
    (n4 : a + 4 ≤ s.size → ¬ (240 ≤ bt s (a : Int) ∧ bt s (a : Int) < 245 ∧ lo2 (bt s (a : Int)) ≤ bt s ((a : Int) + 1) ∧ bt s ((a : Int) + 1) ≤ hi2 (bt s (a : Int)) ∧ 128 ≤ bt s ((a : Int) + 2) ∧ bt s ((a : Int) + 2) ≤ 191 ∧ 128 ≤ bt s ((a : Int) + 3) ∧ bt s ((a : Int) + 3) ≤ 191)) :
    Ev (fun k => eponymref01_Next.l1 k (s.extract a s.size) ((s.size - a + 1 : Nat) : Int)) (nxAt s a) := by
  have hb := bt_range s (a : Int)
  have hz : (s.extract a s.size).size = s.size - a := by rw [ByteArray.size_extract]; omega
  unfold nxAt
  rw [show ((a + 1 : Nat) : Int) = (a : Int) + 1 by omega, show ((a + 2 : Nat) : Int) = (a : Int) + 2 by omega, show ((a + 3 : Nat) : Int) = (a : Int) + 3 by omega]
  generalize hb0 : bt s (a : Int) = b0 at *
  generalize hb1 : bt s ((a : Int) + 1) = b1 at *
  generalize hb2 : bt s ((a : Int) + 2) = b2 at *
  generalize hb3 : bt s ((a : Int) + 3) = b3 at *
  by_cases m4 : a + 4 ≤ s.size
  · exact Ev.to (rn_end _ (s.size - a + 1) (by omega)) (nx4 b0 _ b1 b2 b3 (by omega) n1 (n2 (by omega)) (n3 (by omega)) (n4 m4)).symm
  have e0 : bt (s.extract a s.size) ((0 : Nat) : Int) = b0 := by rw [← hb0]; exact bt0 s a s.size (Nat.le_refl _) ha
  have last : ∀ (x1 y1 x2 y2 : Int), (∀ t, Padded (s.extract a s.size) 4 128 t → Ev (fun k => eponymref01_value.f k t) (val4 b0 x1 x2 128)) → (∀ t, Padded (s.extract a s.size) 4 191 t → Ev (fun k => eponymref01_value.f k t) (val4 b0 y1 y2 191)) →
      (x1 = 128 ∧ y1 = 191 ∧ x2 = 128 ∧ y2 = 191 ∨ x1 = y1 ∧ x2 = 128 ∧ y2 = 191 ∨ x1 = y1 ∧ x2 = y2) → ∀ r : Int × Int × Int, (240 ≤ b0 ∧ b0 < 245 ∧ 128 ≤ x1 ∧ y1 ≤ 191 ∧ 128 ≤ x2 ∧ y2 ≤ 191 ∧ (x1 = y1 → lo2 b0 ≤ x1 ∧ y1 ≤ hi2 b0) → r = (0, 0, 2)) → (¬ (240 ≤ b0 ∧ b0 < 245 ∧ 128 ≤ x1 ∧ y1 ≤ 191 ∧ 128 ≤ x2 ∧ y2 ≤ 191 ∧ (x1 = y1 → lo2 b0 ≤ x1 ∧ y1 ≤ hi2 b0)) → r = (0, 0, 1)) →
      Ev (fun k => eponymref01_Next.l1 k (s.extract a s.size) ((4 : Nat) : Int)) r := fun x1 y1 x2 y2 hA hB h r h1 h2 =>
    rn_l1 _ 4 (by omega) (by rw [hz]; omega) r _ _ hA hB (fun g1 g2 g3 => h1 ((t4 b0 x1 y1 x2 y2 h).1 ⟨g1, g2, g3⟩)) (fun g => Ev.to (rn_end _ 5 (by omega)) (h2 (fun g' => g ((t4 b0 x1 y1 x2 y2 h).2 g'))).symm)
  by_cases m3 : a + 3 ≤ s.size
  · have e1 : bt (s.extract a s.size) ((1 : Nat) : Int) = b1 := by rw [← hb1]; exact bt1 s a s.size (Nat.le_refl _) (by omega)
    have e2 : bt (s.extract a s.size) ((2 : Nat) : Int) = b2 := by rw [← hb2]; exact bt2 s a s.size (Nat.le_refl _) (by omega)
    have hm : s.size - a = 3 := by omega
    rw [hm] at hz ⊢
    refine last b1 b1 b2 b2 (fun t ht => ?_) (fun t ht => ?_) (.inr (.inr ⟨rfl, rfl⟩)) _ (fun h => ?_) (fun h => ?_)
    · have := padded4 ht
      rwa [hz, if_pos (by omega), if_pos (by omega), if_pos (by omega), if_neg (by omega), e0, e1, e2] at this
    · have := padded4 ht
      rwa [hz, if_pos (by omega), if_pos (by omega), if_pos (by omega), if_neg (by omega), e0, e1, e2] at this
    · have h5 := h.2.2.2.2.2.2 rfl
      rw [nx3 b0 b1 b2 b3 n1 (n2 (by omega)) (n3 (by omega)), if_pos ⟨h.1, h.2.1, h5.1, h5.2, h.2.2.2.2.1, h.2.2.2.2.2.1⟩]
    · rw [nx3 b0 b1 b2 b3 n1 (n2 (by omega)) (n3 (by omega)), if_neg (fun g => h ⟨g.1, g.2.1, Int.le_trans (lo2_range b0).1 g.2.2.1, Int.le_trans g.2.2.2.1 (hi2_range b0).2, g.2.2.2.2.1, g.2.2.2.2.2, fun _ => ⟨g.2.2.1, g.2.2.2.1⟩⟩)]
  by_cases m2 : a + 2 ≤ s.size
  · have e1 : bt (s.extract a s.size) ((1 : Nat) : Int) = b1 := by rw [← hb1]; exact bt1 s a s.size (Nat.le_refl _) (by omega)
    have hm : s.size - a = 2 := by omega
    rw [hm] at hz ⊢
    have p3 : ∀ c t, Padded (s.extract a s.size) 3 c t → Ev (fun k => eponymref01_value.f k t) (val3 b0 b1 c) := fun c t ht => by
      have := padded3 ht
      rwa [hz, if_pos (by omega), if_pos (by omega), if_neg (by omega), e0, e1] at this
    have p4 : ∀ c t, Padded (s.extract a s.size) 4 c t → Ev (fun k => eponymref01_value.f k t) (val4 b0 b1 c c) := fun c t ht => by
      have := padded4 ht
      rwa [hz, if_pos (by omega), if_pos (by omega), if_neg (by omega), if_neg (by omega), e0, e1] at this
    have hn2 := n2 m2
    refine rn_l1 _ 3 (by omega) (by rw [hz]; omega) _ _ _ (p3 128) (p3 191) (fun g1 g2 g3 => ?_) (fun g => ?_)
    · have h := (t3 b0 b1 b1 (.inr rfl)).1 ⟨g1, g2, g3⟩
      have h5 := h.2.2.2.2 rfl
      rw [nx2 b0 b1 b2 b3 n1 hn2, if_pos ⟨h.1, by have := h.2.1; omega, h5.1, h5.2⟩]
    · have g' : ¬ (224 ≤ b0 ∧ b0 < 240 ∧ 128 ≤ b1 ∧ b1 ≤ 191 ∧ (b1 = b1 → lo2 b0 ≤ b1 ∧ b1 ≤ hi2 b0)) := fun h => g ((t3 b0 b1 b1 (.inr rfl)).2 h)
      refine last b1 b1 128 191 (p4 128) (p4 191) (.inr (.inl ⟨rfl, rfl, rfl⟩)) _ (fun h => ?_) (fun h => ?_)
      · have h5 := h.2.2.2.2.2.2 rfl
        rw [nx2 b0 b1 b2 b3 n1 hn2, if_pos ⟨by have := h.1; omega, h.2.1, h5.1, h5.2⟩]
      · rw [nx2 b0 b1 b2 b3 n1 hn2, if_neg (fun q => ?_)]
        have q3 := Int.le_trans (lo2_range b0).1 q.2.2.1
        have q4 := Int.le_trans q.2.2.2 (hi2_range b0).2
        by_cases q0 : b0 < 240
        · exact g' ⟨q.1, q0, q3, q4, fun _ => ⟨q.2.2.1, q.2.2.2⟩⟩
        · exact h ⟨by omega, q.2.1, q3, q4, by omega, by omega, fun _ => ⟨q.2.2.1, q.2.2.2⟩⟩
  · have hm : s.size - a = 1 := by omega
    rw [hm] at hz ⊢
    have p2 : ∀ c t, Padded (s.extract a s.size) 2 c t → Ev (fun k => eponymref01_value.f k t) (val2 b0 c) := fun c t ht => by
      have := padded2 ht
      rwa [hz, if_pos (by omega), if_neg (by omega), e0] at this
    have p3 : ∀ c t, Padded (s.extract a s.size) 3 c t → Ev (fun k => eponymref01_value.f k t) (val3 b0 c c) := fun c t ht => by
      have := padded3 ht
      rwa [hz, if_pos (by omega), if_neg (by omega), if_neg (by omega), e0] at this
    have p4 : ∀ c t, Padded (s.extract a s.size) 4 c t → Ev (fun k => eponymref01_value.f k t) (val4 b0 c c c) := fun c t ht => by
      have := padded4 ht
      rwa [hz, if_pos (by omega), if_neg (by omega), if_neg (by omega), if_neg (by omega), e0] at this
    refine rn_l1 _ 2 (by omega) (by rw [hz]; omega) _ _ _ (p2 128) (p2 191) (fun g1 g2 g3 => ?_) (fun g => ?_)
    · have h := (t2 b0).1 ⟨g1, g2, g3⟩
      rw [nx1 b0 b1 b2 b3 n1, if_pos (by omega)]
    have g' : ¬ (194 ≤ b0 ∧ b0 < 224) := fun h => g ((t2 b0).2 h)
    refine rn_l1 _ 3 (by omega) (by rw [hz]; omega) _ _ _ (p3 128) (p3 191) (fun g1 g2 g3 => ?_) (fun g2 => ?_)
    · have h := (t3 b0 128 191 (.inl ⟨rfl, rfl⟩)).1 ⟨g1, g2, g3⟩
      rw [nx1 b0 b1 b2 b3 n1, if_pos (by omega)]
    have g3' : ¬ (224 ≤ b0 ∧ b0 < 240) := fun h => g2 ((t3 b0 128 191 (.inl ⟨rfl, rfl⟩)).2 ⟨h.1, h.2, by omega, by omega, fun e => absurd e (by omega)⟩)
    refine last 128 191 128 191 (p4 128) (p4 191) (.inl ⟨rfl, rfl, rfl, rfl⟩) _ (fun h => ?_) (fun h => ?_)
    · rw [nx1 b0 b1 b2 b3 n1, if_pos ⟨by have := h.1; omega, h.2.1⟩]
    · have h' : ¬ (240 ≤ b0 ∧ b0 < 245) := fun g => h ⟨g.1, g.2, by omega, by omega, by omega, by omega, fun e => absurd e (by omega)⟩
      rw [nx1 b0 b1 b2 b3 n1, if_neg (by omega)]

theorem rnext_ev (s : ByteArray) (hs : s.size ≤ 1000000) (a : Nat) (ha : a < s.size) : Ev (fun k => eponymref01_Next.f k s (a : Int)) (nxAt s a) := by
  have hl := lo2_facts (bt s (a : Int))
  have hh := hi2_facts (bt s (a : Int))
  simp only [eponymref01_Next.f]
  have x1 : Ev (fun k => eponymref01_value.f k (s.extract a (a + 1))) (val1 (bt s (a : Int))) := by
    have := val_ev1 (s.extract a (a + 1)) (by rw [ByteArray.size_extract]; omega)
    rwa [bt0 s a (a + 1) (by omega) (by omega)] at this
  have eq : nxAt s a = nx (bt s (a : Int)) (s.size - a) (bt s ((a : Int) + 1)) (bt s ((a : Int) + 2)) (bt s ((a : Int) + 3)) := by
    unfold nxAt
    rw [show ((a + 1 : Nat) : Int) = (a : Int) + 1 by omega, show ((a + 2 : Nat) : Int) = (a : Int) + 2 by omega, show ((a + 3 : Nat) : Int) = (a : Int) + 3 by omega]
  refine rn_fit s hs a 1 _ (by omega) (by omega) (by omega) x1 _ (fun h => ?_) (fun h => ?_)
  · have c := (fits1 s a).1 h
    rw [eq]
    unfold nx val1
    rw [if_pos c, if_pos c]
    rfl
  have n1 : ¬ bt s (a : Int) < 128 := fun c => h ((fits1 s a).2 c)
  clear h
  by_cases m2 : a + 2 ≤ s.size
  rotate_left
  · exact rn_stop s hs a 2 ha (by omega) (by omega) _ (ref_tail s hs a ha n1 (fun h => absurd h (by omega)) (fun h => absurd h (by omega)) (fun h => absurd h (by omega)))
  have x2 : Ev (fun k => eponymref01_value.f k (s.extract a (a + 2))) (val2 (bt s (a : Int)) (bt s ((a : Int) + 1))) := by
    have := val_ev2 (s.extract a (a + 2)) (by rw [ByteArray.size_extract]; omega)
    rwa [bt0 s a (a + 2) (by omega) (by omega), bt1 s a (a + 2) (by omega) (by omega)] at this
  refine rn_fit s hs a 2 _ (by omega) (by omega) (by omega) x2 _ (fun h => ?_) (fun h => ?_)
  · have c := (fits2 s a).1 h
    rw [eq]
    unfold nx val2
    rw [if_neg (by omega), if_neg (by omega), if_neg (by omega), if_neg (by omega), if_neg (by omega), if_neg (by omega), if_pos (by omega), if_pos (by omega)]
    rfl
  have n2 := fun c => h ((fits2 s a).2 c)
  clear h
  by_cases m3 : a + 3 ≤ s.size
  rotate_left
  · exact rn_stop s hs a 3 ha (by omega) (by omega) _ (ref_tail s hs a ha n1 (fun _ => n2) (fun h => absurd h (by omega)) (fun h => absurd h (by omega)))
  have x3 : Ev (fun k => eponymref01_value.f k (s.extract a (a + 3))) (val3 (bt s (a : Int)) (bt s ((a : Int) + 1)) (bt s ((a : Int) + 2))) := by
    have := val_ev3 (s.extract a (a + 3)) (by rw [ByteArray.size_extract]; omega)
    rwa [bt0 s a (a + 3) (by omega) (by omega), bt1 s a (a + 3) (by omega) (by omega), bt2 s a (a + 3) (by omega) (by omega)] at this
  refine rn_fit s hs a 3 _ (by omega) (by omega) (by omega) x3 _ (fun h => ?_) (fun h => ?_)
  · have c := (fits3 s a).1 h
    rw [eq]
    unfold nx val3
    rw [if_neg (by omega), if_neg (by omega), if_neg (by omega), if_neg (by omega), if_neg (by omega), if_neg (by omega), if_neg (by omega), if_neg (by omega), if_neg (by omega), if_neg (by omega), if_pos (by omega), if_pos (by omega)]
    rfl
  have n3 := fun c => h ((fits3 s a).2 c)
  clear h
  by_cases m4 : a + 4 ≤ s.size
  rotate_left
  · exact rn_stop s hs a 4 ha (by omega) (by omega) _ (ref_tail s hs a ha n1 (fun _ => n2) (fun _ => n3) (fun h => absurd h (by omega)))
  have x4 : Ev (fun k => eponymref01_value.f k (s.extract a (a + 4))) (val4 (bt s (a : Int)) (bt s ((a : Int) + 1)) (bt s ((a : Int) + 2)) (bt s ((a : Int) + 3))) := by
    have := val_ev4 (s.extract a (a + 4)) (by rw [ByteArray.size_extract]; omega)
    rwa [bt0 s a (a + 4) (by omega) (by omega), bt1 s a (a + 4) (by omega) (by omega), bt2 s a (a + 4) (by omega) (by omega), bt3 s a (a + 4) (by omega) (by omega)] at this
  refine rn_fit s hs a 4 _ (by omega) (by omega) (by omega) x4 _ (fun h => ?_) (fun h => ?_)
  · have c := (fits4 s a).1 h
    rw [eq]
    unfold nx val4
    rw [if_neg (by omega), if_neg (by omega), if_neg (by omega), if_neg (by omega), if_neg (by omega), if_neg (by omega), if_neg (by omega), if_neg (by omega), if_neg (by omega), if_neg (by omega), if_neg (by omega), if_neg (by omega), if_neg (by omega), if_neg (by omega), if_pos (by omega)]
    rfl
  have n4 := fun c => h ((fits4 s a).2 c)
  exact rn_stop s hs a 5 ha (.inl rfl) (by omega) _ (ref_tail s hs a ha n1 (fun _ => n2) (fun _ => n3) (fun _ => n4))

/-- a whole text's runes, from a place on; or the place and the number of what is wrong first. -/
def decL (s : ByteArray) : Nat → Nat → List Int → List Int × Int × Int
  | 0, _, out => (out, 0, 0)
  | d + 1, a, out => if a < s.size then (if (nxAt s a).2.2 = 0 then decL s d (a + (nxAt s a).2.1.toNat) (out ++ [(nxAt s a).1]) else ([], (a : Int), (nxAt s a).2.2)) else (out, 0, 0)
def decS (s : ByteArray) : List Int × Int × Int := decL s s.size 0 []
def errL (p : List Int × Int × Int) : List Int × Option Int := (p.1, eo p.2.1 p.2.2)
theorem decL_end (s : ByteArray) (d a : Nat) (out : List Int) (h : s.size ≤ a) : decL s d a out = (out, 0, 0) := by
  cases d with
  | zero => rfl
  | succ d => exact if_neg (by omega)
theorem pdec_l0 (s : ByteArray) (hs : s.size ≤ 1000000) : ∀ (d a : Nat) (out : List Int), s.size ≤ a + d → a ≤ s.size → out.length ≤ a → Ev (fun k => utf_Decode.l0 k s out (a : Int)) (errL (decL s d a out))
  | d, a, out, hd, ha, ho => by
    by_cases c : a < s.size
    rotate_left
    · rw [decL_end s d a out (by omega)]
      refine Ev.succ ?_
      simp only [utf_Decode.l0]
      exact Ev.neg (by omega) (Ev.now _)
    cases d with
    | zero => omega
    | succ d =>
      have hw := nx_width (bt s (a : Int)) (s.size - a) (by omega) (bt s (a + 1 : Nat)) (bt s (a + 2 : Nat)) (bt s (a + 3 : Nat))
      have hn := nx_number (bt s (a : Int)) (s.size - a) (bt s (a + 1 : Nat)) (bt s (a + 2 : Nat)) (bt s (a + 3 : Nat))
      refine Ev.succ ?_
      simp only [utf_Decode.l0]
      refine Ev.pos (by omega) (Ev.bind (pnext_ev s hs a c) ?_)
      simp only [decL, if_pos c, errOf]
      by_cases e : (nxAt s a).2.2 = 0
      · rw [if_pos e]
        have hw' := hw e
        have h0 : eo (a : Int) (nxAt s a).2.2 = none := by rw [e]; rfl
        refine Ev.pos (by rw [h0]; rfl) (Ev.pos (by omega) ?_)
        have hw1 : 1 ≤ (nxAt s a).2.1 := hw'.1
        have hw2 : (nxAt s a).2.1 ≤ ((s.size - a : Nat) : Int) := hw'.2
        rw [w64' (by omega) (by omega), show (a : Int) + (nxAt s a).2.1 = ((a + (nxAt s a).2.1.toNat : Nat) : Int) by omega]
        exact pdec_l0 s hs d _ _ (by omega) (by omega) (by simp; omega)
      · rw [if_neg e]
        have : eo (a : Int) (nxAt s a).2.2 = some ((a : Int) * 64 + (nxAt s a).2.2) := if_neg e
        refine Ev.neg (by rw [this]; simp) (Ev.is ?_)
        rw [this]
        unfold errL
        rw [this]
        rfl
termination_by d => d
theorem pdec_ev (s : ByteArray) (hs : s.size ≤ 1000000) : Ev (fun k => utf_Decode.f k s) (errL (decS s)) := pdec_l0 s hs s.size 0 [] (by omega) (by omega) (by simp)
theorem rdec_l0 (s : ByteArray) (hs : s.size ≤ 1000000) : ∀ (d a : Nat) (out : List Int), s.size ≤ a + d → a ≤ s.size → out.length ≤ a → Ev (fun k => eponymref01_Decode.l0 k s out (a : Int)) (decL s d a out)
  | d, a, out, hd, ha, ho => by
    by_cases c : a < s.size
    rotate_left
    · rw [decL_end s d a out (by omega)]
      refine Ev.succ ?_
      simp only [eponymref01_Decode.l0]
      exact Ev.neg (by omega) (Ev.now _)
    cases d with
    | zero => omega
    | succ d =>
      have hw := nx_width (bt s (a : Int)) (s.size - a) (by omega) (bt s (a + 1 : Nat)) (bt s (a + 2 : Nat)) (bt s (a + 3 : Nat))
      refine Ev.succ ?_
      simp only [eponymref01_Decode.l0]
      refine Ev.pos (by omega) (Ev.bind (rnext_ev s hs a c) ?_)
      simp only [decL, if_pos c]
      by_cases e : (nxAt s a).2.2 = 0
      · rw [if_pos e]
        have hw' := hw e
        refine Ev.pos e (Ev.pos (by omega) ?_)
        have hw1 : 1 ≤ (nxAt s a).2.1 := hw'.1
        have hw2 : (nxAt s a).2.1 ≤ ((s.size - a : Nat) : Int) := hw'.2
        rw [w64' (by omega) (by omega), show (a : Int) + (nxAt s a).2.1 = ((a + (nxAt s a).2.1.toNat : Nat) : Int) by omega]
        exact rdec_l0 s hs d _ _ (by omega) (by omega) (by simp; omega)
      · rw [if_neg e]
        exact Ev.neg e (Ev.now _)
termination_by d => d
theorem rdec_ev (s : ByteArray) (hs : s.size ≤ 1000000) : Ev (fun k => eponymref01_Decode.f k s) (decS s) := rdec_l0 s hs s.size 0 [] (by omega) (by omega) (by simp)
theorem decL_number (s : ByteArray) : ∀ (d a : Nat) (out : List Int), 0 ≤ (decL s d a out).2.2 ∧ (decL s d a out).2.2 ≤ 2
  | 0, a, out => by simp [decL]
  | d + 1, a, out => by
    have hn := nx_number (bt s (a : Int)) (s.size - a) (bt s (a + 1 : Nat)) (bt s (a + 2 : Nat)) (bt s (a + 3 : Nat))
    simp only [decL]
    by_cases c : a < s.size
    · rw [if_pos c]
      by_cases e : (nxAt s a).2.2 = 0
      · rw [if_pos e]; exact decL_number s d _ _
      · rw [if_neg e]
        have hn' : (nxAt s a).2.2 = 0 ∨ (nxAt s a).2.2 = 1 ∨ (nxAt s a).2.2 = 2 := hn
        simp only
        omega
    · rw [if_neg c]; simp
theorem decS_number (s : ByteArray) : 0 ≤ (decS s).2.2 ∧ (decS s).2.2 ≤ 2 := decL_number s _ _ _
end Go.Proofs.YtohnahbjmcelfaaDoor.V
