-- Printed by this session's own turn of the print (wip/mkprint.py), with parts that were proved by hand.
-- HALVED
import Derived.Test.YtohnahbjmcelfaaDoorVx0
namespace Go.Proofs.YtohnahbjmcelfaaDoor.V
open Go.RowKit Go.Proofs.YtohnahbjmcelfaaDoorW.PrintWords Go.Proofs.YtohnahbjmcelfaaDoorW.PrintLast Go.Proofs.YtohnahbjmcelfaaDoorW.PrintMore Go.Proofs.YtohnahbjmcelfaaDoor.Er
attribute [local go_sem] max2_int min2_int max_two min_two max_three min_three max_four min_four   -- for this text's walks alone
set_option linter.unusedVariables false
set_option linter.unusedSimpArgs false

/-! ### eponymref01_value: function 43 -/
mutual
def eponymref01_value.j0 : Nat → ByteArray → Int → Int → Bool → Option (Int)
 | 0, _, _, _, _ => none
 | k + 1, x0, x3, x4, x17 => if x17 = true then (some x3) else (if x4 = 2 then (if x3 ≥ 192 then (eponymref01_value.j1 k x0 x3 x4 (-1) (decide (x3 < 224))) else (eponymref01_value.j1 k x0 x3 x4 (-1) false)) else (eponymref01_value.j1 k x0 x3 x4 (-1) false))
def eponymref01_value.j1 : Nat → ByteArray → Int → Int → Int → Bool → Option (Int)
 | 0, _, _, _, _, _ => none
 | k + 1, x0, x3, x4, x5, x28 => if x28 = true then (eponymref01_value.j2 k x0 x3 x4 (wrap32 (x3 - 192))) else (eponymref01_value.j2 k x0 x3 x4 x5)
def eponymref01_value.j2 : Nat → ByteArray → Int → Int → Int → Option (Int)
 | 0, _, _, _, _ => none
 | k + 1, x0, x3, x4, x5 => if x4 = 3 then (if x3 ≥ 224 then (eponymref01_value.j3 k x0 x3 x4 x5 (decide (x3 < 240))) else (eponymref01_value.j3 k x0 x3 x4 x5 false)) else (eponymref01_value.j3 k x0 x3 x4 x5 false)
def eponymref01_value.j3 : Nat → ByteArray → Int → Int → Int → Bool → Option (Int)
 | 0, _, _, _, _, _ => none
 | k + 1, x0, x3, x4, x5, x40 => if x40 = true then (eponymref01_value.j4 k x0 x3 x4 (wrap32 (x3 - 224))) else (eponymref01_value.j4 k x0 x3 x4 x5)
def eponymref01_value.j4 : Nat → ByteArray → Int → Int → Int → Option (Int)
 | 0, _, _, _, _ => none
 | k + 1, x0, x3, x4, x5 => if x4 = 4 then (if x3 ≥ 240 then (eponymref01_value.j5 k x0 x3 x4 x5 (decide (x3 < 248))) else (eponymref01_value.j5 k x0 x3 x4 x5 false)) else (eponymref01_value.j5 k x0 x3 x4 x5 false)
def eponymref01_value.j5 : Nat → ByteArray → Int → Int → Int → Bool → Option (Int)
 | 0, _, _, _, _, _ => none
 | k + 1, x0, x3, x4, x5, x52 => if x52 = true then (eponymref01_value.j6 k x0 x4 (wrap32 (x3 - 240))) else (eponymref01_value.j6 k x0 x4 x5)
def eponymref01_value.j6 : Nat → ByteArray → Int → Int → Option (Int)
 | 0, _, _, _ => none
 | k + 1, x0, x4, x5 => if x5 < 0 then (some (-1)) else (eponymref01_value.l0 k x0 x4 x5 1)
def eponymref01_value.l0 : Nat → ByteArray → Int → Int → Int → Option (Int)
 | 0, _, _, _, _ => none
 | k + 1, x0, x4, x5, x6 => if x6 < x4 then (if 0 ≤ x6 then (if x6 < (x0.size : Int) then (if (bt x0 x6) < 128 then (some (-1)) else (if (bt x0 x6) > 191 then (some (-1)) else (eponymref01_value.l0 k x0 x4 (wrap32 ((wrap32 ((wrap32 (x5 * 64)) + (wrap32 (bt x0 x6)))) - 128)) (wrap64 (x6 + 1))))) else (none)) else (none)) else (some x5)
end
def eponymref01_value.f (k : Nat) (a0 : ByteArray) : Option (Int) := if 0 < (a0.size : Int) then (if (a0.size : Int) = 1 then (eponymref01_value.j0 k a0 (wrap32 (bt a0 0)) (a0.size : Int) (decide ((wrap32 (bt a0 0)) < 128))) else (eponymref01_value.j0 k a0 (wrap32 (bt a0 0)) (a0.size : Int) false)) else (none)
theorem eponymref01_value.mono_l : ∀ k, (∀ y0 y1 y2 y3, LeO (eponymref01_value.j0 k y0 y1 y2 y3) (eponymref01_value.j0 (k + 1) y0 y1 y2 y3)) ∧ (∀ y0 y1 y2 y3 y4, LeO (eponymref01_value.j1 k y0 y1 y2 y3 y4) (eponymref01_value.j1 (k + 1) y0 y1 y2 y3 y4)) ∧ (∀ y0 y1 y2 y3, LeO (eponymref01_value.j2 k y0 y1 y2 y3) (eponymref01_value.j2 (k + 1) y0 y1 y2 y3)) ∧ (∀ y0 y1 y2 y3 y4, LeO (eponymref01_value.j3 k y0 y1 y2 y3 y4) (eponymref01_value.j3 (k + 1) y0 y1 y2 y3 y4)) ∧ (∀ y0 y1 y2 y3, LeO (eponymref01_value.j4 k y0 y1 y2 y3) (eponymref01_value.j4 (k + 1) y0 y1 y2 y3)) ∧ (∀ y0 y1 y2 y3 y4, LeO (eponymref01_value.j5 k y0 y1 y2 y3 y4) (eponymref01_value.j5 (k + 1) y0 y1 y2 y3 y4)) ∧ (∀ y0 y1 y2, LeO (eponymref01_value.j6 k y0 y1 y2) (eponymref01_value.j6 (k + 1) y0 y1 y2)) ∧ (∀ y0 y1 y2 y3, LeO (eponymref01_value.l0 k y0 y1 y2 y3) (eponymref01_value.l0 (k + 1) y0 y1 y2 y3))
 | 0 => ⟨fun _ _ _ _ r h => by simp [eponymref01_value.j0] at h, fun _ _ _ _ _ r h => by simp [eponymref01_value.j1] at h, fun _ _ _ _ r h => by simp [eponymref01_value.j2] at h, fun _ _ _ _ _ r h => by simp [eponymref01_value.j3] at h, fun _ _ _ _ r h => by simp [eponymref01_value.j4] at h, fun _ _ _ _ _ r h => by simp [eponymref01_value.j5] at h, fun _ _ _ r h => by simp [eponymref01_value.j6] at h, fun _ _ _ _ r h => by simp [eponymref01_value.l0] at h⟩
 | k + 1 => by
  obtain ⟨ih0, ih1, ih2, ih3, ih4, ih5, ih6, ih7⟩ := eponymref01_value.mono_l k
  refine ⟨?_, ?_, ?_, ?_, ?_, ?_, ?_, ?_⟩
  ·intro y0 y1 y2 y3
   unfold eponymref01_value.j0
   repeat' first
   | (with_reducible exact ih0 _ _ _ _)
   | (with_reducible exact ih1 _ _ _ _ _)
   | (with_reducible exact ih2 _ _ _ _)
   | (with_reducible exact ih3 _ _ _ _ _)
   | (with_reducible exact ih4 _ _ _ _)
   | (with_reducible exact ih5 _ _ _ _ _)
   | (with_reducible exact ih6 _ _ _)
   | (with_reducible exact ih7 _ _ _ _)
   | (with_reducible exact LeO.refl _)
   | (with_reducible exact LeO.none _)
   | (with_reducible refine LeO.ite ?_ ?_)
   | (with_reducible refine LeO.bind ?_ (fun _ => ?_))
   | exact ih0 _ _ _ _
   | exact ih1 _ _ _ _ _
   | exact ih2 _ _ _ _
   | exact ih3 _ _ _ _ _
   | exact ih4 _ _ _ _
   | exact ih5 _ _ _ _ _
   | exact ih6 _ _ _
   | exact ih7 _ _ _ _
   | exact LeO.none _
   | refine LeO.ite ?_ ?_
   | refine LeO.bind ?_ (fun _ => ?_)
  ·intro y0 y1 y2 y3 y4
   unfold eponymref01_value.j1
   repeat' first
   | (with_reducible exact ih0 _ _ _ _)
   | (with_reducible exact ih1 _ _ _ _ _)
   | (with_reducible exact ih2 _ _ _ _)
   | (with_reducible exact ih3 _ _ _ _ _)
   | (with_reducible exact ih4 _ _ _ _)
   | (with_reducible exact ih5 _ _ _ _ _)
   | (with_reducible exact ih6 _ _ _)
   | (with_reducible exact ih7 _ _ _ _)
   | (with_reducible exact LeO.refl _)
   | (with_reducible exact LeO.none _)
   | (with_reducible refine LeO.ite ?_ ?_)
   | (with_reducible refine LeO.bind ?_ (fun _ => ?_))
   | exact ih0 _ _ _ _
   | exact ih1 _ _ _ _ _
   | exact ih2 _ _ _ _
   | exact ih3 _ _ _ _ _
   | exact ih4 _ _ _ _
   | exact ih5 _ _ _ _ _
   | exact ih6 _ _ _
   | exact ih7 _ _ _ _
   | exact LeO.none _
   | refine LeO.ite ?_ ?_
   | refine LeO.bind ?_ (fun _ => ?_)
  ·intro y0 y1 y2 y3
   unfold eponymref01_value.j2
   repeat' first
   | (with_reducible exact ih0 _ _ _ _)
   | (with_reducible exact ih1 _ _ _ _ _)
   | (with_reducible exact ih2 _ _ _ _)
   | (with_reducible exact ih3 _ _ _ _ _)
   | (with_reducible exact ih4 _ _ _ _)
   | (with_reducible exact ih5 _ _ _ _ _)
   | (with_reducible exact ih6 _ _ _)
   | (with_reducible exact ih7 _ _ _ _)
   | (with_reducible exact LeO.refl _)
   | (with_reducible exact LeO.none _)
   | (with_reducible refine LeO.ite ?_ ?_)
   | (with_reducible refine LeO.bind ?_ (fun _ => ?_))
   | exact ih0 _ _ _ _
   | exact ih1 _ _ _ _ _
   | exact ih2 _ _ _ _
   | exact ih3 _ _ _ _ _
   | exact ih4 _ _ _ _
   | exact ih5 _ _ _ _ _
   | exact ih6 _ _ _
   | exact ih7 _ _ _ _
   | exact LeO.none _
   | refine LeO.ite ?_ ?_
   | refine LeO.bind ?_ (fun _ => ?_)
  ·intro y0 y1 y2 y3 y4
   unfold eponymref01_value.j3
   repeat' first
   | (with_reducible exact ih0 _ _ _ _)
   | (with_reducible exact ih1 _ _ _ _ _)
   | (with_reducible exact ih2 _ _ _ _)
   | (with_reducible exact ih3 _ _ _ _ _)
   | (with_reducible exact ih4 _ _ _ _)
   | (with_reducible exact ih5 _ _ _ _ _)
   | (with_reducible exact ih6 _ _ _)
   | (with_reducible exact ih7 _ _ _ _)
   | (with_reducible exact LeO.refl _)
   | (with_reducible exact LeO.none _)
   | (with_reducible refine LeO.ite ?_ ?_)
   | (with_reducible refine LeO.bind ?_ (fun _ => ?_))
   | exact ih0 _ _ _ _
   | exact ih1 _ _ _ _ _
   | exact ih2 _ _ _ _
   | exact ih3 _ _ _ _ _
   | exact ih4 _ _ _ _
   | exact ih5 _ _ _ _ _
   | exact ih6 _ _ _
   | exact ih7 _ _ _ _
   | exact LeO.none _
   | refine LeO.ite ?_ ?_
   | refine LeO.bind ?_ (fun _ => ?_)
  ·intro y0 y1 y2 y3
   unfold eponymref01_value.j4
   repeat' first
   | (with_reducible exact ih0 _ _ _ _)
   | (with_reducible exact ih1 _ _ _ _ _)
   | (with_reducible exact ih2 _ _ _ _)
   | (with_reducible exact ih3 _ _ _ _ _)
   | (with_reducible exact ih4 _ _ _ _)
   | (with_reducible exact ih5 _ _ _ _ _)
   | (with_reducible exact ih6 _ _ _)
   | (with_reducible exact ih7 _ _ _ _)
   | (with_reducible exact LeO.refl _)
   | (with_reducible exact LeO.none _)
   | (with_reducible refine LeO.ite ?_ ?_)
   | (with_reducible refine LeO.bind ?_ (fun _ => ?_))
   | exact ih0 _ _ _ _
   | exact ih1 _ _ _ _ _
   | exact ih2 _ _ _ _
   | exact ih3 _ _ _ _ _
   | exact ih4 _ _ _ _
   | exact ih5 _ _ _ _ _
   | exact ih6 _ _ _
   | exact ih7 _ _ _ _
   | exact LeO.none _
   | refine LeO.ite ?_ ?_
   | refine LeO.bind ?_ (fun _ => ?_)
  ·intro y0 y1 y2 y3 y4
   unfold eponymref01_value.j5
   repeat' first
   | (with_reducible exact ih0 _ _ _ _)
   | (with_reducible exact ih1 _ _ _ _ _)
   | (with_reducible exact ih2 _ _ _ _)
   | (with_reducible exact ih3 _ _ _ _ _)
   | (with_reducible exact ih4 _ _ _ _)
   | (with_reducible exact ih5 _ _ _ _ _)
   | (with_reducible exact ih6 _ _ _)
   | (with_reducible exact ih7 _ _ _ _)
   | (with_reducible exact LeO.refl _)
   | (with_reducible exact LeO.none _)
   | (with_reducible refine LeO.ite ?_ ?_)
   | (with_reducible refine LeO.bind ?_ (fun _ => ?_))
   | exact ih0 _ _ _ _
   | exact ih1 _ _ _ _ _
   | exact ih2 _ _ _ _
   | exact ih3 _ _ _ _ _
   | exact ih4 _ _ _ _
   | exact ih5 _ _ _ _ _
   | exact ih6 _ _ _
   | exact ih7 _ _ _ _
   | exact LeO.none _
   | refine LeO.ite ?_ ?_
   | refine LeO.bind ?_ (fun _ => ?_)
  ·intro y0 y1 y2
   unfold eponymref01_value.j6
   repeat' first
   | (with_reducible exact ih0 _ _ _ _)
   | (with_reducible exact ih1 _ _ _ _ _)
   | (with_reducible exact ih2 _ _ _ _)
   | (with_reducible exact ih3 _ _ _ _ _)
   | (with_reducible exact ih4 _ _ _ _)
   | (with_reducible exact ih5 _ _ _ _ _)
   | (with_reducible exact ih6 _ _ _)
   | (with_reducible exact ih7 _ _ _ _)
   | (with_reducible exact LeO.refl _)
   | (with_reducible exact LeO.none _)
   | (with_reducible refine LeO.ite ?_ ?_)
   | (with_reducible refine LeO.bind ?_ (fun _ => ?_))
   | exact ih0 _ _ _ _
   | exact ih1 _ _ _ _ _
   | exact ih2 _ _ _ _
   | exact ih3 _ _ _ _ _
   | exact ih4 _ _ _ _
   | exact ih5 _ _ _ _ _
   | exact ih6 _ _ _
   | exact ih7 _ _ _ _
   | exact LeO.none _
   | refine LeO.ite ?_ ?_
   | refine LeO.bind ?_ (fun _ => ?_)
  ·intro y0 y1 y2 y3
   unfold eponymref01_value.l0
   repeat' first
   | (with_reducible exact ih0 _ _ _ _)
   | (with_reducible exact ih1 _ _ _ _ _)
   | (with_reducible exact ih2 _ _ _ _)
   | (with_reducible exact ih3 _ _ _ _ _)
   | (with_reducible exact ih4 _ _ _ _)
   | (with_reducible exact ih5 _ _ _ _ _)
   | (with_reducible exact ih6 _ _ _)
   | (with_reducible exact ih7 _ _ _ _)
   | (with_reducible exact LeO.refl _)
   | (with_reducible exact LeO.none _)
   | (with_reducible refine LeO.ite ?_ ?_)
   | (with_reducible refine LeO.bind ?_ (fun _ => ?_))
   | exact ih0 _ _ _ _
   | exact ih1 _ _ _ _ _
   | exact ih2 _ _ _ _
   | exact ih3 _ _ _ _ _
   | exact ih4 _ _ _ _
   | exact ih5 _ _ _ _ _
   | exact ih6 _ _ _
   | exact ih7 _ _ _ _
   | exact LeO.none _
   | refine LeO.ite ?_ ?_
   | refine LeO.bind ?_ (fun _ => ?_)
theorem eponymref01_value.mono : ∀ a0 k, LeO (eponymref01_value.f k a0) (eponymref01_value.f (k + 1) a0) := by
 intro a0 k
 obtain ⟨ih0, ih1, ih2, ih3, ih4, ih5, ih6, ih7⟩ := eponymref01_value.mono_l k
 unfold eponymref01_value.f
 repeat' first
   | (with_reducible exact ih0 _ _ _ _)
   | (with_reducible exact ih1 _ _ _ _ _)
   | (with_reducible exact ih2 _ _ _ _)
   | (with_reducible exact ih3 _ _ _ _ _)
   | (with_reducible exact ih4 _ _ _ _)
   | (with_reducible exact ih5 _ _ _ _ _)
   | (with_reducible exact ih6 _ _ _)
   | (with_reducible exact ih7 _ _ _ _)
   | (with_reducible exact LeO.refl _)
   | (with_reducible exact LeO.none _)
   | (with_reducible refine LeO.ite ?_ ?_)
   | (with_reducible refine LeO.bind ?_ (fun _ => ?_))
   | exact ih0 _ _ _ _
   | exact ih1 _ _ _ _ _
   | exact ih2 _ _ _ _
   | exact ih3 _ _ _ _ _
   | exact ih4 _ _ _ _
   | exact ih5 _ _ _ _ _
   | exact ih6 _ _ _
   | exact ih7 _ _ _ _
   | exact LeO.none _
   | refine LeO.ite ?_ ?_
   | refine LeO.bind ?_ (fun _ => ?_)
set_option maxHeartbeats 8000000 in
set_option maxRecDepth 100000 in
theorem eponymref01_value.calls (k : Nat) (a0 : ByteArray) (r : Int) (w : World) (h : eponymref01_value.f k a0 = some r) :
  Calls Tryd.prog 43 #[.string a0] w fun e w' => e = .returned (.int .i32 r) ∧ Drawn0 w w' := by
 have H : (if 0 < (a0.size : Int) then (if (a0.size : Int) = 1 then (eponymref01_value.j0 k a0 (wrap32 (bt a0 0)) (a0.size : Int) (decide ((wrap32 (bt a0 0)) < 128))) else (eponymref01_value.j0 k a0 (wrap32 (bt a0 0)) (a0.size : Int) false)) else (none)) = some r := h
 clear h
 by_cases c2 : 0 < (a0.size : Int)
 ·rw [if_pos c2] at H
  have c2b0 : decide (0 < (a0.size : Int)) = true := decide_eq_true c2
  have c2b1 : decide (0 < a0.size) = true := decide_eq_true (by omega)
  clear c2
  have HC4 := Aside0.mk H
  clear H
  have p3 : 0 ≤ (0 : Int) := (by omega)
  have q3 : 0 < a0.size := (by have : (0 : Int) < (a0.size : Int) := of_decide_eq_true (by first | (with_reducible assumption) | assumption); omega)
  have hx3 : ∀ h : 0 < a0.size, ((a0[0]'h).toNat : Int) = bt a0 0 := bt_at a0 0
  clear p3
  have qi3 : (0 < (a0.size : Int)) = True := eq_true (of_decide_eq_true (by first | (with_reducible assumption) | assumption))
  replace q3 := eq_true q3
  go_enter Tryd.func43, Tryd.ntmps43
  go_upto_region 3 with (fail)
  go_cut [17] (fun v17 wc => ∃ (kq : Nat) (x17_3 : Bool), v17 = .bool x17_3 ∧ Aside0 (eponymref01_value.j0 kq a0 (wrap32 (bt a0 0)) (a0.size : Int) x17_3 = some r) ∧ Aside0 (kq ≤ k) ∧ Drawn0 w wc)
  case first =>
   have H := HC4.out
   clear HC4
   by_cases c5 : (a0.size : Int) = 1
   ·rw [if_pos c5] at H
    have c5b0 : ((a0.size : Int) == 1) = true := beq_iff_eq.mpr c5
    have c5b1 : ((a0.size : Int) != 1) = false := bne_eq_false_iff_eq.mpr c5
    clear c5
    (first | rw [c5b0] | (simp only [i64_w, i32_w]; rw [c5b0]) | skip)
    have H' := Aside0.mk H
    clear H
    go_wp2
    go_meet
    case rel => exact ⟨_, (decide ((wrap32 (bt a0 0)) < 128)), (by first | rfl | (simp; done) | (simp [*]; done)), H', ⟨by first | omega | exact Nat.le_refl _⟩, by repeat (first | exact Drawn0.refl _ | apply Drawn0.step)⟩
   ·rw [if_neg c5] at H
    have c5b0 : ((a0.size : Int) == 1) = false := beq_eq_false_iff_ne.mpr c5
    have c5b1 : ((a0.size : Int) != 1) = true := bne_iff_ne.mpr c5
    (first | rw [c5b0] | (simp only [i64_w, i32_w]; rw [c5b0]) | skip)
    have H' := Aside0.mk H
    clear H
    go_wp2
    go_meet
    case rel => exact ⟨_, (false), (by first | rfl | (simp; done) | (simp [*]; done)), H', ⟨by first | omega | exact Nat.le_refl _⟩, by repeat (first | exact Drawn0.refl _ | apply Drawn0.step)⟩
  case rest =>
   clear HC4
   try clear c2
   try clear c2b0
   try clear c2b1
   try clear p2
   try clear p3
   try clear q3
   try clear hx3
   try clear qi3
   try clear c4
   try clear c5
   try clear c5b0
   try clear c5b1
   try clear p3
   try clear q3
   obtain ⟨kq, x17_3, rfl, HA, HJ3, ⟨mc3, rfl⟩⟩ := hcut
   cases kq with
   | zero => exact absurd HA.out (by simp [eponymref01_value.j0])
   | succ kj3 =>
    have H := HA.out
    clear HA
    simp only [eponymref01_value.j0] at H
    by_cases c6 : x17_3 = true
    ·subst c6
     have H1 : (some (wrap32 (bt a0 0))) = some r := by rw [if_pos rfl] at H; exact H
     clear H
     have H := H1
     clear H1
     obtain rfl := Option.some.inj H
     go_wp2
     go_ret
     exact ⟨by first | rfl | (simp; done) | (simp [*]; done), by repeat (first | exact Drawn0.refl _ | apply Drawn0.step)⟩
    ·replace c6 := Bool.eq_false_iff.mpr c6
     subst c6
     have H1 : (if (a0.size : Int) = 2 then (if (wrap32 (bt a0 0)) ≥ 192 then (eponymref01_value.j1 kj3 a0 (wrap32 (bt a0 0)) (a0.size : Int) (-1) (decide ((wrap32 (bt a0 0)) < 224))) else (eponymref01_value.j1 kj3 a0 (wrap32 (bt a0 0)) (a0.size : Int) (-1) false)) else (eponymref01_value.j1 kj3 a0 (wrap32 (bt a0 0)) (a0.size : Int) (-1) false)) = some r := by rw [if_neg (show ¬ (false = true) by decide)] at H; exact H
     clear H
     have H := H1
     clear H1
     have HC7 := Aside0.mk H
     clear H
     go_upto_region 6 with (fail)
     go_cut [28] (fun v28 wc => ∃ (kq : Nat) (x28_6 : Bool), v28 = .bool x28_6 ∧ Aside0 (eponymref01_value.j1 kq a0 (wrap32 (bt a0 0)) (a0.size : Int) (-1) x28_6 = some r) ∧ Aside0 (kq ≤ kj3) ∧ Drawn0 w wc)
     case first =>
      have H := HC7.out
      clear HC7
      by_cases c8 : (a0.size : Int) = 2
      ·rw [if_pos c8] at H
       have c8b0 : ((a0.size : Int) == 2) = true := beq_iff_eq.mpr c8
       have c8b1 : ((a0.size : Int) != 2) = false := bne_eq_false_iff_eq.mpr c8
       clear c8
       (first | rw [c8b0] | (simp only [i64_w, i32_w]; rw [c8b0]) | skip)
       by_cases c9 : (wrap32 (bt a0 0)) ≥ 192
       ·rw [if_pos c9] at H
        have c9b0 : decide (192 ≤ (wrap32 (bt a0 0))) = true := decide_eq_true c9
        clear c9
        have H' := Aside0.mk H
        clear H
        go_wp2
        go_meet
        case rel => exact ⟨_, (decide ((wrap32 (bt a0 0)) < 224)), (by first | rfl | (simp; done) | (simp [*]; done)), H', ⟨by have := HJ3.out; first | omega | exact Nat.le_refl _⟩, by repeat (first | exact Drawn0.refl _ | apply Drawn0.step)⟩
       ·rw [if_neg c9] at H
        have c9b0 : decide (192 ≤ (wrap32 (bt a0 0))) = false := decide_eq_false c9
        clear c9
        have H' := Aside0.mk H
        clear H
        go_wp2
        go_meet
        case rel => exact ⟨_, (false), (by first | rfl | (simp; done) | (simp [*]; done)), H', ⟨by have := HJ3.out; first | omega | exact Nat.le_refl _⟩, by repeat (first | exact Drawn0.refl _ | apply Drawn0.step)⟩
      ·rw [if_neg c8] at H
       have c8b0 : ((a0.size : Int) == 2) = false := beq_eq_false_iff_ne.mpr c8
       have c8b1 : ((a0.size : Int) != 2) = true := bne_iff_ne.mpr c8
       (first | rw [c8b0] | (simp only [i64_w, i32_w]; rw [c8b0]) | skip)
       have H' := Aside0.mk H
       clear H
       go_wp2
       go_meet
       case rel => exact ⟨_, (false), (by first | rfl | (simp; done) | (simp [*]; done)), H', ⟨by have := HJ3.out; first | omega | exact Nat.le_refl _⟩, by repeat (first | exact Drawn0.refl _ | apply Drawn0.step)⟩
     case rest =>
      clear HC7
      try clear c2
      try clear c2b0
      try clear c2b1
      try clear p2
      try clear c3
      try clear p3
      try clear q3
      try clear hx3
      try clear qi3
      try clear c4
      try clear c5
      try clear c5b0
      try clear c5b1
      try clear c6
      try clear c8
      try clear c8b0
      try clear c8b1
      try clear c9
      try clear c9b0
      try clear p2
      try clear p3
      try clear q3
      obtain ⟨kq, x28_6, rfl, HA, HJ6, ⟨mc6, rfl⟩⟩ := hcut
      cases kq with
      | zero => exact absurd HA.out (by simp [eponymref01_value.j1])
      | succ kj6 =>
       have H := HA.out
       clear HA
       simp only [eponymref01_value.j1] at H
       have HC10 := Aside0.mk H
       clear H
       go_upto_if 28 with (fail)
       go_cut [5] (fun v5 wc => ∃ (kq : Nat) (x5_9 : Int), v5 = .int .i32 x5_9 ∧ Aside0 (eponymref01_value.j2 kq a0 (wrap32 (bt a0 0)) (a0.size : Int) x5_9 = some r) ∧ Aside0 (kq ≤ kj6) ∧ Drawn0 w wc)
       case first =>
        have H := HC10.out
        clear HC10
        by_cases c11 : x28_6 = true
        ·subst c11
         have H1 : (eponymref01_value.j2 kj6 a0 (wrap32 (bt a0 0)) (a0.size : Int) (wrap32 ((wrap32 (bt a0 0)) - 192))) = some r := by rw [if_pos rfl] at H; exact H
         clear H
         have H := H1
         clear H1
         have H' := Aside0.mk H
         clear H
         go_wp2
         go_meet
         case rel => exact ⟨_, (wrap32 ((wrap32 (bt a0 0)) - 192)), (by first | rfl | (simp; done) | (simp [*]; done)), H', ⟨by have := HJ3.out; have := HJ6.out; first | omega | exact Nat.le_refl _⟩, by repeat (first | exact Drawn0.refl _ | apply Drawn0.step)⟩
        ·replace c11 := Bool.eq_false_iff.mpr c11
         subst c11
         have H1 : (eponymref01_value.j2 kj6 a0 (wrap32 (bt a0 0)) (a0.size : Int) (-1)) = some r := by rw [if_neg (show ¬ (false = true) by decide)] at H; exact H
         clear H
         have H := H1
         clear H1
         have H' := Aside0.mk H
         clear H
         go_wp2
         go_meet
         case rel => exact ⟨_, ((-1)), (by first | rfl | (simp; done) | (simp [*]; done)), H', ⟨by have := HJ3.out; have := HJ6.out; first | omega | exact Nat.le_refl _⟩, by repeat (first | exact Drawn0.refl _ | apply Drawn0.step)⟩
       case rest =>
        clear HC10
        try clear c1
        try clear c2
        try clear c2b0
        try clear c2b1
        try clear p2
        try clear c3
        try clear p3
        try clear q3
        try clear hx3
        try clear qi3
        try clear c4
        try clear c5
        try clear c5b0
        try clear c5b1
        try clear c6
        try clear c8
        try clear c8b0
        try clear c8b1
        try clear c9
        try clear c9b0
        try clear c11
        try clear p2
        try clear p3
        try clear q3
        obtain ⟨kq, x5_9, rfl, HA, HJ9, ⟨mc9, rfl⟩⟩ := hcut
        cases kq with
        | zero => exact absurd HA.out (by simp [eponymref01_value.j2])
        | succ kj9 =>
         have H := HA.out
         clear HA
         simp only [eponymref01_value.j2] at H
         have HC12 := Aside0.mk H
         clear H
         go_upto_region 8 with (fail)
         go_cut [40] (fun v40 wc => ∃ (kq : Nat) (x40_11 : Bool), v40 = .bool x40_11 ∧ Aside0 (eponymref01_value.j3 kq a0 (wrap32 (bt a0 0)) (a0.size : Int) x5_9 x40_11 = some r) ∧ Aside0 (kq ≤ kj9) ∧ Drawn0 w wc)
         case first =>
          have H := HC12.out
          clear HC12
          by_cases c13 : (a0.size : Int) = 3
          ·rw [if_pos c13] at H
           have c13b0 : ((a0.size : Int) == 3) = true := beq_iff_eq.mpr c13
           have c13b1 : ((a0.size : Int) != 3) = false := bne_eq_false_iff_eq.mpr c13
           clear c13
           (first | rw [c13b0] | (simp only [i64_w, i32_w]; rw [c13b0]) | skip)
           by_cases c14 : (wrap32 (bt a0 0)) ≥ 224
           ·rw [if_pos c14] at H
            have c14b0 : decide (224 ≤ (wrap32 (bt a0 0))) = true := decide_eq_true c14
            clear c14
            have H' := Aside0.mk H
            clear H
            go_wp2
            go_meet
            case rel => exact ⟨_, (decide ((wrap32 (bt a0 0)) < 240)), (by first | rfl | (simp; done) | (simp [*]; done)), H', ⟨by have := HJ3.out; have := HJ6.out; have := HJ9.out; first | omega | exact Nat.le_refl _⟩, by repeat (first | exact Drawn0.refl _ | apply Drawn0.step)⟩
           ·rw [if_neg c14] at H
            have c14b0 : decide (224 ≤ (wrap32 (bt a0 0))) = false := decide_eq_false c14
            clear c14
            have H' := Aside0.mk H
            clear H
            go_wp2
            go_meet
            case rel => exact ⟨_, (false), (by first | rfl | (simp; done) | (simp [*]; done)), H', ⟨by have := HJ3.out; have := HJ6.out; have := HJ9.out; first | omega | exact Nat.le_refl _⟩, by repeat (first | exact Drawn0.refl _ | apply Drawn0.step)⟩
          ·rw [if_neg c13] at H
           have c13b0 : ((a0.size : Int) == 3) = false := beq_eq_false_iff_ne.mpr c13
           have c13b1 : ((a0.size : Int) != 3) = true := bne_iff_ne.mpr c13
           (first | rw [c13b0] | (simp only [i64_w, i32_w]; rw [c13b0]) | skip)
           have H' := Aside0.mk H
           clear H
           go_wp2
           go_meet
           case rel => exact ⟨_, (false), (by first | rfl | (simp; done) | (simp [*]; done)), H', ⟨by have := HJ3.out; have := HJ6.out; have := HJ9.out; first | omega | exact Nat.le_refl _⟩, by repeat (first | exact Drawn0.refl _ | apply Drawn0.step)⟩
         case rest =>
          clear HC12
          try clear c1
          try clear c2
          try clear c2b0
          try clear c2b1
          try clear p2
          try clear c3
          try clear p3
          try clear q3
          try clear hx3
          try clear qi3
          try clear c4
          try clear c5
          try clear c5b0
          try clear c5b1
          try clear c6
          try clear c8
          try clear c8b0
          try clear c8b1
          try clear c9
          try clear c9b0
          try clear c11
          try clear c13
          try clear c13b0
          try clear c13b1
          try clear c14
          try clear c14b0
          try clear p2
          try clear p3
          try clear q3
          obtain ⟨kq, x40_11, rfl, HA, HJ11, ⟨mc11, rfl⟩⟩ := hcut
          cases kq with
          | zero => exact absurd HA.out (by simp [eponymref01_value.j3])
          | succ kj11 =>
           have H := HA.out
           clear HA
           simp only [eponymref01_value.j3] at H
           have HC15 := Aside0.mk H
           clear H
           go_upto_if 40 with (fail)
           go_cut [5] (fun v5 wc => ∃ (kq : Nat) (x5_14 : Int), v5 = .int .i32 x5_14 ∧ Aside0 (eponymref01_value.j4 kq a0 (wrap32 (bt a0 0)) (a0.size : Int) x5_14 = some r) ∧ Aside0 (kq ≤ kj11) ∧ Drawn0 w wc)
           case first =>
            have H := HC15.out
            clear HC15
            by_cases c16 : x40_11 = true
            ·subst c16
             have H1 : (eponymref01_value.j4 kj11 a0 (wrap32 (bt a0 0)) (a0.size : Int) (wrap32 ((wrap32 (bt a0 0)) - 224))) = some r := by rw [if_pos rfl] at H; exact H
             clear H
             have H := H1
             clear H1
             have H' := Aside0.mk H
             clear H
             go_wp2
             go_meet
             case rel => exact ⟨_, (wrap32 ((wrap32 (bt a0 0)) - 224)), (by first | rfl | (simp; done) | (simp [*]; done)), H', ⟨by have := HJ3.out; have := HJ6.out; have := HJ9.out; have := HJ11.out; first | omega | exact Nat.le_refl _⟩, by repeat (first | exact Drawn0.refl _ | apply Drawn0.step)⟩
            ·replace c16 := Bool.eq_false_iff.mpr c16
             subst c16
             have H1 : (eponymref01_value.j4 kj11 a0 (wrap32 (bt a0 0)) (a0.size : Int) x5_9) = some r := by rw [if_neg (show ¬ (false = true) by decide)] at H; exact H
             clear H
             have H := H1
             clear H1
             have H' := Aside0.mk H
             clear H
             go_wp2
             go_meet
             case rel => exact ⟨_, (x5_9), (by first | rfl | (simp; done) | (simp [*]; done)), H', ⟨by have := HJ3.out; have := HJ6.out; have := HJ9.out; have := HJ11.out; first | omega | exact Nat.le_refl _⟩, by repeat (first | exact Drawn0.refl _ | apply Drawn0.step)⟩
           case rest =>
            clear HC15
            try clear c1
            try clear c2
            try clear c2b0
            try clear c2b1
            try clear p2
            try clear c3
            try clear p3
            try clear q3
            try clear hx3
            try clear qi3
            try clear c4
            try clear c5
            try clear c5b0
            try clear c5b1
            try clear c6
            try clear c8
            try clear c8b0
            try clear c8b1
            try clear c9
            try clear c9b0
            try clear c11
            try clear c13
            try clear c13b0
            try clear c13b1
            try clear c14
            try clear c14b0
            try clear c16
            try clear p2
            try clear p3
            try clear q3
            obtain ⟨kq, x5_14, rfl, HA, HJ14, ⟨mc14, rfl⟩⟩ := hcut
            cases kq with
            | zero => exact absurd HA.out (by simp [eponymref01_value.j4])
            | succ kj14 =>
             have H := HA.out
             clear HA
             simp only [eponymref01_value.j4] at H
             have HC17 := Aside0.mk H
             clear H
             go_upto_region 10 with (fail)
             go_cut [52] (fun v52 wc => ∃ (kq : Nat) (x52_16 : Bool), v52 = .bool x52_16 ∧ Aside0 (eponymref01_value.j5 kq a0 (wrap32 (bt a0 0)) (a0.size : Int) x5_14 x52_16 = some r) ∧ Aside0 (kq ≤ kj14) ∧ Drawn0 w wc)
             case first =>
              have H := HC17.out
              clear HC17
              by_cases c18 : (a0.size : Int) = 4
              ·rw [if_pos c18] at H
               have c18b0 : ((a0.size : Int) == 4) = true := beq_iff_eq.mpr c18
               have c18b1 : ((a0.size : Int) != 4) = false := bne_eq_false_iff_eq.mpr c18
               clear c18
               (first | rw [c18b0] | (simp only [i64_w, i32_w]; rw [c18b0]) | skip)
               by_cases c19 : (wrap32 (bt a0 0)) ≥ 240
               ·rw [if_pos c19] at H
                have c19b0 : decide (240 ≤ (wrap32 (bt a0 0))) = true := decide_eq_true c19
                clear c19
                have H' := Aside0.mk H
                clear H
                go_wp2
                go_meet
                case rel => exact ⟨_, (decide ((wrap32 (bt a0 0)) < 248)), (by first | rfl | (simp; done) | (simp [*]; done)), H', ⟨by have := HJ3.out; have := HJ6.out; have := HJ9.out; have := HJ11.out; have := HJ14.out; first | omega | exact Nat.le_refl _⟩, by repeat (first | exact Drawn0.refl _ | apply Drawn0.step)⟩
               ·rw [if_neg c19] at H
                have c19b0 : decide (240 ≤ (wrap32 (bt a0 0))) = false := decide_eq_false c19
                clear c19
                have H' := Aside0.mk H
                clear H
                go_wp2
                go_meet
                case rel => exact ⟨_, (false), (by first | rfl | (simp; done) | (simp [*]; done)), H', ⟨by have := HJ3.out; have := HJ6.out; have := HJ9.out; have := HJ11.out; have := HJ14.out; first | omega | exact Nat.le_refl _⟩, by repeat (first | exact Drawn0.refl _ | apply Drawn0.step)⟩
              ·rw [if_neg c18] at H
               have c18b0 : ((a0.size : Int) == 4) = false := beq_eq_false_iff_ne.mpr c18
               have c18b1 : ((a0.size : Int) != 4) = true := bne_iff_ne.mpr c18
               (first | rw [c18b0] | (simp only [i64_w, i32_w]; rw [c18b0]) | skip)
               have H' := Aside0.mk H
               clear H
               go_wp2
               go_meet
               case rel => exact ⟨_, (false), (by first | rfl | (simp; done) | (simp [*]; done)), H', ⟨by have := HJ3.out; have := HJ6.out; have := HJ9.out; have := HJ11.out; have := HJ14.out; first | omega | exact Nat.le_refl _⟩, by repeat (first | exact Drawn0.refl _ | apply Drawn0.step)⟩
             case rest =>
              clear HC17
              try clear c1
              try clear c2
              try clear c2b0
              try clear c2b1
              try clear p2
              try clear c3
              try clear p3
              try clear q3
              try clear hx3
              try clear qi3
              try clear c4
              try clear c5
              try clear c5b0
              try clear c5b1
              try clear c6
              try clear c8
              try clear c8b0
              try clear c8b1
              try clear c9
              try clear c9b0
              try clear c11
              try clear c13
              try clear c13b0
              try clear c13b1
              try clear c14
              try clear c14b0
              try clear c16
              try clear c18
              try clear c18b0
              try clear c18b1
              try clear c19
              try clear c19b0
              try clear p2
              try clear p3
              try clear q3
              obtain ⟨kq, x52_16, rfl, HA, HJ16, ⟨mc16, rfl⟩⟩ := hcut
              cases kq with
              | zero => exact absurd HA.out (by simp [eponymref01_value.j5])
              | succ kj16 =>
               have H := HA.out
               clear HA
               simp only [eponymref01_value.j5] at H
               have HC20 := Aside0.mk H
               clear H
               go_upto_if 52 with (fail)
               go_cut [5] (fun v5 wc => ∃ (kq : Nat) (x5_19 : Int), v5 = .int .i32 x5_19 ∧ Aside0 (eponymref01_value.j6 kq a0 (a0.size : Int) x5_19 = some r) ∧ Aside0 (kq ≤ kj16) ∧ Drawn0 w wc)
               case first =>
                have H := HC20.out
                clear HC20
                by_cases c21 : x52_16 = true
                ·subst c21
                 have H1 : (eponymref01_value.j6 kj16 a0 (a0.size : Int) (wrap32 ((wrap32 (bt a0 0)) - 240))) = some r := by rw [if_pos rfl] at H; exact H
                 clear H
                 have H := H1
                 clear H1
                 have H' := Aside0.mk H
                 clear H
                 go_wp2
                 go_meet
                 case rel => exact ⟨_, (wrap32 ((wrap32 (bt a0 0)) - 240)), (by first | rfl | (simp; done) | (simp [*]; done)), H', ⟨by have := HJ3.out; have := HJ6.out; have := HJ9.out; have := HJ11.out; have := HJ14.out; have := HJ16.out; first | omega | exact Nat.le_refl _⟩, by repeat (first | exact Drawn0.refl _ | apply Drawn0.step)⟩
                ·replace c21 := Bool.eq_false_iff.mpr c21
                 subst c21
                 have H1 : (eponymref01_value.j6 kj16 a0 (a0.size : Int) x5_14) = some r := by rw [if_neg (show ¬ (false = true) by decide)] at H; exact H
                 clear H
                 have H := H1
                 clear H1
                 have H' := Aside0.mk H
                 clear H
                 go_wp2
                 go_meet
                 case rel => exact ⟨_, (x5_14), (by first | rfl | (simp; done) | (simp [*]; done)), H', ⟨by have := HJ3.out; have := HJ6.out; have := HJ9.out; have := HJ11.out; have := HJ14.out; have := HJ16.out; first | omega | exact Nat.le_refl _⟩, by repeat (first | exact Drawn0.refl _ | apply Drawn0.step)⟩
               case rest =>
                clear HC20
                try clear c1
                try clear c2
                try clear c2b0
                try clear c2b1
                try clear p2
                try clear c3
                try clear p3
                try clear q3
                try clear hx3
                try clear qi3
                try clear c4
                try clear c5
                try clear c5b0
                try clear c5b1
                try clear c6
                try clear c8
                try clear c8b0
                try clear c8b1
                try clear c9
                try clear c9b0
                try clear c11
                try clear c13
                try clear c13b0
                try clear c13b1
                try clear c14
                try clear c14b0
                try clear c16
                try clear c18
                try clear c18b0
                try clear c18b1
                try clear c19
                try clear c19b0
                try clear c21
                try clear p2
                try clear p3
                try clear q3
                obtain ⟨kq, x5_19, rfl, HA, HJ19, ⟨mc19, rfl⟩⟩ := hcut
                cases kq with
                | zero => exact absurd HA.out (by simp [eponymref01_value.j6])
                | succ kj19 =>
                 have H := HA.out
                 clear HA
                 simp only [eponymref01_value.j6] at H
                 by_cases c22 : x5_19 < 0
                 ·rw [if_pos c22] at H
                  have c22b0 : decide (x5_19 < 0) = true := decide_eq_true c22
                  clear c22
                  obtain rfl := Option.some.inj H
                  go_wp2
                  go_ret
                  exact ⟨by first | rfl | (simp; done) | (simp [*]; done), by repeat (first | exact Drawn0.refl _ | apply Drawn0.step)⟩
                 ·rw [if_neg c22] at H
                  have c22b0 : decide (x5_19 < 0) = false := decide_eq_false c22
                  clear c22
                  have H' := Aside0.mk H
                  clear H
                  go_wp2
                  go_loopg [5, 6] kj19 (fun kq v5 v6 w' => ∃ (x5_8 : Int) (x6_8 : Int), v5 = .int .i32 x5_8 ∧ v6 = .int .i64 x6_8 ∧ Aside0 (eponymref01_value.l0 kq a0 (a0.size : Int) x5_8 x6_8 = some r) ∧ Aside0 (kq ≤ kj19) ∧ Drawn0 w w')
                  case atStart => exact ⟨(x5_19), (1), (by first | rfl | (simp; done) | (simp [*]; done)), (by first | rfl | (simp; done) | (simp [*]; done)), H', ⟨Nat.le_refl _⟩, by repeat (first | exact Drawn0.refl _ | apply Drawn0.step)⟩
                  case round =>
                   clear H'
                   try clear c1
                   try clear c2
                   try clear c2b0
                   try clear c2b1
                   try clear p2
                   try clear c3
                   try clear p3
                   try clear q3
                   try clear hx3
                   try clear qi3
                   try clear c4
                   try clear c5
                   try clear c5b0
                   try clear c5b1
                   try clear c6
                   try clear c8
                   try clear c8b0
                   try clear c8b1
                   try clear c9
                   try clear c9b0
                   try clear c11
                   try clear c13
                   try clear c13b0
                   try clear c13b1
                   try clear c14
                   try clear c14b0
                   try clear c16
                   try clear c18
                   try clear c18b0
                   try clear c18b1
                   try clear c19
                   try clear c19b0
                   try clear c21
                   try clear c22
                   try clear c22b0
                   try clear p2
                   try clear p3
                   try clear q3
                   obtain ⟨x5_8, x6_8, rfl, rfl, HA, HK8, ⟨m8, rfl⟩⟩ := hrel
                   cases gk with
                   | zero => exact absurd HA.out (by simp [eponymref01_value.l0])
                   | succ k8 =>
                    have H := HA.out
                    clear HA
                    simp only [eponymref01_value.l0] at H
                    by_cases c23 : x6_8 < (a0.size : Int)
                    ·rw [if_pos c23] at H
                     have c23b0 : decide (x6_8 < (a0.size : Int)) = true := decide_eq_true c23
                     clear c23
                     by_cases c24 : 0 ≤ x6_8
                     ·rw [if_pos c24] at H
                      have c24b0 : decide (0 ≤ x6_8) = true := decide_eq_true c24
                      clear c24
                      by_cases c25 : x6_8 < (a0.size : Int)
                      ·rw [if_pos c25] at H
                       have c25b0 : decide (x6_8 < (a0.size : Int)) = true := decide_eq_true c25
                       clear c25
                       by_cases c27 : (bt a0 x6_8) < 128
                       ·rw [if_pos c27] at H
                        have c27b0 : decide ((bt a0 x6_8) < 128) = true := decide_eq_true c27
                        clear c27
                        obtain rfl := Option.some.inj H
                        have p26 : 0 ≤ (x6_8 : Int) := of_decide_eq_true (by first | (with_reducible assumption) | assumption)
                        have q26 : x6_8 < (a0.size : Int) := of_decide_eq_true (by first | (with_reducible assumption) | assumption)
                        have hx26 := bt_at a0 x6_8
                        replace p26 := eq_true p26
                        replace q26 := eq_true q26
                        go_wp2
                        go_ret
                        exact ⟨by first | rfl | (simp; done) | (simp [*]; done), by repeat (first | exact Drawn0.refl _ | apply Drawn0.step)⟩
                       ·rw [if_neg c27] at H
                        have c27b0 : decide ((bt a0 x6_8) < 128) = false := decide_eq_false c27
                        clear c27
                        by_cases c29 : (bt a0 x6_8) > 191
                        ·rw [if_pos c29] at H
                         have c29b0 : decide (191 < (bt a0 x6_8)) = true := decide_eq_true c29
                         clear c29
                         obtain rfl := Option.some.inj H
                         have p26 : 0 ≤ (x6_8 : Int) := of_decide_eq_true (by first | (with_reducible assumption) | assumption)
                         have q26 : x6_8 < (a0.size : Int) := of_decide_eq_true (by first | (with_reducible assumption) | assumption)
                         have hx26 := bt_at a0 x6_8
                         replace p26 := eq_true p26
                         replace q26 := eq_true q26
                         have p28 : 0 ≤ (x6_8 : Int) := of_decide_eq_true (by first | (with_reducible assumption) | assumption)
                         have q28 : x6_8 < (a0.size : Int) := of_decide_eq_true (by first | (with_reducible assumption) | assumption)
                         have hx28 := bt_at a0 x6_8
                         replace p28 := eq_true p28
                         replace q28 := eq_true q28
                         go_wp2
                         go_ret
                         exact ⟨by first | rfl | (simp; done) | (simp [*]; done), by repeat (first | exact Drawn0.refl _ | apply Drawn0.step)⟩
                        ·rw [if_neg c29] at H
                         have c29b0 : decide (191 < (bt a0 x6_8)) = false := decide_eq_false c29
                         clear c29
                         have H' := Aside0.mk H
                         clear H
                         have p26 : 0 ≤ (x6_8 : Int) := of_decide_eq_true (by first | (with_reducible assumption) | assumption)
                         have q26 : x6_8 < (a0.size : Int) := of_decide_eq_true (by first | (with_reducible assumption) | assumption)
                         have hx26 := bt_at a0 x6_8
                         replace p26 := eq_true p26
                         replace q26 := eq_true q26
                         have p28 : 0 ≤ (x6_8 : Int) := of_decide_eq_true (by first | (with_reducible assumption) | assumption)
                         have q28 : x6_8 < (a0.size : Int) := of_decide_eq_true (by first | (with_reducible assumption) | assumption)
                         have hx28 := bt_at a0 x6_8
                         replace p28 := eq_true p28
                         replace q28 := eq_true q28
                         have p30 : 0 ≤ (x6_8 : Int) := of_decide_eq_true (by first | (with_reducible assumption) | assumption)
                         have q30 : x6_8 < (a0.size : Int) := of_decide_eq_true (by first | (with_reducible assumption) | assumption)
                         have hx30 := bt_at a0 x6_8
                         replace p30 := eq_true p30
                         replace q30 := eq_true q30
                         go_wp2
                         go_roundg k8
                         case measure => have := HJ3.out; have := HJ6.out; have := HJ9.out; have := HJ11.out; have := HJ14.out; have := HJ16.out; have := HJ19.out; have := HK8.out; omega
                         case rel => exact ⟨(wrap32 ((wrap32 ((wrap32 (x5_8 * 64)) + (wrap32 (bt a0 x6_8)))) - 128)), (wrap64 (x6_8 + 1)), (by first | rfl | (simp; done) | (simp [*]; done)), (by first | rfl | (simp; done) | (simp [*]; done)), H', ⟨by have := HJ3.out; have := HJ6.out; have := HJ9.out; have := HJ11.out; have := HJ14.out; have := HJ16.out; have := HJ19.out; have := HK8.out; omega⟩, by repeat (first | exact Drawn0.refl _ | apply Drawn0.step)⟩
                      ·rw [if_neg c25] at H
                       exact absurd H (by simp)
                     ·rw [if_neg c24] at H
                      exact absurd H (by simp)
                    ·rw [if_neg c23] at H
                     have c23b0 : decide (x6_8 < (a0.size : Int)) = false := decide_eq_false c23
                     clear c23
                     obtain rfl := Option.some.inj H
                     go_wp2
                     go_ret
                     exact ⟨by first | rfl | (simp; done) | (simp [*]; done), by repeat (first | exact Drawn0.refl _ | apply Drawn0.step)⟩
 ·rw [if_neg c2] at H
  exact absurd H (by simp)

end Go.Proofs.YtohnahbjmcelfaaDoor.V
