-- Printed by this session's own turn of the print (wip/mkprint.py), with parts that were proved by hand.
-- HALVED
import Derived.Test.YtohnahbjmcelfaaDoorVx0
import Derived.Test.YtohnahbjmcelfaaDoorVx7
import Derived.Test.YtohnahbjmcelfaaDoorVx11
namespace Go.Proofs.YtohnahbjmcelfaaDoor.V
open Go.RowKit Go.Proofs.YtohnahbjmcelfaaDoorW.PrintWords Go.Proofs.YtohnahbjmcelfaaDoorW.PrintLast Go.Proofs.YtohnahbjmcelfaaDoorW.PrintMore Go.Proofs.YtohnahbjmcelfaaDoor.Er
attribute [local go_sem] max2_int min2_int max_two min_two max_three min_three max_four min_four   -- for this text's walks alone
set_option linter.unusedVariables false
set_option linter.unusedSimpArgs false

/-! ### eponymref19_Check: function 13 -/
mutual
def eponymref19_Check.j0 : Nat → Bool → ByteArray → List (List Int) → Option (Int × Int)
 | 0, _, _, _ => none
 | k + 1, x35, x252000, x252001 => if x35 = true then (some (0, 5)) else (eponymref19_Check.l0 k 0 0 x252000 x252001)
def eponymref19_Check.l0 : Nat → Int → Int → ByteArray → List (List Int) → Option (Int × Int)
 | 0, _, _, _, _ => none
 | k + 1, x7, x8, x252000, x252001 => if x8 < (x252001.length : Int) then (if 0 ≤ x8 then (eponymref19_Check.l0 k (wrap64 (x7 + ((rd_L1 x252001 x8).length : Int))) (wrap64 (x8 + 1)) x252000 x252001) else (none)) else (if x7 > 2000 then (some (0, 18)) else (eponymref19_Check.l1 k 0 x252000 x252001))
def eponymref19_Check.l1 : Nat → Int → ByteArray → List (List Int) → Option (Int × Int)
 | 0, _, _, _ => none
 | k + 1, x9, x252000, x252001 => if x9 < (x252001.length : Int) then (if 0 ≤ x9 then (if ((rd_L1 x252001 x9).length : Int) < 2 then (some (x9, 16)) else (eponymref19_Check.l2 k x9 (rd_L1 x252001 x9) 0 x252000 x252001)) else (none)) else (some (0, 0))
def eponymref19_Check.l2 : Nat → Int → List Int → Int → ByteArray → List (List Int) → Option (Int × Int)
 | 0, _, _, _, _, _ => none
 | k + 1, x9, x10, x11, x252000, x252001 => if x11 < (x10.length : Int) then (if 0 ≤ x11 then ((eponymref01_Right.f (rd x10 x11)).bind fun t260 => (if t260 = true then (eponymref19_Check.l2 k x9 x10 (wrap64 (x11 + 1)) x252000 x252001) else (some (x9, 4)))) else (none)) else (eponymref19_Check.l3 k x9 x10 1 x252000 x252001)
def eponymref19_Check.l3 : Nat → Int → List Int → Int → ByteArray → List (List Int) → Option (Int × Int)
 | 0, _, _, _, _, _ => none
 | k + 1, x9, x10, x12, x252000, x252001 => if x12 < (x10.length : Int) then (if 0 ≤ x12 then (if 0 ≤ (wrap64 (x12 - 1)) then (if (wrap64 (x12 - 1)) < (x10.length : Int) then (if (rd x10 x12) ≤ (rd x10 (wrap64 (x12 - 1))) then (some (x9, 6)) else (eponymref19_Check.l3 k x9 x10 (wrap64 (x12 + 1)) x252000 x252001)) else (none)) else (none)) else (none)) else (if x9 > 0 then (if 0 < (x10.length : Int) then (if 0 ≤ (wrap64 (x9 - 1)) then (if (wrap64 (x9 - 1)) < (x252001.length : Int) then (if 0 < ((rd_L1 x252001 (wrap64 (x9 - 1))).length : Int) then (eponymref19_Check.j5 k x9 x10 (decide ((rd x10 0) ≤ (rd (rd_L1 x252001 (wrap64 (x9 - 1))) 0))) x252000 x252001) else (none)) else (none)) else (none)) else (none)) else (eponymref19_Check.j5 k x9 x10 false x252000 x252001))
def eponymref19_Check.j5 : Nat → Int → List Int → Bool → ByteArray → List (List Int) → Option (Int × Int)
 | 0, _, _, _, _, _ => none
 | k + 1, x9, x10, x114, x252000, x252001 => if x114 = true then (some (x9, 6)) else (eponymref19_Check.l4 k x9 x10 0 x252000 x252001)
def eponymref19_Check.l4 : Nat → Int → List Int → Int → ByteArray → List (List Int) → Option (Int × Int)
 | 0, _, _, _, _, _ => none
 | k + 1, x9, x10, x13, x252000, x252001 => if x13 < x9 then (eponymref19_Check.l5 k x9 x10 x13 0 x252000 x252001) else (eponymref19_Check.l1 k (wrap64 (x9 + 1)) x252000 x252001)
def eponymref19_Check.l5 : Nat → Int → List Int → Int → Int → ByteArray → List (List Int) → Option (Int × Int)
 | 0, _, _, _, _, _, _ => none
 | k + 1, x9, x10, x13, x14, x252000, x252001 => if x14 < (x10.length : Int) then (if 0 ≤ x13 then (if x13 < (x252001.length : Int) then (if 0 ≤ x14 then ((eponymref19_in.f k (rd_L1 x252001 x13) (rd x10 x14)).bind fun t268 => (if t268 = true then (some (x9, 7)) else (eponymref19_Check.l5 k x9 x10 x13 (wrap64 (x14 + 1)) x252000 x252001))) else (none)) else (none)) else (none)) else (eponymref19_Check.l4 k x9 x10 (wrap64 (x13 + 1)) x252000 x252001)
end
def eponymref19_Check.f (k : Nat) (a0_0 : ByteArray) (l0_1 : List (List Int)) : Option (Int × Int) := (eponymref01_Decode.f k a0_0).bind fun bt252 => (if (a0_0.size : Int) = 0 then (eponymref19_Check.j0 k true a0_0 l0_1) else (if (a0_0.size : Int) > 63 then (eponymref19_Check.j0 k true a0_0 l0_1) else (eponymref19_Check.j0 k (bt252.2.2 != 0) a0_0 l0_1)))
theorem eponymref19_Check.mono_l : ∀ k, (∀ y0 y1 y2, LeO (eponymref19_Check.j0 k y0 y1 y2) (eponymref19_Check.j0 (k + 1) y0 y1 y2)) ∧ (∀ y0 y1 y2 y3, LeO (eponymref19_Check.l0 k y0 y1 y2 y3) (eponymref19_Check.l0 (k + 1) y0 y1 y2 y3)) ∧ (∀ y0 y1 y2, LeO (eponymref19_Check.l1 k y0 y1 y2) (eponymref19_Check.l1 (k + 1) y0 y1 y2)) ∧ (∀ y0 y1 y2 y3 y4, LeO (eponymref19_Check.l2 k y0 y1 y2 y3 y4) (eponymref19_Check.l2 (k + 1) y0 y1 y2 y3 y4)) ∧ (∀ y0 y1 y2 y3 y4, LeO (eponymref19_Check.l3 k y0 y1 y2 y3 y4) (eponymref19_Check.l3 (k + 1) y0 y1 y2 y3 y4)) ∧ (∀ y0 y1 y2 y3 y4, LeO (eponymref19_Check.j5 k y0 y1 y2 y3 y4) (eponymref19_Check.j5 (k + 1) y0 y1 y2 y3 y4)) ∧ (∀ y0 y1 y2 y3 y4, LeO (eponymref19_Check.l4 k y0 y1 y2 y3 y4) (eponymref19_Check.l4 (k + 1) y0 y1 y2 y3 y4)) ∧ (∀ y0 y1 y2 y3 y4 y5, LeO (eponymref19_Check.l5 k y0 y1 y2 y3 y4 y5) (eponymref19_Check.l5 (k + 1) y0 y1 y2 y3 y4 y5))
 | 0 => ⟨fun _ _ _ r h => by simp [eponymref19_Check.j0] at h, fun _ _ _ _ r h => by simp [eponymref19_Check.l0] at h, fun _ _ _ r h => by simp [eponymref19_Check.l1] at h, fun _ _ _ _ _ r h => by simp [eponymref19_Check.l2] at h, fun _ _ _ _ _ r h => by simp [eponymref19_Check.l3] at h, fun _ _ _ _ _ r h => by simp [eponymref19_Check.j5] at h, fun _ _ _ _ _ r h => by simp [eponymref19_Check.l4] at h, fun _ _ _ _ _ _ r h => by simp [eponymref19_Check.l5] at h⟩
 | k + 1 => by
  obtain ⟨ih0, ih1, ih2, ih3, ih4, ih5, ih6, ih7⟩ := eponymref19_Check.mono_l k
  refine ⟨?_, ?_, ?_, ?_, ?_, ?_, ?_, ?_⟩
  ·intro y0 y1 y2
   unfold eponymref19_Check.j0
   repeat' first
   | (with_reducible exact ih0 _ _ _)
   | (with_reducible exact ih1 _ _ _ _)
   | (with_reducible exact ih2 _ _ _)
   | (with_reducible exact ih3 _ _ _ _ _)
   | (with_reducible exact ih4 _ _ _ _ _)
   | (with_reducible exact ih5 _ _ _ _ _)
   | (with_reducible exact ih6 _ _ _ _ _)
   | (with_reducible exact ih7 _ _ _ _ _ _)
   | (with_reducible exact eponymref01_Decode.mono _ _)
   | (with_reducible exact eponymref19_in.mono _ _ _)
   | (with_reducible exact LeO.refl _)
   | (with_reducible exact LeO.none _)
   | (with_reducible refine LeO.ite ?_ ?_)
   | (with_reducible refine LeO.bind ?_ (fun _ => ?_))
   | exact ih0 _ _ _
   | exact ih1 _ _ _ _
   | exact ih2 _ _ _
   | exact ih3 _ _ _ _ _
   | exact ih4 _ _ _ _ _
   | exact ih5 _ _ _ _ _
   | exact ih6 _ _ _ _ _
   | exact ih7 _ _ _ _ _ _
   | exact eponymref01_Decode.mono _ _
   | exact eponymref19_in.mono _ _ _
   | exact LeO.none _
   | refine LeO.ite ?_ ?_
   | refine LeO.bind ?_ (fun _ => ?_)
  ·intro y0 y1 y2 y3
   unfold eponymref19_Check.l0
   repeat' first
   | (with_reducible exact ih0 _ _ _)
   | (with_reducible exact ih1 _ _ _ _)
   | (with_reducible exact ih2 _ _ _)
   | (with_reducible exact ih3 _ _ _ _ _)
   | (with_reducible exact ih4 _ _ _ _ _)
   | (with_reducible exact ih5 _ _ _ _ _)
   | (with_reducible exact ih6 _ _ _ _ _)
   | (with_reducible exact ih7 _ _ _ _ _ _)
   | (with_reducible exact eponymref01_Decode.mono _ _)
   | (with_reducible exact eponymref19_in.mono _ _ _)
   | (with_reducible exact LeO.refl _)
   | (with_reducible exact LeO.none _)
   | (with_reducible refine LeO.ite ?_ ?_)
   | (with_reducible refine LeO.bind ?_ (fun _ => ?_))
   | exact ih0 _ _ _
   | exact ih1 _ _ _ _
   | exact ih2 _ _ _
   | exact ih3 _ _ _ _ _
   | exact ih4 _ _ _ _ _
   | exact ih5 _ _ _ _ _
   | exact ih6 _ _ _ _ _
   | exact ih7 _ _ _ _ _ _
   | exact eponymref01_Decode.mono _ _
   | exact eponymref19_in.mono _ _ _
   | exact LeO.none _
   | refine LeO.ite ?_ ?_
   | refine LeO.bind ?_ (fun _ => ?_)
  ·intro y0 y1 y2
   unfold eponymref19_Check.l1
   repeat' first
   | (with_reducible exact ih0 _ _ _)
   | (with_reducible exact ih1 _ _ _ _)
   | (with_reducible exact ih2 _ _ _)
   | (with_reducible exact ih3 _ _ _ _ _)
   | (with_reducible exact ih4 _ _ _ _ _)
   | (with_reducible exact ih5 _ _ _ _ _)
   | (with_reducible exact ih6 _ _ _ _ _)
   | (with_reducible exact ih7 _ _ _ _ _ _)
   | (with_reducible exact eponymref01_Decode.mono _ _)
   | (with_reducible exact eponymref19_in.mono _ _ _)
   | (with_reducible exact LeO.refl _)
   | (with_reducible exact LeO.none _)
   | (with_reducible refine LeO.ite ?_ ?_)
   | (with_reducible refine LeO.bind ?_ (fun _ => ?_))
   | exact ih0 _ _ _
   | exact ih1 _ _ _ _
   | exact ih2 _ _ _
   | exact ih3 _ _ _ _ _
   | exact ih4 _ _ _ _ _
   | exact ih5 _ _ _ _ _
   | exact ih6 _ _ _ _ _
   | exact ih7 _ _ _ _ _ _
   | exact eponymref01_Decode.mono _ _
   | exact eponymref19_in.mono _ _ _
   | exact LeO.none _
   | refine LeO.ite ?_ ?_
   | refine LeO.bind ?_ (fun _ => ?_)
  ·intro y0 y1 y2 y3 y4
   unfold eponymref19_Check.l2
   repeat' first
   | (with_reducible exact ih0 _ _ _)
   | (with_reducible exact ih1 _ _ _ _)
   | (with_reducible exact ih2 _ _ _)
   | (with_reducible exact ih3 _ _ _ _ _)
   | (with_reducible exact ih4 _ _ _ _ _)
   | (with_reducible exact ih5 _ _ _ _ _)
   | (with_reducible exact ih6 _ _ _ _ _)
   | (with_reducible exact ih7 _ _ _ _ _ _)
   | (with_reducible exact eponymref01_Decode.mono _ _)
   | (with_reducible exact eponymref19_in.mono _ _ _)
   | (with_reducible exact LeO.refl _)
   | (with_reducible exact LeO.none _)
   | (with_reducible refine LeO.ite ?_ ?_)
   | (with_reducible refine LeO.bind ?_ (fun _ => ?_))
   | exact ih0 _ _ _
   | exact ih1 _ _ _ _
   | exact ih2 _ _ _
   | exact ih3 _ _ _ _ _
   | exact ih4 _ _ _ _ _
   | exact ih5 _ _ _ _ _
   | exact ih6 _ _ _ _ _
   | exact ih7 _ _ _ _ _ _
   | exact eponymref01_Decode.mono _ _
   | exact eponymref19_in.mono _ _ _
   | exact LeO.none _
   | refine LeO.ite ?_ ?_
   | refine LeO.bind ?_ (fun _ => ?_)
  ·intro y0 y1 y2 y3 y4
   unfold eponymref19_Check.l3
   repeat' first
   | (with_reducible exact ih0 _ _ _)
   | (with_reducible exact ih1 _ _ _ _)
   | (with_reducible exact ih2 _ _ _)
   | (with_reducible exact ih3 _ _ _ _ _)
   | (with_reducible exact ih4 _ _ _ _ _)
   | (with_reducible exact ih5 _ _ _ _ _)
   | (with_reducible exact ih6 _ _ _ _ _)
   | (with_reducible exact ih7 _ _ _ _ _ _)
   | (with_reducible exact eponymref01_Decode.mono _ _)
   | (with_reducible exact eponymref19_in.mono _ _ _)
   | (with_reducible exact LeO.refl _)
   | (with_reducible exact LeO.none _)
   | (with_reducible refine LeO.ite ?_ ?_)
   | (with_reducible refine LeO.bind ?_ (fun _ => ?_))
   | exact ih0 _ _ _
   | exact ih1 _ _ _ _
   | exact ih2 _ _ _
   | exact ih3 _ _ _ _ _
   | exact ih4 _ _ _ _ _
   | exact ih5 _ _ _ _ _
   | exact ih6 _ _ _ _ _
   | exact ih7 _ _ _ _ _ _
   | exact eponymref01_Decode.mono _ _
   | exact eponymref19_in.mono _ _ _
   | exact LeO.none _
   | refine LeO.ite ?_ ?_
   | refine LeO.bind ?_ (fun _ => ?_)
  ·intro y0 y1 y2 y3 y4
   unfold eponymref19_Check.j5
   repeat' first
   | (with_reducible exact ih0 _ _ _)
   | (with_reducible exact ih1 _ _ _ _)
   | (with_reducible exact ih2 _ _ _)
   | (with_reducible exact ih3 _ _ _ _ _)
   | (with_reducible exact ih4 _ _ _ _ _)
   | (with_reducible exact ih5 _ _ _ _ _)
   | (with_reducible exact ih6 _ _ _ _ _)
   | (with_reducible exact ih7 _ _ _ _ _ _)
   | (with_reducible exact eponymref01_Decode.mono _ _)
   | (with_reducible exact eponymref19_in.mono _ _ _)
   | (with_reducible exact LeO.refl _)
   | (with_reducible exact LeO.none _)
   | (with_reducible refine LeO.ite ?_ ?_)
   | (with_reducible refine LeO.bind ?_ (fun _ => ?_))
   | exact ih0 _ _ _
   | exact ih1 _ _ _ _
   | exact ih2 _ _ _
   | exact ih3 _ _ _ _ _
   | exact ih4 _ _ _ _ _
   | exact ih5 _ _ _ _ _
   | exact ih6 _ _ _ _ _
   | exact ih7 _ _ _ _ _ _
   | exact eponymref01_Decode.mono _ _
   | exact eponymref19_in.mono _ _ _
   | exact LeO.none _
   | refine LeO.ite ?_ ?_
   | refine LeO.bind ?_ (fun _ => ?_)
  ·intro y0 y1 y2 y3 y4
   unfold eponymref19_Check.l4
   repeat' first
   | (with_reducible exact ih0 _ _ _)
   | (with_reducible exact ih1 _ _ _ _)
   | (with_reducible exact ih2 _ _ _)
   | (with_reducible exact ih3 _ _ _ _ _)
   | (with_reducible exact ih4 _ _ _ _ _)
   | (with_reducible exact ih5 _ _ _ _ _)
   | (with_reducible exact ih6 _ _ _ _ _)
   | (with_reducible exact ih7 _ _ _ _ _ _)
   | (with_reducible exact eponymref01_Decode.mono _ _)
   | (with_reducible exact eponymref19_in.mono _ _ _)
   | (with_reducible exact LeO.refl _)
   | (with_reducible exact LeO.none _)
   | (with_reducible refine LeO.ite ?_ ?_)
   | (with_reducible refine LeO.bind ?_ (fun _ => ?_))
   | exact ih0 _ _ _
   | exact ih1 _ _ _ _
   | exact ih2 _ _ _
   | exact ih3 _ _ _ _ _
   | exact ih4 _ _ _ _ _
   | exact ih5 _ _ _ _ _
   | exact ih6 _ _ _ _ _
   | exact ih7 _ _ _ _ _ _
   | exact eponymref01_Decode.mono _ _
   | exact eponymref19_in.mono _ _ _
   | exact LeO.none _
   | refine LeO.ite ?_ ?_
   | refine LeO.bind ?_ (fun _ => ?_)
  ·intro y0 y1 y2 y3 y4 y5
   unfold eponymref19_Check.l5
   repeat' first
   | (with_reducible exact ih0 _ _ _)
   | (with_reducible exact ih1 _ _ _ _)
   | (with_reducible exact ih2 _ _ _)
   | (with_reducible exact ih3 _ _ _ _ _)
   | (with_reducible exact ih4 _ _ _ _ _)
   | (with_reducible exact ih5 _ _ _ _ _)
   | (with_reducible exact ih6 _ _ _ _ _)
   | (with_reducible exact ih7 _ _ _ _ _ _)
   | (with_reducible exact eponymref01_Decode.mono _ _)
   | (with_reducible exact eponymref19_in.mono _ _ _)
   | (with_reducible exact LeO.refl _)
   | (with_reducible exact LeO.none _)
   | (with_reducible refine LeO.ite ?_ ?_)
   | (with_reducible refine LeO.bind ?_ (fun _ => ?_))
   | exact ih0 _ _ _
   | exact ih1 _ _ _ _
   | exact ih2 _ _ _
   | exact ih3 _ _ _ _ _
   | exact ih4 _ _ _ _ _
   | exact ih5 _ _ _ _ _
   | exact ih6 _ _ _ _ _
   | exact ih7 _ _ _ _ _ _
   | exact eponymref01_Decode.mono _ _
   | exact eponymref19_in.mono _ _ _
   | exact LeO.none _
   | refine LeO.ite ?_ ?_
   | refine LeO.bind ?_ (fun _ => ?_)
theorem eponymref19_Check.mono : ∀ a0 a1 k, LeO (eponymref19_Check.f k a0 a1) (eponymref19_Check.f (k + 1) a0 a1) := by
 intro a0 a1 k
 obtain ⟨ih0, ih1, ih2, ih3, ih4, ih5, ih6, ih7⟩ := eponymref19_Check.mono_l k
 unfold eponymref19_Check.f
 repeat' first
   | (with_reducible exact ih0 _ _ _)
   | (with_reducible exact ih1 _ _ _ _)
   | (with_reducible exact ih2 _ _ _)
   | (with_reducible exact ih3 _ _ _ _ _)
   | (with_reducible exact ih4 _ _ _ _ _)
   | (with_reducible exact ih5 _ _ _ _ _)
   | (with_reducible exact ih6 _ _ _ _ _)
   | (with_reducible exact ih7 _ _ _ _ _ _)
   | (with_reducible exact eponymref01_Decode.mono _ _)
   | (with_reducible exact eponymref19_in.mono _ _ _)
   | (with_reducible exact LeO.refl _)
   | (with_reducible exact LeO.none _)
   | (with_reducible refine LeO.ite ?_ ?_)
   | (with_reducible refine LeO.bind ?_ (fun _ => ?_))
   | exact ih0 _ _ _
   | exact ih1 _ _ _ _
   | exact ih2 _ _ _
   | exact ih3 _ _ _ _ _
   | exact ih4 _ _ _ _ _
   | exact ih5 _ _ _ _ _
   | exact ih6 _ _ _ _ _
   | exact ih7 _ _ _ _ _ _
   | exact eponymref01_Decode.mono _ _
   | exact eponymref19_in.mono _ _ _
   | exact LeO.none _
   | refine LeO.ite ?_ ?_
   | refine LeO.bind ?_ (fun _ => ?_)
set_option maxHeartbeats 8000000 in
set_option maxRecDepth 100000 in
theorem eponymref19_Check.calls (k : Nat) (a0_0 : ByteArray) (A0_1 : Option Addr) (c0_1 : Nat) (l0_1 : List (List Int)) (r1 : Int) (r2 : Int) (w : World) (hr0_1 : Kd.C (Kd.slice 21 (Kd.int .i32)) w A0_1 l0_1.length l0_1) (hc0_1 : l0_1.length ≤ c0_1) (h : eponymref19_Check.f k a0_0 l0_1 = some (r1, r2)) :
  Calls Tryd.prog 13 #[.agg #[.string a0_0, .slice A0_1 l0_1.length c0_1]] w fun e w' => e = .returned (.tuple #[.int .i64 r1, .int .i64 r2]) ∧ Below w.heap.size w w' := by
 have hu24 := Tryd.underlying24
 have HR0_1 := Aside0.mk hr0_1
 have HC0_1 := Aside0.mk hc0_1
 clear hr0_1 hc0_1
 have HB := Aside0.mk (Below.refl w.heap.size w)
 have H : ((eponymref01_Decode.f k a0_0).bind fun bt252 => (if (a0_0.size : Int) = 0 then (eponymref19_Check.j0 k true a0_0 l0_1) else (if (a0_0.size : Int) > 63 then (eponymref19_Check.j0 k true a0_0 l0_1) else (eponymref19_Check.j0 k (bt252.2.2 != 0) a0_0 l0_1)))) = some (r1, r2) := h
 clear h
 replace H := Option.bind_eq_some_iff.mp H
 obtain ⟨⟨t252, t253, t254⟩, A20, H⟩ := H
 replace H : (if (a0_0.size : Int) = 0 then (eponymref19_Check.j0 k true a0_0 l0_1) else (if (a0_0.size : Int) > 63 then (eponymref19_Check.j0 k true a0_0 l0_1) else (eponymref19_Check.j0 k (t254 != 0) a0_0 l0_1))) = some (r1, r2) := H
 have A2 := Aside0.mk A20
 clear A20
 have HC3 := Aside0.mk H
 clear H
 go_enter Tryd.func13, Tryd.ntmps13
 go_upto_region 2 with (first | ((with_reducible refine gate_dst (N := 1) rfl ?_); (try (refine gate_guard (by rfl) ?_; dsimp only)); refine box_event ?hg (N := 1) ?hd (cs := #[.string a0_0, .slice A0_1 l0_1.length c0_1]) (t := 24) ?hr ?_; (case hd => rfl); (case hg => rfl); (case hr => first | (go_simp; done) | (go_simp; rfl)); intro gb251 hg w4 hbox hb; have n0_ := Aside0.mk (below_step (by repeat (first | (with_reducible first | exact HB.out | apply below_alloc | apply pw_below_drewN | apply below_drew1) | exact HB.out)) hb); have n1_ := Aside0.mk (hbox); have n2_ := Aside0.mk ((by rw [hg]; exact (below_size (by repeat (first | (with_reducible first | exact HB.out | apply below_alloc | apply pw_below_drewN | apply below_drew1) | exact HB.out))) : w.heap.size ≤ gb251)); have n3_ := Aside0.mk ((by rw [hg]; exact (below_size (by repeat (first | (with_reducible first | exact HB.out | apply below_alloc | apply pw_below_drewN | apply below_drew1) | exact HB.out))) : w.heap.size ≤ gb251)); clear HB; have HB := n0_; have BK251 := n1_; have GW251 := n2_; have GE251 := n3_; clear n0_ n1_ n2_ n3_; clear hb hbox hg; have hcz5_0 : w4.cell? ⟨gb251, 0, none⟩ = some (.string a0_0) := (blk_cell BK251.out 0).trans rfl; have hcz5_1 : w4.cell? ⟨gb251, 1, none⟩ = some (.slice A0_1 l0_1.length c0_1) := (blk_cell BK251.out 1).trans rfl; have hfz5_0 := blk_frozen BK251.out 0; have hfz5_1 := blk_frozen BK251.out 1) | (go_at_call 21; (with_reducible refine (eponymref01_Decode.calls k a0_0 t252 t253 t254 _ A2.out).mono ?_); rintro e w6 ⟨v255, rfl, ho0, hb⟩; have n0_ := Aside0.mk (Kd.R_lower ho0 (below_size (by repeat (first | (with_reducible first | exact HB.out | apply below_alloc | apply pw_below_drewN | apply below_drew1 | refine below_set ?_ GE251.out) | exact HB.out)))); have n1_ := Aside0.mk (blk_below (g := gb251) (o := .cells #[.string a0_0, .slice A0_1 l0_1.length c0_1] 24 (0, 0)) (by (with_reducible repeat (first | refine blk_drewN ?_ _ | refine blk_drew ?_ | refine blk_alloc ?_ _)); exact BK251.out) hb); have n2_ := Aside0.mk (below_step (by repeat (first | (with_reducible first | exact HB.out | apply below_alloc | apply pw_below_drewN | apply below_drew1 | refine below_set ?_ GE251.out) | exact HB.out)) hb); clear BK251; clear HB; have HO256 := n0_; have BK251 := n1_; have HB := n2_; clear n0_ n1_ n2_; (try clear hb); (try clear hb2); (try clear hk); (try clear hi); (try clear ho0)))
 repeat (go_quiet (first | ((with_reducible refine gate_dst (N := 1) rfl ?_); (try (refine gate_guard (by rfl) ?_; dsimp only)); refine box_event ?hg (N := 1) ?hd (cs := #[.string a0_0, .slice A0_1 l0_1.length c0_1]) (t := 24) ?hr ?_; (case hd => rfl); (case hg => rfl); (case hr => first | (go_simp; done) | (go_simp; rfl)); intro gb251 hg w4 hbox hb; have n0_ := Aside0.mk (below_step (by repeat (first | (with_reducible first | exact HB.out | apply below_alloc | apply pw_below_drewN | apply below_drew1) | exact HB.out)) hb); have n1_ := Aside0.mk (hbox); have n2_ := Aside0.mk ((by rw [hg]; exact (below_size (by repeat (first | (with_reducible first | exact HB.out | apply below_alloc | apply pw_below_drewN | apply below_drew1) | exact HB.out))) : w.heap.size ≤ gb251)); have n3_ := Aside0.mk ((by rw [hg]; exact (below_size (by repeat (first | (with_reducible first | exact HB.out | apply below_alloc | apply pw_below_drewN | apply below_drew1) | exact HB.out))) : w.heap.size ≤ gb251)); clear HB; have HB := n0_; have BK251 := n1_; have GW251 := n2_; have GE251 := n3_; clear n0_ n1_ n2_ n3_; clear hb hbox hg; have hcz5_0 : w4.cell? ⟨gb251, 0, none⟩ = some (.string a0_0) := (blk_cell BK251.out 0).trans rfl; have hcz5_1 : w4.cell? ⟨gb251, 1, none⟩ = some (.slice A0_1 l0_1.length c0_1) := (blk_cell BK251.out 1).trans rfl; have hfz5_0 := blk_frozen BK251.out 0; have hfz5_1 := blk_frozen BK251.out 1) | (go_at_call 21; (with_reducible refine (eponymref01_Decode.calls k a0_0 t252 t253 t254 _ A2.out).mono ?_); rintro e w6 ⟨v255, rfl, ho0, hb⟩; have n0_ := Aside0.mk (Kd.R_lower ho0 (below_size (by repeat (first | (with_reducible first | exact HB.out | apply below_alloc | apply pw_below_drewN | apply below_drew1 | refine below_set ?_ GE251.out) | exact HB.out)))); have n1_ := Aside0.mk (blk_below (g := gb251) (o := .cells #[.string a0_0, .slice A0_1 l0_1.length c0_1] 24 (0, 0)) (by (with_reducible repeat (first | refine blk_drewN ?_ _ | refine blk_drew ?_ | refine blk_alloc ?_ _)); exact BK251.out) hb); have n2_ := Aside0.mk (below_step (by repeat (first | (with_reducible first | exact HB.out | apply below_alloc | apply pw_below_drewN | apply below_drew1 | refine below_set ?_ GE251.out) | exact HB.out)) hb); clear BK251; clear HB; have HO256 := n0_; have BK251 := n1_; have HB := n2_; clear n0_ n1_ n2_; (try clear hb); (try clear hb2); (try clear hk); (try clear hi); (try clear ho0))); go_upto_region 2 with (first | ((with_reducible refine gate_dst (N := 1) rfl ?_); (try (refine gate_guard (by rfl) ?_; dsimp only)); refine box_event ?hg (N := 1) ?hd (cs := #[.string a0_0, .slice A0_1 l0_1.length c0_1]) (t := 24) ?hr ?_; (case hd => rfl); (case hg => rfl); (case hr => first | (go_simp; done) | (go_simp; rfl)); intro gb251 hg w4 hbox hb; have n0_ := Aside0.mk (below_step (by repeat (first | (with_reducible first | exact HB.out | apply below_alloc | apply pw_below_drewN | apply below_drew1) | exact HB.out)) hb); have n1_ := Aside0.mk (hbox); have n2_ := Aside0.mk ((by rw [hg]; exact (below_size (by repeat (first | (with_reducible first | exact HB.out | apply below_alloc | apply pw_below_drewN | apply below_drew1) | exact HB.out))) : w.heap.size ≤ gb251)); have n3_ := Aside0.mk ((by rw [hg]; exact (below_size (by repeat (first | (with_reducible first | exact HB.out | apply below_alloc | apply pw_below_drewN | apply below_drew1) | exact HB.out))) : w.heap.size ≤ gb251)); clear HB; have HB := n0_; have BK251 := n1_; have GW251 := n2_; have GE251 := n3_; clear n0_ n1_ n2_ n3_; clear hb hbox hg; have hcz5_0 : w4.cell? ⟨gb251, 0, none⟩ = some (.string a0_0) := (blk_cell BK251.out 0).trans rfl; have hcz5_1 : w4.cell? ⟨gb251, 1, none⟩ = some (.slice A0_1 l0_1.length c0_1) := (blk_cell BK251.out 1).trans rfl; have hfz5_0 := blk_frozen BK251.out 0; have hfz5_1 := blk_frozen BK251.out 1) | (go_at_call 21; (with_reducible refine (eponymref01_Decode.calls k a0_0 t252 t253 t254 _ A2.out).mono ?_); rintro e w6 ⟨v255, rfl, ho0, hb⟩; have n0_ := Aside0.mk (Kd.R_lower ho0 (below_size (by repeat (first | (with_reducible first | exact HB.out | apply below_alloc | apply pw_below_drewN | apply below_drew1 | refine below_set ?_ GE251.out) | exact HB.out)))); have n1_ := Aside0.mk (blk_below (g := gb251) (o := .cells #[.string a0_0, .slice A0_1 l0_1.length c0_1] 24 (0, 0)) (by (with_reducible repeat (first | refine blk_drewN ?_ _ | refine blk_drew ?_ | refine blk_alloc ?_ _)); exact BK251.out) hb); have n2_ := Aside0.mk (below_step (by repeat (first | (with_reducible first | exact HB.out | apply below_alloc | apply pw_below_drewN | apply below_drew1 | refine below_set ?_ GE251.out) | exact HB.out)) hb); clear BK251; clear HB; have HO256 := n0_; have BK251 := n1_; have HB := n2_; clear n0_ n1_ n2_; (try clear hb); (try clear hb2); (try clear hk); (try clear hi); (try clear ho0))))
 (try simp only [Act.put, List.setIfInBounds_toArray, List.set_cons_zero, List.set_cons_succ])
 go_cut [35] (fun v35 wc => ∃ (kq : Nat) (x35_2 : Bool), v35 = .bool x35_2 ∧ Aside0 (eponymref19_Check.j0 kq x35_2 a0_0 l0_1 = some (r1, r2)) ∧ Aside0 (kq ≤ k) ∧ Aside0 (wc.heap[gb251]? = some (.cells #[.string a0_0, (.slice A0_1 l0_1.length c0_1)] 24 (0, 0))) ∧ Aside0 (Below w.heap.size w wc))
 case first =>
  have H := HC3.out
  clear HC3
  by_cases c7 : (a0_0.size : Int) = 0
  ·rw [if_pos c7] at H
   have c7b0 : ((a0_0.size : Int) == 0) = true := beq_iff_eq.mpr c7
   have c7b1 : ((a0_0.size : Int) != 0) = false := bne_eq_false_iff_eq.mpr c7
   clear c7
   (first | rw [c7b0] | (simp only [i64_w, i32_w]; rw [c7b0]) | skip)
   have H' := Aside0.mk H
   clear H
   have hcz8_0 : w6.cell? ⟨gb251, 0, none⟩ = some (.string a0_0) := (blk_cell BK251.out 0).trans rfl
   have hcz8_1 : w6.cell? ⟨gb251, 1, none⟩ = some (.slice A0_1 l0_1.length c0_1) := (blk_cell BK251.out 1).trans rfl
   have hfz8_0 := blk_frozen BK251.out 0
   have hfz8_1 := blk_frozen BK251.out 1
   go_wp2
   repeat (go_quiet (fail); try go_wp2)
   go_meet
   case rel => exact ⟨_, (true), (by first | rfl | (simp; done) | (simp [*]; done)), H', ⟨by first | omega | exact Nat.le_refl _⟩, ⟨by (with_reducible repeat (first | refine blk_drewN ?_ _ | refine blk_drew ?_ | refine blk_alloc ?_ _)); exact BK251.out⟩, ⟨by repeat (first | (with_reducible first | exact HB.out | apply below_alloc | apply pw_below_drewN | apply below_drew1 | refine below_set ?_ GE251.out) | exact HB.out)⟩⟩
  ·rw [if_neg c7] at H
   have c7b0 : ((a0_0.size : Int) == 0) = false := beq_eq_false_iff_ne.mpr c7
   have c7b1 : ((a0_0.size : Int) != 0) = true := bne_iff_ne.mpr c7
   (first | rw [c7b0] | (simp only [i64_w, i32_w]; rw [c7b0]) | skip)
   by_cases c9 : (a0_0.size : Int) > 63
   ·rw [if_pos c9] at H
    have c9b0 : decide (63 < (a0_0.size : Int)) = true := decide_eq_true c9
    have c9b1 : decide (63 < a0_0.size) = true := decide_eq_true (by omega)
    clear c9
    have H' := Aside0.mk H
    clear H
    have hcz10_0 : w6.cell? ⟨gb251, 0, none⟩ = some (.string a0_0) := (blk_cell BK251.out 0).trans rfl
    have hcz10_1 : w6.cell? ⟨gb251, 1, none⟩ = some (.slice A0_1 l0_1.length c0_1) := (blk_cell BK251.out 1).trans rfl
    have hfz10_0 := blk_frozen BK251.out 0
    have hfz10_1 := blk_frozen BK251.out 1
    go_wp2
    repeat (go_quiet (fail); try go_wp2)
    go_meet
    case rel => exact ⟨_, (true), (by first | rfl | (simp; done) | (simp [*]; done)), H', ⟨by first | omega | exact Nat.le_refl _⟩, ⟨by (with_reducible repeat (first | refine blk_drewN ?_ _ | refine blk_drew ?_ | refine blk_alloc ?_ _)); exact BK251.out⟩, ⟨by repeat (first | (with_reducible first | exact HB.out | apply below_alloc | apply pw_below_drewN | apply below_drew1 | refine below_set ?_ GE251.out) | exact HB.out)⟩⟩
   ·rw [if_neg c9] at H
    have c9b0 : decide (63 < (a0_0.size : Int)) = false := decide_eq_false c9
    have c9b1 : decide (63 < a0_0.size) = false := decide_eq_false (by omega)
    clear c9
    have H' := Aside0.mk H
    clear H
    have hcz11_0 : w6.cell? ⟨gb251, 0, none⟩ = some (.string a0_0) := (blk_cell BK251.out 0).trans rfl
    have hcz11_1 : w6.cell? ⟨gb251, 1, none⟩ = some (.slice A0_1 l0_1.length c0_1) := (blk_cell BK251.out 1).trans rfl
    have hfz11_0 := blk_frozen BK251.out 0
    have hfz11_1 := blk_frozen BK251.out 1
    go_wp2
    repeat (go_quiet (fail); try go_wp2)
    go_meet
    case rel => exact ⟨_, ((t254 != 0)), (by first | rfl | (simp; done) | (simp [*]; done)), H', ⟨by first | omega | exact Nat.le_refl _⟩, ⟨by (with_reducible repeat (first | refine blk_drewN ?_ _ | refine blk_drew ?_ | refine blk_alloc ?_ _)); exact BK251.out⟩, ⟨by repeat (first | (with_reducible first | exact HB.out | apply below_alloc | apply pw_below_drewN | apply below_drew1 | refine below_set ?_ GE251.out) | exact HB.out)⟩⟩
 case rest =>
  clear HC3
  try clear c1
  try clear p2
  try clear c7
  try clear c7b0
  try clear c7b1
  try clear c9
  try clear c9b0
  try clear c9b1
  try clear hcz10_0
  try clear hcz10_1
  try clear hcz11_0
  try clear hcz11_1
  try clear hcz5_0
  try clear hcz5_1
  try clear hcz8_0
  try clear hcz8_1
  try clear hfz10_0
  try clear hfz10_1
  try clear hfz11_0
  try clear hfz11_1
  try clear hfz5_0
  try clear hfz5_1
  try clear hfz8_0
  try clear hfz8_1
  obtain ⟨kq, x35_2, rfl, HA, HJ2, BK251, HB⟩ := hcut
  cases kq with
  | zero => exact absurd HA.out (by simp [eponymref19_Check.j0])
  | succ kj2 =>
   have H := HA.out
   clear HA
   simp only [eponymref19_Check.j0] at H
   by_cases c12 : x35_2 = true
   ·subst c12
    have H1 : (some (0, 5)) = some (r1, r2) := by rw [if_pos rfl] at H; exact H
    clear H
    have H := H1
    clear H1
    simp only [Option.some.injEq, Prod.mk.injEq] at H
    obtain ⟨rfl, rfl⟩ := H
    go_wp2
    repeat (go_quiet (fail); try go_wp2)
    go_ret2
    exact ⟨by first | rfl | (simp [errW_none, errW_some] <;> rfl) | (simp [*, errW_none, errW_some] <;> rfl), by repeat (first | (with_reducible first | exact HB.out | apply below_alloc | apply pw_below_drewN | apply below_drew1 | refine below_set ?_ GE251.out) | exact HB.out)⟩
   ·replace c12 := Bool.eq_false_iff.mpr c12
    subst c12
    have H1 : (eponymref19_Check.l0 kj2 0 0 a0_0 l0_1) = some (r1, r2) := by rw [if_neg (show ¬ (false = true) by decide)] at H; exact H
    clear H
    have H := H1
    clear H1
    have H' := Aside0.mk H
    clear H
    go_wp2
    repeat (go_quiet (fail); try go_wp2)
    go_loopg [7, 8] kj2 (fun kq v7 v8 w' => ∃ (x7_2 : Int) (x8_2 : Int), v7 = .int .i64 x7_2 ∧ v8 = .int .i64 x8_2 ∧ Aside0 (eponymref19_Check.l0 kq x7_2 x8_2 a0_0 l0_1 = some (r1, r2)) ∧ Aside0 (kq ≤ kj2) ∧ Aside0 (w'.heap[gb251]? = some (.cells #[.string a0_0, (.slice A0_1 l0_1.length c0_1)] 24 (0, 0))) ∧ Aside0 (Below w.heap.size w w'))
    case atStart => exact ⟨(0), (0), (by first | rfl | (simp; done) | (simp [*]; done)), (by first | rfl | (simp; done) | (simp [*]; done)), H', ⟨Nat.le_refl _⟩, ⟨by (with_reducible repeat (first | refine blk_drewN ?_ _ | refine blk_drew ?_ | refine blk_alloc ?_ _)); exact BK251.out⟩, ⟨by repeat (first | (with_reducible first | exact HB.out | apply below_alloc | apply pw_below_drewN | apply below_drew1 | refine below_set ?_ GE251.out) | exact HB.out)⟩⟩
    case round =>
     clear H'
     try clear c1
     try clear p2
     try clear c7
     try clear c7b0
     try clear c7b1
     try clear c9
     try clear c9b0
     try clear c9b1
     try clear c12
     try clear hcz10_0
     try clear hcz10_1
     try clear hcz11_0
     try clear hcz11_1
     try clear hcz5_0
     try clear hcz5_1
     try clear hcz8_0
     try clear hcz8_1
     try clear hfz10_0
     try clear hfz10_1
     try clear hfz11_0
     try clear hfz11_1
     try clear hfz5_0
     try clear hfz5_1
     try clear hfz8_0
     try clear hfz8_1
     try clear p2
     obtain ⟨x7_2, x8_2, rfl, rfl, HA, HK2, BK251, HB⟩ := hrel
     cases gk with
     | zero => exact absurd HA.out (by simp [eponymref19_Check.l0])
     | succ k2 =>
      have H := HA.out
      clear HA
      simp only [eponymref19_Check.l0] at H
      by_cases c13 : x8_2 < (l0_1.length : Int)
      ·rw [if_pos c13] at H
       have c13b0 : decide (x8_2 < (l0_1.length : Int)) = true := decide_eq_true c13
       clear c13
       by_cases c14 : 0 ≤ x8_2
       ·rw [if_pos c14] at H
        have c14b0 : decide (0 ≤ x8_2) = true := decide_eq_true c14
        clear c14
        have H' := Aside0.mk H
        clear H
        have hcz15_0 : wr.cell? ⟨gb251, 0, none⟩ = some (.string a0_0) := (blk_cell BK251.out 0).trans rfl
        have hcz15_1 : wr.cell? ⟨gb251, 1, none⟩ = some (.slice A0_1 l0_1.length c0_1) := (blk_cell BK251.out 1).trans rfl
        have hfz15_0 := blk_frozen BK251.out 0
        have hfz15_1 := blk_frozen BK251.out 1
        have p257 : 0 ≤ (x8_2 : Int) := of_decide_eq_true (by first | (with_reducible assumption) | assumption)
        have q257 : x8_2 < (l0_1.length : Int) := of_decide_eq_true (by first | (with_reducible assumption) | assumption)
        obtain ⟨ad257, A257_0, c257_0, e257, hx257_0, hl257_0, hi257_0⟩ := at_L1 HR0_1.out x8_2 p257 q257
        cases e257
        replace hx257_0 := (HB.out.cell (World.block_lt_of_cell? w _ hx257_0)).trans hx257_0
        have HR257_0 := Aside0.mk hi257_0
        have HC257_0 := Aside0.mk hl257_0
        clear hi257_0 hl257_0
        replace p257 := eq_true p257
        replace q257 := eq_true q257
        go_wp2
        repeat (go_quiet (fail); try go_wp2)
        go_roundg k2
        case measure => have := HJ2.out; have := HK2.out; omega
        case rel => exact ⟨(wrap64 (x7_2 + ((rd_L1 l0_1 x8_2).length : Int))), (wrap64 (x8_2 + 1)), (by first | rfl | (simp; done) | (simp [*]; done)), (by first | rfl | (simp; done) | (simp [*]; done)), H', ⟨by have := HJ2.out; have := HK2.out; omega⟩, ⟨by (with_reducible repeat (first | refine blk_drewN ?_ _ | refine blk_drew ?_ | refine blk_alloc ?_ _)); exact BK251.out⟩, ⟨by repeat (first | (with_reducible first | exact HB.out | apply below_alloc | apply pw_below_drewN | apply below_drew1 | refine below_set ?_ GE251.out) | exact HB.out)⟩⟩
       ·rw [if_neg c14] at H
        exact absurd H (by simp)
      ·rw [if_neg c13] at H
       have c13b0 : decide (x8_2 < (l0_1.length : Int)) = false := decide_eq_false c13
       clear c13
       by_cases c16 : x7_2 > 2000
       ·rw [if_pos c16] at H
        have c16b0 : decide (2000 < x7_2) = true := decide_eq_true c16
        clear c16
        simp only [Option.some.injEq, Prod.mk.injEq] at H
        obtain ⟨rfl, rfl⟩ := H
        have hcz17_0 : wr.cell? ⟨gb251, 0, none⟩ = some (.string a0_0) := (blk_cell BK251.out 0).trans rfl
        have hcz17_1 : wr.cell? ⟨gb251, 1, none⟩ = some (.slice A0_1 l0_1.length c0_1) := (blk_cell BK251.out 1).trans rfl
        have hfz17_0 := blk_frozen BK251.out 0
        have hfz17_1 := blk_frozen BK251.out 1
        go_wp2
        repeat (go_quiet (fail); try go_wp2)
        go_ret2
        exact ⟨by first | rfl | (simp [errW_none, errW_some] <;> rfl) | (simp [*, errW_none, errW_some] <;> rfl), by repeat (first | (with_reducible first | exact HB.out | apply below_alloc | apply pw_below_drewN | apply below_drew1 | refine below_set ?_ GE251.out) | exact HB.out)⟩
       ·rw [if_neg c16] at H
        have c16b0 : decide (2000 < x7_2) = false := decide_eq_false c16
        clear c16
        have H' := Aside0.mk H
        clear H
        have hcz18_0 : wr.cell? ⟨gb251, 0, none⟩ = some (.string a0_0) := (blk_cell BK251.out 0).trans rfl
        have hcz18_1 : wr.cell? ⟨gb251, 1, none⟩ = some (.slice A0_1 l0_1.length c0_1) := (blk_cell BK251.out 1).trans rfl
        have hfz18_0 := blk_frozen BK251.out 0
        have hfz18_1 := blk_frozen BK251.out 1
        go_wp2
        repeat (go_quiet (fail); try go_wp2)
        go_loopg [9] k2 (fun kq v9 w' => ∃ (x9_3 : Int), v9 = .int .i64 x9_3 ∧ Aside0 (eponymref19_Check.l1 kq x9_3 a0_0 l0_1 = some (r1, r2)) ∧ Aside0 (kq ≤ k2) ∧ Aside0 (w'.heap[gb251]? = some (.cells #[.string a0_0, (.slice A0_1 l0_1.length c0_1)] 24 (0, 0))) ∧ Aside0 (Below w.heap.size w w'))
        case atStart => exact ⟨(0), (by first | rfl | (simp; done) | (simp [*]; done)), H', ⟨Nat.le_refl _⟩, ⟨by (with_reducible repeat (first | refine blk_drewN ?_ _ | refine blk_drew ?_ | refine blk_alloc ?_ _)); exact BK251.out⟩, ⟨by repeat (first | (with_reducible first | exact HB.out | apply below_alloc | apply pw_below_drewN | apply below_drew1 | refine below_set ?_ GE251.out) | exact HB.out)⟩⟩
        case round =>
         clear H'
         try clear c1
         try clear c2
         try clear p2
         try clear q2
         try clear hx2
         try clear p6
         try clear c7
         try clear c7b0
         try clear c7b1
         try clear c9
         try clear c9b0
         try clear c9b1
         try clear c12
         try clear c13
         try clear c13b0
         try clear c14
         try clear c14b0
         try clear c16
         try clear c16b0
         try clear hcz10_0
         try clear hcz10_1
         try clear hcz11_0
         try clear hcz11_1
         try clear hcz15_0
         try clear hcz15_1
         try clear hcz17_0
         try clear hcz17_1
         try clear hcz18_0
         try clear hcz18_1
         try clear hcz5_0
         try clear hcz5_1
         try clear hcz8_0
         try clear hcz8_1
         try clear hfz10_0
         try clear hfz10_1
         try clear hfz11_0
         try clear hfz11_1
         try clear hfz15_0
         try clear hfz15_1
         try clear hfz17_0
         try clear hfz17_1
         try clear hfz18_0
         try clear hfz18_1
         try clear hfz5_0
         try clear hfz5_1
         try clear hfz8_0
         try clear hfz8_1
         try clear hx257_0
         try clear p2
         try clear p257
         try clear q257
         obtain ⟨x9_3, rfl, HA, HK3, BK251, HB⟩ := hrel
         cases gk with
         | zero => exact absurd HA.out (by simp [eponymref19_Check.l1])
         | succ k3 =>
          have H := HA.out
          clear HA
          simp only [eponymref19_Check.l1] at H
          by_cases c19 : x9_3 < (l0_1.length : Int)
          ·rw [if_pos c19] at H
           have c19b0 : decide (x9_3 < (l0_1.length : Int)) = true := decide_eq_true c19
           clear c19
           by_cases c20 : 0 ≤ x9_3
           ·rw [if_pos c20] at H
            have c20b0 : decide (0 ≤ x9_3) = true := decide_eq_true c20
            clear c20
            by_cases c21 : ((rd_L1 l0_1 x9_3).length : Int) < 2
            ·rw [if_pos c21] at H
             have c21b0 : decide (((rd_L1 l0_1 x9_3).length : Int) < 2) = true := decide_eq_true c21
             have c21b1 : decide ((rd_L1 l0_1 x9_3).length < 2) = true := decide_eq_true (by omega)
             clear c21
             simp only [Option.some.injEq, Prod.mk.injEq] at H
             obtain ⟨rfl, rfl⟩ := H
             have hcz22_0 : wr.cell? ⟨gb251, 0, none⟩ = some (.string a0_0) := (blk_cell BK251.out 0).trans rfl
             have hcz22_1 : wr.cell? ⟨gb251, 1, none⟩ = some (.slice A0_1 l0_1.length c0_1) := (blk_cell BK251.out 1).trans rfl
             have hfz22_0 := blk_frozen BK251.out 0
             have hfz22_1 := blk_frozen BK251.out 1
             have p258 : 0 ≤ (x9_3 : Int) := of_decide_eq_true (by first | (with_reducible assumption) | assumption)
             have q258 : x9_3 < (l0_1.length : Int) := of_decide_eq_true (by first | (with_reducible assumption) | assumption)
             obtain ⟨ad258, A258_0, c258_0, e258, hx258_0, hl258_0, hi258_0⟩ := at_L1 HR0_1.out x9_3 p258 q258
             cases e258
             replace hx258_0 := (HB.out.cell (World.block_lt_of_cell? w _ hx258_0)).trans hx258_0
             have HR258_0 := Aside0.mk hi258_0
             have HC258_0 := Aside0.mk hl258_0
             clear hi258_0 hl258_0
             replace p258 := eq_true p258
             replace q258 := eq_true q258
             go_wp2
             repeat (go_quiet (fail); try go_wp2)
             go_ret2
             exact ⟨by first | rfl | (simp [errW_none, errW_some] <;> rfl) | (simp [*, errW_none, errW_some] <;> rfl), by repeat (first | (with_reducible first | exact HB.out | apply below_alloc | apply pw_below_drewN | apply below_drew1 | refine below_set ?_ GE251.out) | exact HB.out)⟩
            ·rw [if_neg c21] at H
             have c21b0 : decide (((rd_L1 l0_1 x9_3).length : Int) < 2) = false := decide_eq_false c21
             have c21b1 : decide ((rd_L1 l0_1 x9_3).length < 2) = false := decide_eq_false (by omega)
             clear c21
             have H' := Aside0.mk H
             clear H
             have hcz23_0 : wr.cell? ⟨gb251, 0, none⟩ = some (.string a0_0) := (blk_cell BK251.out 0).trans rfl
             have hcz23_1 : wr.cell? ⟨gb251, 1, none⟩ = some (.slice A0_1 l0_1.length c0_1) := (blk_cell BK251.out 1).trans rfl
             have hfz23_0 := blk_frozen BK251.out 0
             have hfz23_1 := blk_frozen BK251.out 1
             have p258 : 0 ≤ (x9_3 : Int) := of_decide_eq_true (by first | (with_reducible assumption) | assumption)
             have q258 : x9_3 < (l0_1.length : Int) := of_decide_eq_true (by first | (with_reducible assumption) | assumption)
             obtain ⟨ad258, A258_0, c258_0, e258, hx258_0, hl258_0, hi258_0⟩ := at_L1 HR0_1.out x9_3 p258 q258
             cases e258
             replace hx258_0 := (HB.out.cell (World.block_lt_of_cell? w _ hx258_0)).trans hx258_0
             have HR258_0 := Aside0.mk hi258_0
             have HC258_0 := Aside0.mk hl258_0
             clear hi258_0 hl258_0
             replace p258 := eq_true p258
             replace q258 := eq_true q258
             go_wp2
             repeat (go_quiet (fail); try go_wp2)
             go_loopg [11] k3 (fun kq v11 w' => ∃ (x11_4 : Int), v11 = .int .i64 x11_4 ∧ Aside0 (eponymref19_Check.l2 kq x9_3 (rd_L1 l0_1 x9_3) x11_4 a0_0 l0_1 = some (r1, r2)) ∧ Aside0 (kq ≤ k3) ∧ Aside0 (w'.heap[gb251]? = some (.cells #[.string a0_0, (.slice (some ad258) l0_1.length c0_1)] 24 (0, 0))) ∧ Aside0 (Below w.heap.size w w'))
             case atStart => exact ⟨(0), (by first | rfl | (simp; done) | (simp [*]; done)), H', ⟨Nat.le_refl _⟩, ⟨by (with_reducible repeat (first | refine blk_drewN ?_ _ | refine blk_drew ?_ | refine blk_alloc ?_ _)); exact BK251.out⟩, ⟨by repeat (first | (with_reducible first | exact HB.out | apply below_alloc | apply pw_below_drewN | apply below_drew1 | refine below_set ?_ GE251.out) | exact HB.out)⟩⟩
             case round =>
              clear H'
              try clear c1
              try clear c2
              try clear p2
              try clear q2
              try clear hx2
              try clear p6
              try clear c7
              try clear c7b0
              try clear c7b1
              try clear c9
              try clear c9b0
              try clear c9b1
              try clear c12
              try clear c13
              try clear c13b0
              try clear c14
              try clear c14b0
              try clear c16
              try clear c16b0
              try clear c19
              try clear c19b0
              try clear c20
              try clear c20b0
              try clear c21
              try clear c21b0
              try clear c21b1
              try clear hcz10_0
              try clear hcz10_1
              try clear hcz11_0
              try clear hcz11_1
              try clear hcz15_0
              try clear hcz15_1
              try clear hcz17_0
              try clear hcz17_1
              try clear hcz18_0
              try clear hcz18_1
              try clear hcz22_0
              try clear hcz22_1
              try clear hcz23_0
              try clear hcz23_1
              try clear hcz5_0
              try clear hcz5_1
              try clear hcz8_0
              try clear hcz8_1
              try clear hfz10_0
              try clear hfz10_1
              try clear hfz11_0
              try clear hfz11_1
              try clear hfz15_0
              try clear hfz15_1
              try clear hfz17_0
              try clear hfz17_1
              try clear hfz18_0
              try clear hfz18_1
              try clear hfz22_0
              try clear hfz22_1
              try clear hfz23_0
              try clear hfz23_1
              try clear hfz5_0
              try clear hfz5_1
              try clear hfz8_0
              try clear hfz8_1
              try clear hx257_0
              try clear hx258_0
              try clear p2
              try clear p257
              try clear p258
              try clear p6
              try clear q2
              try clear q257
              try clear q258
              obtain ⟨x11_4, rfl, HA, HK4, BK251, HB⟩ := hrel
              cases gk with
              | zero => exact absurd HA.out (by simp [eponymref19_Check.l2])
              | succ k4 =>
               have H := HA.out
               clear HA
               simp only [eponymref19_Check.l2] at H
               by_cases c24 : x11_4 < ((rd_L1 l0_1 x9_3).length : Int)
               ·rw [if_pos c24] at H
                have c24b0 : decide (x11_4 < ((rd_L1 l0_1 x9_3).length : Int)) = true := decide_eq_true c24
                clear c24
                by_cases c25 : 0 ≤ x11_4
                ·rw [if_pos c25] at H
                 have c25b0 : decide (0 ≤ x11_4) = true := decide_eq_true c25
                 clear c25
                 replace H := Option.bind_eq_some_iff.mp H
                 obtain ⟨t260, A260, H⟩ := H
                 replace H : (if t260 = true then (eponymref19_Check.l2 k4 x9_3 (rd_L1 l0_1 x9_3) (wrap64 (x11_4 + 1)) a0_0 l0_1) else (some (x9_3, 4))) = some (r1, r2) := H
                 have A26 := Aside0.mk A260
                 clear A260
                 by_cases c27 : t260 = true
                 ·subst c27
                  have H1 : (eponymref19_Check.l2 k4 x9_3 (rd_L1 l0_1 x9_3) (wrap64 (x11_4 + 1)) a0_0 l0_1) = some (r1, r2) := by rw [if_pos rfl] at H; exact H
                  clear H
                  have H := H1
                  clear H1
                  have H' := Aside0.mk H
                  clear H
                  have p259 : 0 ≤ (x11_4 : Int) := of_decide_eq_true (by first | (with_reducible assumption) | assumption)
                  have q259 : x11_4 < ((rd_L1 l0_1 x9_3).length : Int) := of_decide_eq_true (by first | (with_reducible assumption) | assumption)
                  obtain ⟨ad259, e259, hx259_0⟩ := Kd.at_int HR258_0.out x11_4 p259 q259
                  cases e259
                  replace hx259_0 := (HB.out.cell (World.block_lt_of_cell? w _ hx259_0)).trans hx259_0
                  replace p259 := eq_true p259
                  replace q259 := eq_true q259
                  go_wp2_with (first | (go_at_call 22; (with_reducible refine (eponymref01_Right.calls (rd (rd_L1 l0_1 x9_3) x11_4) true _ A26.out).mono ?_); rintro e w' ⟨rfl, ⟨nd, rfl⟩⟩; (try first | exact ⟨rfl, _, World.drewN_drewN _ _ _⟩ | exact ⟨rfl, _, Eq.trans (World.drewN_drewN _ _ _) (congrArg (World.drewN _) (Nat.add_assoc _ _ _))⟩)))
                  repeat (go_quiet (first | (go_at_call 22; (with_reducible refine (eponymref01_Right.calls (rd (rd_L1 l0_1 x9_3) x11_4) true _ A26.out).mono ?_); rintro e w' ⟨rfl, ⟨nd, rfl⟩⟩; (try first | exact ⟨rfl, _, World.drewN_drewN _ _ _⟩ | exact ⟨rfl, _, Eq.trans (World.drewN_drewN _ _ _) (congrArg (World.drewN _) (Nat.add_assoc _ _ _))⟩))); try go_wp2_with (first | (go_at_call 22; (with_reducible refine (eponymref01_Right.calls (rd (rd_L1 l0_1 x9_3) x11_4) true _ A26.out).mono ?_); rintro e w' ⟨rfl, ⟨nd, rfl⟩⟩; (try first | exact ⟨rfl, _, World.drewN_drewN _ _ _⟩ | exact ⟨rfl, _, Eq.trans (World.drewN_drewN _ _ _) (congrArg (World.drewN _) (Nat.add_assoc _ _ _))⟩))))
                  go_roundg k4
                  case measure => have := HJ2.out; have := HK2.out; have := HK3.out; have := HK4.out; omega
                  case rel => exact ⟨(wrap64 (x11_4 + 1)), (by first | rfl | (simp; done) | (simp [*]; done)), H', ⟨by have := HJ2.out; have := HK2.out; have := HK3.out; have := HK4.out; omega⟩, ⟨by (with_reducible repeat (first | refine blk_drewN ?_ _ | refine blk_drew ?_ | refine blk_alloc ?_ _)); exact BK251.out⟩, ⟨by repeat (first | (with_reducible first | exact HB.out | apply below_alloc | apply pw_below_drewN | apply below_drew1 | refine below_set ?_ GE251.out) | exact HB.out)⟩⟩
                 ·replace c27 := Bool.eq_false_iff.mpr c27
                  subst c27
                  have H1 : (some (x9_3, 4)) = some (r1, r2) := by rw [if_neg (show ¬ (false = true) by decide)] at H; exact H
                  clear H
                  have H := H1
                  clear H1
                  simp only [Option.some.injEq, Prod.mk.injEq] at H
                  obtain ⟨rfl, rfl⟩ := H
                  have p259 : 0 ≤ (x11_4 : Int) := of_decide_eq_true (by first | (with_reducible assumption) | assumption)
                  have q259 : x11_4 < ((rd_L1 l0_1 x9_3).length : Int) := of_decide_eq_true (by first | (with_reducible assumption) | assumption)
                  obtain ⟨ad259, e259, hx259_0⟩ := Kd.at_int HR258_0.out x11_4 p259 q259
                  cases e259
                  replace hx259_0 := (HB.out.cell (World.block_lt_of_cell? w _ hx259_0)).trans hx259_0
                  replace p259 := eq_true p259
                  replace q259 := eq_true q259
                  go_wp2_with (first | (go_at_call 22; (with_reducible refine (eponymref01_Right.calls (rd (rd_L1 l0_1 x9_3) x11_4) false _ A26.out).mono ?_); rintro e w' ⟨rfl, ⟨nd, rfl⟩⟩; (try first | exact ⟨rfl, _, World.drewN_drewN _ _ _⟩ | exact ⟨rfl, _, Eq.trans (World.drewN_drewN _ _ _) (congrArg (World.drewN _) (Nat.add_assoc _ _ _))⟩)))
                  repeat (go_quiet (first | (go_at_call 22; (with_reducible refine (eponymref01_Right.calls (rd (rd_L1 l0_1 x9_3) x11_4) false _ A26.out).mono ?_); rintro e w' ⟨rfl, ⟨nd, rfl⟩⟩; (try first | exact ⟨rfl, _, World.drewN_drewN _ _ _⟩ | exact ⟨rfl, _, Eq.trans (World.drewN_drewN _ _ _) (congrArg (World.drewN _) (Nat.add_assoc _ _ _))⟩))); try go_wp2_with (first | (go_at_call 22; (with_reducible refine (eponymref01_Right.calls (rd (rd_L1 l0_1 x9_3) x11_4) false _ A26.out).mono ?_); rintro e w' ⟨rfl, ⟨nd, rfl⟩⟩; (try first | exact ⟨rfl, _, World.drewN_drewN _ _ _⟩ | exact ⟨rfl, _, Eq.trans (World.drewN_drewN _ _ _) (congrArg (World.drewN _) (Nat.add_assoc _ _ _))⟩))))
                  go_ret2
                  exact ⟨by first | rfl | (simp [errW_none, errW_some] <;> rfl) | (simp [*, errW_none, errW_some] <;> rfl), by repeat (first | (with_reducible first | exact HB.out | apply below_alloc | apply pw_below_drewN | apply below_drew1 | refine below_set ?_ GE251.out) | exact HB.out)⟩
                ·rw [if_neg c25] at H
                 exact absurd H (by simp)
               ·rw [if_neg c24] at H
                have c24b0 : decide (x11_4 < ((rd_L1 l0_1 x9_3).length : Int)) = false := decide_eq_false c24
                clear c24
                have H' := Aside0.mk H
                clear H
                go_wp2
                repeat (go_quiet (fail); try go_wp2)
                go_loopg [12] k4 (fun kq v12 w' => ∃ (x12_5 : Int), v12 = .int .i64 x12_5 ∧ Aside0 (eponymref19_Check.l3 kq x9_3 (rd_L1 l0_1 x9_3) x12_5 a0_0 l0_1 = some (r1, r2)) ∧ Aside0 (kq ≤ k4) ∧ Aside0 (w'.heap[gb251]? = some (.cells #[.string a0_0, (.slice (some ad258) l0_1.length c0_1)] 24 (0, 0))) ∧ Aside0 (Below w.heap.size w w'))
                case atStart => exact ⟨(1), (by first | rfl | (simp; done) | (simp [*]; done)), H', ⟨Nat.le_refl _⟩, ⟨by (with_reducible repeat (first | refine blk_drewN ?_ _ | refine blk_drew ?_ | refine blk_alloc ?_ _)); exact BK251.out⟩, ⟨by repeat (first | (with_reducible first | exact HB.out | apply below_alloc | apply pw_below_drewN | apply below_drew1 | refine below_set ?_ GE251.out) | exact HB.out)⟩⟩
                case round =>
                 clear H'
                 try clear c1
                 try clear c2
                 try clear p2
                 try clear q2
                 try clear hx2
                 try clear p6
                 try clear c7
                 try clear c7b0
                 try clear c7b1
                 try clear c9
                 try clear c9b0
                 try clear c9b1
                 try clear c12
                 try clear c13
                 try clear c13b0
                 try clear c14
                 try clear c14b0
                 try clear c16
                 try clear c16b0
                 try clear c19
                 try clear c19b0
                 try clear c20
                 try clear c20b0
                 try clear c21
                 try clear c21b0
                 try clear c21b1
                 try clear c24
                 try clear c24b0
                 try clear c25
                 try clear c25b0
                 try clear p25
                 try clear q25
                 try clear hx25
                 try clear c27
                 try clear hcz10_0
                 try clear hcz10_1
                 try clear hcz11_0
                 try clear hcz11_1
                 try clear hcz15_0
                 try clear hcz15_1
                 try clear hcz17_0
                 try clear hcz17_1
                 try clear hcz18_0
                 try clear hcz18_1
                 try clear hcz22_0
                 try clear hcz22_1
                 try clear hcz23_0
                 try clear hcz23_1
                 try clear hcz5_0
                 try clear hcz5_1
                 try clear hcz8_0
                 try clear hcz8_1
                 try clear hfz10_0
                 try clear hfz10_1
                 try clear hfz11_0
                 try clear hfz11_1
                 try clear hfz15_0
                 try clear hfz15_1
                 try clear hfz17_0
                 try clear hfz17_1
                 try clear hfz18_0
                 try clear hfz18_1
                 try clear hfz22_0
                 try clear hfz22_1
                 try clear hfz23_0
                 try clear hfz23_1
                 try clear hfz5_0
                 try clear hfz5_1
                 try clear hfz8_0
                 try clear hfz8_1
                 try clear hx257_0
                 try clear hx258_0
                 try clear hx259_0
                 try clear p2
                 try clear p257
                 try clear p258
                 try clear p259
                 try clear p6
                 try clear q2
                 try clear q257
                 try clear q258
                 try clear q259
                 obtain ⟨x12_5, rfl, HA, HK5, BK251, HB⟩ := hrel
                 cases gk with
                 | zero => exact absurd HA.out (by simp [eponymref19_Check.l3])
                 | succ k5 =>
                  have H := HA.out
                  clear HA
                  simp only [eponymref19_Check.l3] at H
                  by_cases c28 : x12_5 < ((rd_L1 l0_1 x9_3).length : Int)
                  ·rw [if_pos c28] at H
                   have c28b0 : decide (x12_5 < ((rd_L1 l0_1 x9_3).length : Int)) = true := decide_eq_true c28
                   clear c28
                   by_cases c29 : 0 ≤ x12_5
                   ·rw [if_pos c29] at H
                    have c29b0 : decide (0 ≤ x12_5) = true := decide_eq_true c29
                    clear c29
                    obtain ⟨ji30, hji30⟩ : ∃ j_ : Int, (wrap64 (x12_5 - 1)) = j_ := ⟨_, rfl⟩
                    replace H : (if 0 ≤ (ji30) then (if (ji30) < ((rd_L1 l0_1 x9_3).length : Int) then (if (rd (rd_L1 l0_1 x9_3) x12_5) ≤ (rd (rd_L1 l0_1 x9_3) (ji30)) then (some (x9_3, 6)) else (eponymref19_Check.l3 k5 x9_3 (rd_L1 l0_1 x9_3) (wrap64 (x12_5 + 1)) a0_0 l0_1)) else (none)) else (none)) = some (r1, r2) := by first | (rw [hji30] at H; exact H) | (simp only [hji30] at H ⊢; exact H)
                    have hji30w : (IntKind.i64.wrap (x12_5 - 1)) = ji30 := (i64_w _).trans hji30
                    by_cases c31 : 0 ≤ (ji30)
                    ·rw [if_pos c31] at H
                     have c31b0 : decide (0 ≤ (ji30)) = true := decide_eq_true c31
                     clear c31
                     by_cases c32 : (ji30) < ((rd_L1 l0_1 x9_3).length : Int)
                     ·rw [if_pos c32] at H
                      have c32b0 : decide ((ji30) < ((rd_L1 l0_1 x9_3).length : Int)) = true := decide_eq_true c32
                      clear c32
                      by_cases c33 : (rd (rd_L1 l0_1 x9_3) x12_5) ≤ (rd (rd_L1 l0_1 x9_3) (ji30))
                      ·rw [if_pos c33] at H
                       have c33b0 : decide ((rd (rd_L1 l0_1 x9_3) x12_5) ≤ (rd (rd_L1 l0_1 x9_3) (ji30))) = true := decide_eq_true c33
                       clear c33
                       simp only [Option.some.injEq, Prod.mk.injEq] at H
                       obtain ⟨rfl, rfl⟩ := H
                       have p261 : 0 ≤ (x12_5 : Int) := of_decide_eq_true (by first | (with_reducible assumption) | assumption)
                       have q261 : x12_5 < ((rd_L1 l0_1 x9_3).length : Int) := of_decide_eq_true (by first | (with_reducible assumption) | assumption)
                       obtain ⟨ad261, e261, hx261_0⟩ := Kd.at_int HR258_0.out x12_5 p261 q261
                       cases e261
                       replace hx261_0 := (HB.out.cell (World.block_lt_of_cell? w _ hx261_0)).trans hx261_0
                       replace p261 := eq_true p261
                       replace q261 := eq_true q261
                       have p262 : 0 ≤ ((ji30) : Int) := of_decide_eq_true (by first | (with_reducible assumption) | assumption)
                       have q262 : (ji30) < ((rd_L1 l0_1 x9_3).length : Int) := of_decide_eq_true (by first | (with_reducible assumption) | assumption)
                       obtain ⟨ad262, e262, hx262_0⟩ := Kd.at_int HR258_0.out (ji30) p262 q262
                       obtain rfl : ad261 = ad262 := (by injection e262)
                       replace hx262_0 := (HB.out.cell (World.block_lt_of_cell? w _ hx262_0)).trans hx262_0
                       replace p262 := eq_true p262
                       replace q262 := eq_true q262
                       go_wp2
                       repeat (go_quiet (fail); try go_wp2)
                       go_ret2
                       exact ⟨by first | rfl | (simp [errW_none, errW_some] <;> rfl) | (simp only [← hji30]; first | rfl | (simp [errW_none, errW_some] <;> rfl)) | (simp [*, errW_none, errW_some] <;> rfl), by repeat (first | (with_reducible first | exact HB.out | apply below_alloc | apply pw_below_drewN | apply below_drew1 | refine below_set ?_ GE251.out) | exact HB.out)⟩
                      ·rw [if_neg c33] at H
                       have c33b0 : decide ((rd (rd_L1 l0_1 x9_3) x12_5) ≤ (rd (rd_L1 l0_1 x9_3) (ji30))) = false := decide_eq_false c33
                       clear c33
                       have H' := Aside0.mk H
                       clear H
                       have p261 : 0 ≤ (x12_5 : Int) := of_decide_eq_true (by first | (with_reducible assumption) | assumption)
                       have q261 : x12_5 < ((rd_L1 l0_1 x9_3).length : Int) := of_decide_eq_true (by first | (with_reducible assumption) | assumption)
                       obtain ⟨ad261, e261, hx261_0⟩ := Kd.at_int HR258_0.out x12_5 p261 q261
                       cases e261
                       replace hx261_0 := (HB.out.cell (World.block_lt_of_cell? w _ hx261_0)).trans hx261_0
                       replace p261 := eq_true p261
                       replace q261 := eq_true q261
                       have p262 : 0 ≤ ((ji30) : Int) := of_decide_eq_true (by first | (with_reducible assumption) | assumption)
                       have q262 : (ji30) < ((rd_L1 l0_1 x9_3).length : Int) := of_decide_eq_true (by first | (with_reducible assumption) | assumption)
                       obtain ⟨ad262, e262, hx262_0⟩ := Kd.at_int HR258_0.out (ji30) p262 q262
                       obtain rfl : ad261 = ad262 := (by injection e262)
                       replace hx262_0 := (HB.out.cell (World.block_lt_of_cell? w _ hx262_0)).trans hx262_0
                       replace p262 := eq_true p262
                       replace q262 := eq_true q262
                       go_wp2
                       repeat (go_quiet (fail); try go_wp2)
                       go_roundg k5
                       case measure => have := HJ2.out; have := HK2.out; have := HK3.out; have := HK4.out; have := HK5.out; omega
                       case rel => exact ⟨(wrap64 (x12_5 + 1)), (by first | rfl | (simp; done) | (simp [*]; done)), H', ⟨by have := HJ2.out; have := HK2.out; have := HK3.out; have := HK4.out; have := HK5.out; omega⟩, ⟨by (with_reducible repeat (first | refine blk_drewN ?_ _ | refine blk_drew ?_ | refine blk_alloc ?_ _)); exact BK251.out⟩, ⟨by repeat (first | (with_reducible first | exact HB.out | apply below_alloc | apply pw_below_drewN | apply below_drew1 | refine below_set ?_ GE251.out) | exact HB.out)⟩⟩
                     ·rw [if_neg c32] at H
                      exact absurd H (by simp)
                    ·rw [if_neg c31] at H
                     exact absurd H (by simp)
                   ·rw [if_neg c29] at H
                    exact absurd H (by simp)
                  ·rw [if_neg c28] at H
                   have c28b0 : decide (x12_5 < ((rd_L1 l0_1 x9_3).length : Int)) = false := decide_eq_false c28
                   clear c28
                   have HC34 := Aside0.mk H
                   clear H
                   go_upto_region 27 with (fail)
                   repeat (go_quiet (fail); go_upto_region 27 with (fail))
                   go_cut [114] (fun v114 wc => ∃ (kq : Nat) (x114_33 : Bool), v114 = .bool x114_33 ∧ Aside0 (eponymref19_Check.j5 kq x9_3 (rd_L1 l0_1 x9_3) x114_33 a0_0 l0_1 = some (r1, r2)) ∧ Aside0 (kq ≤ k5) ∧ Aside0 (wc.heap[gb251]? = some (.cells #[.string a0_0, (.slice (some ad258) l0_1.length c0_1)] 24 (0, 0))) ∧ Aside0 (Below w.heap.size w wc))
                   case first =>
                    have H := HC34.out
                    clear HC34
                    by_cases c35 : x9_3 > 0
                    ·rw [if_pos c35] at H
                     have c35b0 : decide (0 < x9_3) = true := decide_eq_true c35
                     clear c35
                     (first | rw [c35b0] | (simp only [i64_w, i32_w]; rw [c35b0]) | skip)
                     by_cases c36 : 0 < ((rd_L1 l0_1 x9_3).length : Int)
                     ·rw [if_pos c36] at H
                      have c36b0 : decide (0 < ((rd_L1 l0_1 x9_3).length : Int)) = true := decide_eq_true c36
                      have c36b1 : decide (0 < (rd_L1 l0_1 x9_3).length) = true := decide_eq_true (by omega)
                      clear c36
                      obtain ⟨ji37, hji37⟩ : ∃ j_ : Int, (wrap64 (x9_3 - 1)) = j_ := ⟨_, rfl⟩
                      replace H : (if 0 ≤ (ji37) then (if (ji37) < (l0_1.length : Int) then (if 0 < ((rd_L1 l0_1 (ji37)).length : Int) then (eponymref19_Check.j5 k5 x9_3 (rd_L1 l0_1 x9_3) (decide ((rd (rd_L1 l0_1 x9_3) 0) ≤ (rd (rd_L1 l0_1 (ji37)) 0))) a0_0 l0_1) else (none)) else (none)) else (none)) = some (r1, r2) := by first | (rw [hji37] at H; exact H) | (simp only [hji37] at H ⊢; exact H)
                      have hji37w : (IntKind.i64.wrap (x9_3 - 1)) = ji37 := (i64_w _).trans hji37
                      by_cases c38 : 0 ≤ (ji37)
                      ·rw [if_pos c38] at H
                       have c38b0 : decide (0 ≤ (ji37)) = true := decide_eq_true c38
                       clear c38
                       by_cases c39 : (ji37) < (l0_1.length : Int)
                       ·rw [if_pos c39] at H
                        have c39b0 : decide ((ji37) < (l0_1.length : Int)) = true := decide_eq_true c39
                        clear c39
                        by_cases c40 : 0 < ((rd_L1 l0_1 (ji37)).length : Int)
                        ·rw [if_pos c40] at H
                         have c40b0 : decide (0 < ((rd_L1 l0_1 (ji37)).length : Int)) = true := decide_eq_true c40
                         have c40b1 : decide (0 < (rd_L1 l0_1 (ji37)).length) = true := decide_eq_true (by omega)
                         clear c40
                         have H' := Aside0.mk H
                         clear H
                         have p263 : 0 ≤ (0 : Int) := (by omega)
                         have q263 : 0 < ((rd_L1 l0_1 x9_3).length : Int) := of_decide_eq_true (by first | (with_reducible assumption) | assumption)
                         obtain ⟨ad263, e263, hx263_0⟩ := Kd.at_int HR258_0.out 0 p263 q263
                         cases e263
                         have qi263 : (0 < (rd_L1 l0_1 x9_3).length) = True := eq_true (by omega)
                         (try rw [show ((0 : Int)).toNat = 0 from rfl] at hx263_0)
                         (try rw [Addr.add_zero'] at hx263_0)
                         replace hx263_0 := (HB.out.cell (World.block_lt_of_cell? w _ hx263_0)).trans hx263_0
                         replace p263 := eq_true p263
                         replace q263 := eq_true q263
                         have hcz41_0 : wr.cell? ⟨gb251, 0, none⟩ = some (.string a0_0) := (blk_cell BK251.out 0).trans rfl
                         have hcz41_1 : wr.cell? ⟨gb251, 1, none⟩ = some (.slice (some ad258) l0_1.length c0_1) := (blk_cell BK251.out 1).trans rfl
                         have hfz41_0 := blk_frozen BK251.out 0
                         have hfz41_1 := blk_frozen BK251.out 1
                         have p264 : 0 ≤ ((ji37) : Int) := of_decide_eq_true (by first | (with_reducible assumption) | assumption)
                         have q264 : (ji37) < (l0_1.length : Int) := of_decide_eq_true (by first | (with_reducible assumption) | assumption)
                         obtain ⟨ad264, A264_0, c264_0, e264, hx264_0, hl264_0, hi264_0⟩ := at_L1 HR0_1.out (ji37) p264 q264
                         obtain rfl : ad258 = ad264 := (by injection e264)
                         replace hx264_0 := (HB.out.cell (World.block_lt_of_cell? w _ hx264_0)).trans hx264_0
                         have HR264_0 := Aside0.mk hi264_0
                         have HC264_0 := Aside0.mk hl264_0
                         clear hi264_0 hl264_0
                         replace p264 := eq_true p264
                         replace q264 := eq_true q264
                         have p265 : 0 ≤ (0 : Int) := (by omega)
                         have q265 : 0 < ((rd_L1 l0_1 (ji37)).length : Int) := of_decide_eq_true (by first | (with_reducible assumption) | assumption)
                         obtain ⟨ad265, e265, hx265_0⟩ := Kd.at_int HR264_0.out 0 p265 q265
                         cases e265
                         have qi265 : (0 < (rd_L1 l0_1 (ji37)).length) = True := eq_true (by omega)
                         (try rw [show ((0 : Int)).toNat = 0 from rfl] at hx265_0)
                         (try rw [Addr.add_zero'] at hx265_0)
                         replace hx265_0 := (HB.out.cell (World.block_lt_of_cell? w _ hx265_0)).trans hx265_0
                         replace p265 := eq_true p265
                         replace q265 := eq_true q265
                         go_wp2
                         repeat (go_quiet (fail); try go_wp2)
                         go_meet
                         case rel => exact ⟨_, (decide ((rd (rd_L1 l0_1 x9_3) 0) ≤ (rd (rd_L1 l0_1 (ji37)) 0))), (by first | rfl | (simp; done) | (simp only [← hji37] <;> (first | rfl | simp)) | (simp [*]; done)), H', ⟨by have := HJ2.out; have := HK2.out; have := HK3.out; have := HK4.out; have := HK5.out; first | omega | exact Nat.le_refl _⟩, ⟨by (with_reducible repeat (first | refine blk_drewN ?_ _ | refine blk_drew ?_ | refine blk_alloc ?_ _)); exact BK251.out⟩, ⟨by repeat (first | (with_reducible first | exact HB.out | apply below_alloc | apply pw_below_drewN | apply below_drew1 | refine below_set ?_ GE251.out) | exact HB.out)⟩⟩
                        ·rw [if_neg c40] at H
                         exact absurd H (by simp)
                       ·rw [if_neg c39] at H
                        exact absurd H (by simp)
                      ·rw [if_neg c38] at H
                       exact absurd H (by simp)
                     ·rw [if_neg c36] at H
                      exact absurd H (by simp)
                    ·rw [if_neg c35] at H
                     have c35b0 : decide (0 < x9_3) = false := decide_eq_false c35
                     clear c35
                     (first | rw [c35b0] | (simp only [i64_w, i32_w]; rw [c35b0]) | skip)
                     have H' := Aside0.mk H
                     clear H
                     go_wp2
                     repeat (go_quiet (fail); try go_wp2)
                     go_meet
                     case rel => exact ⟨_, (false), (by first | rfl | (simp; done) | (simp [*]; done)), H', ⟨by have := HJ2.out; have := HK2.out; have := HK3.out; have := HK4.out; have := HK5.out; first | omega | exact Nat.le_refl _⟩, ⟨by (with_reducible repeat (first | refine blk_drewN ?_ _ | refine blk_drew ?_ | refine blk_alloc ?_ _)); exact BK251.out⟩, ⟨by repeat (first | (with_reducible first | exact HB.out | apply below_alloc | apply pw_below_drewN | apply below_drew1 | refine below_set ?_ GE251.out) | exact HB.out)⟩⟩
                   case rest =>
                    clear HC34
                    try clear c1
                    try clear c2
                    try clear p2
                    try clear q2
                    try clear hx2
                    try clear qi2
                    try clear c3
                    try clear c4
                    try clear p6
                    try clear c7
                    try clear c7b0
                    try clear c7b1
                    try clear c9
                    try clear c9b0
                    try clear c9b1
                    try clear c12
                    try clear c13
                    try clear c13b0
                    try clear c14
                    try clear c14b0
                    try clear c16
                    try clear c16b0
                    try clear c19
                    try clear c19b0
                    try clear c20
                    try clear c20b0
                    try clear c21
                    try clear c21b0
                    try clear c21b1
                    try clear c24
                    try clear c24b0
                    try clear c25
                    try clear c25b0
                    try clear p25
                    try clear q25
                    try clear hx25
                    try clear c26
                    try clear p26
                    try clear q26
                    try clear hx26
                    try clear qi26
                    try clear c27
                    try clear c28
                    try clear c28b0
                    try clear c29
                    try clear c29b0
                    try clear c31
                    try clear c31b0
                    try clear c32
                    try clear c32b0
                    try clear c33
                    try clear c33b0
                    try clear c35
                    try clear c35b0
                    try clear c36
                    try clear c36b0
                    try clear c36b1
                    try clear c38
                    try clear c38b0
                    try clear c39
                    try clear c39b0
                    try clear c40
                    try clear c40b0
                    try clear c40b1
                    try clear hcz10_0
                    try clear hcz10_1
                    try clear hcz11_0
                    try clear hcz11_1
                    try clear hcz15_0
                    try clear hcz15_1
                    try clear hcz17_0
                    try clear hcz17_1
                    try clear hcz18_0
                    try clear hcz18_1
                    try clear hcz22_0
                    try clear hcz22_1
                    try clear hcz23_0
                    try clear hcz23_1
                    try clear hcz41_0
                    try clear hcz41_1
                    try clear hcz5_0
                    try clear hcz5_1
                    try clear hcz8_0
                    try clear hcz8_1
                    try clear hfz10_0
                    try clear hfz10_1
                    try clear hfz11_0
                    try clear hfz11_1
                    try clear hfz15_0
                    try clear hfz15_1
                    try clear hfz17_0
                    try clear hfz17_1
                    try clear hfz18_0
                    try clear hfz18_1
                    try clear hfz22_0
                    try clear hfz22_1
                    try clear hfz23_0
                    try clear hfz23_1
                    try clear hfz41_0
                    try clear hfz41_1
                    try clear hfz5_0
                    try clear hfz5_1
                    try clear hfz8_0
                    try clear hfz8_1
                    try clear hx257_0
                    try clear hx258_0
                    try clear hx259_0
                    try clear hx261_0
                    try clear hx262_0
                    try clear hx263_0
                    try clear hx264_0
                    try clear hx265_0
                    try clear p2
                    try clear p25
                    try clear p257
                    try clear p258
                    try clear p259
                    try clear p261
                    try clear p262
                    try clear p263
                    try clear p264
                    try clear p265
                    try clear p6
                    try clear q2
                    try clear q25
                    try clear q257
                    try clear q258
                    try clear q259
                    try clear q261
                    try clear q262
                    try clear q263
                    try clear q264
                    try clear q265
                    obtain ⟨kq, x114_33, rfl, HA, HJ33, BK251, HB⟩ := hcut
                    cases kq with
                    | zero => exact absurd HA.out (by simp [eponymref19_Check.j5])
                    | succ kj33 =>
                     have H := HA.out
                     clear HA
                     simp only [eponymref19_Check.j5] at H
                     by_cases c42 : x114_33 = true
                     ·subst c42
                      have H1 : (some (x9_3, 6)) = some (r1, r2) := by rw [if_pos rfl] at H; exact H
                      clear H
                      have H := H1
                      clear H1
                      simp only [Option.some.injEq, Prod.mk.injEq] at H
                      obtain ⟨rfl, rfl⟩ := H
                      go_wp2
                      repeat (go_quiet (fail); try go_wp2)
                      go_ret2
                      exact ⟨by first | rfl | (simp [errW_none, errW_some] <;> rfl) | (simp [*, errW_none, errW_some] <;> rfl), by repeat (first | (with_reducible first | exact HB.out | apply below_alloc | apply pw_below_drewN | apply below_drew1 | refine below_set ?_ GE251.out) | exact HB.out)⟩
                     ·replace c42 := Bool.eq_false_iff.mpr c42
                      subst c42
                      have H1 : (eponymref19_Check.l4 kj33 x9_3 (rd_L1 l0_1 x9_3) 0 a0_0 l0_1) = some (r1, r2) := by rw [if_neg (show ¬ (false = true) by decide)] at H; exact H
                      clear H
                      have H := H1
                      clear H1
                      have H' := Aside0.mk H
                      clear H
                      go_wp2
                      repeat (go_quiet (fail); try go_wp2)
                      go_loopg [13] kj33 (fun kq v13 w' => ∃ (x13_7 : Int), v13 = .int .i64 x13_7 ∧ Aside0 (eponymref19_Check.l4 kq x9_3 (rd_L1 l0_1 x9_3) x13_7 a0_0 l0_1 = some (r1, r2)) ∧ Aside0 (kq ≤ kj33) ∧ Aside0 (w'.heap[gb251]? = some (.cells #[.string a0_0, (.slice (some ad258) l0_1.length c0_1)] 24 (0, 0))) ∧ Aside0 (Below w.heap.size w w'))
                      case atStart => exact ⟨(0), (by first | rfl | (simp; done) | (simp [*]; done)), H', ⟨Nat.le_refl _⟩, ⟨by (with_reducible repeat (first | refine blk_drewN ?_ _ | refine blk_drew ?_ | refine blk_alloc ?_ _)); exact BK251.out⟩, ⟨by repeat (first | (with_reducible first | exact HB.out | apply below_alloc | apply pw_below_drewN | apply below_drew1 | refine below_set ?_ GE251.out) | exact HB.out)⟩⟩
                      case round =>
                       clear H'
                       try clear c1
                       try clear c2
                       try clear p2
                       try clear q2
                       try clear hx2
                       try clear qi2
                       try clear c3
                       try clear c4
                       try clear p6
                       try clear c7
                       try clear c7b0
                       try clear c7b1
                       try clear c9
                       try clear c9b0
                       try clear c9b1
                       try clear c12
                       try clear c13
                       try clear c13b0
                       try clear c14
                       try clear c14b0
                       try clear c16
                       try clear c16b0
                       try clear c19
                       try clear c19b0
                       try clear c20
                       try clear c20b0
                       try clear c21
                       try clear c21b0
                       try clear c21b1
                       try clear c24
                       try clear c24b0
                       try clear c25
                       try clear c25b0
                       try clear p25
                       try clear q25
                       try clear hx25
                       try clear c26
                       try clear p26
                       try clear q26
                       try clear hx26
                       try clear qi26
                       try clear c27
                       try clear c28
                       try clear c28b0
                       try clear c29
                       try clear c29b0
                       try clear c31
                       try clear c31b0
                       try clear c32
                       try clear c32b0
                       try clear c33
                       try clear c33b0
                       try clear c35
                       try clear c35b0
                       try clear c36
                       try clear c36b0
                       try clear c36b1
                       try clear c38
                       try clear c38b0
                       try clear c39
                       try clear c39b0
                       try clear c40
                       try clear c40b0
                       try clear c40b1
                       try clear c42
                       try clear hcz10_0
                       try clear hcz10_1
                       try clear hcz11_0
                       try clear hcz11_1
                       try clear hcz15_0
                       try clear hcz15_1
                       try clear hcz17_0
                       try clear hcz17_1
                       try clear hcz18_0
                       try clear hcz18_1
                       try clear hcz22_0
                       try clear hcz22_1
                       try clear hcz23_0
                       try clear hcz23_1
                       try clear hcz41_0
                       try clear hcz41_1
                       try clear hcz5_0
                       try clear hcz5_1
                       try clear hcz8_0
                       try clear hcz8_1
                       try clear hfz10_0
                       try clear hfz10_1
                       try clear hfz11_0
                       try clear hfz11_1
                       try clear hfz15_0
                       try clear hfz15_1
                       try clear hfz17_0
                       try clear hfz17_1
                       try clear hfz18_0
                       try clear hfz18_1
                       try clear hfz22_0
                       try clear hfz22_1
                       try clear hfz23_0
                       try clear hfz23_1
                       try clear hfz41_0
                       try clear hfz41_1
                       try clear hfz5_0
                       try clear hfz5_1
                       try clear hfz8_0
                       try clear hfz8_1
                       try clear hx257_0
                       try clear hx258_0
                       try clear hx259_0
                       try clear hx261_0
                       try clear hx262_0
                       try clear hx263_0
                       try clear hx264_0
                       try clear hx265_0
                       try clear p2
                       try clear p25
                       try clear p257
                       try clear p258
                       try clear p259
                       try clear p26
                       try clear p261
                       try clear p262
                       try clear p263
                       try clear p264
                       try clear p265
                       try clear p6
                       try clear q2
                       try clear q25
                       try clear q257
                       try clear q258
                       try clear q259
                       try clear q26
                       try clear q261
                       try clear q262
                       try clear q263
                       try clear q264
                       try clear q265
                       obtain ⟨x13_7, rfl, HA, HK7, BK251, HB⟩ := hrel
                       cases gk with
                       | zero => exact absurd HA.out (by simp [eponymref19_Check.l4])
                       | succ k7 =>
                        have H := HA.out
                        clear HA
                        simp only [eponymref19_Check.l4] at H
                        by_cases c43 : x13_7 < x9_3
                        ·rw [if_pos c43] at H
                         have c43b0 : decide (x13_7 < x9_3) = true := decide_eq_true c43
                         clear c43
                         have H' := Aside0.mk H
                         clear H
                         go_wp2
                         repeat (go_quiet (fail); try go_wp2)
                         go_loopg [14] k7 (fun kq v14 w' => ∃ (x14_8 : Int), v14 = .int .i64 x14_8 ∧ Aside0 (eponymref19_Check.l5 kq x9_3 (rd_L1 l0_1 x9_3) x13_7 x14_8 a0_0 l0_1 = some (r1, r2)) ∧ Aside0 (kq ≤ k7) ∧ Aside0 (w'.heap[gb251]? = some (.cells #[.string a0_0, (.slice (some ad258) l0_1.length c0_1)] 24 (0, 0))) ∧ Aside0 (Below w.heap.size w w'))
                         case atStart => exact ⟨(0), (by first | rfl | (simp; done) | (simp [*]; done)), H', ⟨Nat.le_refl _⟩, ⟨by (with_reducible repeat (first | refine blk_drewN ?_ _ | refine blk_drew ?_ | refine blk_alloc ?_ _)); exact BK251.out⟩, ⟨by repeat (first | (with_reducible first | exact HB.out | apply below_alloc | apply pw_below_drewN | apply below_drew1 | refine below_set ?_ GE251.out) | exact HB.out)⟩⟩
                         case round =>
                          clear H'
                          try clear c1
                          try clear c2
                          try clear p2
                          try clear q2
                          try clear hx2
                          try clear qi2
                          try clear c3
                          try clear c4
                          try clear p6
                          try clear c7
                          try clear c7b0
                          try clear c7b1
                          try clear c9
                          try clear c9b0
                          try clear c9b1
                          try clear c12
                          try clear c13
                          try clear c13b0
                          try clear c14
                          try clear c14b0
                          try clear c16
                          try clear c16b0
                          try clear c19
                          try clear c19b0
                          try clear c20
                          try clear c20b0
                          try clear c21
                          try clear c21b0
                          try clear c21b1
                          try clear c24
                          try clear c24b0
                          try clear c25
                          try clear c25b0
                          try clear p25
                          try clear q25
                          try clear hx25
                          try clear c26
                          try clear p26
                          try clear q26
                          try clear hx26
                          try clear qi26
                          try clear c27
                          try clear c28
                          try clear c28b0
                          try clear c29
                          try clear c29b0
                          try clear c31
                          try clear c31b0
                          try clear c32
                          try clear c32b0
                          try clear c33
                          try clear c33b0
                          try clear c35
                          try clear c35b0
                          try clear c36
                          try clear c36b0
                          try clear c36b1
                          try clear c38
                          try clear c38b0
                          try clear c39
                          try clear c39b0
                          try clear c40
                          try clear c40b0
                          try clear c40b1
                          try clear c42
                          try clear c43
                          try clear c43b0
                          try clear hcz10_0
                          try clear hcz10_1
                          try clear hcz11_0
                          try clear hcz11_1
                          try clear hcz15_0
                          try clear hcz15_1
                          try clear hcz17_0
                          try clear hcz17_1
                          try clear hcz18_0
                          try clear hcz18_1
                          try clear hcz22_0
                          try clear hcz22_1
                          try clear hcz23_0
                          try clear hcz23_1
                          try clear hcz41_0
                          try clear hcz41_1
                          try clear hcz5_0
                          try clear hcz5_1
                          try clear hcz8_0
                          try clear hcz8_1
                          try clear hfz10_0
                          try clear hfz10_1
                          try clear hfz11_0
                          try clear hfz11_1
                          try clear hfz15_0
                          try clear hfz15_1
                          try clear hfz17_0
                          try clear hfz17_1
                          try clear hfz18_0
                          try clear hfz18_1
                          try clear hfz22_0
                          try clear hfz22_1
                          try clear hfz23_0
                          try clear hfz23_1
                          try clear hfz41_0
                          try clear hfz41_1
                          try clear hfz5_0
                          try clear hfz5_1
                          try clear hfz8_0
                          try clear hfz8_1
                          try clear hx257_0
                          try clear hx258_0
                          try clear hx259_0
                          try clear hx261_0
                          try clear hx262_0
                          try clear hx263_0
                          try clear hx264_0
                          try clear hx265_0
                          try clear p2
                          try clear p25
                          try clear p257
                          try clear p258
                          try clear p259
                          try clear p26
                          try clear p261
                          try clear p262
                          try clear p263
                          try clear p264
                          try clear p265
                          try clear p6
                          try clear q2
                          try clear q25
                          try clear q257
                          try clear q258
                          try clear q259
                          try clear q26
                          try clear q261
                          try clear q262
                          try clear q263
                          try clear q264
                          try clear q265
                          obtain ⟨x14_8, rfl, HA, HK8, BK251, HB⟩ := hrel
                          cases gk with
                          | zero => exact absurd HA.out (by simp [eponymref19_Check.l5])
                          | succ k8 =>
                           have H := HA.out
                           clear HA
                           simp only [eponymref19_Check.l5] at H
                           by_cases c44 : x14_8 < ((rd_L1 l0_1 x9_3).length : Int)
                           ·rw [if_pos c44] at H
                            have c44b0 : decide (x14_8 < ((rd_L1 l0_1 x9_3).length : Int)) = true := decide_eq_true c44
                            clear c44
                            by_cases c45 : 0 ≤ x13_7
                            ·rw [if_pos c45] at H
                             have c45b0 : decide (0 ≤ x13_7) = true := decide_eq_true c45
                             clear c45
                             by_cases c46 : x13_7 < (l0_1.length : Int)
                             ·rw [if_pos c46] at H
                              have c46b0 : decide (x13_7 < (l0_1.length : Int)) = true := decide_eq_true c46
                              clear c46
                              by_cases c47 : 0 ≤ x14_8
                              ·rw [if_pos c47] at H
                               have c47b0 : decide (0 ≤ x14_8) = true := decide_eq_true c47
                               clear c47
                               replace H := Option.bind_eq_some_iff.mp H
                               obtain ⟨t268, A480, H⟩ := H
                               replace H : (if t268 = true then (some (x9_3, 7)) else (eponymref19_Check.l5 k8 x9_3 (rd_L1 l0_1 x9_3) x13_7 (wrap64 (x14_8 + 1)) a0_0 l0_1)) = some (r1, r2) := H
                               have A48 := Aside0.mk A480
                               clear A480
                               by_cases c49 : t268 = true
                               ·subst c49
                                have H1 : (some (x9_3, 7)) = some (r1, r2) := by rw [if_pos rfl] at H; exact H
                                clear H
                                have H := H1
                                clear H1
                                simp only [Option.some.injEq, Prod.mk.injEq] at H
                                obtain ⟨rfl, rfl⟩ := H
                                have hcz50_0 : wr.cell? ⟨gb251, 0, none⟩ = some (.string a0_0) := (blk_cell BK251.out 0).trans rfl
                                have hcz50_1 : wr.cell? ⟨gb251, 1, none⟩ = some (.slice (some ad258) l0_1.length c0_1) := (blk_cell BK251.out 1).trans rfl
                                have hfz50_0 := blk_frozen BK251.out 0
                                have hfz50_1 := blk_frozen BK251.out 1
                                have p266 : 0 ≤ (x13_7 : Int) := of_decide_eq_true (by first | (with_reducible assumption) | assumption)
                                have q266 : x13_7 < (l0_1.length : Int) := of_decide_eq_true (by first | (with_reducible assumption) | assumption)
                                obtain ⟨ad266, A266_0, c266_0, e266, hx266_0, hl266_0, hi266_0⟩ := at_L1 HR0_1.out x13_7 p266 q266
                                obtain rfl : ad258 = ad266 := (by injection e266)
                                replace hx266_0 := (HB.out.cell (World.block_lt_of_cell? w _ hx266_0)).trans hx266_0
                                have HR266_0 := Aside0.mk hi266_0
                                have HC266_0 := Aside0.mk hl266_0
                                clear hi266_0 hl266_0
                                replace p266 := eq_true p266
                                replace q266 := eq_true q266
                                have p267 : 0 ≤ (x14_8 : Int) := of_decide_eq_true (by first | (with_reducible assumption) | assumption)
                                have q267 : x14_8 < ((rd_L1 l0_1 x9_3).length : Int) := of_decide_eq_true (by first | (with_reducible assumption) | assumption)
                                obtain ⟨ad267, e267, hx267_0⟩ := Kd.at_int HR258_0.out x14_8 p267 q267
                                cases e267
                                replace hx267_0 := (HB.out.cell (World.block_lt_of_cell? w _ hx267_0)).trans hx267_0
                                replace p267 := eq_true p267
                                replace q267 := eq_true q267
                                go_wp2_with (first | (go_at_call 23; (with_reducible refine (eponymref19_in.calls k8 _ _ (rd_L1 l0_1 x13_7) (rd (rd_L1 l0_1 x9_3) x14_8) true _ ?side1 ?side2 A48.out).mono ?_); (case side1 => repeat (first | exact (Kd.C_below HR266_0.out HB.out) | (with_reducible refine Kd.C_alloc ?_ _) | (with_reducible refine Kd.C_drewN ?_ _) | (with_reducible refine Kd.C_drew ?_))); (case side2 => exact HC266_0.out); rintro e w' ⟨rfl, ⟨nd, rfl⟩⟩; (try first | exact ⟨rfl, _, World.drewN_drewN _ _ _⟩ | exact ⟨rfl, _, Eq.trans (World.drewN_drewN _ _ _) (congrArg (World.drewN _) (Nat.add_assoc _ _ _))⟩)))
                                repeat (go_quiet (first | (go_at_call 23; (with_reducible refine (eponymref19_in.calls k8 _ _ (rd_L1 l0_1 x13_7) (rd (rd_L1 l0_1 x9_3) x14_8) true _ ?side1 ?side2 A48.out).mono ?_); (case side1 => repeat (first | exact (Kd.C_below HR266_0.out HB.out) | (with_reducible refine Kd.C_alloc ?_ _) | (with_reducible refine Kd.C_drewN ?_ _) | (with_reducible refine Kd.C_drew ?_))); (case side2 => exact HC266_0.out); rintro e w' ⟨rfl, ⟨nd, rfl⟩⟩; (try first | exact ⟨rfl, _, World.drewN_drewN _ _ _⟩ | exact ⟨rfl, _, Eq.trans (World.drewN_drewN _ _ _) (congrArg (World.drewN _) (Nat.add_assoc _ _ _))⟩))); try go_wp2_with (first | (go_at_call 23; (with_reducible refine (eponymref19_in.calls k8 _ _ (rd_L1 l0_1 x13_7) (rd (rd_L1 l0_1 x9_3) x14_8) true _ ?side1 ?side2 A48.out).mono ?_); (case side1 => repeat (first | exact (Kd.C_below HR266_0.out HB.out) | (with_reducible refine Kd.C_alloc ?_ _) | (with_reducible refine Kd.C_drewN ?_ _) | (with_reducible refine Kd.C_drew ?_))); (case side2 => exact HC266_0.out); rintro e w' ⟨rfl, ⟨nd, rfl⟩⟩; (try first | exact ⟨rfl, _, World.drewN_drewN _ _ _⟩ | exact ⟨rfl, _, Eq.trans (World.drewN_drewN _ _ _) (congrArg (World.drewN _) (Nat.add_assoc _ _ _))⟩))))
                                go_ret2
                                exact ⟨by first | rfl | (simp [errW_none, errW_some] <;> rfl) | (simp [*, errW_none, errW_some] <;> rfl), by repeat (first | (with_reducible first | exact HB.out | apply below_alloc | apply pw_below_drewN | apply below_drew1 | refine below_set ?_ GE251.out) | exact HB.out)⟩
                               ·replace c49 := Bool.eq_false_iff.mpr c49
                                subst c49
                                have H1 : (eponymref19_Check.l5 k8 x9_3 (rd_L1 l0_1 x9_3) x13_7 (wrap64 (x14_8 + 1)) a0_0 l0_1) = some (r1, r2) := by rw [if_neg (show ¬ (false = true) by decide)] at H; exact H
                                clear H
                                have H := H1
                                clear H1
                                have H' := Aside0.mk H
                                clear H
                                have hcz51_0 : wr.cell? ⟨gb251, 0, none⟩ = some (.string a0_0) := (blk_cell BK251.out 0).trans rfl
                                have hcz51_1 : wr.cell? ⟨gb251, 1, none⟩ = some (.slice (some ad258) l0_1.length c0_1) := (blk_cell BK251.out 1).trans rfl
                                have hfz51_0 := blk_frozen BK251.out 0
                                have hfz51_1 := blk_frozen BK251.out 1
                                have p266 : 0 ≤ (x13_7 : Int) := of_decide_eq_true (by first | (with_reducible assumption) | assumption)
                                have q266 : x13_7 < (l0_1.length : Int) := of_decide_eq_true (by first | (with_reducible assumption) | assumption)
                                obtain ⟨ad266, A266_0, c266_0, e266, hx266_0, hl266_0, hi266_0⟩ := at_L1 HR0_1.out x13_7 p266 q266
                                obtain rfl : ad258 = ad266 := (by injection e266)
                                replace hx266_0 := (HB.out.cell (World.block_lt_of_cell? w _ hx266_0)).trans hx266_0
                                have HR266_0 := Aside0.mk hi266_0
                                have HC266_0 := Aside0.mk hl266_0
                                clear hi266_0 hl266_0
                                replace p266 := eq_true p266
                                replace q266 := eq_true q266
                                have p267 : 0 ≤ (x14_8 : Int) := of_decide_eq_true (by first | (with_reducible assumption) | assumption)
                                have q267 : x14_8 < ((rd_L1 l0_1 x9_3).length : Int) := of_decide_eq_true (by first | (with_reducible assumption) | assumption)
                                obtain ⟨ad267, e267, hx267_0⟩ := Kd.at_int HR258_0.out x14_8 p267 q267
                                cases e267
                                replace hx267_0 := (HB.out.cell (World.block_lt_of_cell? w _ hx267_0)).trans hx267_0
                                replace p267 := eq_true p267
                                replace q267 := eq_true q267
                                go_wp2_with (first | (go_at_call 23; (with_reducible refine (eponymref19_in.calls k8 _ _ (rd_L1 l0_1 x13_7) (rd (rd_L1 l0_1 x9_3) x14_8) false _ ?side1 ?side2 A48.out).mono ?_); (case side1 => repeat (first | exact (Kd.C_below HR266_0.out HB.out) | (with_reducible refine Kd.C_alloc ?_ _) | (with_reducible refine Kd.C_drewN ?_ _) | (with_reducible refine Kd.C_drew ?_))); (case side2 => exact HC266_0.out); rintro e w' ⟨rfl, ⟨nd, rfl⟩⟩; (try first | exact ⟨rfl, _, World.drewN_drewN _ _ _⟩ | exact ⟨rfl, _, Eq.trans (World.drewN_drewN _ _ _) (congrArg (World.drewN _) (Nat.add_assoc _ _ _))⟩)))
                                repeat (go_quiet (first | (go_at_call 23; (with_reducible refine (eponymref19_in.calls k8 _ _ (rd_L1 l0_1 x13_7) (rd (rd_L1 l0_1 x9_3) x14_8) false _ ?side1 ?side2 A48.out).mono ?_); (case side1 => repeat (first | exact (Kd.C_below HR266_0.out HB.out) | (with_reducible refine Kd.C_alloc ?_ _) | (with_reducible refine Kd.C_drewN ?_ _) | (with_reducible refine Kd.C_drew ?_))); (case side2 => exact HC266_0.out); rintro e w' ⟨rfl, ⟨nd, rfl⟩⟩; (try first | exact ⟨rfl, _, World.drewN_drewN _ _ _⟩ | exact ⟨rfl, _, Eq.trans (World.drewN_drewN _ _ _) (congrArg (World.drewN _) (Nat.add_assoc _ _ _))⟩))); try go_wp2_with (first | (go_at_call 23; (with_reducible refine (eponymref19_in.calls k8 _ _ (rd_L1 l0_1 x13_7) (rd (rd_L1 l0_1 x9_3) x14_8) false _ ?side1 ?side2 A48.out).mono ?_); (case side1 => repeat (first | exact (Kd.C_below HR266_0.out HB.out) | (with_reducible refine Kd.C_alloc ?_ _) | (with_reducible refine Kd.C_drewN ?_ _) | (with_reducible refine Kd.C_drew ?_))); (case side2 => exact HC266_0.out); rintro e w' ⟨rfl, ⟨nd, rfl⟩⟩; (try first | exact ⟨rfl, _, World.drewN_drewN _ _ _⟩ | exact ⟨rfl, _, Eq.trans (World.drewN_drewN _ _ _) (congrArg (World.drewN _) (Nat.add_assoc _ _ _))⟩))))
                                go_roundg k8
                                case measure => have := HJ2.out; have := HK2.out; have := HK3.out; have := HK4.out; have := HK5.out; have := HJ33.out; have := HK7.out; have := HK8.out; omega
                                case rel => exact ⟨(wrap64 (x14_8 + 1)), (by first | rfl | (simp; done) | (simp [*]; done)), H', ⟨by have := HJ2.out; have := HK2.out; have := HK3.out; have := HK4.out; have := HK5.out; have := HJ33.out; have := HK7.out; have := HK8.out; omega⟩, ⟨by (with_reducible repeat (first | refine blk_drewN ?_ _ | refine blk_drew ?_ | refine blk_alloc ?_ _)); exact BK251.out⟩, ⟨by repeat (first | (with_reducible first | exact HB.out | apply below_alloc | apply pw_below_drewN | apply below_drew1 | refine below_set ?_ GE251.out) | exact HB.out)⟩⟩
                              ·rw [if_neg c47] at H
                               exact absurd H (by simp)
                             ·rw [if_neg c46] at H
                              exact absurd H (by simp)
                            ·rw [if_neg c45] at H
                             exact absurd H (by simp)
                           ·rw [if_neg c44] at H
                            have c44b0 : decide (x14_8 < ((rd_L1 l0_1 x9_3).length : Int)) = false := decide_eq_false c44
                            clear c44
                            have H' := Aside0.mk H
                            clear H
                            go_wp2
                            repeat (go_quiet (fail); try go_wp2)
                            go_roundg k8
                            case measure => have := HJ2.out; have := HK2.out; have := HK3.out; have := HK4.out; have := HK5.out; have := HJ33.out; have := HK7.out; have := HK8.out; omega
                            case rel => exact ⟨(wrap64 (x13_7 + 1)), (by first | rfl | (simp; done) | (simp [*]; done)), H', ⟨by have := HJ2.out; have := HK2.out; have := HK3.out; have := HK4.out; have := HK5.out; have := HJ33.out; have := HK7.out; have := HK8.out; omega⟩, ⟨by (with_reducible repeat (first | refine blk_drewN ?_ _ | refine blk_drew ?_ | refine blk_alloc ?_ _)); exact BK251.out⟩, ⟨by repeat (first | (with_reducible first | exact HB.out | apply below_alloc | apply pw_below_drewN | apply below_drew1 | refine below_set ?_ GE251.out) | exact HB.out)⟩⟩
                        ·rw [if_neg c43] at H
                         have c43b0 : decide (x13_7 < x9_3) = false := decide_eq_false c43
                         clear c43
                         have H' := Aside0.mk H
                         clear H
                         go_wp2
                         repeat (go_quiet (fail); try go_wp2)
                         go_roundg k7
                         case measure => have := HJ2.out; have := HK2.out; have := HK3.out; have := HK4.out; have := HK5.out; have := HJ33.out; have := HK7.out; omega
                         case rel => exact ⟨(wrap64 (x9_3 + 1)), (by first | rfl | (simp; done) | (simp [*]; done)), H', ⟨by have := HJ2.out; have := HK2.out; have := HK3.out; have := HK4.out; have := HK5.out; have := HJ33.out; have := HK7.out; omega⟩, ⟨by (with_reducible repeat (first | refine blk_drewN ?_ _ | refine blk_drew ?_ | refine blk_alloc ?_ _)); exact BK251.out⟩, ⟨by repeat (first | (with_reducible first | exact HB.out | apply below_alloc | apply pw_below_drewN | apply below_drew1 | refine below_set ?_ GE251.out) | exact HB.out)⟩⟩
           ·rw [if_neg c20] at H
            exact absurd H (by simp)
          ·rw [if_neg c19] at H
           have c19b0 : decide (x9_3 < (l0_1.length : Int)) = false := decide_eq_false c19
           clear c19
           simp only [Option.some.injEq, Prod.mk.injEq] at H
           obtain ⟨rfl, rfl⟩ := H
           have hcz52_0 : wr.cell? ⟨gb251, 0, none⟩ = some (.string a0_0) := (blk_cell BK251.out 0).trans rfl
           have hcz52_1 : wr.cell? ⟨gb251, 1, none⟩ = some (.slice A0_1 l0_1.length c0_1) := (blk_cell BK251.out 1).trans rfl
           have hfz52_0 := blk_frozen BK251.out 0
           have hfz52_1 := blk_frozen BK251.out 1
           go_wp2
           repeat (go_quiet (fail); try go_wp2)
           go_ret2
           exact ⟨by first | rfl | (simp [errW_none, errW_some] <;> rfl) | (simp [*, errW_none, errW_some] <;> rfl), by repeat (first | (with_reducible first | exact HB.out | apply below_alloc | apply pw_below_drewN | apply below_drew1 | refine below_set ?_ GE251.out) | exact HB.out)⟩

end Go.Proofs.YtohnahbjmcelfaaDoor.V
