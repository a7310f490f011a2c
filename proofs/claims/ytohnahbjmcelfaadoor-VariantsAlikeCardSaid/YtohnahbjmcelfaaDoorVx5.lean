-- Printed by this session's own turn of the print (wip/mkprint.py), with parts that were proved by hand.
-- HALVED
import Derived.Test.YtohnahbjmcelfaaDoorVx0
namespace Go.Proofs.YtohnahbjmcelfaaDoor.V
open Go.RowKit Go.Proofs.YtohnahbjmcelfaaDoorW.PrintWords Go.Proofs.YtohnahbjmcelfaaDoorW.PrintLast Go.Proofs.YtohnahbjmcelfaaDoorW.PrintMore Go.Proofs.YtohnahbjmcelfaaDoor.Er
attribute [local go_sem] max2_int min2_int max_two min_two max_three min_three max_four min_four   -- for this text's walks alone
set_option linter.unusedVariables false
set_option linter.unusedSimpArgs false

/-! ### eponymlaw19_Great: function 6 -/
mutual
def eponymlaw19_Great.j0 : Nat → Bool → ByteArray → List (List Int) → Option (Bool)
 | 0, _, _, _ => none
 | k + 1, x13, x147000, x147001 => if x13 = true then (some true) else (eponymlaw19_Great.l0 k 0 x147000 x147001)
def eponymlaw19_Great.l0 : Nat → Int → ByteArray → List (List Int) → Option (Bool)
 | 0, _, _, _ => none
 | k + 1, x3, x147000, x147001 => if x3 < (x147001.length : Int) then (if 0 ≤ x3 then (if ((rd_L1 x147001 x3).length : Int) > 20 then (some true) else (eponymlaw19_Great.l0 k (wrap64 (x3 + 1)) x147000 x147001)) else (none)) else (some false)
end
def eponymlaw19_Great.f (k : Nat) (a0_0 : ByteArray) (l0_1 : List (List Int)) : Option (Bool) := if (l0_1.length : Int) > 20 then (eponymlaw19_Great.j0 k true a0_0 l0_1) else (eponymlaw19_Great.j0 k (decide ((a0_0.size : Int) > 100)) a0_0 l0_1)
theorem eponymlaw19_Great.mono_l : ∀ k, (∀ y0 y1 y2, LeO (eponymlaw19_Great.j0 k y0 y1 y2) (eponymlaw19_Great.j0 (k + 1) y0 y1 y2)) ∧ (∀ y0 y1 y2, LeO (eponymlaw19_Great.l0 k y0 y1 y2) (eponymlaw19_Great.l0 (k + 1) y0 y1 y2))
 | 0 => ⟨fun _ _ _ r h => by simp [eponymlaw19_Great.j0] at h, fun _ _ _ r h => by simp [eponymlaw19_Great.l0] at h⟩
 | k + 1 => by
  obtain ⟨ih0, ih1⟩ := eponymlaw19_Great.mono_l k
  refine ⟨?_, ?_⟩
  ·intro y0 y1 y2
   unfold eponymlaw19_Great.j0
   repeat' first
   | (with_reducible exact ih0 _ _ _)
   | (with_reducible exact ih1 _ _ _)
   | (with_reducible exact LeO.refl _)
   | (with_reducible exact LeO.none _)
   | (with_reducible refine LeO.ite ?_ ?_)
   | (with_reducible refine LeO.bind ?_ (fun _ => ?_))
   | exact ih0 _ _ _
   | exact ih1 _ _ _
   | exact LeO.none _
   | refine LeO.ite ?_ ?_
   | refine LeO.bind ?_ (fun _ => ?_)
  ·intro y0 y1 y2
   unfold eponymlaw19_Great.l0
   repeat' first
   | (with_reducible exact ih0 _ _ _)
   | (with_reducible exact ih1 _ _ _)
   | (with_reducible exact LeO.refl _)
   | (with_reducible exact LeO.none _)
   | (with_reducible refine LeO.ite ?_ ?_)
   | (with_reducible refine LeO.bind ?_ (fun _ => ?_))
   | exact ih0 _ _ _
   | exact ih1 _ _ _
   | exact LeO.none _
   | refine LeO.ite ?_ ?_
   | refine LeO.bind ?_ (fun _ => ?_)
theorem eponymlaw19_Great.mono : ∀ a0 a1 k, LeO (eponymlaw19_Great.f k a0 a1) (eponymlaw19_Great.f (k + 1) a0 a1) := by
 intro a0 a1 k
 obtain ⟨ih0, ih1⟩ := eponymlaw19_Great.mono_l k
 unfold eponymlaw19_Great.f
 repeat' first
   | (with_reducible exact ih0 _ _ _)
   | (with_reducible exact ih1 _ _ _)
   | (with_reducible exact LeO.refl _)
   | (with_reducible exact LeO.none _)
   | (with_reducible refine LeO.ite ?_ ?_)
   | (with_reducible refine LeO.bind ?_ (fun _ => ?_))
   | exact ih0 _ _ _
   | exact ih1 _ _ _
   | exact LeO.none _
   | refine LeO.ite ?_ ?_
   | refine LeO.bind ?_ (fun _ => ?_)
set_option maxHeartbeats 8000000 in
set_option maxRecDepth 100000 in
theorem eponymlaw19_Great.calls (k : Nat) (a0_0 : ByteArray) (A0_1 : Option Addr) (c0_1 : Nat) (l0_1 : List (List Int)) (r : Bool) (w : World) (hr0_1 : Kd.C (Kd.slice 21 (Kd.int .i32)) w A0_1 l0_1.length l0_1) (hc0_1 : l0_1.length ≤ c0_1) (h : eponymlaw19_Great.f k a0_0 l0_1 = some r) :
  Calls Tryd.prog 6 #[.agg #[.string a0_0, .slice A0_1 l0_1.length c0_1]] w fun e w' => e = .returned (.bool r) ∧ Below w.heap.size w w' := by
 have hu24 := Tryd.underlying24
 have HR0_1 := Aside0.mk hr0_1
 have HC0_1 := Aside0.mk hc0_1
 clear hr0_1 hc0_1
 have HB := Aside0.mk (Below.refl w.heap.size w)
 have H : (if (l0_1.length : Int) > 20 then (eponymlaw19_Great.j0 k true a0_0 l0_1) else (eponymlaw19_Great.j0 k (decide ((a0_0.size : Int) > 100)) a0_0 l0_1)) = some r := h
 clear h
 have HC2 := Aside0.mk H
 clear H
 go_enter Tryd.func6, Tryd.ntmps6
 go_upto_region 1 with (first | ((with_reducible refine gate_dst (N := 1) rfl ?_); (try (refine gate_guard (by rfl) ?_; dsimp only)); refine box_event ?hg (N := 1) ?hd (cs := #[.string a0_0, .slice A0_1 l0_1.length c0_1]) (t := 24) ?hr ?_; (case hd => rfl); (case hg => rfl); (case hr => first | (go_simp; done) | (go_simp; rfl)); intro gb146 hg w3 hbox hb; have n0_ := Aside0.mk (below_step (by repeat (first | (with_reducible first | exact HB.out | apply below_alloc | apply pw_below_drewN | apply below_drew1) | exact HB.out)) hb); have n1_ := Aside0.mk (hbox); have n2_ := Aside0.mk ((by rw [hg]; exact (below_size (by repeat (first | (with_reducible first | exact HB.out | apply below_alloc | apply pw_below_drewN | apply below_drew1) | exact HB.out))) : w.heap.size ≤ gb146)); have n3_ := Aside0.mk ((by rw [hg]; exact (below_size (by repeat (first | (with_reducible first | exact HB.out | apply below_alloc | apply pw_below_drewN | apply below_drew1) | exact HB.out))) : w.heap.size ≤ gb146)); clear HB; have HB := n0_; have BK146 := n1_; have GW146 := n2_; have GE146 := n3_; clear n0_ n1_ n2_ n3_; clear hb hbox hg))
 (try simp only [Act.put, List.setIfInBounds_toArray, List.set_cons_zero, List.set_cons_succ])
 go_cut [13] (fun v13 wc => ∃ (kq : Nat) (x13_1 : Bool), v13 = .bool x13_1 ∧ Aside0 (eponymlaw19_Great.j0 kq x13_1 a0_0 l0_1 = some r) ∧ Aside0 (kq ≤ k) ∧ Aside0 (wc.heap[gb146]? = some (.cells #[.string a0_0, (.slice A0_1 l0_1.length c0_1)] 24 (0, 0))) ∧ Aside0 (Below w.heap.size w wc))
 case first =>
  have H := HC2.out
  clear HC2
  by_cases c4 : (l0_1.length : Int) > 20
  ·rw [if_pos c4] at H
   have c4b0 : decide (20 < (l0_1.length : Int)) = true := decide_eq_true c4
   have c4b1 : decide (20 < l0_1.length) = true := decide_eq_true (by omega)
   clear c4
   (first | rw [c4b0] | (simp only [i64_w, i32_w]; rw [c4b0]) | skip)
   have H' := Aside0.mk H
   clear H
   have hcz5_0 : w3.cell? ⟨gb146, 0, none⟩ = some (.string a0_0) := (blk_cell BK146.out 0).trans rfl
   have hcz5_1 : w3.cell? ⟨gb146, 1, none⟩ = some (.slice A0_1 l0_1.length c0_1) := (blk_cell BK146.out 1).trans rfl
   have hfz5_0 := blk_frozen BK146.out 0
   have hfz5_1 := blk_frozen BK146.out 1
   go_wp2
   go_meet
   case rel => exact ⟨_, (true), (by first | rfl | (simp; done) | (simp [*]; done)), H', ⟨by first | omega | exact Nat.le_refl _⟩, ⟨by (with_reducible repeat (first | refine blk_drewN ?_ _ | refine blk_drew ?_ | refine blk_alloc ?_ _)); exact BK146.out⟩, ⟨by repeat (first | (with_reducible first | exact HB.out | apply below_alloc | apply pw_below_drewN | apply below_drew1 | refine below_set ?_ GE146.out) | exact HB.out)⟩⟩
  ·rw [if_neg c4] at H
   have c4b0 : decide (20 < (l0_1.length : Int)) = false := decide_eq_false c4
   have c4b1 : decide (20 < l0_1.length) = false := decide_eq_false (by omega)
   clear c4
   (first | rw [c4b0] | (simp only [i64_w, i32_w]; rw [c4b0]) | skip)
   have H' := Aside0.mk H
   clear H
   have hcz6_0 : w3.cell? ⟨gb146, 0, none⟩ = some (.string a0_0) := (blk_cell BK146.out 0).trans rfl
   have hcz6_1 : w3.cell? ⟨gb146, 1, none⟩ = some (.slice A0_1 l0_1.length c0_1) := (blk_cell BK146.out 1).trans rfl
   have hfz6_0 := blk_frozen BK146.out 0
   have hfz6_1 := blk_frozen BK146.out 1
   go_wp2
   go_meet
   case rel => exact ⟨_, (decide ((a0_0.size : Int) > 100)), (by first | rfl | (simp; done) | (simp [*]; done)), H', ⟨by first | omega | exact Nat.le_refl _⟩, ⟨by (with_reducible repeat (first | refine blk_drewN ?_ _ | refine blk_drew ?_ | refine blk_alloc ?_ _)); exact BK146.out⟩, ⟨by repeat (first | (with_reducible first | exact HB.out | apply below_alloc | apply pw_below_drewN | apply below_drew1 | refine below_set ?_ GE146.out) | exact HB.out)⟩⟩
 case rest =>
  clear HC2
  try clear p2
  try clear c4
  try clear c4b0
  try clear c4b1
  try clear c6
  try clear hcz5_0
  try clear hcz5_1
  try clear hcz6_0
  try clear hcz6_1
  try clear hfz5_0
  try clear hfz5_1
  try clear hfz6_0
  try clear hfz6_1
  obtain ⟨kq, x13_1, rfl, HA, HJ1, BK146, HB⟩ := hcut
  cases kq with
  | zero => exact absurd HA.out (by simp [eponymlaw19_Great.j0])
  | succ kj1 =>
   have H := HA.out
   clear HA
   simp only [eponymlaw19_Great.j0] at H
   by_cases c7 : x13_1 = true
   ·subst c7
    have H1 : (some true) = some r := by rw [if_pos rfl] at H; exact H
    clear H
    have H := H1
    clear H1
    obtain rfl := Option.some.inj H
    go_wp2
    go_ret
    exact ⟨by first | rfl | (simp [errW_none, errW_some] <;> rfl) | (simp [*, errW_none, errW_some] <;> rfl), by repeat (first | (with_reducible first | exact HB.out | apply below_alloc | apply pw_below_drewN | apply below_drew1 | refine below_set ?_ GE146.out) | exact HB.out)⟩
   ·replace c7 := Bool.eq_false_iff.mpr c7
    subst c7
    have H1 : (eponymlaw19_Great.l0 kj1 0 a0_0 l0_1) = some r := by rw [if_neg (show ¬ (false = true) by decide)] at H; exact H
    clear H
    have H := H1
    clear H1
    have H' := Aside0.mk H
    clear H
    go_wp2
    go_loopg [3] kj1 (fun kq v3 w' => ∃ (x3_2 : Int), v3 = .int .i64 x3_2 ∧ Aside0 (eponymlaw19_Great.l0 kq x3_2 a0_0 l0_1 = some r) ∧ Aside0 (kq ≤ kj1) ∧ Aside0 (w'.heap[gb146]? = some (.cells #[.string a0_0, (.slice A0_1 l0_1.length c0_1)] 24 (0, 0))) ∧ Aside0 (Below w.heap.size w w'))
    case atStart => exact ⟨(0), (by first | rfl | (simp; done) | (simp [*]; done)), H', ⟨Nat.le_refl _⟩, ⟨by (with_reducible repeat (first | refine blk_drewN ?_ _ | refine blk_drew ?_ | refine blk_alloc ?_ _)); exact BK146.out⟩, ⟨by repeat (first | (with_reducible first | exact HB.out | apply below_alloc | apply pw_below_drewN | apply below_drew1 | refine below_set ?_ GE146.out) | exact HB.out)⟩⟩
    case round =>
     clear H'
     try clear p2
     try clear c4
     try clear c4b0
     try clear c4b1
     try clear c6
     try clear c7
     try clear hcz5_0
     try clear hcz5_1
     try clear hcz6_0
     try clear hcz6_1
     try clear hfz5_0
     try clear hfz5_1
     try clear hfz6_0
     try clear hfz6_1
     try clear p2
     obtain ⟨x3_2, rfl, HA, HK2, BK146, HB⟩ := hrel
     cases gk with
     | zero => exact absurd HA.out (by simp [eponymlaw19_Great.l0])
     | succ k2 =>
      have H := HA.out
      clear HA
      simp only [eponymlaw19_Great.l0] at H
      by_cases c8 : x3_2 < (l0_1.length : Int)
      ·rw [if_pos c8] at H
       have c8b0 : decide (x3_2 < (l0_1.length : Int)) = true := decide_eq_true c8
       clear c8
       by_cases c9 : 0 ≤ x3_2
       ·rw [if_pos c9] at H
        have c9b0 : decide (0 ≤ x3_2) = true := decide_eq_true c9
        clear c9
        by_cases c10 : ((rd_L1 l0_1 x3_2).length : Int) > 20
        ·rw [if_pos c10] at H
         have c10b0 : decide (20 < ((rd_L1 l0_1 x3_2).length : Int)) = true := decide_eq_true c10
         have c10b1 : decide (20 < (rd_L1 l0_1 x3_2).length) = true := decide_eq_true (by omega)
         clear c10
         obtain rfl := Option.some.inj H
         have hcz11_0 : wr.cell? ⟨gb146, 0, none⟩ = some (.string a0_0) := (blk_cell BK146.out 0).trans rfl
         have hcz11_1 : wr.cell? ⟨gb146, 1, none⟩ = some (.slice A0_1 l0_1.length c0_1) := (blk_cell BK146.out 1).trans rfl
         have hfz11_0 := blk_frozen BK146.out 0
         have hfz11_1 := blk_frozen BK146.out 1
         have p147 : 0 ≤ (x3_2 : Int) := of_decide_eq_true (by first | (with_reducible assumption) | assumption)
         have q147 : x3_2 < (l0_1.length : Int) := of_decide_eq_true (by first | (with_reducible assumption) | assumption)
         obtain ⟨ad147, A147_0, c147_0, e147, hx147_0, hl147_0, hi147_0⟩ := at_L1 HR0_1.out x3_2 p147 q147
         cases e147
         replace hx147_0 := (HB.out.cell (World.block_lt_of_cell? w _ hx147_0)).trans hx147_0
         have HR147_0 := Aside0.mk hi147_0
         have HC147_0 := Aside0.mk hl147_0
         clear hi147_0 hl147_0
         replace p147 := eq_true p147
         replace q147 := eq_true q147
         go_wp2
         go_ret
         exact ⟨by first | rfl | (simp [errW_none, errW_some] <;> rfl) | (simp [*, errW_none, errW_some] <;> rfl), by repeat (first | (with_reducible first | exact HB.out | apply below_alloc | apply pw_below_drewN | apply below_drew1 | refine below_set ?_ GE146.out) | exact HB.out)⟩
        ·rw [if_neg c10] at H
         have c10b0 : decide (20 < ((rd_L1 l0_1 x3_2).length : Int)) = false := decide_eq_false c10
         have c10b1 : decide (20 < (rd_L1 l0_1 x3_2).length) = false := decide_eq_false (by omega)
         clear c10
         have H' := Aside0.mk H
         clear H
         have hcz12_0 : wr.cell? ⟨gb146, 0, none⟩ = some (.string a0_0) := (blk_cell BK146.out 0).trans rfl
         have hcz12_1 : wr.cell? ⟨gb146, 1, none⟩ = some (.slice A0_1 l0_1.length c0_1) := (blk_cell BK146.out 1).trans rfl
         have hfz12_0 := blk_frozen BK146.out 0
         have hfz12_1 := blk_frozen BK146.out 1
         have p147 : 0 ≤ (x3_2 : Int) := of_decide_eq_true (by first | (with_reducible assumption) | assumption)
         have q147 : x3_2 < (l0_1.length : Int) := of_decide_eq_true (by first | (with_reducible assumption) | assumption)
         obtain ⟨ad147, A147_0, c147_0, e147, hx147_0, hl147_0, hi147_0⟩ := at_L1 HR0_1.out x3_2 p147 q147
         cases e147
         replace hx147_0 := (HB.out.cell (World.block_lt_of_cell? w _ hx147_0)).trans hx147_0
         have HR147_0 := Aside0.mk hi147_0
         have HC147_0 := Aside0.mk hl147_0
         clear hi147_0 hl147_0
         replace p147 := eq_true p147
         replace q147 := eq_true q147
         go_wp2
         go_roundg k2
         case measure => have := HJ1.out; have := HK2.out; omega
         case rel => exact ⟨(wrap64 (x3_2 + 1)), (by first | rfl | (simp; done) | (simp [*]; done)), H', ⟨by have := HJ1.out; have := HK2.out; omega⟩, ⟨by (with_reducible repeat (first | refine blk_drewN ?_ _ | refine blk_drew ?_ | refine blk_alloc ?_ _)); exact BK146.out⟩, ⟨by repeat (first | (with_reducible first | exact HB.out | apply below_alloc | apply pw_below_drewN | apply below_drew1 | refine below_set ?_ GE146.out) | exact HB.out)⟩⟩
       ·rw [if_neg c9] at H
        exact absurd H (by simp)
      ·rw [if_neg c8] at H
       have c8b0 : decide (x3_2 < (l0_1.length : Int)) = false := decide_eq_false c8
       clear c8
       obtain rfl := Option.some.inj H
       have hcz13_0 : wr.cell? ⟨gb146, 0, none⟩ = some (.string a0_0) := (blk_cell BK146.out 0).trans rfl
       have hcz13_1 : wr.cell? ⟨gb146, 1, none⟩ = some (.slice A0_1 l0_1.length c0_1) := (blk_cell BK146.out 1).trans rfl
       have hfz13_0 := blk_frozen BK146.out 0
       have hfz13_1 := blk_frozen BK146.out 1
       go_wp2
       go_ret
       exact ⟨by first | rfl | (simp [errW_none, errW_some] <;> rfl) | (simp [*, errW_none, errW_some] <;> rfl), by repeat (first | (with_reducible first | exact HB.out | apply below_alloc | apply pw_below_drewN | apply below_drew1 | refine below_set ?_ GE146.out) | exact HB.out)⟩

-- NOT PRINTED: function 33 (reflectlite_ValueOf)

-- NOT PRINTED: function 34 (reflectlite_Value_Type)

-- NOT PRINTED: function 35 (reflectlite_Value_IsNil)

-- NOT PRINTED: function 37 (reflectlite_TypeOf)

-- NOT PRINTED: function 46 (reflectlite_Value_Elem)

-- NOT PRINTED: function 47 (reflectlite_Value_Set)

-- NOT PRINTED: function 36 (errors_as)

-- NOT PRINTED: function 24 (errors_As)

/-! ### utf_fault: function 48 -/
def utf_fault.f (at_ : Int) (c : Nat) : Option (Option Int) := if c ≠ 0 ∧ c < 64 then some (some (enc at_ c)) else none
theorem utf_fault_walk (sv : Nat → Addr) (at_ : Int) (c : Nat) (hc : c < 64) (h0 : c ≠ 0) (w : World) : Calls Tryd.prog 48 #[.int .i64 at_, senW sv c] w fun e w' => e = .returned (errV w' (some (enc at_ c))) ∧ ErrAt sv w' (some (enc at_ c)) ∧ Below w.heap.size w w' := by
 refine fault_calls sv at_ c hc w ?_
 go_enter Tryd.func48, Tryd.ntmps48
 have hu := Tryd.underlying55
 obtain ⟨sw, hsw⟩ : ∃ sw, senW sv c = .iface 107 sw := ⟨_, senW_pos sv c h0⟩
 rw [hsw]
 go_wp2
 go_ret
 exact ⟨rfl, rfl⟩
theorem utf_fault.calls (sv : Nat → Addr) (at_ : Int) (c : Nat) (r : Option Int) (w : World) (hsv : Laid sv w) (h : utf_fault.f at_ c = some r) : Calls Tryd.prog 48 #[.int .i64 at_, senW sv c] w fun e w' => e = .returned (errV w' r) ∧ ErrAt sv w' r ∧ Below w.heap.size w w' := by
 unfold utf_fault.f at h
 by_cases hc : c ≠ 0 ∧ c < 64
 ·rw [if_pos hc] at h
  obtain rfl := Option.some.inj h
  exact utf_fault_walk sv at_ c hc.2 hc.1 w
 ·rw [if_neg hc] at h
  exact absurd h (by simp)

/-! ### utf_first: function 49 -/
def utf_first.j0 : Nat → Int → Int → Int → Int → Option (Int × Int × Int × Int)
 | 0, _, _, _, _ => none
 | k + 1, x0, x2, x4, x5 => if x0 = 224 then (if 0 ≤ x2 then (some (x2, wrap32 (Go.bits .and .u8 x0 (shr .u8 63 x2)), 160, x5)) else (none)) else (if x0 = 237 then (if 0 ≤ x2 then (some (x2, wrap32 (Go.bits .and .u8 x0 (shr .u8 63 x2)), x4, 159)) else (none)) else (if x0 = 240 then (if 0 ≤ x2 then (some (x2, wrap32 (Go.bits .and .u8 x0 (shr .u8 63 x2)), 144, x5)) else (none)) else (if x0 = 244 then (if 0 ≤ x2 then (some (x2, wrap32 (Go.bits .and .u8 x0 (shr .u8 63 x2)), x4, 143)) else (none)) else (if 0 ≤ x2 then (some (x2, wrap32 (Go.bits .and .u8 x0 (shr .u8 63 x2)), x4, x5)) else (none)))))
def utf_first.f (k : Nat) (a0 : Int) : Option (Int × Int × Int × Int) := if a0 ≥ 245 then (some ((-1), 0, 128, 191)) else (if a0 ≥ 240 then (utf_first.j0 k a0 (((0 + 1) + 1) + 1) 128 191) else (if a0 ≥ 224 then (utf_first.j0 k a0 ((0 + 1) + 1) 128 191) else (if a0 ≥ 194 then (utf_first.j0 k a0 (0 + 1) 128 191) else (if a0 ≥ 128 then (some ((-1), 0, 128, 191)) else (some (0, wrap32 (a0), 128, 191))))))
theorem utf_first.mono_l : ∀ k, (∀ y0 y1 y2 y3, LeO (utf_first.j0 k y0 y1 y2 y3) (utf_first.j0 (k + 1) y0 y1 y2 y3))
 | 0 => fun _ _ _ _ r h => by simp [utf_first.j0] at h
 | k + 1 => by
  have ih0 := utf_first.mono_l k
  ·intro y0 y1 y2 y3
   unfold utf_first.j0
   repeat' first
   | (with_reducible exact ih0 _ _ _ _)
   | (with_reducible exact LeO.refl _)
   | (with_reducible exact LeO.none _)
   | (with_reducible refine LeO.ite ?_ ?_)
   | (with_reducible refine LeO.bind ?_ (fun _ => ?_))
   | exact ih0 _ _ _ _
   | exact LeO.none _
   | refine LeO.ite ?_ ?_
   | refine LeO.bind ?_ (fun _ => ?_)
theorem utf_first.mono : ∀ a0 k, LeO (utf_first.f k a0) (utf_first.f (k + 1) a0) := by
 intro a0 k
 have ih0 := utf_first.mono_l k
 unfold utf_first.f
 repeat' first
   | (with_reducible exact ih0 _ _ _ _)
   | (with_reducible exact LeO.refl _)
   | (with_reducible exact LeO.none _)
   | (with_reducible refine LeO.ite ?_ ?_)
   | (with_reducible refine LeO.bind ?_ (fun _ => ?_))
   | exact ih0 _ _ _ _
   | exact LeO.none _
   | refine LeO.ite ?_ ?_
   | refine LeO.bind ?_ (fun _ => ?_)
set_option maxHeartbeats 8000000 in
set_option maxRecDepth 100000 in
theorem utf_first.calls (k : Nat) (a0 : Int) (r1 : Int) (r2 : Int) (r3 : Int) (r4 : Int) (w : World) (h : utf_first.f k a0 = some (r1, r2, r3, r4)) :
  Calls Tryd.prog 49 #[.int .u8 a0] w fun e w' => e = .returned (.tuple #[.int .i64 r1, .int .i32 r2, .int .u8 r3, .int .u8 r4]) ∧ Drawn0 w w' := by
 have H : (if a0 ≥ 245 then (some ((-1), 0, 128, 191)) else (if a0 ≥ 240 then (utf_first.j0 k a0 (((0 + 1) + 1) + 1) 128 191) else (if a0 ≥ 224 then (utf_first.j0 k a0 ((0 + 1) + 1) 128 191) else (if a0 ≥ 194 then (utf_first.j0 k a0 (0 + 1) 128 191) else (if a0 ≥ 128 then (some ((-1), 0, 128, 191)) else (some (0, wrap32 (a0), 128, 191))))))) = some (r1, r2, r3, r4) := h
 clear h
 have HC2 := Aside0.mk H
 clear H
 go_enter Tryd.func49, Tryd.ntmps49
 go_upto_block 0 with (fail)
 repeat (go_quiet (fail); go_upto_block 0 with (fail))
 go_cut [2, 4, 5] (fun v2 v4 v5 wc => ∃ (kq : Nat) (x2_1 : Int) (x4_1 : Int) (x5_1 : Int), v2 = .int .i64 x2_1 ∧ v4 = .int .u8 x4_1 ∧ v5 = .int .u8 x5_1 ∧ Aside0 (utf_first.j0 kq a0 x2_1 x4_1 x5_1 = some (r1, r2, r3, r4)) ∧ Aside0 (kq ≤ k) ∧ Drawn0 w wc)
 case first =>
  have H := HC2.out
  clear HC2
  by_cases c3 : a0 ≥ 245
  ·rw [if_pos c3] at H
   have c3b0 : decide (245 ≤ a0) = true := decide_eq_true c3
   clear c3
   (first | rw [c3b0] | (simp only [i64_w, i32_w]; rw [c3b0]) | skip)
   simp only [Option.some.injEq, Prod.mk.injEq] at H
   obtain ⟨rfl, rfl, rfl, rfl⟩ := H
   go_wp2
   repeat (go_quiet (fail); try go_wp2)
   refine bodyPost_ret (results_list (rs := [.tmp 2, .tmp 3, .tmp 4, .tmp 5]) rfl (by simp) (.tmp (.tmp (.tmp (.tmp .nil))))) rfl ?_
   exact ⟨by first | rfl | (simp; done) | (simp [*]; done), by repeat (first | exact Drawn0.refl _ | apply Drawn0.step)⟩
  ·rw [if_neg c3] at H
   have c3b0 : decide (245 ≤ a0) = false := decide_eq_false c3
   clear c3
   (first | rw [c3b0] | (simp only [i64_w, i32_w]; rw [c3b0]) | skip)
   by_cases c4 : a0 ≥ 240
   ·rw [if_pos c4] at H
    have c4b0 : decide (240 ≤ a0) = true := decide_eq_true c4
    clear c4
    have H' := Aside0.mk H
    clear H
    go_wp2
    repeat (go_quiet (fail); try go_wp2)
    go_meet
    case rel => exact ⟨_, (((0 + 1) + 1) + 1), (128), (191), (by first | rfl | (simp; done) | (simp [*]; done)), (by first | rfl | (simp; done) | (simp [*]; done)), (by first | rfl | (simp; done) | (simp [*]; done)), H', ⟨by first | omega | exact Nat.le_refl _⟩, by repeat (first | exact Drawn0.refl _ | apply Drawn0.step)⟩
   ·rw [if_neg c4] at H
    have c4b0 : decide (240 ≤ a0) = false := decide_eq_false c4
    clear c4
    by_cases c5 : a0 ≥ 224
    ·rw [if_pos c5] at H
     have c5b0 : decide (224 ≤ a0) = true := decide_eq_true c5
     clear c5
     have H' := Aside0.mk H
     clear H
     go_wp2
     repeat (go_quiet (fail); try go_wp2)
     go_meet
     case rel => exact ⟨_, ((0 + 1) + 1), (128), (191), (by first | rfl | (simp; done) | (simp [*]; done)), (by first | rfl | (simp; done) | (simp [*]; done)), (by first | rfl | (simp; done) | (simp [*]; done)), H', ⟨by first | omega | exact Nat.le_refl _⟩, by repeat (first | exact Drawn0.refl _ | apply Drawn0.step)⟩
    ·rw [if_neg c5] at H
     have c5b0 : decide (224 ≤ a0) = false := decide_eq_false c5
     clear c5
     by_cases c6 : a0 ≥ 194
     ·rw [if_pos c6] at H
      have c6b0 : decide (194 ≤ a0) = true := decide_eq_true c6
      clear c6
      have H' := Aside0.mk H
      clear H
      go_wp2
      repeat (go_quiet (fail); try go_wp2)
      go_meet
      case rel => exact ⟨_, (0 + 1), (128), (191), (by first | rfl | (simp; done) | (simp [*]; done)), (by first | rfl | (simp; done) | (simp [*]; done)), (by first | rfl | (simp; done) | (simp [*]; done)), H', ⟨by first | omega | exact Nat.le_refl _⟩, by repeat (first | exact Drawn0.refl _ | apply Drawn0.step)⟩
     ·rw [if_neg c6] at H
      have c6b0 : decide (194 ≤ a0) = false := decide_eq_false c6
      clear c6
      by_cases c7 : a0 ≥ 128
      ·rw [if_pos c7] at H
       have c7b0 : decide (128 ≤ a0) = true := decide_eq_true c7
       clear c7
       simp only [Option.some.injEq, Prod.mk.injEq] at H
       obtain ⟨rfl, rfl, rfl, rfl⟩ := H
       go_wp2
       repeat (go_quiet (fail); try go_wp2)
       refine bodyPost_ret (results_list (rs := [.tmp 2, .tmp 3, .tmp 4, .tmp 5]) rfl (by simp) (.tmp (.tmp (.tmp (.tmp .nil))))) rfl ?_
       exact ⟨by first | rfl | (simp; done) | (simp [*]; done), by repeat (first | exact Drawn0.refl _ | apply Drawn0.step)⟩
      ·rw [if_neg c7] at H
       have c7b0 : decide (128 ≤ a0) = false := decide_eq_false c7
       clear c7
       simp only [Option.some.injEq, Prod.mk.injEq] at H
       obtain ⟨rfl, rfl, rfl, rfl⟩ := H
       go_wp2
       repeat (go_quiet (fail); try go_wp2)
       refine bodyPost_ret (results_list (rs := [.tmp 2, .tmp 3, .tmp 4, .tmp 5]) rfl (by simp) (.tmp (.tmp (.tmp (.tmp .nil))))) rfl ?_
       exact ⟨by first | rfl | (simp; done) | (simp [*]; done), by repeat (first | exact Drawn0.refl _ | apply Drawn0.step)⟩
 case rest =>
  clear HC2
  try clear p2
  try clear c3
  try clear c3b0
  try clear p3
  try clear c4
  try clear c4b0
  try clear c5
  try clear c5b0
  try clear c6
  try clear c6b0
  try clear c7
  try clear c7b0
  obtain ⟨kq, x2_1, x4_1, x5_1, rfl, rfl, rfl, HA, HJ1, ⟨mc1, rfl⟩⟩ := hcut
  cases kq with
  | zero => exact absurd HA.out (by simp [utf_first.j0])
  | succ kj1 =>
   have H := HA.out
   clear HA
   simp only [utf_first.j0] at H
   by_cases c8 : a0 = 224
   ·rw [if_pos c8] at H
    have c8b0 : (a0 == 224) = true := beq_iff_eq.mpr c8
    have c8b1 : (a0 != 224) = false := bne_eq_false_iff_eq.mpr c8
    clear c8
    by_cases c9 : 0 ≤ x2_1
    ·rw [if_pos c9] at H
     have c9b0 := eq_true c9
     have c9b1 : decide (0 ≤ x2_1) = true := decide_eq_true c9
     clear c9
     obtain ⟨ji10, hji10⟩ : ∃ j_ : Int, (shr .u8 63 x2_1) = j_ := ⟨_, rfl⟩
     replace H : (some (x2_1, wrap32 (Go.bits .and .u8 a0 (ji10)), 160, x5_1)) = some (r1, r2, r3, r4) := by first | (rw [hji10] at H; exact H) | (simp only [hji10] at H ⊢; exact H)
     have hji10_ : (63 / 2 ^ min x2_1.toNat 8) = ji10 := hji10
     have hji10z : x2_1 ≤ 8 → (63 / 2 ^ x2_1.toNat) = ji10 := shr_small hji10
     simp only [Option.some.injEq, Prod.mk.injEq] at H
     obtain ⟨rfl, rfl, rfl, rfl⟩ := H
     go_wp2
     repeat (go_quiet (fail); try go_wp2)
     refine bodyPost_ret (results_list (rs := [.tmp 2, .tmp 3, .tmp 4, .tmp 5]) rfl (by simp) (.tmp (.tmp (.tmp (.tmp .nil))))) rfl ?_
     exact ⟨by first | rfl | (simp; done) | (simp only [← hji10] <;> (first | rfl | simp)) | (simp [*]; done), by repeat (first | exact Drawn0.refl _ | apply Drawn0.step)⟩
    ·rw [if_neg c9] at H
     exact absurd H (by simp)
   ·rw [if_neg c8] at H
    have c8b0 : (a0 == 224) = false := beq_eq_false_iff_ne.mpr c8
    have c8b1 : (a0 != 224) = true := bne_iff_ne.mpr c8
    by_cases c11 : a0 = 237
    ·rw [if_pos c11] at H
     have c11b0 : (a0 == 237) = true := beq_iff_eq.mpr c11
     have c11b1 : (a0 != 237) = false := bne_eq_false_iff_eq.mpr c11
     clear c11
     by_cases c12 : 0 ≤ x2_1
     ·rw [if_pos c12] at H
      have c12b0 := eq_true c12
      have c12b1 : decide (0 ≤ x2_1) = true := decide_eq_true c12
      clear c12
      obtain ⟨ji13, hji13⟩ : ∃ j_ : Int, (shr .u8 63 x2_1) = j_ := ⟨_, rfl⟩
      replace H : (some (x2_1, wrap32 (Go.bits .and .u8 a0 (ji13)), x4_1, 159)) = some (r1, r2, r3, r4) := by first | (rw [hji13] at H; exact H) | (simp only [hji13] at H ⊢; exact H)
      have hji13_ : (63 / 2 ^ min x2_1.toNat 8) = ji13 := hji13
      have hji13z : x2_1 ≤ 8 → (63 / 2 ^ x2_1.toNat) = ji13 := shr_small hji13
      simp only [Option.some.injEq, Prod.mk.injEq] at H
      obtain ⟨rfl, rfl, rfl, rfl⟩ := H
      go_wp2
      repeat (go_quiet (fail); try go_wp2)
      refine bodyPost_ret (results_list (rs := [.tmp 2, .tmp 3, .tmp 4, .tmp 5]) rfl (by simp) (.tmp (.tmp (.tmp (.tmp .nil))))) rfl ?_
      exact ⟨by first | rfl | (simp; done) | (simp only [← hji13] <;> (first | rfl | simp)) | (simp [*]; done), by repeat (first | exact Drawn0.refl _ | apply Drawn0.step)⟩
     ·rw [if_neg c12] at H
      exact absurd H (by simp)
    ·rw [if_neg c11] at H
     have c11b0 : (a0 == 237) = false := beq_eq_false_iff_ne.mpr c11
     have c11b1 : (a0 != 237) = true := bne_iff_ne.mpr c11
     by_cases c14 : a0 = 240
     ·rw [if_pos c14] at H
      have c14b0 : (a0 == 240) = true := beq_iff_eq.mpr c14
      have c14b1 : (a0 != 240) = false := bne_eq_false_iff_eq.mpr c14
      clear c14
      by_cases c15 : 0 ≤ x2_1
      ·rw [if_pos c15] at H
       have c15b0 := eq_true c15
       have c15b1 : decide (0 ≤ x2_1) = true := decide_eq_true c15
       clear c15
       obtain ⟨ji16, hji16⟩ : ∃ j_ : Int, (shr .u8 63 x2_1) = j_ := ⟨_, rfl⟩
       replace H : (some (x2_1, wrap32 (Go.bits .and .u8 a0 (ji16)), 144, x5_1)) = some (r1, r2, r3, r4) := by first | (rw [hji16] at H; exact H) | (simp only [hji16] at H ⊢; exact H)
       have hji16_ : (63 / 2 ^ min x2_1.toNat 8) = ji16 := hji16
       have hji16z : x2_1 ≤ 8 → (63 / 2 ^ x2_1.toNat) = ji16 := shr_small hji16
       simp only [Option.some.injEq, Prod.mk.injEq] at H
       obtain ⟨rfl, rfl, rfl, rfl⟩ := H
       go_wp2
       repeat (go_quiet (fail); try go_wp2)
       refine bodyPost_ret (results_list (rs := [.tmp 2, .tmp 3, .tmp 4, .tmp 5]) rfl (by simp) (.tmp (.tmp (.tmp (.tmp .nil))))) rfl ?_
       exact ⟨by first | rfl | (simp; done) | (simp only [← hji16] <;> (first | rfl | simp)) | (simp [*]; done), by repeat (first | exact Drawn0.refl _ | apply Drawn0.step)⟩
      ·rw [if_neg c15] at H
       exact absurd H (by simp)
     ·rw [if_neg c14] at H
      have c14b0 : (a0 == 240) = false := beq_eq_false_iff_ne.mpr c14
      have c14b1 : (a0 != 240) = true := bne_iff_ne.mpr c14
      by_cases c17 : a0 = 244
      ·rw [if_pos c17] at H
       have c17b0 : (a0 == 244) = true := beq_iff_eq.mpr c17
       have c17b1 : (a0 != 244) = false := bne_eq_false_iff_eq.mpr c17
       clear c17
       by_cases c18 : 0 ≤ x2_1
       ·rw [if_pos c18] at H
        have c18b0 := eq_true c18
        have c18b1 : decide (0 ≤ x2_1) = true := decide_eq_true c18
        clear c18
        obtain ⟨ji19, hji19⟩ : ∃ j_ : Int, (shr .u8 63 x2_1) = j_ := ⟨_, rfl⟩
        replace H : (some (x2_1, wrap32 (Go.bits .and .u8 a0 (ji19)), x4_1, 143)) = some (r1, r2, r3, r4) := by first | (rw [hji19] at H; exact H) | (simp only [hji19] at H ⊢; exact H)
        have hji19_ : (63 / 2 ^ min x2_1.toNat 8) = ji19 := hji19
        have hji19z : x2_1 ≤ 8 → (63 / 2 ^ x2_1.toNat) = ji19 := shr_small hji19
        simp only [Option.some.injEq, Prod.mk.injEq] at H
        obtain ⟨rfl, rfl, rfl, rfl⟩ := H
        go_wp2
        repeat (go_quiet (fail); try go_wp2)
        refine bodyPost_ret (results_list (rs := [.tmp 2, .tmp 3, .tmp 4, .tmp 5]) rfl (by simp) (.tmp (.tmp (.tmp (.tmp .nil))))) rfl ?_
        exact ⟨by first | rfl | (simp; done) | (simp only [← hji19] <;> (first | rfl | simp)) | (simp [*]; done), by repeat (first | exact Drawn0.refl _ | apply Drawn0.step)⟩
       ·rw [if_neg c18] at H
        exact absurd H (by simp)
      ·rw [if_neg c17] at H
       have c17b0 : (a0 == 244) = false := beq_eq_false_iff_ne.mpr c17
       have c17b1 : (a0 != 244) = true := bne_iff_ne.mpr c17
       by_cases c20 : 0 ≤ x2_1
       ·rw [if_pos c20] at H
        have c20b0 := eq_true c20
        have c20b1 : decide (0 ≤ x2_1) = true := decide_eq_true c20
        clear c20
        obtain ⟨ji21, hji21⟩ : ∃ j_ : Int, (shr .u8 63 x2_1) = j_ := ⟨_, rfl⟩
        replace H : (some (x2_1, wrap32 (Go.bits .and .u8 a0 (ji21)), x4_1, x5_1)) = some (r1, r2, r3, r4) := by first | (rw [hji21] at H; exact H) | (simp only [hji21] at H ⊢; exact H)
        have hji21_ : (63 / 2 ^ min x2_1.toNat 8) = ji21 := hji21
        have hji21z : x2_1 ≤ 8 → (63 / 2 ^ x2_1.toNat) = ji21 := shr_small hji21
        simp only [Option.some.injEq, Prod.mk.injEq] at H
        obtain ⟨rfl, rfl, rfl, rfl⟩ := H
        go_wp2
        repeat (go_quiet (fail); try go_wp2)
        refine bodyPost_ret (results_list (rs := [.tmp 2, .tmp 3, .tmp 4, .tmp 5]) rfl (by simp) (.tmp (.tmp (.tmp (.tmp .nil))))) rfl ?_
        exact ⟨by first | rfl | (simp; done) | (simp only [← hji21] <;> (first | rfl | simp)) | (simp [*]; done), by repeat (first | exact Drawn0.refl _ | apply Drawn0.step)⟩
       ·rw [if_neg c20] at H
        exact absurd H (by simp)

/-! ### utf_Next: function 39 -/
mutual
def utf_Next.j0 : Nat → ByteArray → Int → Bool → Option (Int × Int × Option Int)
 | 0, _, _, _ => none
 | k + 1, x0, x1, x19 => if x19 = true then ((utf_fault.f x1 4).bind fun t148 => (some (0, 0, t148))) else (if 0 ≤ x1 then (if x1 < (x0.size : Int) then ((utf_first.f k (bt x0 x1)).bind fun bt149 => (if bt149.1 < 0 then ((utf_fault.f x1 1).bind fun t153 => (some (0, 0, t153))) else (utf_Next.l0 k x0 x1 bt149.2.1 bt149.1 bt149.2.2.1 bt149.2.2.2 1))) else (none)) else (none))
def utf_Next.l0 : Nat → ByteArray → Int → Int → Int → Int → Int → Int → Option (Int × Int × Option Int)
 | 0, _, _, _, _, _, _, _ => none
 | k + 1, x0, x1, x4, x7, x8, x9, x10 => if x10 ≤ x7 then (if (wrap64 (x1 + x10)) ≥ (x0.size : Int) then ((utf_fault.f x1 2).bind fun t154 => (some (0, 0, t154))) else (if 0 ≤ (wrap64 (x1 + x10)) then (if (wrap64 (x1 + x10)) < (x0.size : Int) then (if (bt x0 (wrap64 (x1 + x10))) < x8 then ((utf_fault.f x1 1).bind fun t155 => (some (0, 0, t155))) else (if (bt x0 (wrap64 (x1 + x10))) > x9 then ((utf_fault.f x1 1).bind fun t156 => (some (0, 0, t156))) else (utf_Next.l0 k x0 x1 (Go.bits .or .i32 (wrap32 (x4 * 64)) (wrap32 (Go.bits .and .u8 (bt x0 (wrap64 (x1 + x10))) 63))) x7 128 191 (wrap64 (x10 + 1))))) else (none)) else (none))) else (some (x4, wrap64 (x7 + 1), none))
end
def utf_Next.f (k : Nat) (a0 : ByteArray) (a1 : Int) : Option (Int × Int × Option Int) := if a1 < 0 then (utf_Next.j0 k a0 a1 true) else (utf_Next.j0 k a0 a1 (decide (a1 ≥ (a0.size : Int))))
theorem utf_Next.mono_l : ∀ k, (∀ y0 y1 y2, LeO (utf_Next.j0 k y0 y1 y2) (utf_Next.j0 (k + 1) y0 y1 y2)) ∧ (∀ y0 y1 y2 y3 y4 y5 y6, LeO (utf_Next.l0 k y0 y1 y2 y3 y4 y5 y6) (utf_Next.l0 (k + 1) y0 y1 y2 y3 y4 y5 y6))
 | 0 => ⟨fun _ _ _ r h => by simp [utf_Next.j0] at h, fun _ _ _ _ _ _ _ r h => by simp [utf_Next.l0] at h⟩
 | k + 1 => by
  obtain ⟨ih0, ih1⟩ := utf_Next.mono_l k
  refine ⟨?_, ?_⟩
  ·intro y0 y1 y2
   unfold utf_Next.j0
   repeat' first
   | (with_reducible exact ih0 _ _ _)
   | (with_reducible exact ih1 _ _ _ _ _ _ _)
   | (with_reducible exact utf_first.mono _ _)
   | (with_reducible exact LeO.refl _)
   | (with_reducible exact LeO.none _)
   | (with_reducible refine LeO.ite ?_ ?_)
   | (with_reducible refine LeO.bind ?_ (fun _ => ?_))
   | exact ih0 _ _ _
   | exact ih1 _ _ _ _ _ _ _
   | exact utf_first.mono _ _
   | exact LeO.none _
   | refine LeO.ite ?_ ?_
   | refine LeO.bind ?_ (fun _ => ?_)
  ·intro y0 y1 y2 y3 y4 y5 y6
   unfold utf_Next.l0
   repeat' first
   | (with_reducible exact ih0 _ _ _)
   | (with_reducible exact ih1 _ _ _ _ _ _ _)
   | (with_reducible exact utf_first.mono _ _)
   | (with_reducible exact LeO.refl _)
   | (with_reducible exact LeO.none _)
   | (with_reducible refine LeO.ite ?_ ?_)
   | (with_reducible refine LeO.bind ?_ (fun _ => ?_))
   | exact ih0 _ _ _
   | exact ih1 _ _ _ _ _ _ _
   | exact utf_first.mono _ _
   | exact LeO.none _
   | refine LeO.ite ?_ ?_
   | refine LeO.bind ?_ (fun _ => ?_)
theorem utf_Next.mono : ∀ a0 a1 k, LeO (utf_Next.f k a0 a1) (utf_Next.f (k + 1) a0 a1) := by
 intro a0 a1 k
 obtain ⟨ih0, ih1⟩ := utf_Next.mono_l k
 unfold utf_Next.f
 repeat' first
   | (with_reducible exact ih0 _ _ _)
   | (with_reducible exact ih1 _ _ _ _ _ _ _)
   | (with_reducible exact utf_first.mono _ _)
   | (with_reducible exact LeO.refl _)
   | (with_reducible exact LeO.none _)
   | (with_reducible refine LeO.ite ?_ ?_)
   | (with_reducible refine LeO.bind ?_ (fun _ => ?_))
   | exact ih0 _ _ _
   | exact ih1 _ _ _ _ _ _ _
   | exact utf_first.mono _ _
   | exact LeO.none _
   | refine LeO.ite ?_ ?_
   | refine LeO.bind ?_ (fun _ => ?_)
set_option maxHeartbeats 8000000 in
set_option maxRecDepth 100000 in
theorem utf_Next.calls (sv : Nat → Addr) (k : Nat) (a0 : ByteArray) (a1 : Int) (r1 : Int) (r2 : Int) (r3 : Option Int) (w : World) (hsv : Laid sv w) (h : utf_Next.f k a0 a1 = some (r1, r2, r3)) :
  Calls Tryd.prog 39 #[.string a0, .int .i64 a1] w fun e w' => e = .returned (.tuple #[.int .i32 r1, .int .i64 r2, errV w' r3]) ∧ ErrAt sv w' r3 ∧ Below w.heap.size w w' := by
 have HB := Aside0.mk (Below.refl w.heap.size w)
 have HSV := Aside0.mk hsv
 clear hsv
 have hsg1 := HSV.out.at1
 have hsg2 := HSV.out.at2
 have hsg4 := HSV.out.at4
 have H : (if a1 < 0 then (utf_Next.j0 k a0 a1 true) else (utf_Next.j0 k a0 a1 (decide (a1 ≥ (a0.size : Int))))) = some (r1, r2, r3) := h
 clear h
 have HC3 := Aside0.mk H
 clear H
 go_enter Tryd.func39, Tryd.ntmps39
 go_upto_region 1 with (fail)
 go_cut [19] (fun v19 wc => ∃ (kq : Nat) (x19_2 : Bool), v19 = .bool x19_2 ∧ Aside0 (utf_Next.j0 kq a0 a1 x19_2 = some (r1, r2, r3)) ∧ Aside0 (kq ≤ k) ∧ Aside0 (Below w.heap.size w wc))
 case first =>
  have H := HC3.out
  clear HC3
  by_cases c4 : a1 < 0
  ·rw [if_pos c4] at H
   have c4b0 : decide (a1 < 0) = true := decide_eq_true c4
   clear c4
   (first | rw [c4b0] | (simp only [i64_w, i32_w]; rw [c4b0]) | skip)
   have H' := Aside0.mk H
   clear H
   go_wp2
   go_meet
   case rel => exact ⟨_, (true), (by first | rfl | (simp; done) | (simp [*]; done)), H', ⟨by first | omega | exact Nat.le_refl _⟩, ⟨by repeat (first | (with_reducible first | exact HB.out | apply below_alloc | apply pw_below_drewN | apply below_drew1) | exact HB.out)⟩⟩
  ·rw [if_neg c4] at H
   have c4b0 : decide (a1 < 0) = false := decide_eq_false c4
   clear c4
   (first | rw [c4b0] | (simp only [i64_w, i32_w]; rw [c4b0]) | skip)
   have H' := Aside0.mk H
   clear H
   go_wp2
   go_meet
   case rel => exact ⟨_, (decide (a1 ≥ (a0.size : Int))), (by first | rfl | (simp; done) | (simp [*]; done)), H', ⟨by first | omega | exact Nat.le_refl _⟩, ⟨by repeat (first | (with_reducible first | exact HB.out | apply below_alloc | apply pw_below_drewN | apply below_drew1) | exact HB.out)⟩⟩
 case rest =>
  clear HC3
  try clear p2
  try clear c3
  try clear c4
  try clear c4b0
  obtain ⟨kq, x19_2, rfl, HA, HJ2, HB⟩ := hcut; have hsg1 := (Laid.below HSV.out HB.out).at1; have hsg2 := (Laid.below HSV.out HB.out).at2; have hsg4 := (Laid.below HSV.out HB.out).at4
  cases kq with
  | zero => exact absurd HA.out (by simp [utf_Next.j0])
  | succ kj2 =>
   have H := HA.out
   clear HA
   simp only [utf_Next.j0] at H
   by_cases c5 : x19_2 = true
   ·subst c5
    have H1 : ((utf_fault.f a1 4).bind fun t148 => (some (0, 0, t148))) = some (r1, r2, r3) := by rw [if_pos rfl] at H; exact H
    clear H
    have H := H1
    clear H1
    replace H := Option.bind_eq_some_iff.mp H
    obtain ⟨t148, A60, H⟩ := H
    replace H : (some (0, 0, t148)) = some (r1, r2, r3) := H
    have A6 := Aside0.mk A60
    clear A60
    simp only [Option.some.injEq, Prod.mk.injEq] at H
    obtain ⟨rfl, rfl, rfl⟩ := H
    go_wp2_with (first | ((with_reducible refine gate_callee (f := 48) rfl ?_); refine goesL_ (some 22) rfl rfl Tryd.func48 (by kernel_rfl) rfl #[.int .i64 a1, senW sv 4] rfl (by (try simp only [List.map_toArray, List.map_cons, List.map_nil]); first | done | rfl | (simp only [List.length_drop, List.length_take]; rfl)) ?_; (with_reducible refine (utf_fault.calls sv a1 4 t148 _ (Laid.below HSV.out (by repeat (first | (with_reducible first | exact HB.out | apply below_alloc | apply pw_below_drewN | apply below_drew1) | exact HB.out))) A6.out).mono ?_); rintro e w7 ⟨rfl, hE_, hb⟩; have HEA := Aside0.mk hE_; have HEA_t148 := Aside0.mk (ErrAt.errB hE_); clear hE_; refine ⟨_, rfl, ?_⟩; have n0_ := Aside0.mk (below_step (by repeat (first | (with_reducible first | exact HB.out | apply below_alloc | apply pw_below_drewN | apply below_drew1) | exact HB.out)) hb); clear HB; have HB := n0_; have hsg1 := (Laid.below HSV.out HB.out).at1; have hsg2 := (Laid.below HSV.out HB.out).at2; have hsg4 := (Laid.below HSV.out HB.out).at4; clear n0_; (try clear hb); (try clear hb2); (try clear hk); (try clear hi); (try simp only [errV_none, errV_some])))
    go_ret3
    exact ⟨by first | rfl | (simp [errV_none, errV_some] <;> rfl) | (simp [*, errV_none, errV_some] <;> rfl), (by first | exact trivial | exact HEA.out), by repeat (first | (with_reducible first | exact HB.out | apply below_alloc | apply pw_below_drewN | apply below_drew1) | exact HB.out)⟩
   ·replace c5 := Bool.eq_false_iff.mpr c5
    subst c5
    have H1 : (if 0 ≤ a1 then (if a1 < (a0.size : Int) then ((utf_first.f kj2 (bt a0 a1)).bind fun bt149 => (if bt149.1 < 0 then ((utf_fault.f a1 1).bind fun t153 => (some (0, 0, t153))) else (utf_Next.l0 kj2 a0 a1 bt149.2.1 bt149.1 bt149.2.2.1 bt149.2.2.2 1))) else (none)) else (none)) = some (r1, r2, r3) := by rw [if_neg (show ¬ (false = true) by decide)] at H; exact H
    clear H
    have H := H1
    clear H1
    by_cases c8 : 0 ≤ a1
    ·rw [if_pos c8] at H
     have c8b0 : decide (0 ≤ a1) = true := decide_eq_true c8
     clear c8
     by_cases c9 : a1 < (a0.size : Int)
     ·rw [if_pos c9] at H
      have c9b0 : decide (a1 < (a0.size : Int)) = true := decide_eq_true c9
      clear c9
      replace H := Option.bind_eq_some_iff.mp H
      obtain ⟨⟨t149, t150, t151, t152⟩, A110, H⟩ := H
      replace H : (if t149 < 0 then ((utf_fault.f a1 1).bind fun t153 => (some (0, 0, t153))) else (utf_Next.l0 kj2 a0 a1 t150 t149 t151 t152 1)) = some (r1, r2, r3) := H
      have A11 := Aside0.mk A110
      clear A110
      by_cases c12 : t149 < 0
      ·rw [if_pos c12] at H
       have c12b0 : decide (t149 < 0) = true := decide_eq_true c12
       clear c12
       replace H := Option.bind_eq_some_iff.mp H
       obtain ⟨t153, A130, H⟩ := H
       replace H : (some (0, 0, t153)) = some (r1, r2, r3) := H
       have A13 := Aside0.mk A130
       clear A130
       simp only [Option.some.injEq, Prod.mk.injEq] at H
       obtain ⟨rfl, rfl, rfl⟩ := H
       have p10 : 0 ≤ (a1 : Int) := of_decide_eq_true (by first | (with_reducible assumption) | assumption)
       have q10 : a1 < (a0.size : Int) := of_decide_eq_true (by first | (with_reducible assumption) | assumption)
       have hx10 := bt_at a0 a1
       replace p10 := eq_true p10
       replace q10 := eq_true q10
       go_wp2_with (first | ((with_reducible refine gate_callee (f := 49) rfl ?_); refine goesL_ (some 27) rfl rfl Tryd.func49 (by kernel_rfl) rfl #[.int .u8 (bt a0 a1)] rfl (by (try simp only [List.map_toArray, List.map_cons, List.map_nil]); first | done | rfl | (simp only [List.length_drop, List.length_take]; rfl)) ?_; (with_reducible refine (utf_first.calls kj2 (bt a0 a1) t149 t150 t151 t152 _ A11.out).mono ?_); rintro e w' ⟨rfl, ⟨nd, rfl⟩⟩; refine ⟨_, rfl, ?_⟩) | ((with_reducible refine gate_callee (f := 48) rfl ?_); refine goesL_ (some 36) rfl rfl Tryd.func48 (by kernel_rfl) rfl #[.int .i64 a1, senW sv 1] rfl (by (try simp only [List.map_toArray, List.map_cons, List.map_nil]); first | done | rfl | (simp only [List.length_drop, List.length_take]; rfl)) ?_; (with_reducible refine (utf_fault.calls sv a1 1 t153 _ (Laid.below HSV.out (by repeat (first | (with_reducible first | exact HB.out | apply below_alloc | apply pw_below_drewN | apply below_drew1) | exact HB.out))) A13.out).mono ?_); rintro e w14 ⟨rfl, hE_, hb⟩; have HEA := Aside0.mk hE_; have HEA_t153 := Aside0.mk (ErrAt.errB hE_); clear hE_; refine ⟨_, rfl, ?_⟩; (try (have nE_ := Aside0.mk (ErrB.below (by repeat (first | (with_reducible exact HEA_t148.out) | (with_reducible refine ErrB.alloc ?_ _) | (with_reducible refine ErrB.drewN ?_ _) | (with_reducible refine ErrB.drew ?_) | exact HEA_t148.out)) hb); clear HEA_t148; have HEA_t148 := nE_; clear nE_)); have n0_ := Aside0.mk (below_step (by repeat (first | (with_reducible first | exact HB.out | apply below_alloc | apply pw_below_drewN | apply below_drew1) | exact HB.out)) hb); clear HB; have HB := n0_; have hsg1 := (Laid.below HSV.out HB.out).at1; have hsg2 := (Laid.below HSV.out HB.out).at2; have hsg4 := (Laid.below HSV.out HB.out).at4; clear n0_; (try clear hb); (try clear hb2); (try clear hk); (try clear hi); (try simp only [errV_none, errV_some])))
       go_ret3
       exact ⟨by first | rfl | (simp [errV_none, errV_some] <;> rfl) | (simp [*, errV_none, errV_some] <;> rfl), (by first | exact trivial | exact HEA.out), by repeat (first | (with_reducible first | exact HB.out | apply below_alloc | apply pw_below_drewN | apply below_drew1) | exact HB.out)⟩
      ·rw [if_neg c12] at H
       have c12b0 : decide (t149 < 0) = false := decide_eq_false c12
       clear c12
       have H' := Aside0.mk H
       clear H
       have p10 : 0 ≤ (a1 : Int) := of_decide_eq_true (by first | (with_reducible assumption) | assumption)
       have q10 : a1 < (a0.size : Int) := of_decide_eq_true (by first | (with_reducible assumption) | assumption)
       have hx10 := bt_at a0 a1
       replace p10 := eq_true p10
       replace q10 := eq_true q10
       go_wp2_with (first | ((with_reducible refine gate_callee (f := 49) rfl ?_); refine goesL_ (some 27) rfl rfl Tryd.func49 (by kernel_rfl) rfl #[.int .u8 (bt a0 a1)] rfl (by (try simp only [List.map_toArray, List.map_cons, List.map_nil]); first | done | rfl | (simp only [List.length_drop, List.length_take]; rfl)) ?_; (with_reducible refine (utf_first.calls kj2 (bt a0 a1) t149 t150 t151 t152 _ A11.out).mono ?_); rintro e w' ⟨rfl, ⟨nd, rfl⟩⟩; refine ⟨_, rfl, ?_⟩))
       go_loopg [4, 8, 9, 10] kj2 (fun kq v4 v8 v9 v10 w' => ∃ (x4_2 : Int) (x8_2 : Int) (x9_2 : Int) (x10_2 : Int), v4 = .int .i32 x4_2 ∧ v8 = .int .u8 x8_2 ∧ v9 = .int .u8 x9_2 ∧ v10 = .int .i64 x10_2 ∧ Aside0 (utf_Next.l0 kq a0 a1 x4_2 t149 x8_2 x9_2 x10_2 = some (r1, r2, r3)) ∧ Aside0 (kq ≤ kj2) ∧ Aside0 (Below w.heap.size w w'))
       case atStart => exact ⟨(t150), (t151), (t152), (1), (by first | rfl | (simp; done) | (simp [*]; done)), (by first | rfl | (simp; done) | (simp [*]; done)), (by first | rfl | (simp; done) | (simp [*]; done)), (by first | rfl | (simp; done) | (simp [*]; done)), H', ⟨Nat.le_refl _⟩, ⟨by repeat (first | (with_reducible first | exact HB.out | apply below_alloc | apply pw_below_drewN | apply below_drew1) | exact HB.out)⟩⟩
       case round =>
        clear H'
        try clear c1
        try clear p1
        try clear q1
        try clear hx1
        try clear p2
        try clear c3
        try clear c4
        try clear c4b0
        try clear c5
        try clear c8
        try clear c8b0
        try clear c9
        try clear c9b0
        try clear p10
        try clear q10
        try clear hx10
        try clear c12
        try clear c12b0
        try clear p10
        try clear p2
        try clear q10
        obtain ⟨x4_2, x8_2, x9_2, x10_2, rfl, rfl, rfl, rfl, HA, HK2, HB⟩ := hrel; have hsg1 := (Laid.below HSV.out HB.out).at1; have hsg2 := (Laid.below HSV.out HB.out).at2; have hsg4 := (Laid.below HSV.out HB.out).at4
        cases gk with
        | zero => exact absurd HA.out (by simp [utf_Next.l0])
        | succ k2 =>
         have H := HA.out
         clear HA
         simp only [utf_Next.l0] at H
         by_cases c15 : x10_2 ≤ t149
         ·rw [if_pos c15] at H
          have c15b0 : decide (x10_2 ≤ t149) = true := decide_eq_true c15
          clear c15
          by_cases c16 : (wrap64 (a1 + x10_2)) ≥ (a0.size : Int)
          ·rw [if_pos c16] at H
           have c16b0 : decide ((a0.size : Int) ≤ (wrap64 (a1 + x10_2))) = true := decide_eq_true c16
           clear c16
           replace H := Option.bind_eq_some_iff.mp H
           obtain ⟨t154, A170, H⟩ := H
           replace H : (some (0, 0, t154)) = some (r1, r2, r3) := H
           have A17 := Aside0.mk A170
           clear A170
           simp only [Option.some.injEq, Prod.mk.injEq] at H
           obtain ⟨rfl, rfl, rfl⟩ := H
           go_wp2_with (first | ((with_reducible refine gate_callee (f := 48) rfl ?_); refine goesL_ (some 50) rfl rfl Tryd.func48 (by kernel_rfl) rfl #[.int .i64 a1, senW sv 2] rfl (by (try simp only [List.map_toArray, List.map_cons, List.map_nil]); first | done | rfl | (simp only [List.length_drop, List.length_take]; rfl)) ?_; (with_reducible refine (utf_fault.calls sv a1 2 t154 _ (Laid.below HSV.out (by repeat (first | (with_reducible first | exact HB.out | apply below_alloc | apply pw_below_drewN | apply below_drew1) | exact HB.out))) A17.out).mono ?_); rintro e w18 ⟨rfl, hE_, hb⟩; have HEA := Aside0.mk hE_; have HEA_t154 := Aside0.mk (ErrAt.errB hE_); clear hE_; refine ⟨_, rfl, ?_⟩; (try (have nE_ := Aside0.mk (ErrB.below (by repeat (first | (with_reducible exact HEA_t148.out) | (with_reducible refine ErrB.alloc ?_ _) | (with_reducible refine ErrB.drewN ?_ _) | (with_reducible refine ErrB.drew ?_) | exact HEA_t148.out)) hb); clear HEA_t148; have HEA_t148 := nE_; clear nE_)); (try (have nE_ := Aside0.mk (ErrB.below (by repeat (first | (with_reducible exact HEA_t153.out) | (with_reducible refine ErrB.alloc ?_ _) | (with_reducible refine ErrB.drewN ?_ _) | (with_reducible refine ErrB.drew ?_) | exact HEA_t153.out)) hb); clear HEA_t153; have HEA_t153 := nE_; clear nE_)); have n0_ := Aside0.mk (below_step (by repeat (first | (with_reducible first | exact HB.out | apply below_alloc | apply pw_below_drewN | apply below_drew1) | exact HB.out)) hb); clear HB; have HB := n0_; have hsg1 := (Laid.below HSV.out HB.out).at1; have hsg2 := (Laid.below HSV.out HB.out).at2; have hsg4 := (Laid.below HSV.out HB.out).at4; clear n0_; (try clear hb); (try clear hb2); (try clear hk); (try clear hi); (try simp only [errV_none, errV_some])))
           go_ret3
           exact ⟨by first | rfl | (simp [errV_none, errV_some] <;> rfl) | (simp [*, errV_none, errV_some] <;> rfl), (by first | exact trivial | exact HEA.out), by repeat (first | (with_reducible first | exact HB.out | apply below_alloc | apply pw_below_drewN | apply below_drew1) | exact HB.out)⟩
          ·rw [if_neg c16] at H
           have c16b0 : decide ((a0.size : Int) ≤ (wrap64 (a1 + x10_2))) = false := decide_eq_false c16
           clear c16
           obtain ⟨ji19, hji19⟩ : ∃ j_ : Int, (wrap64 (a1 + x10_2)) = j_ := ⟨_, rfl⟩
           replace H : (if 0 ≤ (ji19) then (if (ji19) < (a0.size : Int) then (if (bt a0 (ji19)) < x8_2 then ((utf_fault.f a1 1).bind fun t155 => (some (0, 0, t155))) else (if (bt a0 (ji19)) > x9_2 then ((utf_fault.f a1 1).bind fun t156 => (some (0, 0, t156))) else (utf_Next.l0 k2 a0 a1 (Go.bits .or .i32 (wrap32 (x4_2 * 64)) (wrap32 (Go.bits .and .u8 (bt a0 (ji19)) 63))) t149 128 191 (wrap64 (x10_2 + 1))))) else (none)) else (none)) = some (r1, r2, r3) := by first | (rw [hji19] at H; exact H) | (simp only [hji19] at H ⊢; exact H)
           (try rw [hji19] at c16b0)
           have hji19w : (IntKind.i64.wrap (a1 + x10_2)) = ji19 := (i64_w _).trans hji19
           by_cases c20 : 0 ≤ (ji19)
           ·rw [if_pos c20] at H
            have c20b0 : decide (0 ≤ (ji19)) = true := decide_eq_true c20
            clear c20
            by_cases c21 : (ji19) < (a0.size : Int)
            ·rw [if_pos c21] at H
             have c21b0 : decide ((ji19) < (a0.size : Int)) = true := decide_eq_true c21
             clear c21
             by_cases c23 : (bt a0 (ji19)) < x8_2
             ·rw [if_pos c23] at H
              have c23b0 : decide ((bt a0 (ji19)) < x8_2) = true := decide_eq_true c23
              clear c23
              replace H := Option.bind_eq_some_iff.mp H
              obtain ⟨t155, A240, H⟩ := H
              replace H : (some (0, 0, t155)) = some (r1, r2, r3) := H
              have A24 := Aside0.mk A240
              clear A240
              simp only [Option.some.injEq, Prod.mk.injEq] at H
              obtain ⟨rfl, rfl, rfl⟩ := H
              have p22 : 0 ≤ ((ji19) : Int) := of_decide_eq_true (by first | (with_reducible assumption) | assumption)
              have q22 : (ji19) < (a0.size : Int) := of_decide_eq_true (by first | (with_reducible assumption) | assumption)
              have hx22 := bt_at a0 (ji19)
              replace p22 := eq_true p22
              replace q22 := eq_true q22
              go_wp2_with (first | ((with_reducible refine gate_callee (f := 48) rfl ?_); refine goesL_ (some 66) rfl rfl Tryd.func48 (by kernel_rfl) rfl #[.int .i64 a1, senW sv 1] rfl (by (try simp only [List.map_toArray, List.map_cons, List.map_nil]); first | done | rfl | (simp only [List.length_drop, List.length_take]; rfl)) ?_; (with_reducible refine (utf_fault.calls sv a1 1 t155 _ (Laid.below HSV.out (by repeat (first | (with_reducible first | exact HB.out | apply below_alloc | apply pw_below_drewN | apply below_drew1) | exact HB.out))) A24.out).mono ?_); rintro e w25 ⟨rfl, hE_, hb⟩; have HEA := Aside0.mk hE_; have HEA_t155 := Aside0.mk (ErrAt.errB hE_); clear hE_; refine ⟨_, rfl, ?_⟩; (try (have nE_ := Aside0.mk (ErrB.below (by repeat (first | (with_reducible exact HEA_t148.out) | (with_reducible refine ErrB.alloc ?_ _) | (with_reducible refine ErrB.drewN ?_ _) | (with_reducible refine ErrB.drew ?_) | exact HEA_t148.out)) hb); clear HEA_t148; have HEA_t148 := nE_; clear nE_)); (try (have nE_ := Aside0.mk (ErrB.below (by repeat (first | (with_reducible exact HEA_t153.out) | (with_reducible refine ErrB.alloc ?_ _) | (with_reducible refine ErrB.drewN ?_ _) | (with_reducible refine ErrB.drew ?_) | exact HEA_t153.out)) hb); clear HEA_t153; have HEA_t153 := nE_; clear nE_)); (try (have nE_ := Aside0.mk (ErrB.below (by repeat (first | (with_reducible exact HEA_t154.out) | (with_reducible refine ErrB.alloc ?_ _) | (with_reducible refine ErrB.drewN ?_ _) | (with_reducible refine ErrB.drew ?_) | exact HEA_t154.out)) hb); clear HEA_t154; have HEA_t154 := nE_; clear nE_)); have n0_ := Aside0.mk (below_step (by repeat (first | (with_reducible first | exact HB.out | apply below_alloc | apply pw_below_drewN | apply below_drew1) | exact HB.out)) hb); clear HB; have HB := n0_; have hsg1 := (Laid.below HSV.out HB.out).at1; have hsg2 := (Laid.below HSV.out HB.out).at2; have hsg4 := (Laid.below HSV.out HB.out).at4; clear n0_; (try clear hb); (try clear hb2); (try clear hk); (try clear hi); (try simp only [errV_none, errV_some])))
              go_ret3
              exact ⟨by first | rfl | (simp [errV_none, errV_some] <;> rfl) | (simp only [← hji19]; first | rfl | (simp [errV_none, errV_some] <;> rfl)) | (simp [*, errV_none, errV_some] <;> rfl), (by first | exact trivial | exact HEA.out), by repeat (first | (with_reducible first | exact HB.out | apply below_alloc | apply pw_below_drewN | apply below_drew1) | exact HB.out)⟩
             ·rw [if_neg c23] at H
              have c23b0 : decide ((bt a0 (ji19)) < x8_2) = false := decide_eq_false c23
              clear c23
              by_cases c26 : (bt a0 (ji19)) > x9_2
              ·rw [if_pos c26] at H
               have c26b0 : decide (x9_2 < (bt a0 (ji19))) = true := decide_eq_true c26
               clear c26
               replace H := Option.bind_eq_some_iff.mp H
               obtain ⟨t156, A270, H⟩ := H
               replace H : (some (0, 0, t156)) = some (r1, r2, r3) := H
               have A27 := Aside0.mk A270
               clear A270
               simp only [Option.some.injEq, Prod.mk.injEq] at H
               obtain ⟨rfl, rfl, rfl⟩ := H
               have p22 : 0 ≤ ((ji19) : Int) := of_decide_eq_true (by first | (with_reducible assumption) | assumption)
               have q22 : (ji19) < (a0.size : Int) := of_decide_eq_true (by first | (with_reducible assumption) | assumption)
               have hx22 := bt_at a0 (ji19)
               replace p22 := eq_true p22
               replace q22 := eq_true q22
               go_wp2_with (first | ((with_reducible refine gate_callee (f := 48) rfl ?_); refine goesL_ (some 66) rfl rfl Tryd.func48 (by kernel_rfl) rfl #[.int .i64 a1, senW sv 1] rfl (by (try simp only [List.map_toArray, List.map_cons, List.map_nil]); first | done | rfl | (simp only [List.length_drop, List.length_take]; rfl)) ?_; (with_reducible refine (utf_fault.calls sv a1 1 t156 _ (Laid.below HSV.out (by repeat (first | (with_reducible first | exact HB.out | apply below_alloc | apply pw_below_drewN | apply below_drew1) | exact HB.out))) A27.out).mono ?_); rintro e w28 ⟨rfl, hE_, hb⟩; have HEA := Aside0.mk hE_; have HEA_t156 := Aside0.mk (ErrAt.errB hE_); clear hE_; refine ⟨_, rfl, ?_⟩; (try (have nE_ := Aside0.mk (ErrB.below (by repeat (first | (with_reducible exact HEA_t148.out) | (with_reducible refine ErrB.alloc ?_ _) | (with_reducible refine ErrB.drewN ?_ _) | (with_reducible refine ErrB.drew ?_) | exact HEA_t148.out)) hb); clear HEA_t148; have HEA_t148 := nE_; clear nE_)); (try (have nE_ := Aside0.mk (ErrB.below (by repeat (first | (with_reducible exact HEA_t153.out) | (with_reducible refine ErrB.alloc ?_ _) | (with_reducible refine ErrB.drewN ?_ _) | (with_reducible refine ErrB.drew ?_) | exact HEA_t153.out)) hb); clear HEA_t153; have HEA_t153 := nE_; clear nE_)); (try (have nE_ := Aside0.mk (ErrB.below (by repeat (first | (with_reducible exact HEA_t154.out) | (with_reducible refine ErrB.alloc ?_ _) | (with_reducible refine ErrB.drewN ?_ _) | (with_reducible refine ErrB.drew ?_) | exact HEA_t154.out)) hb); clear HEA_t154; have HEA_t154 := nE_; clear nE_)); (try (have nE_ := Aside0.mk (ErrB.below (by repeat (first | (with_reducible exact HEA_t155.out) | (with_reducible refine ErrB.alloc ?_ _) | (with_reducible refine ErrB.drewN ?_ _) | (with_reducible refine ErrB.drew ?_) | exact HEA_t155.out)) hb); clear HEA_t155; have HEA_t155 := nE_; clear nE_)); have n0_ := Aside0.mk (below_step (by repeat (first | (with_reducible first | exact HB.out | apply below_alloc | apply pw_below_drewN | apply below_drew1) | exact HB.out)) hb); clear HB; have HB := n0_; have hsg1 := (Laid.below HSV.out HB.out).at1; have hsg2 := (Laid.below HSV.out HB.out).at2; have hsg4 := (Laid.below HSV.out HB.out).at4; clear n0_; (try clear hb); (try clear hb2); (try clear hk); (try clear hi); (try simp only [errV_none, errV_some])))
               go_ret3
               exact ⟨by first | rfl | (simp [errV_none, errV_some] <;> rfl) | (simp only [← hji19]; first | rfl | (simp [errV_none, errV_some] <;> rfl)) | (simp [*, errV_none, errV_some] <;> rfl), (by first | exact trivial | exact HEA.out), by repeat (first | (with_reducible first | exact HB.out | apply below_alloc | apply pw_below_drewN | apply below_drew1) | exact HB.out)⟩
              ·rw [if_neg c26] at H
               have c26b0 : decide (x9_2 < (bt a0 (ji19))) = false := decide_eq_false c26
               clear c26
               have H' := Aside0.mk H
               clear H
               have p22 : 0 ≤ ((ji19) : Int) := of_decide_eq_true (by first | (with_reducible assumption) | assumption)
               have q22 : (ji19) < (a0.size : Int) := of_decide_eq_true (by first | (with_reducible assumption) | assumption)
               have hx22 := bt_at a0 (ji19)
               replace p22 := eq_true p22
               replace q22 := eq_true q22
               go_wp2
               go_roundg k2
               case measure => have := HJ2.out; have := HK2.out; omega
               case rel => exact ⟨(Go.bits .or .i32 (wrap32 (x4_2 * 64)) (wrap32 (Go.bits .and .u8 (bt a0 (ji19)) 63))), (128), (191), (wrap64 (x10_2 + 1)), (by first | rfl | (simp; done) | (simp only [← hji19] <;> (first | rfl | simp)) | (simp [*]; done)), (by first | rfl | (simp; done) | (simp [*]; done)), (by first | rfl | (simp; done) | (simp [*]; done)), (by first | rfl | (simp; done) | (simp [*]; done)), H', ⟨by have := HJ2.out; have := HK2.out; omega⟩, ⟨by repeat (first | (with_reducible first | exact HB.out | apply below_alloc | apply pw_below_drewN | apply below_drew1) | exact HB.out)⟩⟩
            ·rw [if_neg c21] at H
             exact absurd H (by simp)
           ·rw [if_neg c20] at H
            exact absurd H (by simp)
         ·rw [if_neg c15] at H
          have c15b0 : decide (x10_2 ≤ t149) = false := decide_eq_false c15
          clear c15
          simp only [Option.some.injEq, Prod.mk.injEq] at H
          obtain ⟨rfl, rfl, rfl⟩ := H
          go_wp2
          go_ret3
          exact ⟨by first | rfl | (simp [errV_none, errV_some] <;> rfl) | (simp [*, errV_none, errV_some] <;> rfl), (by first | exact trivial | exact HEA.out), by repeat (first | (with_reducible first | exact HB.out | apply below_alloc | apply pw_below_drewN | apply below_drew1) | exact HB.out)⟩
     ·rw [if_neg c9] at H
      exact absurd H (by simp)
    ·rw [if_neg c8] at H
     exact absurd H (by simp)

end Go.Proofs.YtohnahbjmcelfaaDoor.V
