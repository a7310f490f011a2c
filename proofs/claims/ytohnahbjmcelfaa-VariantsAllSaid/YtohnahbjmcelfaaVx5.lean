-- Printed by this session's own turn of the print (wip/mkprint.py), with parts that were proved by hand.
import Derived.Test.YtohnahbjmcelfaaVx0
namespace Go.Proofs.Ytohnahbjmcelfaa.V
open Go.RowKit Go.Proofs.YtohnahbjmcelfaaW.PrintWords Go.Proofs.YtohnahbjmcelfaaW.PrintLast Go.Proofs.YtohnahbjmcelfaaW.PrintMore
attribute [local go_sem] max2_int min2_int max_two min_two max_three min_three max_four min_four   -- for this text's walks alone
set_option linter.unusedVariables false
set_option linter.unusedSimpArgs false

/-! ### eponymlaw19_Great: function 6 -/
mutual
def eponymlaw19_Great.j0 : Nat → Bool → ByteArray → List (List Int) → Option (Bool)
  | 0, _, _, _ => none
  | k + 1, x13, x147000, x147001 => if x13 = true then (some true) else (eponymlaw19_Great.l0 k 0 x147000 x147001)
def eponymlaw19_Great.l0 : Nat → Int → ByteArray → List (List Int) → Option (Bool)
  | 0, _, _, _ => none
  | k + 1, x3, x147000, x147001 => if x3 < (x147001.length : Int) then (if 0 ≤ x3 then (if ((rd_L1 x147001 x3).length : Int) > 20 then (some true) else (eponymlaw19_Great.l0 k (wrap64 (x3 + 1)) x147000 x147001)) else (none)) else (some false)
end
def eponymlaw19_Great.f (k : Nat) (a0_0 : ByteArray) (l0_1 : List (List Int)) : Option (Bool) := if (l0_1.length : Int) > 20 then (eponymlaw19_Great.j0 k true a0_0 l0_1) else (eponymlaw19_Great.j0 k (decide ((a0_0.size : Int) > 100)) a0_0 l0_1)
theorem eponymlaw19_Great.mono_l : ∀ k, (∀ y0 y1 y2, LeO (eponymlaw19_Great.j0 k y0 y1 y2) (eponymlaw19_Great.j0 (k + 1) y0 y1 y2)) ∧ (∀ y0 y1 y2, LeO (eponymlaw19_Great.l0 k y0 y1 y2) (eponymlaw19_Great.l0 (k + 1) y0 y1 y2))
  | 0 => ⟨fun _ _ _ r h => by simp [eponymlaw19_Great.j0] at h, fun _ _ _ r h => by simp [eponymlaw19_Great.l0] at h⟩
  | k + 1 => by
    obtain ⟨ih0, ih1⟩ := eponymlaw19_Great.mono_l k
    refine ⟨?_, ?_⟩
    · intro y0 y1 y2
      unfold eponymlaw19_Great.j0
      repeat' first
      | (with_reducible exact ih0 _ _ _)
      | (with_reducible exact ih1 _ _ _)
      | (with_reducible exact LeO.refl _)
      | (with_reducible exact LeO.none _)
      | (with_reducible refine LeO.ite ?_ ?_)
      | (with_reducible refine LeO.bind ?_ (fun _ => ?_))
      | exact ih0 _ _ _
      | exact ih1 _ _ _
      | exact LeO.none _
      | refine LeO.ite ?_ ?_
      | refine LeO.bind ?_ (fun _ => ?_)
    · intro y0 y1 y2
      unfold eponymlaw19_Great.l0
      repeat' first
      | (with_reducible exact ih0 _ _ _)
      | (with_reducible exact ih1 _ _ _)
      | (with_reducible exact LeO.refl _)
      | (with_reducible exact LeO.none _)
      | (with_reducible refine LeO.ite ?_ ?_)
      | (with_reducible refine LeO.bind ?_ (fun _ => ?_))
      | exact ih0 _ _ _
      | exact ih1 _ _ _
      | exact LeO.none _
      | refine LeO.ite ?_ ?_
      | refine LeO.bind ?_ (fun _ => ?_)
theorem eponymlaw19_Great.mono : ∀ a0 a1 k, LeO (eponymlaw19_Great.f k a0 a1) (eponymlaw19_Great.f (k + 1) a0 a1) := by
  intro a0 a1 k
  obtain ⟨ih0, ih1⟩ := eponymlaw19_Great.mono_l k
  unfold eponymlaw19_Great.f
  repeat' first
      | (with_reducible exact ih0 _ _ _)
      | (with_reducible exact ih1 _ _ _)
      | (with_reducible exact LeO.refl _)
      | (with_reducible exact LeO.none _)
      | (with_reducible refine LeO.ite ?_ ?_)
      | (with_reducible refine LeO.bind ?_ (fun _ => ?_))
      | exact ih0 _ _ _
      | exact ih1 _ _ _
      | exact LeO.none _
      | refine LeO.ite ?_ ?_
      | refine LeO.bind ?_ (fun _ => ?_)
set_option maxHeartbeats 8000000 in
set_option maxRecDepth 100000 in
theorem eponymlaw19_Great.calls (k : Nat) (a0_0 : ByteArray) (A0_1 : Option Addr) (c0_1 : Nat) (l0_1 : List (List Int)) (r : Bool) (w : World) (hr0_1 : Kd.C (Kd.slice 21 (Kd.int .i32)) w A0_1 l0_1.length l0_1) (hc0_1 : l0_1.length ≤ c0_1) (h : eponymlaw19_Great.f k a0_0 l0_1 = some r) :
    Calls Try.prog 6 #[.agg #[.string a0_0, .slice A0_1 l0_1.length c0_1]] w fun e w' => e = .returned (.bool r) ∧ Below w.heap.size w w' := by
  have hu24 := Try.underlying24
  have HR0_1 := Aside0.mk hr0_1
  have HC0_1 := Aside0.mk hc0_1
  clear hr0_1 hc0_1
  have HB := Aside0.mk (Below.refl w.heap.size w)
  have H : (if (l0_1.length : Int) > 20 then (eponymlaw19_Great.j0 k true a0_0 l0_1) else (eponymlaw19_Great.j0 k (decide ((a0_0.size : Int) > 100)) a0_0 l0_1)) = some r := h
  clear h
  have HC2 := Aside0.mk H
  clear H
  go_enter Try.func6, Try.ntmps6
  go_upto_region 1 with (first | ((with_reducible refine gate_dst (N := 1) rfl ?_); (try (refine gate_guard (by rfl) ?_; dsimp only)); refine box_event ?hg (N := 1) ?hd (cs := #[.string a0_0, .slice A0_1 l0_1.length c0_1]) (t := 24) ?hr ?_; (case hd => rfl); (case hg => rfl); (case hr => first | (go_simp; done) | (go_simp; rfl)); intro gb146 hg w3 hbox hb; have n0_ := Aside0.mk (below_step (by repeat (first | (with_reducible first | exact HB.out | apply below_alloc | apply pw_below_drewN | apply below_drew1) | exact HB.out)) hb); have n1_ := Aside0.mk (hbox); have n2_ := Aside0.mk ((by rw [hg]; exact (below_size (by repeat (first | (with_reducible first | exact HB.out | apply below_alloc | apply pw_below_drewN | apply below_drew1) | exact HB.out))) : w.heap.size ≤ gb146)); have n3_ := Aside0.mk ((by rw [hg]; exact (below_size (by repeat (first | (with_reducible first | exact HB.out | apply below_alloc | apply pw_below_drewN | apply below_drew1) | exact HB.out))) : w.heap.size ≤ gb146)); clear HB; have HB := n0_; have BK146 := n1_; have GW146 := n2_; have GE146 := n3_; clear n0_ n1_ n2_ n3_; clear hb hbox hg))
  (try simp only [Act.put, List.setIfInBounds_toArray, List.set_cons_zero, List.set_cons_succ])
  go_cut [13] (fun v13 wc => ∃ (kq : Nat) (x13_1 : Bool), v13 = .bool x13_1 ∧ Aside0 (eponymlaw19_Great.j0 kq x13_1 a0_0 l0_1 = some r) ∧ Aside0 (kq ≤ k) ∧ Aside0 (wc.heap[gb146]? = some (.cells #[.string a0_0, (.slice A0_1 l0_1.length c0_1)] 24 (0, 0))) ∧ Aside0 (Below w.heap.size w wc))
  case first =>
    have H := HC2.out
    clear HC2
    by_cases c4 : (l0_1.length : Int) > 20
    · rw [if_pos c4] at H
      have c4b0 : decide (20 < (l0_1.length : Int)) = true := decide_eq_true c4
      have c4b1 : decide (20 < l0_1.length) = true := decide_eq_true (by omega)
      clear c4
      (first | rw [c4b0] | (simp only [i64_w, i32_w]; rw [c4b0]) | skip)
      have H' := Aside0.mk H
      clear H
      have hcz5_0 : w3.cell? ⟨gb146, 0, none⟩ = some (.string a0_0) := (blk_cell BK146.out 0).trans rfl
      have hcz5_1 : w3.cell? ⟨gb146, 1, none⟩ = some (.slice A0_1 l0_1.length c0_1) := (blk_cell BK146.out 1).trans rfl
      have hfz5_0 := blk_frozen BK146.out 0
      have hfz5_1 := blk_frozen BK146.out 1
      go_wp2
      go_meet
      case rel => exact ⟨_, (true), (by first | rfl | (simp; done) | (simp [*]; done)), H', ⟨by first | omega | exact Nat.le_refl _⟩, ⟨by (with_reducible repeat (first | refine blk_drewN ?_ _ | refine blk_drew ?_ | refine blk_alloc ?_ _)); exact BK146.out⟩, ⟨by repeat (first | (with_reducible first | exact HB.out | apply below_alloc | apply pw_below_drewN | apply below_drew1 | refine below_set ?_ GE146.out) | exact HB.out)⟩⟩
    · rw [if_neg c4] at H
      have c4b0 : decide (20 < (l0_1.length : Int)) = false := decide_eq_false c4
      have c4b1 : decide (20 < l0_1.length) = false := decide_eq_false (by omega)
      clear c4
      (first | rw [c4b0] | (simp only [i64_w, i32_w]; rw [c4b0]) | skip)
      have H' := Aside0.mk H
      clear H
      have hcz6_0 : w3.cell? ⟨gb146, 0, none⟩ = some (.string a0_0) := (blk_cell BK146.out 0).trans rfl
      have hcz6_1 : w3.cell? ⟨gb146, 1, none⟩ = some (.slice A0_1 l0_1.length c0_1) := (blk_cell BK146.out 1).trans rfl
      have hfz6_0 := blk_frozen BK146.out 0
      have hfz6_1 := blk_frozen BK146.out 1
      go_wp2
      go_meet
      case rel => exact ⟨_, (decide ((a0_0.size : Int) > 100)), (by first | rfl | (simp; done) | (simp [*]; done)), H', ⟨by first | omega | exact Nat.le_refl _⟩, ⟨by (with_reducible repeat (first | refine blk_drewN ?_ _ | refine blk_drew ?_ | refine blk_alloc ?_ _)); exact BK146.out⟩, ⟨by repeat (first | (with_reducible first | exact HB.out | apply below_alloc | apply pw_below_drewN | apply below_drew1 | refine below_set ?_ GE146.out) | exact HB.out)⟩⟩
  case rest =>
    clear HC2
    try clear p2
    try clear c4
    try clear c4b0
    try clear c4b1
    try clear c6
    try clear hcz5_0
    try clear hcz5_1
    try clear hcz6_0
    try clear hcz6_1
    try clear hfz5_0
    try clear hfz5_1
    try clear hfz6_0
    try clear hfz6_1
    obtain ⟨kq, x13_1, rfl, HA, HJ1, BK146, HB⟩ := hcut
    cases kq with
    | zero => exact absurd HA.out (by simp [eponymlaw19_Great.j0])
    | succ kj1 =>
      have H := HA.out
      clear HA
      simp only [eponymlaw19_Great.j0] at H
      by_cases c7 : x13_1 = true
      · subst c7
        have H1 : (some true) = some r := by rw [if_pos rfl] at H; exact H
        clear H
        have H := H1
        clear H1
        obtain rfl := Option.some.inj H
        go_wp2
        go_ret
        exact ⟨by first | rfl | (simp [errW_none, errW_some] <;> rfl) | (simp [*, errW_none, errW_some] <;> rfl), by repeat (first | (with_reducible first | exact HB.out | apply below_alloc | apply pw_below_drewN | apply below_drew1 | refine below_set ?_ GE146.out) | exact HB.out)⟩
      · replace c7 := Bool.eq_false_iff.mpr c7
        subst c7
        have H1 : (eponymlaw19_Great.l0 kj1 0 a0_0 l0_1) = some r := by rw [if_neg (show ¬ (false = true) by decide)] at H; exact H
        clear H
        have H := H1
        clear H1
        have H' := Aside0.mk H
        clear H
        go_wp2
        go_loopg [3] kj1 (fun kq v3 w' => ∃ (x3_2 : Int), v3 = .int .i64 x3_2 ∧ Aside0 (eponymlaw19_Great.l0 kq x3_2 a0_0 l0_1 = some r) ∧ Aside0 (kq ≤ kj1) ∧ Aside0 (w'.heap[gb146]? = some (.cells #[.string a0_0, (.slice A0_1 l0_1.length c0_1)] 24 (0, 0))) ∧ Aside0 (Below w.heap.size w w'))
        case atStart => exact ⟨(0), (by first | rfl | (simp; done) | (simp [*]; done)), H', ⟨Nat.le_refl _⟩, ⟨by (with_reducible repeat (first | refine blk_drewN ?_ _ | refine blk_drew ?_ | refine blk_alloc ?_ _)); exact BK146.out⟩, ⟨by repeat (first | (with_reducible first | exact HB.out | apply below_alloc | apply pw_below_drewN | apply below_drew1 | refine below_set ?_ GE146.out) | exact HB.out)⟩⟩
        case round =>
          clear H'
          try clear p2
          try clear c4
          try clear c4b0
          try clear c4b1
          try clear c6
          try clear c7
          try clear hcz5_0
          try clear hcz5_1
          try clear hcz6_0
          try clear hcz6_1
          try clear hfz5_0
          try clear hfz5_1
          try clear hfz6_0
          try clear hfz6_1
          try clear p2
          obtain ⟨x3_2, rfl, HA, HK2, BK146, HB⟩ := hrel
          cases gk with
          | zero => exact absurd HA.out (by simp [eponymlaw19_Great.l0])
          | succ k2 =>
            have H := HA.out
            clear HA
            simp only [eponymlaw19_Great.l0] at H
            by_cases c8 : x3_2 < (l0_1.length : Int)
            · rw [if_pos c8] at H
              have c8b0 : decide (x3_2 < (l0_1.length : Int)) = true := decide_eq_true c8
              clear c8
              by_cases c9 : 0 ≤ x3_2
              · rw [if_pos c9] at H
                have c9b0 : decide (0 ≤ x3_2) = true := decide_eq_true c9
                clear c9
                by_cases c10 : ((rd_L1 l0_1 x3_2).length : Int) > 20
                · rw [if_pos c10] at H
                  have c10b0 : decide (20 < ((rd_L1 l0_1 x3_2).length : Int)) = true := decide_eq_true c10
                  have c10b1 : decide (20 < (rd_L1 l0_1 x3_2).length) = true := decide_eq_true (by omega)
                  clear c10
                  obtain rfl := Option.some.inj H
                  have hcz11_0 : wr.cell? ⟨gb146, 0, none⟩ = some (.string a0_0) := (blk_cell BK146.out 0).trans rfl
                  have hcz11_1 : wr.cell? ⟨gb146, 1, none⟩ = some (.slice A0_1 l0_1.length c0_1) := (blk_cell BK146.out 1).trans rfl
                  have hfz11_0 := blk_frozen BK146.out 0
                  have hfz11_1 := blk_frozen BK146.out 1
                  have p147 : 0 ≤ (x3_2 : Int) := of_decide_eq_true (by first | (with_reducible assumption) | assumption)
                  have q147 : x3_2 < (l0_1.length : Int) := of_decide_eq_true (by first | (with_reducible assumption) | assumption)
                  obtain ⟨ad147, A147_0, c147_0, e147, hx147_0, hl147_0, hi147_0⟩ := at_L1 HR0_1.out x3_2 p147 q147
                  cases e147
                  replace hx147_0 := (HB.out.cell (World.block_lt_of_cell? w _ hx147_0)).trans hx147_0
                  have HR147_0 := Aside0.mk hi147_0
                  have HC147_0 := Aside0.mk hl147_0
                  clear hi147_0 hl147_0
                  replace p147 := eq_true p147
                  replace q147 := eq_true q147
                  go_wp2
                  go_ret
                  exact ⟨by first | rfl | (simp [errW_none, errW_some] <;> rfl) | (simp [*, errW_none, errW_some] <;> rfl), by repeat (first | (with_reducible first | exact HB.out | apply below_alloc | apply pw_below_drewN | apply below_drew1 | refine below_set ?_ GE146.out) | exact HB.out)⟩
                · rw [if_neg c10] at H
                  have c10b0 : decide (20 < ((rd_L1 l0_1 x3_2).length : Int)) = false := decide_eq_false c10
                  have c10b1 : decide (20 < (rd_L1 l0_1 x3_2).length) = false := decide_eq_false (by omega)
                  clear c10
                  have H' := Aside0.mk H
                  clear H
                  have hcz12_0 : wr.cell? ⟨gb146, 0, none⟩ = some (.string a0_0) := (blk_cell BK146.out 0).trans rfl
                  have hcz12_1 : wr.cell? ⟨gb146, 1, none⟩ = some (.slice A0_1 l0_1.length c0_1) := (blk_cell BK146.out 1).trans rfl
                  have hfz12_0 := blk_frozen BK146.out 0
                  have hfz12_1 := blk_frozen BK146.out 1
                  have p147 : 0 ≤ (x3_2 : Int) := of_decide_eq_true (by first | (with_reducible assumption) | assumption)
                  have q147 : x3_2 < (l0_1.length : Int) := of_decide_eq_true (by first | (with_reducible assumption) | assumption)
                  obtain ⟨ad147, A147_0, c147_0, e147, hx147_0, hl147_0, hi147_0⟩ := at_L1 HR0_1.out x3_2 p147 q147
                  cases e147
                  replace hx147_0 := (HB.out.cell (World.block_lt_of_cell? w _ hx147_0)).trans hx147_0
                  have HR147_0 := Aside0.mk hi147_0
                  have HC147_0 := Aside0.mk hl147_0
                  clear hi147_0 hl147_0
                  replace p147 := eq_true p147
                  replace q147 := eq_true q147
                  go_wp2
                  go_roundg k2
                  case measure => have := HJ1.out; have := HK2.out; omega
                  case rel => exact ⟨(wrap64 (x3_2 + 1)), (by first | rfl | (simp; done) | (simp [*]; done)), H', ⟨by have := HJ1.out; have := HK2.out; omega⟩, ⟨by (with_reducible repeat (first | refine blk_drewN ?_ _ | refine blk_drew ?_ | refine blk_alloc ?_ _)); exact BK146.out⟩, ⟨by repeat (first | (with_reducible first | exact HB.out | apply below_alloc | apply pw_below_drewN | apply below_drew1 | refine below_set ?_ GE146.out) | exact HB.out)⟩⟩
              · rw [if_neg c9] at H
                exact absurd H (by simp)
            · rw [if_neg c8] at H
              have c8b0 : decide (x3_2 < (l0_1.length : Int)) = false := decide_eq_false c8
              clear c8
              obtain rfl := Option.some.inj H
              have hcz13_0 : wr.cell? ⟨gb146, 0, none⟩ = some (.string a0_0) := (blk_cell BK146.out 0).trans rfl
              have hcz13_1 : wr.cell? ⟨gb146, 1, none⟩ = some (.slice A0_1 l0_1.length c0_1) := (blk_cell BK146.out 1).trans rfl
              have hfz13_0 := blk_frozen BK146.out 0
              have hfz13_1 := blk_frozen BK146.out 1
              go_wp2
              go_ret
              exact ⟨by first | rfl | (simp [errW_none, errW_some] <;> rfl) | (simp [*, errW_none, errW_some] <;> rfl), by repeat (first | (with_reducible first | exact HB.out | apply below_alloc | apply pw_below_drewN | apply below_drew1 | refine below_set ?_ GE146.out) | exact HB.out)⟩

/-! ### eponymref19_in: function 23 -/
def eponymref19_in.l0 : Nat → List Int → Int → Int → Option (Bool)
  | 0, _, _, _ => none
  | k + 1, x0, x1, x5 => if x5 < (x0.length : Int) then (if 0 ≤ x5 then (if (rd x0 x5) = x1 then (some true) else (eponymref19_in.l0 k x0 x1 (wrap64 (x5 + 1)))) else (none)) else (some false)
def eponymref19_in.f (k : Nat) (l0 : List Int) (a1 : Int) : Option (Bool) := eponymref19_in.l0 k l0 a1 0
theorem eponymref19_in.mono_l : ∀ k, (∀ y0 y1 y2, LeO (eponymref19_in.l0 k y0 y1 y2) (eponymref19_in.l0 (k + 1) y0 y1 y2))
  | 0 => fun _ _ _ r h => by simp [eponymref19_in.l0] at h
  | k + 1 => by
    have ih0 := eponymref19_in.mono_l k
    · intro y0 y1 y2
      unfold eponymref19_in.l0
      repeat' first
      | (with_reducible exact ih0 _ _ _)
      | (with_reducible exact LeO.refl _)
      | (with_reducible exact LeO.none _)
      | (with_reducible refine LeO.ite ?_ ?_)
      | (with_reducible refine LeO.bind ?_ (fun _ => ?_))
      | exact ih0 _ _ _
      | exact LeO.none _
      | refine LeO.ite ?_ ?_
      | refine LeO.bind ?_ (fun _ => ?_)
theorem eponymref19_in.mono : ∀ a0 a1 k, LeO (eponymref19_in.f k a0 a1) (eponymref19_in.f (k + 1) a0 a1) := by
  intro a0 a1 k
  have ih0 := eponymref19_in.mono_l k
  unfold eponymref19_in.f
  repeat' first
      | (with_reducible exact ih0 _ _ _)
      | (with_reducible exact LeO.refl _)
      | (with_reducible exact LeO.none _)
      | (with_reducible refine LeO.ite ?_ ?_)
      | (with_reducible refine LeO.bind ?_ (fun _ => ?_))
      | exact ih0 _ _ _
      | exact LeO.none _
      | refine LeO.ite ?_ ?_
      | refine LeO.bind ?_ (fun _ => ?_)
set_option maxHeartbeats 8000000 in
set_option maxRecDepth 100000 in
theorem eponymref19_in.calls (k : Nat) (A0 : Option Addr) (c0 : Nat) (l0 : List Int) (a1 : Int) (r : Bool) (w : World) (hr0 : Kd.C (Kd.int .i32) w A0 l0.length l0) (hc0 : l0.length ≤ c0) (h : eponymref19_in.f k l0 a1 = some r) :
    Calls Try.prog 23 #[.slice A0 l0.length c0, .int .i32 a1] w fun e w' => e = .returned (.bool r) ∧ Drawn0 w w' := by
  have HR0 := Aside0.mk hr0
  have HC0 := Aside0.mk hc0
  clear hr0 hc0
  have H : (eponymref19_in.l0 k l0 a1 0) = some r := h
  clear h
  have H' := Aside0.mk H
  clear H
  go_enter Try.func23, Try.ntmps23
  go_wp2
  go_loopg [5] k (fun kq v5 w' => ∃ (x5_1 : Int), v5 = .int .i64 x5_1 ∧ Aside0 (eponymref19_in.l0 kq l0 a1 x5_1 = some r) ∧ Aside0 (kq ≤ k) ∧ Drawn0 w w')
  case atStart => exact ⟨(0), (by first | rfl | (simp; done) | (simp [*]; done)), H', ⟨Nat.le_refl _⟩, by repeat (first | exact Drawn0.refl _ | apply Drawn0.step)⟩
  case round =>
    clear H'
    try clear c2
    try clear p2
    obtain ⟨x5_1, rfl, HA, HK1, ⟨m1, rfl⟩⟩ := hrel
    cases gk with
    | zero => exact absurd HA.out (by simp [eponymref19_in.l0])
    | succ k1 =>
      have H := HA.out
      clear HA
      simp only [eponymref19_in.l0] at H
      by_cases c3 : x5_1 < (l0.length : Int)
      · rw [if_pos c3] at H
        have c3b0 : decide (x5_1 < (l0.length : Int)) = true := decide_eq_true c3
        clear c3
        by_cases c4 : 0 ≤ x5_1
        · rw [if_pos c4] at H
          have c4b0 : decide (0 ≤ x5_1) = true := decide_eq_true c4
          clear c4
          by_cases c5 : (rd l0 x5_1) = a1
          · rw [if_pos c5] at H
            have c5b0 : ((rd l0 x5_1) == a1) = true := beq_iff_eq.mpr c5
            have c5b1 : ((rd l0 x5_1) != a1) = false := bne_eq_false_iff_eq.mpr c5
            clear c5
            obtain rfl := Option.some.inj H
            have p148 : 0 ≤ (x5_1 : Int) := of_decide_eq_true (by first | (with_reducible assumption) | assumption)
            have q148 : x5_1 < (l0.length : Int) := of_decide_eq_true (by first | (with_reducible assumption) | assumption)
            obtain ⟨ad148, e148, hx148_0⟩ := Kd.at_int HR0.out x5_1 p148 q148
            cases e148
            replace p148 := eq_true p148
            replace q148 := eq_true q148
            go_wp2
            go_ret
            exact ⟨by first | rfl | (simp; done) | (simp [*]; done), by repeat (first | exact Drawn0.refl _ | apply Drawn0.step)⟩
          · rw [if_neg c5] at H
            have c5b0 : ((rd l0 x5_1) == a1) = false := beq_eq_false_iff_ne.mpr c5
            have c5b1 : ((rd l0 x5_1) != a1) = true := bne_iff_ne.mpr c5
            have H' := Aside0.mk H
            clear H
            have p148 : 0 ≤ (x5_1 : Int) := of_decide_eq_true (by first | (with_reducible assumption) | assumption)
            have q148 : x5_1 < (l0.length : Int) := of_decide_eq_true (by first | (with_reducible assumption) | assumption)
            obtain ⟨ad148, e148, hx148_0⟩ := Kd.at_int HR0.out x5_1 p148 q148
            cases e148
            replace p148 := eq_true p148
            replace q148 := eq_true q148
            go_wp2
            go_roundg k1
            case measure => have := HK1.out; omega
            case rel => exact ⟨(wrap64 (x5_1 + 1)), (by first | rfl | (simp; done) | (simp [*]; done)), H', ⟨by have := HK1.out; omega⟩, by repeat (first | exact Drawn0.refl _ | apply Drawn0.step)⟩
        · rw [if_neg c4] at H
          exact absurd H (by simp)
      · rw [if_neg c3] at H
        have c3b0 : decide (x5_1 < (l0.length : Int)) = false := decide_eq_false c3
        clear c3
        obtain rfl := Option.some.inj H
        go_wp2
        go_ret
        exact ⟨by first | rfl | (simp; done) | (simp [*]; done), by repeat (first | exact Drawn0.refl _ | apply Drawn0.step)⟩

/-! ### eponymref01_Right: function 26 -/
def eponymref01_Right.f (a0 : Int) : Option (Bool) := if a0 ≥ 0 then (if a0 ≤ 1114111 then (if a0 ≥ 55296 then (some (!(decide (a0 ≤ 57343)))) else (some (!false))) else (some false)) else (some false)
set_option maxHeartbeats 8000000 in
set_option maxRecDepth 100000 in
theorem eponymref01_Right.calls (a0 : Int) (r : Bool) (w : World) (h : eponymref01_Right.f a0 = some r) :
    Calls Try.prog 26 #[.int .i32 a0] w fun e w' => e = .returned (.bool r) ∧ Drawn0 w w' := by
  have H : (if a0 ≥ 0 then (if a0 ≤ 1114111 then (if a0 ≥ 55296 then (some (!(decide (a0 ≤ 57343)))) else (some (!false))) else (some false)) else (some false)) = some r := h
  clear h
  by_cases c2 : a0 ≥ 0
  · rw [if_pos c2] at H
    have c2b0 : decide (0 ≤ a0) = true := decide_eq_true c2
    clear c2
    by_cases c3 : a0 ≤ 1114111
    · rw [if_pos c3] at H
      have c3b0 : decide (a0 ≤ 1114111) = true := decide_eq_true c3
      clear c3
      by_cases c4 : a0 ≥ 55296
      · rw [if_pos c4] at H
        have c4b0 : decide (55296 ≤ a0) = true := decide_eq_true c4
        clear c4
        obtain rfl := Option.some.inj H
        go_enter Try.func26, Try.ntmps26
        go_wp2
        go_ret
        exact ⟨by first | rfl | (simp; done) | (simp [*]; done), by repeat (first | exact Drawn0.refl _ | apply Drawn0.step)⟩
      · rw [if_neg c4] at H
        have c4b0 : decide (55296 ≤ a0) = false := decide_eq_false c4
        clear c4
        obtain rfl := Option.some.inj H
        go_enter Try.func26, Try.ntmps26
        go_wp2
        go_ret
        exact ⟨by first | rfl | (simp; done) | (simp [*]; done), by repeat (first | exact Drawn0.refl _ | apply Drawn0.step)⟩
    · rw [if_neg c3] at H
      have c3b0 : decide (a0 ≤ 1114111) = false := decide_eq_false c3
      clear c3
      obtain rfl := Option.some.inj H
      go_enter Try.func26, Try.ntmps26
      go_wp2
      go_ret
      exact ⟨by first | rfl | (simp; done) | (simp [*]; done), by repeat (first | exact Drawn0.refl _ | apply Drawn0.step)⟩
  · rw [if_neg c2] at H
    have c2b0 : decide (0 ≤ a0) = false := decide_eq_false c2
    clear c2
    obtain rfl := Option.some.inj H
    go_enter Try.func26, Try.ntmps26
    go_wp2
    go_ret
    exact ⟨by first | rfl | (simp; done) | (simp [*]; done), by repeat (first | exact Drawn0.refl _ | apply Drawn0.step)⟩

end Go.Proofs.Ytohnahbjmcelfaa.V
