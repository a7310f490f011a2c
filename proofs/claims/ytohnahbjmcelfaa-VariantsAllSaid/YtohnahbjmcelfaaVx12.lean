-- Printed by this session's own turn of the print (wip/mkprint.py), with parts that were proved by hand.
import Derived.Test.YtohnahbjmcelfaaVx0
import Derived.Test.YtohnahbjmcelfaaVx11
namespace Go.Proofs.Ytohnahbjmcelfaa.V
open Go.RowKit Go.Proofs.YtohnahbjmcelfaaW.PrintWords Go.Proofs.YtohnahbjmcelfaaW.PrintLast Go.Proofs.YtohnahbjmcelfaaW.PrintMore
attribute [local go_sem] max2_int min2_int max_two min_two max_three min_three max_four min_four   -- for this text's walks alone
set_option linter.unusedVariables false
set_option linter.unusedSimpArgs false

/-! ### eponymref19_Variant: function 11 -/
def eponymref19_Variant.l0 : Nat → List Int → Int → List Int → Int → ByteArray → List (List Int) → Option (List Int)
  | 0, _, _, _, _, _, _ => none
  | k + 1, x1, x2, x7, x8, x204000, x204001 => if x8 ≥ 0 then (if 0 ≤ x8 then (if x8 < (x1.length : Int) then ((eponymref19_Set.f k x204000 x204001 (rd x1 x8)).bind fun t211 => (if (t211.length : Int) > 0 then (if (t211.length : Int) = 0 then (none) else (if 0 ≤ (Int.tmod x2 (t211.length : Int)) then (if (Int.tmod x2 (t211.length : Int)) < (t211.length : Int) then (if x8 < (x7.length : Int) then (eponymref19_Variant.l0 k x1 (wrap64 (Int.tdiv x2 (t211.length : Int))) (x7.set (x8 : Int).toNat (rd t211 (Int.tmod x2 (t211.length : Int)))) (wrap64 (x8 - 1)) x204000 x204001) else (none)) else (none)) else (none))) else (eponymref19_Variant.l0 k x1 x2 x7 (wrap64 (x8 - 1)) x204000 x204001))) else (none)) else (none)) else (some x7)
def eponymref19_Variant.f (k : Nat) (a0_0 : ByteArray) (l0_1 : List (List Int)) (l1 : List Int) (a2 : Int) : Option (List Int) := (some (([] : List Int) : List Int)).bind fun y204 => (if y204.length + l1.length < 35184372088832 then (eponymref19_Variant.l0 k l1 a2 (y204 ++ l1) (wrap64 ((l1.length : Int) - 1)) a0_0 l0_1) else (none))
theorem eponymref19_Variant.mono_l : ∀ k, (∀ y0 y1 y2 y3 y4 y5, LeO (eponymref19_Variant.l0 k y0 y1 y2 y3 y4 y5) (eponymref19_Variant.l0 (k + 1) y0 y1 y2 y3 y4 y5))
  | 0 => fun _ _ _ _ _ _ r h => by simp [eponymref19_Variant.l0] at h
  | k + 1 => by
    have ih0 := eponymref19_Variant.mono_l k
    · intro y0 y1 y2 y3 y4 y5
      unfold eponymref19_Variant.l0
      repeat' first
      | (with_reducible exact ih0 _ _ _ _ _ _)
      | (with_reducible exact eponymref19_Set.mono _ _ _ _)
      | (with_reducible exact LeO.refl _)
      | (with_reducible exact LeO.none _)
      | (with_reducible refine LeO.ite ?_ ?_)
      | (with_reducible refine LeO.bind ?_ (fun _ => ?_))
      | exact ih0 _ _ _ _ _ _
      | exact eponymref19_Set.mono _ _ _ _
      | exact LeO.none _
      | refine LeO.ite ?_ ?_
      | refine LeO.bind ?_ (fun _ => ?_)
theorem eponymref19_Variant.mono : ∀ a0 a1 a2 a3 k, LeO (eponymref19_Variant.f k a0 a1 a2 a3) (eponymref19_Variant.f (k + 1) a0 a1 a2 a3) := by
  intro a0 a1 a2 a3 k
  have ih0 := eponymref19_Variant.mono_l k
  unfold eponymref19_Variant.f
  repeat' first
      | (with_reducible exact ih0 _ _ _ _ _ _)
      | (with_reducible exact eponymref19_Set.mono _ _ _ _)
      | (with_reducible exact LeO.refl _)
      | (with_reducible exact LeO.none _)
      | (with_reducible refine LeO.ite ?_ ?_)
      | (with_reducible refine LeO.bind ?_ (fun _ => ?_))
      | exact ih0 _ _ _ _ _ _
      | exact eponymref19_Set.mono _ _ _ _
      | exact LeO.none _
      | refine LeO.ite ?_ ?_
      | refine LeO.bind ?_ (fun _ => ?_)
set_option maxHeartbeats 8000000 in
set_option maxRecDepth 100000 in
theorem eponymref19_Variant.calls (k : Nat) (a0_0 : ByteArray) (A0_1 : Option Addr) (c0_1 : Nat) (l0_1 : List (List Int)) (A1 : Option Addr) (c1 : Nat) (l1 : List Int) (a2 : Int) (r : List Int) (w : World) (hr0_1 : Kd.C (Kd.slice 21 (Kd.int .i32)) w A0_1 l0_1.length l0_1) (hc0_1 : l0_1.length ≤ c0_1) (hr1 : Kd.C (Kd.int .i32) w A1 l1.length l1) (hc1 : l1.length ≤ c1) (h : eponymref19_Variant.f k a0_0 l0_1 l1 a2 = some r) :
    Calls Try.prog 11 #[.agg #[.string a0_0, .slice A0_1 l0_1.length c0_1], .slice A1 l1.length c1, .int .i64 a2] w fun e w' => ∃ v0_ : Value, e = .returned (v0_) ∧ Kd.R (Kd.int .i32) 21 w' w.heap.size (fun _ => True) v0_ r ∧ Below w.heap.size w w' := by
  have hu24 := Try.underlying24
  have HR0_1 := Aside0.mk hr0_1
  have HC0_1 := Aside0.mk hc0_1
  clear hr0_1 hc0_1
  have HR1 := Aside0.mk hr1
  have HC1 := Aside0.mk hc1
  clear hr1 hc1
  have HB := Aside0.mk (Below.refl w.heap.size w)
  have H : ((some (([] : List Int) : List Int)).bind fun y204 => (if y204.length + l1.length < 35184372088832 then (eponymref19_Variant.l0 k l1 a2 (y204 ++ l1) (wrap64 ((l1.length : Int) - 1)) a0_0 l0_1) else (none))) = some r := h
  clear h
  obtain ⟨y204, hy204⟩ : ∃ y_ : List Int, y_ = (([] : List Int)) := ⟨_, rfl⟩
  replace H : (if y204.length + l1.length < 35184372088832 then (eponymref19_Variant.l0 k l1 a2 (y204 ++ l1) (wrap64 ((l1.length : Int) - 1)) a0_0 l0_1) else (none)) = some r := by first | (rw [hy204]; with_reducible exact H) | (have H2_ := (Option.bind_some _ _).symm.trans H; rw [hy204]; with_reducible exact H2_) | (have H2_ := (Option.bind_some _ _).symm.trans H; with_reducible exact H2_) | with_reducible exact H | (rw [hy204]; exact H) | exact H
  have Ny204 := Aside0.mk hy204
  clear hy204
  by_cases c4 : y204.length + l1.length < 35184372088832
  · rw [if_pos c4] at H
    have LMc4 := Aside0.mk c4
    clear c4
    obtain ⟨y207, hy207⟩ : ∃ y_ : List Int, y_ = (y204 ++ l1) := ⟨_, rfl⟩
    replace H : (eponymref19_Variant.l0 k l1 a2 y207 (wrap64 ((l1.length : Int) - 1)) a0_0 l0_1) = some r := by first | (rw [hy207]; with_reducible exact H) | (have H2_ := (Option.bind_some _ _).symm.trans H; rw [hy207]; with_reducible exact H2_) | (have H2_ := (Option.bind_some _ _).symm.trans H; with_reducible exact H2_) | with_reducible exact H | (rw [hy207]; exact H) | exact H
    have Ny207 := Aside0.mk hy207
    clear hy207
    have H' := Aside0.mk H
    clear H
    go_enter Try.func11, Try.ntmps11
    go_wp2_with (first | ((with_reducible refine gate_dst (N := 3) rfl ?_); refine box_event ?hg (N := 3) ?hd (cs := #[.string a0_0, .slice A0_1 l0_1.length c0_1]) (t := 24) ?hr ?_; (case hd => rfl); (case hg => rfl); (case hr => first | (go_simp; done) | (go_simp; rfl)); intro gb203 hg w5 hbox hb; have n0_ := Aside0.mk (below_step (by repeat (first | (with_reducible first | exact HB.out | apply below_alloc | apply pw_below_drewN | apply below_drew1) | exact HB.out)) hb); have n1_ := Aside0.mk (hbox); have n2_ := Aside0.mk ((by rw [hg]; exact (below_size (by repeat (first | (with_reducible first | exact HB.out | apply below_alloc | apply pw_below_drewN | apply below_drew1) | exact HB.out))) : w.heap.size ≤ gb203)); have n3_ := Aside0.mk ((by rw [hg]; exact (below_size (by repeat (first | (with_reducible first | exact HB.out | apply below_alloc | apply pw_below_drewN | apply below_drew1) | exact HB.out))) : w.heap.size ≤ gb203)); clear HB; have HB := n0_; have BK203 := n1_; have GW203 := n2_; have GE203 := n3_; clear n0_ n1_ n2_ n3_; clear hb hbox hg) | ((with_reducible refine gate_dst (N := 10) rfl ?_); refine Kd.R_lit (Kd.int .i32) _ 21 ?hg (N := 10) ?hd (xs := ([] : List Int)) (inner := []) (ok := fun _ => True) (okp := fun _ => True) ?hr ?hp (fun _ hk => hk) trivial (Below.refl _ _) (Nat.le_refl _) (by simp) ?_; (case hd => rfl); (case hg => rfl); (case hr => first | (go_simp; done) | (go_simp; rfl)); (case hp => exact (Reps.none _ _)); intro v205 w6 ho7 hb hg_ hnew_; clear hg_ hnew_; (first | rw [← Ny204.out] at ho7 | (simp only [Int.reduceToNat] at ho7; rw [← Ny204.out] at ho7)); have n0_ := Aside0.mk (Kd.R_lower ho7 (below_size (by repeat (first | (with_reducible first | exact HB.out | apply below_alloc | apply pw_below_drewN | apply below_drew1 | refine below_set ?_ GE203.out) | exact HB.out)))); have n1_ := Aside0.mk (blk_below (g := gb203) (o := .cells #[.string a0_0, .slice A0_1 l0_1.length c0_1] 24 (0, 0)) (by (with_reducible repeat (first | refine blk_drewN ?_ _ | refine blk_drew ?_ | refine blk_alloc ?_ _)); exact BK203.out) hb); have n2_ := Aside0.mk (below_step (by repeat (first | (with_reducible first | exact HB.out | apply below_alloc | apply pw_below_drewN | apply below_drew1 | refine below_set ?_ GE203.out) | exact HB.out)) hb); clear BK203; clear HB; have HO206 := n0_; have BK203 := n1_; have HB := n2_; clear n0_ n1_ n2_; clear hb ho7) | ((with_reducible refine gate_builtin (b := .append) (xs := #[.tmp 10, .tmp 11]) rfl ?_); at_builtin; refine Kd.R_append_rows (Kd.int .i32) (w0 := w) w.heap.size rfl (.tmp 10) (.tmp 11) 25 21 (.int .i32 0) 4 rfl Try.underlying25 info21 rfl (by decide) (by omega) v205 y204 l1 _ _ _ (fun _ => True) (fun _ => False) rfl rfl ?aO ?aR (fun _ _ h => h) (fun _ h => h.elim) ?aF ?aB ?aS ?aL ?_; (case aR => repeat (first | exact (Kd.C_below HR1.out HB.out) | (with_reducible refine Kd.C_alloc ?_ _) | (with_reducible refine Kd.C_drewN ?_ _) | (with_reducible refine Kd.C_drew ?_))); (case aB => exact (by repeat (first | (with_reducible first | exact HB.out | apply below_alloc | apply pw_below_drewN | apply below_drew1 | refine below_set ?_ GE203.out) | exact HB.out))); (case aF => exact (fun _ _ => trivial)); (case aO => exact (by (with_reducible repeat (first | apply Kd.R_alloc | apply Kd.R_drewN | apply Kd.R_drew)); exact HO206.out)); (case aS => exact (below_size (by repeat (first | (with_reducible first | exact HB.out | apply below_alloc | apply pw_below_drewN | apply below_drew1 | refine below_set ?_ GE203.out) | exact HB.out)))); (case aL => have := LMc4.out; omega); intro v208 w8 ho hb hg hat; rw [← Ny207.out] at ho; have n0_ := Aside0.mk (blk_grown (g := gb203) (o := .cells #[.string a0_0, .slice A0_1 l0_1.length c0_1] 24 (0, 0)) (by (with_reducible repeat (first | refine blk_drewN ?_ _ | refine blk_drew ?_ | refine blk_alloc ?_ _)); exact BK203.out) hg (Kd.R_ne HO206.out BK203.out (by decide))); have n1_ := Aside0.mk (hb); have n2_ := Aside0.mk (ho); clear BK203; clear HB; clear HO206; have BK203 := n0_; have HB := n1_; have HO209 := n2_; clear n0_ n1_ n2_; clear ho hb hg hat))
    go_loopg [2, 8] k (fun kq v2 v8 w' => ∃ (x2_1 : Int) (x7_1 : List Int) (x8_1 : Int), v2 = .int .i64 x2_1 ∧ v8 = .int .i64 x8_1 ∧ Aside0 (eponymref19_Variant.l0 kq l1 x2_1 x7_1 x8_1 a0_0 l0_1 = some r) ∧ Aside0 (kq ≤ k) ∧ Aside0 (Kd.R (Kd.int .i32) 21 w' w.heap.size (fun _ => True) v208 x7_1) ∧ Aside0 (w'.heap[gb203]? = some (.cells #[.string a0_0, (.slice A0_1 l0_1.length c0_1)] 24 (0, 0))) ∧ Aside0 (Below w.heap.size w w'))
    case atStart => exact ⟨(a2), (y207), (wrap64 ((l1.length : Int) - 1)), (by first | rfl | (simp; done) | (simp [*]; done)), (by first | rfl | (simp; done) | (simp [*]; done)), H', ⟨Nat.le_refl _⟩, ⟨by (with_reducible repeat (first | apply Kd.R_alloc | apply Kd.R_drewN | apply Kd.R_drew)); exact HO209.out⟩, ⟨by (with_reducible repeat (first | refine blk_drewN ?_ _ | refine blk_drew ?_ | refine blk_alloc ?_ _)); exact BK203.out⟩, ⟨by repeat (first | (with_reducible first | exact HB.out | apply below_alloc | apply pw_below_drewN | apply below_drew1 | refine below_set ?_ GE203.out) | exact HB.out)⟩⟩
    case round =>
      clear H'
      try clear c1
      try clear p2
      try clear c4
      try clear p6
      obtain ⟨x2_1, x7_1, x8_1, rfl, rfl, HA, HK1, HO_7, BK203, HB⟩ := hrel
      cases gk with
      | zero => exact absurd HA.out (by simp [eponymref19_Variant.l0])
      | succ k1 =>
        have H := HA.out
        clear HA
        simp only [eponymref19_Variant.l0] at H
        by_cases c9 : x8_1 ≥ 0
        · rw [if_pos c9] at H
          have c9b0 : decide (0 ≤ x8_1) = true := decide_eq_true c9
          clear c9
          by_cases c10 : 0 ≤ x8_1
          · rw [if_pos c10] at H
            have c10b0 : decide (0 ≤ x8_1) = true := decide_eq_true c10
            clear c10
            by_cases c11 : x8_1 < (l1.length : Int)
            · rw [if_pos c11] at H
              have c11b0 : decide (x8_1 < (l1.length : Int)) = true := decide_eq_true c11
              clear c11
              replace H := Option.bind_eq_some_iff.mp H
              obtain ⟨t211, A120, H⟩ := H
              replace H : (if (t211.length : Int) > 0 then (if (t211.length : Int) = 0 then (none) else (if 0 ≤ (Int.tmod x2_1 (t211.length : Int)) then (if (Int.tmod x2_1 (t211.length : Int)) < (t211.length : Int) then (if x8_1 < (x7_1.length : Int) then (eponymref19_Variant.l0 k1 l1 (wrap64 (Int.tdiv x2_1 (t211.length : Int))) (x7_1.set (x8_1 : Int).toNat (rd t211 (Int.tmod x2_1 (t211.length : Int)))) (wrap64 (x8_1 - 1)) a0_0 l0_1) else (none)) else (none)) else (none))) else (eponymref19_Variant.l0 k1 l1 x2_1 x7_1 (wrap64 (x8_1 - 1)) a0_0 l0_1)) = some r := H
              have A12 := Aside0.mk A120
              clear A120
              by_cases c13 : (t211.length : Int) > 0
              · rw [if_pos c13] at H
                have c13b0 : decide (0 < (t211.length : Int)) = true := decide_eq_true c13
                have c13b1 : decide (0 < t211.length) = true := decide_eq_true (by omega)
                clear c13
                by_cases c14 : (t211.length : Int) = 0
                · rw [if_pos c14] at H
                  exact absurd H (by simp)
                · rw [if_neg c14] at H
                  have c14b0 : ((t211.length : Int) == 0) = false := beq_eq_false_iff_ne.mpr c14
                  have c14b1 : ((t211.length : Int) != 0) = true := bne_iff_ne.mpr c14
                  have c14b2 : ¬ (t211 = []) := fun h_ => c14 (by rw [h_]; rfl)
                  obtain ⟨ji15, hji15⟩ : ∃ j_ : Int, (Int.tmod x2_1 (t211.length : Int)) = j_ := ⟨_, rfl⟩
                  replace H : (if 0 ≤ (ji15) then (if (ji15) < (t211.length : Int) then (if x8_1 < (x7_1.length : Int) then (eponymref19_Variant.l0 k1 l1 (wrap64 (Int.tdiv x2_1 (t211.length : Int))) (x7_1.set (x8_1 : Int).toNat (rd t211 (ji15))) (wrap64 (x8_1 - 1)) a0_0 l0_1) else (none)) else (none)) else (none)) = some r := by first | (rw [hji15] at H; exact H) | (simp only [hji15] at H ⊢; exact H)
                  (try rw [hji15] at A12)
                  by_cases c16 : 0 ≤ (ji15)
                  · rw [if_pos c16] at H
                    have c16b0 : decide (0 ≤ (ji15)) = true := decide_eq_true c16
                    clear c16
                    by_cases c17 : (ji15) < (t211.length : Int)
                    · rw [if_pos c17] at H
                      have c17b0 : decide ((ji15) < (t211.length : Int)) = true := decide_eq_true c17
                      clear c17
                      by_cases c18 : x8_1 < (x7_1.length : Int)
                      · rw [if_pos c18] at H
                        have c18b0 : decide (x8_1 < (x7_1.length : Int)) = true := decide_eq_true c18
                        clear c18
                        obtain ⟨y215, hy215⟩ : ∃ y_ : List Int, y_ = (x7_1.set (x8_1 : Int).toNat (rd t211 (ji15))) := ⟨_, rfl⟩
                        replace H : (eponymref19_Variant.l0 k1 l1 (wrap64 (Int.tdiv x2_1 (t211.length : Int))) y215 (wrap64 (x8_1 - 1)) a0_0 l0_1) = some r := by first | (rw [hy215]; with_reducible exact H) | (have H2_ := (Option.bind_some _ _).symm.trans H; rw [hy215]; with_reducible exact H2_) | (have H2_ := (Option.bind_some _ _).symm.trans H; with_reducible exact H2_) | with_reducible exact H | (rw [hy215]; exact H) | exact H
                        have Ny215 := Aside0.mk hy215
                        clear hy215
                        have H' := Aside0.mk H
                        clear H
                        try go_wp2
                        have n0_ := Aside0.mk (Kd.R_drew HO_7.out)
                        have n1_ := Aside0.mk (blk_drew BK203.out)
                        have n2_ := Aside0.mk (below_drew1 HB.out)
                        clear HO_7
                        clear BK203
                        clear HB
                        have HO_7 := n0_
                        have BK203 := n1_
                        have HB := n2_
                        clear n0_ n1_ n2_
                        have p210 : 0 ≤ (x8_1 : Int) := of_decide_eq_true (by first | (with_reducible assumption) | assumption)
                        have q210 : x8_1 < (l1.length : Int) := of_decide_eq_true (by first | (with_reducible assumption) | assumption)
                        obtain ⟨ad210, e210, hx210_0⟩ := Kd.at_int HR1.out x8_1 p210 q210
                        have hw210_0 := hx210_0
                        cases e210
                        replace hx210_0 := (HB.out.cell (World.block_lt_of_cell? w _ hx210_0)).trans hx210_0
                        replace p210 := eq_true p210
                        replace q210 := eq_true q210
                        refine start_ (n := 7) (S := fun w' => w'.cell? ⟨gb203, 0, none⟩ = some (.string a0_0) ∧ w'.cell? ⟨gb203, 1, none⟩ = some (.slice A0_1 l0_1.length c0_1) ∧ w'.cell? (ad210.add (x8_1).toNat) = some (.int .i32 (rd l1 x8_1))) (ds := []) #[false, false, false, false, false, false, false] (by kernel_rfl) rfl rfl ⟨(blk_cell BK203.out 0).trans rfl, (blk_cell BK203.out 1).trans rfl, ((HB.out.cell (World.block_lt_of_cell? w _ hw210_0)).trans hw210_0)⟩ (fun hHeld => ?_)
                        generalize wr.drew = w20 at HO_7 BK203 HB hx210_0 hHeld ⊢
                        refine pure_ (i := 1) (N := some 21) (v := ?_) (a' := ?_) #[false, true, false, false, false, false, false] rfl rfl (by kernel_rfl) (fun _ _ _ h => h) (Or.inl ⟨by rfl, ?_⟩) ?_ ?_
                        rotate_left
                        · intro w'
                          go_simp
                          with_reducible rfl
                        rotate_left
                        · simp only [Act.put, List.setIfInBounds_toArray, List.set_cons_zero, List.set_cons_succ, i64_w, i32_w]
                          rfl
                        refine pure_ (i := 2) (N := some 22) (v := ?_) (a' := ?_) #[false, true, true, false, false, false, false] rfl rfl (by kernel_rfl) (fun _ _ _ h => h) (Or.inl ⟨by rfl, ?_⟩) ?_ ?_
                        rotate_left
                        · intro w'
                          go_simp
                          with_reducible rfl
                        rotate_left
                        · simp only [Act.put, List.setIfInBounds_toArray, List.set_cons_zero, List.set_cons_succ, i64_w, i32_w]
                          rfl
                        refine pure_ (i := 3) (N := some 23) (v := ?_) (a' := ?_) #[false, true, true, true, false, false, false] rfl rfl (by kernel_rfl) (fun _ _ _ h => h) (Or.inl ⟨by rfl, ?_⟩) ?_ ?_
                        rotate_left
                        · intro w'
                          go_simp
                          with_reducible rfl
                        rotate_left
                        · simp only [Act.put, List.setIfInBounds_toArray, List.set_cons_zero, List.set_cons_succ, i64_w, i32_w]
                          rfl
                        refine take_ (i := 0) (N := some 20) (v := ?_) (a' := ?_) #[true, true, true, true, false, false, false] rfl rfl (by kernel_rfl) (fun _ _ _ h => h) (Or.inl ⟨by rfl, ?_⟩) hHeld ?_ ?_
                        rotate_left
                        · rintro w' ⟨s0, s1, s2⟩
                          go_simp
                          with_reducible rfl
                        rotate_left
                        · simp only [Act.put, List.setIfInBounds_toArray, List.set_cons_zero, List.set_cons_succ, i64_w, i32_w]
                          rfl
                        refine take_ (i := 4) (N := some 24) (v := ?_) (a' := ?_) #[true, true, true, true, true, false, false] rfl rfl (by kernel_rfl) (fun _ _ _ h => h) (Or.inl ⟨by rfl, ?_⟩) hHeld ?_ ?_
                        rotate_left
                        · rintro w' ⟨s0, s1, s2⟩
                          go_simp
                          with_reducible rfl
                        rotate_left
                        · simp only [Act.put, List.setIfInBounds_toArray, List.set_cons_zero, List.set_cons_succ, i64_w, i32_w]
                          rfl
                        refine one_ (i := 5) (N := some 25) #[true, true, true, true, true, true, false] rfl rfl (by kernel_rfl) (by decide) (fun K hK => ?_)
                        refine goes_ Try.func14 (by kernel_rfl) rfl #[.agg #[.string a0_0, .slice A0_1 l0_1.length c0_1], .int .i32 (rd l1 x8_1)] (by rfl) rfl rfl (by (try simp only [List.map_toArray, List.map_cons, List.map_nil]); first | done | rfl | (simp only [List.length_drop, List.length_take]; rfl)) ?_
                        with_reducible refine (eponymref19_Set.calls k1 a0_0 (fun k_ => k_ < w.heap.size) _ _ l0_1 (rd l1 x8_1) t211 _ ?side1 A12.out).mono ?_
                        (case side1 => exact Kd.V_mk HC0_1.out (Kd.F_below (Kd.C_F (Kd.heap_slice 21 (Kd.heap_int .i32)) HR0_1.out) (by repeat (first | (with_reducible first | exact HB.out | apply below_alloc | apply pw_below_drewN | apply below_drew1 | refine below_set ?_ GE203.out) | exact HB.out))))
                        rintro e w21 ⟨v212, rfl, ho0, hb⟩
                        refine ⟨_, rfl, ?_⟩
                        have n0_ := Aside0.mk (Kd.R_below (by (with_reducible repeat (first | apply Kd.R_alloc | apply Kd.R_drewN | apply Kd.R_drew)); exact HO_7.out) hb)
                        have n1_ := Aside0.mk (Kd.V_lower (Kd.V_mono (ok' := fun k_ => some k_ ≠ (v208 : Value).ownBlock ∧ k_ ≠ gb203) ho0 (fun k_ hk_ => ⟨Or.elim hk_ (fun hs_ => fun e_ => Nat.not_le.2 hs_ (Kd.R_base HO_7.out k_ e_.symm)) (fun hn_ => (Kd.fresh' (Kd.R_lt (by (with_reducible repeat (first | apply Kd.R_alloc | apply Kd.R_drewN | apply Kd.R_drew)); exact HO_7.out)) k_ hn_)), Or.elim hk_ (fun hs_ => fun e_ => Nat.not_le.2 hs_ (by rw [e_]; exact GW203.out)) (fun hn_ => (Kd.freshB (g := gb203) (o := .cells #[.string a0_0, .slice A0_1 l0_1.length c0_1] 24 (0, 0)) (by (with_reducible repeat (first | refine blk_drewN ?_ _ | refine blk_drew ?_ | refine blk_alloc ?_ _)); exact BK203.out) k_ hn_))⟩)) (below_size (by repeat (first | (with_reducible first | exact HB.out | apply below_alloc | apply pw_below_drewN | apply below_drew1 | refine below_set ?_ GE203.out) | exact HB.out))))
                        have n2_ := Aside0.mk (blk_below (g := gb203) (o := .cells #[.string a0_0, .slice A0_1 l0_1.length c0_1] 24 (0, 0)) (by (with_reducible repeat (first | refine blk_drewN ?_ _ | refine blk_drew ?_ | refine blk_alloc ?_ _)); exact BK203.out) hb)
                        have n3_ := Aside0.mk (below_step (by repeat (first | (with_reducible first | exact HB.out | apply below_alloc | apply pw_below_drewN | apply below_drew1 | refine below_set ?_ GE203.out) | exact HB.out)) hb)
                        clear HO_7
                        clear BK203
                        clear HB
                        have HO_7 := n0_
                        have HO213 := n1_
                        have BK203 := n2_
                        have HB := n3_
                        clear n0_ n1_ n2_ n3_
                        (try clear hb)
                        (try clear hb2)
                        (try clear hk)
                        (try clear hi)
                        (try clear ho0)
                        refine hK.out _ _ ⟨(blk_cell BK203.out 0).trans rfl, (blk_cell BK203.out 1).trans rfl, ((HB.out.cell (World.block_lt_of_cell? w _ hw210_0)).trans hw210_0)⟩ (fun hHeld => ?_)
                        clear hK K
                        refine norm_ (a' := ?_) ?_ ?_
                        rotate_left
                        · show Act.put _ (some 25) _ = _
                          simp only [Act.put, List.setIfInBounds_toArray, List.set_cons_zero, List.set_cons_succ, i64_w, i32_w]
                          rfl
                        refine pure_ (i := 6) (N := some 9) (v := ?_) (a' := ?_) #[true, true, true, true, true, true, true] rfl rfl (by kernel_rfl) (fun _ _ _ h => h) (Or.inl ⟨by rfl, ?_⟩) ?_ ?_
                        rotate_left
                        · intro w'
                          go_simp
                          with_reducible rfl
                        rotate_left
                        · simp only [Act.put, List.setIfInBounds_toArray, List.set_cons_zero, List.set_cons_succ, i64_w, i32_w]
                          rfl
                        refine done_ (by kernel_rfl) ?_
                        obtain ⟨Ao22, co22, eo22⟩ := Kd.V_slice HO213.out
                        subst eo22
                        have p214 : 0 ≤ ((ji15) : Int) := of_decide_eq_true (by first | (with_reducible assumption) | assumption)
                        have q214 : (ji15) < (t211.length : Int) := of_decide_eq_true (by first | (with_reducible assumption) | assumption)
                        obtain ⟨ad214, e214, hx214_0⟩ := Kd.at_int (Kd.V_reads' HO213.out).2.2 (ji15) p214 q214
                        cases e214
                        replace p214 := eq_true p214
                        replace q214 := eq_true q214
                        have p19 : 0 ≤ (x8_1 : Int) := of_decide_eq_true (by first | (with_reducible assumption) | assumption)
                        have q19 : (x8_1 : Int) < ((x7_1.length : Int) : Int) := of_decide_eq_true (by first | (with_reducible assumption) | assumption)
                        obtain ⟨go19, co19, eo19, gb19, gl19, cl19, HG19⟩ := Kd.R_form HO_7.out (by omega)
                        (first | cases eo19 | (injection eo19 with ea_ en_ ec_; (first | subst ea_ | (injection ea_ with ea_; subst ea_)); subst ec_; clear en_))
                        have GB19 := Aside0.mk gb19
                        have GG19 := Aside0.mk HG19
                        clear gb19 gl19 HG19
                        obtain ⟨hx19_0, hf19_0⟩ := Kd.R_celln 0 HO_7.out (x8_1 : Int) p19 q19
                        replace p19 := eq_true p19
                        replace q19 := eq_true q19
                        obtain ⟨hy23_, hz23_⟩ := Kd.R_celln 0 HO_7.out (x8_1 : Int) (of_decide_eq_true (by first | (with_reducible assumption) | assumption)) (of_decide_eq_true (by first | (with_reducible assumption) | assumption))
                        have HP23 := Kd.R_putg HO_7.out (x8_1 : Int) (rd t211 (ji15))
                        try go_wp2_with (first | ((with_reducible refine gate_store (t := 21) (p := 38) rfl ?_); refine store_event (t := 21) (p := 38) (v := ?vo_w24) (w1 := (w21.setCell ⟨go19, (x8_1 : Int).toNat, none⟩ (.int .i32 (rd t211 (ji15))))) ?hg ?ho ?hn ?hr ?_; (case ho => rfl); (case hg => rfl); (case hn => rfl); (case hr => first | (go_simp; done) | (go_simp; rfl)); intro w24 hw; have hg : w21.grownBy w24 (some go19) := (by rw [hw]; exact HP23.2); have hp_ : Kd.R (Kd.int .i32) 21 w24 w.heap.size (fun _ => True) (.slice (some ⟨go19, 0, none⟩) x7_1.length co19) y215 := (by rw [hw, Ny215.out]; exact HP23.1); clear HP23; have n0_ := Aside0.mk (hp_); have n1_ := Aside0.mk (blk_grown (g := gb203) (o := .cells #[.string a0_0, .slice A0_1 l0_1.length c0_1] 24 (0, 0)) (by (with_reducible repeat (first | refine blk_drewN ?_ _ | refine blk_drew ?_ | refine blk_alloc ?_ _)); exact BK203.out) hg (Kd.R_ne HO_7.out BK203.out (by decide))); have n2_ := Aside0.mk (Kd.V_afterv (v := (.slice (some ⟨go19, 0, none⟩) x7_1.length co19)) (v1 := (.slice (some ⟨go19, 0, none⟩) x7_1.length co19)) (ok := (fun k_ => k_ ≠ gb203)) (by (with_reducible repeat (first | apply Kd.V_alloc | apply Kd.V_drewN | apply Kd.V_drew)); exact Kd.V_mono HO213.out (fun _ hk => ⟨hk.2, hk.1⟩)) hg (.inl rfl)); have n3_ := Aside0.mk ((by rw [hw]; exact below_set (HB.out) GB19.out : Below w.heap.size w w24)); clear HO_7; clear BK203; clear HO213; clear HB; have HO_7 := n0_; have BK203 := n1_; have HO213 := n2_; have HB := n3_; clear n0_ n1_ n2_ n3_; clear hg hw hp_))
                        go_roundg k1
                        case measure => have := HK1.out; omega
                        case rel => exact ⟨(wrap64 (Int.tdiv x2_1 (t211.length : Int))), (y215), (wrap64 (x8_1 - 1)), (by first | rfl | (simp; done) | (simp [*]; done)), (by first | rfl | (simp; done) | (simp [*]; done)), H', ⟨by have := HK1.out; omega⟩, ⟨by (with_reducible repeat (first | apply Kd.R_alloc | apply Kd.R_drewN | apply Kd.R_drew)); exact HO_7.out⟩, ⟨by (with_reducible repeat (first | refine blk_drewN ?_ _ | refine blk_drew ?_ | refine blk_alloc ?_ _)); exact BK203.out⟩, ⟨by repeat (first | (with_reducible first | exact HB.out | apply below_alloc | apply pw_below_drewN | apply below_drew1 | refine below_set ?_ GE203.out) | exact HB.out)⟩⟩
                      · rw [if_neg c18] at H
                        exact absurd H (by simp)
                    · rw [if_neg c17] at H
                      exact absurd H (by simp)
                  · rw [if_neg c16] at H
                    exact absurd H (by simp)
              · rw [if_neg c13] at H
                have c13b0 : decide (0 < (t211.length : Int)) = false := decide_eq_false c13
                have c13b1 : decide (0 < t211.length) = false := decide_eq_false (by omega)
                clear c13
                have H' := Aside0.mk H
                clear H
                try go_wp2
                have n0_ := Aside0.mk (Kd.R_drew HO_7.out)
                have n1_ := Aside0.mk (blk_drew BK203.out)
                have n2_ := Aside0.mk (below_drew1 HB.out)
                clear HO_7
                clear BK203
                clear HB
                have HO_7 := n0_
                have BK203 := n1_
                have HB := n2_
                clear n0_ n1_ n2_
                have p210 : 0 ≤ (x8_1 : Int) := of_decide_eq_true (by first | (with_reducible assumption) | assumption)
                have q210 : x8_1 < (l1.length : Int) := of_decide_eq_true (by first | (with_reducible assumption) | assumption)
                obtain ⟨ad210, e210, hx210_0⟩ := Kd.at_int HR1.out x8_1 p210 q210
                have hw210_0 := hx210_0
                cases e210
                replace hx210_0 := (HB.out.cell (World.block_lt_of_cell? w _ hx210_0)).trans hx210_0
                replace p210 := eq_true p210
                replace q210 := eq_true q210
                refine start_ (n := 7) (S := fun w' => w'.cell? ⟨gb203, 0, none⟩ = some (.string a0_0) ∧ w'.cell? ⟨gb203, 1, none⟩ = some (.slice A0_1 l0_1.length c0_1) ∧ w'.cell? (ad210.add (x8_1).toNat) = some (.int .i32 (rd l1 x8_1))) (ds := []) #[false, false, false, false, false, false, false] (by kernel_rfl) rfl rfl ⟨(blk_cell BK203.out 0).trans rfl, (blk_cell BK203.out 1).trans rfl, ((HB.out.cell (World.block_lt_of_cell? w _ hw210_0)).trans hw210_0)⟩ (fun hHeld => ?_)
                generalize wr.drew = w25 at HO_7 BK203 HB hx210_0 hHeld ⊢
                refine pure_ (i := 1) (N := some 21) (v := ?_) (a' := ?_) #[false, true, false, false, false, false, false] rfl rfl (by kernel_rfl) (fun _ _ _ h => h) (Or.inl ⟨by rfl, ?_⟩) ?_ ?_
                rotate_left
                · intro w'
                  go_simp
                  with_reducible rfl
                rotate_left
                · simp only [Act.put, List.setIfInBounds_toArray, List.set_cons_zero, List.set_cons_succ, i64_w, i32_w]
                  rfl
                refine pure_ (i := 2) (N := some 22) (v := ?_) (a' := ?_) #[false, true, true, false, false, false, false] rfl rfl (by kernel_rfl) (fun _ _ _ h => h) (Or.inl ⟨by rfl, ?_⟩) ?_ ?_
                rotate_left
                · intro w'
                  go_simp
                  with_reducible rfl
                rotate_left
                · simp only [Act.put, List.setIfInBounds_toArray, List.set_cons_zero, List.set_cons_succ, i64_w, i32_w]
                  rfl
                refine pure_ (i := 3) (N := some 23) (v := ?_) (a' := ?_) #[false, true, true, true, false, false, false] rfl rfl (by kernel_rfl) (fun _ _ _ h => h) (Or.inl ⟨by rfl, ?_⟩) ?_ ?_
                rotate_left
                · intro w'
                  go_simp
                  with_reducible rfl
                rotate_left
                · simp only [Act.put, List.setIfInBounds_toArray, List.set_cons_zero, List.set_cons_succ, i64_w, i32_w]
                  rfl
                refine take_ (i := 0) (N := some 20) (v := ?_) (a' := ?_) #[true, true, true, true, false, false, false] rfl rfl (by kernel_rfl) (fun _ _ _ h => h) (Or.inl ⟨by rfl, ?_⟩) hHeld ?_ ?_
                rotate_left
                · rintro w' ⟨s0, s1, s2⟩
                  go_simp
                  with_reducible rfl
                rotate_left
                · simp only [Act.put, List.setIfInBounds_toArray, List.set_cons_zero, List.set_cons_succ, i64_w, i32_w]
                  rfl
                refine take_ (i := 4) (N := some 24) (v := ?_) (a' := ?_) #[true, true, true, true, true, false, false] rfl rfl (by kernel_rfl) (fun _ _ _ h => h) (Or.inl ⟨by rfl, ?_⟩) hHeld ?_ ?_
                rotate_left
                · rintro w' ⟨s0, s1, s2⟩
                  go_simp
                  with_reducible rfl
                rotate_left
                · simp only [Act.put, List.setIfInBounds_toArray, List.set_cons_zero, List.set_cons_succ, i64_w, i32_w]
                  rfl
                refine one_ (i := 5) (N := some 25) #[true, true, true, true, true, true, false] rfl rfl (by kernel_rfl) (by decide) (fun K hK => ?_)
                refine goes_ Try.func14 (by kernel_rfl) rfl #[.agg #[.string a0_0, .slice A0_1 l0_1.length c0_1], .int .i32 (rd l1 x8_1)] (by rfl) rfl rfl (by (try simp only [List.map_toArray, List.map_cons, List.map_nil]); first | done | rfl | (simp only [List.length_drop, List.length_take]; rfl)) ?_
                with_reducible refine (eponymref19_Set.calls k1 a0_0 (fun k_ => k_ < w.heap.size) _ _ l0_1 (rd l1 x8_1) t211 _ ?side1 A12.out).mono ?_
                (case side1 => exact Kd.V_mk HC0_1.out (Kd.F_below (Kd.C_F (Kd.heap_slice 21 (Kd.heap_int .i32)) HR0_1.out) (by repeat (first | (with_reducible first | exact HB.out | apply below_alloc | apply pw_below_drewN | apply below_drew1 | refine below_set ?_ GE203.out) | exact HB.out))))
                rintro e w26 ⟨v212, rfl, ho0, hb⟩
                refine ⟨_, rfl, ?_⟩
                have n0_ := Aside0.mk (Kd.R_below (by (with_reducible repeat (first | apply Kd.R_alloc | apply Kd.R_drewN | apply Kd.R_drew)); exact HO_7.out) hb)
                have n1_ := Aside0.mk (Kd.V_lower (Kd.V_mono (ok' := fun k_ => some k_ ≠ (v208 : Value).ownBlock ∧ k_ ≠ gb203) ho0 (fun k_ hk_ => ⟨Or.elim hk_ (fun hs_ => fun e_ => Nat.not_le.2 hs_ (Kd.R_base HO_7.out k_ e_.symm)) (fun hn_ => (Kd.fresh' (Kd.R_lt (by (with_reducible repeat (first | apply Kd.R_alloc | apply Kd.R_drewN | apply Kd.R_drew)); exact HO_7.out)) k_ hn_)), Or.elim hk_ (fun hs_ => fun e_ => Nat.not_le.2 hs_ (by rw [e_]; exact GW203.out)) (fun hn_ => (Kd.freshB (g := gb203) (o := .cells #[.string a0_0, .slice A0_1 l0_1.length c0_1] 24 (0, 0)) (by (with_reducible repeat (first | refine blk_drewN ?_ _ | refine blk_drew ?_ | refine blk_alloc ?_ _)); exact BK203.out) k_ hn_))⟩)) (below_size (by repeat (first | (with_reducible first | exact HB.out | apply below_alloc | apply pw_below_drewN | apply below_drew1 | refine below_set ?_ GE203.out) | exact HB.out))))
                have n2_ := Aside0.mk (blk_below (g := gb203) (o := .cells #[.string a0_0, .slice A0_1 l0_1.length c0_1] 24 (0, 0)) (by (with_reducible repeat (first | refine blk_drewN ?_ _ | refine blk_drew ?_ | refine blk_alloc ?_ _)); exact BK203.out) hb)
                have n3_ := Aside0.mk (below_step (by repeat (first | (with_reducible first | exact HB.out | apply below_alloc | apply pw_below_drewN | apply below_drew1 | refine below_set ?_ GE203.out) | exact HB.out)) hb)
                clear HO_7
                clear BK203
                clear HB
                have HO_7 := n0_
                have HO213 := n1_
                have BK203 := n2_
                have HB := n3_
                clear n0_ n1_ n2_ n3_
                (try clear hb)
                (try clear hb2)
                (try clear hk)
                (try clear hi)
                (try clear ho0)
                refine hK.out _ _ ⟨(blk_cell BK203.out 0).trans rfl, (blk_cell BK203.out 1).trans rfl, ((HB.out.cell (World.block_lt_of_cell? w _ hw210_0)).trans hw210_0)⟩ (fun hHeld => ?_)
                clear hK K
                refine norm_ (a' := ?_) ?_ ?_
                rotate_left
                · show Act.put _ (some 25) _ = _
                  simp only [Act.put, List.setIfInBounds_toArray, List.set_cons_zero, List.set_cons_succ, i64_w, i32_w]
                  rfl
                refine pure_ (i := 6) (N := some 9) (v := ?_) (a' := ?_) #[true, true, true, true, true, true, true] rfl rfl (by kernel_rfl) (fun _ _ _ h => h) (Or.inl ⟨by rfl, ?_⟩) ?_ ?_
                rotate_left
                · intro w'
                  go_simp
                  with_reducible rfl
                rotate_left
                · simp only [Act.put, List.setIfInBounds_toArray, List.set_cons_zero, List.set_cons_succ, i64_w, i32_w]
                  rfl
                refine done_ (by kernel_rfl) ?_
                obtain ⟨Ao27, co27, eo27⟩ := Kd.V_slice HO213.out
                subst eo27
                try go_wp2
                go_roundg k1
                case measure => have := HK1.out; omega
                case rel => exact ⟨(x2_1), (x7_1), (wrap64 (x8_1 - 1)), (by first | rfl | (simp; done) | (simp [*]; done)), (by first | rfl | (simp; done) | (simp [*]; done)), H', ⟨by have := HK1.out; omega⟩, ⟨by (with_reducible repeat (first | apply Kd.R_alloc | apply Kd.R_drewN | apply Kd.R_drew)); exact HO_7.out⟩, ⟨by (with_reducible repeat (first | refine blk_drewN ?_ _ | refine blk_drew ?_ | refine blk_alloc ?_ _)); exact BK203.out⟩, ⟨by repeat (first | (with_reducible first | exact HB.out | apply below_alloc | apply pw_below_drewN | apply below_drew1 | refine below_set ?_ GE203.out) | exact HB.out)⟩⟩
            · rw [if_neg c11] at H
              exact absurd H (by simp)
          · rw [if_neg c10] at H
            exact absurd H (by simp)
        · rw [if_neg c9] at H
          have c9b0 : decide (0 ≤ x8_1) = false := decide_eq_false c9
          clear c9
          obtain rfl := Option.some.inj H
          go_wp2
          go_ret
          exact ⟨_, by first | rfl | (simp [errW_none, errW_some] <;> rfl) | (simp [*, errW_none, errW_some] <;> rfl), by (with_reducible repeat (first | apply Kd.R_alloc | apply Kd.R_drewN | apply Kd.R_drew)); exact HO_7.out, by repeat (first | (with_reducible first | exact HB.out | apply below_alloc | apply pw_below_drewN | apply below_drew1 | refine below_set ?_ GE203.out) | exact HB.out)⟩
  · rw [if_neg c4] at H
    exact absurd H (by simp)

-- NOT PRINTED: function 3 (eponymlaw19_VariantsAll)

/-! ### eponymref19_Key: function 15 -/
def eponymref19_Key.l0 : Nat → List Int → List Int → Int → ByteArray → List (List Int) → Option (List Int)
  | 0, _, _, _, _, _ => none
  | k + 1, x1, x5, x6, x224000, x224001 => if x6 < (x1.length : Int) then (if 0 ≤ x6 then ((eponymref19_Set.f k x224000 x224001 (rd x1 x6)).bind fun t225 => (if (t225.length : Int) > 0 then (if 0 < (t225.length : Int) then (if x5.length < 35184372088832 then (eponymref19_Key.l0 k x1 (x5 ++ [rd t225 0]) (wrap64 (x6 + 1)) x224000 x224001) else (none)) else (none)) else (if x5.length < 35184372088832 then (eponymref19_Key.l0 k x1 (x5 ++ [rd x1 x6]) (wrap64 (x6 + 1)) x224000 x224001) else (none)))) else (none)) else (some x5)
def eponymref19_Key.f (k : Nat) (a0_0 : ByteArray) (l0_1 : List (List Int)) (l1 : List Int) : Option (List Int) := eponymref19_Key.l0 k l1 ([] : List Int) 0 a0_0 l0_1
theorem eponymref19_Key.mono_l : ∀ k, (∀ y0 y1 y2 y3 y4, LeO (eponymref19_Key.l0 k y0 y1 y2 y3 y4) (eponymref19_Key.l0 (k + 1) y0 y1 y2 y3 y4))
  | 0 => fun _ _ _ _ _ r h => by simp [eponymref19_Key.l0] at h
  | k + 1 => by
    have ih0 := eponymref19_Key.mono_l k
    · intro y0 y1 y2 y3 y4
      unfold eponymref19_Key.l0
      repeat' first
      | (with_reducible exact ih0 _ _ _ _ _)
      | (with_reducible exact eponymref19_Set.mono _ _ _ _)
      | (with_reducible exact LeO.refl _)
      | (with_reducible exact LeO.none _)
      | (with_reducible refine LeO.ite ?_ ?_)
      | (with_reducible refine LeO.bind ?_ (fun _ => ?_))
      | exact ih0 _ _ _ _ _
      | exact eponymref19_Set.mono _ _ _ _
      | exact LeO.none _
      | refine LeO.ite ?_ ?_
      | refine LeO.bind ?_ (fun _ => ?_)
theorem eponymref19_Key.mono : ∀ a0 a1 a2 k, LeO (eponymref19_Key.f k a0 a1 a2) (eponymref19_Key.f (k + 1) a0 a1 a2) := by
  intro a0 a1 a2 k
  have ih0 := eponymref19_Key.mono_l k
  unfold eponymref19_Key.f
  repeat' first
      | (with_reducible exact ih0 _ _ _ _ _)
      | (with_reducible exact eponymref19_Set.mono _ _ _ _)
      | (with_reducible exact LeO.refl _)
      | (with_reducible exact LeO.none _)
      | (with_reducible refine LeO.ite ?_ ?_)
      | (with_reducible refine LeO.bind ?_ (fun _ => ?_))
      | exact ih0 _ _ _ _ _
      | exact eponymref19_Set.mono _ _ _ _
      | exact LeO.none _
      | refine LeO.ite ?_ ?_
      | refine LeO.bind ?_ (fun _ => ?_)
set_option maxHeartbeats 8000000 in
set_option maxRecDepth 100000 in
theorem eponymref19_Key.calls (k : Nat) (a0_0 : ByteArray) (A0_1 : Option Addr) (c0_1 : Nat) (l0_1 : List (List Int)) (A1 : Option Addr) (c1 : Nat) (l1 : List Int) (r : List Int) (w : World) (hr0_1 : Kd.C (Kd.slice 21 (Kd.int .i32)) w A0_1 l0_1.length l0_1) (hc0_1 : l0_1.length ≤ c0_1) (hr1 : Kd.C (Kd.int .i32) w A1 l1.length l1) (hc1 : l1.length ≤ c1) (h : eponymref19_Key.f k a0_0 l0_1 l1 = some r) :
    Calls Try.prog 15 #[.agg #[.string a0_0, .slice A0_1 l0_1.length c0_1], .slice A1 l1.length c1] w fun e w' => ∃ v0_ : Value, e = .returned (v0_) ∧ Kd.R (Kd.int .i32) 21 w' w.heap.size (fun _ => True) v0_ r ∧ Below w.heap.size w w' := by
  have hu24 := Try.underlying24
  have HR0_1 := Aside0.mk hr0_1
  have HC0_1 := Aside0.mk hc0_1
  clear hr0_1 hc0_1
  have HR1 := Aside0.mk hr1
  have HC1 := Aside0.mk hc1
  clear hr1 hc1
  have HB := Aside0.mk (Below.refl w.heap.size w)
  have H : (eponymref19_Key.l0 k l1 ([] : List Int) 0 a0_0 l0_1) = some r := h
  clear h
  have H' := Aside0.mk H
  clear H
  go_enter Try.func15, Try.ntmps15
  go_wp2_with (first | ((with_reducible refine gate_dst (N := 2) rfl ?_); refine box_event ?hg (N := 2) ?hd (cs := #[.string a0_0, .slice A0_1 l0_1.length c0_1]) (t := 24) ?hr ?_; (case hd => rfl); (case hg => rfl); (case hr => first | (go_simp; done) | (go_simp; rfl)); intro gb223 hg w3 hbox hb; have n0_ := Aside0.mk (below_step (by repeat (first | (with_reducible first | exact HB.out | apply below_alloc | apply pw_below_drewN | apply below_drew1) | exact HB.out)) hb); have n1_ := Aside0.mk (hbox); have n2_ := Aside0.mk ((by rw [hg]; exact (below_size (by repeat (first | (with_reducible first | exact HB.out | apply below_alloc | apply pw_below_drewN | apply below_drew1) | exact HB.out))) : w.heap.size ≤ gb223)); have n3_ := Aside0.mk ((by rw [hg]; exact (below_size (by repeat (first | (with_reducible first | exact HB.out | apply below_alloc | apply pw_below_drewN | apply below_drew1) | exact HB.out))) : w.heap.size ≤ gb223)); clear HB; have HB := n0_; have BK223 := n1_; have GW223 := n2_; have GE223 := n3_; clear n0_ n1_ n2_ n3_; clear hb hbox hg))
  go_loopg [5, 6] k (fun kq v5 v6 w' => ∃ (x5_1 : List Int) (x6_1 : Int), v6 = .int .i64 x6_1 ∧ Aside0 (eponymref19_Key.l0 kq l1 x5_1 x6_1 a0_0 l0_1 = some r) ∧ Aside0 (kq ≤ k) ∧ Aside0 (Kd.R (Kd.int .i32) 21 w' w.heap.size (fun _ => True) v5 x5_1) ∧ Aside0 (w'.heap[gb223]? = some (.cells #[.string a0_0, (.slice A0_1 l0_1.length c0_1)] 24 (0, 0))) ∧ Aside0 (Below w.heap.size w w'))
  case atStart => exact ⟨(([] : List Int)), (0), (by first | rfl | (simp; done) | (simp [*]; done)), H', ⟨Nat.le_refl _⟩, ⟨by first | exact Kd.R_nil _ _ _ _ _ | exact Kd.N_nil _ _ _ _ _ | exact Kd.V_nil _ _ _ _ _ | exact Kd.Q_nil _ _ _ _ _ | exact Kd.S_nil _ _ _ _ _⟩, ⟨by (with_reducible repeat (first | refine blk_drewN ?_ _ | refine blk_drew ?_ | refine blk_alloc ?_ _)); exact BK223.out⟩, ⟨by repeat (first | (with_reducible first | exact HB.out | apply below_alloc | apply pw_below_drewN | apply below_drew1 | refine below_set ?_ GE223.out) | exact HB.out)⟩⟩
  case round =>
    clear H'
    try clear c1
    try clear p2
    obtain ⟨x5_1, x6_1, rfl, HA, HK1, HO_5, BK223, HB⟩ := hrel
    cases gk with
    | zero => exact absurd HA.out (by simp [eponymref19_Key.l0])
    | succ k1 =>
      have H := HA.out
      clear HA
      simp only [eponymref19_Key.l0] at H
      by_cases c4 : x6_1 < (l1.length : Int)
      · rw [if_pos c4] at H
        have c4b0 : decide (x6_1 < (l1.length : Int)) = true := decide_eq_true c4
        clear c4
        by_cases c5 : 0 ≤ x6_1
        · rw [if_pos c5] at H
          have c5b0 : decide (0 ≤ x6_1) = true := decide_eq_true c5
          clear c5
          replace H := Option.bind_eq_some_iff.mp H
          obtain ⟨t225, A60, H⟩ := H
          replace H : (if (t225.length : Int) > 0 then (if 0 < (t225.length : Int) then (if x5_1.length < 35184372088832 then (eponymref19_Key.l0 k1 l1 (x5_1 ++ [rd t225 0]) (wrap64 (x6_1 + 1)) a0_0 l0_1) else (none)) else (none)) else (if x5_1.length < 35184372088832 then (eponymref19_Key.l0 k1 l1 (x5_1 ++ [rd l1 x6_1]) (wrap64 (x6_1 + 1)) a0_0 l0_1) else (none))) = some r := H
          have A6 := Aside0.mk A60
          clear A60
          by_cases c7 : (t225.length : Int) > 0
          · rw [if_pos c7] at H
            have c7b0 : decide (0 < (t225.length : Int)) = true := decide_eq_true c7
            have c7b1 : decide (0 < t225.length) = true := decide_eq_true (by omega)
            clear c7
            by_cases c8 : 0 < (t225.length : Int)
            · rw [if_pos c8] at H
              have c8b0 : decide (0 < (t225.length : Int)) = true := decide_eq_true c8
              have c8b1 : decide (0 < t225.length) = true := decide_eq_true (by omega)
              clear c8
              by_cases c9 : x5_1.length < 35184372088832
              · rw [if_pos c9] at H
                have LMc9 := Aside0.mk c9
                clear c9
                obtain ⟨y229, hy229⟩ : ∃ y_ : List Int, y_ = (x5_1 ++ [rd t225 0]) := ⟨_, rfl⟩
                replace H : (eponymref19_Key.l0 k1 l1 y229 (wrap64 (x6_1 + 1)) a0_0 l0_1) = some r := by first | (rw [hy229]; with_reducible exact H) | (have H2_ := (Option.bind_some _ _).symm.trans H; rw [hy229]; with_reducible exact H2_) | (have H2_ := (Option.bind_some _ _).symm.trans H; with_reducible exact H2_) | with_reducible exact H | (rw [hy229]; exact H) | exact H
                have Ny229 := Aside0.mk hy229
                clear hy229
                have H' := Aside0.mk H
                clear H
                have p224 : 0 ≤ (x6_1 : Int) := of_decide_eq_true (by first | (with_reducible assumption) | assumption)
                have q224 : x6_1 < (l1.length : Int) := of_decide_eq_true (by first | (with_reducible assumption) | assumption)
                obtain ⟨ad224, e224, hx224_0⟩ := Kd.at_int HR1.out x6_1 p224 q224
                cases e224
                replace hx224_0 := (HB.out.cell (World.block_lt_of_cell? w _ hx224_0)).trans hx224_0
                replace p224 := eq_true p224
                replace q224 := eq_true q224
                have hcz10_0 : wr.cell? ⟨gb223, 0, none⟩ = some (.string a0_0) := (blk_cell BK223.out 0).trans rfl
                have hcz10_1 : wr.cell? ⟨gb223, 1, none⟩ = some (.slice A0_1 l0_1.length c0_1) := (blk_cell BK223.out 1).trans rfl
                have hfz10_0 := blk_frozen BK223.out 0
                have hfz10_1 := blk_frozen BK223.out 1
                go_wp2_with (first | ((with_reducible refine gate_callee (f := 14) rfl ?_); refine goesL_ (some 21) rfl rfl Try.func14 (by kernel_rfl) rfl #[.agg #[.string a0_0, .slice A0_1 l0_1.length c0_1], .int .i32 (rd l1 x6_1)] rfl (by (try simp only [List.map_toArray, List.map_cons, List.map_nil]); first | done | rfl | (simp only [List.length_drop, List.length_take]; rfl)) ?_; (with_reducible refine (eponymref19_Set.calls k1 a0_0 (fun k_ => k_ < w.heap.size) _ _ l0_1 (rd l1 x6_1) t225 _ ?side1 A6.out).mono ?_); (case side1 => exact Kd.V_mk HC0_1.out (Kd.F_below (Kd.C_F (Kd.heap_slice 21 (Kd.heap_int .i32)) HR0_1.out) (by repeat (first | (with_reducible first | exact HB.out | apply below_alloc | apply pw_below_drewN | apply below_drew1 | refine below_set ?_ GE223.out) | exact HB.out)))); rintro e w11 ⟨v226, rfl, ho0, hb⟩; refine ⟨_, rfl, ?_⟩; have n0_ := Aside0.mk (Kd.R_below (by (with_reducible repeat (first | apply Kd.R_alloc | apply Kd.R_drewN | apply Kd.R_drew)); exact HO_5.out) hb); have n1_ := Aside0.mk (Kd.V_lower (Kd.V_mono (ok' := fun k_ => some k_ ≠ (u5 : Value).ownBlock ∧ k_ ≠ gb223) ho0 (fun k_ hk_ => ⟨Or.elim hk_ (fun hs_ => fun e_ => Nat.not_le.2 hs_ (Kd.R_base HO_5.out k_ e_.symm)) (fun hn_ => (Kd.fresh' (Kd.R_lt (by (with_reducible repeat (first | apply Kd.R_alloc | apply Kd.R_drewN | apply Kd.R_drew)); exact HO_5.out)) k_ hn_)), Or.elim hk_ (fun hs_ => fun e_ => Nat.not_le.2 hs_ (by rw [e_]; exact GW223.out)) (fun hn_ => (Kd.freshB (g := gb223) (o := .cells #[.string a0_0, .slice A0_1 l0_1.length c0_1] 24 (0, 0)) (by (with_reducible repeat (first | refine blk_drewN ?_ _ | refine blk_drew ?_ | refine blk_alloc ?_ _)); exact BK223.out) k_ hn_))⟩)) (below_size (by repeat (first | (with_reducible first | exact HB.out | apply below_alloc | apply pw_below_drewN | apply below_drew1 | refine below_set ?_ GE223.out) | exact HB.out)))); have n2_ := Aside0.mk (blk_below (g := gb223) (o := .cells #[.string a0_0, .slice A0_1 l0_1.length c0_1] 24 (0, 0)) (by (with_reducible repeat (first | refine blk_drewN ?_ _ | refine blk_drew ?_ | refine blk_alloc ?_ _)); exact BK223.out) hb); have n3_ := Aside0.mk (below_step (by repeat (first | (with_reducible first | exact HB.out | apply below_alloc | apply pw_below_drewN | apply below_drew1 | refine below_set ?_ GE223.out) | exact HB.out)) hb); clear HO_5; clear BK223; clear HB; have HO_5 := n0_; have HO227 := n1_; have BK223 := n2_; have HB := n3_; clear n0_ n1_ n2_ n3_; (try clear hb); (try clear hb2); (try clear hk); (try clear hi); (try clear ho0); obtain ⟨Ao12, co12, eo12⟩ := Kd.V_slice HO227.out; subst eo12; have p228 : 0 ≤ (0 : Int) := (by omega); have q228 : 0 < (t225.length : Int) := of_decide_eq_true (by first | (with_reducible assumption) | assumption); obtain ⟨ad228, e228, hx228_0⟩ := Kd.at_int (Kd.V_reads' HO227.out).2.2 0 p228 q228; cases e228; have qi228 : (0 < t225.length) = True := eq_true (by omega); (try rw [show ((0 : Int)).toNat = 0 from rfl] at hx228_0); (try rw [Addr.add_zero'] at hx228_0); replace p228 := eq_true p228; replace q228 := eq_true q228) | ((with_reducible refine gate_builtin (b := .append) (xs := #[.tmp 28, .tmp 30]) rfl ?_); at_builtin; refine Kd.R_append (Kd.int .i32) (w0 := w) w.heap.size rfl (.tmp 28) (.tmp 30) 25 21 (.int .i32 0) 4 rfl Try.underlying25 info21 rfl (by decide) (by omega) u5 x5_1 (rd t225 0) [.int .i32 (rd t225 0)] (fun _ => True) (fun _ => False) rfl rfl ?aP (fun _ hk => hk.elim) ?aF ?aO ?aB ?aS ?aL ?_; (case aP => exact rfl); (case aB => exact (by repeat (first | (with_reducible first | exact HB.out | apply below_alloc | apply pw_below_drewN | apply below_drew1 | refine below_set ?_ GE223.out) | exact HB.out))); (case aF => exact (fun _ _ => trivial)); (case aO => exact (by (with_reducible repeat (first | apply Kd.R_alloc | apply Kd.R_drewN | apply Kd.R_drew)); exact HO_5.out)); (case aS => exact (below_size (by repeat (first | (with_reducible first | exact HB.out | apply below_alloc | apply pw_below_drewN | apply below_drew1 | refine below_set ?_ GE223.out) | exact HB.out)))); (case aL => have := LMc9.out; omega); intro v230 w13 ho hb hg hat; rw [← Ny229.out] at ho; have n0_ := Aside0.mk (blk_grown (g := gb223) (o := .cells #[.string a0_0, .slice A0_1 l0_1.length c0_1] 24 (0, 0)) (by (with_reducible repeat (first | refine blk_drewN ?_ _ | refine blk_drew ?_ | refine blk_alloc ?_ _)); exact BK223.out) hg (Kd.R_ne HO_5.out BK223.out (by decide))); have n1_ := Aside0.mk (Kd.V_afterv (ok := (fun k_ => k_ ≠ gb223)) (by (with_reducible repeat (first | apply Kd.V_alloc | apply Kd.V_drewN | apply Kd.V_drew)); exact Kd.V_mono HO227.out (fun _ hk => ⟨hk.2, hk.1⟩)) hg hat); have n2_ := Aside0.mk (hb); have n3_ := Aside0.mk (ho); clear BK223; clear HO227; clear HB; clear HO_5; have BK223 := n0_; have HO227 := n1_; have HB := n2_; have HO231 := n3_; clear n0_ n1_ n2_ n3_; clear ho hb hg hat))
                go_roundg k1
                case measure => have := HK1.out; omega
                case rel => exact ⟨(y229), (wrap64 (x6_1 + 1)), (by first | rfl | (simp; done) | (simp [*]; done)), H', ⟨by have := HK1.out; omega⟩, ⟨by (with_reducible repeat (first | apply Kd.R_alloc | apply Kd.R_drewN | apply Kd.R_drew)); exact HO231.out⟩, ⟨by (with_reducible repeat (first | refine blk_drewN ?_ _ | refine blk_drew ?_ | refine blk_alloc ?_ _)); exact BK223.out⟩, ⟨by repeat (first | (with_reducible first | exact HB.out | apply below_alloc | apply pw_below_drewN | apply below_drew1 | refine below_set ?_ GE223.out) | exact HB.out)⟩⟩
              · rw [if_neg c9] at H
                exact absurd H (by simp)
            · rw [if_neg c8] at H
              exact absurd H (by simp)
          · rw [if_neg c7] at H
            have c7b0 : decide (0 < (t225.length : Int)) = false := decide_eq_false c7
            have c7b1 : decide (0 < t225.length) = false := decide_eq_false (by omega)
            clear c7
            by_cases c14 : x5_1.length < 35184372088832
            · rw [if_pos c14] at H
              have LMc14 := Aside0.mk c14
              clear c14
              obtain ⟨y232, hy232⟩ : ∃ y_ : List Int, y_ = (x5_1 ++ [rd l1 x6_1]) := ⟨_, rfl⟩
              replace H : (eponymref19_Key.l0 k1 l1 y232 (wrap64 (x6_1 + 1)) a0_0 l0_1) = some r := by first | (rw [hy232]; with_reducible exact H) | (have H2_ := (Option.bind_some _ _).symm.trans H; rw [hy232]; with_reducible exact H2_) | (have H2_ := (Option.bind_some _ _).symm.trans H; with_reducible exact H2_) | with_reducible exact H | (rw [hy232]; exact H) | exact H
              have Ny232 := Aside0.mk hy232
              clear hy232
              have H' := Aside0.mk H
              clear H
              have p224 : 0 ≤ (x6_1 : Int) := of_decide_eq_true (by first | (with_reducible assumption) | assumption)
              have q224 : x6_1 < (l1.length : Int) := of_decide_eq_true (by first | (with_reducible assumption) | assumption)
              obtain ⟨ad224, e224, hx224_0⟩ := Kd.at_int HR1.out x6_1 p224 q224
              cases e224
              replace hx224_0 := (HB.out.cell (World.block_lt_of_cell? w _ hx224_0)).trans hx224_0
              replace p224 := eq_true p224
              replace q224 := eq_true q224
              have hcz15_0 : wr.cell? ⟨gb223, 0, none⟩ = some (.string a0_0) := (blk_cell BK223.out 0).trans rfl
              have hcz15_1 : wr.cell? ⟨gb223, 1, none⟩ = some (.slice A0_1 l0_1.length c0_1) := (blk_cell BK223.out 1).trans rfl
              have hfz15_0 := blk_frozen BK223.out 0
              have hfz15_1 := blk_frozen BK223.out 1
              go_wp2_with (first | ((with_reducible refine gate_callee (f := 14) rfl ?_); refine goesL_ (some 21) rfl rfl Try.func14 (by kernel_rfl) rfl #[.agg #[.string a0_0, .slice A0_1 l0_1.length c0_1], .int .i32 (rd l1 x6_1)] rfl (by (try simp only [List.map_toArray, List.map_cons, List.map_nil]); first | done | rfl | (simp only [List.length_drop, List.length_take]; rfl)) ?_; (with_reducible refine (eponymref19_Set.calls k1 a0_0 (fun k_ => k_ < w.heap.size) _ _ l0_1 (rd l1 x6_1) t225 _ ?side1 A6.out).mono ?_); (case side1 => exact Kd.V_mk HC0_1.out (Kd.F_below (Kd.C_F (Kd.heap_slice 21 (Kd.heap_int .i32)) HR0_1.out) (by repeat (first | (with_reducible first | exact HB.out | apply below_alloc | apply pw_below_drewN | apply below_drew1 | refine below_set ?_ GE223.out) | exact HB.out)))); rintro e w16 ⟨v226, rfl, ho0, hb⟩; refine ⟨_, rfl, ?_⟩; have n0_ := Aside0.mk (Kd.R_below (by (with_reducible repeat (first | apply Kd.R_alloc | apply Kd.R_drewN | apply Kd.R_drew)); exact HO_5.out) hb); have n1_ := Aside0.mk (Kd.V_lower (Kd.V_mono (ok' := fun k_ => some k_ ≠ (u5 : Value).ownBlock ∧ k_ ≠ gb223) ho0 (fun k_ hk_ => ⟨Or.elim hk_ (fun hs_ => fun e_ => Nat.not_le.2 hs_ (Kd.R_base HO_5.out k_ e_.symm)) (fun hn_ => (Kd.fresh' (Kd.R_lt (by (with_reducible repeat (first | apply Kd.R_alloc | apply Kd.R_drewN | apply Kd.R_drew)); exact HO_5.out)) k_ hn_)), Or.elim hk_ (fun hs_ => fun e_ => Nat.not_le.2 hs_ (by rw [e_]; exact GW223.out)) (fun hn_ => (Kd.freshB (g := gb223) (o := .cells #[.string a0_0, .slice A0_1 l0_1.length c0_1] 24 (0, 0)) (by (with_reducible repeat (first | refine blk_drewN ?_ _ | refine blk_drew ?_ | refine blk_alloc ?_ _)); exact BK223.out) k_ hn_))⟩)) (below_size (by repeat (first | (with_reducible first | exact HB.out | apply below_alloc | apply pw_below_drewN | apply below_drew1 | refine below_set ?_ GE223.out) | exact HB.out)))); have n2_ := Aside0.mk (blk_below (g := gb223) (o := .cells #[.string a0_0, .slice A0_1 l0_1.length c0_1] 24 (0, 0)) (by (with_reducible repeat (first | refine blk_drewN ?_ _ | refine blk_drew ?_ | refine blk_alloc ?_ _)); exact BK223.out) hb); have n3_ := Aside0.mk (below_step (by repeat (first | (with_reducible first | exact HB.out | apply below_alloc | apply pw_below_drewN | apply below_drew1 | refine below_set ?_ GE223.out) | exact HB.out)) hb); clear HO_5; clear BK223; clear HB; have HO_5 := n0_; have HO227 := n1_; have BK223 := n2_; have HB := n3_; clear n0_ n1_ n2_ n3_; (try clear hb); (try clear hb2); (try clear hk); (try clear hi); (try clear ho0); obtain ⟨Ao17, co17, eo17⟩ := Kd.V_slice HO227.out; subst eo17) | ((with_reducible refine gate_builtin (b := .append) (xs := #[.tmp 28, .tmp 30]) rfl ?_); at_builtin; refine Kd.R_append (Kd.int .i32) (w0 := w) w.heap.size rfl (.tmp 28) (.tmp 30) 25 21 (.int .i32 0) 4 rfl Try.underlying25 info21 rfl (by decide) (by omega) u5 x5_1 (rd l1 x6_1) [.int .i32 (rd l1 x6_1)] (fun _ => True) (fun _ => False) rfl rfl ?aP (fun _ hk => hk.elim) ?aF ?aO ?aB ?aS ?aL ?_; (case aP => exact rfl); (case aB => exact (by repeat (first | (with_reducible first | exact HB.out | apply below_alloc | apply pw_below_drewN | apply below_drew1 | refine below_set ?_ GE223.out) | exact HB.out))); (case aF => exact (fun _ _ => trivial)); (case aO => exact (by (with_reducible repeat (first | apply Kd.R_alloc | apply Kd.R_drewN | apply Kd.R_drew)); exact HO_5.out)); (case aS => exact (below_size (by repeat (first | (with_reducible first | exact HB.out | apply below_alloc | apply pw_below_drewN | apply below_drew1 | refine below_set ?_ GE223.out) | exact HB.out)))); (case aL => have := LMc14.out; omega); intro v233 w18 ho hb hg hat; rw [← Ny232.out] at ho; have n0_ := Aside0.mk (blk_grown (g := gb223) (o := .cells #[.string a0_0, .slice A0_1 l0_1.length c0_1] 24 (0, 0)) (by (with_reducible repeat (first | refine blk_drewN ?_ _ | refine blk_drew ?_ | refine blk_alloc ?_ _)); exact BK223.out) hg (Kd.R_ne HO_5.out BK223.out (by decide))); have n1_ := Aside0.mk (Kd.V_afterv (ok := (fun k_ => k_ ≠ gb223)) (by (with_reducible repeat (first | apply Kd.V_alloc | apply Kd.V_drewN | apply Kd.V_drew)); exact Kd.V_mono HO227.out (fun _ hk => ⟨hk.2, hk.1⟩)) hg hat); have n2_ := Aside0.mk (hb); have n3_ := Aside0.mk (ho); clear BK223; clear HO227; clear HB; clear HO_5; have BK223 := n0_; have HO227 := n1_; have HB := n2_; have HO234 := n3_; clear n0_ n1_ n2_ n3_; clear ho hb hg hat))
              go_roundg k1
              case measure => have := HK1.out; omega
              case rel => exact ⟨(y232), (wrap64 (x6_1 + 1)), (by first | rfl | (simp; done) | (simp [*]; done)), H', ⟨by have := HK1.out; omega⟩, ⟨by (with_reducible repeat (first | apply Kd.R_alloc | apply Kd.R_drewN | apply Kd.R_drew)); exact HO234.out⟩, ⟨by (with_reducible repeat (first | refine blk_drewN ?_ _ | refine blk_drew ?_ | refine blk_alloc ?_ _)); exact BK223.out⟩, ⟨by repeat (first | (with_reducible first | exact HB.out | apply below_alloc | apply pw_below_drewN | apply below_drew1 | refine below_set ?_ GE223.out) | exact HB.out)⟩⟩
            · rw [if_neg c14] at H
              exact absurd H (by simp)
        · rw [if_neg c5] at H
          exact absurd H (by simp)
      · rw [if_neg c4] at H
        have c4b0 : decide (x6_1 < (l1.length : Int)) = false := decide_eq_false c4
        clear c4
        obtain rfl := Option.some.inj H
        go_wp2
        go_ret
        exact ⟨_, by first | rfl | (simp [errW_none, errW_some] <;> rfl) | (simp [*, errW_none, errW_some] <;> rfl), by (with_reducible repeat (first | apply Kd.R_alloc | apply Kd.R_drewN | apply Kd.R_drew)); exact HO_5.out, by repeat (first | (with_reducible first | exact HB.out | apply below_alloc | apply pw_below_drewN | apply below_drew1 | refine below_set ?_ GE223.out) | exact HB.out)⟩

/-! ### slices_Equal_rune_rune: function 24 -/
def slices_Equal_rune_rune.l0 : Nat → List Int → List Int → Int → Int → Option (Bool)
  | 0, _, _, _, _ => none
  | k + 1, x0, x1, x12, x13 => if x13 < x12 then (if 0 ≤ x13 then (if x13 < (x0.length : Int) then (if x13 < (x1.length : Int) then (if (rd x0 x13) = (rd x1 x13) then (slices_Equal_rune_rune.l0 k x0 x1 x12 (wrap64 (x13 + 1))) else (some false)) else (none)) else (none)) else (none)) else (some true)
def slices_Equal_rune_rune.f (k : Nat) (l0 : List Int) (l1 : List Int) : Option (Bool) := if (l0.length : Int) = (l1.length : Int) then (slices_Equal_rune_rune.l0 k l0 l1 (l0.length : Int) 0) else (some false)
theorem slices_Equal_rune_rune.mono_l : ∀ k, (∀ y0 y1 y2 y3, LeO (slices_Equal_rune_rune.l0 k y0 y1 y2 y3) (slices_Equal_rune_rune.l0 (k + 1) y0 y1 y2 y3))
  | 0 => fun _ _ _ _ r h => by simp [slices_Equal_rune_rune.l0] at h
  | k + 1 => by
    have ih0 := slices_Equal_rune_rune.mono_l k
    · intro y0 y1 y2 y3
      unfold slices_Equal_rune_rune.l0
      repeat' first
      | (with_reducible exact ih0 _ _ _ _)
      | (with_reducible exact LeO.refl _)
      | (with_reducible exact LeO.none _)
      | (with_reducible refine LeO.ite ?_ ?_)
      | (with_reducible refine LeO.bind ?_ (fun _ => ?_))
      | exact ih0 _ _ _ _
      | exact LeO.none _
      | refine LeO.ite ?_ ?_
      | refine LeO.bind ?_ (fun _ => ?_)
theorem slices_Equal_rune_rune.mono : ∀ a0 a1 k, LeO (slices_Equal_rune_rune.f k a0 a1) (slices_Equal_rune_rune.f (k + 1) a0 a1) := by
  intro a0 a1 k
  have ih0 := slices_Equal_rune_rune.mono_l k
  unfold slices_Equal_rune_rune.f
  repeat' first
      | (with_reducible exact ih0 _ _ _ _)
      | (with_reducible exact LeO.refl _)
      | (with_reducible exact LeO.none _)
      | (with_reducible refine LeO.ite ?_ ?_)
      | (with_reducible refine LeO.bind ?_ (fun _ => ?_))
      | exact ih0 _ _ _ _
      | exact LeO.none _
      | refine LeO.ite ?_ ?_
      | refine LeO.bind ?_ (fun _ => ?_)
set_option maxHeartbeats 8000000 in
set_option maxRecDepth 100000 in
theorem slices_Equal_rune_rune.calls (k : Nat) (A0 : Option Addr) (c0 : Nat) (l0 : List Int) (A1 : Option Addr) (c1 : Nat) (l1 : List Int) (r : Bool) (w : World) (hr0 : Kd.C (Kd.int .i32) w A0 l0.length l0) (hc0 : l0.length ≤ c0) (hr1 : Kd.C (Kd.int .i32) w A1 l1.length l1) (hc1 : l1.length ≤ c1) (h : slices_Equal_rune_rune.f k l0 l1 = some r) :
    Calls Try.prog 24 #[.slice A0 l0.length c0, .slice A1 l1.length c1] w fun e w' => e = .returned (.bool r) ∧ Drawn0 w w' := by
  have HR0 := Aside0.mk hr0
  have HC0 := Aside0.mk hc0
  clear hr0 hc0
  have HR1 := Aside0.mk hr1
  have HC1 := Aside0.mk hc1
  clear hr1 hc1
  have H : (if (l0.length : Int) = (l1.length : Int) then (slices_Equal_rune_rune.l0 k l0 l1 (l0.length : Int) 0) else (some false)) = some r := h
  clear h
  by_cases c3 : (l0.length : Int) = (l1.length : Int)
  · rw [if_pos c3] at H
    have c3b0 : ((l0.length : Int) == (l1.length : Int)) = true := beq_iff_eq.mpr c3
    have c3b1 : ((l0.length : Int) != (l1.length : Int)) = false := bne_eq_false_iff_eq.mpr c3
    have c3b2 : (l0.length == l1.length) = true := by first | simpa using c3 | (simp at c3 ⊢; omega)
    clear c3
    have H' := Aside0.mk H
    clear H
    go_enter Try.func24, Try.ntmps24
    go_wp2
    repeat (go_quiet (fail); try go_wp2)
    go_loopg [13] k (fun kq v13 w' => ∃ (x13_1 : Int), v13 = .int .i64 x13_1 ∧ Aside0 (slices_Equal_rune_rune.l0 kq l0 l1 (l0.length : Int) x13_1 = some r) ∧ Aside0 (kq ≤ k) ∧ Drawn0 w w')
    case atStart => exact ⟨(0), (by first | rfl | (simp; done) | (simp [*]; done)), H', ⟨Nat.le_refl _⟩, by repeat (first | exact Drawn0.refl _ | apply Drawn0.step)⟩
    case round =>
      clear H'
      try clear c1
      try clear c2
      try clear p2
      try clear c3
      try clear c3b0
      try clear c3b1
      try clear c3b2
      obtain ⟨x13_1, rfl, HA, HK1, ⟨m1, rfl⟩⟩ := hrel
      cases gk with
      | zero => exact absurd HA.out (by simp [slices_Equal_rune_rune.l0])
      | succ k1 =>
        have H := HA.out
        clear HA
        simp only [slices_Equal_rune_rune.l0] at H
        by_cases c4 : x13_1 < (l0.length : Int)
        · rw [if_pos c4] at H
          have c4b0 : decide (x13_1 < (l0.length : Int)) = true := decide_eq_true c4
          clear c4
          by_cases c5 : 0 ≤ x13_1
          · rw [if_pos c5] at H
            have c5b0 : decide (0 ≤ x13_1) = true := decide_eq_true c5
            clear c5
            by_cases c6 : x13_1 < (l0.length : Int)
            · rw [if_pos c6] at H
              have c6b0 : decide (x13_1 < (l0.length : Int)) = true := decide_eq_true c6
              clear c6
              by_cases c7 : x13_1 < (l1.length : Int)
              · rw [if_pos c7] at H
                have c7b0 : decide (x13_1 < (l1.length : Int)) = true := decide_eq_true c7
                clear c7
                by_cases c8 : (rd l0 x13_1) = (rd l1 x13_1)
                · rw [if_pos c8] at H
                  have c8b0 : ((rd l0 x13_1) == (rd l1 x13_1)) = true := beq_iff_eq.mpr c8
                  have c8b1 : ((rd l0 x13_1) != (rd l1 x13_1)) = false := bne_eq_false_iff_eq.mpr c8
                  clear c8
                  have H' := Aside0.mk H
                  clear H
                  have p235 : 0 ≤ (x13_1 : Int) := of_decide_eq_true (by first | (with_reducible assumption) | assumption)
                  have q235 : x13_1 < (l0.length : Int) := of_decide_eq_true (by first | (with_reducible assumption) | assumption)
                  obtain ⟨ad235, e235, hx235_0⟩ := Kd.at_int HR0.out x13_1 p235 q235
                  cases e235
                  replace p235 := eq_true p235
                  replace q235 := eq_true q235
                  have p236 : 0 ≤ (x13_1 : Int) := of_decide_eq_true (by first | (with_reducible assumption) | assumption)
                  have q236 : x13_1 < (l1.length : Int) := of_decide_eq_true (by first | (with_reducible assumption) | assumption)
                  obtain ⟨ad236, e236, hx236_0⟩ := Kd.at_int HR1.out x13_1 p236 q236
                  cases e236
                  replace p236 := eq_true p236
                  replace q236 := eq_true q236
                  go_wp2
                  repeat (go_quiet (fail); try go_wp2)
                  go_roundg k1
                  case measure => have := HK1.out; omega
                  case rel => exact ⟨(wrap64 (x13_1 + 1)), (by first | rfl | (simp; done) | (simp [*]; done)), H', ⟨by have := HK1.out; omega⟩, by repeat (first | exact Drawn0.refl _ | apply Drawn0.step)⟩
                · rw [if_neg c8] at H
                  have c8b0 : ((rd l0 x13_1) == (rd l1 x13_1)) = false := beq_eq_false_iff_ne.mpr c8
                  have c8b1 : ((rd l0 x13_1) != (rd l1 x13_1)) = true := bne_iff_ne.mpr c8
                  obtain rfl := Option.some.inj H
                  have p235 : 0 ≤ (x13_1 : Int) := of_decide_eq_true (by first | (with_reducible assumption) | assumption)
                  have q235 : x13_1 < (l0.length : Int) := of_decide_eq_true (by first | (with_reducible assumption) | assumption)
                  obtain ⟨ad235, e235, hx235_0⟩ := Kd.at_int HR0.out x13_1 p235 q235
                  cases e235
                  replace p235 := eq_true p235
                  replace q235 := eq_true q235
                  have p236 : 0 ≤ (x13_1 : Int) := of_decide_eq_true (by first | (with_reducible assumption) | assumption)
                  have q236 : x13_1 < (l1.length : Int) := of_decide_eq_true (by first | (with_reducible assumption) | assumption)
                  obtain ⟨ad236, e236, hx236_0⟩ := Kd.at_int HR1.out x13_1 p236 q236
                  cases e236
                  replace p236 := eq_true p236
                  replace q236 := eq_true q236
                  go_wp2
                  repeat (go_quiet (fail); try go_wp2)
                  go_ret
                  exact ⟨by first | rfl | (simp; done) | (simp [*]; done), by repeat (first | exact Drawn0.refl _ | apply Drawn0.step)⟩
              · rw [if_neg c7] at H
                exact absurd H (by simp)
            · rw [if_neg c6] at H
              exact absurd H (by simp)
          · rw [if_neg c5] at H
            exact absurd H (by simp)
        · rw [if_neg c4] at H
          have c4b0 : decide (x13_1 < (l0.length : Int)) = false := decide_eq_false c4
          clear c4
          obtain rfl := Option.some.inj H
          go_wp2
          repeat (go_quiet (fail); try go_wp2)
          go_ret
          exact ⟨by first | rfl | (simp; done) | (simp [*]; done), by repeat (first | exact Drawn0.refl _ | apply Drawn0.step)⟩
  · rw [if_neg c3] at H
    have c3b0 : ((l0.length : Int) == (l1.length : Int)) = false := beq_eq_false_iff_ne.mpr c3
    have c3b1 : ((l0.length : Int) != (l1.length : Int)) = true := bne_iff_ne.mpr c3
    have c3b2 : (l0.length == l1.length) = false := by first | simpa using c3 | (simp at c3 ⊢; omega)
    obtain rfl := Option.some.inj H
    go_enter Try.func24, Try.ntmps24
    go_wp2
    repeat (go_quiet (fail); try go_wp2)
    go_ret
    exact ⟨by first | rfl | (simp; done) | (simp [*]; done), by repeat (first | exact Drawn0.refl _ | apply Drawn0.step)⟩

end Go.Proofs.Ytohnahbjmcelfaa.V
