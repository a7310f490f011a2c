-- Printed by this session's own turn of the print (wip/mkprint.py), with parts that were proved by hand.
-- HALVED
import Derived.Test.YtohnahbjmcelfaaDoorVx0
import Derived.Test.YtohnahbjmcelfaaDoorVx1
namespace Go.Proofs.YtohnahbjmcelfaaDoor.V
open Go.RowKit Go.Proofs.YtohnahbjmcelfaaDoorW.PrintWords Go.Proofs.YtohnahbjmcelfaaDoorW.PrintLast Go.Proofs.YtohnahbjmcelfaaDoorW.PrintMore Go.Proofs.YtohnahbjmcelfaaDoor.Er
attribute [local go_sem] max2_int min2_int max_two min_two max_three min_three max_four min_four   -- for this text's walks alone
set_option linter.unusedVariables false
set_option linter.unusedSimpArgs false

/-! ### eponymlaw01_Same: function 11 -/
def eponymlaw01_Same.l0 : Nat → List Int → List Int → Int → Option (Bool)
 | 0, _, _, _ => none
 | k + 1, x0, x1, x5 => if x5 < (x0.length : Int) then (if 0 ≤ x5 then (if x5 < (x1.length : Int) then (if (rd x0 x5) = (rd x1 x5) then (eponymlaw01_Same.l0 k x0 x1 (wrap64 (x5 + 1))) else (some false)) else (none)) else (none)) else (some true)
def eponymlaw01_Same.f (k : Nat) (l0 : List Int) (l1 : List Int) : Option (Bool) := if (l0.length : Int) = (l1.length : Int) then (eponymlaw01_Same.l0 k l0 l1 0) else (some false)
theorem eponymlaw01_Same.mono_l : ∀ k, (∀ y0 y1 y2, LeO (eponymlaw01_Same.l0 k y0 y1 y2) (eponymlaw01_Same.l0 (k + 1) y0 y1 y2))
 | 0 => fun _ _ _ r h => by simp [eponymlaw01_Same.l0] at h
 | k + 1 => by
  have ih0 := eponymlaw01_Same.mono_l k
  ·intro y0 y1 y2
   unfold eponymlaw01_Same.l0
   repeat' first
   | (with_reducible exact ih0 _ _ _)
   | (with_reducible exact LeO.refl _)
   | (with_reducible exact LeO.none _)
   | (with_reducible refine LeO.ite ?_ ?_)
   | (with_reducible refine LeO.bind ?_ (fun _ => ?_))
   | exact ih0 _ _ _
   | exact LeO.none _
   | refine LeO.ite ?_ ?_
   | refine LeO.bind ?_ (fun _ => ?_)
theorem eponymlaw01_Same.mono : ∀ a0 a1 k, LeO (eponymlaw01_Same.f k a0 a1) (eponymlaw01_Same.f (k + 1) a0 a1) := by
 intro a0 a1 k
 have ih0 := eponymlaw01_Same.mono_l k
 unfold eponymlaw01_Same.f
 repeat' first
   | (with_reducible exact ih0 _ _ _)
   | (with_reducible exact LeO.refl _)
   | (with_reducible exact LeO.none _)
   | (with_reducible refine LeO.ite ?_ ?_)
   | (with_reducible refine LeO.bind ?_ (fun _ => ?_))
   | exact ih0 _ _ _
   | exact LeO.none _
   | refine LeO.ite ?_ ?_
   | refine LeO.bind ?_ (fun _ => ?_)
set_option maxHeartbeats 8000000 in
set_option maxRecDepth 100000 in
theorem eponymlaw01_Same.calls (k : Nat) (A0 : Option Addr) (c0 : Nat) (l0 : List Int) (A1 : Option Addr) (c1 : Nat) (l1 : List Int) (r : Bool) (w : World) (hr0 : Kd.C (Kd.int .i32) w A0 l0.length l0) (hc0 : l0.length ≤ c0) (hr1 : Kd.C (Kd.int .i32) w A1 l1.length l1) (hc1 : l1.length ≤ c1) (h : eponymlaw01_Same.f k l0 l1 = some r) :
  Calls Tryd.prog 11 #[.slice A0 l0.length c0, .slice A1 l1.length c1] w fun e w' => e = .returned (.bool r) ∧ Drawn0 w w' := by
 have HR0 := Aside0.mk hr0
 have HC0 := Aside0.mk hc0
 clear hr0 hc0
 have HR1 := Aside0.mk hr1
 have HC1 := Aside0.mk hc1
 clear hr1 hc1
 have H : (if (l0.length : Int) = (l1.length : Int) then (eponymlaw01_Same.l0 k l0 l1 0) else (some false)) = some r := h
 clear h
 by_cases c3 : (l0.length : Int) = (l1.length : Int)
 ·rw [if_pos c3] at H
  have c3b0 : ((l0.length : Int) == (l1.length : Int)) = true := beq_iff_eq.mpr c3
  have c3b1 : ((l0.length : Int) != (l1.length : Int)) = false := bne_eq_false_iff_eq.mpr c3
  have c3b2 : (l0.length == l1.length) = true := by first | simpa using c3 | (simp at c3 ⊢; omega)
  clear c3
  have H' := Aside0.mk H
  clear H
  go_enter Tryd.func11, Tryd.ntmps11
  go_wp2
  repeat (go_quiet (fail); try go_wp2)
  go_loopg [5] k (fun kq v5 w' => ∃ (x5_1 : Int), v5 = .int .i64 x5_1 ∧ Aside0 (eponymlaw01_Same.l0 kq l0 l1 x5_1 = some r) ∧ Aside0 (kq ≤ k) ∧ Drawn0 w w')
  case atStart => exact ⟨(0), (by first | rfl | (simp; done) | (simp [*]; done)), H', ⟨Nat.le_refl _⟩, by repeat (first | exact Drawn0.refl _ | apply Drawn0.step)⟩
  case round =>
   clear H'
   try clear c1
   try clear p2
   try clear c3
   try clear c3b0
   try clear c3b1
   try clear c3b2
   obtain ⟨x5_1, rfl, HA, HK1, ⟨m1, rfl⟩⟩ := hrel
   cases gk with
   | zero => exact absurd HA.out (by simp [eponymlaw01_Same.l0])
   | succ k1 =>
    have H := HA.out
    clear HA
    simp only [eponymlaw01_Same.l0] at H
    by_cases c4 : x5_1 < (l0.length : Int)
    ·rw [if_pos c4] at H
     have c4b0 : decide (x5_1 < (l0.length : Int)) = true := decide_eq_true c4
     clear c4
     by_cases c5 : 0 ≤ x5_1
     ·rw [if_pos c5] at H
      have c5b0 : decide (0 ≤ x5_1) = true := decide_eq_true c5
      clear c5
      by_cases c6 : x5_1 < (l1.length : Int)
      ·rw [if_pos c6] at H
       have c6b0 : decide (x5_1 < (l1.length : Int)) = true := decide_eq_true c6
       clear c6
       by_cases c7 : (rd l0 x5_1) = (rd l1 x5_1)
       ·rw [if_pos c7] at H
        have c7b0 : ((rd l0 x5_1) == (rd l1 x5_1)) = true := beq_iff_eq.mpr c7
        have c7b1 : ((rd l0 x5_1) != (rd l1 x5_1)) = false := bne_eq_false_iff_eq.mpr c7
        clear c7
        have H' := Aside0.mk H
        clear H
        have p120 : 0 ≤ (x5_1 : Int) := of_decide_eq_true (by first | (with_reducible assumption) | assumption)
        have q120 : x5_1 < (l0.length : Int) := of_decide_eq_true (by first | (with_reducible assumption) | assumption)
        obtain ⟨ad120, e120, hx120_0⟩ := Kd.at_int HR0.out x5_1 p120 q120
        cases e120
        replace p120 := eq_true p120
        replace q120 := eq_true q120
        have p121 : 0 ≤ (x5_1 : Int) := of_decide_eq_true (by first | (with_reducible assumption) | assumption)
        have q121 : x5_1 < (l1.length : Int) := of_decide_eq_true (by first | (with_reducible assumption) | assumption)
        obtain ⟨ad121, e121, hx121_0⟩ := Kd.at_int HR1.out x5_1 p121 q121
        cases e121
        replace p121 := eq_true p121
        replace q121 := eq_true q121
        go_wp2
        repeat (go_quiet (fail); try go_wp2)
        go_roundg k1
        case measure => have := HK1.out; omega
        case rel => exact ⟨(wrap64 (x5_1 + 1)), (by first | rfl | (simp; done) | (simp [*]; done)), H', ⟨by have := HK1.out; omega⟩, by repeat (first | exact Drawn0.refl _ | apply Drawn0.step)⟩
       ·rw [if_neg c7] at H
        have c7b0 : ((rd l0 x5_1) == (rd l1 x5_1)) = false := beq_eq_false_iff_ne.mpr c7
        have c7b1 : ((rd l0 x5_1) != (rd l1 x5_1)) = true := bne_iff_ne.mpr c7
        obtain rfl := Option.some.inj H
        have p120 : 0 ≤ (x5_1 : Int) := of_decide_eq_true (by first | (with_reducible assumption) | assumption)
        have q120 : x5_1 < (l0.length : Int) := of_decide_eq_true (by first | (with_reducible assumption) | assumption)
        obtain ⟨ad120, e120, hx120_0⟩ := Kd.at_int HR0.out x5_1 p120 q120
        cases e120
        replace p120 := eq_true p120
        replace q120 := eq_true q120
        have p121 : 0 ≤ (x5_1 : Int) := of_decide_eq_true (by first | (with_reducible assumption) | assumption)
        have q121 : x5_1 < (l1.length : Int) := of_decide_eq_true (by first | (with_reducible assumption) | assumption)
        obtain ⟨ad121, e121, hx121_0⟩ := Kd.at_int HR1.out x5_1 p121 q121
        cases e121
        replace p121 := eq_true p121
        replace q121 := eq_true q121
        go_wp2
        repeat (go_quiet (fail); try go_wp2)
        go_ret
        exact ⟨by first | rfl | (simp; done) | (simp [*]; done), by repeat (first | exact Drawn0.refl _ | apply Drawn0.step)⟩
      ·rw [if_neg c6] at H
       exact absurd H (by simp)
     ·rw [if_neg c5] at H
      exact absurd H (by simp)
    ·rw [if_neg c4] at H
     have c4b0 : decide (x5_1 < (l0.length : Int)) = false := decide_eq_false c4
     clear c4
     obtain rfl := Option.some.inj H
     go_wp2
     repeat (go_quiet (fail); try go_wp2)
     go_ret
     exact ⟨by first | rfl | (simp; done) | (simp [*]; done), by repeat (first | exact Drawn0.refl _ | apply Drawn0.step)⟩
 ·rw [if_neg c3] at H
  have c3b0 : ((l0.length : Int) == (l1.length : Int)) = false := beq_eq_false_iff_ne.mpr c3
  have c3b1 : ((l0.length : Int) != (l1.length : Int)) = true := bne_iff_ne.mpr c3
  have c3b2 : (l0.length == l1.length) = false := by first | simpa using c3 | (simp at c3 ⊢; omega)
  obtain rfl := Option.some.inj H
  go_enter Tryd.func11, Tryd.ntmps11
  go_wp2
  repeat (go_quiet (fail); try go_wp2)
  go_ret
  exact ⟨by first | rfl | (simp; done) | (simp [*]; done), by repeat (first | exact Drawn0.refl _ | apply Drawn0.step)⟩

/-! ### variants_Key: function 12 -/
def variants_Key.l0 : Nat → List Int → Int → Int → ByteArray → List (List Int) → Option (List Int)
 | 0, _, _, _, _, _ => none
 | k + 1, x5, n, x17, a0_0, l0_1 => if x17 < n then (if 0 ≤ x17 then (if x17 < (x5.length : Int) then ((variants_find.f k a0_0 l0_1 (rd x5 x17)).bind fun t => (if (t.length : Int) > 0 then (variants_Key.l0 k (x5.set x17.toNat (rd t 0)) n (wrap64 (x17 + 1)) a0_0 l0_1) else (variants_Key.l0 k x5 n (wrap64 (x17 + 1)) a0_0 l0_1))) else none) else none) else some x5
def variants_Key.f (k : Nat) (a0_0 : ByteArray) (l0_1 : List (List Int)) (l1 : List Int) : Option (List Int) := if l1.length < 35184372088832 then (variants_Key.l0 k l1 (l1.length : Int) 0 a0_0 l0_1) else none
theorem variants_Key.mono_l : ∀ k, (∀ y0 y1 y2 y3 y4, LeO (variants_Key.l0 k y0 y1 y2 y3 y4) (variants_Key.l0 (k + 1) y0 y1 y2 y3 y4))
 | 0 => fun _ _ _ _ _ r h => by simp [variants_Key.l0] at h
 | k + 1 => by
  have ih0 := variants_Key.mono_l k
  intro y0 y1 y2 y3 y4
  unfold variants_Key.l0
  repeat' first
   | (with_reducible exact ih0 _ _ _ _ _)
   | (with_reducible exact variants_find.mono _ _ _ _)
   | (with_reducible exact LeO.refl _)
   | (with_reducible exact LeO.none _)
   | (with_reducible refine LeO.ite ?_ ?_)
   | (with_reducible refine LeO.bind ?_ (fun _ => ?_))
theorem variants_Key.mono : ∀ a0 a1 a2 k, LeO (variants_Key.f k a0 a1 a2) (variants_Key.f (k + 1) a0 a1 a2) := by
 intro a0 a1 a2 k
 have ih0 := variants_Key.mono_l k
 unfold variants_Key.f
 repeat' first
   | (with_reducible exact ih0 _ _ _ _ _)
   | (with_reducible exact LeO.refl _)
   | (with_reducible exact LeO.none _)
   | (with_reducible refine LeO.ite ?_ ?_)
theorem variants_Key.copied (l : List Int) (n : Nat) (h : n = l.length) : l.take (min l.length (List.replicate n (0 : Int)).length) ++ (List.replicate n (0 : Int)).drop (min l.length (List.replicate n (0 : Int)).length) = l := by
 subst h
 simp
set_option maxHeartbeats 8000000 in
set_option maxRecDepth 100000 in
theorem variants_Key.calls (k : Nat) (a0_0 : ByteArray) (A0_1 : Option Addr) (c0_1 : Nat) (l0_1 : List (List Int)) (A1 : Option Addr) (c1 : Nat) (l1 : List Int) (r : List Int) (w : World) (hr0_1 : Kd.C (Kd.slice 21 (Kd.int .i32)) w A0_1 l0_1.length l0_1) (hc0_1 : l0_1.length ≤ c0_1) (hr1 : Kd.C (Kd.int .i32) w A1 l1.length l1) (hc1 : l1.length ≤ c1) (h : variants_Key.f k a0_0 l0_1 l1 = some r) :
  Calls Tryd.prog 12 #[.agg #[.string a0_0, .slice A0_1 l0_1.length c0_1], .slice A1 l1.length c1] w fun e w' => ∃ v0_ : Value, e = .returned (v0_) ∧ Kd.R (Kd.int .i32) 21 w' w.heap.size (fun _ => True) v0_ r ∧ Below w.heap.size w w' := by
 unfold variants_Key.f at h
 by_cases hl : l1.length < 35184372088832
 rotate_left
 ·rw [if_neg hl] at h; exact absurd h (by simp)
 rw [if_pos hl] at h
 have hu24 := Tryd.underlying24
 have HR0_1 := Aside0.mk hr0_1
 have HC0_1 := Aside0.mk hc0_1
 clear hr0_1 hc0_1
 have HR1 := Aside0.mk hr1
 have HC1 := Aside0.mk hc1
 clear hr1 hc1
 have HI21 := Aside0.mk (show (Tryd.prog.info? 21).map (·.size) = some 1 by kernel_rfl)
 have HB := Aside0.mk (Below.refl w.heap.size w)
 have H' := Aside0.mk h
 have LM := Aside0.mk hl
 clear h hl
 go_enter Tryd.func12, Tryd.ntmps12
 go_wp2_with (first | ((with_reducible refine gate_dst (N := 2) rfl ?_); refine box_event ?hg (N := 2) ?hd (cs := #[.string a0_0, .slice A0_1 l0_1.length c0_1]) (t := 24) ?hr ?_; (case hd => rfl); (case hg => rfl); (case hr => first | (go_simp; done) | (go_simp; rfl)); intro gb hg w3 hbox hb; have n0_ := Aside0.mk (below_step (by repeat (first | (with_reducible first | exact HB.out | apply below_alloc | apply pw_below_drewN | apply below_drew1) | exact HB.out)) hb); have BK := Aside0.mk (hbox); have GW := Aside0.mk ((by rw [hg]; exact (below_size HB.out) : w.heap.size ≤ gb)); clear HB; have HB := n0_; clear n0_; clear hb hbox hg) | ((with_reducible refine gate_dst (N := 11) rfl ?_); refine Kd.R_make (Kd.int .i32) (w0 := w) w.heap.size 21 rfl (N := 11) rfl 25 (.tmp 10) (.tmp 10) rfl (l1.length : Int) rfl rfl Tryd.underlying25 (.int .i32 0) 4 info21 rfl (by decide) (by decide) (0 : Int) (ok := fun _ => True) (okp := fun _ => True) ?mz (fun _ hk => hk) trivial (by omega) ?ml ?mB ?mS ?_; (case mz => rfl); (case ml => have := LM.out; omega); (case mB => exact HB.out); (case mS => exact (below_size HB.out)); intro v1 w4 ho hb hg_ hat; have n0_ := Aside0.mk ho; have n1_ := Aside0.mk (blk_grown BK.out hg_ (by simp)); clear HB BK; have HB := Aside0.mk hb; have HO := n0_; have BK := n1_; clear n0_ n1_ ho hb hg_ hat; obtain ⟨Ao, co, eo⟩ := Kd.R_slice HO.out; subst eo; have n2_ := Aside0.mk (show Kd.R (Kd.int .i32) 21 w4 w.heap.size (fun _ => True) (.slice Ao l1.length co) (List.replicate l1.length (0 : Int)) from by simpa using HO.out); clear HO; have HO := n2_; clear n2_) | ((with_reducible refine gate_builtin (b := .copy) (xs := #[.tmp 12, .tmp 13]) rfl ?_); refine Kd.R_copy (enc := Value.int .i32) (h1 := fun _ => rfl) (0 : Int) (w0 := w) w.heap.size rfl (.tmp 12) (.tmp 13) 25 25 21 rfl Tryd.underlying25 HI21.out (.slice Ao l1.length co) (List.replicate l1.length (0 : Int)) l1 A1 l1.length c1 (fun _ => True) rfl rfl ?aO ?aR ?aB ?aS ?_; (case aR => exact Kd.C_below HR1.out HB.out); (case aB => exact HB.out); (case aO => exact HO.out); (case aS => exact (below_size HB.out)); intro w5 ho hb hg; rw [variants_Key.copied l1 _ (by simp)] at ho; have n1_ := Aside0.mk (blk_grown BK.out hg (Kd.R_ne HO.out BK.out (by decide))); have n0_ := Aside0.mk ho; clear HB BK HO; have HB := Aside0.mk hb; have HO := n0_; have BK := n1_; clear n0_ n1_ ho hb hg))
 go_loopg [17] k (fun kq v17 w' => ∃ (xs : List Int) (x17 : Int), v17 = .int .i64 x17 ∧ Aside0 (variants_Key.l0 kq xs (l1.length : Int) x17 a0_0 l0_1 = some r) ∧ Aside0 (kq ≤ k) ∧ Aside0 (xs.length = l1.length) ∧ Aside0 (Kd.R (Kd.int .i32) 21 w' w.heap.size (fun _ => True) (.slice Ao l1.length co) xs) ∧ Aside0 (w'.heap[gb]? = some (.cells #[.string a0_0, .slice A0_1 l0_1.length c0_1] 24 (0, 0))) ∧ Aside0 (Below w.heap.size w w'))
 case atStart => exact ⟨l1, 0, rfl, H', ⟨Nat.le_refl _⟩, ⟨rfl⟩, HO, BK, HB⟩
 case round =>
  clear H' HO BK HB
  obtain ⟨xs, x17, rfl, HA, HK1, HXL, HO, BK, HB⟩ := hrel
  cases gk with
  | zero => exact absurd HA.out (by simp [variants_Key.l0])
  | succ k1 =>
   have H := HA.out
   clear HA
   simp only [variants_Key.l0] at H
   by_cases c4 : x17 < (l1.length : Int)
   ·rw [if_pos c4] at H
    have c4b0 : decide (x17 < (l1.length : Int)) = true := decide_eq_true c4
    by_cases c5 : 0 ≤ x17
    ·rw [if_pos c5] at H
     by_cases c6 : x17 < (xs.length : Int)
     ·rw [if_pos c6] at H
      replace H := Option.bind_eq_some_iff.mp H
      obtain ⟨t, A70, H⟩ := H
      have A7 := Aside0.mk A70
      clear A70
      obtain ⟨go, cg, eg, gb1, gl1, cl1, HG1⟩ := Kd.R_form HO.out (by omega)
      injection eg with ea_ en_ ec_
      subst ea_
      clear en_ ec_ cl1 HG1
      have GB := Aside0.mk gb1
      clear gb1 gl1
      have hx0 := (Kd.R_celln (0 : Int) HO.out x17 c5 c4).1
      have hcz0 : wr.cell? ⟨gb, 0, none⟩ = some (.string a0_0) := (blk_cell BK.out 0).trans rfl
      have hcz1 : wr.cell? ⟨gb, 1, none⟩ = some (.slice A0_1 l0_1.length c0_1) := (blk_cell BK.out 1).trans rfl
      by_cases c7 : (t.length : Int) > 0
      ·rw [if_pos c7] at H
       have H' := Aside0.mk H
       clear H
       have c7b0 : decide (0 < (t.length : Int)) = true := decide_eq_true c7
       have c7b1 : decide (0 < t.length) = true := decide_eq_true (by omega)
       go_wp2_with (first | ((with_reducible refine gate_callee (f := 20) rfl ?_); refine goesL_ (some 24) rfl rfl Tryd.func20 (by kernel_rfl) rfl #[.agg #[.string a0_0, .slice A0_1 l0_1.length c0_1], .int .i32 (rd xs x17)] rfl (by (try simp only [List.map_toArray, List.map_cons, List.map_nil]); first | done | rfl | (simp only [List.length_drop, List.length_take]; rfl)) ?_; (with_reducible refine (variants_find.calls k1 a0_0 (fun k_ => k_ < w.heap.size) _ _ l0_1 (rd xs x17) t _ ?side1 A7.out).mono ?_); (case side1 => exact Kd.V_mk HC0_1.out (Kd.F_below (Kd.C_F (Kd.heap_slice 21 (Kd.heap_int .i32)) HR0_1.out) HB.out)); rintro e w11 ⟨v248, rfl, ho0, hb⟩; refine ⟨_, rfl, ?_⟩; have n0_ := Aside0.mk ho0; have n1_ := Aside0.mk (blk_below BK.out hb); have n2_ := Aside0.mk (below_step HB.out hb); have n3_ := Aside0.mk (Kd.R_below HO.out hb); clear BK HB HO; have HT := n0_; have BK := n1_; have HB := n2_; have HO := n3_; clear n0_ n1_ n2_ n3_ hb ho0 hx0; obtain ⟨Ao12, co12, eo12⟩ := Kd.V_slice HT.out; subst eo12; obtain ⟨ad2, e2, hx2⟩ := Kd.at_int (Kd.V_reads' HT.out).2.2 0 (by omega) (by omega); cases e2; rw [show ((0 : Int)).toNat = 0 from rfl] at hx2; rw [Addr.add_zero'] at hx2; obtain ⟨hx1, hf1⟩ := Kd.R_celln (0 : Int) HO.out x17 c5 c4; have HP := Aside0.mk (Kd.R_putg HO.out x17 (rd t 0))))
       go_roundg k1
       case measure => have := HK1.out; omega
       case rel => exact ⟨xs.set x17.toNat (rd t 0), wrap64 (x17 + 1), (by first | rfl | (simp; done) | (simp [*]; done)), H', ⟨by have := HK1.out; omega⟩, ⟨by rw [List.length_set]; exact HXL.out⟩, ⟨HP.out.1⟩, ⟨blk_grown BK.out HP.out.2 (Kd.R_ne HO.out BK.out (by decide))⟩, ⟨below_set HB.out GB.out⟩⟩
      ·rw [if_neg c7] at H
       have H' := Aside0.mk H
       clear H
       have c7b0 : decide (0 < (t.length : Int)) = false := decide_eq_false c7
       have c7b1 : decide (0 < t.length) = false := decide_eq_false (by omega)
       go_wp2_with (first | ((with_reducible refine gate_callee (f := 20) rfl ?_); refine goesL_ (some 24) rfl rfl Tryd.func20 (by kernel_rfl) rfl #[.agg #[.string a0_0, .slice A0_1 l0_1.length c0_1], .int .i32 (rd xs x17)] rfl (by (try simp only [List.map_toArray, List.map_cons, List.map_nil]); first | done | rfl | (simp only [List.length_drop, List.length_take]; rfl)) ?_; (with_reducible refine (variants_find.calls k1 a0_0 (fun k_ => k_ < w.heap.size) _ _ l0_1 (rd xs x17) t _ ?side1 A7.out).mono ?_); (case side1 => exact Kd.V_mk HC0_1.out (Kd.F_below (Kd.C_F (Kd.heap_slice 21 (Kd.heap_int .i32)) HR0_1.out) HB.out)); rintro e w11 ⟨v248, rfl, ho0, hb⟩; refine ⟨_, rfl, ?_⟩; have n0_ := Aside0.mk ho0; have n1_ := Aside0.mk (blk_below BK.out hb); have n2_ := Aside0.mk (below_step HB.out hb); have n3_ := Aside0.mk (Kd.R_below HO.out hb); clear BK HB HO; have HT := n0_; have BK := n1_; have HB := n2_; have HO := n3_; clear n0_ n1_ n2_ n3_ hb ho0 hx0; obtain ⟨Ao12, co12, eo12⟩ := Kd.V_slice HT.out; subst eo12))
       go_roundg k1
       case measure => have := HK1.out; omega
       case rel => exact ⟨xs, wrap64 (x17 + 1), (by first | rfl | (simp; done) | (simp [*]; done)), H', ⟨by have := HK1.out; omega⟩, HXL, HO, BK, HB⟩
     ·rw [if_neg c6] at H
      exact absurd H (by simp)
    ·rw [if_neg c5] at H
     exact absurd H (by simp)
   ·rw [if_neg c4] at H
    have c4b0 : decide (x17 < (l1.length : Int)) = false := decide_eq_false c4
    obtain rfl := Option.some.inj H
    go_wp2
    go_ret
    refine ⟨_, rfl, ?_, HB.out⟩
    exact HO.out

end Go.Proofs.YtohnahbjmcelfaaDoor.V
