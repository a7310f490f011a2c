-- Printed by this session's own turn of the print (wip/mkprint.py), with parts that were proved by hand.
-- HALVED
import Derived.Test.YtohnahbjmcelfaaDoorVx0
import Derived.Test.YtohnahbjmcelfaaDoorVx5
namespace Go.Proofs.YtohnahbjmcelfaaDoor.V
open Go.RowKit Go.Proofs.YtohnahbjmcelfaaDoorW.PrintWords Go.Proofs.YtohnahbjmcelfaaDoorW.PrintLast Go.Proofs.YtohnahbjmcelfaaDoorW.PrintMore Go.Proofs.YtohnahbjmcelfaaDoor.Er
attribute [local go_sem] max2_int min2_int max_two min_two max_three min_three max_four min_four   -- for this text's walks alone
set_option linter.unusedVariables false
set_option linter.unusedSimpArgs false

/-! ### utf_Decode: function 27 -/
def utf_Decode.l0 : Nat → ByteArray → List Int → Int → Option (List Int × Option Int)
 | 0, _, _, _ => none
 | k + 1, x0, x4, x5 => if x5 < (x0.size : Int) then ((utf_Next.f k x0 x5).bind fun bt157 => (if bt157.2.2.isNone = true then (if x4.length < 35184372088832 then (utf_Decode.l0 k x0 (x4 ++ [bt157.1]) (wrap64 (x5 + bt157.2.1))) else (none)) else (some (([] : List Int), some (bt157.2.2.getD 0))))) else (some (x4, none))
def utf_Decode.f (k : Nat) (a0 : ByteArray) : Option (List Int × Option Int) := utf_Decode.l0 k a0 ([] : List Int) 0
theorem utf_Decode.mono_l : ∀ k, (∀ y0 y1 y2, LeO (utf_Decode.l0 k y0 y1 y2) (utf_Decode.l0 (k + 1) y0 y1 y2))
 | 0 => fun _ _ _ r h => by simp [utf_Decode.l0] at h
 | k + 1 => by
  have ih0 := utf_Decode.mono_l k
  ·intro y0 y1 y2
   unfold utf_Decode.l0
   repeat' first
   | (with_reducible exact ih0 _ _ _)
   | (with_reducible exact utf_Next.mono _ _ _)
   | (with_reducible exact LeO.refl _)
   | (with_reducible exact LeO.none _)
   | (with_reducible refine LeO.ite ?_ ?_)
   | (with_reducible refine LeO.bind ?_ (fun _ => ?_))
   | exact ih0 _ _ _
   | exact utf_Next.mono _ _ _
   | exact LeO.none _
   | refine LeO.ite ?_ ?_
   | refine LeO.bind ?_ (fun _ => ?_)
theorem utf_Decode.mono : ∀ a0 k, LeO (utf_Decode.f k a0) (utf_Decode.f (k + 1) a0) := by
 intro a0 k
 have ih0 := utf_Decode.mono_l k
 unfold utf_Decode.f
 repeat' first
   | (with_reducible exact ih0 _ _ _)
   | (with_reducible exact utf_Next.mono _ _ _)
   | (with_reducible exact LeO.refl _)
   | (with_reducible exact LeO.none _)
   | (with_reducible refine LeO.ite ?_ ?_)
   | (with_reducible refine LeO.bind ?_ (fun _ => ?_))
   | exact ih0 _ _ _
   | exact utf_Next.mono _ _ _
   | exact LeO.none _
   | refine LeO.ite ?_ ?_
   | refine LeO.bind ?_ (fun _ => ?_)
set_option maxHeartbeats 8000000 in
set_option maxRecDepth 100000 in
theorem utf_Decode.calls (sv : Nat → Addr) (k : Nat) (a0 : ByteArray) (r1 : List Int) (r2 : Option Int) (w : World) (hsv : Laid sv w) (h : utf_Decode.f k a0 = some (r1, r2)) :
  Calls Tryd.prog 27 #[.string a0] w fun e w' => ∃ v0_ : Value, e = .returned (.tuple #[v0_, errV w' r2]) ∧ Kd.R (Kd.int .i32) 21 w' w.heap.size (fun _ => True) v0_ r1 ∧ ErrAt sv w' r2 ∧ Below w.heap.size w w' := by
 have hu29 := Tryd.underlying29
 have HB := Aside0.mk (Below.refl w.heap.size w)
 have HSV := Aside0.mk hsv
 clear hsv
 have H : (utf_Decode.l0 k a0 ([] : List Int) 0) = some (r1, r2) := h
 clear h
 have H' := Aside0.mk H
 clear H
 go_enter Tryd.func27, Tryd.ntmps27
 go_wp2
 go_loopg [4, 5] k (fun kq v4 v5 w' => ∃ (x4_1 : List Int) (x5_1 : Int), v5 = .int .i64 x5_1 ∧ Aside0 (utf_Decode.l0 kq a0 x4_1 x5_1 = some (r1, r2)) ∧ Aside0 (kq ≤ k) ∧ Aside0 (Kd.R (Kd.int .i32) 21 w' w.heap.size (fun _ => True) v4 x4_1) ∧ Aside0 (Below w.heap.size w w'))
 case atStart => exact ⟨(([] : List Int)), (0), (by first | rfl | (simp; done) | (simp [*]; done)), H', ⟨Nat.le_refl _⟩, ⟨by first | exact Kd.R_nil _ _ _ _ _ | exact Kd.N_nil _ _ _ _ _ | exact Kd.V_nil _ _ _ _ _ | exact Kd.Q_nil _ _ _ _ _ | exact Kd.S_nil _ _ _ _ _⟩, ⟨by repeat (first | (with_reducible first | exact HB.out | apply below_alloc | apply pw_below_drewN | apply below_drew1) | exact HB.out)⟩⟩
 case round =>
  clear H'
  obtain ⟨x4_1, x5_1, rfl, HA, HK1, HO_4, HB⟩ := hrel
  cases gk with
  | zero => exact absurd HA.out (by simp [utf_Decode.l0])
  | succ k1 =>
   have H := HA.out
   clear HA
   simp only [utf_Decode.l0] at H
   by_cases c2 : x5_1 < (a0.size : Int)
   ·rw [if_pos c2] at H
    have c2b0 : decide (x5_1 < (a0.size : Int)) = true := decide_eq_true c2
    clear c2
    replace H := Option.bind_eq_some_iff.mp H
    obtain ⟨⟨t157, t158, t159⟩, A30, H⟩ := H
    replace H : (if t159.isNone = true then (if x4_1.length < 35184372088832 then (utf_Decode.l0 k1 a0 (x4_1 ++ [t157]) (wrap64 (x5_1 + t158))) else (none)) else (some (([] : List Int), some (t159.getD 0)))) = some (r1, r2) := H
    have A3 := Aside0.mk A30
    clear A30
    rcases t159 with _ | q160
    ·have H1 : (if x4_1.length < 35184372088832 then (utf_Decode.l0 k1 a0 (x4_1 ++ [t157]) (wrap64 (x5_1 + t158))) else (none)) = some (r1, r2) := by rw [if_pos (show (none : Option Int).isNone = true by rfl)] at H; exact H
     clear H
     have H := H1
     clear H1
     try simp only [errV_none, errV_some]
     by_cases c4 : x4_1.length < 35184372088832
     ·rw [if_pos c4] at H
      have LMc4 := Aside0.mk c4
      clear c4
      obtain ⟨y161, hy161⟩ : ∃ y_ : List Int, y_ = (x4_1 ++ [t157]) := ⟨_, rfl⟩
      replace H : (utf_Decode.l0 k1 a0 y161 (wrap64 (x5_1 + t158))) = some (r1, r2) := by first | (rw [hy161]; with_reducible exact H) | (have H2_ := (Option.bind_some _ _).symm.trans H; rw [hy161]; with_reducible exact H2_) | (have H2_ := (Option.bind_some _ _).symm.trans H; with_reducible exact H2_) | with_reducible exact H | (rw [hy161]; exact H) | exact H
      have Ny161 := Aside0.mk hy161
      clear hy161
      have H' := Aside0.mk H
      clear H
      go_wp2_with (first | ((with_reducible refine gate_callee (f := 39) rfl ?_); refine goesL_ (some 16) rfl rfl Tryd.func39 (by kernel_rfl) rfl #[.string a0, .int .i64 x5_1] rfl (by (try simp only [List.map_toArray, List.map_cons, List.map_nil]); first | done | rfl | (simp only [List.length_drop, List.length_take]; rfl)) ?_; (with_reducible refine (utf_Next.calls sv k1 a0 x5_1 t157 t158 none _ (Laid.below HSV.out (by repeat (first | (with_reducible first | exact HB.out | apply below_alloc | apply pw_below_drewN | apply below_drew1) | exact HB.out))) A3.out).mono ?_); rintro e w5 ⟨rfl, hE_, hb⟩; have HEA := Aside0.mk hE_; clear hE_; refine ⟨_, rfl, ?_⟩; have n0_ := Aside0.mk (Kd.R_below (by (with_reducible repeat (first | apply Kd.R_alloc | apply Kd.R_drewN | apply Kd.R_drew)); exact HO_4.out) hb); have n1_ := Aside0.mk (below_step (by repeat (first | (with_reducible first | exact HB.out | apply below_alloc | apply pw_below_drewN | apply below_drew1) | exact HB.out)) hb); clear HO_4; clear HB; have HO_4 := n0_; have HB := n1_; clear n0_ n1_; (try clear hb); (try clear hb2); (try clear hk); (try clear hi); (try simp only [errV_none, errV_some])) | ((with_reducible refine gate_builtin (b := .append) (xs := #[.tmp 23, .tmp 25]) rfl ?_); at_builtin; refine Kd.R_append (Kd.int .i32) (w0 := w) w.heap.size rfl (.tmp 23) (.tmp 25) 25 21 (.int .i32 0) 4 rfl Tryd.underlying25 info21 rfl (by decide) (by omega) u4 x4_1 t157 [.int .i32 t157] (fun _ => True) (fun _ => False) rfl rfl ?aP (fun _ hk => hk.elim) ?aF ?aO ?aB ?aS ?aL ?_; (case aP => exact rfl); (case aB => exact (by repeat (first | (with_reducible first | exact HB.out | apply below_alloc | apply pw_below_drewN | apply below_drew1) | exact HB.out))); (case aF => exact (fun _ _ => trivial)); (case aO => exact (by (with_reducible repeat (first | apply Kd.R_alloc | apply Kd.R_drewN | apply Kd.R_drew)); exact HO_4.out)); (case aS => exact (below_size (by repeat (first | (with_reducible first | exact HB.out | apply below_alloc | apply pw_below_drewN | apply below_drew1) | exact HB.out)))); (case aL => have := LMc4.out; omega); intro v162 w6 ho hb hg hat; rw [← Ny161.out] at ho; have n0_ := Aside0.mk (hb); have n1_ := Aside0.mk (ho); clear HB; clear HO_4; have HB := n0_; have HO163 := n1_; clear n0_ n1_; clear ho hb hg hat))
      go_roundg k1
      case measure => have := HK1.out; omega
      case rel => exact ⟨(y161), (wrap64 (x5_1 + t158)), (by first | rfl | (simp; done) | (simp [*]; done)), H', ⟨by have := HK1.out; omega⟩, ⟨by (with_reducible repeat (first | apply Kd.R_alloc | apply Kd.R_drewN | apply Kd.R_drew)); exact HO163.out⟩, ⟨by repeat (first | (with_reducible first | exact HB.out | apply below_alloc | apply pw_below_drewN | apply below_drew1) | exact HB.out)⟩⟩
     ·rw [if_neg c4] at H
      exact absurd H (by simp)
    ·have H1 : (some (([] : List Int), some q160)) = some (r1, r2) := by rw [if_neg (show ¬ (some q160).isNone = true by simp)] at H; exact H
     clear H
     have H := H1
     clear H1
     try simp only [errV_none, errV_some]
     simp only [Option.some.injEq, Prod.mk.injEq] at H
     obtain ⟨rfl, rfl⟩ := H
     go_wp2_with (first | ((with_reducible refine gate_callee (f := 39) rfl ?_); refine goesL_ (some 16) rfl rfl Tryd.func39 (by kernel_rfl) rfl #[.string a0, .int .i64 x5_1] rfl (by (try simp only [List.map_toArray, List.map_cons, List.map_nil]); first | done | rfl | (simp only [List.length_drop, List.length_take]; rfl)) ?_; (with_reducible refine (utf_Next.calls sv k1 a0 x5_1 t157 t158 (some q160) _ (Laid.below HSV.out (by repeat (first | (with_reducible first | exact HB.out | apply below_alloc | apply pw_below_drewN | apply below_drew1) | exact HB.out))) A3.out).mono ?_); rintro e w7 ⟨rfl, hE_, hb⟩; have HEA := Aside0.mk hE_; clear hE_; refine ⟨_, rfl, ?_⟩; have n0_ := Aside0.mk (Kd.R_below (by (with_reducible repeat (first | apply Kd.R_alloc | apply Kd.R_drewN | apply Kd.R_drew)); exact HO_4.out) hb); have n1_ := Aside0.mk (below_step (by repeat (first | (with_reducible first | exact HB.out | apply below_alloc | apply pw_below_drewN | apply below_drew1) | exact HB.out)) hb); clear HO_4; clear HB; have HO_4 := n0_; have HB := n1_; clear n0_ n1_; (try clear hb); (try clear hb2); (try clear hk); (try clear hi); (try simp only [errV_none, errV_some])))
     go_ret2
     exact ⟨_, by first | rfl | (simp [errV_none, errV_some] <;> rfl) | (simp [*, errV_none, errV_some] <;> rfl), by first | exact Kd.R_nil _ _ _ _ _ | exact Kd.N_nil _ _ _ _ _ | exact Kd.V_nil _ _ _ _ _ | exact Kd.Q_nil _ _ _ _ _ | exact Kd.S_nil _ _ _ _ _, (by first | exact trivial | exact HEA.out), by repeat (first | (with_reducible first | exact HB.out | apply below_alloc | apply pw_below_drewN | apply below_drew1) | exact HB.out)⟩
   ·rw [if_neg c2] at H
    have c2b0 : decide (x5_1 < (a0.size : Int)) = false := decide_eq_false c2
    clear c2
    simp only [Option.some.injEq, Prod.mk.injEq] at H
    obtain ⟨rfl, rfl⟩ := H
    go_wp2
    go_ret2
    exact ⟨_, by first | rfl | (simp [errV_none, errV_some] <;> rfl) | (simp [*, errV_none, errV_some] <;> rfl), by (with_reducible repeat (first | apply Kd.R_alloc | apply Kd.R_drewN | apply Kd.R_drew)); exact HO_4.out, (by first | exact trivial | exact HEA.out), by repeat (first | (with_reducible first | exact HB.out | apply below_alloc | apply pw_below_drewN | apply below_drew1) | exact HB.out)⟩

/-! ### utf_Valid: function 15 -/
def utf_Valid.f (k : Nat) (a0 : ByteArray) : Option Bool := (utf_Decode.f k a0).bind fun t => some t.2.isNone
theorem utf_Valid.mono : ∀ a0 k, LeO (utf_Valid.f k a0) (utf_Valid.f (k + 1) a0) := by
 intro a0 k
 unfold utf_Valid.f
 exact LeO.bind (utf_Decode.mono _ _) (fun _ => LeO.refl _)
theorem as_fault_at (g : Nat) (e : Addr) (w : World) (hg : EType w) (ht : w.heap[g]? = some (.cells #[.pointer none] 51 (0, 0))) :
  Calls Tryd.prog 24 #[.iface 51 (.pointer (some e)), .iface 53 (.pointer (some ⟨g, 0, none⟩))] w fun ev w' => ev = .returned (.bool true) ∧ w'.cell? ⟨g, 0, none⟩ = some (.pointer (some e)) ∧ Below g w w' := by
 have hlt := blk_lt ht
 refine (As.as_hit e ⟨g, 0, none⟩ (.pointer none) w hg ((blk_cell ht 0).trans rfl) (blk_frozen ht 0)).mono ?_
 rintro ev w' ⟨rfl, rfl⟩
 refine ⟨rfl, (blk_cell (blk_put (cs := #[.pointer none]) (blk_alloc (blk_alloc (blk_alloc (blk_alloc ht _) _) _) _) 0 _ rfl) 0).trans rfl, ?_⟩
 exact ((((((Below.refl g w).alloc (by omega) _).alloc (by simp; omega) _).alloc (by simp; omega) _).alloc (by simp; omega) _).setCell (Nat.le_refl _) _)
theorem utf_Valid.calls (sv : Nat → Addr) (k : Nat) (a0 : ByteArray) (r : Bool) (w : World) (hsv : Laid sv w) (h : utf_Valid.f k a0 = some r) :
  Calls Tryd.prog 15 #[.string a0] w fun e w' => e = .returned (.bool r) ∧ Below w.heap.size w w' := by
 unfold utf_Valid.f at h
 obtain ⟨⟨l, x⟩, hd, hr⟩ := Option.bind_eq_some_iff.mp h
 obtain rfl := Option.some.inj hr
 have HD := Aside0.mk hd
 have HSV := Aside0.mk hsv
 clear h hr hd hsv
 have hn := blk_new w (.cells #[.pointer none] 51)
 have ha : Below w.heap.size w (w.alloc (.cells #[.pointer none] 51)) := below_alloc (Below.refl _ _) _
 have HN := Aside0.mk hn
 have HA := Aside0.mk ha
 clear hn ha
 have HB := Aside0.mk (Below.refl w.heap.size w)
 cases x with
 | none =>
  go_enter Tryd.func15, Tryd.ntmps15
  go_wp2_with (first | (go_at_call 27; refine (utf_Decode.calls sv k a0 l none _ (Laid.below HSV.out HA.out) HD.out).mono ?_; rintro e w2 ⟨v0, rfl, hR, hE, hb⟩; (try simp only [errV_none]); have HB2 := Aside0.mk (below_step HA.out hb); clear hR hE hb) | (go_at_call 24; refine (As.as_nil _ _).mono ?_; rintro e w3 ⟨rfl, rfl⟩))
  go_ret
  exact ⟨rfl, HB2.out⟩
 | some y =>
  go_enter Tryd.func15, Tryd.ntmps15
  go_wp2_with (first | (go_at_call 27; refine (utf_Decode.calls sv k a0 l (some y) _ (Laid.below HSV.out HA.out) HD.out).mono ?_; rintro e w2 ⟨v0, rfl, hR, hE, hb⟩; (try simp only [errV_some]); have HB2 := Aside0.mk (below_step HA.out hb); have HT := Aside0.mk (blk_below HN.out hb); clear hR hE hb) | (go_at_call 24; refine (as_fault_at w.heap.size _ _ (EType.below HSV.out.etype HB2.out) HT.out).mono ?_; rintro e w3 ⟨rfl, hc3, hb3⟩; have HB3 := Aside0.mk (HB2.out.trans hb3); clear hc3 hb3))
  go_ret
  exact ⟨rfl, HB3.out⟩

/-! ### variants_fault: function 16 -/
def variants_fault.f (at_ : Int) (c : Nat) : Option (Option Int) := if c ≠ 0 ∧ c < 64 then some (some (enc at_ c)) else none
theorem variants_fault_walk (sv : Nat → Addr) (at_ : Int) (c : Nat) (hc : c < 64) (h0 : c ≠ 0) (w : World) : Calls Tryd.prog 16 #[.int .i64 at_, senW sv c] w fun e w' => e = .returned (errV w' (some (enc at_ c))) ∧ ErrAt sv w' (some (enc at_ c)) ∧ Below w.heap.size w w' := by
 refine fault_calls sv at_ c hc w ?_
 go_enter Tryd.func16, Tryd.ntmps16
 have hu := Tryd.underlying55
 obtain ⟨sw, hsw⟩ : ∃ sw, senW sv c = .iface 107 sw := ⟨_, senW_pos sv c h0⟩
 rw [hsw]
 go_wp2
 go_ret
 exact ⟨rfl, rfl⟩
theorem variants_fault.calls (sv : Nat → Addr) (at_ : Int) (c : Nat) (r : Option Int) (w : World) (hsv : Laid sv w) (h : variants_fault.f at_ c = some r) : Calls Tryd.prog 16 #[.int .i64 at_, senW sv c] w fun e w' => e = .returned (errV w' r) ∧ ErrAt sv w' r ∧ Below w.heap.size w w' := by
 unfold variants_fault.f at h
 by_cases hc : c ≠ 0 ∧ c < 64
 ·rw [if_pos hc] at h
  obtain rfl := Option.some.inj h
  exact variants_fault_walk sv at_ c hc.2 hc.1 w
 ·rw [if_neg hc] at h
  exact absurd h (by simp)

/-! ### utf_Right: function 28 -/
def utf_Right.f (a0 : Int) : Option (Bool) := if a0 ≥ 0 then (if a0 ≤ 1114111 then (if a0 < 55296 then (some true) else (some (decide (a0 > 57343)))) else (some false)) else (some false)
set_option maxHeartbeats 8000000 in
set_option maxRecDepth 100000 in
theorem utf_Right.calls (a0 : Int) (r : Bool) (w : World) (h : utf_Right.f a0 = some r) :
  Calls Tryd.prog 28 #[.int .i32 a0] w fun e w' => e = .returned (.bool r) ∧ Drawn0 w w' := by
 have H : (if a0 ≥ 0 then (if a0 ≤ 1114111 then (if a0 < 55296 then (some true) else (some (decide (a0 > 57343)))) else (some false)) else (some false)) = some r := h
 clear h
 by_cases c2 : a0 ≥ 0
 ·rw [if_pos c2] at H
  have c2b0 : decide (0 ≤ a0) = true := decide_eq_true c2
  clear c2
  by_cases c3 : a0 ≤ 1114111
  ·rw [if_pos c3] at H
   have c3b0 : decide (a0 ≤ 1114111) = true := decide_eq_true c3
   clear c3
   by_cases c4 : a0 < 55296
   ·rw [if_pos c4] at H
    have c4b0 : decide (a0 < 55296) = true := decide_eq_true c4
    clear c4
    obtain rfl := Option.some.inj H
    go_enter Tryd.func28, Tryd.ntmps28
    go_wp2
    go_ret
    exact ⟨by first | rfl | (simp; done) | (simp [*]; done), by repeat (first | exact Drawn0.refl _ | apply Drawn0.step)⟩
   ·rw [if_neg c4] at H
    have c4b0 : decide (a0 < 55296) = false := decide_eq_false c4
    clear c4
    obtain rfl := Option.some.inj H
    go_enter Tryd.func28, Tryd.ntmps28
    go_wp2
    go_ret
    exact ⟨by first | rfl | (simp; done) | (simp [*]; done), by repeat (first | exact Drawn0.refl _ | apply Drawn0.step)⟩
  ·rw [if_neg c3] at H
   have c3b0 : decide (a0 ≤ 1114111) = false := decide_eq_false c3
   clear c3
   obtain rfl := Option.some.inj H
   go_enter Tryd.func28, Tryd.ntmps28
   go_wp2
   go_ret
   exact ⟨by first | rfl | (simp; done) | (simp [*]; done), by repeat (first | exact Drawn0.refl _ | apply Drawn0.step)⟩
 ·rw [if_neg c2] at H
  have c2b0 : decide (0 ≤ a0) = false := decide_eq_false c2
  clear c2
  obtain rfl := Option.some.inj H
  go_enter Tryd.func28, Tryd.ntmps28
  go_wp2
  go_ret
  exact ⟨by first | rfl | (simp; done) | (simp [*]; done), by repeat (first | exact Drawn0.refl _ | apply Drawn0.step)⟩

/-! ### variants_setError: function 17 -/
mutual
def variants_setError.l0 : Nat → Int → List Int → List Int → Int → Int → ByteArray → List (List Int) → Option (Nat)
 | 0, _, _, _, _, _, _, _ => none
 | k + 1, x1, x5, x18, x19, x20, x165000, x165001 => if x20 < x19 then (if 0 ≤ x20 then (if x20 < (x18.length : Int) then ((utf_Right.f (rd x18 x20)).bind fun t167 => (if t167 = true then (variants_setError.l0 k x1 x5 x18 x19 (wrap64 (x20 + 1)) x165000 x165001) else (some 4))) else (none)) else (none)) else (variants_setError.l1 k x1 x5 1 x165000 x165001)
def variants_setError.l1 : Nat → Int → List Int → Int → ByteArray → List (List Int) → Option (Nat)
 | 0, _, _, _, _, _ => none
 | k + 1, x1, x5, x8, x165000, x165001 => if x8 < (x5.length : Int) then (if 0 ≤ x8 then (if 0 ≤ (wrap64 (x8 - 1)) then (if (wrap64 (x8 - 1)) < (x5.length : Int) then (if (rd x5 x8) ≤ (rd x5 (wrap64 (x8 - 1))) then (some 6) else (variants_setError.l1 k x1 x5 (wrap64 (x8 + 1)) x165000 x165001)) else (none)) else (none)) else (none)) else (if x1 > 0 then (if 0 < (x5.length : Int) then (if 0 ≤ (wrap64 (x1 - 1)) then (if (wrap64 (x1 - 1)) < (x165001.length : Int) then (if 0 < ((rd_L1 x165001 (wrap64 (x1 - 1))).length : Int) then (if (rd x5 0) ≤ (rd (rd_L1 x165001 (wrap64 (x1 - 1))) 0) then (some 6) else (some 0)) else (none)) else (none)) else (none)) else (none)) else (some 0))
end
def variants_setError.f (k : Nat) (a0_0 : ByteArray) (l0_1 : List (List Int)) (a1 : Int) : Option (Nat) := if 0 ≤ a1 then (if a1 < (l0_1.length : Int) then (if ((rd_L1 l0_1 a1).length : Int) < 2 then (some 16) else (variants_setError.l0 k a1 (rd_L1 l0_1 a1) (rd_L1 l0_1 a1) ((rd_L1 l0_1 a1).length : Int) 0 a0_0 l0_1)) else (none)) else (none)
theorem variants_setError.mono_l : ∀ k, (∀ y0 y1 y2 y3 y4 y5 y6, LeO (variants_setError.l0 k y0 y1 y2 y3 y4 y5 y6) (variants_setError.l0 (k + 1) y0 y1 y2 y3 y4 y5 y6)) ∧ (∀ y0 y1 y2 y3 y4, LeO (variants_setError.l1 k y0 y1 y2 y3 y4) (variants_setError.l1 (k + 1) y0 y1 y2 y3 y4))
 | 0 => ⟨fun _ _ _ _ _ _ _ r h => by simp [variants_setError.l0] at h, fun _ _ _ _ _ r h => by simp [variants_setError.l1] at h⟩
 | k + 1 => by
  obtain ⟨ih0, ih1⟩ := variants_setError.mono_l k
  refine ⟨?_, ?_⟩
  ·intro y0 y1 y2 y3 y4 y5 y6
   unfold variants_setError.l0
   repeat' first
   | (with_reducible exact ih0 _ _ _ _ _ _ _)
   | (with_reducible exact ih1 _ _ _ _ _)
   | (with_reducible exact LeO.refl _)
   | (with_reducible exact LeO.none _)
   | (with_reducible refine LeO.ite ?_ ?_)
   | (with_reducible refine LeO.bind ?_ (fun _ => ?_))
   | exact ih0 _ _ _ _ _ _ _
   | exact ih1 _ _ _ _ _
   | exact LeO.none _
   | refine LeO.ite ?_ ?_
   | refine LeO.bind ?_ (fun _ => ?_)
  ·intro y0 y1 y2 y3 y4
   unfold variants_setError.l1
   repeat' first
   | (with_reducible exact ih0 _ _ _ _ _ _ _)
   | (with_reducible exact ih1 _ _ _ _ _)
   | (with_reducible exact LeO.refl _)
   | (with_reducible exact LeO.none _)
   | (with_reducible refine LeO.ite ?_ ?_)
   | (with_reducible refine LeO.bind ?_ (fun _ => ?_))
   | exact ih0 _ _ _ _ _ _ _
   | exact ih1 _ _ _ _ _
   | exact LeO.none _
   | refine LeO.ite ?_ ?_
   | refine LeO.bind ?_ (fun _ => ?_)
theorem variants_setError.mono : ∀ a0 a1 a2 k, LeO (variants_setError.f k a0 a1 a2) (variants_setError.f (k + 1) a0 a1 a2) := by
 intro a0 a1 a2 k
 obtain ⟨ih0, ih1⟩ := variants_setError.mono_l k
 unfold variants_setError.f
 repeat' first
   | (with_reducible exact ih0 _ _ _ _ _ _ _)
   | (with_reducible exact ih1 _ _ _ _ _)
   | (with_reducible exact LeO.refl _)
   | (with_reducible exact LeO.none _)
   | (with_reducible refine LeO.ite ?_ ?_)
   | (with_reducible refine LeO.bind ?_ (fun _ => ?_))
   | exact ih0 _ _ _ _ _ _ _
   | exact ih1 _ _ _ _ _
   | exact LeO.none _
   | refine LeO.ite ?_ ?_
   | refine LeO.bind ?_ (fun _ => ?_)
set_option maxHeartbeats 8000000 in
set_option maxRecDepth 100000 in
theorem variants_setError.calls (sv : Nat → Addr) (k : Nat) (a0_0 : ByteArray) (A0_1 : Option Addr) (c0_1 : Nat) (l0_1 : List (List Int)) (a1 : Int) (r : Nat) (w : World) (hsv : Laid sv w) (hr0_1 : Kd.C (Kd.slice 21 (Kd.int .i32)) w A0_1 l0_1.length l0_1) (hc0_1 : l0_1.length ≤ c0_1) (h : variants_setError.f k a0_0 l0_1 a1 = some r) :
  Calls Tryd.prog 17 #[.agg #[.string a0_0, .slice A0_1 l0_1.length c0_1], .int .i64 a1] w fun e w' => e = .returned (senW sv r) ∧ Below w.heap.size w w' := by
 have hu24 := Tryd.underlying24
 have HR0_1 := Aside0.mk hr0_1
 have HC0_1 := Aside0.mk hc0_1
 clear hr0_1 hc0_1
 have HB := Aside0.mk (Below.refl w.heap.size w)
 have HSV := Aside0.mk hsv
 clear hsv
 have hsg1 := HSV.out.at1
 have hsg2 := HSV.out.at2
 have hsg4 := HSV.out.at4
 have hsg5 := HSV.out.at5
 have hsg6 := HSV.out.at6
 have hsg7 := HSV.out.at7
 have hsg16 := HSV.out.at16
 have hsg18 := HSV.out.at18
 have H : (if 0 ≤ a1 then (if a1 < (l0_1.length : Int) then (if ((rd_L1 l0_1 a1).length : Int) < 2 then (some 16) else (variants_setError.l0 k a1 (rd_L1 l0_1 a1) (rd_L1 l0_1 a1) ((rd_L1 l0_1 a1).length : Int) 0 a0_0 l0_1)) else (none)) else (none)) = some r := h
 clear h
 by_cases c3 : 0 ≤ a1
 ·rw [if_pos c3] at H
  have c3b0 : decide (0 ≤ a1) = true := decide_eq_true c3
  clear c3
  by_cases c4 : a1 < (l0_1.length : Int)
  ·rw [if_pos c4] at H
   have c4b0 : decide (a1 < (l0_1.length : Int)) = true := decide_eq_true c4
   clear c4
   by_cases c5 : ((rd_L1 l0_1 a1).length : Int) < 2
   ·rw [if_pos c5] at H
    have c5b0 : decide (((rd_L1 l0_1 a1).length : Int) < 2) = true := decide_eq_true c5
    have c5b1 : decide ((rd_L1 l0_1 a1).length < 2) = true := decide_eq_true (by omega)
    clear c5
    obtain rfl := Option.some.inj H
    go_enter Tryd.func17, Tryd.ntmps17
    go_wp2_with (first | ((with_reducible refine gate_dst (N := 2) rfl ?_); refine box_event ?hg (N := 2) ?hd (cs := #[.string a0_0, .slice A0_1 l0_1.length c0_1]) (t := 24) ?hr ?_; (case hd => rfl); (case hg => rfl); (case hr => first | (go_simp; done) | (go_simp; rfl)); intro gb164 hg w6 hbox hb; have n0_ := Aside0.mk (below_step (by repeat (first | (with_reducible first | exact HB.out | apply below_alloc | apply pw_below_drewN | apply below_drew1) | exact HB.out)) hb); have n1_ := Aside0.mk (hbox); have n2_ := Aside0.mk ((by rw [hg]; exact (below_size (by repeat (first | (with_reducible first | exact HB.out | apply below_alloc | apply pw_below_drewN | apply below_drew1) | exact HB.out))) : w.heap.size ≤ gb164)); have n3_ := Aside0.mk ((by rw [hg]; exact (below_size (by repeat (first | (with_reducible first | exact HB.out | apply below_alloc | apply pw_below_drewN | apply below_drew1) | exact HB.out))) : w.heap.size ≤ gb164)); clear HB; have HB := n0_; have hsg1 := (Laid.below HSV.out HB.out).at1; have hsg2 := (Laid.below HSV.out HB.out).at2; have hsg4 := (Laid.below HSV.out HB.out).at4; have hsg5 := (Laid.below HSV.out HB.out).at5; have hsg6 := (Laid.below HSV.out HB.out).at6; have hsg7 := (Laid.below HSV.out HB.out).at7; have hsg16 := (Laid.below HSV.out HB.out).at16; have hsg18 := (Laid.below HSV.out HB.out).at18; have BK164 := n1_; have GW164 := n2_; have GE164 := n3_; clear n0_ n1_ n2_ n3_; clear hb hbox hg; have hcz7_0 : w6.cell? ⟨gb164, 0, none⟩ = some (.string a0_0) := (blk_cell BK164.out 0).trans rfl; have hcz7_1 : w6.cell? ⟨gb164, 1, none⟩ = some (.slice A0_1 l0_1.length c0_1) := (blk_cell BK164.out 1).trans rfl; have hfz7_0 := blk_frozen BK164.out 0; have hfz7_1 := blk_frozen BK164.out 1; have p165 : 0 ≤ (a1 : Int) := of_decide_eq_true (by first | (with_reducible assumption) | assumption); have q165 : a1 < (l0_1.length : Int) := of_decide_eq_true (by first | (with_reducible assumption) | assumption); obtain ⟨ad165, A165_0, c165_0, e165, hx165_0, hl165_0, hi165_0⟩ := at_L1 HR0_1.out a1 p165 q165; cases e165; replace hx165_0 := (HB.out.cell (World.block_lt_of_cell? w _ hx165_0)).trans hx165_0; have HR165_0 := Aside0.mk hi165_0; have HC165_0 := Aside0.mk hl165_0; clear hi165_0 hl165_0; replace p165 := eq_true p165; replace q165 := eq_true q165))
    repeat (go_quiet (first | ((with_reducible refine gate_dst (N := 2) rfl ?_); refine box_event ?hg (N := 2) ?hd (cs := #[.string a0_0, .slice A0_1 l0_1.length c0_1]) (t := 24) ?hr ?_; (case hd => rfl); (case hg => rfl); (case hr => first | (go_simp; done) | (go_simp; rfl)); intro gb164 hg w6 hbox hb; have n0_ := Aside0.mk (below_step (by repeat (first | (with_reducible first | exact HB.out | apply below_alloc | apply pw_below_drewN | apply below_drew1) | exact HB.out)) hb); have n1_ := Aside0.mk (hbox); have n2_ := Aside0.mk ((by rw [hg]; exact (below_size (by repeat (first | (with_reducible first | exact HB.out | apply below_alloc | apply pw_below_drewN | apply below_drew1) | exact HB.out))) : w.heap.size ≤ gb164)); have n3_ := Aside0.mk ((by rw [hg]; exact (below_size (by repeat (first | (with_reducible first | exact HB.out | apply below_alloc | apply pw_below_drewN | apply below_drew1) | exact HB.out))) : w.heap.size ≤ gb164)); clear HB; have HB := n0_; have hsg1 := (Laid.below HSV.out HB.out).at1; have hsg2 := (Laid.below HSV.out HB.out).at2; have hsg4 := (Laid.below HSV.out HB.out).at4; have hsg5 := (Laid.below HSV.out HB.out).at5; have hsg6 := (Laid.below HSV.out HB.out).at6; have hsg7 := (Laid.below HSV.out HB.out).at7; have hsg16 := (Laid.below HSV.out HB.out).at16; have hsg18 := (Laid.below HSV.out HB.out).at18; have BK164 := n1_; have GW164 := n2_; have GE164 := n3_; clear n0_ n1_ n2_ n3_; clear hb hbox hg; have hcz7_0 : w6.cell? ⟨gb164, 0, none⟩ = some (.string a0_0) := (blk_cell BK164.out 0).trans rfl; have hcz7_1 : w6.cell? ⟨gb164, 1, none⟩ = some (.slice A0_1 l0_1.length c0_1) := (blk_cell BK164.out 1).trans rfl; have hfz7_0 := blk_frozen BK164.out 0; have hfz7_1 := blk_frozen BK164.out 1; have p165 : 0 ≤ (a1 : Int) := of_decide_eq_true (by first | (with_reducible assumption) | assumption); have q165 : a1 < (l0_1.length : Int) := of_decide_eq_true (by first | (with_reducible assumption) | assumption); obtain ⟨ad165, A165_0, c165_0, e165, hx165_0, hl165_0, hi165_0⟩ := at_L1 HR0_1.out a1 p165 q165; cases e165; replace hx165_0 := (HB.out.cell (World.block_lt_of_cell? w _ hx165_0)).trans hx165_0; have HR165_0 := Aside0.mk hi165_0; have HC165_0 := Aside0.mk hl165_0; clear hi165_0 hl165_0; replace p165 := eq_true p165; replace q165 := eq_true q165)); try go_wp2_with (first | ((with_reducible refine gate_dst (N := 2) rfl ?_); refine box_event ?hg (N := 2) ?hd (cs := #[.string a0_0, .slice A0_1 l0_1.length c0_1]) (t := 24) ?hr ?_; (case hd => rfl); (case hg => rfl); (case hr => first | (go_simp; done) | (go_simp; rfl)); intro gb164 hg w6 hbox hb; have n0_ := Aside0.mk (below_step (by repeat (first | (with_reducible first | exact HB.out | apply below_alloc | apply pw_below_drewN | apply below_drew1) | exact HB.out)) hb); have n1_ := Aside0.mk (hbox); have n2_ := Aside0.mk ((by rw [hg]; exact (below_size (by repeat (first | (with_reducible first | exact HB.out | apply below_alloc | apply pw_below_drewN | apply below_drew1) | exact HB.out))) : w.heap.size ≤ gb164)); have n3_ := Aside0.mk ((by rw [hg]; exact (below_size (by repeat (first | (with_reducible first | exact HB.out | apply below_alloc | apply pw_below_drewN | apply below_drew1) | exact HB.out))) : w.heap.size ≤ gb164)); clear HB; have HB := n0_; have hsg1 := (Laid.below HSV.out HB.out).at1; have hsg2 := (Laid.below HSV.out HB.out).at2; have hsg4 := (Laid.below HSV.out HB.out).at4; have hsg5 := (Laid.below HSV.out HB.out).at5; have hsg6 := (Laid.below HSV.out HB.out).at6; have hsg7 := (Laid.below HSV.out HB.out).at7; have hsg16 := (Laid.below HSV.out HB.out).at16; have hsg18 := (Laid.below HSV.out HB.out).at18; have BK164 := n1_; have GW164 := n2_; have GE164 := n3_; clear n0_ n1_ n2_ n3_; clear hb hbox hg; have hcz7_0 : w6.cell? ⟨gb164, 0, none⟩ = some (.string a0_0) := (blk_cell BK164.out 0).trans rfl; have hcz7_1 : w6.cell? ⟨gb164, 1, none⟩ = some (.slice A0_1 l0_1.length c0_1) := (blk_cell BK164.out 1).trans rfl; have hfz7_0 := blk_frozen BK164.out 0; have hfz7_1 := blk_frozen BK164.out 1; have p165 : 0 ≤ (a1 : Int) := of_decide_eq_true (by first | (with_reducible assumption) | assumption); have q165 : a1 < (l0_1.length : Int) := of_decide_eq_true (by first | (with_reducible assumption) | assumption); obtain ⟨ad165, A165_0, c165_0, e165, hx165_0, hl165_0, hi165_0⟩ := at_L1 HR0_1.out a1 p165 q165; cases e165; replace hx165_0 := (HB.out.cell (World.block_lt_of_cell? w _ hx165_0)).trans hx165_0; have HR165_0 := Aside0.mk hi165_0; have HC165_0 := Aside0.mk hl165_0; clear hi165_0 hl165_0; replace p165 := eq_true p165; replace q165 := eq_true q165)))
    go_ret
    exact ⟨by first | rfl | (simp [errV_none, errV_some] <;> rfl) | (simp [*, errV_none, errV_some] <;> rfl), by repeat (first | (with_reducible first | exact HB.out | apply below_alloc | apply pw_below_drewN | apply below_drew1 | refine below_set ?_ GE164.out) | exact HB.out)⟩
   ·rw [if_neg c5] at H
    have c5b0 : decide (((rd_L1 l0_1 a1).length : Int) < 2) = false := decide_eq_false c5
    have c5b1 : decide ((rd_L1 l0_1 a1).length < 2) = false := decide_eq_false (by omega)
    clear c5
    have H' := Aside0.mk H
    clear H
    go_enter Tryd.func17, Tryd.ntmps17
    go_wp2_with (first | ((with_reducible refine gate_dst (N := 2) rfl ?_); refine box_event ?hg (N := 2) ?hd (cs := #[.string a0_0, .slice A0_1 l0_1.length c0_1]) (t := 24) ?hr ?_; (case hd => rfl); (case hg => rfl); (case hr => first | (go_simp; done) | (go_simp; rfl)); intro gb164 hg w8 hbox hb; have n0_ := Aside0.mk (below_step (by repeat (first | (with_reducible first | exact HB.out | apply below_alloc | apply pw_below_drewN | apply below_drew1) | exact HB.out)) hb); have n1_ := Aside0.mk (hbox); have n2_ := Aside0.mk ((by rw [hg]; exact (below_size (by repeat (first | (with_reducible first | exact HB.out | apply below_alloc | apply pw_below_drewN | apply below_drew1) | exact HB.out))) : w.heap.size ≤ gb164)); have n3_ := Aside0.mk ((by rw [hg]; exact (below_size (by repeat (first | (with_reducible first | exact HB.out | apply below_alloc | apply pw_below_drewN | apply below_drew1) | exact HB.out))) : w.heap.size ≤ gb164)); clear HB; have HB := n0_; have hsg1 := (Laid.below HSV.out HB.out).at1; have hsg2 := (Laid.below HSV.out HB.out).at2; have hsg4 := (Laid.below HSV.out HB.out).at4; have hsg5 := (Laid.below HSV.out HB.out).at5; have hsg6 := (Laid.below HSV.out HB.out).at6; have hsg7 := (Laid.below HSV.out HB.out).at7; have hsg16 := (Laid.below HSV.out HB.out).at16; have hsg18 := (Laid.below HSV.out HB.out).at18; have BK164 := n1_; have GW164 := n2_; have GE164 := n3_; clear n0_ n1_ n2_ n3_; clear hb hbox hg; have hcz9_0 : w8.cell? ⟨gb164, 0, none⟩ = some (.string a0_0) := (blk_cell BK164.out 0).trans rfl; have hcz9_1 : w8.cell? ⟨gb164, 1, none⟩ = some (.slice A0_1 l0_1.length c0_1) := (blk_cell BK164.out 1).trans rfl; have hfz9_0 := blk_frozen BK164.out 0; have hfz9_1 := blk_frozen BK164.out 1; have p165 : 0 ≤ (a1 : Int) := of_decide_eq_true (by first | (with_reducible assumption) | assumption); have q165 : a1 < (l0_1.length : Int) := of_decide_eq_true (by first | (with_reducible assumption) | assumption); obtain ⟨ad165, A165_0, c165_0, e165, hx165_0, hl165_0, hi165_0⟩ := at_L1 HR0_1.out a1 p165 q165; cases e165; replace hx165_0 := (HB.out.cell (World.block_lt_of_cell? w _ hx165_0)).trans hx165_0; have HR165_0 := Aside0.mk hi165_0; have HC165_0 := Aside0.mk hl165_0; clear hi165_0 hl165_0; replace p165 := eq_true p165; replace q165 := eq_true q165))
    repeat (go_quiet (first | ((with_reducible refine gate_dst (N := 2) rfl ?_); refine box_event ?hg (N := 2) ?hd (cs := #[.string a0_0, .slice A0_1 l0_1.length c0_1]) (t := 24) ?hr ?_; (case hd => rfl); (case hg => rfl); (case hr => first | (go_simp; done) | (go_simp; rfl)); intro gb164 hg w8 hbox hb; have n0_ := Aside0.mk (below_step (by repeat (first | (with_reducible first | exact HB.out | apply below_alloc | apply pw_below_drewN | apply below_drew1) | exact HB.out)) hb); have n1_ := Aside0.mk (hbox); have n2_ := Aside0.mk ((by rw [hg]; exact (below_size (by repeat (first | (with_reducible first | exact HB.out | apply below_alloc | apply pw_below_drewN | apply below_drew1) | exact HB.out))) : w.heap.size ≤ gb164)); have n3_ := Aside0.mk ((by rw [hg]; exact (below_size (by repeat (first | (with_reducible first | exact HB.out | apply below_alloc | apply pw_below_drewN | apply below_drew1) | exact HB.out))) : w.heap.size ≤ gb164)); clear HB; have HB := n0_; have hsg1 := (Laid.below HSV.out HB.out).at1; have hsg2 := (Laid.below HSV.out HB.out).at2; have hsg4 := (Laid.below HSV.out HB.out).at4; have hsg5 := (Laid.below HSV.out HB.out).at5; have hsg6 := (Laid.below HSV.out HB.out).at6; have hsg7 := (Laid.below HSV.out HB.out).at7; have hsg16 := (Laid.below HSV.out HB.out).at16; have hsg18 := (Laid.below HSV.out HB.out).at18; have BK164 := n1_; have GW164 := n2_; have GE164 := n3_; clear n0_ n1_ n2_ n3_; clear hb hbox hg; have hcz9_0 : w8.cell? ⟨gb164, 0, none⟩ = some (.string a0_0) := (blk_cell BK164.out 0).trans rfl; have hcz9_1 : w8.cell? ⟨gb164, 1, none⟩ = some (.slice A0_1 l0_1.length c0_1) := (blk_cell BK164.out 1).trans rfl; have hfz9_0 := blk_frozen BK164.out 0; have hfz9_1 := blk_frozen BK164.out 1; have p165 : 0 ≤ (a1 : Int) := of_decide_eq_true (by first | (with_reducible assumption) | assumption); have q165 : a1 < (l0_1.length : Int) := of_decide_eq_true (by first | (with_reducible assumption) | assumption); obtain ⟨ad165, A165_0, c165_0, e165, hx165_0, hl165_0, hi165_0⟩ := at_L1 HR0_1.out a1 p165 q165; cases e165; replace hx165_0 := (HB.out.cell (World.block_lt_of_cell? w _ hx165_0)).trans hx165_0; have HR165_0 := Aside0.mk hi165_0; have HC165_0 := Aside0.mk hl165_0; clear hi165_0 hl165_0; replace p165 := eq_true p165; replace q165 := eq_true q165)); try go_wp2_with (first | ((with_reducible refine gate_dst (N := 2) rfl ?_); refine box_event ?hg (N := 2) ?hd (cs := #[.string a0_0, .slice A0_1 l0_1.length c0_1]) (t := 24) ?hr ?_; (case hd => rfl); (case hg => rfl); (case hr => first | (go_simp; done) | (go_simp; rfl)); intro gb164 hg w8 hbox hb; have n0_ := Aside0.mk (below_step (by repeat (first | (with_reducible first | exact HB.out | apply below_alloc | apply pw_below_drewN | apply below_drew1) | exact HB.out)) hb); have n1_ := Aside0.mk (hbox); have n2_ := Aside0.mk ((by rw [hg]; exact (below_size (by repeat (first | (with_reducible first | exact HB.out | apply below_alloc | apply pw_below_drewN | apply below_drew1) | exact HB.out))) : w.heap.size ≤ gb164)); have n3_ := Aside0.mk ((by rw [hg]; exact (below_size (by repeat (first | (with_reducible first | exact HB.out | apply below_alloc | apply pw_below_drewN | apply below_drew1) | exact HB.out))) : w.heap.size ≤ gb164)); clear HB; have HB := n0_; have hsg1 := (Laid.below HSV.out HB.out).at1; have hsg2 := (Laid.below HSV.out HB.out).at2; have hsg4 := (Laid.below HSV.out HB.out).at4; have hsg5 := (Laid.below HSV.out HB.out).at5; have hsg6 := (Laid.below HSV.out HB.out).at6; have hsg7 := (Laid.below HSV.out HB.out).at7; have hsg16 := (Laid.below HSV.out HB.out).at16; have hsg18 := (Laid.below HSV.out HB.out).at18; have BK164 := n1_; have GW164 := n2_; have GE164 := n3_; clear n0_ n1_ n2_ n3_; clear hb hbox hg; have hcz9_0 : w8.cell? ⟨gb164, 0, none⟩ = some (.string a0_0) := (blk_cell BK164.out 0).trans rfl; have hcz9_1 : w8.cell? ⟨gb164, 1, none⟩ = some (.slice A0_1 l0_1.length c0_1) := (blk_cell BK164.out 1).trans rfl; have hfz9_0 := blk_frozen BK164.out 0; have hfz9_1 := blk_frozen BK164.out 1; have p165 : 0 ≤ (a1 : Int) := of_decide_eq_true (by first | (with_reducible assumption) | assumption); have q165 : a1 < (l0_1.length : Int) := of_decide_eq_true (by first | (with_reducible assumption) | assumption); obtain ⟨ad165, A165_0, c165_0, e165, hx165_0, hl165_0, hi165_0⟩ := at_L1 HR0_1.out a1 p165 q165; cases e165; replace hx165_0 := (HB.out.cell (World.block_lt_of_cell? w _ hx165_0)).trans hx165_0; have HR165_0 := Aside0.mk hi165_0; have HC165_0 := Aside0.mk hl165_0; clear hi165_0 hl165_0; replace p165 := eq_true p165; replace q165 := eq_true q165)))
    go_loopg [20] k (fun kq v20 w' => ∃ (x20_1 : Int), v20 = .int .i64 x20_1 ∧ Aside0 (variants_setError.l0 kq a1 (rd_L1 l0_1 a1) (rd_L1 l0_1 a1) ((rd_L1 l0_1 a1).length : Int) x20_1 a0_0 l0_1 = some r) ∧ Aside0 (kq ≤ k) ∧ Aside0 (w'.heap[gb164]? = some (.cells #[.string a0_0, (.slice (some ad165) l0_1.length c0_1)] 24 (0, 0))) ∧ Aside0 (Below w.heap.size w w'))
    case atStart => exact ⟨(0), (by first | rfl | (simp; done) | (simp [*]; done)), H', ⟨Nat.le_refl _⟩, ⟨by (with_reducible repeat (first | refine blk_drewN ?_ _ | refine blk_drew ?_ | refine blk_alloc ?_ _)); exact BK164.out⟩, ⟨by repeat (first | (with_reducible first | exact HB.out | apply below_alloc | apply pw_below_drewN | apply below_drew1 | refine below_set ?_ GE164.out) | exact HB.out)⟩⟩
    case round =>
     clear H'
     try clear c1
     try clear p1
     try clear q1
     try clear hx1
     try clear p2
     try clear c3
     try clear c3b0
     try clear c4
     try clear c4b0
     try clear c5
     try clear c5b0
     try clear c5b1
     try clear hcz7_0
     try clear hcz7_1
     try clear hcz9_0
     try clear hcz9_1
     try clear hfz7_0
     try clear hfz7_1
     try clear hfz9_0
     try clear hfz9_1
     try clear hx165_0
     try clear p165
     try clear q165
     obtain ⟨x20_1, rfl, HA, HK1, BK164, HB⟩ := hrel; have hsg1 := (Laid.below HSV.out HB.out).at1; have hsg2 := (Laid.below HSV.out HB.out).at2; have hsg4 := (Laid.below HSV.out HB.out).at4; have hsg5 := (Laid.below HSV.out HB.out).at5; have hsg6 := (Laid.below HSV.out HB.out).at6; have hsg7 := (Laid.below HSV.out HB.out).at7; have hsg16 := (Laid.below HSV.out HB.out).at16; have hsg18 := (Laid.below HSV.out HB.out).at18
     cases gk with
     | zero => exact absurd HA.out (by simp [variants_setError.l0])
     | succ k1 =>
      have H := HA.out
      clear HA
      simp only [variants_setError.l0] at H
      by_cases c10 : x20_1 < ((rd_L1 l0_1 a1).length : Int)
      ·rw [if_pos c10] at H
       have c10b0 : decide (x20_1 < ((rd_L1 l0_1 a1).length : Int)) = true := decide_eq_true c10
       clear c10
       by_cases c11 : 0 ≤ x20_1
       ·rw [if_pos c11] at H
        have c11b0 : decide (0 ≤ x20_1) = true := decide_eq_true c11
        clear c11
        by_cases c12 : x20_1 < ((rd_L1 l0_1 a1).length : Int)
        ·rw [if_pos c12] at H
         have c12b0 : decide (x20_1 < ((rd_L1 l0_1 a1).length : Int)) = true := decide_eq_true c12
         clear c12
         replace H := Option.bind_eq_some_iff.mp H
         obtain ⟨t167, A130, H⟩ := H
         replace H : (if t167 = true then (variants_setError.l0 k1 a1 (rd_L1 l0_1 a1) (rd_L1 l0_1 a1) ((rd_L1 l0_1 a1).length : Int) (wrap64 (x20_1 + 1)) a0_0 l0_1) else (some 4)) = some r := H
         have A13 := Aside0.mk A130
         clear A130
         by_cases c14 : t167 = true
         ·subst c14
          have H1 : (variants_setError.l0 k1 a1 (rd_L1 l0_1 a1) (rd_L1 l0_1 a1) ((rd_L1 l0_1 a1).length : Int) (wrap64 (x20_1 + 1)) a0_0 l0_1) = some r := by rw [if_pos rfl] at H; exact H
          clear H
          have H := H1
          clear H1
          have H' := Aside0.mk H
          clear H
          have p166 : 0 ≤ (x20_1 : Int) := of_decide_eq_true (by first | (with_reducible assumption) | assumption)
          have q166 : x20_1 < ((rd_L1 l0_1 a1).length : Int) := of_decide_eq_true (by first | (with_reducible assumption) | assumption)
          obtain ⟨ad166, e166, hx166_0⟩ := Kd.at_int HR165_0.out x20_1 p166 q166
          cases e166
          replace hx166_0 := (HB.out.cell (World.block_lt_of_cell? w _ hx166_0)).trans hx166_0
          replace p166 := eq_true p166
          replace q166 := eq_true q166
          go_wp2_with (first | (go_at_call 28; (with_reducible refine (utf_Right.calls (rd (rd_L1 l0_1 a1) x20_1) true _ A13.out).mono ?_); rintro e w' ⟨rfl, ⟨nd, rfl⟩⟩; (try first | exact ⟨rfl, _, World.drewN_drewN _ _ _⟩ | exact ⟨rfl, _, Eq.trans (World.drewN_drewN _ _ _) (congrArg (World.drewN _) (Nat.add_assoc _ _ _))⟩)))
          repeat (go_quiet (first | (go_at_call 28; (with_reducible refine (utf_Right.calls (rd (rd_L1 l0_1 a1) x20_1) true _ A13.out).mono ?_); rintro e w' ⟨rfl, ⟨nd, rfl⟩⟩; (try first | exact ⟨rfl, _, World.drewN_drewN _ _ _⟩ | exact ⟨rfl, _, Eq.trans (World.drewN_drewN _ _ _) (congrArg (World.drewN _) (Nat.add_assoc _ _ _))⟩))); try go_wp2_with (first | (go_at_call 28; (with_reducible refine (utf_Right.calls (rd (rd_L1 l0_1 a1) x20_1) true _ A13.out).mono ?_); rintro e w' ⟨rfl, ⟨nd, rfl⟩⟩; (try first | exact ⟨rfl, _, World.drewN_drewN _ _ _⟩ | exact ⟨rfl, _, Eq.trans (World.drewN_drewN _ _ _) (congrArg (World.drewN _) (Nat.add_assoc _ _ _))⟩))))
          go_roundg k1
          case measure => have := HK1.out; omega
          case rel => exact ⟨(wrap64 (x20_1 + 1)), (by first | rfl | (simp; done) | (simp [*]; done)), H', ⟨by have := HK1.out; omega⟩, ⟨by (with_reducible repeat (first | refine blk_drewN ?_ _ | refine blk_drew ?_ | refine blk_alloc ?_ _)); exact BK164.out⟩, ⟨by repeat (first | (with_reducible first | exact HB.out | apply below_alloc | apply pw_below_drewN | apply below_drew1 | refine below_set ?_ GE164.out) | exact HB.out)⟩⟩
         ·replace c14 := Bool.eq_false_iff.mpr c14
          subst c14
          have H1 : (some 4) = some r := by rw [if_neg (show ¬ (false = true) by decide)] at H; exact H
          clear H
          have H := H1
          clear H1
          obtain rfl := Option.some.inj H
          have p166 : 0 ≤ (x20_1 : Int) := of_decide_eq_true (by first | (with_reducible assumption) | assumption)
          have q166 : x20_1 < ((rd_L1 l0_1 a1).length : Int) := of_decide_eq_true (by first | (with_reducible assumption) | assumption)
          obtain ⟨ad166, e166, hx166_0⟩ := Kd.at_int HR165_0.out x20_1 p166 q166
          cases e166
          replace hx166_0 := (HB.out.cell (World.block_lt_of_cell? w _ hx166_0)).trans hx166_0
          replace p166 := eq_true p166
          replace q166 := eq_true q166
          go_wp2_with (first | (go_at_call 28; (with_reducible refine (utf_Right.calls (rd (rd_L1 l0_1 a1) x20_1) false _ A13.out).mono ?_); rintro e w' ⟨rfl, ⟨nd, rfl⟩⟩; (try first | exact ⟨rfl, _, World.drewN_drewN _ _ _⟩ | exact ⟨rfl, _, Eq.trans (World.drewN_drewN _ _ _) (congrArg (World.drewN _) (Nat.add_assoc _ _ _))⟩)))
          repeat (go_quiet (first | (go_at_call 28; (with_reducible refine (utf_Right.calls (rd (rd_L1 l0_1 a1) x20_1) false _ A13.out).mono ?_); rintro e w' ⟨rfl, ⟨nd, rfl⟩⟩; (try first | exact ⟨rfl, _, World.drewN_drewN _ _ _⟩ | exact ⟨rfl, _, Eq.trans (World.drewN_drewN _ _ _) (congrArg (World.drewN _) (Nat.add_assoc _ _ _))⟩))); try go_wp2_with (first | (go_at_call 28; (with_reducible refine (utf_Right.calls (rd (rd_L1 l0_1 a1) x20_1) false _ A13.out).mono ?_); rintro e w' ⟨rfl, ⟨nd, rfl⟩⟩; (try first | exact ⟨rfl, _, World.drewN_drewN _ _ _⟩ | exact ⟨rfl, _, Eq.trans (World.drewN_drewN _ _ _) (congrArg (World.drewN _) (Nat.add_assoc _ _ _))⟩))))
          go_ret
          exact ⟨by first | rfl | (simp [errV_none, errV_some] <;> rfl) | (simp [*, errV_none, errV_some] <;> rfl), by repeat (first | (with_reducible first | exact HB.out | apply below_alloc | apply pw_below_drewN | apply below_drew1 | refine below_set ?_ GE164.out) | exact HB.out)⟩
        ·rw [if_neg c12] at H
         exact absurd H (by simp)
       ·rw [if_neg c11] at H
        exact absurd H (by simp)
      ·rw [if_neg c10] at H
       have c10b0 : decide (x20_1 < ((rd_L1 l0_1 a1).length : Int)) = false := decide_eq_false c10
       clear c10
       have H' := Aside0.mk H
       clear H
       go_wp2
       repeat (go_quiet (fail); try go_wp2)
       go_loopg [8] k1 (fun kq v8 w' => ∃ (x8_2 : Int), v8 = .int .i64 x8_2 ∧ Aside0 (variants_setError.l1 kq a1 (rd_L1 l0_1 a1) x8_2 a0_0 l0_1 = some r) ∧ Aside0 (kq ≤ k1) ∧ Aside0 (w'.heap[gb164]? = some (.cells #[.string a0_0, (.slice (some ad165) l0_1.length c0_1)] 24 (0, 0))) ∧ Aside0 (Below w.heap.size w w'))
       case atStart => exact ⟨(1), (by first | rfl | (simp; done) | (simp [*]; done)), H', ⟨Nat.le_refl _⟩, ⟨by (with_reducible repeat (first | refine blk_drewN ?_ _ | refine blk_drew ?_ | refine blk_alloc ?_ _)); exact BK164.out⟩, ⟨by repeat (first | (with_reducible first | exact HB.out | apply below_alloc | apply pw_below_drewN | apply below_drew1 | refine below_set ?_ GE164.out) | exact HB.out)⟩⟩
       case round =>
        clear H'
        try clear c1
        try clear p1
        try clear q1
        try clear hx1
        try clear p2
        try clear c3
        try clear c3b0
        try clear c4
        try clear c4b0
        try clear c5
        try clear c5b0
        try clear c5b1
        try clear p6
        try clear c10
        try clear c10b0
        try clear c11
        try clear c11b0
        try clear c12
        try clear c12b0
        try clear c14
        try clear hcz7_0
        try clear hcz7_1
        try clear hcz9_0
        try clear hcz9_1
        try clear hfz7_0
        try clear hfz7_1
        try clear hfz9_0
        try clear hfz9_1
        try clear hx165_0
        try clear hx166_0
        try clear p1
        try clear p165
        try clear p166
        try clear p2
        try clear q1
        try clear q165
        try clear q166
        obtain ⟨x8_2, rfl, HA, HK2, BK164, HB⟩ := hrel; have hsg1 := (Laid.below HSV.out HB.out).at1; have hsg2 := (Laid.below HSV.out HB.out).at2; have hsg4 := (Laid.below HSV.out HB.out).at4; have hsg5 := (Laid.below HSV.out HB.out).at5; have hsg6 := (Laid.below HSV.out HB.out).at6; have hsg7 := (Laid.below HSV.out HB.out).at7; have hsg16 := (Laid.below HSV.out HB.out).at16; have hsg18 := (Laid.below HSV.out HB.out).at18
        cases gk with
        | zero => exact absurd HA.out (by simp [variants_setError.l1])
        | succ k2 =>
         have H := HA.out
         clear HA
         simp only [variants_setError.l1] at H
         by_cases c15 : x8_2 < ((rd_L1 l0_1 a1).length : Int)
         ·rw [if_pos c15] at H
          have c15b0 : decide (x8_2 < ((rd_L1 l0_1 a1).length : Int)) = true := decide_eq_true c15
          clear c15
          by_cases c16 : 0 ≤ x8_2
          ·rw [if_pos c16] at H
           have c16b0 : decide (0 ≤ x8_2) = true := decide_eq_true c16
           clear c16
           obtain ⟨ji17, hji17⟩ : ∃ j_ : Int, (wrap64 (x8_2 - 1)) = j_ := ⟨_, rfl⟩
           replace H : (if 0 ≤ (ji17) then (if (ji17) < ((rd_L1 l0_1 a1).length : Int) then (if (rd (rd_L1 l0_1 a1) x8_2) ≤ (rd (rd_L1 l0_1 a1) (ji17)) then (some 6) else (variants_setError.l1 k2 a1 (rd_L1 l0_1 a1) (wrap64 (x8_2 + 1)) a0_0 l0_1)) else (none)) else (none)) = some r := by first | (rw [hji17] at H; exact H) | (simp only [hji17] at H ⊢; exact H)
           have hji17w : (IntKind.i64.wrap (x8_2 - 1)) = ji17 := (i64_w _).trans hji17
           by_cases c18 : 0 ≤ (ji17)
           ·rw [if_pos c18] at H
            have c18b0 : decide (0 ≤ (ji17)) = true := decide_eq_true c18
            clear c18
            by_cases c19 : (ji17) < ((rd_L1 l0_1 a1).length : Int)
            ·rw [if_pos c19] at H
             have c19b0 : decide ((ji17) < ((rd_L1 l0_1 a1).length : Int)) = true := decide_eq_true c19
             clear c19
             by_cases c20 : (rd (rd_L1 l0_1 a1) x8_2) ≤ (rd (rd_L1 l0_1 a1) (ji17))
             ·rw [if_pos c20] at H
              have c20b0 : decide ((rd (rd_L1 l0_1 a1) x8_2) ≤ (rd (rd_L1 l0_1 a1) (ji17))) = true := decide_eq_true c20
              clear c20
              obtain rfl := Option.some.inj H
              have p168 : 0 ≤ (x8_2 : Int) := of_decide_eq_true (by first | (with_reducible assumption) | assumption)
              have q168 : x8_2 < ((rd_L1 l0_1 a1).length : Int) := of_decide_eq_true (by first | (with_reducible assumption) | assumption)
              obtain ⟨ad168, e168, hx168_0⟩ := Kd.at_int HR165_0.out x8_2 p168 q168
              cases e168
              replace hx168_0 := (HB.out.cell (World.block_lt_of_cell? w _ hx168_0)).trans hx168_0
              replace p168 := eq_true p168
              replace q168 := eq_true q168
              have p169 : 0 ≤ ((ji17) : Int) := of_decide_eq_true (by first | (with_reducible assumption) | assumption)
              have q169 : (ji17) < ((rd_L1 l0_1 a1).length : Int) := of_decide_eq_true (by first | (with_reducible assumption) | assumption)
              obtain ⟨ad169, e169, hx169_0⟩ := Kd.at_int HR165_0.out (ji17) p169 q169
              obtain rfl : ad168 = ad169 := (by injection e169)
              replace hx169_0 := (HB.out.cell (World.block_lt_of_cell? w _ hx169_0)).trans hx169_0
              replace p169 := eq_true p169
              replace q169 := eq_true q169
              go_wp2
              repeat (go_quiet (fail); try go_wp2)
              go_ret
              exact ⟨by first | rfl | (simp [errV_none, errV_some] <;> rfl) | (simp only [← hji17]; first | rfl | (simp [errV_none, errV_some] <;> rfl)) | (simp [*, errV_none, errV_some] <;> rfl), by repeat (first | (with_reducible first | exact HB.out | apply below_alloc | apply pw_below_drewN | apply below_drew1 | refine below_set ?_ GE164.out) | exact HB.out)⟩
             ·rw [if_neg c20] at H
              have c20b0 : decide ((rd (rd_L1 l0_1 a1) x8_2) ≤ (rd (rd_L1 l0_1 a1) (ji17))) = false := decide_eq_false c20
              clear c20
              have H' := Aside0.mk H
              clear H
              have p168 : 0 ≤ (x8_2 : Int) := of_decide_eq_true (by first | (with_reducible assumption) | assumption)
              have q168 : x8_2 < ((rd_L1 l0_1 a1).length : Int) := of_decide_eq_true (by first | (with_reducible assumption) | assumption)
              obtain ⟨ad168, e168, hx168_0⟩ := Kd.at_int HR165_0.out x8_2 p168 q168
              cases e168
              replace hx168_0 := (HB.out.cell (World.block_lt_of_cell? w _ hx168_0)).trans hx168_0
              replace p168 := eq_true p168
              replace q168 := eq_true q168
              have p169 : 0 ≤ ((ji17) : Int) := of_decide_eq_true (by first | (with_reducible assumption) | assumption)
              have q169 : (ji17) < ((rd_L1 l0_1 a1).length : Int) := of_decide_eq_true (by first | (with_reducible assumption) | assumption)
              obtain ⟨ad169, e169, hx169_0⟩ := Kd.at_int HR165_0.out (ji17) p169 q169
              obtain rfl : ad168 = ad169 := (by injection e169)
              replace hx169_0 := (HB.out.cell (World.block_lt_of_cell? w _ hx169_0)).trans hx169_0
              replace p169 := eq_true p169
              replace q169 := eq_true q169
              go_wp2
              repeat (go_quiet (fail); try go_wp2)
              go_roundg k2
              case measure => have := HK1.out; have := HK2.out; omega
              case rel => exact ⟨(wrap64 (x8_2 + 1)), (by first | rfl | (simp; done) | (simp [*]; done)), H', ⟨by have := HK1.out; have := HK2.out; omega⟩, ⟨by (with_reducible repeat (first | refine blk_drewN ?_ _ | refine blk_drew ?_ | refine blk_alloc ?_ _)); exact BK164.out⟩, ⟨by repeat (first | (with_reducible first | exact HB.out | apply below_alloc | apply pw_below_drewN | apply below_drew1 | refine below_set ?_ GE164.out) | exact HB.out)⟩⟩
            ·rw [if_neg c19] at H
             exact absurd H (by simp)
           ·rw [if_neg c18] at H
            exact absurd H (by simp)
          ·rw [if_neg c16] at H
           exact absurd H (by simp)
         ·rw [if_neg c15] at H
          have c15b0 : decide (x8_2 < ((rd_L1 l0_1 a1).length : Int)) = false := decide_eq_false c15
          clear c15
          by_cases c21 : a1 > 0
          ·rw [if_pos c21] at H
           have c21b0 : decide (0 < a1) = true := decide_eq_true c21
           clear c21
           by_cases c22 : 0 < ((rd_L1 l0_1 a1).length : Int)
           ·rw [if_pos c22] at H
            have c22b0 : decide (0 < ((rd_L1 l0_1 a1).length : Int)) = true := decide_eq_true c22
            have c22b1 : decide (0 < (rd_L1 l0_1 a1).length) = true := decide_eq_true (by omega)
            clear c22
            obtain ⟨ji23, hji23⟩ : ∃ j_ : Int, (wrap64 (a1 - 1)) = j_ := ⟨_, rfl⟩
            replace H : (if 0 ≤ (ji23) then (if (ji23) < (l0_1.length : Int) then (if 0 < ((rd_L1 l0_1 (ji23)).length : Int) then (if (rd (rd_L1 l0_1 a1) 0) ≤ (rd (rd_L1 l0_1 (ji23)) 0) then (some 6) else (some 0)) else (none)) else (none)) else (none)) = some r := by first | (rw [hji23] at H; exact H) | (simp only [hji23] at H ⊢; exact H)
            have hji23w : (IntKind.i64.wrap (a1 - 1)) = ji23 := (i64_w _).trans hji23
            by_cases c24 : 0 ≤ (ji23)
            ·rw [if_pos c24] at H
             have c24b0 : decide (0 ≤ (ji23)) = true := decide_eq_true c24
             clear c24
             by_cases c25 : (ji23) < (l0_1.length : Int)
             ·rw [if_pos c25] at H
              have c25b0 : decide ((ji23) < (l0_1.length : Int)) = true := decide_eq_true c25
              clear c25
              by_cases c26 : 0 < ((rd_L1 l0_1 (ji23)).length : Int)
              ·rw [if_pos c26] at H
               have c26b0 : decide (0 < ((rd_L1 l0_1 (ji23)).length : Int)) = true := decide_eq_true c26
               have c26b1 : decide (0 < (rd_L1 l0_1 (ji23)).length) = true := decide_eq_true (by omega)
               clear c26
               by_cases c27 : (rd (rd_L1 l0_1 a1) 0) ≤ (rd (rd_L1 l0_1 (ji23)) 0)
               ·rw [if_pos c27] at H
                have c27b0 : decide ((rd (rd_L1 l0_1 a1) 0) ≤ (rd (rd_L1 l0_1 (ji23)) 0)) = true := decide_eq_true c27
                clear c27
                obtain rfl := Option.some.inj H
                have p170 : 0 ≤ (0 : Int) := (by omega)
                have q170 : 0 < ((rd_L1 l0_1 a1).length : Int) := of_decide_eq_true (by first | (with_reducible assumption) | assumption)
                obtain ⟨ad170, e170, hx170_0⟩ := Kd.at_int HR165_0.out 0 p170 q170
                cases e170
                have qi170 : (0 < (rd_L1 l0_1 a1).length) = True := eq_true (by omega)
                (try rw [show ((0 : Int)).toNat = 0 from rfl] at hx170_0)
                (try rw [Addr.add_zero'] at hx170_0)
                replace hx170_0 := (HB.out.cell (World.block_lt_of_cell? w _ hx170_0)).trans hx170_0
                replace p170 := eq_true p170
                replace q170 := eq_true q170
                have hcz28_0 : wr.cell? ⟨gb164, 0, none⟩ = some (.string a0_0) := (blk_cell BK164.out 0).trans rfl
                have hcz28_1 : wr.cell? ⟨gb164, 1, none⟩ = some (.slice (some ad165) l0_1.length c0_1) := (blk_cell BK164.out 1).trans rfl
                have hfz28_0 := blk_frozen BK164.out 0
                have hfz28_1 := blk_frozen BK164.out 1
                have p171 : 0 ≤ ((ji23) : Int) := of_decide_eq_true (by first | (with_reducible assumption) | assumption)
                have q171 : (ji23) < (l0_1.length : Int) := of_decide_eq_true (by first | (with_reducible assumption) | assumption)
                obtain ⟨ad171, A171_0, c171_0, e171, hx171_0, hl171_0, hi171_0⟩ := at_L1 HR0_1.out (ji23) p171 q171
                obtain rfl : ad165 = ad171 := (by injection e171)
                replace hx171_0 := (HB.out.cell (World.block_lt_of_cell? w _ hx171_0)).trans hx171_0
                have HR171_0 := Aside0.mk hi171_0
                have HC171_0 := Aside0.mk hl171_0
                clear hi171_0 hl171_0
                replace p171 := eq_true p171
                replace q171 := eq_true q171
                have p172 : 0 ≤ (0 : Int) := (by omega)
                have q172 : 0 < ((rd_L1 l0_1 (ji23)).length : Int) := of_decide_eq_true (by first | (with_reducible assumption) | assumption)
                obtain ⟨ad172, e172, hx172_0⟩ := Kd.at_int HR171_0.out 0 p172 q172
                cases e172
                have qi172 : (0 < (rd_L1 l0_1 (ji23)).length) = True := eq_true (by omega)
                (try rw [show ((0 : Int)).toNat = 0 from rfl] at hx172_0)
                (try rw [Addr.add_zero'] at hx172_0)
                replace hx172_0 := (HB.out.cell (World.block_lt_of_cell? w _ hx172_0)).trans hx172_0
                replace p172 := eq_true p172
                replace q172 := eq_true q172
                go_wp2
                repeat (go_quiet (fail); try go_wp2)
                go_ret
                exact ⟨by first | rfl | (simp [errV_none, errV_some] <;> rfl) | (simp only [← hji23]; first | rfl | (simp [errV_none, errV_some] <;> rfl)) | (simp [*, errV_none, errV_some] <;> rfl), by repeat (first | (with_reducible first | exact HB.out | apply below_alloc | apply pw_below_drewN | apply below_drew1 | refine below_set ?_ GE164.out) | exact HB.out)⟩
               ·rw [if_neg c27] at H
                have c27b0 : decide ((rd (rd_L1 l0_1 a1) 0) ≤ (rd (rd_L1 l0_1 (ji23)) 0)) = false := decide_eq_false c27
                clear c27
                obtain rfl := Option.some.inj H
                have p170 : 0 ≤ (0 : Int) := (by omega)
                have q170 : 0 < ((rd_L1 l0_1 a1).length : Int) := of_decide_eq_true (by first | (with_reducible assumption) | assumption)
                obtain ⟨ad170, e170, hx170_0⟩ := Kd.at_int HR165_0.out 0 p170 q170
                cases e170
                have qi170 : (0 < (rd_L1 l0_1 a1).length) = True := eq_true (by omega)
                (try rw [show ((0 : Int)).toNat = 0 from rfl] at hx170_0)
                (try rw [Addr.add_zero'] at hx170_0)
                replace hx170_0 := (HB.out.cell (World.block_lt_of_cell? w _ hx170_0)).trans hx170_0
                replace p170 := eq_true p170
                replace q170 := eq_true q170
                have hcz29_0 : wr.cell? ⟨gb164, 0, none⟩ = some (.string a0_0) := (blk_cell BK164.out 0).trans rfl
                have hcz29_1 : wr.cell? ⟨gb164, 1, none⟩ = some (.slice (some ad165) l0_1.length c0_1) := (blk_cell BK164.out 1).trans rfl
                have hfz29_0 := blk_frozen BK164.out 0
                have hfz29_1 := blk_frozen BK164.out 1
                have p171 : 0 ≤ ((ji23) : Int) := of_decide_eq_true (by first | (with_reducible assumption) | assumption)
                have q171 : (ji23) < (l0_1.length : Int) := of_decide_eq_true (by first | (with_reducible assumption) | assumption)
                obtain ⟨ad171, A171_0, c171_0, e171, hx171_0, hl171_0, hi171_0⟩ := at_L1 HR0_1.out (ji23) p171 q171
                obtain rfl : ad165 = ad171 := (by injection e171)
                replace hx171_0 := (HB.out.cell (World.block_lt_of_cell? w _ hx171_0)).trans hx171_0
                have HR171_0 := Aside0.mk hi171_0
                have HC171_0 := Aside0.mk hl171_0
                clear hi171_0 hl171_0
                replace p171 := eq_true p171
                replace q171 := eq_true q171
                have p172 : 0 ≤ (0 : Int) := (by omega)
                have q172 : 0 < ((rd_L1 l0_1 (ji23)).length : Int) := of_decide_eq_true (by first | (with_reducible assumption) | assumption)
                obtain ⟨ad172, e172, hx172_0⟩ := Kd.at_int HR171_0.out 0 p172 q172
                cases e172
                have qi172 : (0 < (rd_L1 l0_1 (ji23)).length) = True := eq_true (by omega)
                (try rw [show ((0 : Int)).toNat = 0 from rfl] at hx172_0)
                (try rw [Addr.add_zero'] at hx172_0)
                replace hx172_0 := (HB.out.cell (World.block_lt_of_cell? w _ hx172_0)).trans hx172_0
                replace p172 := eq_true p172
                replace q172 := eq_true q172
                go_wp2
                repeat (go_quiet (fail); try go_wp2)
                go_ret
                exact ⟨by first | rfl | (simp [errV_none, errV_some] <;> rfl) | (simp only [← hji23]; first | rfl | (simp [errV_none, errV_some] <;> rfl)) | (simp [*, errV_none, errV_some] <;> rfl), by repeat (first | (with_reducible first | exact HB.out | apply below_alloc | apply pw_below_drewN | apply below_drew1 | refine below_set ?_ GE164.out) | exact HB.out)⟩
              ·rw [if_neg c26] at H
               exact absurd H (by simp)
             ·rw [if_neg c25] at H
              exact absurd H (by simp)
            ·rw [if_neg c24] at H
             exact absurd H (by simp)
           ·rw [if_neg c22] at H
            exact absurd H (by simp)
          ·rw [if_neg c21] at H
           have c21b0 : decide (0 < a1) = false := decide_eq_false c21
           clear c21
           obtain rfl := Option.some.inj H
           go_wp2
           repeat (go_quiet (fail); try go_wp2)
           go_ret
           exact ⟨by first | rfl | (simp [errV_none, errV_some] <;> rfl) | (simp [*, errV_none, errV_some] <;> rfl), by repeat (first | (with_reducible first | exact HB.out | apply below_alloc | apply pw_below_drewN | apply below_drew1 | refine below_set ?_ GE164.out) | exact HB.out)⟩
  ·rw [if_neg c4] at H
   exact absurd H (by simp)
 ·rw [if_neg c3] at H
  exact absurd H (by simp)

end Go.Proofs.YtohnahbjmcelfaaDoor.V
