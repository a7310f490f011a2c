-- Printed by this session's own turn of the print (wip/mkprint.py), with parts that were proved by hand.
import Derived.Test.YtenkmjccfpfkbaaDoorVx0
namespace Go.Proofs.YtenkmjccfpfkbaaDoor.V
open Go.RowKit Go.Proofs.YtenkmjccfpfkbaaDoorW.PrintWords Go.Proofs.YtenkmjccfpfkbaaDoorW.PrintLast Go.Proofs.YtenkmjccfpfkbaaDoorW.PrintMore Go.Proofs.YtenkmjccfpfkbaaDoor.Er
attribute [local go_sem] max2_int min2_int max_two min_two max_three min_three max_four min_four   -- for this text's walks alone
set_option linter.unusedVariables false
set_option linter.unusedSimpArgs false

/-! ### utf_Right: function 20 -/
def utf_Right.f (a0 : Int) : Option (Bool) := if a0 ≥ 0 then (if a0 ≤ 1114111 then (if a0 < 55296 then (some true) else (some (decide (a0 > 57343)))) else (some false)) else (some false)
set_option maxHeartbeats 8000000 in
set_option maxRecDepth 100000 in
theorem utf_Right.calls (a0 : Int) (r : Bool) (w : World) (h : utf_Right.f a0 = some r) :
    Calls Tryd.prog 20 #[.int .i32 a0] w fun e w' => e = .returned (.bool r) ∧ Drawn0 w w' := by
  have H : (if a0 ≥ 0 then (if a0 ≤ 1114111 then (if a0 < 55296 then (some true) else (some (decide (a0 > 57343)))) else (some false)) else (some false)) = some r := h
  clear h
  by_cases c2 : a0 ≥ 0
  · rw [if_pos c2] at H
    have c2b0 : decide (0 ≤ a0) = true := decide_eq_true c2
    clear c2
    by_cases c3 : a0 ≤ 1114111
    · rw [if_pos c3] at H
      have c3b0 : decide (a0 ≤ 1114111) = true := decide_eq_true c3
      clear c3
      by_cases c4 : a0 < 55296
      · rw [if_pos c4] at H
        have c4b0 : decide (a0 < 55296) = true := decide_eq_true c4
        clear c4
        obtain rfl := Option.some.inj H
        go_enter Tryd.func20, Tryd.ntmps20
        go_wp2
        go_ret
        exact ⟨by first | rfl | (simp; done) | (simp [*]; done), by repeat (first | exact Drawn0.refl _ | apply Drawn0.step)⟩
      · rw [if_neg c4] at H
        have c4b0 : decide (a0 < 55296) = false := decide_eq_false c4
        clear c4
        obtain rfl := Option.some.inj H
        go_enter Tryd.func20, Tryd.ntmps20
        go_wp2
        go_ret
        exact ⟨by first | rfl | (simp; done) | (simp [*]; done), by repeat (first | exact Drawn0.refl _ | apply Drawn0.step)⟩
    · rw [if_neg c3] at H
      have c3b0 : decide (a0 ≤ 1114111) = false := decide_eq_false c3
      clear c3
      obtain rfl := Option.some.inj H
      go_enter Tryd.func20, Tryd.ntmps20
      go_wp2
      go_ret
      exact ⟨by first | rfl | (simp; done) | (simp [*]; done), by repeat (first | exact Drawn0.refl _ | apply Drawn0.step)⟩
  · rw [if_neg c2] at H
    have c2b0 : decide (0 ≤ a0) = false := decide_eq_false c2
    clear c2
    obtain rfl := Option.some.inj H
    go_enter Tryd.func20, Tryd.ntmps20
    go_wp2
    go_ret
    exact ⟨by first | rfl | (simp; done) | (simp [*]; done), by repeat (first | exact Drawn0.refl _ | apply Drawn0.step)⟩

/-! ### puny_fault: function 21 -/
def puny_fault.f (at_ : Int) (c : Nat) : Option (Option Int) := if c ≠ 0 ∧ c < 64 then some (some (enc at_ c)) else none
theorem puny_fault_walk (sv : Nat → Addr) (at_ : Int) (c : Nat) (hc : c < 64) (h0 : c ≠ 0) (w : World) : Calls Tryd.prog 21 #[.int .i64 at_, senW sv c] w fun e w' => e = .returned (errV w' (some (enc at_ c))) ∧ ErrAt sv w' (some (enc at_ c)) ∧ Below w.heap.size w w' := by
  refine fault_calls sv at_ c hc w ?_
  go_enter Tryd.func21, Tryd.ntmps21
  have hu := Tryd.underlying64
  obtain ⟨sw, hsw⟩ : ∃ sw, senW sv c = .iface 142 sw := ⟨_, senW_pos sv c h0⟩
  rw [hsw]
  go_wp2
  go_ret
  exact ⟨rfl, rfl⟩
theorem puny_fault.calls (sv : Nat → Addr) (at_ : Int) (c : Nat) (r : Option Int) (w : World) (hsv : Laid sv w) (h : puny_fault.f at_ c = some r) : Calls Tryd.prog 21 #[.int .i64 at_, senW sv c] w fun e w' => e = .returned (errV w' r) ∧ ErrAt sv w' r ∧ Below w.heap.size w w' := by
  unfold puny_fault.f at h
  by_cases hc : c ≠ 0 ∧ c < 64
  · rw [if_pos hc] at h
    obtain rfl := Option.some.inj h
    exact puny_fault_walk sv at_ c hc.2 hc.1 w
  · rw [if_neg hc] at h
    exact absurd h (by simp)

-- NOT PRINTED: function 57 (abi_NoEscape)

-- NOT PRINTED: function 41 (strings_Builder_copyCheck)

-- NOT PRINTED: function 22 (strings_Builder_WriteByte)

/-! ### cmp_isNaN_rune: function 80 -/
def cmp_isNaN_rune.f (a0 : Int) : Option (Bool) := some (a0 != a0)
set_option maxHeartbeats 8000000 in
set_option maxRecDepth 100000 in
theorem cmp_isNaN_rune.calls (a0 : Int) (r : Bool) (w : World) (h : cmp_isNaN_rune.f a0 = some r) :
    Calls Tryd.prog 80 #[.int .i32 a0] w fun e w' => e = .returned (.bool r) ∧ Drawn0 w w' := by
  have H : (some (a0 != a0)) = some r := h
  clear h
  obtain rfl := Option.some.inj H
  go_enter Tryd.func80, Tryd.ntmps80
  go_wp2
  go_ret
  exact ⟨by first | rfl | (simp; done) | (simp [*]; done), by repeat (first | exact Drawn0.refl _ | apply Drawn0.step)⟩

/-! ### cmp_Less_rune: function 64 -/
def cmp_Less_rune.f (a0 : Int) (a1 : Int) : Option (Bool) := (cmp_isNaN_rune.f a0).bind fun t101 => (if t101 = true then ((cmp_isNaN_rune.f a1).bind fun t102 => (if t102 = true then (some (decide (a0 < a1))) else (some true))) else (some (decide (a0 < a1))))
set_option maxHeartbeats 8000000 in
set_option maxRecDepth 100000 in
theorem cmp_Less_rune.calls (a0 : Int) (a1 : Int) (r : Bool) (w : World) (h : cmp_Less_rune.f a0 a1 = some r) :
    Calls Tryd.prog 64 #[.int .i32 a0, .int .i32 a1] w fun e w' => e = .returned (.bool r) ∧ Drawn0 w w' := by
  have H : ((cmp_isNaN_rune.f a0).bind fun t101 => (if t101 = true then ((cmp_isNaN_rune.f a1).bind fun t102 => (if t102 = true then (some (decide (a0 < a1))) else (some true))) else (some (decide (a0 < a1))))) = some r := h
  clear h
  replace H := Option.bind_eq_some_iff.mp H
  obtain ⟨t101, A30, H⟩ := H
  replace H : (if t101 = true then ((cmp_isNaN_rune.f a1).bind fun t102 => (if t102 = true then (some (decide (a0 < a1))) else (some true))) else (some (decide (a0 < a1)))) = some r := H
  have A3 := Aside0.mk A30
  clear A30
  by_cases c4 : t101 = true
  · subst c4
    have H1 : ((cmp_isNaN_rune.f a1).bind fun t102 => (if t102 = true then (some (decide (a0 < a1))) else (some true))) = some r := by rw [if_pos rfl] at H; exact H
    clear H
    have H := H1
    clear H1
    replace H := Option.bind_eq_some_iff.mp H
    obtain ⟨t102, A50, H⟩ := H
    replace H : (if t102 = true then (some (decide (a0 < a1))) else (some true)) = some r := H
    have A5 := Aside0.mk A50
    clear A50
    by_cases c6 : t102 = true
    · subst c6
      have H1 : (some (decide (a0 < a1))) = some r := by rw [if_pos rfl] at H; exact H
      clear H
      have H := H1
      clear H1
      obtain rfl := Option.some.inj H
      go_enter Tryd.func64, Tryd.ntmps64
      go_wp2_with (first | ((with_reducible refine gate_callee (f := 80) rfl ?_); refine goesL_ (some 6) rfl rfl Tryd.func80 (by kernel_rfl) rfl #[.int .i32 a0] rfl (by (try simp only [List.map_toArray, List.map_cons, List.map_nil]); first | done | rfl | (simp only [List.length_drop, List.length_take]; rfl)) ?_; (with_reducible refine (cmp_isNaN_rune.calls a0 true _ A3.out).mono ?_); rintro e w' ⟨rfl, ⟨nd, rfl⟩⟩; refine ⟨_, rfl, ?_⟩) | (go_at_call 80; (with_reducible refine (cmp_isNaN_rune.calls a1 true _ A5.out).mono ?_); rintro e w' ⟨rfl, ⟨nd, rfl⟩⟩))
      go_ret
      exact ⟨by first | rfl | (simp; done) | (simp [*]; done), by repeat (first | exact Drawn0.refl _ | apply Drawn0.step)⟩
    · replace c6 := Bool.eq_false_iff.mpr c6
      subst c6
      have H1 : (some true) = some r := by rw [if_neg (show ¬ (false = true) by decide)] at H; exact H
      clear H
      have H := H1
      clear H1
      obtain rfl := Option.some.inj H
      go_enter Tryd.func64, Tryd.ntmps64
      go_wp2_with (first | ((with_reducible refine gate_callee (f := 80) rfl ?_); refine goesL_ (some 6) rfl rfl Tryd.func80 (by kernel_rfl) rfl #[.int .i32 a0] rfl (by (try simp only [List.map_toArray, List.map_cons, List.map_nil]); first | done | rfl | (simp only [List.length_drop, List.length_take]; rfl)) ?_; (with_reducible refine (cmp_isNaN_rune.calls a0 true _ A3.out).mono ?_); rintro e w' ⟨rfl, ⟨nd, rfl⟩⟩; refine ⟨_, rfl, ?_⟩) | (go_at_call 80; (with_reducible refine (cmp_isNaN_rune.calls a1 false _ A5.out).mono ?_); rintro e w' ⟨rfl, ⟨nd, rfl⟩⟩))
      go_ret
      exact ⟨by first | rfl | (simp; done) | (simp [*]; done), by repeat (first | exact Drawn0.refl _ | apply Drawn0.step)⟩
  · replace c4 := Bool.eq_false_iff.mpr c4
    subst c4
    have H1 : (some (decide (a0 < a1))) = some r := by rw [if_neg (show ¬ (false = true) by decide)] at H; exact H
    clear H
    have H := H1
    clear H1
    obtain rfl := Option.some.inj H
    go_enter Tryd.func64, Tryd.ntmps64
    go_wp2_with (first | ((with_reducible refine gate_callee (f := 80) rfl ?_); refine goesL_ (some 6) rfl rfl Tryd.func80 (by kernel_rfl) rfl #[.int .i32 a0] rfl (by (try simp only [List.map_toArray, List.map_cons, List.map_nil]); first | done | rfl | (simp only [List.length_drop, List.length_take]; rfl)) ?_; (with_reducible refine (cmp_isNaN_rune.calls a0 false _ A3.out).mono ?_); rintro e w' ⟨rfl, ⟨nd, rfl⟩⟩; refine ⟨_, rfl, ?_⟩))
    go_ret
    exact ⟨by first | rfl | (simp; done) | (simp [*]; done), by repeat (first | exact Drawn0.refl _ | apply Drawn0.step)⟩

end Go.Proofs.YtenkmjccfpfkbaaDoor.V
