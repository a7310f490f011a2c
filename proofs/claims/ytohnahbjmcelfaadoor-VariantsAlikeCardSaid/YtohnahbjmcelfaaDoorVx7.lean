-- Printed by this session's own turn of the print (wip/mkprint.py), with parts that were proved by hand.
-- HALVED
import Derived.Test.YtohnahbjmcelfaaDoorVx0
import Derived.Test.YtohnahbjmcelfaaDoorVx1
import Derived.Test.YtohnahbjmcelfaaDoorVx3
import Derived.Test.YtohnahbjmcelfaaDoorVx6
namespace Go.Proofs.YtohnahbjmcelfaaDoor.V
open Go.RowKit Go.Proofs.YtohnahbjmcelfaaDoorW.PrintWords Go.Proofs.YtohnahbjmcelfaaDoorW.PrintLast Go.Proofs.YtohnahbjmcelfaaDoorW.PrintMore Go.Proofs.YtohnahbjmcelfaaDoor.Er
attribute [local go_sem] max2_int min2_int max_two min_two max_three min_three max_four min_four   -- for this text's walks alone
set_option linter.unusedVariables false
set_option linter.unusedSimpArgs false

/-! ### variants_Check: function 7 -/
/-- the map of runes that were seen, as it reads. -/
def seenD : List Int → DataW Unit
 | [] => .map []
 | r :: S => (seenD S).put (.int .i32 r) (.lit (.int .i64 1))
theorem seenD_map (S : List Int) : Maps.IsMap (seenD S) := by
 induction S with
 | nil => exact Maps.isMap_empty
 | cons r S ih => exact Maps.IsMap.put ih _ _
theorem seenD_at (r : Int) (hr : (Lit.int .i32 r).wf = true) (S : List Int) : (seenD S).atKey (.int .i32 r) (.lit (.int .i64 0)) = .lit (.int .i64 (if r ∈ S then 1 else 0)) := by
 induction S with
 | nil => rfl
 | cons x S ih =>
  by_cases e : r = x
  ·subst e
   rw [if_pos (List.mem_cons_self)]
   exact Maps.atKey_put_same (seenD_map S) (by trivial) _ _
  ·show ((seenD S).put (.int .i32 x) _).atKey (.int .i32 r) _ = _
   rw [Maps.atKey_put_other (by intro h; injection h with _ h1; exact e h1), ih]
   simp [e]
theorem law_i32 : Go.Maps.Keyed Tryd.prog 21 := Go.Maps.int_keyed Tryd.underlying21
theorem zero_int (w : World) : (zeroValue 3).run Tryd.prog w = .ok (.int .i64 0) w := by kernel_rfl
mutual
def variants_Check.l0 : Nat → Int → Int → ByteArray → List (List Int) → Option (Option Int)
 | 0, _, _, _, _ => none
 | k + 1, n, x, nm, ss => if x < (ss.length : Int) then (if 0 ≤ x then (if (wrap64 (n + ((rd_L1 ss x).length : Int))) > 2000 then (variants_fault.f 0 18) else (variants_Check.l0 k (wrap64 (n + ((rd_L1 ss x).length : Int))) (wrap64 (x + 1)) nm ss)) else none) else (variants_Check.l1 k [] 0 nm ss)
def variants_Check.l1 : Nat → List Int → Int → ByteArray → List (List Int) → Option (Option Int)
 | 0, _, _, _, _ => none
 | k + 1, S, x, nm, ss => if x < (ss.length : Int) then (if 0 ≤ x then ((variants_setError.f k nm ss x).bind fun e => (if e = 0 then (variants_Check.l2 k S x (rd_L1 ss x) 0 nm ss) else (variants_fault.f x e))) else none) else (some none)
def variants_Check.l2 : Nat → List Int → Int → List Int → Int → ByteArray → List (List Int) → Option (Option Int)
 | 0, _, _, _, _, _, _ => none
 | k + 1, S, x, xs, j, nm, ss => if j < (xs.length : Int) then (if 0 ≤ j then (if S.length < 4096 ∧ -2147483648 ≤ rd xs j ∧ rd xs j ≤ 2147483647 then (if rd xs j ∈ S then (variants_fault.f x 7) else (variants_Check.l2 k (rd xs j :: S) x xs (wrap64 (j + 1)) nm ss)) else none) else none) else (variants_Check.l1 k S (wrap64 (x + 1)) nm ss)
end
def variants_Check.f (k : Nat) (nm : ByteArray) (ss : List (List Int)) : Option (Option Int) := if (nm.size : Int) < 1 then (variants_fault.f 0 5) else (if (nm.size : Int) > 63 then (variants_fault.f 0 5) else ((utf_Valid.f k nm).bind fun v => (if v = true then (variants_Check.l0 k 0 0 nm ss) else (variants_fault.f 0 5))))
theorem variants_Check.mono_l : ∀ k, (∀ a b c d, LeO (variants_Check.l0 k a b c d) (variants_Check.l0 (k + 1) a b c d)) ∧ (∀ a b c d, LeO (variants_Check.l1 k a b c d) (variants_Check.l1 (k + 1) a b c d)) ∧ (∀ a b c d e f, LeO (variants_Check.l2 k a b c d e f) (variants_Check.l2 (k + 1) a b c d e f))
 | 0 => ⟨fun _ _ _ _ r h => by simp [variants_Check.l0] at h, fun _ _ _ _ r h => by simp [variants_Check.l1] at h, fun _ _ _ _ _ _ r h => by simp [variants_Check.l2] at h⟩
 | k + 1 => by
  obtain ⟨ih0, ih1, ih2⟩ := variants_Check.mono_l k
  refine ⟨?_, ?_, ?_⟩
  ·intro a b c d
   unfold variants_Check.l0
   repeat' first
    | (with_reducible exact ih0 _ _ _ _)
    | (with_reducible exact ih1 _ _ _ _)
    | (with_reducible exact LeO.refl _)
    | (with_reducible exact LeO.none _)
    | (with_reducible refine LeO.ite ?_ ?_)
  ·intro a b c d
   unfold variants_Check.l1
   repeat' first
    | (with_reducible exact ih2 _ _ _ _ _ _)
    | (with_reducible exact variants_setError.mono _ _ _ _)
    | (with_reducible exact LeO.refl _)
    | (with_reducible exact LeO.none _)
    | (with_reducible refine LeO.ite ?_ ?_)
    | (with_reducible refine LeO.bind ?_ (fun _ => ?_))
  ·intro a b c d e f
   unfold variants_Check.l2
   repeat' first
    | (with_reducible exact ih1 _ _ _ _)
    | (with_reducible exact ih2 _ _ _ _ _ _)
    | (with_reducible exact LeO.refl _)
    | (with_reducible exact LeO.none _)
    | (with_reducible refine LeO.ite ?_ ?_)
theorem variants_Check.mono : ∀ a0 a1 k, LeO (variants_Check.f k a0 a1) (variants_Check.f (k + 1) a0 a1) := by
 intro a0 a1 k
 obtain ⟨ih0, ih1, ih2⟩ := variants_Check.mono_l k
 unfold variants_Check.f
 repeat' first
  | (with_reducible exact ih0 _ _ _ _)
  | (with_reducible exact utf_Valid.mono _ _)
  | (with_reducible exact LeO.refl _)
  | (with_reducible exact LeO.none _)
  | (with_reducible refine LeO.ite ?_ ?_)
  | (with_reducible refine LeO.bind ?_ (fun _ => ?_))
set_option maxHeartbeats 8000000 in
set_option maxRecDepth 100000 in
theorem variants_Check.calls (sv : Nat → Addr) (k : Nat) (a0_0 : ByteArray) (A0_1 : Option Addr) (c0_1 : Nat) (l0_1 : List (List Int)) (r : Option Int) (w : World) (hsv : Laid sv w) (hr0_1 : Kd.C (Kd.slice 21 (Kd.int .i32)) w A0_1 l0_1.length l0_1) (hc0_1 : l0_1.length ≤ c0_1) (h : variants_Check.f k a0_0 l0_1 = some r) :
  Calls Tryd.prog 7 #[.agg #[.string a0_0, .slice A0_1 l0_1.length c0_1]] w fun e w' => e = .returned (errV w' r) ∧ ErrAt sv w' r ∧ Below w.heap.size w w' := by
 unfold variants_Check.f at h
 have hu24 := Tryd.underlying24
 have hmm := @run_makeMap Tryd.prog
 have HR0_1 := Aside0.mk hr0_1
 have HC0_1 := Aside0.mk hc0_1
 have HSV := Aside0.mk hsv
 clear hr0_1 hc0_1 hsv
 have HB := Aside0.mk (Below.refl w.heap.size w)
 have hsg5 := HSV.out.at5
 by_cases c1 : (a0_0.size : Int) < 1
 ·rw [if_pos c1] at h
  have A1 := Aside0.mk h
  clear h
  have c1b : decide (a0_0.size < 1) = true := decide_eq_true (by omega)
  have c1c : decide ((a0_0.size : Int) < 1) = true := decide_eq_true c1
  go_enter Tryd.func7, Tryd.ntmps7
  go_wp2_with (first | ((with_reducible refine gate_dst (N := 1) rfl ?_); refine box_event ?hg (N := 1) ?hd (cs := #[.string a0_0, .slice A0_1 l0_1.length c0_1]) (t := 24) ?hr ?_; (case hd => rfl); (case hg => rfl); (case hr => first | (go_simp; done) | (go_simp; rfl)); intro gb hg w3 hbox hb; have n0_ := Aside0.mk (below_step HB.out hb); have BK := Aside0.mk (hbox); have hcz0 : w3.cell? ⟨gb, 0, none⟩ = some (.string a0_0) := (blk_cell hbox 0).trans rfl; clear HB; have HB := n0_; clear n0_; clear hb hbox hg hsg5; have hsg5 := (Laid.below HSV.out HB.out).at5) | (go_at_call 16; refine (variants_fault.calls sv 0 5 r _ (Laid.below HSV.out HB.out) A1.out).mono ?_; rintro e w9 ⟨rfl, hE_, hb⟩; have HE := Aside0.mk hE_; have HB9 := Aside0.mk (below_step HB.out hb); clear hE_ hb))
  go_ret
  exact ⟨rfl, HE.out, HB9.out⟩
 rw [if_neg c1] at h
 have c1b : decide (a0_0.size < 1) = false := decide_eq_false (by omega)
 have c1c : decide ((a0_0.size : Int) < 1) = false := decide_eq_false c1
 by_cases c2 : (a0_0.size : Int) > 63
 ·rw [if_pos c2] at h
  have A1 := Aside0.mk h
  clear h
  have c2b : decide (63 < a0_0.size) = true := decide_eq_true (by omega)
  have c2c : decide (63 < (a0_0.size : Int)) = true := decide_eq_true c2
  go_enter Tryd.func7, Tryd.ntmps7
  go_wp2_with (first | ((with_reducible refine gate_dst (N := 1) rfl ?_); refine box_event ?hg (N := 1) ?hd (cs := #[.string a0_0, .slice A0_1 l0_1.length c0_1]) (t := 24) ?hr ?_; (case hd => rfl); (case hg => rfl); (case hr => first | (go_simp; done) | (go_simp; rfl)); intro gb hg w3 hbox hb; have n0_ := Aside0.mk (below_step HB.out hb); have BK := Aside0.mk (hbox); have hcz0 : w3.cell? ⟨gb, 0, none⟩ = some (.string a0_0) := (blk_cell hbox 0).trans rfl; clear HB; have HB := n0_; clear n0_; clear hb hbox hg hsg5; have hsg5 := (Laid.below HSV.out HB.out).at5) | (go_at_call 16; refine (variants_fault.calls sv 0 5 r _ (Laid.below HSV.out HB.out) A1.out).mono ?_; rintro e w9 ⟨rfl, hE_, hb⟩; have HE := Aside0.mk hE_; have HB9 := Aside0.mk (below_step HB.out hb); clear hE_ hb))
  go_ret
  exact ⟨rfl, HE.out, HB9.out⟩
 rw [if_neg c2] at h
 have c2b : decide (63 < a0_0.size) = false := decide_eq_false (by omega)
 have c2c : decide (63 < (a0_0.size : Int)) = false := decide_eq_false c2
 obtain ⟨v, hv, h⟩ := Option.bind_eq_some_iff.mp h
 have AV := Aside0.mk hv
 clear hv
 cases v with
 | false =>
  rw [if_neg (by decide)] at h
  have A1 := Aside0.mk h
  clear h
  go_enter Tryd.func7, Tryd.ntmps7
  go_wp2_with (first | ((with_reducible refine gate_dst (N := 1) rfl ?_); refine box_event ?hg (N := 1) ?hd (cs := #[.string a0_0, .slice A0_1 l0_1.length c0_1]) (t := 24) ?hr ?_; (case hd => rfl); (case hg => rfl); (case hr => first | (go_simp; done) | (go_simp; rfl)); intro gb hg w3 hbox hb; have n0_ := Aside0.mk (below_step HB.out hb); have BK := Aside0.mk (hbox); have hcz0 : w3.cell? ⟨gb, 0, none⟩ = some (.string a0_0) := (blk_cell hbox 0).trans rfl; clear HB; have HB := n0_; clear n0_; clear hb hbox hg hsg5; have hsg5 := (Laid.below HSV.out HB.out).at5) | (go_at_call 15; refine (utf_Valid.calls sv k a0_0 false _ (Laid.below HSV.out HB.out) AV.out).mono ?_; rintro e w8 ⟨rfl, hb⟩; have HB8 := Aside0.mk (below_step HB.out hb); clear hb hsg5; have hsg5 := (Laid.below HSV.out HB8.out).at5) | (go_at_call 16; go_loud (refine (variants_fault.calls sv 0 5 r _ (Laid.below HSV.out HB8.out) A1.out).mono ?_; rintro e w9 ⟨rfl, hE_, hb⟩; have HE := Aside0.mk hE_; have HB9 := Aside0.mk (below_step HB8.out hb); clear hE_ hb)))
  go_ret
  exact ⟨rfl, HE.out, HB9.out⟩
 | true =>
  rw [if_pos rfl] at h
  have H' := Aside0.mk h
  clear h
  go_enter Tryd.func7, Tryd.ntmps7
  go_wp2_with (first | ((with_reducible refine gate_dst (N := 1) rfl ?_); refine box_event ?hg (N := 1) ?hd (cs := #[.string a0_0, .slice A0_1 l0_1.length c0_1]) (t := 24) ?hr ?_; (case hd => rfl); (case hg => rfl); (case hr => first | (go_simp; done) | (go_simp; rfl)); intro gb hg w3 hbox hb; have n0_ := Aside0.mk (below_step HB.out hb); have BK := Aside0.mk (hbox); have hcz0 : w3.cell? ⟨gb, 0, none⟩ = some (.string a0_0) := (blk_cell hbox 0).trans rfl; clear HB; have HB := n0_; clear n0_; clear hb hbox hg hsg5; have hsg5 := (Laid.below HSV.out HB.out).at5) | (go_at_call 15; refine (utf_Valid.calls sv k a0_0 true _ (Laid.below HSV.out HB.out) AV.out).mono ?_; rintro e w8 ⟨rfl, hb⟩; have n0_ := Aside0.mk (below_step HB.out hb); have n1_ := Aside0.mk (blk_below BK.out hb); clear hb hcz0 hsg5 HB BK; have HB := n0_; have BK := n1_; clear n0_ n1_; have hcz1 : w8.cell? ⟨gb, 1, none⟩ = some (.slice A0_1 l0_1.length c0_1) := (blk_cell BK.out 1).trans rfl))
  go_loopg [3, 33] k (fun kq v3 v33 w' => ∃ (n x : Int), v3 = .int .i64 n ∧ v33 = .int .i64 x ∧ Aside0 (variants_Check.l0 kq n x a0_0 l0_1 = some r) ∧ Aside0 (kq ≤ k) ∧ Aside0 (w'.heap[gb]? = some (.cells #[.string a0_0, .slice A0_1 l0_1.length c0_1] 24 (0, 0))) ∧ Aside0 (Below w.heap.size w w'))
  case atStart => exact ⟨0, 0, rfl, rfl, H', ⟨Nat.le_refl _⟩, BK, HB⟩
  case round =>
   clear H' BK HB hcz1
   obtain ⟨n, x, rfl, rfl, HA, HK1, BK, HB⟩ := hrel
   cases gk with
   | zero => exact absurd HA.out (by simp [variants_Check.l0])
   | succ k1 =>
    have H := HA.out
    clear HA
    simp only [variants_Check.l0] at H
    by_cases c4 : x < (l0_1.length : Int)
    ·rw [if_pos c4] at H
     have c4b0 : decide (x < (l0_1.length : Int)) = true := decide_eq_true c4
     by_cases c5 : 0 ≤ x
     ·rw [if_pos c5] at H
      obtain ⟨ad, Ax, cx, ex, hx0, hl0, hi0⟩ := at_L1 (Kd.C_below HR0_1.out HB.out) x c5 c4
      cases ex
      have HRX := Aside0.mk hi0
      have HCX := Aside0.mk hl0
      clear hi0 hl0
      by_cases c6 : wrap64 (n + ((rd_L1 l0_1 x).length : Int)) > 2000
      ·rw [if_pos c6] at H
       have A1 := Aside0.mk H
       clear H
       have c6b0 : decide (2000 < wrap64 (n + ((rd_L1 l0_1 x).length : Int))) = true := decide_eq_true c6
       have hsg18 := (Laid.below HSV.out HB.out).at18
       go_wp2_with (first | (go_at_call 16; go_loud (refine (variants_fault.calls sv 0 18 r _ (Laid.below HSV.out HB.out) A1.out).mono ?_; rintro e w9 ⟨rfl, hE_, hb⟩; have HE := Aside0.mk hE_; have HB9 := Aside0.mk (below_step HB.out hb); clear hE_ hb)))
       go_ret
       exact ⟨rfl, HE.out, HB9.out⟩
      ·rw [if_neg c6] at H
       have H' := Aside0.mk H
       clear H
       have c6b0 : decide (2000 < wrap64 (n + ((rd_L1 l0_1 x).length : Int))) = false := decide_eq_false c6
       go_wp2
       go_roundg k1
       case measure => have := HK1.out; omega
       case rel => exact ⟨wrap64 (n + ((rd_L1 l0_1 x).length : Int)), wrap64 (x + 1), (by first | rfl | (simp; done) | (simp [*]; done)), (by first | rfl | (simp; done) | (simp [*]; done)), H', ⟨by have := HK1.out; omega⟩, BK, HB⟩
     ·rw [if_neg c5] at H
      exact absurd H (by simp)
    ·rw [if_neg c4] at H
     have c4b0 : decide (x < (l0_1.length : Int)) = false := decide_eq_false c4
     have H' := Aside0.mk H
     clear H
     have hcz1 : (wr.alloc (.map #[] 0)).cell? ⟨gb, 1, none⟩ = some (.slice A0_1 l0_1.length c0_1) := (blk_cell (blk_alloc BK.out _) 1).trans rfl
     go_wp2
     obtain ⟨mb, hmb⟩ : ∃ mb, mb = wr.heap.size := ⟨_, rfl⟩
     go_loopg [50] k1 (fun kq v50 w' => ∃ (S : List Int) (x : Int), v50 = .int .i64 x ∧ Aside0 (variants_Check.l1 kq S x a0_0 l0_1 = some r) ∧ Aside0 (kq ≤ k1) ∧ Aside0 (w'.ownsMap Tryd.prog 21 (plainElem Tryd.prog 3) wr.heap.size S.length (seenD S)) ∧ Aside0 (w.heap.size ≤ wr.heap.size ∧ gb < wr.heap.size) ∧ Aside0 (w'.heap[gb]? = some (.cells #[.string a0_0, .slice A0_1 l0_1.length c0_1] 24 (0, 0))) ∧ Aside0 (Below w.heap.size w w'))
     case atStart => exact ⟨[], 0, rfl, H', ⟨Nat.le_refl _⟩, ⟨World.ownsMap_made _ _ _ _⟩, ⟨below_size HB.out, blk_lt BK.out⟩, ⟨blk_alloc BK.out _⟩, ⟨below_alloc HB.out _⟩⟩
     case round =>
      clear H' HB BK hcz1 c4b0
      obtain ⟨S, x, rfl, HA, HK2, HM, HMB, BK, HB⟩ := hrel
      cases gk with
      | zero => exact absurd HA.out (by simp [variants_Check.l1])
      | succ k2 =>
       have H := HA.out
       clear HA
       simp only [variants_Check.l1] at H
       by_cases c4 : x < (l0_1.length : Int)
       ·rw [if_pos c4] at H
        have c4b0 : decide (x < (l0_1.length : Int)) = true := decide_eq_true c4
        by_cases c5 : 0 ≤ x
        ·rw [if_pos c5] at H
         obtain ⟨e0, he, H⟩ := Option.bind_eq_some_iff.mp H
         have AE := Aside0.mk he
         clear he
         obtain ⟨ad, Ax, cx, ex, hx0, hl0, hi0⟩ := at_L1 HR0_1.out x c5 c4
         cases ex
         have HRX := Aside0.mk hi0
         have HCX := Aside0.mk hl0
         clear hi0 hl0
         replace hx0 := (HB.out.cell (World.block_lt_of_cell? w _ hx0)).trans hx0
         have hcz0 : wr.cell? ⟨gb, 0, none⟩ = some (.string a0_0) := (blk_cell BK.out 0).trans rfl
         have hcz1 : wr.cell? ⟨gb, 1, none⟩ = some (.slice (some ad) l0_1.length c0_1) := (blk_cell BK.out 1).trans rfl
         by_cases c6 : e0 = 0
         ·subst c6
          rw [if_pos rfl] at H
          have H' := Aside0.mk H
          clear H
          go_wp2_with (first | (go_at_call 17; go_loud (refine (variants_setError.calls sv k2 a0_0 _ _ l0_1 x 0 _ (Laid.below HSV.out HB.out) (Kd.C_below HR0_1.out HB.out) HC0_1.out AE.out).mono ?_; rintro e w8 ⟨rfl, hb⟩; rw [show senW sv 0 = Value.nilIface from rfl]; have n0_ := Aside0.mk (below_step HB.out hb); have n1_ := Aside0.mk (blk_below BK.out hb); have n2_ := Aside0.mk (HM.out.kept (grown_of_below hb none) (by simp)); clear HB BK HM hcz0 hcz1 hx0; have HB := n0_; have BK := n1_; have HM := n2_; clear n0_ n1_ n2_ hb)))
          go_loopg [65] k2 (fun kq v65 w' => ∃ (S2 : List Int) (j : Int), v65 = .int .i64 j ∧ Aside0 (variants_Check.l2 kq S2 x (rd_L1 l0_1 x) j a0_0 l0_1 = some r) ∧ Aside0 (kq ≤ k2) ∧ Aside0 (w'.ownsMap Tryd.prog 21 (plainElem Tryd.prog 3) _ S2.length (seenD S2)) ∧ Aside0 (w'.heap[gb]? = some (.cells #[.string a0_0, .slice (some ad) l0_1.length c0_1] 24 (0, 0))) ∧ Aside0 (Below w.heap.size w w'))
          case atStart => exact ⟨S, 0, rfl, H', ⟨Nat.le_refl _⟩, HM, BK, HB⟩
          case round =>
           clear H' HB BK HM
           obtain ⟨S2, j, rfl, HA, HK3, HM, BK, HB⟩ := hrel
           cases gk with
           | zero => exact absurd HA.out (by simp [variants_Check.l2])
           | succ k3 =>
            have H := HA.out
            clear HA
            simp only [variants_Check.l2] at H
            by_cases c7 : j < ((rd_L1 l0_1 x).length : Int)
            ·rw [if_pos c7] at H
             have c7b0 : decide (j < ((rd_L1 l0_1 x).length : Int)) = true := decide_eq_true c7
             by_cases c8 : 0 ≤ j
             ·rw [if_pos c8] at H
              by_cases c9 : S2.length < 4096 ∧ -2147483648 ≤ rd (rd_L1 l0_1 x) j ∧ rd (rd_L1 l0_1 x) j ≤ 2147483647
              ·rw [if_pos c9] at H
               have hwf := WalkArith.wf_i32 c9.2
               have LS := Aside0.mk c9.1
               clear c9
               obtain ⟨ad2, e2, hx2⟩ := Kd.at_int HRX.out j c8 c7
               cases e2
               replace hx2 := (HB.out.cell (World.block_lt_of_cell? w _ hx2)).trans hx2
               by_cases c10 : rd (rd_L1 l0_1 x) j ∈ S2
               ·rw [if_pos c10] at H
                have A1 := Aside0.mk H
                clear H
                have hD := Aside0.mk (seenD_at _ hwf S2)
                rw [if_pos c10] at hD
                have hsg7 := (Laid.below HSV.out HB.out).at7
                go_wp2_with (first | (at_lookup; go_loud (refine wpList_lookup_own_int _ rfl _ _ 41 rfl 21 3 .i64 law_i32 Tryd.underlying41 Tryd.underlying3 (zero_int _) _ _ _ rfl HM.out _ _ rfl (Go.Maps.keyOf_int_mk Tryd.underlying21 hwf) ?_; intro c hat hwc; obtain rfl : 1 = c := by (have hh := hD.out.symm.trans hat; injection hh with hh; injection hh))) | (go_at_call 16; go_loud (refine (variants_fault.calls sv x 7 r _ (Laid.below HSV.out HB.out) A1.out).mono ?_; rintro e w9 ⟨rfl, hE_, hb⟩; have HE := Aside0.mk hE_; have HB9 := Aside0.mk (below_step HB.out hb); clear hE_ hb)))
                go_ret
                exact ⟨rfl, HE.out, HB9.out⟩
               ·rw [if_neg c10] at H
                have H' := Aside0.mk H
                clear H
                have hD := Aside0.mk (seenD_at _ hwf S2)
                rw [if_neg c10] at hD
                go_wp2_with (first | (at_lookup; go_loud (refine wpList_lookup_own_int _ rfl _ _ 41 rfl 21 3 .i64 law_i32 Tryd.underlying41 Tryd.underlying3 (zero_int _) _ _ _ rfl HM.out _ _ rfl (Go.Maps.keyOf_int_mk Tryd.underlying21 hwf) ?_; intro c hat hwc; obtain rfl : 0 = c := by (have hh := hD.out.symm.trans hat; injection hh with hh; injection hh))) | (at_mapUpdate; go_loud (refine wpList_mapUpdate_own _ rfl _ _ _ 41 rfl 21 3 law_i32 Tryd.underlying41 _ _ _ _ rfl HM.out (by have := LS.out; unfold maxLen; omega) _ _ _ rfl rfl (Go.Maps.keyOf_int_mk Tryd.underlying21 hwf) _ [] (plainElem_int Tryd.underlying3 (WalkArith.wf_i64 (by omega))) ?_; intro w1 hown1 hgrow1)))
                go_roundg k3
                case measure => have := HK3.out; omega
                case rel => exact ⟨rd (rd_L1 l0_1 x) j :: S2, wrap64 (j + 1), (by first | rfl | (simp; done) | (simp [*]; done)), H', ⟨by have := HK3.out; omega⟩, ⟨hown1⟩, ⟨blk_grown BK.out hgrow1 (fun h => absurd (Option.some.inj h) (Nat.ne_of_lt HMB.out.2))⟩, ⟨HB.out.grown hgrow1 (below_size HB.out) (fun k hk => by cases hk; exact HMB.out.1)⟩⟩
              ·rw [if_neg c9] at H
               exact absurd H (by simp)
             ·rw [if_neg c8] at H
              exact absurd H (by simp)
            ·rw [if_neg c7] at H
             have c7b0 : decide (j < ((rd_L1 l0_1 x).length : Int)) = false := decide_eq_false c7
             have H' := Aside0.mk H
             clear H
             go_wp2
             go_roundg k3
             case measure => have := HK2.out; have := HK3.out; omega
             case rel => exact ⟨S2, wrap64 (x + 1), (by first | rfl | (simp; done) | (simp [*]; done)), H', ⟨by have := HK2.out; have := HK3.out; omega⟩, HM, HMB, BK, HB⟩
         ·rw [if_neg c6] at H
          have A1 := Aside0.mk H
          clear H
          obtain ⟨sw, hsw⟩ : ∃ sw, senW sv e0 = .iface 107 sw := ⟨_, senW_pos sv e0 c6⟩
          have hF := fun (W : World) (hW : Laid sv W) => variants_fault.calls sv x e0 r W hW A1.out
          rw [hsw] at hF
          go_wp2_with (first | (go_at_call 17; go_loud (refine (variants_setError.calls sv k2 a0_0 _ _ l0_1 x e0 _ (Laid.below HSV.out HB.out) (Kd.C_below HR0_1.out HB.out) HC0_1.out AE.out).mono ?_; rintro e w8 ⟨rfl, hb⟩; rw [hsw]; have n0_ := Aside0.mk (below_step HB.out hb); clear HB BK HM hcz0 hcz1 hx0; have HB := n0_; clear n0_ hb)) | (go_at_call 16; go_loud (refine (hF _ (Laid.below HSV.out HB.out)).mono ?_; rintro e w9 ⟨rfl, hE_, hb⟩; have HE := Aside0.mk hE_; have HB9 := Aside0.mk (below_step HB.out hb); clear hE_ hb)))
          go_ret
          exact ⟨rfl, HE.out, HB9.out⟩
        ·rw [if_neg c5] at H
         exact absurd H (by simp)
       ·rw [if_neg c4] at H
        have c4b0 : decide (x < (l0_1.length : Int)) = false := decide_eq_false c4
        obtain rfl := Option.some.inj H
        go_wp2
        go_ret
        exact ⟨rfl, trivial, HB.out⟩

/-! ### slices_Equal_rune_rune: function 19 -/
def slices_Equal_rune_rune.l0 : Nat → List Int → List Int → Int → Int → Option (Bool)
 | 0, _, _, _, _ => none
 | k + 1, x0, x1, x12, x13 => if x13 < x12 then (if 0 ≤ x13 then (if x13 < (x0.length : Int) then (if x13 < (x1.length : Int) then (if (rd x0 x13) = (rd x1 x13) then (slices_Equal_rune_rune.l0 k x0 x1 x12 (wrap64 (x13 + 1))) else (some false)) else (none)) else (none)) else (none)) else (some true)
def slices_Equal_rune_rune.f (k : Nat) (l0 : List Int) (l1 : List Int) : Option (Bool) := if (l0.length : Int) = (l1.length : Int) then (slices_Equal_rune_rune.l0 k l0 l1 (l0.length : Int) 0) else (some false)
theorem slices_Equal_rune_rune.mono_l : ∀ k, (∀ y0 y1 y2 y3, LeO (slices_Equal_rune_rune.l0 k y0 y1 y2 y3) (slices_Equal_rune_rune.l0 (k + 1) y0 y1 y2 y3))
 | 0 => fun _ _ _ _ r h => by simp [slices_Equal_rune_rune.l0] at h
 | k + 1 => by
  have ih0 := slices_Equal_rune_rune.mono_l k
  ·intro y0 y1 y2 y3
   unfold slices_Equal_rune_rune.l0
   repeat' first
   | (with_reducible exact ih0 _ _ _ _)
   | (with_reducible exact LeO.refl _)
   | (with_reducible exact LeO.none _)
   | (with_reducible refine LeO.ite ?_ ?_)
   | (with_reducible refine LeO.bind ?_ (fun _ => ?_))
   | exact ih0 _ _ _ _
   | exact LeO.none _
   | refine LeO.ite ?_ ?_
   | refine LeO.bind ?_ (fun _ => ?_)
theorem slices_Equal_rune_rune.mono : ∀ a0 a1 k, LeO (slices_Equal_rune_rune.f k a0 a1) (slices_Equal_rune_rune.f (k + 1) a0 a1) := by
 intro a0 a1 k
 have ih0 := slices_Equal_rune_rune.mono_l k
 unfold slices_Equal_rune_rune.f
 repeat' first
   | (with_reducible exact ih0 _ _ _ _)
   | (with_reducible exact LeO.refl _)
   | (with_reducible exact LeO.none _)
   | (with_reducible refine LeO.ite ?_ ?_)
   | (with_reducible refine LeO.bind ?_ (fun _ => ?_))
   | exact ih0 _ _ _ _
   | exact LeO.none _
   | refine LeO.ite ?_ ?_
   | refine LeO.bind ?_ (fun _ => ?_)
set_option maxHeartbeats 8000000 in
set_option maxRecDepth 100000 in
theorem slices_Equal_rune_rune.calls (k : Nat) (A0 : Option Addr) (c0 : Nat) (l0 : List Int) (A1 : Option Addr) (c1 : Nat) (l1 : List Int) (r : Bool) (w : World) (hr0 : Kd.C (Kd.int .i32) w A0 l0.length l0) (hc0 : l0.length ≤ c0) (hr1 : Kd.C (Kd.int .i32) w A1 l1.length l1) (hc1 : l1.length ≤ c1) (h : slices_Equal_rune_rune.f k l0 l1 = some r) :
  Calls Tryd.prog 19 #[.slice A0 l0.length c0, .slice A1 l1.length c1] w fun e w' => e = .returned (.bool r) ∧ Drawn0 w w' := by
 have HR0 := Aside0.mk hr0
 have HC0 := Aside0.mk hc0
 clear hr0 hc0
 have HR1 := Aside0.mk hr1
 have HC1 := Aside0.mk hc1
 clear hr1 hc1
 have H : (if (l0.length : Int) = (l1.length : Int) then (slices_Equal_rune_rune.l0 k l0 l1 (l0.length : Int) 0) else (some false)) = some r := h
 clear h
 by_cases c3 : (l0.length : Int) = (l1.length : Int)
 ·rw [if_pos c3] at H
  have c3b0 : ((l0.length : Int) == (l1.length : Int)) = true := beq_iff_eq.mpr c3
  have c3b1 : ((l0.length : Int) != (l1.length : Int)) = false := bne_eq_false_iff_eq.mpr c3
  have c3b2 : (l0.length == l1.length) = true := by first | simpa using c3 | (simp at c3 ⊢; omega)
  clear c3
  have H' := Aside0.mk H
  clear H
  go_enter Tryd.func19, Tryd.ntmps19
  go_wp2
  repeat (go_quiet (fail); try go_wp2)
  go_loopg [13] k (fun kq v13 w' => ∃ (x13_1 : Int), v13 = .int .i64 x13_1 ∧ Aside0 (slices_Equal_rune_rune.l0 kq l0 l1 (l0.length : Int) x13_1 = some r) ∧ Aside0 (kq ≤ k) ∧ Drawn0 w w')
  case atStart => exact ⟨(0), (by first | rfl | (simp; done) | (simp [*]; done)), H', ⟨Nat.le_refl _⟩, by repeat (first | exact Drawn0.refl _ | apply Drawn0.step)⟩
  case round =>
   clear H'
   try clear c1
   try clear p2
   try clear c3
   try clear c3b0
   try clear c3b1
   try clear c3b2
   obtain ⟨x13_1, rfl, HA, HK1, ⟨m1, rfl⟩⟩ := hrel
   cases gk with
   | zero => exact absurd HA.out (by simp [slices_Equal_rune_rune.l0])
   | succ k1 =>
    have H := HA.out
    clear HA
    simp only [slices_Equal_rune_rune.l0] at H
    by_cases c4 : x13_1 < (l0.length : Int)
    ·rw [if_pos c4] at H
     have c4b0 : decide (x13_1 < (l0.length : Int)) = true := decide_eq_true c4
     clear c4
     by_cases c5 : 0 ≤ x13_1
     ·rw [if_pos c5] at H
      have c5b0 : decide (0 ≤ x13_1) = true := decide_eq_true c5
      clear c5
      by_cases c6 : x13_1 < (l0.length : Int)
      ·rw [if_pos c6] at H
       have c6b0 : decide (x13_1 < (l0.length : Int)) = true := decide_eq_true c6
       clear c6
       by_cases c7 : x13_1 < (l1.length : Int)
       ·rw [if_pos c7] at H
        have c7b0 : decide (x13_1 < (l1.length : Int)) = true := decide_eq_true c7
        clear c7
        by_cases c8 : (rd l0 x13_1) = (rd l1 x13_1)
        ·rw [if_pos c8] at H
         have c8b0 : ((rd l0 x13_1) == (rd l1 x13_1)) = true := beq_iff_eq.mpr c8
         have c8b1 : ((rd l0 x13_1) != (rd l1 x13_1)) = false := bne_eq_false_iff_eq.mpr c8
         clear c8
         have H' := Aside0.mk H
         clear H
         have p173 : 0 ≤ (x13_1 : Int) := of_decide_eq_true (by first | (with_reducible assumption) | assumption)
         have q173 : x13_1 < (l0.length : Int) := of_decide_eq_true (by first | (with_reducible assumption) | assumption)
         obtain ⟨ad173, e173, hx173_0⟩ := Kd.at_int HR0.out x13_1 p173 q173
         cases e173
         replace p173 := eq_true p173
         replace q173 := eq_true q173
         have p174 : 0 ≤ (x13_1 : Int) := of_decide_eq_true (by first | (with_reducible assumption) | assumption)
         have q174 : x13_1 < (l1.length : Int) := of_decide_eq_true (by first | (with_reducible assumption) | assumption)
         obtain ⟨ad174, e174, hx174_0⟩ := Kd.at_int HR1.out x13_1 p174 q174
         cases e174
         replace p174 := eq_true p174
         replace q174 := eq_true q174
         go_wp2
         repeat (go_quiet (fail); try go_wp2)
         go_roundg k1
         case measure => have := HK1.out; omega
         case rel => exact ⟨(wrap64 (x13_1 + 1)), (by first | rfl | (simp; done) | (simp [*]; done)), H', ⟨by have := HK1.out; omega⟩, by repeat (first | exact Drawn0.refl _ | apply Drawn0.step)⟩
        ·rw [if_neg c8] at H
         have c8b0 : ((rd l0 x13_1) == (rd l1 x13_1)) = false := beq_eq_false_iff_ne.mpr c8
         have c8b1 : ((rd l0 x13_1) != (rd l1 x13_1)) = true := bne_iff_ne.mpr c8
         obtain rfl := Option.some.inj H
         have p173 : 0 ≤ (x13_1 : Int) := of_decide_eq_true (by first | (with_reducible assumption) | assumption)
         have q173 : x13_1 < (l0.length : Int) := of_decide_eq_true (by first | (with_reducible assumption) | assumption)
         obtain ⟨ad173, e173, hx173_0⟩ := Kd.at_int HR0.out x13_1 p173 q173
         cases e173
         replace p173 := eq_true p173
         replace q173 := eq_true q173
         have p174 : 0 ≤ (x13_1 : Int) := of_decide_eq_true (by first | (with_reducible assumption) | assumption)
         have q174 : x13_1 < (l1.length : Int) := of_decide_eq_true (by first | (with_reducible assumption) | assumption)
         obtain ⟨ad174, e174, hx174_0⟩ := Kd.at_int HR1.out x13_1 p174 q174
         cases e174
         replace p174 := eq_true p174
         replace q174 := eq_true q174
         go_wp2
         repeat (go_quiet (fail); try go_wp2)
         go_ret
         exact ⟨by first | rfl | (simp; done) | (simp [*]; done), by repeat (first | exact Drawn0.refl _ | apply Drawn0.step)⟩
       ·rw [if_neg c7] at H
        exact absurd H (by simp)
      ·rw [if_neg c6] at H
       exact absurd H (by simp)
     ·rw [if_neg c5] at H
      exact absurd H (by simp)
    ·rw [if_neg c4] at H
     have c4b0 : decide (x13_1 < (l0.length : Int)) = false := decide_eq_false c4
     clear c4
     obtain rfl := Option.some.inj H
     go_wp2
     repeat (go_quiet (fail); try go_wp2)
     go_ret
     exact ⟨by first | rfl | (simp; done) | (simp [*]; done), by repeat (first | exact Drawn0.refl _ | apply Drawn0.step)⟩
 ·rw [if_neg c3] at H
  have c3b0 : ((l0.length : Int) == (l1.length : Int)) = false := beq_eq_false_iff_ne.mpr c3
  have c3b1 : ((l0.length : Int) != (l1.length : Int)) = true := bne_iff_ne.mpr c3
  have c3b2 : (l0.length == l1.length) = false := by first | simpa using c3 | (simp at c3 ⊢; omega)
  obtain rfl := Option.some.inj H
  go_enter Tryd.func19, Tryd.ntmps19
  go_wp2
  repeat (go_quiet (fail); try go_wp2)
  go_ret
  exact ⟨by first | rfl | (simp; done) | (simp [*]; done), by repeat (first | exact Drawn0.refl _ | apply Drawn0.step)⟩

/-! ### variants_Same: function 9 -/
def variants_Same.f (k : Nat) (a0_0 : ByteArray) (l0_1 : List (List Int)) (l1 : List Int) (l2 : List Int) : Option (Bool) := (variants_Key.f k a0_0 l0_1 l1).bind fun t176 => ((variants_Key.f k a0_0 l0_1 l2).bind fun t179 => ((slices_Equal_rune_rune.f k t176 t179).bind fun t182 => (some t182)))
theorem variants_Same.mono : ∀ a0 a1 a2 a3 k, LeO (variants_Same.f k a0 a1 a2 a3) (variants_Same.f (k + 1) a0 a1 a2 a3) := by
 intro a0 a1 a2 a3 k
 unfold variants_Same.f
 repeat' first
   | (with_reducible exact slices_Equal_rune_rune.mono _ _ _)
   | (with_reducible exact variants_Key.mono _ _ _ _)
   | (with_reducible exact LeO.refl _)
   | (with_reducible exact LeO.none _)
   | (with_reducible refine LeO.ite ?_ ?_)
   | (with_reducible refine LeO.bind ?_ (fun _ => ?_))
   | exact slices_Equal_rune_rune.mono _ _ _
   | exact variants_Key.mono _ _ _ _
   | exact LeO.none _
   | refine LeO.ite ?_ ?_
   | refine LeO.bind ?_ (fun _ => ?_)
def variants_Same.T1 : Bool × List (List Nat × List Nat) := (true, [([], []), ([], []), ([0, 1], [0, 1]), ([], []), ([], []), ([3, 4, 2], [3, 4]), ([2, 5, 5], [2, 5]), ([6, 6, 0, 1, 2, 3, 4, 5, 6], [6])])
def variants_Same.B1 : List Nat := [0, 0, 3, 0, 0, 31, 63, 127]
theorem variants_Same.tab1 : rtab .any (opsOf Tryd.f9 1) = variants_Same.T1 := by kernel_rfl
theorem variants_Same.bits1 : waitsOk variants_Same.T1.2 variants_Same.B1 = true := by kernel_rfl
set_option maxHeartbeats 8000000 in
set_option maxRecDepth 100000 in
theorem variants_Same.calls (k : Nat) (a0_0 : ByteArray) (A0_1 : Option Addr) (c0_1 : Nat) (l0_1 : List (List Int)) (A1 : Option Addr) (c1 : Nat) (l1 : List Int) (A2 : Option Addr) (c2 : Nat) (l2 : List Int) (r : Bool) (w : World) (hr0_1 : Kd.C (Kd.slice 21 (Kd.int .i32)) w A0_1 l0_1.length l0_1) (hc0_1 : l0_1.length ≤ c0_1) (hr1 : Kd.C (Kd.int .i32) w A1 l1.length l1) (hc1 : l1.length ≤ c1) (hr2 : Kd.C (Kd.int .i32) w A2 l2.length l2) (hc2 : l2.length ≤ c2) (h : variants_Same.f k a0_0 l0_1 l1 l2 = some r) :
  Calls Tryd.prog 9 #[.agg #[.string a0_0, .slice A0_1 l0_1.length c0_1], .slice A1 l1.length c1, .slice A2 l2.length c2] w fun e w' => e = .returned (.bool r) ∧ Below w.heap.size w w' := by
 have hu24 := Tryd.underlying24
 have HR0_1 := Aside0.mk hr0_1
 have HC0_1 := Aside0.mk hc0_1
 clear hr0_1 hc0_1
 have HR1 := Aside0.mk hr1
 have HC1 := Aside0.mk hc1
 clear hr1 hc1
 have HR2 := Aside0.mk hr2
 have HC2 := Aside0.mk hc2
 clear hr2 hc2
 have HB := Aside0.mk (Below.refl w.heap.size w)
 have H : ((variants_Key.f k a0_0 l0_1 l1).bind fun t176 => ((variants_Key.f k a0_0 l0_1 l2).bind fun t179 => ((slices_Equal_rune_rune.f k t176 t179).bind fun t182 => (some t182)))) = some r := h
 clear h
 replace H := Option.bind_eq_some_iff.mp H
 obtain ⟨t176, A40, H⟩ := H
 replace H : ((variants_Key.f k a0_0 l0_1 l2).bind fun t179 => ((slices_Equal_rune_rune.f k t176 t179).bind fun t182 => (some t182))) = some r := H
 have A4 := Aside0.mk A40
 clear A40
 replace H := Option.bind_eq_some_iff.mp H
 obtain ⟨t179, A50, H⟩ := H
 replace H : ((slices_Equal_rune_rune.f k t176 t179).bind fun t182 => (some t182)) = some r := H
 have A5 := Aside0.mk A50
 clear A50
 replace H := Option.bind_eq_some_iff.mp H
 obtain ⟨t182, A60, H⟩ := H
 replace H : (some t182) = some r := H
 have A6 := Aside0.mk A60
 clear A60
 obtain rfl := Option.some.inj H
 go_enter Tryd.func9, Tryd.ntmps9
 try go_wp2_with (first | ((with_reducible refine gate_dst (N := 3) rfl ?_); refine box_event ?hg (N := 3) ?hd (cs := #[.string a0_0, .slice A0_1 l0_1.length c0_1]) (t := 24) ?hr ?_; (case hd => rfl); (case hg => rfl); (case hr => first | (go_simp; done) | (go_simp; rfl)); intro gb175 hg w7 hbox hb; have n0_ := Aside0.mk (below_step (by repeat (first | (with_reducible first | exact HB.out | apply below_alloc | apply pw_below_drewN | apply below_drew1) | exact HB.out)) hb); have n1_ := Aside0.mk (hbox); have n2_ := Aside0.mk ((by rw [hg]; exact (below_size (by repeat (first | (with_reducible first | exact HB.out | apply below_alloc | apply pw_below_drewN | apply below_drew1) | exact HB.out))) : w.heap.size ≤ gb175)); have n3_ := Aside0.mk ((by rw [hg]; exact (below_size (by repeat (first | (with_reducible first | exact HB.out | apply below_alloc | apply pw_below_drewN | apply below_drew1) | exact HB.out))) : w.heap.size ≤ gb175)); clear HB; have HB := n0_; have BK175 := n1_; have GW175 := n2_; have GE175 := n3_; clear n0_ n1_ n2_ n3_; clear hb hbox hg))
 have n0_ := Aside0.mk (blk_drew BK175.out)
 have n1_ := Aside0.mk (below_drew1 HB.out)
 clear BK175
 clear HB
 have BK175 := n0_
 have HB := n1_
 clear n0_ n1_
 refine start_ (n := 8) (S := fun w' => w'.cell? ⟨gb175, 0, none⟩ = some (.string a0_0) ∧ w'.cell? ⟨gb175, 1, none⟩ = some (.slice A0_1 l0_1.length c0_1)) (ds := []) #[false, false, false, false, false, false, false, false] (by kernel_rfl) rfl rfl ⟨(blk_cell BK175.out 0).trans rfl, (blk_cell BK175.out 1).trans rfl⟩ (fun hHeld => ?_); refine with_tabW variants_Same.tab1 variants_Same.bits1 (fun HT_ HW_ => ?_)
 generalize w7.drew = w8 at BK175 HB hHeld ⊢
 refine pure_ (i := 1) (N := some 8) (v := ?_) (a' := ?_) #[false, true, false, false, false, false, false, false] rfl rfl (any_of HT_.out (by kernel_rfl)) (fun _ _ _ h => h) (Or.inl ⟨by rfl, ?_⟩) ?_ ?_
 rotate_left
 ·intro w'
  go_simp
  with_reducible rfl
 rotate_left
 ·simp only [Act.put, List.setIfInBounds_toArray, List.set_cons_zero, List.set_cons_succ, i64_w, i32_w]
  rfl
 refine pure_ (i := 4) (N := some 11) (v := ?_) (a' := ?_) #[false, true, false, false, true, false, false, false] rfl rfl (any_of HT_.out (by kernel_rfl)) (fun _ _ _ h => h) (Or.inl ⟨by rfl, ?_⟩) ?_ ?_
 rotate_left
 ·intro w'
  go_simp
  with_reducible rfl
 rotate_left
 ·simp only [Act.put, List.setIfInBounds_toArray, List.set_cons_zero, List.set_cons_succ, i64_w, i32_w]
  rfl
 refine take_ (i := 0) (N := some 7) (v := ?_) (a' := ?_) #[true, true, false, false, true, false, false, false] rfl rfl (take_ofW HT_.out HW_.out (by kernel_rfl)) (fun _ _ _ h => h) (Or.inl ⟨by rfl, ?_⟩) hHeld ?_ ?_
 rotate_left
 ·rintro w' ⟨s0, s1⟩
  go_simp
  with_reducible rfl
 rotate_left
 ·simp only [Act.put, List.setIfInBounds_toArray, List.set_cons_zero, List.set_cons_succ, i64_w, i32_w]
  rfl
 refine take_ (i := 3) (N := some 10) (v := ?_) (a' := ?_) #[true, true, false, true, true, false, false, false] rfl rfl (take_ofW HT_.out HW_.out (by kernel_rfl)) (fun _ _ _ h => h) (Or.inl ⟨by rfl, ?_⟩) hHeld ?_ ?_
 rotate_left
 ·rintro w' ⟨s0, s1⟩
  go_simp
  with_reducible rfl
 rotate_left
 ·simp only [Act.put, List.setIfInBounds_toArray, List.set_cons_zero, List.set_cons_succ, i64_w, i32_w]
  rfl
 refine one_ (i := 2) (N := some 9) #[true, true, true, true, true, false, false, false] rfl rfl (one_of HT_.out (by kernel_rfl)) (by decide) (fun K hK => ?_)
 refine goes_ Tryd.func12 (by kernel_rfl) rfl #[.agg #[.string a0_0, .slice A0_1 l0_1.length c0_1], .slice A1 l1.length c1] (by rfl) rfl rfl (by (try simp only [List.map_toArray, List.map_cons, List.map_nil]); first | done | rfl | (simp only [List.length_drop, List.length_take]; rfl)) ?_
 with_reducible refine (variants_Key.calls k a0_0 _ _ l0_1 _ _ l1 t176 _ ?side1 ?side2 ?side3 ?side4 A4.out).mono ?_
 (case side1 => repeat (first | exact (Kd.C_below HR0_1.out HB.out) | (with_reducible refine Kd.C_alloc ?_ _) | (with_reducible refine Kd.C_drewN ?_ _) | (with_reducible refine Kd.C_drew ?_)))
 (case side2 => exact HC0_1.out)
 (case side3 => repeat (first | exact (Kd.C_below HR1.out HB.out) | (with_reducible refine Kd.C_alloc ?_ _) | (with_reducible refine Kd.C_drewN ?_ _) | (with_reducible refine Kd.C_drew ?_)))
 (case side4 => exact HC1.out)
 rintro e w9 ⟨v177, rfl, ho0, hb⟩
 refine ⟨_, rfl, ?_⟩
 have n0_ := Aside0.mk (Kd.R_lower ho0 (below_size (by repeat (first | (with_reducible first | exact HB.out | apply below_alloc | apply pw_below_drewN | apply below_drew1 | refine below_set ?_ GE175.out) | exact HB.out))))
 have n1_ := Aside0.mk (blk_below (g := gb175) (o := .cells #[.string a0_0, .slice A0_1 l0_1.length c0_1] 24 (0, 0)) (by (with_reducible repeat (first | refine blk_drewN ?_ _ | refine blk_drew ?_ | refine blk_alloc ?_ _)); exact BK175.out) hb)
 have n2_ := Aside0.mk (below_step (by repeat (first | (with_reducible first | exact HB.out | apply below_alloc | apply pw_below_drewN | apply below_drew1 | refine below_set ?_ GE175.out) | exact HB.out)) hb)
 clear BK175
 clear HB
 have HO178 := n0_
 have BK175 := n1_
 have HB := n2_
 clear n0_ n1_ n2_
 (try clear hb)
 (try clear hb2)
 (try clear hk)
 (try clear hi)
 (try clear ho0)
 refine hK.out _ _ ⟨(blk_cell BK175.out 0).trans rfl, (blk_cell BK175.out 1).trans rfl⟩ (fun hHeld => ?_)
 clear hK K
 refine norm_ (a' := ?_) ?_ ?_
 rotate_left
 ·show Act.put _ (some 9) _ = _
  simp only [Act.put, List.setIfInBounds_toArray, List.set_cons_zero, List.set_cons_succ, i64_w, i32_w]
  rfl
 refine one_ (i := 5) (N := some 12) #[true, true, true, true, true, true, false, false] rfl rfl (one_of HT_.out (by kernel_rfl)) (by decide) (fun K hK => ?_)
 refine goes_ Tryd.func12 (by kernel_rfl) rfl #[.agg #[.string a0_0, .slice A0_1 l0_1.length c0_1], .slice A2 l2.length c2] (by rfl) rfl rfl (by (try simp only [List.map_toArray, List.map_cons, List.map_nil]); first | done | rfl | (simp only [List.length_drop, List.length_take]; rfl)) ?_
 with_reducible refine (variants_Key.calls k a0_0 _ _ l0_1 _ _ l2 t179 _ ?side1 ?side2 ?side3 ?side4 A5.out).mono ?_
 (case side1 => repeat (first | exact (Kd.C_below HR0_1.out HB.out) | (with_reducible refine Kd.C_alloc ?_ _) | (with_reducible refine Kd.C_drewN ?_ _) | (with_reducible refine Kd.C_drew ?_)))
 (case side2 => exact HC0_1.out)
 (case side3 => repeat (first | exact (Kd.C_below HR2.out HB.out) | (with_reducible refine Kd.C_alloc ?_ _) | (with_reducible refine Kd.C_drewN ?_ _) | (with_reducible refine Kd.C_drew ?_)))
 (case side4 => exact HC2.out)
 rintro e w10 ⟨v180, rfl, ho0, hb⟩
 refine ⟨_, rfl, ?_⟩
 have n0_ := Aside0.mk (Kd.R_elder' (by (with_reducible repeat (first | apply Kd.R_alloc | apply Kd.R_drewN | apply Kd.R_drew)); exact HO178.out) (Kd.R_base ho0) hb)
 have n1_ := Aside0.mk (Kd.R_lower (Kd.R_new' ho0 (Kd.R_lt (by (with_reducible repeat (first | apply Kd.R_alloc | apply Kd.R_drewN | apply Kd.R_drew)); exact HO178.out))) (below_size (by repeat (first | (with_reducible first | exact HB.out | apply below_alloc | apply pw_below_drewN | apply below_drew1 | refine below_set ?_ GE175.out) | exact HB.out))))
 have n2_ := Aside0.mk (blk_below (g := gb175) (o := .cells #[.string a0_0, .slice A0_1 l0_1.length c0_1] 24 (0, 0)) (by (with_reducible repeat (first | refine blk_drewN ?_ _ | refine blk_drew ?_ | refine blk_alloc ?_ _)); exact BK175.out) hb)
 have n3_ := Aside0.mk (below_step (by repeat (first | (with_reducible first | exact HB.out | apply below_alloc | apply pw_below_drewN | apply below_drew1 | refine below_set ?_ GE175.out) | exact HB.out)) hb)
 clear HO178
 clear BK175
 clear HB
 have HO178 := n0_
 have HO181 := n1_
 have BK175 := n2_
 have HB := n3_
 clear n0_ n1_ n2_ n3_
 (try clear hb)
 (try clear hb2)
 (try clear hk)
 (try clear hi)
 (try clear ho0)
 obtain ⟨Ao11, co11, eo11⟩ := Kd.R_slice HO178.out
 (first | subst eo11 | (injection eo11 with f1_ f2_ f3_; have f4_ := f1_.symm; have f5_ := f3_.symm; clear f1_ f2_ f3_; subst f4_; subst f5_))
 obtain ⟨Ao12, co12, eo12⟩ := Kd.R_slice HO181.out
 (first | subst eo12 | (injection eo12 with f1_ f2_ f3_; have f4_ := f1_.symm; have f5_ := f3_.symm; clear f1_ f2_ f3_; subst f4_; subst f5_))
 refine hK.out _ _ ⟨(blk_cell BK175.out 0).trans rfl, (blk_cell BK175.out 1).trans rfl⟩ (fun hHeld => ?_)
 clear hK K
 refine norm_ (a' := ?_) ?_ ?_
 rotate_left
 ·show Act.put _ (some 12) _ = _
  simp only [Act.put, List.setIfInBounds_toArray, List.set_cons_zero, List.set_cons_succ, i64_w, i32_w]
  rfl
 refine one_ (i := 6) (N := some 13) #[true, true, true, true, true, true, true, false] rfl rfl (one_of HT_.out (by kernel_rfl)) (by decide) (fun K hK => ?_)
 refine goes_ Tryd.func19 (by kernel_rfl) rfl #[.slice Ao11 t176.length co11, .slice Ao12 t179.length co12] (by rfl) rfl rfl (by (try simp only [List.map_toArray, List.map_cons, List.map_nil]); first | done | rfl | (simp only [List.length_drop, List.length_take]; rfl)) ?_
 with_reducible refine (slices_Equal_rune_rune.calls k _ _ t176 _ _ t179 t182 _ ?side1 ?side2 ?side3 ?side4 A6.out).mono ?_
 (case side1 => repeat (first | exact (Kd.R_reads' HO178.out).2.2 | (with_reducible refine Kd.C_alloc ?_ _) | (with_reducible refine Kd.C_drewN ?_ _) | (with_reducible refine Kd.C_drew ?_)))
 (case side2 => exact (Kd.R_reads' HO178.out).2.1)
 (case side3 => repeat (first | exact (Kd.R_reads' HO181.out).2.2 | (with_reducible refine Kd.C_alloc ?_ _) | (with_reducible refine Kd.C_drewN ?_ _) | (with_reducible refine Kd.C_drew ?_)))
 (case side4 => exact (Kd.R_reads' HO181.out).2.1)
 rintro e w' ⟨rfl, ⟨nd, rfl⟩⟩
 refine ⟨_, rfl, ?_⟩
 refine hK.out _ _ ⟨(blk_cell BK175.out 0).trans rfl, (blk_cell BK175.out 1).trans rfl⟩ (fun hHeld => ?_)
 clear hK K
 refine norm_ (a' := ?_) ?_ ?_
 rotate_left
 ·show Act.put _ (some 13) _ = _
  simp only [Act.put, List.setIfInBounds_toArray, List.set_cons_zero, List.set_cons_succ, i64_w, i32_w]
  rfl
 refine pure_ (i := 7) (N := some 6) (v := ?_) (a' := ?_) #[true, true, true, true, true, true, true, true] rfl rfl (any_of HT_.out (by kernel_rfl)) (fun _ _ _ h => h) (Or.inl ⟨by rfl, ?_⟩) ?_ ?_
 rotate_left
 ·intro w'
  go_simp
  with_reducible rfl
 rotate_left
 ·simp only [Act.put, List.setIfInBounds_toArray, List.set_cons_zero, List.set_cons_succ, i64_w, i32_w]
  rfl
 refine done_ (done_of HT_.out (by kernel_rfl)) ?_
 try go_wp2
 go_ret
 exact ⟨by first | rfl | (simp [errW_none, errW_some] <;> rfl) | (simp [*, errW_none, errW_some] <;> rfl), by repeat (first | (with_reducible first | exact HB.out | apply below_alloc | apply pw_below_drewN | apply below_drew1 | refine below_set ?_ GE175.out) | exact HB.out)⟩

/-! ### variants_Count: function 10 -/
def variants_Count.l0 : Nat → Int → List Int → Int → Int → ByteArray → List (List Int) → Option (Int)
 | 0, _, _, _, _, _, _ => none
 | k + 1, x5, x8, x9, x10, x184000, x184001 => if x10 < x9 then (if 0 ≤ x10 then (if x10 < (x8.length : Int) then ((variants_find.f k x184000 x184001 (rd x8 x10)).bind fun t185 => (variants_Count.l0 k (mn (wrap64 (x5 * (mx (t185.length : Int) 1))) 1073741824) x8 x9 (wrap64 (x10 + 1)) x184000 x184001)) else (none)) else (none)) else (some x5)
def variants_Count.f (k : Nat) (a0_0 : ByteArray) (l0_1 : List (List Int)) (l1 : List Int) : Option (Int) := variants_Count.l0 k 1 l1 (l1.length : Int) 0 a0_0 l0_1
theorem variants_Count.mono_l : ∀ k, (∀ y0 y1 y2 y3 y4 y5, LeO (variants_Count.l0 k y0 y1 y2 y3 y4 y5) (variants_Count.l0 (k + 1) y0 y1 y2 y3 y4 y5))
 | 0 => fun _ _ _ _ _ _ r h => by simp [variants_Count.l0] at h
 | k + 1 => by
  have ih0 := variants_Count.mono_l k
  ·intro y0 y1 y2 y3 y4 y5
   unfold variants_Count.l0
   repeat' first
   | (with_reducible exact ih0 _ _ _ _ _ _)
   | (with_reducible exact variants_find.mono _ _ _ _)
   | (with_reducible exact LeO.refl _)
   | (with_reducible exact LeO.none _)
   | (with_reducible refine LeO.ite ?_ ?_)
   | (with_reducible refine LeO.bind ?_ (fun _ => ?_))
   | exact ih0 _ _ _ _ _ _
   | exact variants_find.mono _ _ _ _
   | exact LeO.none _
   | refine LeO.ite ?_ ?_
   | refine LeO.bind ?_ (fun _ => ?_)
theorem variants_Count.mono : ∀ a0 a1 a2 k, LeO (variants_Count.f k a0 a1 a2) (variants_Count.f (k + 1) a0 a1 a2) := by
 intro a0 a1 a2 k
 have ih0 := variants_Count.mono_l k
 unfold variants_Count.f
 repeat' first
   | (with_reducible exact ih0 _ _ _ _ _ _)
   | (with_reducible exact variants_find.mono _ _ _ _)
   | (with_reducible exact LeO.refl _)
   | (with_reducible exact LeO.none _)
   | (with_reducible refine LeO.ite ?_ ?_)
   | (with_reducible refine LeO.bind ?_ (fun _ => ?_))
   | exact ih0 _ _ _ _ _ _
   | exact variants_find.mono _ _ _ _
   | exact LeO.none _
   | refine LeO.ite ?_ ?_
   | refine LeO.bind ?_ (fun _ => ?_)
set_option maxHeartbeats 8000000 in
set_option maxRecDepth 100000 in
theorem variants_Count.calls (k : Nat) (a0_0 : ByteArray) (A0_1 : Option Addr) (c0_1 : Nat) (l0_1 : List (List Int)) (A1 : Option Addr) (c1 : Nat) (l1 : List Int) (r : Int) (w : World) (hr0_1 : Kd.C (Kd.slice 21 (Kd.int .i32)) w A0_1 l0_1.length l0_1) (hc0_1 : l0_1.length ≤ c0_1) (hr1 : Kd.C (Kd.int .i32) w A1 l1.length l1) (hc1 : l1.length ≤ c1) (h : variants_Count.f k a0_0 l0_1 l1 = some r) :
  Calls Tryd.prog 10 #[.agg #[.string a0_0, .slice A0_1 l0_1.length c0_1], .slice A1 l1.length c1] w fun e w' => e = .returned (.int .i64 r) ∧ Below w.heap.size w w' := by
 have hu24 := Tryd.underlying24
 have HR0_1 := Aside0.mk hr0_1
 have HC0_1 := Aside0.mk hc0_1
 clear hr0_1 hc0_1
 have HR1 := Aside0.mk hr1
 have HC1 := Aside0.mk hc1
 clear hr1 hc1
 have HB := Aside0.mk (Below.refl w.heap.size w)
 have H : (variants_Count.l0 k 1 l1 (l1.length : Int) 0 a0_0 l0_1) = some r := h
 clear h
 have H' := Aside0.mk H
 clear H
 go_enter Tryd.func10, Tryd.ntmps10
 go_wp2_with (first | ((with_reducible refine gate_dst (N := 2) rfl ?_); refine box_event ?hg (N := 2) ?hd (cs := #[.string a0_0, .slice A0_1 l0_1.length c0_1]) (t := 24) ?hr ?_; (case hd => rfl); (case hg => rfl); (case hr => first | (go_simp; done) | (go_simp; rfl)); intro gb183 hg w3 hbox hb; have n0_ := Aside0.mk (below_step (by repeat (first | (with_reducible first | exact HB.out | apply below_alloc | apply pw_below_drewN | apply below_drew1) | exact HB.out)) hb); have n1_ := Aside0.mk (hbox); have n2_ := Aside0.mk ((by rw [hg]; exact (below_size (by repeat (first | (with_reducible first | exact HB.out | apply below_alloc | apply pw_below_drewN | apply below_drew1) | exact HB.out))) : w.heap.size ≤ gb183)); have n3_ := Aside0.mk ((by rw [hg]; exact (below_size (by repeat (first | (with_reducible first | exact HB.out | apply below_alloc | apply pw_below_drewN | apply below_drew1) | exact HB.out))) : w.heap.size ≤ gb183)); clear HB; have HB := n0_; have BK183 := n1_; have GW183 := n2_; have GE183 := n3_; clear n0_ n1_ n2_ n3_; clear hb hbox hg))
 go_loopg [5, 10] k (fun kq v5 v10 w' => ∃ (x5_1 : Int) (x10_1 : Int), v5 = .int .i64 x5_1 ∧ v10 = .int .i64 x10_1 ∧ Aside0 (variants_Count.l0 kq x5_1 l1 (l1.length : Int) x10_1 a0_0 l0_1 = some r) ∧ Aside0 (kq ≤ k) ∧ Aside0 (w'.heap[gb183]? = some (.cells #[.string a0_0, (.slice A0_1 l0_1.length c0_1)] 24 (0, 0))) ∧ Aside0 (Below w.heap.size w w'))
 case atStart => exact ⟨(1), (0), (by first | rfl | (simp; done) | (simp [*]; done)), (by first | rfl | (simp; done) | (simp [*]; done)), H', ⟨Nat.le_refl _⟩, ⟨by (with_reducible repeat (first | refine blk_drewN ?_ _ | refine blk_drew ?_ | refine blk_alloc ?_ _)); exact BK183.out⟩, ⟨by repeat (first | (with_reducible first | exact HB.out | apply below_alloc | apply pw_below_drewN | apply below_drew1 | refine below_set ?_ GE183.out) | exact HB.out)⟩⟩
 case round =>
  clear H'
  try clear c1
  try clear p2
  obtain ⟨x5_1, x10_1, rfl, rfl, HA, HK1, BK183, HB⟩ := hrel
  cases gk with
  | zero => exact absurd HA.out (by simp [variants_Count.l0])
  | succ k1 =>
   have H := HA.out
   clear HA
   simp only [variants_Count.l0] at H
   by_cases c4 : x10_1 < (l1.length : Int)
   ·rw [if_pos c4] at H
    have c4b0 : decide (x10_1 < (l1.length : Int)) = true := decide_eq_true c4
    clear c4
    by_cases c5 : 0 ≤ x10_1
    ·rw [if_pos c5] at H
     have c5b0 : decide (0 ≤ x10_1) = true := decide_eq_true c5
     clear c5
     by_cases c6 : x10_1 < (l1.length : Int)
     ·rw [if_pos c6] at H
      have c6b0 : decide (x10_1 < (l1.length : Int)) = true := decide_eq_true c6
      clear c6
      replace H := Option.bind_eq_some_iff.mp H
      obtain ⟨t185, A70, H⟩ := H
      replace H : (variants_Count.l0 k1 (mn (wrap64 (x5_1 * (mx (t185.length : Int) 1))) 1073741824) l1 (l1.length : Int) (wrap64 (x10_1 + 1)) a0_0 l0_1) = some r := H
      have A7 := Aside0.mk A70
      clear A70
      obtain ⟨ji8, hji8⟩ : ∃ j_ : Int, (mx (t185.length : Int) 1) = j_ := ⟨_, rfl⟩
      replace H : (variants_Count.l0 k1 (mn (wrap64 (x5_1 * (ji8))) 1073741824) l1 (l1.length : Int) (wrap64 (x10_1 + 1)) a0_0 l0_1) = some r := by first | (rw [hji8] at H; exact H) | (simp only [hji8] at H ⊢; exact H)
      (try rw [hji8] at A7)
      (try (have hji8l : 1 ≤ ji8 := by (rw [← hji8]; unfold mx; (repeat' split) <;> omega)))
      (try (have hji8m : 0 ≤ ji8 := by omega))
      have hji8_ : (if (t185.length : Int) < 1 then 1 else (t185.length : Int)) = ji8 := hji8
      obtain ⟨ji9, hji9⟩ : ∃ j_ : Int, (mn (wrap64 (x5_1 * (ji8))) 1073741824) = j_ := ⟨_, rfl⟩
      replace H : (variants_Count.l0 k1 ji9 l1 (l1.length : Int) (wrap64 (x10_1 + 1)) a0_0 l0_1) = some r := by first | (rw [hji9] at H; exact H) | (simp only [hji9] at H ⊢; exact H)
      (try rw [hji9] at A7)
      have hji9_ : (if 1073741824 < (wrap64 (x5_1 * (ji8))) then 1073741824 else (wrap64 (x5_1 * (ji8)))) = ji9 := hji9
      have H' := Aside0.mk H
      clear H
      have p184 : 0 ≤ (x10_1 : Int) := of_decide_eq_true (by first | (with_reducible assumption) | assumption)
      have q184 : x10_1 < (l1.length : Int) := of_decide_eq_true (by first | (with_reducible assumption) | assumption)
      obtain ⟨ad184, e184, hx184_0⟩ := Kd.at_int HR1.out x10_1 p184 q184
      cases e184
      replace hx184_0 := (HB.out.cell (World.block_lt_of_cell? w _ hx184_0)).trans hx184_0
      replace p184 := eq_true p184
      replace q184 := eq_true q184
      have hcz10_0 : wr.cell? ⟨gb183, 0, none⟩ = some (.string a0_0) := (blk_cell BK183.out 0).trans rfl
      have hcz10_1 : wr.cell? ⟨gb183, 1, none⟩ = some (.slice A0_1 l0_1.length c0_1) := (blk_cell BK183.out 1).trans rfl
      have hfz10_0 := blk_frozen BK183.out 0
      have hfz10_1 := blk_frozen BK183.out 1
      go_wp2_with (first | ((with_reducible refine gate_callee (f := 20) rfl ?_); refine goesL_ (some 17) rfl rfl Tryd.func20 (by kernel_rfl) rfl #[.agg #[.string a0_0, .slice A0_1 l0_1.length c0_1], .int .i32 (rd l1 x10_1)] rfl (by (try simp only [List.map_toArray, List.map_cons, List.map_nil]); first | done | rfl | (simp only [List.length_drop, List.length_take]; rfl)) ?_; (with_reducible refine (variants_find.calls k1 a0_0 (fun k_ => k_ < w.heap.size) _ _ l0_1 (rd l1 x10_1) t185 _ ?side1 A7.out).mono ?_); (case side1 => exact Kd.V_mk HC0_1.out (Kd.F_below (Kd.C_F (Kd.heap_slice 21 (Kd.heap_int .i32)) HR0_1.out) (by repeat (first | (with_reducible first | exact HB.out | apply below_alloc | apply pw_below_drewN | apply below_drew1 | refine below_set ?_ GE183.out) | exact HB.out)))); rintro e w11 ⟨v186, rfl, ho0, hb⟩; refine ⟨_, rfl, ?_⟩; have n0_ := Aside0.mk (Kd.V_lower (Kd.V_mono (ok' := fun k_ => k_ ≠ gb183) ho0 (fun k_ hk_ => Or.elim hk_ (fun hs_ => fun e_ => Nat.not_le.2 hs_ (by rw [e_]; exact GW183.out)) (fun hn_ => (Kd.freshB (g := gb183) (o := .cells #[.string a0_0, .slice A0_1 l0_1.length c0_1] 24 (0, 0)) (by (with_reducible repeat (first | refine blk_drewN ?_ _ | refine blk_drew ?_ | refine blk_alloc ?_ _)); exact BK183.out) k_ hn_)))) (below_size (by repeat (first | (with_reducible first | exact HB.out | apply below_alloc | apply pw_below_drewN | apply below_drew1 | refine below_set ?_ GE183.out) | exact HB.out)))); have n1_ := Aside0.mk (blk_below (g := gb183) (o := .cells #[.string a0_0, .slice A0_1 l0_1.length c0_1] 24 (0, 0)) (by (with_reducible repeat (first | refine blk_drewN ?_ _ | refine blk_drew ?_ | refine blk_alloc ?_ _)); exact BK183.out) hb); have n2_ := Aside0.mk (below_step (by repeat (first | (with_reducible first | exact HB.out | apply below_alloc | apply pw_below_drewN | apply below_drew1 | refine below_set ?_ GE183.out) | exact HB.out)) hb); clear BK183; clear HB; have HO187 := n0_; have BK183 := n1_; have HB := n2_; clear n0_ n1_ n2_; (try clear hb); (try clear hb2); (try clear hk); (try clear hi); (try clear ho0); obtain ⟨Ao12, co12, eo12⟩ := Kd.V_slice HO187.out; subst eo12))
      go_roundg k1
      case measure => have := HK1.out; omega
      case rel => exact ⟨(ji9), (wrap64 (x10_1 + 1)), (by first | rfl | (simp; done) | (simp only [← hji9] <;> (first | rfl | simp)) | (simp [*]; done)), (by first | rfl | (simp; done) | (simp [*]; done)), H', ⟨by have := HK1.out; omega⟩, ⟨by (with_reducible repeat (first | refine blk_drewN ?_ _ | refine blk_drew ?_ | refine blk_alloc ?_ _)); exact BK183.out⟩, ⟨by repeat (first | (with_reducible first | exact HB.out | apply below_alloc | apply pw_below_drewN | apply below_drew1 | refine below_set ?_ GE183.out) | exact HB.out)⟩⟩
     ·rw [if_neg c6] at H
      exact absurd H (by simp)
    ·rw [if_neg c5] at H
     exact absurd H (by simp)
   ·rw [if_neg c4] at H
    have c4b0 : decide (x10_1 < (l1.length : Int)) = false := decide_eq_false c4
    clear c4
    obtain rfl := Option.some.inj H
    go_wp2
    go_ret
    exact ⟨by first | rfl | (simp [errW_none, errW_some] <;> rfl) | (simp [*, errW_none, errW_some] <;> rfl), by repeat (first | (with_reducible first | exact HB.out | apply below_alloc | apply pw_below_drewN | apply below_drew1 | refine below_set ?_ GE183.out) | exact HB.out)⟩

-- NOT PRINTED: function 3 (eponymlaw19_VariantsAlike)

/-! ### eponymref01_Right: function 22 -/
def eponymref01_Right.f (a0 : Int) : Option (Bool) := if a0 ≥ 0 then (if a0 ≤ 1114111 then (if a0 ≥ 55296 then (some (!(decide (a0 ≤ 57343)))) else (some (!false))) else (some false)) else (some false)
set_option maxHeartbeats 8000000 in
set_option maxRecDepth 100000 in
theorem eponymref01_Right.calls (a0 : Int) (r : Bool) (w : World) (h : eponymref01_Right.f a0 = some r) :
  Calls Tryd.prog 22 #[.int .i32 a0] w fun e w' => e = .returned (.bool r) ∧ Drawn0 w w' := by
 have H : (if a0 ≥ 0 then (if a0 ≤ 1114111 then (if a0 ≥ 55296 then (some (!(decide (a0 ≤ 57343)))) else (some (!false))) else (some false)) else (some false)) = some r := h
 clear h
 by_cases c2 : a0 ≥ 0
 ·rw [if_pos c2] at H
  have c2b0 : decide (0 ≤ a0) = true := decide_eq_true c2
  clear c2
  by_cases c3 : a0 ≤ 1114111
  ·rw [if_pos c3] at H
   have c3b0 : decide (a0 ≤ 1114111) = true := decide_eq_true c3
   clear c3
   by_cases c4 : a0 ≥ 55296
   ·rw [if_pos c4] at H
    have c4b0 : decide (55296 ≤ a0) = true := decide_eq_true c4
    clear c4
    obtain rfl := Option.some.inj H
    go_enter Tryd.func22, Tryd.ntmps22
    go_wp2
    go_ret
    exact ⟨by first | rfl | (simp; done) | (simp [*]; done), by repeat (first | exact Drawn0.refl _ | apply Drawn0.step)⟩
   ·rw [if_neg c4] at H
    have c4b0 : decide (55296 ≤ a0) = false := decide_eq_false c4
    clear c4
    obtain rfl := Option.some.inj H
    go_enter Tryd.func22, Tryd.ntmps22
    go_wp2
    go_ret
    exact ⟨by first | rfl | (simp; done) | (simp [*]; done), by repeat (first | exact Drawn0.refl _ | apply Drawn0.step)⟩
  ·rw [if_neg c3] at H
   have c3b0 : decide (a0 ≤ 1114111) = false := decide_eq_false c3
   clear c3
   obtain rfl := Option.some.inj H
   go_enter Tryd.func22, Tryd.ntmps22
   go_wp2
   go_ret
   exact ⟨by first | rfl | (simp; done) | (simp [*]; done), by repeat (first | exact Drawn0.refl _ | apply Drawn0.step)⟩
 ·rw [if_neg c2] at H
  have c2b0 : decide (0 ≤ a0) = false := decide_eq_false c2
  clear c2
  obtain rfl := Option.some.inj H
  go_enter Tryd.func22, Tryd.ntmps22
  go_wp2
  go_ret
  exact ⟨by first | rfl | (simp; done) | (simp [*]; done), by repeat (first | exact Drawn0.refl _ | apply Drawn0.step)⟩

end Go.Proofs.YtohnahbjmcelfaaDoor.V
