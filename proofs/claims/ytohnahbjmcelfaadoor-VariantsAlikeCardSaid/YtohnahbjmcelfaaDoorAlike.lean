/- The walk of the law VariantsAlike. Conditions: those that its contract names. -/
-- Printed by this session's own turn of the print (wip/mkprint.py, wip/compact.py), with parts that were proved by hand.
import Derived.Test.YtohnahbjmcelfaaDoorVx7
import Derived.Test.YtohnahbjmcelfaaDoorVx5
import Derived.Test.YtohnahbjmcelfaaDoorVx4
import Derived.Test.YtohnahbjmcelfaaDoorVx3
import Derived.Test.YtohnahbjmcelfaaDoorVx2
namespace Go.Proofs.YtohnahbjmcelfaaDoor.V
open Go.RowKit Go.Proofs.YtohnahbjmcelfaaDoorW.PrintWords Go.Proofs.YtohnahbjmcelfaaDoorW.PrintLast Go.Proofs.YtohnahbjmcelfaaDoorW.PrintMore Go.Proofs.YtohnahbjmcelfaaDoor.Er
attribute [local go_sem] max2_int min2_int max_two min_two max_three min_three max_four min_four   -- for this text's walks alone
set_option linter.unusedVariables false
set_option linter.unusedSimpArgs false



/-- a row of Bools by a number's bits. -/
def bv (n m : Nat) : Array Bool := ((List.range n).map fun i => m.testBit i).toArray
section
variable {P : Program} {ops : Array Oper} {Q : Exit → Act → World → Prop} {md : Region.Mode} {S : World → Prop} {ds : List Nat}
theorem pureB {T} (hT : Aside0 (rtab md ops = T)) (i N n m : Nat) {oi : Oper} {v : Value} {fuel : Nat} {l : Array Bool} {a a' : Act} {w : World} (h : wpAnyLast P md ops Q S ds fuel (bv n m) a' w)
    (hi : ops[i]? = some oi := by rfl) (hN : oi.dst = some N := by rfl) (hc : anyT T l.toList (bv n m).toList i = true := by kernel_rfl) (hQ : ∀ c a w, Q (.panic c) (a.put oi.dst v) w → Q (.panic c) a w := by exact fun _ _ _ h => h)
    (hy : Region.wanted oi (yielded ops a.tmps) = true := by rfl) (hv : ∀ w, (execOp a.eval oi).run P w = .ok (.value v) w := by (intro w'; go_simp; with_reducible rfl))
    (ha : a.put (some N) v = a' := by (simp only [Act.put, List.setIfInBounds_toArray, List.set_cons_zero, List.set_cons_succ, i64_w, i32_w]; rfl)) : wpAnyLast P md ops Q S ds (fuel + 1) l a w :=
  pure_ (i := i) (N := some N) (bv n m) hi hN (any_of hT.out hc) hQ (Or.inl ⟨hy, hv⟩) ha h
theorem skipB {T} (hT : Aside0 (rtab md ops = T)) (i N n m : Nat) {oi : Oper} {fuel : Nat} {l : Array Bool} {a a' : Act} {w : World} (h : wpAnyLast P md ops Q S ds fuel (bv n m) a' w)
    (hi : ops[i]? = some oi := by rfl) (hN : oi.dst = some N := by rfl) (hc : anyT T l.toList (bv n m).toList i = true := by kernel_rfl) (hQ : ∀ c a w, Q (.panic c) (a.put oi.dst undef) w → Q (.panic c) a w := by exact fun _ _ _ h => h)
    (hy : Region.wanted oi (yielded ops a.tmps) = false := by rfl)
    (ha : a.put (some N) undef = a' := by (simp only [Act.put, List.setIfInBounds_toArray, List.set_cons_zero, List.set_cons_succ, i64_w, i32_w]; rfl)) : wpAnyLast P md ops Q S ds (fuel + 1) l a w :=
  pure_ (i := i) (N := some N) (v := undef) (bv n m) hi hN (any_of hT.out hc) hQ (Or.inr ⟨hy, rfl⟩) ha h
theorem takeB2 {T} {B : List Nat} (hT : Aside0 (rtab md ops = T)) (hB : Aside0 (waitsOk T.2 B = true)) (i N n m : Nat) {oi : Oper} {v : Value} {fuel : Nat} {l : Array Bool} {a a' : Act} {w : World} (hS : S w) (h : wpAnyLast P md ops Q S ds fuel (bv n m) a' w)
    (hi : ops[i]? = some oi := by rfl) (hN : oi.dst = some N := by rfl) (hc : takeW T B ds l.toList (bv n m).toList i = true := by kernel_rfl) (hQ : ∀ c a w, Q (.panic c) (a.put oi.dst v) w → Q (.panic c) a w := by exact fun _ _ _ h => h)
    (hy : Region.wanted oi (yielded ops a.tmps) = true := by rfl) (hv : ∀ w, S w → (execOp a.eval oi).run P w = .ok (.value v) w := by (rintro w' ⟨s0, s1⟩; go_simp; with_reducible rfl))
    (ha : a.put (some N) v = a' := by (simp only [Act.put, List.setIfInBounds_toArray, List.set_cons_zero, List.set_cons_succ, i64_w, i32_w]; rfl)) : wpAnyLast P md ops Q S ds (fuel + 1) l a w :=
  take_ (i := i) (N := some N) (bv n m) hi hN (take_ofW hT.out hB.out hc) hQ (Or.inl ⟨hy, hv⟩) hS ha h
theorem takeB3 {T} {B : List Nat} (hT : Aside0 (rtab md ops = T)) (hB : Aside0 (waitsOk T.2 B = true)) (i N n m : Nat) {oi : Oper} {v : Value} {fuel : Nat} {l : Array Bool} {a a' : Act} {w : World} (hS : S w) (h : wpAnyLast P md ops Q S ds fuel (bv n m) a' w)
    (hi : ops[i]? = some oi := by rfl) (hN : oi.dst = some N := by rfl) (hc : takeW T B ds l.toList (bv n m).toList i = true := by kernel_rfl) (hQ : ∀ c a w, Q (.panic c) (a.put oi.dst v) w → Q (.panic c) a w := by exact fun _ _ _ h => h)
    (hy : Region.wanted oi (yielded ops a.tmps) = true := by rfl) (hv : ∀ w, S w → (execOp a.eval oi).run P w = .ok (.value v) w := by (rintro w' ⟨s0, s1, s2⟩; go_simp; with_reducible rfl))
    (ha : a.put (some N) v = a' := by (simp only [Act.put, List.setIfInBounds_toArray, List.set_cons_zero, List.set_cons_succ, i64_w, i32_w]; rfl)) : wpAnyLast P md ops Q S ds (fuel + 1) l a w :=
  take_ (i := i) (N := some N) (bv n m) hi hN (take_ofW hT.out hB.out hc) hQ (Or.inl ⟨hy, hv⟩) hS ha h
theorem takeB4 {T} {B : List Nat} (hT : Aside0 (rtab md ops = T)) (hB : Aside0 (waitsOk T.2 B = true)) (i N n m : Nat) {oi : Oper} {v : Value} {fuel : Nat} {l : Array Bool} {a a' : Act} {w : World} (hS : S w) (h : wpAnyLast P md ops Q S ds fuel (bv n m) a' w)
    (hi : ops[i]? = some oi := by rfl) (hN : oi.dst = some N := by rfl) (hc : takeW T B ds l.toList (bv n m).toList i = true := by kernel_rfl) (hQ : ∀ c a w, Q (.panic c) (a.put oi.dst v) w → Q (.panic c) a w := by exact fun _ _ _ h => h)
    (hy : Region.wanted oi (yielded ops a.tmps) = true := by rfl) (hv : ∀ w, S w → (execOp a.eval oi).run P w = .ok (.value v) w := by (rintro w' ⟨s0, s1, s2, s3⟩; go_simp; with_reducible rfl))
    (ha : a.put (some N) v = a' := by (simp only [Act.put, List.setIfInBounds_toArray, List.set_cons_zero, List.set_cons_succ, i64_w, i32_w]; rfl)) : wpAnyLast P md ops Q S ds (fuel + 1) l a w :=
  take_ (i := i) (N := some N) (bv n m) hi hN (take_ofW hT.out hB.out hc) hQ (Or.inl ⟨hy, hv⟩) hS ha h
theorem takeB5 {T} {B : List Nat} (hT : Aside0 (rtab md ops = T)) (hB : Aside0 (waitsOk T.2 B = true)) (i N n m : Nat) {oi : Oper} {v : Value} {fuel : Nat} {l : Array Bool} {a a' : Act} {w : World} (hS : S w) (h : wpAnyLast P md ops Q S ds fuel (bv n m) a' w)
    (hi : ops[i]? = some oi := by rfl) (hN : oi.dst = some N := by rfl) (hc : takeW T B ds l.toList (bv n m).toList i = true := by kernel_rfl) (hQ : ∀ c a w, Q (.panic c) (a.put oi.dst v) w → Q (.panic c) a w := by exact fun _ _ _ h => h)
    (hy : Region.wanted oi (yielded ops a.tmps) = true := by rfl) (hv : ∀ w, S w → (execOp a.eval oi).run P w = .ok (.value v) w := by (rintro w' ⟨s0, s1, s2, s3, s4⟩; go_simp; with_reducible rfl))
    (ha : a.put (some N) v = a' := by (simp only [Act.put, List.setIfInBounds_toArray, List.set_cons_zero, List.set_cons_succ, i64_w, i32_w]; rfl)) : wpAnyLast P md ops Q S ds (fuel + 1) l a w :=
  take_ (i := i) (N := some N) (bv n m) hi hN (take_ofW hT.out hB.out hc) hQ (Or.inl ⟨hy, hv⟩) hS ha h
theorem takeB6 {T} {B : List Nat} (hT : Aside0 (rtab md ops = T)) (hB : Aside0 (waitsOk T.2 B = true)) (i N n m : Nat) {oi : Oper} {v : Value} {fuel : Nat} {l : Array Bool} {a a' : Act} {w : World} (hS : S w) (h : wpAnyLast P md ops Q S ds fuel (bv n m) a' w)
    (hi : ops[i]? = some oi := by rfl) (hN : oi.dst = some N := by rfl) (hc : takeW T B ds l.toList (bv n m).toList i = true := by kernel_rfl) (hQ : ∀ c a w, Q (.panic c) (a.put oi.dst v) w → Q (.panic c) a w := by exact fun _ _ _ h => h)
    (hy : Region.wanted oi (yielded ops a.tmps) = true := by rfl) (hv : ∀ w, S w → (execOp a.eval oi).run P w = .ok (.value v) w := by (rintro w' ⟨s0, s1, s2, s3, s4, s5⟩; go_simp; with_reducible rfl))
    (ha : a.put (some N) v = a' := by (simp only [Act.put, List.setIfInBounds_toArray, List.set_cons_zero, List.set_cons_succ, i64_w, i32_w]; rfl)) : wpAnyLast P md ops Q S ds (fuel + 1) l a w :=
  take_ (i := i) (N := some N) (bv n m) hi hN (take_ofW hT.out hB.out hc) hQ (Or.inl ⟨hy, hv⟩) hS ha h
theorem takeB7 {T} {B : List Nat} (hT : Aside0 (rtab md ops = T)) (hB : Aside0 (waitsOk T.2 B = true)) (i N n m : Nat) {oi : Oper} {v : Value} {fuel : Nat} {l : Array Bool} {a a' : Act} {w : World} (hS : S w) (h : wpAnyLast P md ops Q S ds fuel (bv n m) a' w)
    (hi : ops[i]? = some oi := by rfl) (hN : oi.dst = some N := by rfl) (hc : takeW T B ds l.toList (bv n m).toList i = true := by kernel_rfl) (hQ : ∀ c a w, Q (.panic c) (a.put oi.dst v) w → Q (.panic c) a w := by exact fun _ _ _ h => h)
    (hy : Region.wanted oi (yielded ops a.tmps) = true := by rfl) (hv : ∀ w, S w → (execOp a.eval oi).run P w = .ok (.value v) w := by (rintro w' ⟨s0, s1, s2, s3, s4, s5, s6⟩; go_simp; with_reducible rfl))
    (ha : a.put (some N) v = a' := by (simp only [Act.put, List.setIfInBounds_toArray, List.set_cons_zero, List.set_cons_succ, i64_w, i32_w]; rfl)) : wpAnyLast P md ops Q S ds (fuel + 1) l a w :=
  take_ (i := i) (N := some N) (bv n m) hi hN (take_ofW hT.out hB.out hc) hQ (Or.inl ⟨hy, hv⟩) hS ha h
end
/-! ### eponymlaw19_VariantsAlike: function 3 -/
mutual
def eponymlaw19_VariantsAlike.j0 : Nat → List Int → List Int → Bool → ByteArray → List (List Int) → Option (Bool)
 | 0, _, _, _, _, _ => none
 | k + 1, x1, x2, x29, x189000, x189001 => if x29 = true then (some true) else ((variants_All.f k x189000 x189001 x1 50).bind fun t193 => (eponymlaw19_VariantsAlike.l0 k x1 x2 t193 false 0 x189000 x189001))
def eponymlaw19_VariantsAlike.l0 : Nat → List Int → List Int → List (List Int) → Bool → Int → ByteArray → List (List Int) → Option (Bool)
 | 0, _, _, _, _, _, _, _ => none
 | k + 1, x1, x2, x7, x8, x9, x189000, x189001 => if x9 < (x7.length : Int) then (if 0 ≤ x9 then ((variants_Same.f k x189000 x189001 (rd_L1 x7 x9) x1).bind fun t199 => (if t199 = true then ((variants_Count.f k x189000 x189001 (rd_L1 x7 x9)).bind fun t201 => ((variants_Count.f k x189000 x189001 x1).bind fun t202 => (if t201 = t202 then (if x9 = 0 then ((variants_Key.f k x189000 x189001 x1).bind fun t204 => ((eponymlaw01_Same.f k (rd_L1 x7 x9) t204).bind fun t207 => (eponymlaw19_VariantsAlike.j2 k x1 x2 x7 x8 x9 (!t207) x189000 x189001))) else (eponymlaw19_VariantsAlike.j2 k x1 x2 x7 x8 x9 false x189000 x189001)) else (eponymlaw19_VariantsAlike.j2 k x1 x2 x7 x8 x9 true x189000 x189001)))) else (eponymlaw19_VariantsAlike.j2 k x1 x2 x7 x8 x9 true x189000 x189001))) else (none)) else ((variants_Count.f k x189000 x189001 x1).bind fun t196 => (if t196 > 50 then (some true) else ((variants_Same.f k x189000 x189001 x1 x2).bind fun t197 => (some (x8 == t197)))))
def eponymlaw19_VariantsAlike.j2 : Nat → List Int → List Int → List (List Int) → Bool → Int → Bool → ByteArray → List (List Int) → Option (Bool)
 | 0, _, _, _, _, _, _, _, _ => none
 | k + 1, x1, x2, x7, x8, x9, x73, x189000, x189001 => if x73 = true then (some false) else (if x9 > 0 then (eponymlaw19_VariantsAlike.l1 k x1 x2 x7 x8 x9 0 x189000 x189001) else (if x8 = true then (eponymlaw19_VariantsAlike.l0 k x1 x2 x7 true (wrap64 (x9 + 1)) x189000 x189001) else (if 0 ≤ x9 then (if x9 < (x7.length : Int) then ((eponymlaw01_Same.f k (rd_L1 x7 x9) x2).bind fun t225 => (eponymlaw19_VariantsAlike.l0 k x1 x2 x7 t225 (wrap64 (x9 + 1)) x189000 x189001)) else (none)) else (none))))
def eponymlaw19_VariantsAlike.l1 : Nat → List Int → List Int → List (List Int) → Bool → Int → Int → ByteArray → List (List Int) → Option (Bool)
 | 0, _, _, _, _, _, _, _, _ => none
 | k + 1, x1, x2, x7, x8, x9, x10, x189000, x189001 => if x10 < (x1.length : Int) then (if 0 ≤ x9 then (if x9 < (x7.length : Int) then (if 0 ≤ x10 then (if x10 < ((rd_L1 x7 x9).length : Int) then (if 0 ≤ (wrap64 (x9 - 1)) then (if (wrap64 (x9 - 1)) < (x7.length : Int) then (if x10 < ((rd_L1 x7 (wrap64 (x9 - 1))).length : Int) then (if (rd (rd_L1 x7 x9) x10) = (rd (rd_L1 x7 (wrap64 (x9 - 1))) x10) then (eponymlaw19_VariantsAlike.l1 k x1 x2 x7 x8 x9 (wrap64 (x10 + 1)) x189000 x189001) else (if x10 = (x1.length : Int) then (some false) else (if (rd (rd_L1 x7 x9) x10) < (rd (rd_L1 x7 (wrap64 (x9 - 1))) x10) then (some false) else (if x8 = true then (eponymlaw19_VariantsAlike.l0 k x1 x2 x7 true (wrap64 (x9 + 1)) x189000 x189001) else ((eponymlaw01_Same.f k (rd_L1 x7 x9) x2).bind fun t217 => (eponymlaw19_VariantsAlike.l0 k x1 x2 x7 t217 (wrap64 (x9 + 1)) x189000 x189001)))))) else (none)) else (none)) else (none)) else (none)) else (none)) else (none)) else (none)) else (if x10 = (x1.length : Int) then (some false) else (if 0 ≤ x9 then (if x9 < (x7.length : Int) then (if 0 ≤ x10 then (if x10 < ((rd_L1 x7 x9).length : Int) then (if 0 ≤ (wrap64 (x9 - 1)) then (if (wrap64 (x9 - 1)) < (x7.length : Int) then (if x10 < ((rd_L1 x7 (wrap64 (x9 - 1))).length : Int) then (if (rd (rd_L1 x7 x9) x10) < (rd (rd_L1 x7 (wrap64 (x9 - 1))) x10) then (some false) else (if x8 = true then (eponymlaw19_VariantsAlike.l0 k x1 x2 x7 true (wrap64 (x9 + 1)) x189000 x189001) else ((eponymlaw01_Same.f k (rd_L1 x7 x9) x2).bind fun t223 => (eponymlaw19_VariantsAlike.l0 k x1 x2 x7 t223 (wrap64 (x9 + 1)) x189000 x189001)))) else (none)) else (none)) else (none)) else (none)) else (none)) else (none)) else (none)))
end
def eponymlaw19_VariantsAlike.f (k : Nat) (a0_0 : ByteArray) (l0_1 : List (List Int)) (l1 : List Int) (l2 : List Int) : Option (Bool) := (eponymlaw19_awake.f k).bind fun t189 => (if t189 = true then ((eponymlaw19_Great.f k a0_0 l0_1).bind fun t190 => (if t190 = true then (eponymlaw19_VariantsAlike.j0 k l1 l2 true a0_0 l0_1) else (if (l1.length : Int) > 8 then (eponymlaw19_VariantsAlike.j0 k l1 l2 true a0_0 l0_1) else (if (l2.length : Int) > 8 then (eponymlaw19_VariantsAlike.j0 k l1 l2 true a0_0 l0_1) else ((variants_Check.f k a0_0 l0_1).bind fun t191 => (if t191.isNone = true then (eponymlaw19_VariantsAlike.j0 k l1 l2 false a0_0 l0_1) else (eponymlaw19_VariantsAlike.j0 k l1 l2 true a0_0 l0_1))))))) else (some false))
theorem eponymlaw19_VariantsAlike.mono_l : ∀ k, (∀ y0 y1 y2 y3 y4, LeO (eponymlaw19_VariantsAlike.j0 k y0 y1 y2 y3 y4) (eponymlaw19_VariantsAlike.j0 (k + 1) y0 y1 y2 y3 y4)) ∧ (∀ y0 y1 y2 y3 y4 y5 y6, LeO (eponymlaw19_VariantsAlike.l0 k y0 y1 y2 y3 y4 y5 y6) (eponymlaw19_VariantsAlike.l0 (k + 1) y0 y1 y2 y3 y4 y5 y6)) ∧ (∀ y0 y1 y2 y3 y4 y5 y6 y7, LeO (eponymlaw19_VariantsAlike.j2 k y0 y1 y2 y3 y4 y5 y6 y7) (eponymlaw19_VariantsAlike.j2 (k + 1) y0 y1 y2 y3 y4 y5 y6 y7)) ∧ (∀ y0 y1 y2 y3 y4 y5 y6 y7, LeO (eponymlaw19_VariantsAlike.l1 k y0 y1 y2 y3 y4 y5 y6 y7) (eponymlaw19_VariantsAlike.l1 (k + 1) y0 y1 y2 y3 y4 y5 y6 y7))
 | 0 => ⟨fun _ _ _ _ _ r h => by simp [eponymlaw19_VariantsAlike.j0] at h, fun _ _ _ _ _ _ _ r h => by simp [eponymlaw19_VariantsAlike.l0] at h, fun _ _ _ _ _ _ _ _ r h => by simp [eponymlaw19_VariantsAlike.j2] at h, fun _ _ _ _ _ _ _ _ r h => by simp [eponymlaw19_VariantsAlike.l1] at h⟩
 | k + 1 => by
  obtain ⟨ih0, ih1, ih2, ih3⟩ := eponymlaw19_VariantsAlike.mono_l k
  refine ⟨?_, ?_, ?_, ?_⟩
  ·intro y0 y1 y2 y3 y4
   unfold eponymlaw19_VariantsAlike.j0
   repeat' first
   | (with_reducible exact ih0 _ _ _ _ _)
   | (with_reducible exact ih1 _ _ _ _ _ _ _)
   | (with_reducible exact ih2 _ _ _ _ _ _ _ _)
   | (with_reducible exact ih3 _ _ _ _ _ _ _ _)
   | (with_reducible exact eponymlaw01_Same.mono _ _ _)
   | (with_reducible exact eponymlaw19_Great.mono _ _ _)
   | (with_reducible exact eponymlaw19_awake.mono _)
   | (with_reducible exact variants_All.mono _ _ _ _ _)
   | (with_reducible exact variants_Check.mono _ _ _)
   | (with_reducible exact variants_Count.mono _ _ _ _)
   | (with_reducible exact variants_Key.mono _ _ _ _)
   | (with_reducible exact variants_Same.mono _ _ _ _ _)
   | (with_reducible exact LeO.refl _)
   | (with_reducible exact LeO.none _)
   | (with_reducible refine LeO.ite ?_ ?_)
   | (with_reducible refine LeO.bind ?_ (fun _ => ?_))
   | exact ih0 _ _ _ _ _
   | exact ih1 _ _ _ _ _ _ _
   | exact ih2 _ _ _ _ _ _ _ _
   | exact ih3 _ _ _ _ _ _ _ _
   | exact eponymlaw01_Same.mono _ _ _
   | exact eponymlaw19_Great.mono _ _ _
   | exact eponymlaw19_awake.mono _
   | exact variants_All.mono _ _ _ _ _
   | exact variants_Check.mono _ _ _
   | exact variants_Count.mono _ _ _ _
   | exact variants_Key.mono _ _ _ _
   | exact variants_Same.mono _ _ _ _ _
   | exact LeO.none _
   | refine LeO.ite ?_ ?_
   | refine LeO.bind ?_ (fun _ => ?_)
  ·intro y0 y1 y2 y3 y4 y5 y6
   unfold eponymlaw19_VariantsAlike.l0
   repeat' first
   | (with_reducible exact ih0 _ _ _ _ _)
   | (with_reducible exact ih1 _ _ _ _ _ _ _)
   | (with_reducible exact ih2 _ _ _ _ _ _ _ _)
   | (with_reducible exact ih3 _ _ _ _ _ _ _ _)
   | (with_reducible exact eponymlaw01_Same.mono _ _ _)
   | (with_reducible exact eponymlaw19_Great.mono _ _ _)
   | (with_reducible exact eponymlaw19_awake.mono _)
   | (with_reducible exact variants_All.mono _ _ _ _ _)
   | (with_reducible exact variants_Check.mono _ _ _)
   | (with_reducible exact variants_Count.mono _ _ _ _)
   | (with_reducible exact variants_Key.mono _ _ _ _)
   | (with_reducible exact variants_Same.mono _ _ _ _ _)
   | (with_reducible exact LeO.refl _)
   | (with_reducible exact LeO.none _)
   | (with_reducible refine LeO.ite ?_ ?_)
   | (with_reducible refine LeO.bind ?_ (fun _ => ?_))
   | exact ih0 _ _ _ _ _
   | exact ih1 _ _ _ _ _ _ _
   | exact ih2 _ _ _ _ _ _ _ _
   | exact ih3 _ _ _ _ _ _ _ _
   | exact eponymlaw01_Same.mono _ _ _
   | exact eponymlaw19_Great.mono _ _ _
   | exact eponymlaw19_awake.mono _
   | exact variants_All.mono _ _ _ _ _
   | exact variants_Check.mono _ _ _
   | exact variants_Count.mono _ _ _ _
   | exact variants_Key.mono _ _ _ _
   | exact variants_Same.mono _ _ _ _ _
   | exact LeO.none _
   | refine LeO.ite ?_ ?_
   | refine LeO.bind ?_ (fun _ => ?_)
  ·intro y0 y1 y2 y3 y4 y5 y6 y7
   unfold eponymlaw19_VariantsAlike.j2
   repeat' first
   | (with_reducible exact ih0 _ _ _ _ _)
   | (with_reducible exact ih1 _ _ _ _ _ _ _)
   | (with_reducible exact ih2 _ _ _ _ _ _ _ _)
   | (with_reducible exact ih3 _ _ _ _ _ _ _ _)
   | (with_reducible exact eponymlaw01_Same.mono _ _ _)
   | (with_reducible exact eponymlaw19_Great.mono _ _ _)
   | (with_reducible exact eponymlaw19_awake.mono _)
   | (with_reducible exact variants_All.mono _ _ _ _ _)
   | (with_reducible exact variants_Check.mono _ _ _)
   | (with_reducible exact variants_Count.mono _ _ _ _)
   | (with_reducible exact variants_Key.mono _ _ _ _)
   | (with_reducible exact variants_Same.mono _ _ _ _ _)
   | (with_reducible exact LeO.refl _)
   | (with_reducible exact LeO.none _)
   | (with_reducible refine LeO.ite ?_ ?_)
   | (with_reducible refine LeO.bind ?_ (fun _ => ?_))
   | exact ih0 _ _ _ _ _
   | exact ih1 _ _ _ _ _ _ _
   | exact ih2 _ _ _ _ _ _ _ _
   | exact ih3 _ _ _ _ _ _ _ _
   | exact eponymlaw01_Same.mono _ _ _
   | exact eponymlaw19_Great.mono _ _ _
   | exact eponymlaw19_awake.mono _
   | exact variants_All.mono _ _ _ _ _
   | exact variants_Check.mono _ _ _
   | exact variants_Count.mono _ _ _ _
   | exact variants_Key.mono _ _ _ _
   | exact variants_Same.mono _ _ _ _ _
   | exact LeO.none _
   | refine LeO.ite ?_ ?_
   | refine LeO.bind ?_ (fun _ => ?_)
  ·intro y0 y1 y2 y3 y4 y5 y6 y7
   unfold eponymlaw19_VariantsAlike.l1
   repeat' first
   | (with_reducible exact ih0 _ _ _ _ _)
   | (with_reducible exact ih1 _ _ _ _ _ _ _)
   | (with_reducible exact ih2 _ _ _ _ _ _ _ _)
   | (with_reducible exact ih3 _ _ _ _ _ _ _ _)
   | (with_reducible exact eponymlaw01_Same.mono _ _ _)
   | (with_reducible exact eponymlaw19_Great.mono _ _ _)
   | (with_reducible exact eponymlaw19_awake.mono _)
   | (with_reducible exact variants_All.mono _ _ _ _ _)
   | (with_reducible exact variants_Check.mono _ _ _)
   | (with_reducible exact variants_Count.mono _ _ _ _)
   | (with_reducible exact variants_Key.mono _ _ _ _)
   | (with_reducible exact variants_Same.mono _ _ _ _ _)
   | (with_reducible exact LeO.refl _)
   | (with_reducible exact LeO.none _)
   | (with_reducible refine LeO.ite ?_ ?_)
   | (with_reducible refine LeO.bind ?_ (fun _ => ?_))
   | exact ih0 _ _ _ _ _
   | exact ih1 _ _ _ _ _ _ _
   | exact ih2 _ _ _ _ _ _ _ _
   | exact ih3 _ _ _ _ _ _ _ _
   | exact eponymlaw01_Same.mono _ _ _
   | exact eponymlaw19_Great.mono _ _ _
   | exact eponymlaw19_awake.mono _
   | exact variants_All.mono _ _ _ _ _
   | exact variants_Check.mono _ _ _
   | exact variants_Count.mono _ _ _ _
   | exact variants_Key.mono _ _ _ _
   | exact variants_Same.mono _ _ _ _ _
   | exact LeO.none _
   | refine LeO.ite ?_ ?_
   | refine LeO.bind ?_ (fun _ => ?_)
theorem eponymlaw19_VariantsAlike.mono : ∀ a0 a1 a2 a3 k, LeO (eponymlaw19_VariantsAlike.f k a0 a1 a2 a3) (eponymlaw19_VariantsAlike.f (k + 1) a0 a1 a2 a3) := by
 intro a0 a1 a2 a3 k
 obtain ⟨ih0, ih1, ih2, ih3⟩ := eponymlaw19_VariantsAlike.mono_l k
 unfold eponymlaw19_VariantsAlike.f
 repeat' first
   | (with_reducible exact ih0 _ _ _ _ _)
   | (with_reducible exact ih1 _ _ _ _ _ _ _)
   | (with_reducible exact ih2 _ _ _ _ _ _ _ _)
   | (with_reducible exact ih3 _ _ _ _ _ _ _ _)
   | (with_reducible exact eponymlaw01_Same.mono _ _ _)
   | (with_reducible exact eponymlaw19_Great.mono _ _ _)
   | (with_reducible exact eponymlaw19_awake.mono _)
   | (with_reducible exact variants_All.mono _ _ _ _ _)
   | (with_reducible exact variants_Check.mono _ _ _)
   | (with_reducible exact variants_Count.mono _ _ _ _)
   | (with_reducible exact variants_Key.mono _ _ _ _)
   | (with_reducible exact variants_Same.mono _ _ _ _ _)
   | (with_reducible exact LeO.refl _)
   | (with_reducible exact LeO.none _)
   | (with_reducible refine LeO.ite ?_ ?_)
   | (with_reducible refine LeO.bind ?_ (fun _ => ?_))
   | exact ih0 _ _ _ _ _
   | exact ih1 _ _ _ _ _ _ _
   | exact ih2 _ _ _ _ _ _ _ _
   | exact ih3 _ _ _ _ _ _ _ _
   | exact eponymlaw01_Same.mono _ _ _
   | exact eponymlaw19_Great.mono _ _ _
   | exact eponymlaw19_awake.mono _
   | exact variants_All.mono _ _ _ _ _
   | exact variants_Check.mono _ _ _
   | exact variants_Count.mono _ _ _ _
   | exact variants_Key.mono _ _ _ _
   | exact variants_Same.mono _ _ _ _ _
   | exact LeO.none _
   | refine LeO.ite ?_ ?_
   | refine LeO.bind ?_ (fun _ => ?_)
def eponymlaw19_VariantsAlike.T10 : Bool × List (List Nat × List Nat) := (true, [([], []), ([], []), ([], []), ([1, 2], [1, 2]), ([3], [3]), ([], []), ([0, 4, 5], [0, 4, 5]), ([6], [6]), ([7, 6], [7]), ([8], [8]), ([8], [8]), ([8], [8]), ([10, 11, 8], [8, 10, 11]), ([12, 8], [8, 12]), ([9, 13, 8, 8], [8, 9, 13]), ([8], [8]), ([8], [8]), ([15, 16, 14, 8], [8, 15, 16]), ([14, 17, 8], [8, 14, 17]), ([8, 18], [8, 18]), ([19, 17], [19]), ([20], [20]), ([21, 20], [20, 21]), ([22, 20, 20], [20, 22]), ([23], [23]), ([23], [23]), ([24, 25, 23], [23, 24, 25]), ([26, 23], [23, 26]), ([23], [23]), ([23], [23]), ([28, 29, 23, 23], [23, 28, 29]), ([27, 30, 30, 23], [23, 27, 30]), ([31, 23], [23, 31]), ([23, 32, 20], [20, 23, 32]), ([20, 33], [20, 33])])
def eponymlaw19_VariantsAlike.B10 : List Nat := [0, 0, 0, 6, 14, 0, 63, 127, 255, 511, 511, 511, 3583, 7679, 16383, 511, 511, 131071, 262143, 524287, 1048575, 2097151, 4194303, 8388607, 16777215, 16777215, 67108863, 134217727, 16777215, 16777215, 822083583, 2147483647, 4294967295, 8589934591, 17179869183]
theorem eponymlaw19_VariantsAlike.tab10 : rtab .any (opsOf Tryd.f3 10) = eponymlaw19_VariantsAlike.T10 := by kernel_rfl
theorem eponymlaw19_VariantsAlike.bits10 : waitsOk eponymlaw19_VariantsAlike.T10.2 eponymlaw19_VariantsAlike.B10 = true := by kernel_rfl
def eponymlaw19_VariantsAlike.T14 : Bool × List (List Nat × List Nat) := (true, [([], []), ([], []), ([1], [1]), ([0, 2], [0, 2]), ([3], [3]), ([4], [4]), ([4], [4]), ([5, 6, 4], [4, 5, 6]), ([7, 4], [4, 7]), ([4], [4]), ([8, 9, 4], [4, 8, 9]), ([10, 4], [4, 10]), ([4], [4]), ([4], [4]), ([13, 4], [4, 13]), ([12, 14, 4], [4, 12, 14]), ([15, 4], [4, 15]), ([4], [4]), ([16, 17, 4], [4, 16, 17]), ([18, 4], [4, 18]), ([11, 19, 4], [4, 11, 19]), ([4, 20], [4, 20])])
def eponymlaw19_VariantsAlike.B14 : List Nat := [0, 0, 2, 7, 15, 31, 31, 127, 255, 31, 1023, 2047, 31, 31, 8223, 28703, 61471, 31, 258079, 520223, 1048575, 2097151]
theorem eponymlaw19_VariantsAlike.tab14 : rtab .any (opsOf Tryd.f3 14) = eponymlaw19_VariantsAlike.T14 := by kernel_rfl
theorem eponymlaw19_VariantsAlike.bits14 : waitsOk eponymlaw19_VariantsAlike.T14.2 eponymlaw19_VariantsAlike.B14 = true := by kernel_rfl
def eponymlaw19_VariantsAlike.T16 : Bool × List (List Nat × List Nat) := (true, [([], []), ([], []), ([1], [1]), ([0, 2], [0, 2]), ([3], [3]), ([4], [4]), ([4], [4]), ([5, 6, 4], [4, 5, 6]), ([7, 4], [4, 7]), ([4], [4]), ([8, 9, 4], [4, 8, 9]), ([10, 4], [4, 10]), ([4], [4]), ([4], [4]), ([13, 4], [4, 13]), ([12, 14, 4], [4, 12, 14]), ([15, 4], [4, 15]), ([4], [4]), ([16, 17, 4], [4, 16, 17]), ([18, 4], [4, 18]), ([11, 19, 4], [4, 11, 19]), ([4, 20], [4, 20])])
def eponymlaw19_VariantsAlike.B16 : List Nat := [0, 0, 2, 7, 15, 31, 31, 127, 255, 31, 1023, 2047, 31, 31, 8223, 28703, 61471, 31, 258079, 520223, 1048575, 2097151]
theorem eponymlaw19_VariantsAlike.tab16 : rtab .any (opsOf Tryd.f3 16) = eponymlaw19_VariantsAlike.T16 := by kernel_rfl
theorem eponymlaw19_VariantsAlike.bits16 : waitsOk eponymlaw19_VariantsAlike.T16.2 eponymlaw19_VariantsAlike.B16 = true := by kernel_rfl
set_option maxHeartbeats 8000000 in
set_option maxRecDepth 100000 in
theorem eponymlaw19_VariantsAlike.calls (sv : Nat → Addr) (k : Nat) (a0_0 : ByteArray) (A0_1 : Option Addr) (c0_1 : Nat) (l0_1 : List (List Int)) (A1 : Option Addr) (c1 : Nat) (l1 : List Int) (A2 : Option Addr) (c2 : Nat) (l2 : List Int) (r : Bool) (w : World) (hsv : Laid sv w) (hr0_1 : Kd.C (Kd.slice 21 (Kd.int .i32)) w A0_1 l0_1.length l0_1) (hc0_1 : l0_1.length ≤ c0_1) (hr1 : Kd.C (Kd.int .i32) w A1 l1.length l1) (hc1 : l1.length ≤ c1) (hr2 : Kd.C (Kd.int .i32) w A2 l2.length l2) (hc2 : l2.length ≤ c2) (h : eponymlaw19_VariantsAlike.f k a0_0 l0_1 l1 l2 = some r) :
  Calls Tryd.prog 3 #[.agg #[.string a0_0, .slice A0_1 l0_1.length c0_1], .slice A1 l1.length c1, .slice A2 l2.length c2] w fun e w' => e = .returned (.bool r) ∧ Below w.heap.size w w' := by
 have hu24 := Tryd.underlying24
 have hu29 := Tryd.underlying29
 have HR0_1 := Aside0.mk hr0_1
 have HC0_1 := Aside0.mk hc0_1
 clear hr0_1 hc0_1
 have HR1 := Aside0.mk hr1
 have HC1 := Aside0.mk hc1
 clear hr1 hc1
 have HR2 := Aside0.mk hr2
 have HC2 := Aside0.mk hc2
 clear hr2 hc2
 have HB := Aside0.mk (Below.refl w.heap.size w)
 have HSV := Aside0.mk hsv
 clear hsv
 have H : ((eponymlaw19_awake.f k).bind fun t189 => (if t189 = true then ((eponymlaw19_Great.f k a0_0 l0_1).bind fun t190 => (if t190 = true then (eponymlaw19_VariantsAlike.j0 k l1 l2 true a0_0 l0_1) else (if (l1.length : Int) > 8 then (eponymlaw19_VariantsAlike.j0 k l1 l2 true a0_0 l0_1) else (if (l2.length : Int) > 8 then (eponymlaw19_VariantsAlike.j0 k l1 l2 true a0_0 l0_1) else ((variants_Check.f k a0_0 l0_1).bind fun t191 => (if t191.isNone = true then (eponymlaw19_VariantsAlike.j0 k l1 l2 false a0_0 l0_1) else (eponymlaw19_VariantsAlike.j0 k l1 l2 true a0_0 l0_1))))))) else (some false))) = some r := h
 clear h
 replace H := Option.bind_eq_some_iff.mp H
 obtain ⟨t189, A40, H⟩ := H
 replace H : (if t189 = true then ((eponymlaw19_Great.f k a0_0 l0_1).bind fun t190 => (if t190 = true then (eponymlaw19_VariantsAlike.j0 k l1 l2 true a0_0 l0_1) else (if (l1.length : Int) > 8 then (eponymlaw19_VariantsAlike.j0 k l1 l2 true a0_0 l0_1) else (if (l2.length : Int) > 8 then (eponymlaw19_VariantsAlike.j0 k l1 l2 true a0_0 l0_1) else ((variants_Check.f k a0_0 l0_1).bind fun t191 => (if t191.isNone = true then (eponymlaw19_VariantsAlike.j0 k l1 l2 false a0_0 l0_1) else (eponymlaw19_VariantsAlike.j0 k l1 l2 true a0_0 l0_1))))))) else (some false)) = some r := H
 have A4 := Aside0.mk A40
 clear A40
 by_cases c5 : t189 = true
 ·subst c5
  have H1 : ((eponymlaw19_Great.f k a0_0 l0_1).bind fun t190 => (if t190 = true then (eponymlaw19_VariantsAlike.j0 k l1 l2 true a0_0 l0_1) else (if (l1.length : Int) > 8 then (eponymlaw19_VariantsAlike.j0 k l1 l2 true a0_0 l0_1) else (if (l2.length : Int) > 8 then (eponymlaw19_VariantsAlike.j0 k l1 l2 true a0_0 l0_1) else ((variants_Check.f k a0_0 l0_1).bind fun t191 => (if t191.isNone = true then (eponymlaw19_VariantsAlike.j0 k l1 l2 false a0_0 l0_1) else (eponymlaw19_VariantsAlike.j0 k l1 l2 true a0_0 l0_1))))))) = some r := by rw [if_pos rfl] at H; exact H
  clear H
  have H := H1
  clear H1
  have HC6 := Aside0.mk H
  clear H
  go_enter Tryd.func3, Tryd.ntmps3
  go_upto_region 3 with (first | ((with_reducible refine gate_dst (N := 3) rfl ?_); (try (refine gate_guard (by rfl) ?_; dsimp only)); refine box_event ?hg (N := 3) ?hd (cs := #[.string a0_0, .slice A0_1 l0_1.length c0_1]) (t := 24) ?hr ?_; (case hd => rfl); (case hg => rfl); (case hr => first | (go_simp; done) | (go_simp; rfl)); intro gb188 hg w7 hbox hb; have n0_ := Aside0.mk (below_step (by repeat (first | (with_reducible first | exact HB.out | apply below_alloc | apply pw_below_drewN | apply below_drew1) | exact HB.out)) hb); have n1_ := Aside0.mk (hbox); have n2_ := Aside0.mk ((by rw [hg]; exact (below_size (by repeat (first | (with_reducible first | exact HB.out | apply below_alloc | apply pw_below_drewN | apply below_drew1) | exact HB.out))) : w.heap.size ≤ gb188)); have n3_ := Aside0.mk ((by rw [hg]; exact (below_size (by repeat (first | (with_reducible first | exact HB.out | apply below_alloc | apply pw_below_drewN | apply below_drew1) | exact HB.out))) : w.heap.size ≤ gb188)); clear HB; have HB := n0_; have BK188 := n1_; have GW188 := n2_; have GE188 := n3_; clear n0_ n1_ n2_ n3_; clear hb hbox hg) | ((with_reducible refine gate_callee (f := 5) rfl ?_); refine goesL_ (some 11) rfl rfl Tryd.func5 (by kernel_rfl) rfl #[] rfl (by (try simp only [List.map_toArray, List.map_cons, List.map_nil]); first | done | rfl | (simp only [List.length_drop, List.length_take]; rfl)) ?_; (with_reducible refine (eponymlaw19_awake.calls k  true _ A4.out).mono ?_); rintro e w8 ⟨rfl, hb⟩; refine ⟨_, rfl, ?_⟩; have n0_ := Aside0.mk (blk_below (g := gb188) (o := .cells #[.string a0_0, .slice A0_1 l0_1.length c0_1] 24 (0, 0)) (by (with_reducible repeat (first | refine blk_drewN ?_ _ | refine blk_drew ?_ | refine blk_alloc ?_ _)); exact BK188.out) hb); have n1_ := Aside0.mk (below_step (by repeat (first | (with_reducible first | exact HB.out | apply below_alloc | apply pw_below_drewN | apply below_drew1 | refine below_set ?_ GE188.out) | exact HB.out)) hb); clear BK188; clear HB; have BK188 := n0_; have HB := n1_; clear n0_ n1_; (try clear hb); (try clear hb2); (try clear hk); (try clear hi)))
  (try simp only [Act.put, List.setIfInBounds_toArray, List.set_cons_zero, List.set_cons_succ])
  go_cut [29] (fun v29 wc => ∃ (kq : Nat) (x29_5 : Bool), v29 = .bool x29_5 ∧ Aside0 (eponymlaw19_VariantsAlike.j0 kq l1 l2 x29_5 a0_0 l0_1 = some r) ∧ Aside0 (kq ≤ k) ∧ Aside0 (wc.heap[gb188]? = some (.cells #[.string a0_0, (.slice A0_1 l0_1.length c0_1)] 24 (0, 0))) ∧ Aside0 (Below w.heap.size w wc))
  case first =>
   have H := HC6.out
   clear HC6
   replace H := Option.bind_eq_some_iff.mp H
   obtain ⟨t190, A90, H⟩ := H
   replace H : (if t190 = true then (eponymlaw19_VariantsAlike.j0 k l1 l2 true a0_0 l0_1) else (if (l1.length : Int) > 8 then (eponymlaw19_VariantsAlike.j0 k l1 l2 true a0_0 l0_1) else (if (l2.length : Int) > 8 then (eponymlaw19_VariantsAlike.j0 k l1 l2 true a0_0 l0_1) else ((variants_Check.f k a0_0 l0_1).bind fun t191 => (if t191.isNone = true then (eponymlaw19_VariantsAlike.j0 k l1 l2 false a0_0 l0_1) else (eponymlaw19_VariantsAlike.j0 k l1 l2 true a0_0 l0_1)))))) = some r := H
   have A9 := Aside0.mk A90
   clear A90
   by_cases c10 : t190 = true
   ·subst c10
    have H1 : (eponymlaw19_VariantsAlike.j0 k l1 l2 true a0_0 l0_1) = some r := by rw [if_pos rfl] at H; exact H
    clear H
    have H := H1
    clear H1
    have H' := Aside0.mk H
    clear H
    have hcz11_0 : w8.cell? ⟨gb188, 0, none⟩ = some (.string a0_0) := (blk_cell BK188.out 0).trans rfl
    have hcz11_1 : w8.cell? ⟨gb188, 1, none⟩ = some (.slice A0_1 l0_1.length c0_1) := (blk_cell BK188.out 1).trans rfl
    have hfz11_0 := blk_frozen BK188.out 0
    have hfz11_1 := blk_frozen BK188.out 1
    go_wp2_with (first | ((with_reducible refine gate_callee (f := 6) rfl ?_); refine goesL_ (some 14) rfl rfl Tryd.func6 (by kernel_rfl) rfl #[.agg #[.string a0_0, .slice A0_1 l0_1.length c0_1]] rfl (by (try simp only [List.map_toArray, List.map_cons, List.map_nil]); first | done | rfl | (simp only [List.length_drop, List.length_take]; rfl)) ?_; (with_reducible refine (eponymlaw19_Great.calls k a0_0 _ _ l0_1 true _ ?side1 ?side2 A9.out).mono ?_); (case side1 => repeat (first | exact (Kd.C_below HR0_1.out HB.out) | (with_reducible refine Kd.C_alloc ?_ _) | (with_reducible refine Kd.C_drewN ?_ _) | (with_reducible refine Kd.C_drew ?_))); (case side2 => exact HC0_1.out); rintro e w12 ⟨rfl, hb⟩; refine ⟨_, rfl, ?_⟩; have n0_ := Aside0.mk (blk_below (g := gb188) (o := .cells #[.string a0_0, .slice A0_1 l0_1.length c0_1] 24 (0, 0)) (by (with_reducible repeat (first | refine blk_drewN ?_ _ | refine blk_drew ?_ | refine blk_alloc ?_ _)); exact BK188.out) hb); have n1_ := Aside0.mk (below_step (by repeat (first | (with_reducible first | exact HB.out | apply below_alloc | apply pw_below_drewN | apply below_drew1 | refine below_set ?_ GE188.out) | exact HB.out)) hb); clear BK188; clear HB; have BK188 := n0_; have HB := n1_; clear n0_ n1_; (try clear hb); (try clear hb2); (try clear hk); (try clear hi)))
    go_meet
    case rel => exact ⟨_, (true), (by first | rfl | (simp; done) | (simp [*]; done)), H', ⟨by first | omega | exact Nat.le_refl _⟩, ⟨by (with_reducible repeat (first | refine blk_drewN ?_ _ | refine blk_drew ?_ | refine blk_alloc ?_ _)); exact BK188.out⟩, ⟨by repeat (first | (with_reducible first | exact HB.out | apply below_alloc | apply pw_below_drewN | apply below_drew1 | refine below_set ?_ GE188.out) | exact HB.out)⟩⟩
   ·replace c10 := Bool.eq_false_iff.mpr c10
    subst c10
    have H1 : (if (l1.length : Int) > 8 then (eponymlaw19_VariantsAlike.j0 k l1 l2 true a0_0 l0_1) else (if (l2.length : Int) > 8 then (eponymlaw19_VariantsAlike.j0 k l1 l2 true a0_0 l0_1) else ((variants_Check.f k a0_0 l0_1).bind fun t191 => (if t191.isNone = true then (eponymlaw19_VariantsAlike.j0 k l1 l2 false a0_0 l0_1) else (eponymlaw19_VariantsAlike.j0 k l1 l2 true a0_0 l0_1))))) = some r := by rw [if_neg (show ¬ (false = true) by decide)] at H; exact H
    clear H
    have H := H1
    clear H1
    by_cases c13 : (l1.length : Int) > 8
    ·rw [if_pos c13] at H
     have c13b0 : decide (8 < (l1.length : Int)) = true := decide_eq_true c13
     have c13b1 : decide (8 < l1.length) = true := decide_eq_true (by omega)
     clear c13
     (first | rw [c13b0] | (simp only [i64_w, i32_w]; rw [c13b0]) | skip)
     have H' := Aside0.mk H
     clear H
     have hcz14_0 : w8.cell? ⟨gb188, 0, none⟩ = some (.string a0_0) := (blk_cell BK188.out 0).trans rfl
     have hcz14_1 : w8.cell? ⟨gb188, 1, none⟩ = some (.slice A0_1 l0_1.length c0_1) := (blk_cell BK188.out 1).trans rfl
     have hfz14_0 := blk_frozen BK188.out 0
     have hfz14_1 := blk_frozen BK188.out 1
     go_wp2_with (first | ((with_reducible refine gate_callee (f := 6) rfl ?_); refine goesL_ (some 14) rfl rfl Tryd.func6 (by kernel_rfl) rfl #[.agg #[.string a0_0, .slice A0_1 l0_1.length c0_1]] rfl (by (try simp only [List.map_toArray, List.map_cons, List.map_nil]); first | done | rfl | (simp only [List.length_drop, List.length_take]; rfl)) ?_; (with_reducible refine (eponymlaw19_Great.calls k a0_0 _ _ l0_1 false _ ?side1 ?side2 A9.out).mono ?_); (case side1 => repeat (first | exact (Kd.C_below HR0_1.out HB.out) | (with_reducible refine Kd.C_alloc ?_ _) | (with_reducible refine Kd.C_drewN ?_ _) | (with_reducible refine Kd.C_drew ?_))); (case side2 => exact HC0_1.out); rintro e w15 ⟨rfl, hb⟩; refine ⟨_, rfl, ?_⟩; have n0_ := Aside0.mk (blk_below (g := gb188) (o := .cells #[.string a0_0, .slice A0_1 l0_1.length c0_1] 24 (0, 0)) (by (with_reducible repeat (first | refine blk_drewN ?_ _ | refine blk_drew ?_ | refine blk_alloc ?_ _)); exact BK188.out) hb); have n1_ := Aside0.mk (below_step (by repeat (first | (with_reducible first | exact HB.out | apply below_alloc | apply pw_below_drewN | apply below_drew1 | refine below_set ?_ GE188.out) | exact HB.out)) hb); clear BK188; clear HB; have BK188 := n0_; have HB := n1_; clear n0_ n1_; (try clear hb); (try clear hb2); (try clear hk); (try clear hi)))
     go_meet
     case rel => exact ⟨_, (true), (by first | rfl | (simp; done) | (simp [*]; done)), H', ⟨by first | omega | exact Nat.le_refl _⟩, ⟨by (with_reducible repeat (first | refine blk_drewN ?_ _ | refine blk_drew ?_ | refine blk_alloc ?_ _)); exact BK188.out⟩, ⟨by repeat (first | (with_reducible first | exact HB.out | apply below_alloc | apply pw_below_drewN | apply below_drew1 | refine below_set ?_ GE188.out) | exact HB.out)⟩⟩
    ·rw [if_neg c13] at H
     have c13b0 : decide (8 < (l1.length : Int)) = false := decide_eq_false c13
     have c13b1 : decide (8 < l1.length) = false := decide_eq_false (by omega)
     clear c13
     (first | rw [c13b0] | (simp only [i64_w, i32_w]; rw [c13b0]) | skip)
     by_cases c16 : (l2.length : Int) > 8
     ·rw [if_pos c16] at H
      have c16b0 : decide (8 < (l2.length : Int)) = true := decide_eq_true c16
      have c16b1 : decide (8 < l2.length) = true := decide_eq_true (by omega)
      clear c16
      have H' := Aside0.mk H
      clear H
      have hcz17_0 : w8.cell? ⟨gb188, 0, none⟩ = some (.string a0_0) := (blk_cell BK188.out 0).trans rfl
      have hcz17_1 : w8.cell? ⟨gb188, 1, none⟩ = some (.slice A0_1 l0_1.length c0_1) := (blk_cell BK188.out 1).trans rfl
      have hfz17_0 := blk_frozen BK188.out 0
      have hfz17_1 := blk_frozen BK188.out 1
      go_wp2_with (first | ((with_reducible refine gate_callee (f := 6) rfl ?_); refine goesL_ (some 14) rfl rfl Tryd.func6 (by kernel_rfl) rfl #[.agg #[.string a0_0, .slice A0_1 l0_1.length c0_1]] rfl (by (try simp only [List.map_toArray, List.map_cons, List.map_nil]); first | done | rfl | (simp only [List.length_drop, List.length_take]; rfl)) ?_; (with_reducible refine (eponymlaw19_Great.calls k a0_0 _ _ l0_1 false _ ?side1 ?side2 A9.out).mono ?_); (case side1 => repeat (first | exact (Kd.C_below HR0_1.out HB.out) | (with_reducible refine Kd.C_alloc ?_ _) | (with_reducible refine Kd.C_drewN ?_ _) | (with_reducible refine Kd.C_drew ?_))); (case side2 => exact HC0_1.out); rintro e w18 ⟨rfl, hb⟩; refine ⟨_, rfl, ?_⟩; have n0_ := Aside0.mk (blk_below (g := gb188) (o := .cells #[.string a0_0, .slice A0_1 l0_1.length c0_1] 24 (0, 0)) (by (with_reducible repeat (first | refine blk_drewN ?_ _ | refine blk_drew ?_ | refine blk_alloc ?_ _)); exact BK188.out) hb); have n1_ := Aside0.mk (below_step (by repeat (first | (with_reducible first | exact HB.out | apply below_alloc | apply pw_below_drewN | apply below_drew1 | refine below_set ?_ GE188.out) | exact HB.out)) hb); clear BK188; clear HB; have BK188 := n0_; have HB := n1_; clear n0_ n1_; (try clear hb); (try clear hb2); (try clear hk); (try clear hi)))
      go_meet
      case rel => exact ⟨_, (true), (by first | rfl | (simp; done) | (simp [*]; done)), H', ⟨by first | omega | exact Nat.le_refl _⟩, ⟨by (with_reducible repeat (first | refine blk_drewN ?_ _ | refine blk_drew ?_ | refine blk_alloc ?_ _)); exact BK188.out⟩, ⟨by repeat (first | (with_reducible first | exact HB.out | apply below_alloc | apply pw_below_drewN | apply below_drew1 | refine below_set ?_ GE188.out) | exact HB.out)⟩⟩
     ·rw [if_neg c16] at H
      have c16b0 : decide (8 < (l2.length : Int)) = false := decide_eq_false c16
      have c16b1 : decide (8 < l2.length) = false := decide_eq_false (by omega)
      clear c16
      replace H := Option.bind_eq_some_iff.mp H
      obtain ⟨t191, A190, H⟩ := H
      replace H : (if t191.isNone = true then (eponymlaw19_VariantsAlike.j0 k l1 l2 false a0_0 l0_1) else (eponymlaw19_VariantsAlike.j0 k l1 l2 true a0_0 l0_1)) = some r := H
      have A19 := Aside0.mk A190
      clear A190
      rcases t191 with _ | q192
      ·have H1 : (eponymlaw19_VariantsAlike.j0 k l1 l2 false a0_0 l0_1) = some r := by rw [if_pos (show (none : Option Int).isNone = true by rfl)] at H; exact H
       clear H
       have H := H1
       clear H1
       try simp only [errV_none, errV_some]
       have H' := Aside0.mk H
       clear H
       have hcz20_0 : w8.cell? ⟨gb188, 0, none⟩ = some (.string a0_0) := (blk_cell BK188.out 0).trans rfl
       have hcz20_1 : w8.cell? ⟨gb188, 1, none⟩ = some (.slice A0_1 l0_1.length c0_1) := (blk_cell BK188.out 1).trans rfl
       have hfz20_0 := blk_frozen BK188.out 0
       have hfz20_1 := blk_frozen BK188.out 1
       go_wp2_with (first | ((with_reducible refine gate_callee (f := 6) rfl ?_); refine goesL_ (some 14) rfl rfl Tryd.func6 (by kernel_rfl) rfl #[.agg #[.string a0_0, .slice A0_1 l0_1.length c0_1]] rfl (by (try simp only [List.map_toArray, List.map_cons, List.map_nil]); first | done | rfl | (simp only [List.length_drop, List.length_take]; rfl)) ?_; (with_reducible refine (eponymlaw19_Great.calls k a0_0 _ _ l0_1 false _ ?side1 ?side2 A9.out).mono ?_); (case side1 => repeat (first | exact (Kd.C_below HR0_1.out HB.out) | (with_reducible refine Kd.C_alloc ?_ _) | (with_reducible refine Kd.C_drewN ?_ _) | (with_reducible refine Kd.C_drew ?_))); (case side2 => exact HC0_1.out); rintro e w21 ⟨rfl, hb⟩; refine ⟨_, rfl, ?_⟩; have n0_ := Aside0.mk (blk_below (g := gb188) (o := .cells #[.string a0_0, .slice A0_1 l0_1.length c0_1] 24 (0, 0)) (by (with_reducible repeat (first | refine blk_drewN ?_ _ | refine blk_drew ?_ | refine blk_alloc ?_ _)); exact BK188.out) hb); have n1_ := Aside0.mk (below_step (by repeat (first | (with_reducible first | exact HB.out | apply below_alloc | apply pw_below_drewN | apply below_drew1 | refine below_set ?_ GE188.out) | exact HB.out)) hb); clear BK188; clear HB; have BK188 := n0_; have HB := n1_; clear n0_ n1_; (try clear hb); (try clear hb2); (try clear hk); (try clear hi); have hcz22_0 : w21.cell? ⟨gb188, 0, none⟩ = some (.string a0_0) := (blk_cell BK188.out 0).trans rfl; have hcz22_1 : w21.cell? ⟨gb188, 1, none⟩ = some (.slice A0_1 l0_1.length c0_1) := (blk_cell BK188.out 1).trans rfl; have hfz22_0 := blk_frozen BK188.out 0; have hfz22_1 := blk_frozen BK188.out 1) | (go_at_call 7; (with_reducible refine (variants_Check.calls sv k a0_0 _ _ l0_1 none _ (Laid.below HSV.out (by repeat (first | (with_reducible first | exact HB.out | apply below_alloc | apply pw_below_drewN | apply below_drew1) | exact HB.out))) ?side1 ?side2 A19.out).mono ?_); (case side1 => repeat (first | exact (Kd.C_below HR0_1.out HB.out) | (with_reducible refine Kd.C_alloc ?_ _) | (with_reducible refine Kd.C_drewN ?_ _) | (with_reducible refine Kd.C_drew ?_))); (case side2 => exact HC0_1.out); rintro e w23 ⟨rfl, hE_, hb⟩; have HEA := Aside0.mk hE_; clear hE_; have n0_ := Aside0.mk (blk_below (g := gb188) (o := .cells #[.string a0_0, .slice A0_1 l0_1.length c0_1] 24 (0, 0)) (by (with_reducible repeat (first | refine blk_drewN ?_ _ | refine blk_drew ?_ | refine blk_alloc ?_ _)); exact BK188.out) hb); have n1_ := Aside0.mk (below_step (by repeat (first | (with_reducible first | exact HB.out | apply below_alloc | apply pw_below_drewN | apply below_drew1 | refine below_set ?_ GE188.out) | exact HB.out)) hb); clear BK188; clear HB; have BK188 := n0_; have HB := n1_; clear n0_ n1_; (try clear hb); (try clear hb2); (try clear hk); (try clear hi); (try simp only [errV_none, errV_some])))
       go_meet
       case rel => exact ⟨_, (false), (by first | rfl | (simp; done) | (simp [*]; done)), H', ⟨by first | omega | exact Nat.le_refl _⟩, ⟨by (with_reducible repeat (first | refine blk_drewN ?_ _ | refine blk_drew ?_ | refine blk_alloc ?_ _)); exact BK188.out⟩, ⟨by repeat (first | (with_reducible first | exact HB.out | apply below_alloc | apply pw_below_drewN | apply below_drew1 | refine below_set ?_ GE188.out) | exact HB.out)⟩⟩
      ·have H1 : (eponymlaw19_VariantsAlike.j0 k l1 l2 true a0_0 l0_1) = some r := by rw [if_neg (show ¬ (some q192).isNone = true by simp)] at H; exact H
       clear H
       have H := H1
       clear H1
       try simp only [errV_none, errV_some]
       have H' := Aside0.mk H
       clear H
       have hcz24_0 : w8.cell? ⟨gb188, 0, none⟩ = some (.string a0_0) := (blk_cell BK188.out 0).trans rfl
       have hcz24_1 : w8.cell? ⟨gb188, 1, none⟩ = some (.slice A0_1 l0_1.length c0_1) := (blk_cell BK188.out 1).trans rfl
       have hfz24_0 := blk_frozen BK188.out 0
       have hfz24_1 := blk_frozen BK188.out 1
       go_wp2_with (first | ((with_reducible refine gate_callee (f := 6) rfl ?_); refine goesL_ (some 14) rfl rfl Tryd.func6 (by kernel_rfl) rfl #[.agg #[.string a0_0, .slice A0_1 l0_1.length c0_1]] rfl (by (try simp only [List.map_toArray, List.map_cons, List.map_nil]); first | done | rfl | (simp only [List.length_drop, List.length_take]; rfl)) ?_; (with_reducible refine (eponymlaw19_Great.calls k a0_0 _ _ l0_1 false _ ?side1 ?side2 A9.out).mono ?_); (case side1 => repeat (first | exact (Kd.C_below HR0_1.out HB.out) | (with_reducible refine Kd.C_alloc ?_ _) | (with_reducible refine Kd.C_drewN ?_ _) | (with_reducible refine Kd.C_drew ?_))); (case side2 => exact HC0_1.out); rintro e w25 ⟨rfl, hb⟩; refine ⟨_, rfl, ?_⟩; have n0_ := Aside0.mk (blk_below (g := gb188) (o := .cells #[.string a0_0, .slice A0_1 l0_1.length c0_1] 24 (0, 0)) (by (with_reducible repeat (first | refine blk_drewN ?_ _ | refine blk_drew ?_ | refine blk_alloc ?_ _)); exact BK188.out) hb); have n1_ := Aside0.mk (below_step (by repeat (first | (with_reducible first | exact HB.out | apply below_alloc | apply pw_below_drewN | apply below_drew1 | refine below_set ?_ GE188.out) | exact HB.out)) hb); clear BK188; clear HB; have BK188 := n0_; have HB := n1_; clear n0_ n1_; (try clear hb); (try clear hb2); (try clear hk); (try clear hi); have hcz26_0 : w25.cell? ⟨gb188, 0, none⟩ = some (.string a0_0) := (blk_cell BK188.out 0).trans rfl; have hcz26_1 : w25.cell? ⟨gb188, 1, none⟩ = some (.slice A0_1 l0_1.length c0_1) := (blk_cell BK188.out 1).trans rfl; have hfz26_0 := blk_frozen BK188.out 0; have hfz26_1 := blk_frozen BK188.out 1) | (go_at_call 7; (with_reducible refine (variants_Check.calls sv k a0_0 _ _ l0_1 (some q192) _ (Laid.below HSV.out (by repeat (first | (with_reducible first | exact HB.out | apply below_alloc | apply pw_below_drewN | apply below_drew1) | exact HB.out))) ?side1 ?side2 A19.out).mono ?_); (case side1 => repeat (first | exact (Kd.C_below HR0_1.out HB.out) | (with_reducible refine Kd.C_alloc ?_ _) | (with_reducible refine Kd.C_drewN ?_ _) | (with_reducible refine Kd.C_drew ?_))); (case side2 => exact HC0_1.out); rintro e w27 ⟨rfl, hE_, hb⟩; have HEA := Aside0.mk hE_; clear hE_; have n0_ := Aside0.mk (blk_below (g := gb188) (o := .cells #[.string a0_0, .slice A0_1 l0_1.length c0_1] 24 (0, 0)) (by (with_reducible repeat (first | refine blk_drewN ?_ _ | refine blk_drew ?_ | refine blk_alloc ?_ _)); exact BK188.out) hb); have n1_ := Aside0.mk (below_step (by repeat (first | (with_reducible first | exact HB.out | apply below_alloc | apply pw_below_drewN | apply below_drew1 | refine below_set ?_ GE188.out) | exact HB.out)) hb); clear BK188; clear HB; have BK188 := n0_; have HB := n1_; clear n0_ n1_; (try clear hb); (try clear hb2); (try clear hk); (try clear hi); (try simp only [errV_none, errV_some])))
       go_meet
       case rel => exact ⟨_, (true), (by first | rfl | (simp; done) | (simp [*]; done)), H', ⟨by first | omega | exact Nat.le_refl _⟩, ⟨by (with_reducible repeat (first | refine blk_drewN ?_ _ | refine blk_drew ?_ | refine blk_alloc ?_ _)); exact BK188.out⟩, ⟨by repeat (first | (with_reducible first | exact HB.out | apply below_alloc | apply pw_below_drewN | apply below_drew1 | refine below_set ?_ GE188.out) | exact HB.out)⟩⟩
  case rest =>
   clear HC6
   try clear c1
   try clear q1
   try clear c2
   try clear p2
   try clear c3
   try clear c5
   try clear c6
   try clear c10
   try clear c13
   try clear c13b0
   try clear c13b1
   try clear c16
   try clear c16b0
   try clear c16b1
   try clear q19
   try clear hcz11_0
   try clear hcz11_1
   try clear hcz14_0
   try clear hcz14_1
   try clear hcz17_0
   try clear hcz17_1
   try clear hcz20_0
   try clear hcz20_1
   try clear hcz22_0
   try clear hcz22_1
   try clear hcz24_0
   try clear hcz24_1
   try clear hcz26_0
   try clear hcz26_1
   try clear hfz11_0
   try clear hfz11_1
   try clear hfz14_0
   try clear hfz14_1
   try clear hfz17_0
   try clear hfz17_1
   try clear hfz20_0
   try clear hfz20_1
   try clear hfz22_0
   try clear hfz22_1
   try clear hfz24_0
   try clear hfz24_1
   try clear hfz26_0
   try clear hfz26_1
   try clear q192
   obtain ⟨kq, x29_5, rfl, HA, HJ5, BK188, HB⟩ := hcut
   cases kq with
   | zero => exact absurd HA.out (by simp [eponymlaw19_VariantsAlike.j0])
   | succ kj5 =>
    have H := HA.out
    clear HA
    simp only [eponymlaw19_VariantsAlike.j0] at H
    by_cases c28 : x29_5 = true
    ·subst c28
     have H1 : (some true) = some r := by rw [if_pos rfl] at H; exact H
     clear H
     have H := H1
     clear H1
     obtain rfl := Option.some.inj H
     go_wp2
     go_ret
     exact ⟨by first | rfl | (simp [errV_none, errV_some] <;> rfl) | (simp [*, errV_none, errV_some] <;> rfl), by repeat (first | (with_reducible first | exact HB.out | apply below_alloc | apply pw_below_drewN | apply below_drew1 | refine below_set ?_ GE188.out) | exact HB.out)⟩
    ·replace c28 := Bool.eq_false_iff.mpr c28
     subst c28
     have H1 : ((variants_All.f kj5 a0_0 l0_1 l1 50).bind fun t193 => (eponymlaw19_VariantsAlike.l0 kj5 l1 l2 t193 false 0 a0_0 l0_1)) = some r := by rw [if_neg (show ¬ (false = true) by decide)] at H; exact H
     clear H
     have H := H1
     clear H1
     replace H := Option.bind_eq_some_iff.mp H
     obtain ⟨t193, A290, H⟩ := H
     replace H : (eponymlaw19_VariantsAlike.l0 kj5 l1 l2 t193 false 0 a0_0 l0_1) = some r := H
     have A29 := Aside0.mk A290
     clear A290
     have H' := Aside0.mk H
     clear H
     have hcz30_0 : wc.cell? ⟨gb188, 0, none⟩ = some (.string a0_0) := (blk_cell BK188.out 0).trans rfl
     have hcz30_1 : wc.cell? ⟨gb188, 1, none⟩ = some (.slice A0_1 l0_1.length c0_1) := (blk_cell BK188.out 1).trans rfl
     have hfz30_0 := blk_frozen BK188.out 0
     have hfz30_1 := blk_frozen BK188.out 1
     go_wp2_with (first | ((with_reducible refine gate_callee (f := 8) rfl ?_); refine goesL_ (some 32) rfl rfl Tryd.func8 (by kernel_rfl) rfl #[.agg #[.string a0_0, .slice A0_1 l0_1.length c0_1], .slice A1 l1.length c1, .int .i64 50] rfl (by (try simp only [List.map_toArray, List.map_cons, List.map_nil]); first | done | rfl | (simp only [List.length_drop, List.length_take]; rfl)) ?_; (with_reducible refine (variants_All.calls kj5 a0_0 _ _ l0_1 _ _ l1 50 t193 _ ?side1 ?side2 ?side3 ?side4 A29.out).mono ?_); (case side1 => repeat (first | exact (Kd.C_below HR0_1.out HB.out) | (with_reducible refine Kd.C_alloc ?_ _) | (with_reducible refine Kd.C_drewN ?_ _) | (with_reducible refine Kd.C_drew ?_))); (case side2 => exact HC0_1.out); (case side3 => repeat (first | exact (Kd.C_below HR1.out HB.out) | (with_reducible refine Kd.C_alloc ?_ _) | (with_reducible refine Kd.C_drewN ?_ _) | (with_reducible refine Kd.C_drew ?_))); (case side4 => exact HC1.out); rintro e w31 ⟨v194, rfl, ho0, hb⟩; refine ⟨_, rfl, ?_⟩; have n0_ := Aside0.mk (Kd.S_lower ho0 (below_size (by repeat (first | (with_reducible first | exact HB.out | apply below_alloc | apply pw_below_drewN | apply below_drew1 | refine below_set ?_ GE188.out) | exact HB.out)))); have n1_ := Aside0.mk (blk_below (g := gb188) (o := .cells #[.string a0_0, .slice A0_1 l0_1.length c0_1] 24 (0, 0)) (by (with_reducible repeat (first | refine blk_drewN ?_ _ | refine blk_drew ?_ | refine blk_alloc ?_ _)); exact BK188.out) hb); have n2_ := Aside0.mk (below_step (by repeat (first | (with_reducible first | exact HB.out | apply below_alloc | apply pw_below_drewN | apply below_drew1 | refine below_set ?_ GE188.out) | exact HB.out)) hb); clear BK188; clear HB; have HO195 := n0_; have BK188 := n1_; have HB := n2_; clear n0_ n1_ n2_; (try clear hb); (try clear hb2); (try clear hk); (try clear hi); (try clear ho0)))
     go_loopg [8, 9] kj5 (fun kq v8 v9 w' => ∃ (x8_2 : Bool) (x9_2 : Int), v8 = .bool x8_2 ∧ v9 = .int .i64 x9_2 ∧ Aside0 (eponymlaw19_VariantsAlike.l0 kq l1 l2 t193 x8_2 x9_2 a0_0 l0_1 = some r) ∧ Aside0 (kq ≤ kj5) ∧ Aside0 (Kd.S (Kd.slice 21 (Kd.int .i32)) 25 w' w.heap.size (fun _ => True) v194 t193) ∧ Aside0 (w'.heap[gb188]? = some (.cells #[.string a0_0, (.slice A0_1 l0_1.length c0_1)] 24 (0, 0))) ∧ Aside0 (Below w.heap.size w w'))
     case atStart => exact ⟨(false), (0), (by first | rfl | (simp; done) | (simp [*]; done)), (by first | rfl | (simp; done) | (simp [*]; done)), H', ⟨Nat.le_refl _⟩, ⟨by (with_reducible repeat (first | apply Kd.S_alloc | apply Kd.S_drewN | apply Kd.S_drew)); exact HO195.out⟩, ⟨by (with_reducible repeat (first | refine blk_drewN ?_ _ | refine blk_drew ?_ | refine blk_alloc ?_ _)); exact BK188.out⟩, ⟨by repeat (first | (with_reducible first | exact HB.out | apply below_alloc | apply pw_below_drewN | apply below_drew1 | refine below_set ?_ GE188.out) | exact HB.out)⟩⟩
     case round =>
      clear H'
      try clear c1
      try clear q1
      try clear c2
      try clear p2
      try clear c3
      try clear c5
      try clear c6
      try clear c8
      try clear c10
      try clear c13
      try clear c13b0
      try clear c13b1
      try clear c16
      try clear c16b0
      try clear c16b1
      try clear q19
      try clear c28
      try clear hcz11_0
      try clear hcz11_1
      try clear hcz14_0
      try clear hcz14_1
      try clear hcz17_0
      try clear hcz17_1
      try clear hcz20_0
      try clear hcz20_1
      try clear hcz22_0
      try clear hcz22_1
      try clear hcz24_0
      try clear hcz24_1
      try clear hcz26_0
      try clear hcz26_1
      try clear hcz30_0
      try clear hcz30_1
      try clear hfz11_0
      try clear hfz11_1
      try clear hfz14_0
      try clear hfz14_1
      try clear hfz17_0
      try clear hfz17_1
      try clear hfz20_0
      try clear hfz20_1
      try clear hfz22_0
      try clear hfz22_1
      try clear hfz24_0
      try clear hfz24_1
      try clear hfz26_0
      try clear hfz26_1
      try clear hfz30_0
      try clear hfz30_1
      try clear p2
      try clear q1
      try clear q19
      try clear q192
      obtain ⟨x8_2, x9_2, rfl, rfl, HA, HK2, HO_7, BK188, HB⟩ := hrel
      cases gk with
      | zero => exact absurd HA.out (by simp [eponymlaw19_VariantsAlike.l0])
      | succ k2 =>
       have H := HA.out
       clear HA
       simp only [eponymlaw19_VariantsAlike.l0] at H
       by_cases c32 : x9_2 < (t193.length : Int)
       ·rw [if_pos c32] at H
        have c32b0 : decide (x9_2 < (t193.length : Int)) = true := decide_eq_true c32
        clear c32
        have HC33 := Aside0.mk H
        clear H
        obtain ⟨Ao34, co34, eo34⟩ := Kd.S_slice HO_7.out
        subst eo34
        go_upto_region 10 with (fail)
        go_cut [73] (fun v73 wc => ∃ (kq : Nat) (x73_32 : Bool), v73 = .bool x73_32 ∧ Aside0 (eponymlaw19_VariantsAlike.j2 kq l1 l2 t193 x8_2 x9_2 x73_32 a0_0 l0_1 = some r) ∧ Aside0 (kq ≤ k2) ∧ Aside0 (Kd.S (Kd.slice 21 (Kd.int .i32)) 25 wc w.heap.size (fun _ => True) (.slice Ao34 t193.length co34) t193) ∧ Aside0 (wc.heap[gb188]? = some (.cells #[.string a0_0, (.slice A0_1 l0_1.length c0_1)] 24 (0, 0))) ∧ Aside0 (Below w.heap.size w wc))
        case first =>
         have H := HC33.out
         clear HC33
         by_cases c35 : 0 ≤ x9_2
         ·rw [if_pos c35] at H
          have c35b0 : decide (0 ≤ x9_2) = true := decide_eq_true c35
          clear c35
          (first | rw [c35b0] | (simp only [i64_w, i32_w]; rw [c35b0]) | skip)
          replace H := Option.bind_eq_some_iff.mp H
          obtain ⟨t199, A360, H⟩ := H
          replace H : (if t199 = true then ((variants_Count.f k2 a0_0 l0_1 (rd_L1 t193 x9_2)).bind fun t201 => ((variants_Count.f k2 a0_0 l0_1 l1).bind fun t202 => (if t201 = t202 then (if x9_2 = 0 then ((variants_Key.f k2 a0_0 l0_1 l1).bind fun t204 => ((eponymlaw01_Same.f k2 (rd_L1 t193 x9_2) t204).bind fun t207 => (eponymlaw19_VariantsAlike.j2 k2 l1 l2 t193 x8_2 x9_2 (!t207) a0_0 l0_1))) else (eponymlaw19_VariantsAlike.j2 k2 l1 l2 t193 x8_2 x9_2 false a0_0 l0_1)) else (eponymlaw19_VariantsAlike.j2 k2 l1 l2 t193 x8_2 x9_2 true a0_0 l0_1)))) else (eponymlaw19_VariantsAlike.j2 k2 l1 l2 t193 x8_2 x9_2 true a0_0 l0_1)) = some r := H
          have A36 := Aside0.mk A360
          clear A360
          by_cases c37 : t199 = true
          ·subst c37
           have H1 : ((variants_Count.f k2 a0_0 l0_1 (rd_L1 t193 x9_2)).bind fun t201 => ((variants_Count.f k2 a0_0 l0_1 l1).bind fun t202 => (if t201 = t202 then (if x9_2 = 0 then ((variants_Key.f k2 a0_0 l0_1 l1).bind fun t204 => ((eponymlaw01_Same.f k2 (rd_L1 t193 x9_2) t204).bind fun t207 => (eponymlaw19_VariantsAlike.j2 k2 l1 l2 t193 x8_2 x9_2 (!t207) a0_0 l0_1))) else (eponymlaw19_VariantsAlike.j2 k2 l1 l2 t193 x8_2 x9_2 false a0_0 l0_1)) else (eponymlaw19_VariantsAlike.j2 k2 l1 l2 t193 x8_2 x9_2 true a0_0 l0_1)))) = some r := by rw [if_pos rfl] at H; exact H
           clear H
           have H := H1
           clear H1
           replace H := Option.bind_eq_some_iff.mp H
           obtain ⟨t201, A380, H⟩ := H
           replace H : ((variants_Count.f k2 a0_0 l0_1 l1).bind fun t202 => (if t201 = t202 then (if x9_2 = 0 then ((variants_Key.f k2 a0_0 l0_1 l1).bind fun t204 => ((eponymlaw01_Same.f k2 (rd_L1 t193 x9_2) t204).bind fun t207 => (eponymlaw19_VariantsAlike.j2 k2 l1 l2 t193 x8_2 x9_2 (!t207) a0_0 l0_1))) else (eponymlaw19_VariantsAlike.j2 k2 l1 l2 t193 x8_2 x9_2 false a0_0 l0_1)) else (eponymlaw19_VariantsAlike.j2 k2 l1 l2 t193 x8_2 x9_2 true a0_0 l0_1))) = some r := H
           have A38 := Aside0.mk A380
           clear A380
           replace H := Option.bind_eq_some_iff.mp H
           obtain ⟨t202, A390, H⟩ := H
           replace H : (if t201 = t202 then (if x9_2 = 0 then ((variants_Key.f k2 a0_0 l0_1 l1).bind fun t204 => ((eponymlaw01_Same.f k2 (rd_L1 t193 x9_2) t204).bind fun t207 => (eponymlaw19_VariantsAlike.j2 k2 l1 l2 t193 x8_2 x9_2 (!t207) a0_0 l0_1))) else (eponymlaw19_VariantsAlike.j2 k2 l1 l2 t193 x8_2 x9_2 false a0_0 l0_1)) else (eponymlaw19_VariantsAlike.j2 k2 l1 l2 t193 x8_2 x9_2 true a0_0 l0_1)) = some r := H
           have A39 := Aside0.mk A390
           clear A390
           by_cases c40 : t201 = t202
           ·rw [if_pos c40] at H
            have c40b0 : (t201 == t202) = true := beq_iff_eq.mpr c40
            have c40b1 : (t201 != t202) = false := bne_eq_false_iff_eq.mpr c40
            clear c40
            by_cases c41 : x9_2 = 0
            ·rw [if_pos c41] at H
             have c41b0 : (x9_2 == 0) = true := beq_iff_eq.mpr c41
             have c41b1 : (x9_2 != 0) = false := bne_eq_false_iff_eq.mpr c41
             clear c41
             replace H := Option.bind_eq_some_iff.mp H
             obtain ⟨t204, A420, H⟩ := H
             replace H : ((eponymlaw01_Same.f k2 (rd_L1 t193 x9_2) t204).bind fun t207 => (eponymlaw19_VariantsAlike.j2 k2 l1 l2 t193 x8_2 x9_2 (!t207) a0_0 l0_1)) = some r := H
             have A42 := Aside0.mk A420
             clear A420
             replace H := Option.bind_eq_some_iff.mp H
             obtain ⟨t207, A430, H⟩ := H
             replace H : (eponymlaw19_VariantsAlike.j2 k2 l1 l2 t193 x8_2 x9_2 (!t207) a0_0 l0_1) = some r := H
             have A43 := Aside0.mk A430
             clear A430
             have H' := Aside0.mk H
             clear H
             try go_wp2
             have n0_ := Aside0.mk (Kd.S_drew HO_7.out)
             have n1_ := Aside0.mk (blk_drew BK188.out)
             have n2_ := Aside0.mk (below_drew1 HB.out)
             clear HO_7
             clear BK188
             clear HB
             have HO_7 := n0_
             have BK188 := n1_
             have HB := n2_
             clear n0_ n1_ n2_
             have p198 : 0 ≤ (x9_2 : Int) := of_decide_eq_true (by first | (with_reducible assumption) | assumption)
             have q198 : x9_2 < (t193.length : Int) := of_decide_eq_true (by first | (with_reducible assumption) | assumption)
             obtain ⟨ad198, A198_0, c198_0, e198, hx198_0, hl198_0, hi198_0⟩ := at_L1 (Kd.S_reads' HO_7.out).2.2 x9_2 p198 q198
             cases e198
             obtain ⟨ce198, hce198, hMe198, hcc198⟩ := Kd.S_get HO_7.out [] x9_2 p198 (by first | exact q198 | exact of_decide_eq_true (by first | (with_reducible assumption) | assumption) | (have e_ := (Kd.S_reads' HO_7.out).1; omega))
             obtain ⟨ve198_0, rfl, ge198_0⟩ := hMe198
             have hv198_0 := hcc198 0 _ rfl
             rw [Nat.add_zero, show ((Kd.slice 21 (Kd.int .i32))).sz = 1 from rfl, Nat.mul_one] at hv198_0
             replace hv198_0 := Option.some.inj (hv198_0.symm.trans hx198_0)
             rw [hv198_0] at ge198_0
             have HL198_0 := Aside0.mk (show Kd.R (Kd.int .i32) 21 _ _ _ _ (rd_L1 t193 x9_2) from ge198_0)
             clear hv198_0 ge198_0
             clear hcc198 hce198
             have HR198_0 := Aside0.mk hi198_0
             have HC198_0 := Aside0.mk hl198_0
             clear hi198_0 hl198_0
             replace p198 := eq_true p198
             replace q198 := eq_true q198
             have p200 : 0 ≤ (x9_2 : Int) := of_decide_eq_true (by first | (with_reducible assumption) | assumption)
             have q200 : x9_2 < (t193.length : Int) := of_decide_eq_true (by first | (with_reducible assumption) | assumption)
             obtain ⟨ad200, A200_0, c200_0, e200, hx200_0, hl200_0, hi200_0⟩ := at_L1 (Kd.S_reads' HO_7.out).2.2 x9_2 p200 q200
             obtain rfl : ad198 = ad200 := (by injection e200)
             obtain ⟨rfl, rfl⟩ : A198_0 = A200_0 ∧ c198_0 = c200_0 := by (have h_ := Option.some.inj (hx198_0.symm.trans hx200_0); injection h_ with h1_ h2_ h3_; exact ⟨h1_, h3_⟩)
             obtain ⟨ce200, hce200, hMe200, hcc200⟩ := Kd.S_get HO_7.out [] x9_2 p200 (by first | exact q200 | exact of_decide_eq_true (by first | (with_reducible assumption) | assumption) | (have e_ := (Kd.S_reads' HO_7.out).1; omega))
             obtain ⟨ve200_0, rfl, ge200_0⟩ := hMe200
             have hv200_0 := hcc200 0 _ rfl
             rw [Nat.add_zero, show ((Kd.slice 21 (Kd.int .i32))).sz = 1 from rfl, Nat.mul_one] at hv200_0
             replace hv200_0 := Option.some.inj (hv200_0.symm.trans hx200_0)
             rw [hv200_0] at ge200_0
             clear hv200_0 ge200_0
             clear hcc200 hce200
             clear hi200_0 hl200_0
             replace p200 := eq_true p200
             replace q200 := eq_true q200
             have p203 : 0 ≤ (x9_2 : Int) := of_decide_eq_true (by first | (with_reducible assumption) | assumption)
             have q203 : x9_2 < (t193.length : Int) := of_decide_eq_true (by first | (with_reducible assumption) | assumption)
             obtain ⟨ad203, A203_0, c203_0, e203, hx203_0, hl203_0, hi203_0⟩ := at_L1 (Kd.S_reads' HO_7.out).2.2 x9_2 p203 q203
             obtain rfl : ad198 = ad203 := (by injection e203)
             obtain ⟨rfl, rfl⟩ : A198_0 = A203_0 ∧ c198_0 = c203_0 := by (have h_ := Option.some.inj (hx198_0.symm.trans hx203_0); injection h_ with h1_ h2_ h3_; exact ⟨h1_, h3_⟩)
             obtain ⟨ce203, hce203, hMe203, hcc203⟩ := Kd.S_get HO_7.out [] x9_2 p203 (by first | exact q203 | exact of_decide_eq_true (by first | (with_reducible assumption) | assumption) | (have e_ := (Kd.S_reads' HO_7.out).1; omega))
             obtain ⟨ve203_0, rfl, ge203_0⟩ := hMe203
             have hv203_0 := hcc203 0 _ rfl
             rw [Nat.add_zero, show ((Kd.slice 21 (Kd.int .i32))).sz = 1 from rfl, Nat.mul_one] at hv203_0
             replace hv203_0 := Option.some.inj (hv203_0.symm.trans hx203_0)
             rw [hv203_0] at ge203_0
             clear hv203_0 ge203_0
             clear hcc203 hce203
             clear hi203_0 hl203_0
             replace p203 := eq_true p203
             replace q203 := eq_true q203
             refine start_ (n := 35) (S := fun w' => w'.cell? ⟨gb188, 0, none⟩ = some (.string a0_0) ∧ w'.cell? ⟨gb188, 1, none⟩ = some (.slice A0_1 l0_1.length c0_1) ∧ w'.cell? (ad198.add (x9_2).toNat) = some (.slice A198_0 (rd_L1 t193 x9_2).length c198_0) ∧ w'.cell? (ad198.add (x9_2).toNat) = some (.slice A198_0 (rd_L1 t193 x9_2).length c198_0) ∧ w'.cell? (ad198.add (x9_2).toNat) = some (.slice A198_0 (rd_L1 t193 x9_2).length c198_0)) (ds := []) (bv 35 0) (by kernel_rfl) rfl rfl ⟨(blk_cell BK188.out 0).trans rfl, (blk_cell BK188.out 1).trans rfl, hx198_0, hx200_0, hx203_0⟩ (fun hHeld => ?_); refine with_tabW eponymlaw19_VariantsAlike.tab10 eponymlaw19_VariantsAlike.bits10 (fun HT_ HW_ => ?_)
             generalize wr.drew = w44 at HO_7 BK188 HB HL198_0 HR198_0 hx198_0 hx200_0 hx203_0 hHeld ⊢
             refine pureB HT_ 1 40 35 2 ?_
             refine pureB HT_ 2 41 35 6 ?_
             refine pureB HT_ 3 42 35 14 ?_
             refine pureB HT_ 5 44 35 46 ?_
             refine takeB5 HT_ HW_ 0 39 35 47 hHeld ?_
             refine takeB5 HT_ HW_ 4 43 35 63 hHeld ?_
             refine one_ (i := 6) (N := some 45) (bv 35 127) rfl rfl (one_of HT_.out (by kernel_rfl)) (by decide) (fun K hK => ?_)
             refine goes_ Tryd.func9 (by kernel_rfl) rfl #[.agg #[.string a0_0, .slice A0_1 l0_1.length c0_1], .slice A198_0 (rd_L1 t193 x9_2).length c198_0, .slice A1 l1.length c1] (by rfl) rfl rfl (by (try simp only [List.map_toArray, List.map_cons, List.map_nil]); first | done | rfl | (simp only [List.length_drop, List.length_take]; rfl)) ?_
             with_reducible refine (variants_Same.calls k2 a0_0 _ _ l0_1 _ _ (rd_L1 t193 x9_2) _ _ l1 true _ ?side1 ?side2 ?side3 ?side4 ?side5 ?side6 A36.out).mono ?_
             (case side1 => repeat (first | exact (Kd.C_below HR0_1.out HB.out) | (with_reducible refine Kd.C_alloc ?_ _) | (with_reducible refine Kd.C_drewN ?_ _) | (with_reducible refine Kd.C_drew ?_)))
             (case side2 => exact HC0_1.out)
             (case side3 => repeat (first | exact (by repeat (first | (with_reducible exact HR198_0.out) | (with_reducible refine Kd.C_alloc ?_ _) | (with_reducible refine Kd.C_drewN ?_ _) | (with_reducible refine Kd.C_drew ?_) | exact HR198_0.out)) | (with_reducible refine Kd.C_alloc ?_ _) | (with_reducible refine Kd.C_drewN ?_ _) | (with_reducible refine Kd.C_drew ?_)))
             (case side4 => exact HC198_0.out)
             (case side5 => repeat (first | exact (Kd.C_below HR1.out HB.out) | (with_reducible refine Kd.C_alloc ?_ _) | (with_reducible refine Kd.C_drewN ?_ _) | (with_reducible refine Kd.C_drew ?_)))
             (case side6 => exact HC1.out)
             rintro e w45 ⟨rfl, hb⟩
             have HS2_ := (hb.cell (World.block_lt_of_cell? _ _ (hHeld.2.2.1))).trans (hHeld.2.2.1)
             have HS3_ := (hb.cell (World.block_lt_of_cell? _ _ (hHeld.2.2.2.1))).trans (hHeld.2.2.2.1)
             have HS4_ := (hb.cell (World.block_lt_of_cell? _ _ (hHeld.2.2.2.2))).trans (hHeld.2.2.2.2)
             refine ⟨_, rfl, ?_⟩
             have n0_ := Aside0.mk (Kd.S_below (by (with_reducible repeat (first | apply Kd.S_alloc | apply Kd.S_drewN | apply Kd.S_drew)); exact HO_7.out) hb)
             have n1_ := Aside0.mk (Kd.R_below (by (with_reducible repeat (first | apply Kd.R_alloc | apply Kd.R_drewN | apply Kd.R_drew)); exact HL198_0.out) hb)
             have n2_ := Aside0.mk (blk_below (g := gb188) (o := .cells #[.string a0_0, .slice A0_1 l0_1.length c0_1] 24 (0, 0)) (by (with_reducible repeat (first | refine blk_drewN ?_ _ | refine blk_drew ?_ | refine blk_alloc ?_ _)); exact BK188.out) hb)
             have n3_ := Aside0.mk (Kd.C_below (by repeat (first | (with_reducible exact HR198_0.out) | (with_reducible refine Kd.C_alloc ?_ _) | (with_reducible refine Kd.C_drewN ?_ _) | (with_reducible refine Kd.C_drew ?_) | exact HR198_0.out)) hb)
             have n4_ := Aside0.mk (below_step (by repeat (first | (with_reducible first | exact HB.out | apply below_alloc | apply pw_below_drewN | apply below_drew1 | refine below_set ?_ GE188.out) | exact HB.out)) hb)
             clear HO_7
             clear HL198_0
             clear BK188
             clear HR198_0
             clear HB
             have HO_7 := n0_
             have HL198_0 := n1_
             have BK188 := n2_
             have HR198_0 := n3_
             have HB := n4_
             clear n0_ n1_ n2_ n3_ n4_
             (try clear hb)
             (try clear hb2)
             (try clear hk)
             (try clear hi)
             refine hK.out _ _ ⟨(blk_cell BK188.out 0).trans rfl, (blk_cell BK188.out 1).trans rfl, HS2_, HS3_, HS4_⟩ (fun hHeld => ?_)
             clear hK K
             refine norm_ (a' := ?_) ?_ ?_
             rotate_left
             ·show Act.put _ (some 45) _ = _
              simp only [Act.put, List.setIfInBounds_toArray, List.set_cons_zero, List.set_cons_succ, i64_w, i32_w]
              rfl
             refine pureB HT_ 7 46 35 255 ?_
             refine pureB HT_ 8 47 35 511 ?_
             refine pureB HT_ 10 49 35 1535 ?_
             refine pureB HT_ 11 50 35 3583 ?_
             refine pureB HT_ 12 51 35 7679 ?_
             refine pureB HT_ 16 55 35 73215 ?_
             refine takeB5 HT_ HW_ 9 48 35 73727 hHeld ?_
             refine takeB5 HT_ HW_ 13 52 35 81919 hHeld ?_
             refine takeB5 HT_ HW_ 15 54 35 114687 hHeld ?_
             refine one_ (i := 14) (N := some 53) (bv 35 131071) rfl rfl (one_of HT_.out (by kernel_rfl)) (by decide) (fun K hK => ?_)
             refine goes_ Tryd.func10 (by kernel_rfl) rfl #[.agg #[.string a0_0, .slice A0_1 l0_1.length c0_1], .slice A198_0 (rd_L1 t193 x9_2).length c198_0] (by rfl) rfl rfl (by (try simp only [List.map_toArray, List.map_cons, List.map_nil]); first | done | rfl | (simp only [List.length_drop, List.length_take]; rfl)) ?_
             with_reducible refine (variants_Count.calls k2 a0_0 _ _ l0_1 _ _ (rd_L1 t193 x9_2) t201 _ ?side1 ?side2 ?side3 ?side4 A38.out).mono ?_
             (case side1 => repeat (first | exact (Kd.C_below HR0_1.out HB.out) | (with_reducible refine Kd.C_alloc ?_ _) | (with_reducible refine Kd.C_drewN ?_ _) | (with_reducible refine Kd.C_drew ?_)))
             (case side2 => exact HC0_1.out)
             (case side3 => repeat (first | exact (by repeat (first | (with_reducible exact HR198_0.out) | (with_reducible refine Kd.C_alloc ?_ _) | (with_reducible refine Kd.C_drewN ?_ _) | (with_reducible refine Kd.C_drew ?_) | exact HR198_0.out)) | (with_reducible refine Kd.C_alloc ?_ _) | (with_reducible refine Kd.C_drewN ?_ _) | (with_reducible refine Kd.C_drew ?_)))
             (case side4 => exact HC198_0.out)
             rintro e w46 ⟨rfl, hb⟩
             have HS2_ := (hb.cell (World.block_lt_of_cell? _ _ (hHeld.2.2.1))).trans (hHeld.2.2.1)
             have HS3_ := (hb.cell (World.block_lt_of_cell? _ _ (hHeld.2.2.2.1))).trans (hHeld.2.2.2.1)
             have HS4_ := (hb.cell (World.block_lt_of_cell? _ _ (hHeld.2.2.2.2))).trans (hHeld.2.2.2.2)
             refine ⟨_, rfl, ?_⟩
             have n0_ := Aside0.mk (Kd.S_below (by (with_reducible repeat (first | apply Kd.S_alloc | apply Kd.S_drewN | apply Kd.S_drew)); exact HO_7.out) hb)
             have n1_ := Aside0.mk (Kd.R_below (by (with_reducible repeat (first | apply Kd.R_alloc | apply Kd.R_drewN | apply Kd.R_drew)); exact HL198_0.out) hb)
             have n2_ := Aside0.mk (Kd.R_below (by (with_reducible repeat (first | apply Kd.R_alloc | apply Kd.R_drewN | apply Kd.R_drew)); exact HL198_0.out) hb)
             have n3_ := Aside0.mk (blk_below (g := gb188) (o := .cells #[.string a0_0, .slice A0_1 l0_1.length c0_1] 24 (0, 0)) (by (with_reducible repeat (first | refine blk_drewN ?_ _ | refine blk_drew ?_ | refine blk_alloc ?_ _)); exact BK188.out) hb)
             have n4_ := Aside0.mk (Kd.C_below (by repeat (first | (with_reducible exact HR198_0.out) | (with_reducible refine Kd.C_alloc ?_ _) | (with_reducible refine Kd.C_drewN ?_ _) | (with_reducible refine Kd.C_drew ?_) | exact HR198_0.out)) hb)
             have n5_ := Aside0.mk (Kd.C_below (by repeat (first | (with_reducible exact HR198_0.out) | (with_reducible refine Kd.C_alloc ?_ _) | (with_reducible refine Kd.C_drewN ?_ _) | (with_reducible refine Kd.C_drew ?_) | exact HR198_0.out)) hb)
             have n6_ := Aside0.mk (below_step (by repeat (first | (with_reducible first | exact HB.out | apply below_alloc | apply pw_below_drewN | apply below_drew1 | refine below_set ?_ GE188.out) | exact HB.out)) hb)
             clear HO_7
             clear HL198_0
             clear BK188
             clear HR198_0
             clear HB
             have HO_7 := n0_
             have HL198_0 := n1_
             have BK188 := n3_
             have HR198_0 := n4_
             have HB := n6_
             clear n0_ n1_ n2_ n3_ n4_ n5_ n6_
             (try clear hb)
             (try clear hb2)
             (try clear hk)
             (try clear hi)
             refine hK.out _ _ ⟨(blk_cell BK188.out 0).trans rfl, (blk_cell BK188.out 1).trans rfl, HS2_, HS3_, HS4_⟩ (fun hHeld => ?_)
             clear hK K
             refine norm_ (a' := ?_) ?_ ?_
             rotate_left
             ·show Act.put _ (some 53) _ = _
              simp only [Act.put, List.setIfInBounds_toArray, List.set_cons_zero, List.set_cons_succ, i64_w, i32_w]
              rfl
             refine one_ (i := 17) (N := some 56) (bv 35 262143) rfl rfl (one_of HT_.out (by kernel_rfl)) (by decide) (fun K hK => ?_)
             refine goes_ Tryd.func10 (by kernel_rfl) rfl #[.agg #[.string a0_0, .slice A0_1 l0_1.length c0_1], .slice A1 l1.length c1] (by rfl) rfl rfl (by (try simp only [List.map_toArray, List.map_cons, List.map_nil]); first | done | rfl | (simp only [List.length_drop, List.length_take]; rfl)) ?_
             with_reducible refine (variants_Count.calls k2 a0_0 _ _ l0_1 _ _ l1 t202 _ ?side1 ?side2 ?side3 ?side4 A39.out).mono ?_
             (case side1 => repeat (first | exact (Kd.C_below HR0_1.out HB.out) | (with_reducible refine Kd.C_alloc ?_ _) | (with_reducible refine Kd.C_drewN ?_ _) | (with_reducible refine Kd.C_drew ?_)))
             (case side2 => exact HC0_1.out)
             (case side3 => repeat (first | exact (Kd.C_below HR1.out HB.out) | (with_reducible refine Kd.C_alloc ?_ _) | (with_reducible refine Kd.C_drewN ?_ _) | (with_reducible refine Kd.C_drew ?_)))
             (case side4 => exact HC1.out)
             rintro e w47 ⟨rfl, hb⟩
             have HS2_ := (hb.cell (World.block_lt_of_cell? _ _ (hHeld.2.2.1))).trans (hHeld.2.2.1)
             have HS3_ := (hb.cell (World.block_lt_of_cell? _ _ (hHeld.2.2.2.1))).trans (hHeld.2.2.2.1)
             have HS4_ := (hb.cell (World.block_lt_of_cell? _ _ (hHeld.2.2.2.2))).trans (hHeld.2.2.2.2)
             refine ⟨_, rfl, ?_⟩
             have n0_ := Aside0.mk (Kd.S_below (by (with_reducible repeat (first | apply Kd.S_alloc | apply Kd.S_drewN | apply Kd.S_drew)); exact HO_7.out) hb)
             have n1_ := Aside0.mk (Kd.R_below (by (with_reducible repeat (first | apply Kd.R_alloc | apply Kd.R_drewN | apply Kd.R_drew)); exact HL198_0.out) hb)
             have n2_ := Aside0.mk (Kd.R_below (by (with_reducible repeat (first | apply Kd.R_alloc | apply Kd.R_drewN | apply Kd.R_drew)); exact HL198_0.out) hb)
             have n3_ := Aside0.mk (blk_below (g := gb188) (o := .cells #[.string a0_0, .slice A0_1 l0_1.length c0_1] 24 (0, 0)) (by (with_reducible repeat (first | refine blk_drewN ?_ _ | refine blk_drew ?_ | refine blk_alloc ?_ _)); exact BK188.out) hb)
             have n4_ := Aside0.mk (Kd.C_below (by repeat (first | (with_reducible exact HR198_0.out) | (with_reducible refine Kd.C_alloc ?_ _) | (with_reducible refine Kd.C_drewN ?_ _) | (with_reducible refine Kd.C_drew ?_) | exact HR198_0.out)) hb)
             have n5_ := Aside0.mk (Kd.C_below (by repeat (first | (with_reducible exact HR198_0.out) | (with_reducible refine Kd.C_alloc ?_ _) | (with_reducible refine Kd.C_drewN ?_ _) | (with_reducible refine Kd.C_drew ?_) | exact HR198_0.out)) hb)
             have n6_ := Aside0.mk (below_step (by repeat (first | (with_reducible first | exact HB.out | apply below_alloc | apply pw_below_drewN | apply below_drew1 | refine below_set ?_ GE188.out) | exact HB.out)) hb)
             clear HO_7
             clear HL198_0
             clear BK188
             clear HR198_0
             clear HB
             have HO_7 := n0_
             have HL198_0 := n1_
             have BK188 := n3_
             have HR198_0 := n4_
             have HB := n6_
             clear n0_ n1_ n2_ n3_ n4_ n5_ n6_
             (try clear hb)
             (try clear hb2)
             (try clear hk)
             (try clear hi)
             refine hK.out _ _ ⟨(blk_cell BK188.out 0).trans rfl, (blk_cell BK188.out 1).trans rfl, HS2_, HS3_, HS4_⟩ (fun hHeld => ?_)
             clear hK K
             refine norm_ (a' := ?_) ?_ ?_
             rotate_left
             ·show Act.put _ (some 56) _ = _
              simp only [Act.put, List.setIfInBounds_toArray, List.set_cons_zero, List.set_cons_succ, i64_w, i32_w]
              rfl
             refine pureB HT_ 18 57 35 524287 ?_
             refine pureB HT_ 19 58 35 1048575 ?_
             refine pureB HT_ 20 59 35 2097151 ?_
             refine pureB HT_ 21 60 35 4194303 ?_
             refine pureB HT_ 22 61 35 8388607 ?_
             refine pureB HT_ 23 62 35 16777215 ?_
             refine pureB HT_ 24 63 35 33554431 ?_
             refine pureB HT_ 25 64 35 67108863 ?_
             refine pureB HT_ 26 65 35 134217727 ?_
             refine pureB HT_ 29 68 35 671088639 ?_
             refine takeB5 HT_ HW_ 27 66 35 805306367 hHeld ?_
             refine takeB5 HT_ HW_ 28 67 35 1073741823 hHeld ?_
             refine one_ (i := 30) (N := some 69) (bv 35 2147483647) rfl rfl (one_of HT_.out (by kernel_rfl)) (by decide) (fun K hK => ?_)
             refine goes_ Tryd.func12 (by kernel_rfl) rfl #[.agg #[.string a0_0, .slice A0_1 l0_1.length c0_1], .slice A1 l1.length c1] (by rfl) rfl rfl (by (try simp only [List.map_toArray, List.map_cons, List.map_nil]); first | done | rfl | (simp only [List.length_drop, List.length_take]; rfl)) ?_
             with_reducible refine (variants_Key.calls k2 a0_0 _ _ l0_1 _ _ l1 t204 _ ?side1 ?side2 ?side3 ?side4 A42.out).mono ?_
             (case side1 => repeat (first | exact (Kd.C_below HR0_1.out HB.out) | (with_reducible refine Kd.C_alloc ?_ _) | (with_reducible refine Kd.C_drewN ?_ _) | (with_reducible refine Kd.C_drew ?_)))
             (case side2 => exact HC0_1.out)
             (case side3 => repeat (first | exact (Kd.C_below HR1.out HB.out) | (with_reducible refine Kd.C_alloc ?_ _) | (with_reducible refine Kd.C_drewN ?_ _) | (with_reducible refine Kd.C_drew ?_)))
             (case side4 => exact HC1.out)
             rintro e w48 ⟨v205, rfl, ho0, hb⟩
             have HS2_ := (hb.cell (World.block_lt_of_cell? _ _ (hHeld.2.2.1))).trans (hHeld.2.2.1)
             have HS3_ := (hb.cell (World.block_lt_of_cell? _ _ (hHeld.2.2.2.1))).trans (hHeld.2.2.2.1)
             have HS4_ := (hb.cell (World.block_lt_of_cell? _ _ (hHeld.2.2.2.2))).trans (hHeld.2.2.2.2)
             refine ⟨_, rfl, ?_⟩
             have n0_ := Aside0.mk (Kd.S_elder' (by (with_reducible repeat (first | apply Kd.S_alloc | apply Kd.S_drewN | apply Kd.S_drew)); exact HO_7.out) (Kd.R_base ho0) hb)
             have n1_ := Aside0.mk (Kd.R_elder' (by (with_reducible repeat (first | apply Kd.R_alloc | apply Kd.R_drewN | apply Kd.R_drew)); exact HL198_0.out) (Kd.R_base ho0) hb)
             have n2_ := Aside0.mk (Kd.R_elder' (by (with_reducible repeat (first | apply Kd.R_alloc | apply Kd.R_drewN | apply Kd.R_drew)); exact HL198_0.out) (Kd.R_base ho0) hb)
             have n3_ := Aside0.mk (Kd.R_elder' (by (with_reducible repeat (first | apply Kd.R_alloc | apply Kd.R_drewN | apply Kd.R_drew)); exact HL198_0.out) (Kd.R_base ho0) hb)
             have n4_ := Aside0.mk (Kd.R_lower (Kd.R_new' (Kd.R_new' (Kd.R_new' ho0 (Kd.R_lt (by (with_reducible repeat (first | apply Kd.R_alloc | apply Kd.R_drewN | apply Kd.R_drew)); exact HL198_0.out))) (Kd.R_lt (by (with_reducible repeat (first | apply Kd.R_alloc | apply Kd.R_drewN | apply Kd.R_drew)); exact HL198_0.out))) (Kd.R_lt (by (with_reducible repeat (first | apply Kd.R_alloc | apply Kd.R_drewN | apply Kd.R_drew)); exact HL198_0.out))) (below_size (by repeat (first | (with_reducible first | exact HB.out | apply below_alloc | apply pw_below_drewN | apply below_drew1 | refine below_set ?_ GE188.out) | exact HB.out))))
             have n5_ := Aside0.mk (blk_below (g := gb188) (o := .cells #[.string a0_0, .slice A0_1 l0_1.length c0_1] 24 (0, 0)) (by (with_reducible repeat (first | refine blk_drewN ?_ _ | refine blk_drew ?_ | refine blk_alloc ?_ _)); exact BK188.out) hb)
             have n6_ := Aside0.mk (Kd.C_below (by repeat (first | (with_reducible exact HR198_0.out) | (with_reducible refine Kd.C_alloc ?_ _) | (with_reducible refine Kd.C_drewN ?_ _) | (with_reducible refine Kd.C_drew ?_) | exact HR198_0.out)) hb)
             have n7_ := Aside0.mk (Kd.C_below (by repeat (first | (with_reducible exact HR198_0.out) | (with_reducible refine Kd.C_alloc ?_ _) | (with_reducible refine Kd.C_drewN ?_ _) | (with_reducible refine Kd.C_drew ?_) | exact HR198_0.out)) hb)
             have n8_ := Aside0.mk (Kd.C_below (by repeat (first | (with_reducible exact HR198_0.out) | (with_reducible refine Kd.C_alloc ?_ _) | (with_reducible refine Kd.C_drewN ?_ _) | (with_reducible refine Kd.C_drew ?_) | exact HR198_0.out)) hb)
             have n9_ := Aside0.mk (below_step (by repeat (first | (with_reducible first | exact HB.out | apply below_alloc | apply pw_below_drewN | apply below_drew1 | refine below_set ?_ GE188.out) | exact HB.out)) hb)
             clear HO_7
             clear HL198_0
             clear BK188
             clear HR198_0
             clear HB
             have HO_7 := n0_
             have HL198_0 := n1_
             have HO206 := n4_
             have BK188 := n5_
             have HR198_0 := n6_
             have HB := n9_
             clear n0_ n1_ n2_ n3_ n4_ n5_ n6_ n7_ n8_ n9_
             (try clear hb)
             (try clear hb2)
             (try clear hk)
             (try clear hi)
             (try clear ho0)
             obtain ⟨Ao49, co49, eo49⟩ := Kd.R_slice HO206.out
             (first | subst eo49 | (injection eo49 with f1_ f2_ f3_; have f4_ := f1_.symm; have f5_ := f3_.symm; clear f1_ f2_ f3_; subst f4_; subst f5_))
             refine hK.out _ _ ⟨(blk_cell BK188.out 0).trans rfl, (blk_cell BK188.out 1).trans rfl, HS2_, HS3_, HS4_⟩ (fun hHeld => ?_)
             clear hK K
             refine norm_ (a' := ?_) ?_ ?_
             rotate_left
             ·show Act.put _ (some 69) _ = _
              simp only [Act.put, List.setIfInBounds_toArray, List.set_cons_zero, List.set_cons_succ, i64_w, i32_w]
              rfl
             refine one_ (i := 31) (N := some 70) (bv 35 4294967295) rfl rfl (one_of HT_.out (by kernel_rfl)) (by decide) (fun K hK => ?_)
             refine goes_ Tryd.func11 (by kernel_rfl) rfl #[.slice A198_0 (rd_L1 t193 x9_2).length c198_0, .slice Ao49 t204.length co49] (by rfl) rfl rfl (by (try simp only [List.map_toArray, List.map_cons, List.map_nil]); first | done | rfl | (simp only [List.length_drop, List.length_take]; rfl)) ?_
             with_reducible refine (eponymlaw01_Same.calls k2 _ _ (rd_L1 t193 x9_2) _ _ t204 t207 _ ?side1 ?side2 ?side3 ?side4 A43.out).mono ?_
             (case side1 => repeat (first | exact (by repeat (first | (with_reducible exact HR198_0.out) | (with_reducible refine Kd.C_alloc ?_ _) | (with_reducible refine Kd.C_drewN ?_ _) | (with_reducible refine Kd.C_drew ?_) | exact HR198_0.out)) | (with_reducible refine Kd.C_alloc ?_ _) | (with_reducible refine Kd.C_drewN ?_ _) | (with_reducible refine Kd.C_drew ?_)))
             (case side2 => exact HC198_0.out)
             (case side3 => repeat (first | exact (Kd.R_reads' HO206.out).2.2 | (with_reducible refine Kd.C_alloc ?_ _) | (with_reducible refine Kd.C_drewN ?_ _) | (with_reducible refine Kd.C_drew ?_)))
             (case side4 => exact (Kd.R_reads' HO206.out).2.1)
             rintro e w' ⟨rfl, ⟨nd, rfl⟩⟩
             refine ⟨_, rfl, ?_⟩
             refine hK.out _ _ ⟨(blk_cell BK188.out 0).trans rfl, (blk_cell BK188.out 1).trans rfl, hHeld.2.2.1, hHeld.2.2.2.1, hHeld.2.2.2.2⟩ (fun hHeld => ?_)
             clear hK K
             refine norm_ (a' := ?_) ?_ ?_
             rotate_left
             ·show Act.put _ (some 70) _ = _
              simp only [Act.put, List.setIfInBounds_toArray, List.set_cons_zero, List.set_cons_succ, i64_w, i32_w]
              rfl
             refine pureB HT_ 32 71 35 8589934591 ?_
             refine pureB HT_ 33 72 35 17179869183 ?_
             refine pureB HT_ 34 73 35 34359738367 ?_
             refine done_ (done_of HT_.out (by kernel_rfl)) ?_
             try go_wp2
             go_meet
             case rel => exact ⟨_, (!t207), (by first | rfl | (simp; done) | (simp [*]; done)), H', ⟨by have := HJ5.out; have := HK2.out; first | omega | exact Nat.le_refl _⟩, ⟨by (with_reducible repeat (first | apply Kd.S_alloc | apply Kd.S_drewN | apply Kd.S_drew)); exact Kd.S_mono HO_7.out (fun _ hk => trivial)⟩, ⟨by (with_reducible repeat (first | refine blk_drewN ?_ _ | refine blk_drew ?_ | refine blk_alloc ?_ _)); exact BK188.out⟩, ⟨by repeat (first | (with_reducible first | exact HB.out | apply below_alloc | apply pw_below_drewN | apply below_drew1 | refine below_set ?_ GE188.out) | exact HB.out)⟩⟩
            ·rw [if_neg c41] at H
             have c41b0 : (x9_2 == 0) = false := beq_eq_false_iff_ne.mpr c41
             have c41b1 : (x9_2 != 0) = true := bne_iff_ne.mpr c41
             have H' := Aside0.mk H
             clear H
             try go_wp2
             have n0_ := Aside0.mk (Kd.S_drew HO_7.out)
             have n1_ := Aside0.mk (blk_drew BK188.out)
             have n2_ := Aside0.mk (below_drew1 HB.out)
             clear HO_7
             clear BK188
             clear HB
             have HO_7 := n0_
             have BK188 := n1_
             have HB := n2_
             clear n0_ n1_ n2_
             have p198 : 0 ≤ (x9_2 : Int) := of_decide_eq_true (by first | (with_reducible assumption) | assumption)
             have q198 : x9_2 < (t193.length : Int) := of_decide_eq_true (by first | (with_reducible assumption) | assumption)
             obtain ⟨ad198, A198_0, c198_0, e198, hx198_0, hl198_0, hi198_0⟩ := at_L1 (Kd.S_reads' HO_7.out).2.2 x9_2 p198 q198
             cases e198
             obtain ⟨ce198, hce198, hMe198, hcc198⟩ := Kd.S_get HO_7.out [] x9_2 p198 (by first | exact q198 | exact of_decide_eq_true (by first | (with_reducible assumption) | assumption) | (have e_ := (Kd.S_reads' HO_7.out).1; omega))
             obtain ⟨ve198_0, rfl, ge198_0⟩ := hMe198
             have hv198_0 := hcc198 0 _ rfl
             rw [Nat.add_zero, show ((Kd.slice 21 (Kd.int .i32))).sz = 1 from rfl, Nat.mul_one] at hv198_0
             replace hv198_0 := Option.some.inj (hv198_0.symm.trans hx198_0)
             rw [hv198_0] at ge198_0
             have HL198_0 := Aside0.mk (show Kd.R (Kd.int .i32) 21 _ _ _ _ (rd_L1 t193 x9_2) from ge198_0)
             clear hv198_0 ge198_0
             clear hcc198 hce198
             have HR198_0 := Aside0.mk hi198_0
             have HC198_0 := Aside0.mk hl198_0
             clear hi198_0 hl198_0
             replace p198 := eq_true p198
             replace q198 := eq_true q198
             have p200 : 0 ≤ (x9_2 : Int) := of_decide_eq_true (by first | (with_reducible assumption) | assumption)
             have q200 : x9_2 < (t193.length : Int) := of_decide_eq_true (by first | (with_reducible assumption) | assumption)
             obtain ⟨ad200, A200_0, c200_0, e200, hx200_0, hl200_0, hi200_0⟩ := at_L1 (Kd.S_reads' HO_7.out).2.2 x9_2 p200 q200
             obtain rfl : ad198 = ad200 := (by injection e200)
             obtain ⟨rfl, rfl⟩ : A198_0 = A200_0 ∧ c198_0 = c200_0 := by (have h_ := Option.some.inj (hx198_0.symm.trans hx200_0); injection h_ with h1_ h2_ h3_; exact ⟨h1_, h3_⟩)
             obtain ⟨ce200, hce200, hMe200, hcc200⟩ := Kd.S_get HO_7.out [] x9_2 p200 (by first | exact q200 | exact of_decide_eq_true (by first | (with_reducible assumption) | assumption) | (have e_ := (Kd.S_reads' HO_7.out).1; omega))
             obtain ⟨ve200_0, rfl, ge200_0⟩ := hMe200
             have hv200_0 := hcc200 0 _ rfl
             rw [Nat.add_zero, show ((Kd.slice 21 (Kd.int .i32))).sz = 1 from rfl, Nat.mul_one] at hv200_0
             replace hv200_0 := Option.some.inj (hv200_0.symm.trans hx200_0)
             rw [hv200_0] at ge200_0
             clear hv200_0 ge200_0
             clear hcc200 hce200
             clear hi200_0 hl200_0
             replace p200 := eq_true p200
             replace q200 := eq_true q200
             refine start_ (n := 35) (S := fun w' => w'.cell? ⟨gb188, 0, none⟩ = some (.string a0_0) ∧ w'.cell? ⟨gb188, 1, none⟩ = some (.slice A0_1 l0_1.length c0_1) ∧ w'.cell? (ad198.add (x9_2).toNat) = some (.slice A198_0 (rd_L1 t193 x9_2).length c198_0) ∧ w'.cell? (ad198.add (x9_2).toNat) = some (.slice A198_0 (rd_L1 t193 x9_2).length c198_0)) (ds := []) (bv 35 0) (by kernel_rfl) rfl rfl ⟨(blk_cell BK188.out 0).trans rfl, (blk_cell BK188.out 1).trans rfl, hx198_0, hx200_0⟩ (fun hHeld => ?_); refine with_tabW eponymlaw19_VariantsAlike.tab10 eponymlaw19_VariantsAlike.bits10 (fun HT_ HW_ => ?_)
             generalize wr.drew = w50 at HO_7 BK188 HB HL198_0 HR198_0 hx198_0 hx200_0 hHeld ⊢
             refine pureB HT_ 1 40 35 2 ?_
             refine pureB HT_ 2 41 35 6 ?_
             refine pureB HT_ 3 42 35 14 ?_
             refine pureB HT_ 5 44 35 46 ?_
             refine takeB4 HT_ HW_ 0 39 35 47 hHeld ?_
             refine takeB4 HT_ HW_ 4 43 35 63 hHeld ?_
             refine one_ (i := 6) (N := some 45) (bv 35 127) rfl rfl (one_of HT_.out (by kernel_rfl)) (by decide) (fun K hK => ?_)
             refine goes_ Tryd.func9 (by kernel_rfl) rfl #[.agg #[.string a0_0, .slice A0_1 l0_1.length c0_1], .slice A198_0 (rd_L1 t193 x9_2).length c198_0, .slice A1 l1.length c1] (by rfl) rfl rfl (by (try simp only [List.map_toArray, List.map_cons, List.map_nil]); first | done | rfl | (simp only [List.length_drop, List.length_take]; rfl)) ?_
             with_reducible refine (variants_Same.calls k2 a0_0 _ _ l0_1 _ _ (rd_L1 t193 x9_2) _ _ l1 true _ ?side1 ?side2 ?side3 ?side4 ?side5 ?side6 A36.out).mono ?_
             (case side1 => repeat (first | exact (Kd.C_below HR0_1.out HB.out) | (with_reducible refine Kd.C_alloc ?_ _) | (with_reducible refine Kd.C_drewN ?_ _) | (with_reducible refine Kd.C_drew ?_)))
             (case side2 => exact HC0_1.out)
             (case side3 => repeat (first | exact (by repeat (first | (with_reducible exact HR198_0.out) | (with_reducible refine Kd.C_alloc ?_ _) | (with_reducible refine Kd.C_drewN ?_ _) | (with_reducible refine Kd.C_drew ?_) | exact HR198_0.out)) | (with_reducible refine Kd.C_alloc ?_ _) | (with_reducible refine Kd.C_drewN ?_ _) | (with_reducible refine Kd.C_drew ?_)))
             (case side4 => exact HC198_0.out)
             (case side5 => repeat (first | exact (Kd.C_below HR1.out HB.out) | (with_reducible refine Kd.C_alloc ?_ _) | (with_reducible refine Kd.C_drewN ?_ _) | (with_reducible refine Kd.C_drew ?_)))
             (case side6 => exact HC1.out)
             rintro e w51 ⟨rfl, hb⟩
             have HS2_ := (hb.cell (World.block_lt_of_cell? _ _ (hHeld.2.2.1))).trans (hHeld.2.2.1)
             have HS3_ := (hb.cell (World.block_lt_of_cell? _ _ (hHeld.2.2.2))).trans (hHeld.2.2.2)
             refine ⟨_, rfl, ?_⟩
             have n0_ := Aside0.mk (Kd.S_below (by (with_reducible repeat (first | apply Kd.S_alloc | apply Kd.S_drewN | apply Kd.S_drew)); exact HO_7.out) hb)
             have n1_ := Aside0.mk (Kd.R_below (by (with_reducible repeat (first | apply Kd.R_alloc | apply Kd.R_drewN | apply Kd.R_drew)); exact HL198_0.out) hb)
             have n2_ := Aside0.mk (blk_below (g := gb188) (o := .cells #[.string a0_0, .slice A0_1 l0_1.length c0_1] 24 (0, 0)) (by (with_reducible repeat (first | refine blk_drewN ?_ _ | refine blk_drew ?_ | refine blk_alloc ?_ _)); exact BK188.out) hb)
             have n3_ := Aside0.mk (Kd.C_below (by repeat (first | (with_reducible exact HR198_0.out) | (with_reducible refine Kd.C_alloc ?_ _) | (with_reducible refine Kd.C_drewN ?_ _) | (with_reducible refine Kd.C_drew ?_) | exact HR198_0.out)) hb)
             have n4_ := Aside0.mk (below_step (by repeat (first | (with_reducible first | exact HB.out | apply below_alloc | apply pw_below_drewN | apply below_drew1 | refine below_set ?_ GE188.out) | exact HB.out)) hb)
             clear HO_7
             clear HL198_0
             clear BK188
             clear HR198_0
             clear HB
             have HO_7 := n0_
             have HL198_0 := n1_
             have BK188 := n2_
             have HR198_0 := n3_
             have HB := n4_
             clear n0_ n1_ n2_ n3_ n4_
             (try clear hb)
             (try clear hb2)
             (try clear hk)
             (try clear hi)
             refine hK.out _ _ ⟨(blk_cell BK188.out 0).trans rfl, (blk_cell BK188.out 1).trans rfl, HS2_, HS3_⟩ (fun hHeld => ?_)
             clear hK K
             refine norm_ (a' := ?_) ?_ ?_
             rotate_left
             ·show Act.put _ (some 45) _ = _
              simp only [Act.put, List.setIfInBounds_toArray, List.set_cons_zero, List.set_cons_succ, i64_w, i32_w]
              rfl
             refine pureB HT_ 7 46 35 255 ?_
             refine pureB HT_ 8 47 35 511 ?_
             refine pureB HT_ 10 49 35 1535 ?_
             refine pureB HT_ 11 50 35 3583 ?_
             refine pureB HT_ 12 51 35 7679 ?_
             refine pureB HT_ 16 55 35 73215 ?_
             refine takeB4 HT_ HW_ 9 48 35 73727 hHeld ?_
             refine takeB4 HT_ HW_ 13 52 35 81919 hHeld ?_
             refine takeB4 HT_ HW_ 15 54 35 114687 hHeld ?_
             refine one_ (i := 14) (N := some 53) (bv 35 131071) rfl rfl (one_of HT_.out (by kernel_rfl)) (by decide) (fun K hK => ?_)
             refine goes_ Tryd.func10 (by kernel_rfl) rfl #[.agg #[.string a0_0, .slice A0_1 l0_1.length c0_1], .slice A198_0 (rd_L1 t193 x9_2).length c198_0] (by rfl) rfl rfl (by (try simp only [List.map_toArray, List.map_cons, List.map_nil]); first | done | rfl | (simp only [List.length_drop, List.length_take]; rfl)) ?_
             with_reducible refine (variants_Count.calls k2 a0_0 _ _ l0_1 _ _ (rd_L1 t193 x9_2) t201 _ ?side1 ?side2 ?side3 ?side4 A38.out).mono ?_
             (case side1 => repeat (first | exact (Kd.C_below HR0_1.out HB.out) | (with_reducible refine Kd.C_alloc ?_ _) | (with_reducible refine Kd.C_drewN ?_ _) | (with_reducible refine Kd.C_drew ?_)))
             (case side2 => exact HC0_1.out)
             (case side3 => repeat (first | exact (by repeat (first | (with_reducible exact HR198_0.out) | (with_reducible refine Kd.C_alloc ?_ _) | (with_reducible refine Kd.C_drewN ?_ _) | (with_reducible refine Kd.C_drew ?_) | exact HR198_0.out)) | (with_reducible refine Kd.C_alloc ?_ _) | (with_reducible refine Kd.C_drewN ?_ _) | (with_reducible refine Kd.C_drew ?_)))
             (case side4 => exact HC198_0.out)
             rintro e w52 ⟨rfl, hb⟩
             have HS2_ := (hb.cell (World.block_lt_of_cell? _ _ (hHeld.2.2.1))).trans (hHeld.2.2.1)
             have HS3_ := (hb.cell (World.block_lt_of_cell? _ _ (hHeld.2.2.2))).trans (hHeld.2.2.2)
             refine ⟨_, rfl, ?_⟩
             have n0_ := Aside0.mk (Kd.S_below (by (with_reducible repeat (first | apply Kd.S_alloc | apply Kd.S_drewN | apply Kd.S_drew)); exact HO_7.out) hb)
             have n1_ := Aside0.mk (Kd.R_below (by (with_reducible repeat (first | apply Kd.R_alloc | apply Kd.R_drewN | apply Kd.R_drew)); exact HL198_0.out) hb)
             have n2_ := Aside0.mk (Kd.R_below (by (with_reducible repeat (first | apply Kd.R_alloc | apply Kd.R_drewN | apply Kd.R_drew)); exact HL198_0.out) hb)
             have n3_ := Aside0.mk (blk_below (g := gb188) (o := .cells #[.string a0_0, .slice A0_1 l0_1.length c0_1] 24 (0, 0)) (by (with_reducible repeat (first | refine blk_drewN ?_ _ | refine blk_drew ?_ | refine blk_alloc ?_ _)); exact BK188.out) hb)
             have n4_ := Aside0.mk (Kd.C_below (by repeat (first | (with_reducible exact HR198_0.out) | (with_reducible refine Kd.C_alloc ?_ _) | (with_reducible refine Kd.C_drewN ?_ _) | (with_reducible refine Kd.C_drew ?_) | exact HR198_0.out)) hb)
             have n5_ := Aside0.mk (Kd.C_below (by repeat (first | (with_reducible exact HR198_0.out) | (with_reducible refine Kd.C_alloc ?_ _) | (with_reducible refine Kd.C_drewN ?_ _) | (with_reducible refine Kd.C_drew ?_) | exact HR198_0.out)) hb)
             have n6_ := Aside0.mk (below_step (by repeat (first | (with_reducible first | exact HB.out | apply below_alloc | apply pw_below_drewN | apply below_drew1 | refine below_set ?_ GE188.out) | exact HB.out)) hb)
             clear HO_7
             clear HL198_0
             clear BK188
             clear HR198_0
             clear HB
             have HO_7 := n0_
             have HL198_0 := n1_
             have BK188 := n3_
             have HR198_0 := n4_
             have HB := n6_
             clear n0_ n1_ n2_ n3_ n4_ n5_ n6_
             (try clear hb)
             (try clear hb2)
             (try clear hk)
             (try clear hi)
             refine hK.out _ _ ⟨(blk_cell BK188.out 0).trans rfl, (blk_cell BK188.out 1).trans rfl, HS2_, HS3_⟩ (fun hHeld => ?_)
             clear hK K
             refine norm_ (a' := ?_) ?_ ?_
             rotate_left
             ·show Act.put _ (some 53) _ = _
              simp only [Act.put, List.setIfInBounds_toArray, List.set_cons_zero, List.set_cons_succ, i64_w, i32_w]
              rfl
             refine one_ (i := 17) (N := some 56) (bv 35 262143) rfl rfl (one_of HT_.out (by kernel_rfl)) (by decide) (fun K hK => ?_)
             refine goes_ Tryd.func10 (by kernel_rfl) rfl #[.agg #[.string a0_0, .slice A0_1 l0_1.length c0_1], .slice A1 l1.length c1] (by rfl) rfl rfl (by (try simp only [List.map_toArray, List.map_cons, List.map_nil]); first | done | rfl | (simp only [List.length_drop, List.length_take]; rfl)) ?_
             with_reducible refine (variants_Count.calls k2 a0_0 _ _ l0_1 _ _ l1 t202 _ ?side1 ?side2 ?side3 ?side4 A39.out).mono ?_
             (case side1 => repeat (first | exact (Kd.C_below HR0_1.out HB.out) | (with_reducible refine Kd.C_alloc ?_ _) | (with_reducible refine Kd.C_drewN ?_ _) | (with_reducible refine Kd.C_drew ?_)))
             (case side2 => exact HC0_1.out)
             (case side3 => repeat (first | exact (Kd.C_below HR1.out HB.out) | (with_reducible refine Kd.C_alloc ?_ _) | (with_reducible refine Kd.C_drewN ?_ _) | (with_reducible refine Kd.C_drew ?_)))
             (case side4 => exact HC1.out)
             rintro e w53 ⟨rfl, hb⟩
             have HS2_ := (hb.cell (World.block_lt_of_cell? _ _ (hHeld.2.2.1))).trans (hHeld.2.2.1)
             have HS3_ := (hb.cell (World.block_lt_of_cell? _ _ (hHeld.2.2.2))).trans (hHeld.2.2.2)
             refine ⟨_, rfl, ?_⟩
             have n0_ := Aside0.mk (Kd.S_below (by (with_reducible repeat (first | apply Kd.S_alloc | apply Kd.S_drewN | apply Kd.S_drew)); exact HO_7.out) hb)
             have n1_ := Aside0.mk (Kd.R_below (by (with_reducible repeat (first | apply Kd.R_alloc | apply Kd.R_drewN | apply Kd.R_drew)); exact HL198_0.out) hb)
             have n2_ := Aside0.mk (Kd.R_below (by (with_reducible repeat (first | apply Kd.R_alloc | apply Kd.R_drewN | apply Kd.R_drew)); exact HL198_0.out) hb)
             have n3_ := Aside0.mk (blk_below (g := gb188) (o := .cells #[.string a0_0, .slice A0_1 l0_1.length c0_1] 24 (0, 0)) (by (with_reducible repeat (first | refine blk_drewN ?_ _ | refine blk_drew ?_ | refine blk_alloc ?_ _)); exact BK188.out) hb)
             have n4_ := Aside0.mk (Kd.C_below (by repeat (first | (with_reducible exact HR198_0.out) | (with_reducible refine Kd.C_alloc ?_ _) | (with_reducible refine Kd.C_drewN ?_ _) | (with_reducible refine Kd.C_drew ?_) | exact HR198_0.out)) hb)
             have n5_ := Aside0.mk (Kd.C_below (by repeat (first | (with_reducible exact HR198_0.out) | (with_reducible refine Kd.C_alloc ?_ _) | (with_reducible refine Kd.C_drewN ?_ _) | (with_reducible refine Kd.C_drew ?_) | exact HR198_0.out)) hb)
             have n6_ := Aside0.mk (below_step (by repeat (first | (with_reducible first | exact HB.out | apply below_alloc | apply pw_below_drewN | apply below_drew1 | refine below_set ?_ GE188.out) | exact HB.out)) hb)
             clear HO_7
             clear HL198_0
             clear BK188
             clear HR198_0
             clear HB
             have HO_7 := n0_
             have HL198_0 := n1_
             have BK188 := n3_
             have HR198_0 := n4_
             have HB := n6_
             clear n0_ n1_ n2_ n3_ n4_ n5_ n6_
             (try clear hb)
             (try clear hb2)
             (try clear hk)
             (try clear hi)
             refine hK.out _ _ ⟨(blk_cell BK188.out 0).trans rfl, (blk_cell BK188.out 1).trans rfl, HS2_, HS3_⟩ (fun hHeld => ?_)
             clear hK K
             refine norm_ (a' := ?_) ?_ ?_
             rotate_left
             ·show Act.put _ (some 56) _ = _
              simp only [Act.put, List.setIfInBounds_toArray, List.set_cons_zero, List.set_cons_succ, i64_w, i32_w]
              rfl
             refine pureB HT_ 18 57 35 524287 ?_
             refine pureB HT_ 19 58 35 1048575 ?_
             refine pureB HT_ 20 59 35 2097151 ?_
             refine pureB HT_ 21 60 35 4194303 ?_
             refine pureB HT_ 22 61 35 8388607 ?_
             refine pureB HT_ 23 62 35 16777215 ?_
             refine skipB HT_ 24 63 35 33554431 ?_
             refine skipB HT_ 25 64 35 67108863 ?_
             refine skipB HT_ 26 65 35 134217727 ?_
             refine skipB HT_ 27 66 35 268435455 ?_
             refine skipB HT_ 28 67 35 536870911 ?_
             refine skipB HT_ 29 68 35 1073741823 ?_
             refine skipB HT_ 30 69 35 2147483647 ?_
             refine skipB HT_ 31 70 35 4294967295 ?_
             refine skipB HT_ 32 71 35 8589934591 ?_
             refine pureB HT_ 33 72 35 17179869183 ?_
             refine pureB HT_ 34 73 35 34359738367 ?_
             refine done_ (done_of HT_.out (by kernel_rfl)) ?_
             try go_wp2
             go_meet
             case rel => exact ⟨_, (false), (by first | rfl | (simp; done) | (simp [*]; done)), H', ⟨by have := HJ5.out; have := HK2.out; first | omega | exact Nat.le_refl _⟩, ⟨by (with_reducible repeat (first | apply Kd.S_alloc | apply Kd.S_drewN | apply Kd.S_drew)); exact HO_7.out⟩, ⟨by (with_reducible repeat (first | refine blk_drewN ?_ _ | refine blk_drew ?_ | refine blk_alloc ?_ _)); exact BK188.out⟩, ⟨by repeat (first | (with_reducible first | exact HB.out | apply below_alloc | apply pw_below_drewN | apply below_drew1 | refine below_set ?_ GE188.out) | exact HB.out)⟩⟩
           ·rw [if_neg c40] at H
            have c40b0 : (t201 == t202) = false := beq_eq_false_iff_ne.mpr c40
            have c40b1 : (t201 != t202) = true := bne_iff_ne.mpr c40
            have H' := Aside0.mk H
            clear H
            try go_wp2
            have n0_ := Aside0.mk (Kd.S_drew HO_7.out)
            have n1_ := Aside0.mk (blk_drew BK188.out)
            have n2_ := Aside0.mk (below_drew1 HB.out)
            clear HO_7
            clear BK188
            clear HB
            have HO_7 := n0_
            have BK188 := n1_
            have HB := n2_
            clear n0_ n1_ n2_
            have p198 : 0 ≤ (x9_2 : Int) := of_decide_eq_true (by first | (with_reducible assumption) | assumption)
            have q198 : x9_2 < (t193.length : Int) := of_decide_eq_true (by first | (with_reducible assumption) | assumption)
            obtain ⟨ad198, A198_0, c198_0, e198, hx198_0, hl198_0, hi198_0⟩ := at_L1 (Kd.S_reads' HO_7.out).2.2 x9_2 p198 q198
            cases e198
            obtain ⟨ce198, hce198, hMe198, hcc198⟩ := Kd.S_get HO_7.out [] x9_2 p198 (by first | exact q198 | exact of_decide_eq_true (by first | (with_reducible assumption) | assumption) | (have e_ := (Kd.S_reads' HO_7.out).1; omega))
            obtain ⟨ve198_0, rfl, ge198_0⟩ := hMe198
            have hv198_0 := hcc198 0 _ rfl
            rw [Nat.add_zero, show ((Kd.slice 21 (Kd.int .i32))).sz = 1 from rfl, Nat.mul_one] at hv198_0
            replace hv198_0 := Option.some.inj (hv198_0.symm.trans hx198_0)
            rw [hv198_0] at ge198_0
            have HL198_0 := Aside0.mk (show Kd.R (Kd.int .i32) 21 _ _ _ _ (rd_L1 t193 x9_2) from ge198_0)
            clear hv198_0 ge198_0
            clear hcc198 hce198
            have HR198_0 := Aside0.mk hi198_0
            have HC198_0 := Aside0.mk hl198_0
            clear hi198_0 hl198_0
            replace p198 := eq_true p198
            replace q198 := eq_true q198
            have p200 : 0 ≤ (x9_2 : Int) := of_decide_eq_true (by first | (with_reducible assumption) | assumption)
            have q200 : x9_2 < (t193.length : Int) := of_decide_eq_true (by first | (with_reducible assumption) | assumption)
            obtain ⟨ad200, A200_0, c200_0, e200, hx200_0, hl200_0, hi200_0⟩ := at_L1 (Kd.S_reads' HO_7.out).2.2 x9_2 p200 q200
            obtain rfl : ad198 = ad200 := (by injection e200)
            obtain ⟨rfl, rfl⟩ : A198_0 = A200_0 ∧ c198_0 = c200_0 := by (have h_ := Option.some.inj (hx198_0.symm.trans hx200_0); injection h_ with h1_ h2_ h3_; exact ⟨h1_, h3_⟩)
            obtain ⟨ce200, hce200, hMe200, hcc200⟩ := Kd.S_get HO_7.out [] x9_2 p200 (by first | exact q200 | exact of_decide_eq_true (by first | (with_reducible assumption) | assumption) | (have e_ := (Kd.S_reads' HO_7.out).1; omega))
            obtain ⟨ve200_0, rfl, ge200_0⟩ := hMe200
            have hv200_0 := hcc200 0 _ rfl
            rw [Nat.add_zero, show ((Kd.slice 21 (Kd.int .i32))).sz = 1 from rfl, Nat.mul_one] at hv200_0
            replace hv200_0 := Option.some.inj (hv200_0.symm.trans hx200_0)
            rw [hv200_0] at ge200_0
            clear hv200_0 ge200_0
            clear hcc200 hce200
            clear hi200_0 hl200_0
            replace p200 := eq_true p200
            replace q200 := eq_true q200
            refine start_ (n := 35) (S := fun w' => w'.cell? ⟨gb188, 0, none⟩ = some (.string a0_0) ∧ w'.cell? ⟨gb188, 1, none⟩ = some (.slice A0_1 l0_1.length c0_1) ∧ w'.cell? (ad198.add (x9_2).toNat) = some (.slice A198_0 (rd_L1 t193 x9_2).length c198_0) ∧ w'.cell? (ad198.add (x9_2).toNat) = some (.slice A198_0 (rd_L1 t193 x9_2).length c198_0)) (ds := []) (bv 35 0) (by kernel_rfl) rfl rfl ⟨(blk_cell BK188.out 0).trans rfl, (blk_cell BK188.out 1).trans rfl, hx198_0, hx200_0⟩ (fun hHeld => ?_); refine with_tabW eponymlaw19_VariantsAlike.tab10 eponymlaw19_VariantsAlike.bits10 (fun HT_ HW_ => ?_)
            generalize wr.drew = w54 at HO_7 BK188 HB HL198_0 HR198_0 hx198_0 hx200_0 hHeld ⊢
            refine pureB HT_ 1 40 35 2 ?_
            refine pureB HT_ 2 41 35 6 ?_
            refine pureB HT_ 3 42 35 14 ?_
            refine pureB HT_ 5 44 35 46 ?_
            refine takeB4 HT_ HW_ 0 39 35 47 hHeld ?_
            refine takeB4 HT_ HW_ 4 43 35 63 hHeld ?_
            refine one_ (i := 6) (N := some 45) (bv 35 127) rfl rfl (one_of HT_.out (by kernel_rfl)) (by decide) (fun K hK => ?_)
            refine goes_ Tryd.func9 (by kernel_rfl) rfl #[.agg #[.string a0_0, .slice A0_1 l0_1.length c0_1], .slice A198_0 (rd_L1 t193 x9_2).length c198_0, .slice A1 l1.length c1] (by rfl) rfl rfl (by (try simp only [List.map_toArray, List.map_cons, List.map_nil]); first | done | rfl | (simp only [List.length_drop, List.length_take]; rfl)) ?_
            with_reducible refine (variants_Same.calls k2 a0_0 _ _ l0_1 _ _ (rd_L1 t193 x9_2) _ _ l1 true _ ?side1 ?side2 ?side3 ?side4 ?side5 ?side6 A36.out).mono ?_
            (case side1 => repeat (first | exact (Kd.C_below HR0_1.out HB.out) | (with_reducible refine Kd.C_alloc ?_ _) | (with_reducible refine Kd.C_drewN ?_ _) | (with_reducible refine Kd.C_drew ?_)))
            (case side2 => exact HC0_1.out)
            (case side3 => repeat (first | exact (by repeat (first | (with_reducible exact HR198_0.out) | (with_reducible refine Kd.C_alloc ?_ _) | (with_reducible refine Kd.C_drewN ?_ _) | (with_reducible refine Kd.C_drew ?_) | exact HR198_0.out)) | (with_reducible refine Kd.C_alloc ?_ _) | (with_reducible refine Kd.C_drewN ?_ _) | (with_reducible refine Kd.C_drew ?_)))
            (case side4 => exact HC198_0.out)
            (case side5 => repeat (first | exact (Kd.C_below HR1.out HB.out) | (with_reducible refine Kd.C_alloc ?_ _) | (with_reducible refine Kd.C_drewN ?_ _) | (with_reducible refine Kd.C_drew ?_)))
            (case side6 => exact HC1.out)
            rintro e w55 ⟨rfl, hb⟩
            have HS2_ := (hb.cell (World.block_lt_of_cell? _ _ (hHeld.2.2.1))).trans (hHeld.2.2.1)
            have HS3_ := (hb.cell (World.block_lt_of_cell? _ _ (hHeld.2.2.2))).trans (hHeld.2.2.2)
            refine ⟨_, rfl, ?_⟩
            have n0_ := Aside0.mk (Kd.S_below (by (with_reducible repeat (first | apply Kd.S_alloc | apply Kd.S_drewN | apply Kd.S_drew)); exact HO_7.out) hb)
            have n1_ := Aside0.mk (Kd.R_below (by (with_reducible repeat (first | apply Kd.R_alloc | apply Kd.R_drewN | apply Kd.R_drew)); exact HL198_0.out) hb)
            have n2_ := Aside0.mk (blk_below (g := gb188) (o := .cells #[.string a0_0, .slice A0_1 l0_1.length c0_1] 24 (0, 0)) (by (with_reducible repeat (first | refine blk_drewN ?_ _ | refine blk_drew ?_ | refine blk_alloc ?_ _)); exact BK188.out) hb)
            have n3_ := Aside0.mk (Kd.C_below (by repeat (first | (with_reducible exact HR198_0.out) | (with_reducible refine Kd.C_alloc ?_ _) | (with_reducible refine Kd.C_drewN ?_ _) | (with_reducible refine Kd.C_drew ?_) | exact HR198_0.out)) hb)
            have n4_ := Aside0.mk (below_step (by repeat (first | (with_reducible first | exact HB.out | apply below_alloc | apply pw_below_drewN | apply below_drew1 | refine below_set ?_ GE188.out) | exact HB.out)) hb)
            clear HO_7
            clear HL198_0
            clear BK188
            clear HR198_0
            clear HB
            have HO_7 := n0_
            have HL198_0 := n1_
            have BK188 := n2_
            have HR198_0 := n3_
            have HB := n4_
            clear n0_ n1_ n2_ n3_ n4_
            (try clear hb)
            (try clear hb2)
            (try clear hk)
            (try clear hi)
            refine hK.out _ _ ⟨(blk_cell BK188.out 0).trans rfl, (blk_cell BK188.out 1).trans rfl, HS2_, HS3_⟩ (fun hHeld => ?_)
            clear hK K
            refine norm_ (a' := ?_) ?_ ?_
            rotate_left
            ·show Act.put _ (some 45) _ = _
             simp only [Act.put, List.setIfInBounds_toArray, List.set_cons_zero, List.set_cons_succ, i64_w, i32_w]
             rfl
            refine pureB HT_ 7 46 35 255 ?_
            refine pureB HT_ 8 47 35 511 ?_
            refine pureB HT_ 10 49 35 1535 ?_
            refine pureB HT_ 11 50 35 3583 ?_
            refine pureB HT_ 12 51 35 7679 ?_
            refine pureB HT_ 16 55 35 73215 ?_
            refine takeB4 HT_ HW_ 9 48 35 73727 hHeld ?_
            refine takeB4 HT_ HW_ 13 52 35 81919 hHeld ?_
            refine takeB4 HT_ HW_ 15 54 35 114687 hHeld ?_
            refine one_ (i := 14) (N := some 53) (bv 35 131071) rfl rfl (one_of HT_.out (by kernel_rfl)) (by decide) (fun K hK => ?_)
            refine goes_ Tryd.func10 (by kernel_rfl) rfl #[.agg #[.string a0_0, .slice A0_1 l0_1.length c0_1], .slice A198_0 (rd_L1 t193 x9_2).length c198_0] (by rfl) rfl rfl (by (try simp only [List.map_toArray, List.map_cons, List.map_nil]); first | done | rfl | (simp only [List.length_drop, List.length_take]; rfl)) ?_
            with_reducible refine (variants_Count.calls k2 a0_0 _ _ l0_1 _ _ (rd_L1 t193 x9_2) t201 _ ?side1 ?side2 ?side3 ?side4 A38.out).mono ?_
            (case side1 => repeat (first | exact (Kd.C_below HR0_1.out HB.out) | (with_reducible refine Kd.C_alloc ?_ _) | (with_reducible refine Kd.C_drewN ?_ _) | (with_reducible refine Kd.C_drew ?_)))
            (case side2 => exact HC0_1.out)
            (case side3 => repeat (first | exact (by repeat (first | (with_reducible exact HR198_0.out) | (with_reducible refine Kd.C_alloc ?_ _) | (with_reducible refine Kd.C_drewN ?_ _) | (with_reducible refine Kd.C_drew ?_) | exact HR198_0.out)) | (with_reducible refine Kd.C_alloc ?_ _) | (with_reducible refine Kd.C_drewN ?_ _) | (with_reducible refine Kd.C_drew ?_)))
            (case side4 => exact HC198_0.out)
            rintro e w56 ⟨rfl, hb⟩
            have HS2_ := (hb.cell (World.block_lt_of_cell? _ _ (hHeld.2.2.1))).trans (hHeld.2.2.1)
            have HS3_ := (hb.cell (World.block_lt_of_cell? _ _ (hHeld.2.2.2))).trans (hHeld.2.2.2)
            refine ⟨_, rfl, ?_⟩
            have n0_ := Aside0.mk (Kd.S_below (by (with_reducible repeat (first | apply Kd.S_alloc | apply Kd.S_drewN | apply Kd.S_drew)); exact HO_7.out) hb)
            have n1_ := Aside0.mk (Kd.R_below (by (with_reducible repeat (first | apply Kd.R_alloc | apply Kd.R_drewN | apply Kd.R_drew)); exact HL198_0.out) hb)
            have n2_ := Aside0.mk (Kd.R_below (by (with_reducible repeat (first | apply Kd.R_alloc | apply Kd.R_drewN | apply Kd.R_drew)); exact HL198_0.out) hb)
            have n3_ := Aside0.mk (blk_below (g := gb188) (o := .cells #[.string a0_0, .slice A0_1 l0_1.length c0_1] 24 (0, 0)) (by (with_reducible repeat (first | refine blk_drewN ?_ _ | refine blk_drew ?_ | refine blk_alloc ?_ _)); exact BK188.out) hb)
            have n4_ := Aside0.mk (Kd.C_below (by repeat (first | (with_reducible exact HR198_0.out) | (with_reducible refine Kd.C_alloc ?_ _) | (with_reducible refine Kd.C_drewN ?_ _) | (with_reducible refine Kd.C_drew ?_) | exact HR198_0.out)) hb)
            have n5_ := Aside0.mk (Kd.C_below (by repeat (first | (with_reducible exact HR198_0.out) | (with_reducible refine Kd.C_alloc ?_ _) | (with_reducible refine Kd.C_drewN ?_ _) | (with_reducible refine Kd.C_drew ?_) | exact HR198_0.out)) hb)
            have n6_ := Aside0.mk (below_step (by repeat (first | (with_reducible first | exact HB.out | apply below_alloc | apply pw_below_drewN | apply below_drew1 | refine below_set ?_ GE188.out) | exact HB.out)) hb)
            clear HO_7
            clear HL198_0
            clear BK188
            clear HR198_0
            clear HB
            have HO_7 := n0_
            have HL198_0 := n1_
            have BK188 := n3_
            have HR198_0 := n4_
            have HB := n6_
            clear n0_ n1_ n2_ n3_ n4_ n5_ n6_
            (try clear hb)
            (try clear hb2)
            (try clear hk)
            (try clear hi)
            refine hK.out _ _ ⟨(blk_cell BK188.out 0).trans rfl, (blk_cell BK188.out 1).trans rfl, HS2_, HS3_⟩ (fun hHeld => ?_)
            clear hK K
            refine norm_ (a' := ?_) ?_ ?_
            rotate_left
            ·show Act.put _ (some 53) _ = _
             simp only [Act.put, List.setIfInBounds_toArray, List.set_cons_zero, List.set_cons_succ, i64_w, i32_w]
             rfl
            refine one_ (i := 17) (N := some 56) (bv 35 262143) rfl rfl (one_of HT_.out (by kernel_rfl)) (by decide) (fun K hK => ?_)
            refine goes_ Tryd.func10 (by kernel_rfl) rfl #[.agg #[.string a0_0, .slice A0_1 l0_1.length c0_1], .slice A1 l1.length c1] (by rfl) rfl rfl (by (try simp only [List.map_toArray, List.map_cons, List.map_nil]); first | done | rfl | (simp only [List.length_drop, List.length_take]; rfl)) ?_
            with_reducible refine (variants_Count.calls k2 a0_0 _ _ l0_1 _ _ l1 t202 _ ?side1 ?side2 ?side3 ?side4 A39.out).mono ?_
            (case side1 => repeat (first | exact (Kd.C_below HR0_1.out HB.out) | (with_reducible refine Kd.C_alloc ?_ _) | (with_reducible refine Kd.C_drewN ?_ _) | (with_reducible refine Kd.C_drew ?_)))
            (case side2 => exact HC0_1.out)
            (case side3 => repeat (first | exact (Kd.C_below HR1.out HB.out) | (with_reducible refine Kd.C_alloc ?_ _) | (with_reducible refine Kd.C_drewN ?_ _) | (with_reducible refine Kd.C_drew ?_)))
            (case side4 => exact HC1.out)
            rintro e w57 ⟨rfl, hb⟩
            have HS2_ := (hb.cell (World.block_lt_of_cell? _ _ (hHeld.2.2.1))).trans (hHeld.2.2.1)
            have HS3_ := (hb.cell (World.block_lt_of_cell? _ _ (hHeld.2.2.2))).trans (hHeld.2.2.2)
            refine ⟨_, rfl, ?_⟩
            have n0_ := Aside0.mk (Kd.S_below (by (with_reducible repeat (first | apply Kd.S_alloc | apply Kd.S_drewN | apply Kd.S_drew)); exact HO_7.out) hb)
            have n1_ := Aside0.mk (Kd.R_below (by (with_reducible repeat (first | apply Kd.R_alloc | apply Kd.R_drewN | apply Kd.R_drew)); exact HL198_0.out) hb)
            have n2_ := Aside0.mk (Kd.R_below (by (with_reducible repeat (first | apply Kd.R_alloc | apply Kd.R_drewN | apply Kd.R_drew)); exact HL198_0.out) hb)
            have n3_ := Aside0.mk (blk_below (g := gb188) (o := .cells #[.string a0_0, .slice A0_1 l0_1.length c0_1] 24 (0, 0)) (by (with_reducible repeat (first | refine blk_drewN ?_ _ | refine blk_drew ?_ | refine blk_alloc ?_ _)); exact BK188.out) hb)
            have n4_ := Aside0.mk (Kd.C_below (by repeat (first | (with_reducible exact HR198_0.out) | (with_reducible refine Kd.C_alloc ?_ _) | (with_reducible refine Kd.C_drewN ?_ _) | (with_reducible refine Kd.C_drew ?_) | exact HR198_0.out)) hb)
            have n5_ := Aside0.mk (Kd.C_below (by repeat (first | (with_reducible exact HR198_0.out) | (with_reducible refine Kd.C_alloc ?_ _) | (with_reducible refine Kd.C_drewN ?_ _) | (with_reducible refine Kd.C_drew ?_) | exact HR198_0.out)) hb)
            have n6_ := Aside0.mk (below_step (by repeat (first | (with_reducible first | exact HB.out | apply below_alloc | apply pw_below_drewN | apply below_drew1 | refine below_set ?_ GE188.out) | exact HB.out)) hb)
            clear HO_7
            clear HL198_0
            clear BK188
            clear HR198_0
            clear HB
            have HO_7 := n0_
            have HL198_0 := n1_
            have BK188 := n3_
            have HR198_0 := n4_
            have HB := n6_
            clear n0_ n1_ n2_ n3_ n4_ n5_ n6_
            (try clear hb)
            (try clear hb2)
            (try clear hk)
            (try clear hi)
            refine hK.out _ _ ⟨(blk_cell BK188.out 0).trans rfl, (blk_cell BK188.out 1).trans rfl, HS2_, HS3_⟩ (fun hHeld => ?_)
            clear hK K
            refine norm_ (a' := ?_) ?_ ?_
            rotate_left
            ·show Act.put _ (some 56) _ = _
             simp only [Act.put, List.setIfInBounds_toArray, List.set_cons_zero, List.set_cons_succ, i64_w, i32_w]
             rfl
            refine pureB HT_ 18 57 35 524287 ?_
            refine pureB HT_ 19 58 35 1048575 ?_
            refine pureB HT_ 20 59 35 2097151 ?_
            refine skipB HT_ 21 60 35 4194303 ?_
            refine skipB HT_ 22 61 35 8388607 ?_
            refine skipB HT_ 23 62 35 16777215 ?_
            refine skipB HT_ 24 63 35 33554431 ?_
            refine skipB HT_ 25 64 35 67108863 ?_
            refine skipB HT_ 26 65 35 134217727 ?_
            refine skipB HT_ 27 66 35 268435455 ?_
            refine skipB HT_ 28 67 35 536870911 ?_
            refine skipB HT_ 29 68 35 1073741823 ?_
            refine skipB HT_ 30 69 35 2147483647 ?_
            refine skipB HT_ 31 70 35 4294967295 ?_
            refine skipB HT_ 32 71 35 8589934591 ?_
            refine skipB HT_ 33 72 35 17179869183 ?_
            refine pureB HT_ 34 73 35 34359738367 ?_
            refine done_ (done_of HT_.out (by kernel_rfl)) ?_
            try go_wp2
            go_meet
            case rel => exact ⟨_, (true), (by first | rfl | (simp; done) | (simp [*]; done)), H', ⟨by have := HJ5.out; have := HK2.out; first | omega | exact Nat.le_refl _⟩, ⟨by (with_reducible repeat (first | apply Kd.S_alloc | apply Kd.S_drewN | apply Kd.S_drew)); exact HO_7.out⟩, ⟨by (with_reducible repeat (first | refine blk_drewN ?_ _ | refine blk_drew ?_ | refine blk_alloc ?_ _)); exact BK188.out⟩, ⟨by repeat (first | (with_reducible first | exact HB.out | apply below_alloc | apply pw_below_drewN | apply below_drew1 | refine below_set ?_ GE188.out) | exact HB.out)⟩⟩
          ·replace c37 := Bool.eq_false_iff.mpr c37
           subst c37
           have H1 : (eponymlaw19_VariantsAlike.j2 k2 l1 l2 t193 x8_2 x9_2 true a0_0 l0_1) = some r := by rw [if_neg (show ¬ (false = true) by decide)] at H; exact H
           clear H
           have H := H1
           clear H1
           have H' := Aside0.mk H
           clear H
           try go_wp2
           have n0_ := Aside0.mk (Kd.S_drew HO_7.out)
           have n1_ := Aside0.mk (blk_drew BK188.out)
           have n2_ := Aside0.mk (below_drew1 HB.out)
           clear HO_7
           clear BK188
           clear HB
           have HO_7 := n0_
           have BK188 := n1_
           have HB := n2_
           clear n0_ n1_ n2_
           have p198 : 0 ≤ (x9_2 : Int) := of_decide_eq_true (by first | (with_reducible assumption) | assumption)
           have q198 : x9_2 < (t193.length : Int) := of_decide_eq_true (by first | (with_reducible assumption) | assumption)
           obtain ⟨ad198, A198_0, c198_0, e198, hx198_0, hl198_0, hi198_0⟩ := at_L1 (Kd.S_reads' HO_7.out).2.2 x9_2 p198 q198
           cases e198
           obtain ⟨ce198, hce198, hMe198, hcc198⟩ := Kd.S_get HO_7.out [] x9_2 p198 (by first | exact q198 | exact of_decide_eq_true (by first | (with_reducible assumption) | assumption) | (have e_ := (Kd.S_reads' HO_7.out).1; omega))
           obtain ⟨ve198_0, rfl, ge198_0⟩ := hMe198
           have hv198_0 := hcc198 0 _ rfl
           rw [Nat.add_zero, show ((Kd.slice 21 (Kd.int .i32))).sz = 1 from rfl, Nat.mul_one] at hv198_0
           replace hv198_0 := Option.some.inj (hv198_0.symm.trans hx198_0)
           rw [hv198_0] at ge198_0
           have HL198_0 := Aside0.mk (show Kd.R (Kd.int .i32) 21 _ _ _ _ (rd_L1 t193 x9_2) from ge198_0)
           clear hv198_0 ge198_0
           clear hcc198 hce198
           have HR198_0 := Aside0.mk hi198_0
           have HC198_0 := Aside0.mk hl198_0
           clear hi198_0 hl198_0
           replace p198 := eq_true p198
           replace q198 := eq_true q198
           refine start_ (n := 35) (S := fun w' => w'.cell? ⟨gb188, 0, none⟩ = some (.string a0_0) ∧ w'.cell? ⟨gb188, 1, none⟩ = some (.slice A0_1 l0_1.length c0_1) ∧ w'.cell? (ad198.add (x9_2).toNat) = some (.slice A198_0 (rd_L1 t193 x9_2).length c198_0)) (ds := []) (bv 35 0) (by kernel_rfl) rfl rfl ⟨(blk_cell BK188.out 0).trans rfl, (blk_cell BK188.out 1).trans rfl, hx198_0⟩ (fun hHeld => ?_); refine with_tabW eponymlaw19_VariantsAlike.tab10 eponymlaw19_VariantsAlike.bits10 (fun HT_ HW_ => ?_)
           generalize wr.drew = w58 at HO_7 BK188 HB HL198_0 HR198_0 hx198_0 hHeld ⊢
           refine pureB HT_ 1 40 35 2 ?_
           refine pureB HT_ 2 41 35 6 ?_
           refine pureB HT_ 3 42 35 14 ?_
           refine pureB HT_ 5 44 35 46 ?_
           refine takeB3 HT_ HW_ 0 39 35 47 hHeld ?_
           refine takeB3 HT_ HW_ 4 43 35 63 hHeld ?_
           refine one_ (i := 6) (N := some 45) (bv 35 127) rfl rfl (one_of HT_.out (by kernel_rfl)) (by decide) (fun K hK => ?_)
           refine goes_ Tryd.func9 (by kernel_rfl) rfl #[.agg #[.string a0_0, .slice A0_1 l0_1.length c0_1], .slice A198_0 (rd_L1 t193 x9_2).length c198_0, .slice A1 l1.length c1] (by rfl) rfl rfl (by (try simp only [List.map_toArray, List.map_cons, List.map_nil]); first | done | rfl | (simp only [List.length_drop, List.length_take]; rfl)) ?_
           with_reducible refine (variants_Same.calls k2 a0_0 _ _ l0_1 _ _ (rd_L1 t193 x9_2) _ _ l1 false _ ?side1 ?side2 ?side3 ?side4 ?side5 ?side6 A36.out).mono ?_
           (case side1 => repeat (first | exact (Kd.C_below HR0_1.out HB.out) | (with_reducible refine Kd.C_alloc ?_ _) | (with_reducible refine Kd.C_drewN ?_ _) | (with_reducible refine Kd.C_drew ?_)))
           (case side2 => exact HC0_1.out)
           (case side3 => repeat (first | exact (by repeat (first | (with_reducible exact HR198_0.out) | (with_reducible refine Kd.C_alloc ?_ _) | (with_reducible refine Kd.C_drewN ?_ _) | (with_reducible refine Kd.C_drew ?_) | exact HR198_0.out)) | (with_reducible refine Kd.C_alloc ?_ _) | (with_reducible refine Kd.C_drewN ?_ _) | (with_reducible refine Kd.C_drew ?_)))
           (case side4 => exact HC198_0.out)
           (case side5 => repeat (first | exact (Kd.C_below HR1.out HB.out) | (with_reducible refine Kd.C_alloc ?_ _) | (with_reducible refine Kd.C_drewN ?_ _) | (with_reducible refine Kd.C_drew ?_)))
           (case side6 => exact HC1.out)
           rintro e w59 ⟨rfl, hb⟩
           have HS2_ := (hb.cell (World.block_lt_of_cell? _ _ (hHeld.2.2))).trans (hHeld.2.2)
           refine ⟨_, rfl, ?_⟩
           have n0_ := Aside0.mk (Kd.S_below (by (with_reducible repeat (first | apply Kd.S_alloc | apply Kd.S_drewN | apply Kd.S_drew)); exact HO_7.out) hb)
           have n1_ := Aside0.mk (Kd.R_below (by (with_reducible repeat (first | apply Kd.R_alloc | apply Kd.R_drewN | apply Kd.R_drew)); exact HL198_0.out) hb)
           have n2_ := Aside0.mk (blk_below (g := gb188) (o := .cells #[.string a0_0, .slice A0_1 l0_1.length c0_1] 24 (0, 0)) (by (with_reducible repeat (first | refine blk_drewN ?_ _ | refine blk_drew ?_ | refine blk_alloc ?_ _)); exact BK188.out) hb)
           have n3_ := Aside0.mk (Kd.C_below (by repeat (first | (with_reducible exact HR198_0.out) | (with_reducible refine Kd.C_alloc ?_ _) | (with_reducible refine Kd.C_drewN ?_ _) | (with_reducible refine Kd.C_drew ?_) | exact HR198_0.out)) hb)
           have n4_ := Aside0.mk (below_step (by repeat (first | (with_reducible first | exact HB.out | apply below_alloc | apply pw_below_drewN | apply below_drew1 | refine below_set ?_ GE188.out) | exact HB.out)) hb)
           clear HO_7
           clear HL198_0
           clear BK188
           clear HR198_0
           clear HB
           have HO_7 := n0_
           have HL198_0 := n1_
           have BK188 := n2_
           have HR198_0 := n3_
           have HB := n4_
           clear n0_ n1_ n2_ n3_ n4_
           (try clear hb)
           (try clear hb2)
           (try clear hk)
           (try clear hi)
           refine hK.out _ _ ⟨(blk_cell BK188.out 0).trans rfl, (blk_cell BK188.out 1).trans rfl, HS2_⟩ (fun hHeld => ?_)
           clear hK K
           refine norm_ (a' := ?_) ?_ ?_
           rotate_left
           ·show Act.put _ (some 45) _ = _
            simp only [Act.put, List.setIfInBounds_toArray, List.set_cons_zero, List.set_cons_succ, i64_w, i32_w]
            rfl
           refine pureB HT_ 7 46 35 255 ?_
           refine pureB HT_ 8 47 35 511 ?_
           refine skipB HT_ 9 48 35 1023 ?_
           refine skipB HT_ 10 49 35 2047 ?_
           refine skipB HT_ 11 50 35 4095 ?_
           refine skipB HT_ 12 51 35 8191 ?_
           refine skipB HT_ 13 52 35 16383 ?_
           refine skipB HT_ 14 53 35 32767 ?_
           refine skipB HT_ 15 54 35 65535 ?_
           refine skipB HT_ 16 55 35 131071 ?_
           refine skipB HT_ 17 56 35 262143 ?_
           refine skipB HT_ 18 57 35 524287 ?_
           refine pureB HT_ 19 58 35 1048575 ?_
           refine pureB HT_ 20 59 35 2097151 ?_
           refine skipB HT_ 21 60 35 4194303 ?_
           refine skipB HT_ 22 61 35 8388607 ?_
           refine skipB HT_ 23 62 35 16777215 ?_
           refine skipB HT_ 24 63 35 33554431 ?_
           refine skipB HT_ 25 64 35 67108863 ?_
           refine skipB HT_ 26 65 35 134217727 ?_
           refine skipB HT_ 27 66 35 268435455 ?_
           refine skipB HT_ 28 67 35 536870911 ?_
           refine skipB HT_ 29 68 35 1073741823 ?_
           refine skipB HT_ 30 69 35 2147483647 ?_
           refine skipB HT_ 31 70 35 4294967295 ?_
           refine skipB HT_ 32 71 35 8589934591 ?_
           refine skipB HT_ 33 72 35 17179869183 ?_
           refine pureB HT_ 34 73 35 34359738367 ?_
           refine done_ (done_of HT_.out (by kernel_rfl)) ?_
           try go_wp2
           go_meet
           case rel => exact ⟨_, (true), (by first | rfl | (simp; done) | (simp [*]; done)), H', ⟨by have := HJ5.out; have := HK2.out; first | omega | exact Nat.le_refl _⟩, ⟨by (with_reducible repeat (first | apply Kd.S_alloc | apply Kd.S_drewN | apply Kd.S_drew)); exact HO_7.out⟩, ⟨by (with_reducible repeat (first | refine blk_drewN ?_ _ | refine blk_drew ?_ | refine blk_alloc ?_ _)); exact BK188.out⟩, ⟨by repeat (first | (with_reducible first | exact HB.out | apply below_alloc | apply pw_below_drewN | apply below_drew1 | refine below_set ?_ GE188.out) | exact HB.out)⟩⟩
         ·rw [if_neg c35] at H
          exact absurd H (by simp)
        case rest =>
         clear HC33
         try clear c1
         try clear p1
         try clear q1
         try clear hx1
         try clear c2
         try clear p2
         try clear c3
         try clear c9
         try clear c10
         try clear c19
         try clear p19
         try clear q19
         try clear hx19
         try clear c20
         try clear c35
         try clear c37
         try clear hx198_0
         try clear p198
         try clear q198
         obtain ⟨kq, x73_32, rfl, HA, HJ32, HO_7, BK188, HB⟩ := hcut
         cases kq with
         | zero => exact absurd HA.out (by simp [eponymlaw19_VariantsAlike.j2])
         | succ kj32 =>
          have H := HA.out
          clear HA
          simp only [eponymlaw19_VariantsAlike.j2] at H
          by_cases c60 : x73_32 = true
          ·subst c60
           have H1 : (some false) = some r := by rw [if_pos rfl] at H; exact H
           clear H
           have H := H1
           clear H1
           obtain rfl := Option.some.inj H
           go_wp2
           go_ret
           exact ⟨by first | rfl | (simp [errV_none, errV_some] <;> rfl) | (simp [*, errV_none, errV_some] <;> rfl), by repeat (first | (with_reducible first | exact HB.out | apply below_alloc | apply pw_below_drewN | apply below_drew1 | refine below_set ?_ GE188.out) | exact HB.out)⟩
          ·replace c60 := Bool.eq_false_iff.mpr c60
           subst c60
           have H1 : (if x9_2 > 0 then (eponymlaw19_VariantsAlike.l1 kj32 l1 l2 t193 x8_2 x9_2 0 a0_0 l0_1) else (if x8_2 = true then (eponymlaw19_VariantsAlike.l0 kj32 l1 l2 t193 true (wrap64 (x9_2 + 1)) a0_0 l0_1) else (if 0 ≤ x9_2 then (if x9_2 < (t193.length : Int) then ((eponymlaw01_Same.f kj32 (rd_L1 t193 x9_2) l2).bind fun t225 => (eponymlaw19_VariantsAlike.l0 kj32 l1 l2 t193 t225 (wrap64 (x9_2 + 1)) a0_0 l0_1)) else (none)) else (none)))) = some r := by rw [if_neg (show ¬ (false = true) by decide)] at H; exact H
           clear H
           have H := H1
           clear H1
           by_cases c61 : x9_2 > 0
           ·rw [if_pos c61] at H
            have c61b0 : decide (0 < x9_2) = true := decide_eq_true c61
            clear c61
            have H' := Aside0.mk H
            clear H
            go_wp2
            go_loopg [10] kj32 (fun kq v10 w' => ∃ (x10_4 : Int), v10 = .int .i64 x10_4 ∧ Aside0 (eponymlaw19_VariantsAlike.l1 kq l1 l2 t193 x8_2 x9_2 x10_4 a0_0 l0_1 = some r) ∧ Aside0 (kq ≤ kj32) ∧ Aside0 (Kd.S (Kd.slice 21 (Kd.int .i32)) 25 w' w.heap.size (fun _ => True) (.slice Ao34 t193.length co34) t193) ∧ Aside0 (w'.heap[gb188]? = some (.cells #[.string a0_0, (.slice A0_1 l0_1.length c0_1)] 24 (0, 0))) ∧ Aside0 (Below w.heap.size w w'))
            case atStart => exact ⟨(0), (by first | rfl | (simp; done) | (simp [*]; done)), H', ⟨Nat.le_refl _⟩, ⟨by (with_reducible repeat (first | apply Kd.S_alloc | apply Kd.S_drewN | apply Kd.S_drew)); exact HO_7.out⟩, ⟨by (with_reducible repeat (first | refine blk_drewN ?_ _ | refine blk_drew ?_ | refine blk_alloc ?_ _)); exact BK188.out⟩, ⟨by repeat (first | (with_reducible first | exact HB.out | apply below_alloc | apply pw_below_drewN | apply below_drew1 | refine below_set ?_ GE188.out) | exact HB.out)⟩⟩
            case round =>
             clear H'
             try clear c1
             try clear p1
             try clear q1
             try clear hx1
             try clear c2
             try clear p2
             try clear c3
             try clear c6
             try clear p6
             try clear c9
             try clear c10
             try clear c19
             try clear p19
             try clear q19
             try clear hx19
             try clear c20
             try clear c35
             try clear c37
             try clear c60
             try clear c61
             try clear c61b0
             try clear hx198_0
             try clear p1
             try clear p19
             try clear p198
             try clear p2
             try clear q1
             try clear q19
             try clear q198
             obtain ⟨x10_4, rfl, HA, HK4, HO_7, BK188, HB⟩ := hrel
             cases gk with
             | zero => exact absurd HA.out (by simp [eponymlaw19_VariantsAlike.l1])
             | succ k4 =>
              have H := HA.out
              clear HA
              simp only [eponymlaw19_VariantsAlike.l1] at H
              by_cases c62 : x10_4 < (l1.length : Int)
              ·rw [if_pos c62] at H
               have c62b0 : decide (x10_4 < (l1.length : Int)) = true := decide_eq_true c62
               clear c62
               by_cases c63 : 0 ≤ x9_2
               ·rw [if_pos c63] at H
                have c63b0 : decide (0 ≤ x9_2) = true := decide_eq_true c63
                clear c63
                by_cases c64 : x9_2 < (t193.length : Int)
                ·rw [if_pos c64] at H
                 have c64b0 : decide (x9_2 < (t193.length : Int)) = true := decide_eq_true c64
                 clear c64
                 by_cases c65 : 0 ≤ x10_4
                 ·rw [if_pos c65] at H
                  have c65b0 : decide (0 ≤ x10_4) = true := decide_eq_true c65
                  clear c65
                  by_cases c66 : x10_4 < ((rd_L1 t193 x9_2).length : Int)
                  ·rw [if_pos c66] at H
                   have c66b0 : decide (x10_4 < ((rd_L1 t193 x9_2).length : Int)) = true := decide_eq_true c66
                   clear c66
                   obtain ⟨ji67, hji67⟩ : ∃ j_ : Int, (wrap64 (x9_2 - 1)) = j_ := ⟨_, rfl⟩
                   replace H : (if 0 ≤ (ji67) then (if (ji67) < (t193.length : Int) then (if x10_4 < ((rd_L1 t193 (ji67)).length : Int) then (if (rd (rd_L1 t193 x9_2) x10_4) = (rd (rd_L1 t193 (ji67)) x10_4) then (eponymlaw19_VariantsAlike.l1 k4 l1 l2 t193 x8_2 x9_2 (wrap64 (x10_4 + 1)) a0_0 l0_1) else (if x10_4 = (l1.length : Int) then (some false) else (if (rd (rd_L1 t193 x9_2) x10_4) < (rd (rd_L1 t193 (ji67)) x10_4) then (some false) else (if x8_2 = true then (eponymlaw19_VariantsAlike.l0 k4 l1 l2 t193 true (wrap64 (x9_2 + 1)) a0_0 l0_1) else ((eponymlaw01_Same.f k4 (rd_L1 t193 x9_2) l2).bind fun t217 => (eponymlaw19_VariantsAlike.l0 k4 l1 l2 t193 t217 (wrap64 (x9_2 + 1)) a0_0 l0_1)))))) else (none)) else (none)) else (none)) = some r := by first | (rw [hji67] at H; exact H) | (simp only [hji67] at H ⊢; exact H)
                   have hji67w : (IntKind.i64.wrap (x9_2 - 1)) = ji67 := (i64_w _).trans hji67
                   by_cases c68 : 0 ≤ (ji67)
                   ·rw [if_pos c68] at H
                    have c68b0 : decide (0 ≤ (ji67)) = true := decide_eq_true c68
                    clear c68
                    by_cases c69 : (ji67) < (t193.length : Int)
                    ·rw [if_pos c69] at H
                     have c69b0 : decide ((ji67) < (t193.length : Int)) = true := decide_eq_true c69
                     clear c69
                     by_cases c70 : x10_4 < ((rd_L1 t193 (ji67)).length : Int)
                     ·rw [if_pos c70] at H
                      have c70b0 : decide (x10_4 < ((rd_L1 t193 (ji67)).length : Int)) = true := decide_eq_true c70
                      clear c70
                      by_cases c71 : (rd (rd_L1 t193 x9_2) x10_4) = (rd (rd_L1 t193 (ji67)) x10_4)
                      ·rw [if_pos c71] at H
                       have c71b0 : ((rd (rd_L1 t193 x9_2) x10_4) == (rd (rd_L1 t193 (ji67)) x10_4)) = true := beq_iff_eq.mpr c71
                       have c71b1 : ((rd (rd_L1 t193 x9_2) x10_4) != (rd (rd_L1 t193 (ji67)) x10_4)) = false := bne_eq_false_iff_eq.mpr c71
                       clear c71
                       have H' := Aside0.mk H
                       clear H
                       try go_wp2
                       have n0_ := Aside0.mk (Kd.S_drew HO_7.out)
                       have n1_ := Aside0.mk (blk_drew BK188.out)
                       have n2_ := Aside0.mk (below_drew1 HB.out)
                       clear HO_7
                       clear BK188
                       clear HB
                       have HO_7 := n0_
                       have BK188 := n1_
                       have HB := n2_
                       clear n0_ n1_ n2_
                       have p208 : 0 ≤ (x9_2 : Int) := of_decide_eq_true (by first | (with_reducible assumption) | assumption)
                       have q208 : x9_2 < (t193.length : Int) := of_decide_eq_true (by first | (with_reducible assumption) | assumption)
                       obtain ⟨ad208, A208_0, c208_0, e208, hx208_0, hl208_0, hi208_0⟩ := at_L1 (Kd.S_reads' HO_7.out).2.2 x9_2 p208 q208
                       cases e208
                       obtain ⟨ce208, hce208, hMe208, hcc208⟩ := Kd.S_get HO_7.out [] x9_2 p208 (by first | exact q208 | exact of_decide_eq_true (by first | (with_reducible assumption) | assumption) | (have e_ := (Kd.S_reads' HO_7.out).1; omega))
                       obtain ⟨ve208_0, rfl, ge208_0⟩ := hMe208
                       have hv208_0 := hcc208 0 _ rfl
                       rw [Nat.add_zero, show ((Kd.slice 21 (Kd.int .i32))).sz = 1 from rfl, Nat.mul_one] at hv208_0
                       replace hv208_0 := Option.some.inj (hv208_0.symm.trans hx208_0)
                       rw [hv208_0] at ge208_0
                       have HL208_0 := Aside0.mk (show Kd.R (Kd.int .i32) 21 _ _ _ _ (rd_L1 t193 x9_2) from ge208_0)
                       clear hv208_0 ge208_0
                       clear hcc208 hce208
                       have HR208_0 := Aside0.mk hi208_0
                       have HC208_0 := Aside0.mk hl208_0
                       clear hi208_0 hl208_0
                       replace p208 := eq_true p208
                       replace q208 := eq_true q208
                       have p209 : 0 ≤ (x10_4 : Int) := of_decide_eq_true (by first | (with_reducible assumption) | assumption)
                       have q209 : x10_4 < ((rd_L1 t193 x9_2).length : Int) := of_decide_eq_true (by first | (with_reducible assumption) | assumption)
                       obtain ⟨ad209, e209, hx209_0⟩ := Kd.at_int (by repeat (first | (with_reducible exact HR208_0.out) | (with_reducible refine Kd.C_alloc ?_ _) | (with_reducible refine Kd.C_drewN ?_ _) | (with_reducible refine Kd.C_drew ?_) | exact HR208_0.out)) x10_4 p209 q209
                       cases e209
                       replace p209 := eq_true p209
                       replace q209 := eq_true q209
                       have p210 : 0 ≤ ((ji67) : Int) := of_decide_eq_true (by first | (with_reducible assumption) | assumption)
                       have q210 : (ji67) < (t193.length : Int) := of_decide_eq_true (by first | (with_reducible assumption) | assumption)
                       obtain ⟨ad210, A210_0, c210_0, e210, hx210_0, hl210_0, hi210_0⟩ := at_L1 (Kd.S_reads' HO_7.out).2.2 (ji67) p210 q210
                       obtain rfl : ad208 = ad210 := (by injection e210)
                       obtain ⟨ce210, hce210, hMe210, hcc210⟩ := Kd.S_get HO_7.out [] (ji67) p210 (by first | exact q210 | exact of_decide_eq_true (by first | (with_reducible assumption) | assumption) | (have e_ := (Kd.S_reads' HO_7.out).1; omega))
                       obtain ⟨ve210_0, rfl, ge210_0⟩ := hMe210
                       have hv210_0 := hcc210 0 _ rfl
                       rw [Nat.add_zero, show ((Kd.slice 21 (Kd.int .i32))).sz = 1 from rfl, Nat.mul_one] at hv210_0
                       replace hv210_0 := Option.some.inj (hv210_0.symm.trans hx210_0)
                       rw [hv210_0] at ge210_0
                       have HL210_0 := Aside0.mk (show Kd.R (Kd.int .i32) 21 _ _ _ _ (rd_L1 t193 (ji67)) from ge210_0)
                       clear hv210_0 ge210_0
                       clear hcc210 hce210
                       have HR210_0 := Aside0.mk hi210_0
                       have HC210_0 := Aside0.mk hl210_0
                       clear hi210_0 hl210_0
                       replace p210 := eq_true p210
                       replace q210 := eq_true q210
                       have p211 : 0 ≤ (x10_4 : Int) := of_decide_eq_true (by first | (with_reducible assumption) | assumption)
                       have q211 : x10_4 < ((rd_L1 t193 (ji67)).length : Int) := of_decide_eq_true (by first | (with_reducible assumption) | assumption)
                       obtain ⟨ad211, e211, hx211_0⟩ := Kd.at_int (by repeat (first | (with_reducible exact HR210_0.out) | (with_reducible refine Kd.C_alloc ?_ _) | (with_reducible refine Kd.C_drewN ?_ _) | (with_reducible refine Kd.C_drew ?_) | exact HR210_0.out)) x10_4 p211 q211
                       cases e211
                       replace p211 := eq_true p211
                       replace q211 := eq_true q211
                       refine start_ (n := 22) (S := fun w' => w'.cell? (ad208.add (x9_2).toNat) = some (.slice (some ad209) (rd_L1 t193 x9_2).length c208_0) ∧ w'.cell? (ad209.add (x10_4).toNat) = some (.int .i32 (rd (rd_L1 t193 x9_2) x10_4)) ∧ w'.cell? (ad208.add ((ji67)).toNat) = some (.slice (some ad211) (rd_L1 t193 (ji67)).length c210_0) ∧ w'.cell? (ad211.add (x10_4).toNat) = some (.int .i32 (rd (rd_L1 t193 (ji67)) x10_4))) (ds := []) (bv 22 0) (by kernel_rfl) rfl rfl ⟨hx208_0, hx209_0, hx210_0, hx211_0⟩ (fun hHeld => ?_); refine with_tabW eponymlaw19_VariantsAlike.tab14 eponymlaw19_VariantsAlike.bits14 (fun HT_ HW_ => ?_)
                       generalize wr.drew = w72 at HO_7 BK188 HB HL208_0 HL210_0 HR208_0 HR210_0 hx208_0 hx209_0 hx210_0 hx211_0 hHeld ⊢
                       refine pureB HT_ 0 76 22 1 ?_
                       refine pureB HT_ 1 77 22 3 ?_
                       refine pureB HT_ 2 78 22 7 ?_
                       refine pureB HT_ 3 79 22 15 ?_
                       refine pureB HT_ 4 80 22 31 ?_
                       refine pureB HT_ 5 81 22 63 ?_
                       refine pureB HT_ 6 82 22 127 ?_
                       refine pureB HT_ 7 83 22 255 ?_
                       refine pureB HT_ 9 85 22 767 ?_
                       refine pureB HT_ 12 88 22 4863 ?_
                       refine pureB HT_ 13 89 22 13055 ?_
                       refine pureB HT_ 14 90 22 29439 ?_
                       refine pureB HT_ 15 91 22 62207 ?_
                       refine pureB HT_ 17 93 22 193279 ?_
                       refine takeB4 HT_ HW_ 8 84 22 193535 hHeld ?_
                       refine pureB HT_ 10 86 22 194559 ?_
                       refine takeB4 HT_ HW_ 11 87 22 196607 hHeld ?_
                       refine takeB4 HT_ HW_ 16 92 22 262143 hHeld ?_
                       refine pureB HT_ 18 94 22 524287 ?_
                       refine takeB4 HT_ HW_ 19 95 22 1048575 hHeld ?_
                       refine pureB HT_ 20 96 22 2097151 ?_
                       refine pureB HT_ 21 97 22 4194303 ?_
                       refine done_ (done_of HT_.out (by kernel_rfl)) ?_
                       try go_wp2
                       go_roundg k4
                       case measure => have := HJ5.out; have := HK2.out; have := HJ32.out; have := HK4.out; omega
                       case rel => exact ⟨(wrap64 (x10_4 + 1)), (by first | rfl | (simp; done) | (simp [*]; done)), H', ⟨by have := HJ5.out; have := HK2.out; have := HJ32.out; have := HK4.out; omega⟩, ⟨by (with_reducible repeat (first | apply Kd.S_alloc | apply Kd.S_drewN | apply Kd.S_drew)); exact HO_7.out⟩, ⟨by (with_reducible repeat (first | refine blk_drewN ?_ _ | refine blk_drew ?_ | refine blk_alloc ?_ _)); exact BK188.out⟩, ⟨by repeat (first | (with_reducible first | exact HB.out | apply below_alloc | apply pw_below_drewN | apply below_drew1 | refine below_set ?_ GE188.out) | exact HB.out)⟩⟩
                      ·rw [if_neg c71] at H
                       have c71b0 : ((rd (rd_L1 t193 x9_2) x10_4) == (rd (rd_L1 t193 (ji67)) x10_4)) = false := beq_eq_false_iff_ne.mpr c71
                       have c71b1 : ((rd (rd_L1 t193 x9_2) x10_4) != (rd (rd_L1 t193 (ji67)) x10_4)) = true := bne_iff_ne.mpr c71
                       by_cases c73 : x10_4 = (l1.length : Int)
                       ·rw [if_pos c73] at H
                        have c73b0 : (x10_4 == (l1.length : Int)) = true := beq_iff_eq.mpr c73
                        have c73b1 : (x10_4 != (l1.length : Int)) = false := bne_eq_false_iff_eq.mpr c73
                        clear c73
                        obtain rfl := Option.some.inj H
                        try go_wp2
                        have n0_ := Aside0.mk (Kd.S_drew HO_7.out)
                        have n1_ := Aside0.mk (blk_drew BK188.out)
                        have n2_ := Aside0.mk (below_drew1 HB.out)
                        clear HO_7
                        clear BK188
                        clear HB
                        have HO_7 := n0_
                        have BK188 := n1_
                        have HB := n2_
                        clear n0_ n1_ n2_
                        have p208 : 0 ≤ (x9_2 : Int) := of_decide_eq_true (by first | (with_reducible assumption) | assumption)
                        have q208 : x9_2 < (t193.length : Int) := of_decide_eq_true (by first | (with_reducible assumption) | assumption)
                        obtain ⟨ad208, A208_0, c208_0, e208, hx208_0, hl208_0, hi208_0⟩ := at_L1 (Kd.S_reads' HO_7.out).2.2 x9_2 p208 q208
                        cases e208
                        obtain ⟨ce208, hce208, hMe208, hcc208⟩ := Kd.S_get HO_7.out [] x9_2 p208 (by first | exact q208 | exact of_decide_eq_true (by first | (with_reducible assumption) | assumption) | (have e_ := (Kd.S_reads' HO_7.out).1; omega))
                        obtain ⟨ve208_0, rfl, ge208_0⟩ := hMe208
                        have hv208_0 := hcc208 0 _ rfl
                        rw [Nat.add_zero, show ((Kd.slice 21 (Kd.int .i32))).sz = 1 from rfl, Nat.mul_one] at hv208_0
                        replace hv208_0 := Option.some.inj (hv208_0.symm.trans hx208_0)
                        rw [hv208_0] at ge208_0
                        have HL208_0 := Aside0.mk (show Kd.R (Kd.int .i32) 21 _ _ _ _ (rd_L1 t193 x9_2) from ge208_0)
                        clear hv208_0 ge208_0
                        clear hcc208 hce208
                        have HR208_0 := Aside0.mk hi208_0
                        have HC208_0 := Aside0.mk hl208_0
                        clear hi208_0 hl208_0
                        replace p208 := eq_true p208
                        replace q208 := eq_true q208
                        have p209 : 0 ≤ (x10_4 : Int) := of_decide_eq_true (by first | (with_reducible assumption) | assumption)
                        have q209 : x10_4 < ((rd_L1 t193 x9_2).length : Int) := of_decide_eq_true (by first | (with_reducible assumption) | assumption)
                        obtain ⟨ad209, e209, hx209_0⟩ := Kd.at_int (by repeat (first | (with_reducible exact HR208_0.out) | (with_reducible refine Kd.C_alloc ?_ _) | (with_reducible refine Kd.C_drewN ?_ _) | (with_reducible refine Kd.C_drew ?_) | exact HR208_0.out)) x10_4 p209 q209
                        cases e209
                        replace p209 := eq_true p209
                        replace q209 := eq_true q209
                        have p210 : 0 ≤ ((ji67) : Int) := of_decide_eq_true (by first | (with_reducible assumption) | assumption)
                        have q210 : (ji67) < (t193.length : Int) := of_decide_eq_true (by first | (with_reducible assumption) | assumption)
                        obtain ⟨ad210, A210_0, c210_0, e210, hx210_0, hl210_0, hi210_0⟩ := at_L1 (Kd.S_reads' HO_7.out).2.2 (ji67) p210 q210
                        obtain rfl : ad208 = ad210 := (by injection e210)
                        obtain ⟨ce210, hce210, hMe210, hcc210⟩ := Kd.S_get HO_7.out [] (ji67) p210 (by first | exact q210 | exact of_decide_eq_true (by first | (with_reducible assumption) | assumption) | (have e_ := (Kd.S_reads' HO_7.out).1; omega))
                        obtain ⟨ve210_0, rfl, ge210_0⟩ := hMe210
                        have hv210_0 := hcc210 0 _ rfl
                        rw [Nat.add_zero, show ((Kd.slice 21 (Kd.int .i32))).sz = 1 from rfl, Nat.mul_one] at hv210_0
                        replace hv210_0 := Option.some.inj (hv210_0.symm.trans hx210_0)
                        rw [hv210_0] at ge210_0
                        have HL210_0 := Aside0.mk (show Kd.R (Kd.int .i32) 21 _ _ _ _ (rd_L1 t193 (ji67)) from ge210_0)
                        clear hv210_0 ge210_0
                        clear hcc210 hce210
                        have HR210_0 := Aside0.mk hi210_0
                        have HC210_0 := Aside0.mk hl210_0
                        clear hi210_0 hl210_0
                        replace p210 := eq_true p210
                        replace q210 := eq_true q210
                        have p211 : 0 ≤ (x10_4 : Int) := of_decide_eq_true (by first | (with_reducible assumption) | assumption)
                        have q211 : x10_4 < ((rd_L1 t193 (ji67)).length : Int) := of_decide_eq_true (by first | (with_reducible assumption) | assumption)
                        obtain ⟨ad211, e211, hx211_0⟩ := Kd.at_int (by repeat (first | (with_reducible exact HR210_0.out) | (with_reducible refine Kd.C_alloc ?_ _) | (with_reducible refine Kd.C_drewN ?_ _) | (with_reducible refine Kd.C_drew ?_) | exact HR210_0.out)) x10_4 p211 q211
                        cases e211
                        replace p211 := eq_true p211
                        replace q211 := eq_true q211
                        refine start_ (n := 22) (S := fun w' => w'.cell? (ad208.add (x9_2).toNat) = some (.slice (some ad209) (rd_L1 t193 x9_2).length c208_0) ∧ w'.cell? (ad209.add (x10_4).toNat) = some (.int .i32 (rd (rd_L1 t193 x9_2) x10_4)) ∧ w'.cell? (ad208.add ((ji67)).toNat) = some (.slice (some ad211) (rd_L1 t193 (ji67)).length c210_0) ∧ w'.cell? (ad211.add (x10_4).toNat) = some (.int .i32 (rd (rd_L1 t193 (ji67)) x10_4))) (ds := []) (bv 22 0) (by kernel_rfl) rfl rfl ⟨hx208_0, hx209_0, hx210_0, hx211_0⟩ (fun hHeld => ?_); refine with_tabW eponymlaw19_VariantsAlike.tab14 eponymlaw19_VariantsAlike.bits14 (fun HT_ HW_ => ?_)
                        generalize wr.drew = w74 at HO_7 BK188 HB HL208_0 HL210_0 HR208_0 HR210_0 hx208_0 hx209_0 hx210_0 hx211_0 hHeld ⊢
                        refine pureB HT_ 0 76 22 1 ?_
                        refine pureB HT_ 1 77 22 3 ?_
                        refine pureB HT_ 2 78 22 7 ?_
                        refine pureB HT_ 3 79 22 15 ?_
                        refine pureB HT_ 4 80 22 31 ?_
                        refine pureB HT_ 5 81 22 63 ?_
                        refine pureB HT_ 6 82 22 127 ?_
                        refine pureB HT_ 7 83 22 255 ?_
                        refine pureB HT_ 9 85 22 767 ?_
                        refine pureB HT_ 12 88 22 4863 ?_
                        refine pureB HT_ 13 89 22 13055 ?_
                        refine pureB HT_ 14 90 22 29439 ?_
                        refine pureB HT_ 15 91 22 62207 ?_
                        refine pureB HT_ 17 93 22 193279 ?_
                        refine takeB4 HT_ HW_ 8 84 22 193535 hHeld ?_
                        refine pureB HT_ 10 86 22 194559 ?_
                        refine takeB4 HT_ HW_ 11 87 22 196607 hHeld ?_
                        refine takeB4 HT_ HW_ 16 92 22 262143 hHeld ?_
                        refine pureB HT_ 18 94 22 524287 ?_
                        refine takeB4 HT_ HW_ 19 95 22 1048575 hHeld ?_
                        refine pureB HT_ 20 96 22 2097151 ?_
                        refine pureB HT_ 21 97 22 4194303 ?_
                        refine done_ (done_of HT_.out (by kernel_rfl)) ?_
                        try go_wp2
                        have n0_ := Aside0.mk (Kd.S_drew HO_7.out)
                        have n1_ := Aside0.mk (Kd.R_drew HL208_0.out)
                        have n2_ := Aside0.mk (Kd.R_drew HL210_0.out)
                        have n3_ := Aside0.mk (blk_drew BK188.out)
                        have n4_ := Aside0.mk (Kd.C_drew HR208_0.out)
                        have n5_ := Aside0.mk (Kd.C_drew HR210_0.out)
                        have n6_ := Aside0.mk (below_drew1 HB.out)
                        clear HO_7
                        clear HL208_0
                        clear HL210_0
                        clear BK188
                        clear HR208_0
                        clear HR210_0
                        clear HB
                        have HO_7 := n0_
                        have HL208_0 := n1_
                        have HL210_0 := n2_
                        have BK188 := n3_
                        have HR208_0 := n4_
                        have HR210_0 := n5_
                        have HB := n6_
                        clear n0_ n1_ n2_ n3_ n4_ n5_ n6_
                        refine start_ (n := 22) (S := fun w' => True) (ds := []) (bv 22 0) (by kernel_rfl) rfl rfl trivial (fun hHeld => ?_); refine with_tabW eponymlaw19_VariantsAlike.tab16 eponymlaw19_VariantsAlike.bits16 (fun HT_ HW_ => ?_)
                        generalize w74.drew = w75 at HO_7 HL208_0 HL210_0 BK188 HR208_0 HR210_0 HB hHeld ⊢
                        refine pureB HT_ 0 100 22 1 ?_
                        refine pureB HT_ 1 101 22 3 ?_
                        refine pureB HT_ 2 102 22 7 ?_
                        refine pureB HT_ 3 103 22 15 ?_
                        refine pureB HT_ 4 104 22 31 ?_
                        refine skipB HT_ 5 105 22 63 ?_
                        refine skipB HT_ 6 106 22 127 ?_
                        refine skipB HT_ 7 107 22 255 ?_
                        refine skipB HT_ 8 108 22 511 ?_
                        refine skipB HT_ 9 109 22 1023 ?_
                        refine skipB HT_ 10 110 22 2047 ?_
                        refine skipB HT_ 11 111 22 4095 ?_
                        refine skipB HT_ 12 112 22 8191 ?_
                        refine skipB HT_ 13 113 22 16383 ?_
                        refine skipB HT_ 14 114 22 32767 ?_
                        refine skipB HT_ 15 115 22 65535 ?_
                        refine skipB HT_ 16 116 22 131071 ?_
                        refine skipB HT_ 17 117 22 262143 ?_
                        refine skipB HT_ 18 118 22 524287 ?_
                        refine skipB HT_ 19 119 22 1048575 ?_
                        refine skipB HT_ 20 120 22 2097151 ?_
                        refine pureB HT_ 21 121 22 4194303 ?_
                        refine done_ (done_of HT_.out (by kernel_rfl)) ?_
                        try go_wp2
                        go_ret
                        exact ⟨by first | rfl | (simp [errV_none, errV_some] <;> rfl) | (simp only [← hji67]; first | rfl | (simp [errV_none, errV_some] <;> rfl)) | (simp [*, errV_none, errV_some] <;> rfl), by repeat (first | (with_reducible first | exact HB.out | apply below_alloc | apply pw_below_drewN | apply below_drew1 | refine below_set ?_ GE188.out) | exact HB.out)⟩
                       ·rw [if_neg c73] at H
                        have c73b0 : (x10_4 == (l1.length : Int)) = false := beq_eq_false_iff_ne.mpr c73
                        have c73b1 : (x10_4 != (l1.length : Int)) = true := bne_iff_ne.mpr c73
                        by_cases c76 : (rd (rd_L1 t193 x9_2) x10_4) < (rd (rd_L1 t193 (ji67)) x10_4)
                        ·rw [if_pos c76] at H
                         have c76b0 : decide ((rd (rd_L1 t193 x9_2) x10_4) < (rd (rd_L1 t193 (ji67)) x10_4)) = true := decide_eq_true c76
                         clear c76
                         obtain rfl := Option.some.inj H
                         try go_wp2
                         have n0_ := Aside0.mk (Kd.S_drew HO_7.out)
                         have n1_ := Aside0.mk (blk_drew BK188.out)
                         have n2_ := Aside0.mk (below_drew1 HB.out)
                         clear HO_7
                         clear BK188
                         clear HB
                         have HO_7 := n0_
                         have BK188 := n1_
                         have HB := n2_
                         clear n0_ n1_ n2_
                         have p208 : 0 ≤ (x9_2 : Int) := of_decide_eq_true (by first | (with_reducible assumption) | assumption)
                         have q208 : x9_2 < (t193.length : Int) := of_decide_eq_true (by first | (with_reducible assumption) | assumption)
                         obtain ⟨ad208, A208_0, c208_0, e208, hx208_0, hl208_0, hi208_0⟩ := at_L1 (Kd.S_reads' HO_7.out).2.2 x9_2 p208 q208
                         cases e208
                         obtain ⟨ce208, hce208, hMe208, hcc208⟩ := Kd.S_get HO_7.out [] x9_2 p208 (by first | exact q208 | exact of_decide_eq_true (by first | (with_reducible assumption) | assumption) | (have e_ := (Kd.S_reads' HO_7.out).1; omega))
                         obtain ⟨ve208_0, rfl, ge208_0⟩ := hMe208
                         have hv208_0 := hcc208 0 _ rfl
                         rw [Nat.add_zero, show ((Kd.slice 21 (Kd.int .i32))).sz = 1 from rfl, Nat.mul_one] at hv208_0
                         replace hv208_0 := Option.some.inj (hv208_0.symm.trans hx208_0)
                         rw [hv208_0] at ge208_0
                         have HL208_0 := Aside0.mk (show Kd.R (Kd.int .i32) 21 _ _ _ _ (rd_L1 t193 x9_2) from ge208_0)
                         clear hv208_0 ge208_0
                         clear hcc208 hce208
                         have HR208_0 := Aside0.mk hi208_0
                         have HC208_0 := Aside0.mk hl208_0
                         clear hi208_0 hl208_0
                         replace p208 := eq_true p208
                         replace q208 := eq_true q208
                         have p209 : 0 ≤ (x10_4 : Int) := of_decide_eq_true (by first | (with_reducible assumption) | assumption)
                         have q209 : x10_4 < ((rd_L1 t193 x9_2).length : Int) := of_decide_eq_true (by first | (with_reducible assumption) | assumption)
                         obtain ⟨ad209, e209, hx209_0⟩ := Kd.at_int (by repeat (first | (with_reducible exact HR208_0.out) | (with_reducible refine Kd.C_alloc ?_ _) | (with_reducible refine Kd.C_drewN ?_ _) | (with_reducible refine Kd.C_drew ?_) | exact HR208_0.out)) x10_4 p209 q209
                         cases e209
                         replace p209 := eq_true p209
                         replace q209 := eq_true q209
                         have p210 : 0 ≤ ((ji67) : Int) := of_decide_eq_true (by first | (with_reducible assumption) | assumption)
                         have q210 : (ji67) < (t193.length : Int) := of_decide_eq_true (by first | (with_reducible assumption) | assumption)
                         obtain ⟨ad210, A210_0, c210_0, e210, hx210_0, hl210_0, hi210_0⟩ := at_L1 (Kd.S_reads' HO_7.out).2.2 (ji67) p210 q210
                         obtain rfl : ad208 = ad210 := (by injection e210)
                         obtain ⟨ce210, hce210, hMe210, hcc210⟩ := Kd.S_get HO_7.out [] (ji67) p210 (by first | exact q210 | exact of_decide_eq_true (by first | (with_reducible assumption) | assumption) | (have e_ := (Kd.S_reads' HO_7.out).1; omega))
                         obtain ⟨ve210_0, rfl, ge210_0⟩ := hMe210
                         have hv210_0 := hcc210 0 _ rfl
                         rw [Nat.add_zero, show ((Kd.slice 21 (Kd.int .i32))).sz = 1 from rfl, Nat.mul_one] at hv210_0
                         replace hv210_0 := Option.some.inj (hv210_0.symm.trans hx210_0)
                         rw [hv210_0] at ge210_0
                         have HL210_0 := Aside0.mk (show Kd.R (Kd.int .i32) 21 _ _ _ _ (rd_L1 t193 (ji67)) from ge210_0)
                         clear hv210_0 ge210_0
                         clear hcc210 hce210
                         have HR210_0 := Aside0.mk hi210_0
                         have HC210_0 := Aside0.mk hl210_0
                         clear hi210_0 hl210_0
                         replace p210 := eq_true p210
                         replace q210 := eq_true q210
                         have p211 : 0 ≤ (x10_4 : Int) := of_decide_eq_true (by first | (with_reducible assumption) | assumption)
                         have q211 : x10_4 < ((rd_L1 t193 (ji67)).length : Int) := of_decide_eq_true (by first | (with_reducible assumption) | assumption)
                         obtain ⟨ad211, e211, hx211_0⟩ := Kd.at_int (by repeat (first | (with_reducible exact HR210_0.out) | (with_reducible refine Kd.C_alloc ?_ _) | (with_reducible refine Kd.C_drewN ?_ _) | (with_reducible refine Kd.C_drew ?_) | exact HR210_0.out)) x10_4 p211 q211
                         cases e211
                         replace p211 := eq_true p211
                         replace q211 := eq_true q211
                         refine start_ (n := 22) (S := fun w' => w'.cell? (ad208.add (x9_2).toNat) = some (.slice (some ad209) (rd_L1 t193 x9_2).length c208_0) ∧ w'.cell? (ad209.add (x10_4).toNat) = some (.int .i32 (rd (rd_L1 t193 x9_2) x10_4)) ∧ w'.cell? (ad208.add ((ji67)).toNat) = some (.slice (some ad211) (rd_L1 t193 (ji67)).length c210_0) ∧ w'.cell? (ad211.add (x10_4).toNat) = some (.int .i32 (rd (rd_L1 t193 (ji67)) x10_4))) (ds := []) (bv 22 0) (by kernel_rfl) rfl rfl ⟨hx208_0, hx209_0, hx210_0, hx211_0⟩ (fun hHeld => ?_); refine with_tabW eponymlaw19_VariantsAlike.tab14 eponymlaw19_VariantsAlike.bits14 (fun HT_ HW_ => ?_)
                         generalize wr.drew = w77 at HO_7 BK188 HB HL208_0 HL210_0 HR208_0 HR210_0 hx208_0 hx209_0 hx210_0 hx211_0 hHeld ⊢
                         refine pureB HT_ 0 76 22 1 ?_
                         refine pureB HT_ 1 77 22 3 ?_
                         refine pureB HT_ 2 78 22 7 ?_
                         refine pureB HT_ 3 79 22 15 ?_
                         refine pureB HT_ 4 80 22 31 ?_
                         refine pureB HT_ 5 81 22 63 ?_
                         refine pureB HT_ 6 82 22 127 ?_
                         refine pureB HT_ 7 83 22 255 ?_
                         refine pureB HT_ 9 85 22 767 ?_
                         refine pureB HT_ 12 88 22 4863 ?_
                         refine pureB HT_ 13 89 22 13055 ?_
                         refine pureB HT_ 14 90 22 29439 ?_
                         refine pureB HT_ 15 91 22 62207 ?_
                         refine pureB HT_ 17 93 22 193279 ?_
                         refine takeB4 HT_ HW_ 8 84 22 193535 hHeld ?_
                         refine pureB HT_ 10 86 22 194559 ?_
                         refine takeB4 HT_ HW_ 11 87 22 196607 hHeld ?_
                         refine takeB4 HT_ HW_ 16 92 22 262143 hHeld ?_
                         refine pureB HT_ 18 94 22 524287 ?_
                         refine takeB4 HT_ HW_ 19 95 22 1048575 hHeld ?_
                         refine pureB HT_ 20 96 22 2097151 ?_
                         refine pureB HT_ 21 97 22 4194303 ?_
                         refine done_ (done_of HT_.out (by kernel_rfl)) ?_
                         try go_wp2
                         have n0_ := Aside0.mk (Kd.S_drew HO_7.out)
                         have n1_ := Aside0.mk (Kd.R_drew HL208_0.out)
                         have n2_ := Aside0.mk (Kd.R_drew HL210_0.out)
                         have n3_ := Aside0.mk (blk_drew BK188.out)
                         have n4_ := Aside0.mk (Kd.C_drew HR208_0.out)
                         have n5_ := Aside0.mk (Kd.C_drew HR210_0.out)
                         have n6_ := Aside0.mk (below_drew1 HB.out)
                         clear HO_7
                         clear HL208_0
                         clear HL210_0
                         clear BK188
                         clear HR208_0
                         clear HR210_0
                         clear HB
                         have HO_7 := n0_
                         have HL208_0 := n1_
                         have HL210_0 := n2_
                         have BK188 := n3_
                         have HR208_0 := n4_
                         have HR210_0 := n5_
                         have HB := n6_
                         clear n0_ n1_ n2_ n3_ n4_ n5_ n6_
                         have p212 : 0 ≤ (x9_2 : Int) := of_decide_eq_true (by first | (with_reducible assumption) | assumption)
                         have q212 : x9_2 < (t193.length : Int) := of_decide_eq_true (by first | (with_reducible assumption) | assumption)
                         obtain ⟨ad212, A212_0, c212_0, e212, hx212_0, hl212_0, hi212_0⟩ := at_L1 (Kd.S_reads' HO_7.out).2.2 x9_2 p212 q212
                         obtain rfl : ad208 = ad212 := (by injection e212)
                         obtain ⟨ce212, hce212, hMe212, hcc212⟩ := Kd.S_get HO_7.out [] x9_2 p212 (by first | exact q212 | exact of_decide_eq_true (by first | (with_reducible assumption) | assumption) | (have e_ := (Kd.S_reads' HO_7.out).1; omega))
                         obtain ⟨ve212_0, rfl, ge212_0⟩ := hMe212
                         have hv212_0 := hcc212 0 _ rfl
                         rw [Nat.add_zero, show ((Kd.slice 21 (Kd.int .i32))).sz = 1 from rfl, Nat.mul_one] at hv212_0
                         replace hv212_0 := Option.some.inj (hv212_0.symm.trans hx212_0)
                         rw [hv212_0] at ge212_0
                         have HL212_0 := Aside0.mk (show Kd.R (Kd.int .i32) 21 _ _ _ _ (rd_L1 t193 x9_2) from ge212_0)
                         clear hv212_0 ge212_0
                         clear hcc212 hce212
                         have HR212_0 := Aside0.mk hi212_0
                         have HC212_0 := Aside0.mk hl212_0
                         clear hi212_0 hl212_0
                         replace p212 := eq_true p212
                         replace q212 := eq_true q212
                         have p213 : 0 ≤ (x10_4 : Int) := of_decide_eq_true (by first | (with_reducible assumption) | assumption)
                         have q213 : x10_4 < ((rd_L1 t193 x9_2).length : Int) := of_decide_eq_true (by first | (with_reducible assumption) | assumption)
                         obtain ⟨ad213, e213, hx213_0⟩ := Kd.at_int (by repeat (first | (with_reducible exact HR212_0.out) | (with_reducible refine Kd.C_alloc ?_ _) | (with_reducible refine Kd.C_drewN ?_ _) | (with_reducible refine Kd.C_drew ?_) | exact HR212_0.out)) x10_4 p213 q213
                         cases e213
                         replace p213 := eq_true p213
                         replace q213 := eq_true q213
                         have p214 : 0 ≤ ((ji67) : Int) := of_decide_eq_true (by first | (with_reducible assumption) | assumption)
                         have q214 : (ji67) < (t193.length : Int) := of_decide_eq_true (by first | (with_reducible assumption) | assumption)
                         obtain ⟨ad214, A214_0, c214_0, e214, hx214_0, hl214_0, hi214_0⟩ := at_L1 (Kd.S_reads' HO_7.out).2.2 (ji67) p214 q214
                         obtain rfl : ad208 = ad214 := (by injection e214)
                         obtain ⟨ce214, hce214, hMe214, hcc214⟩ := Kd.S_get HO_7.out [] (ji67) p214 (by first | exact q214 | exact of_decide_eq_true (by first | (with_reducible assumption) | assumption) | (have e_ := (Kd.S_reads' HO_7.out).1; omega))
                         obtain ⟨ve214_0, rfl, ge214_0⟩ := hMe214
                         have hv214_0 := hcc214 0 _ rfl
                         rw [Nat.add_zero, show ((Kd.slice 21 (Kd.int .i32))).sz = 1 from rfl, Nat.mul_one] at hv214_0
                         replace hv214_0 := Option.some.inj (hv214_0.symm.trans hx214_0)
                         rw [hv214_0] at ge214_0
                         have HL214_0 := Aside0.mk (show Kd.R (Kd.int .i32) 21 _ _ _ _ (rd_L1 t193 (ji67)) from ge214_0)
                         clear hv214_0 ge214_0
                         clear hcc214 hce214
                         have HR214_0 := Aside0.mk hi214_0
                         have HC214_0 := Aside0.mk hl214_0
                         clear hi214_0 hl214_0
                         replace p214 := eq_true p214
                         replace q214 := eq_true q214
                         have p215 : 0 ≤ (x10_4 : Int) := of_decide_eq_true (by first | (with_reducible assumption) | assumption)
                         have q215 : x10_4 < ((rd_L1 t193 (ji67)).length : Int) := of_decide_eq_true (by first | (with_reducible assumption) | assumption)
                         obtain ⟨ad215, e215, hx215_0⟩ := Kd.at_int (by repeat (first | (with_reducible exact HR214_0.out) | (with_reducible refine Kd.C_alloc ?_ _) | (with_reducible refine Kd.C_drewN ?_ _) | (with_reducible refine Kd.C_drew ?_) | exact HR214_0.out)) x10_4 p215 q215
                         cases e215
                         replace p215 := eq_true p215
                         replace q215 := eq_true q215
                         refine start_ (n := 22) (S := fun w' => w'.cell? (ad208.add (x9_2).toNat) = some (.slice (some ad213) (rd_L1 t193 x9_2).length c212_0) ∧ w'.cell? (ad213.add (x10_4).toNat) = some (.int .i32 (rd (rd_L1 t193 x9_2) x10_4)) ∧ w'.cell? (ad208.add ((ji67)).toNat) = some (.slice (some ad215) (rd_L1 t193 (ji67)).length c214_0) ∧ w'.cell? (ad215.add (x10_4).toNat) = some (.int .i32 (rd (rd_L1 t193 (ji67)) x10_4))) (ds := []) (bv 22 0) (by kernel_rfl) rfl rfl ⟨hx212_0, hx213_0, hx214_0, hx215_0⟩ (fun hHeld => ?_); refine with_tabW eponymlaw19_VariantsAlike.tab16 eponymlaw19_VariantsAlike.bits16 (fun HT_ HW_ => ?_)
                         generalize w77.drew = w78 at HO_7 HL208_0 HL210_0 BK188 HR208_0 HR210_0 HB HL212_0 HL214_0 HR212_0 HR214_0 hx212_0 hx213_0 hx214_0 hx215_0 hHeld ⊢
                         refine pureB HT_ 0 100 22 1 ?_
                         refine pureB HT_ 1 101 22 3 ?_
                         refine pureB HT_ 2 102 22 7 ?_
                         refine pureB HT_ 3 103 22 15 ?_
                         refine pureB HT_ 4 104 22 31 ?_
                         refine pureB HT_ 5 105 22 63 ?_
                         refine pureB HT_ 6 106 22 127 ?_
                         refine pureB HT_ 7 107 22 255 ?_
                         refine pureB HT_ 9 109 22 767 ?_
                         refine pureB HT_ 12 112 22 4863 ?_
                         refine pureB HT_ 13 113 22 13055 ?_
                         refine pureB HT_ 14 114 22 29439 ?_
                         refine pureB HT_ 15 115 22 62207 ?_
                         refine pureB HT_ 17 117 22 193279 ?_
                         refine takeB4 HT_ HW_ 8 108 22 193535 hHeld ?_
                         refine pureB HT_ 10 110 22 194559 ?_
                         refine takeB4 HT_ HW_ 11 111 22 196607 hHeld ?_
                         refine takeB4 HT_ HW_ 16 116 22 262143 hHeld ?_
                         refine pureB HT_ 18 118 22 524287 ?_
                         refine takeB4 HT_ HW_ 19 119 22 1048575 hHeld ?_
                         refine pureB HT_ 20 120 22 2097151 ?_
                         refine pureB HT_ 21 121 22 4194303 ?_
                         refine done_ (done_of HT_.out (by kernel_rfl)) ?_
                         try go_wp2
                         go_ret
                         exact ⟨by first | rfl | (simp [errV_none, errV_some] <;> rfl) | (simp only [← hji67]; first | rfl | (simp [errV_none, errV_some] <;> rfl)) | (simp [*, errV_none, errV_some] <;> rfl), by repeat (first | (with_reducible first | exact HB.out | apply below_alloc | apply pw_below_drewN | apply below_drew1 | refine below_set ?_ GE188.out) | exact HB.out)⟩
                        ·rw [if_neg c76] at H
                         have c76b0 : decide ((rd (rd_L1 t193 x9_2) x10_4) < (rd (rd_L1 t193 (ji67)) x10_4)) = false := decide_eq_false c76
                         clear c76
                         by_cases c79 : x8_2 = true
                         ·subst c79
                          have H1 : (eponymlaw19_VariantsAlike.l0 k4 l1 l2 t193 true (wrap64 (x9_2 + 1)) a0_0 l0_1) = some r := by rw [if_pos rfl] at H; exact H
                          clear H
                          have H := H1
                          clear H1
                          have H' := Aside0.mk H
                          clear H
                          try go_wp2
                          have n0_ := Aside0.mk (Kd.S_drew HO_7.out)
                          have n1_ := Aside0.mk (blk_drew BK188.out)
                          have n2_ := Aside0.mk (below_drew1 HB.out)
                          clear HO_7
                          clear BK188
                          clear HB
                          have HO_7 := n0_
                          have BK188 := n1_
                          have HB := n2_
                          clear n0_ n1_ n2_
                          have p208 : 0 ≤ (x9_2 : Int) := of_decide_eq_true (by first | (with_reducible assumption) | assumption)
                          have q208 : x9_2 < (t193.length : Int) := of_decide_eq_true (by first | (with_reducible assumption) | assumption)
                          obtain ⟨ad208, A208_0, c208_0, e208, hx208_0, hl208_0, hi208_0⟩ := at_L1 (Kd.S_reads' HO_7.out).2.2 x9_2 p208 q208
                          cases e208
                          obtain ⟨ce208, hce208, hMe208, hcc208⟩ := Kd.S_get HO_7.out [] x9_2 p208 (by first | exact q208 | exact of_decide_eq_true (by first | (with_reducible assumption) | assumption) | (have e_ := (Kd.S_reads' HO_7.out).1; omega))
                          obtain ⟨ve208_0, rfl, ge208_0⟩ := hMe208
                          have hv208_0 := hcc208 0 _ rfl
                          rw [Nat.add_zero, show ((Kd.slice 21 (Kd.int .i32))).sz = 1 from rfl, Nat.mul_one] at hv208_0
                          replace hv208_0 := Option.some.inj (hv208_0.symm.trans hx208_0)
                          rw [hv208_0] at ge208_0
                          have HL208_0 := Aside0.mk (show Kd.R (Kd.int .i32) 21 _ _ _ _ (rd_L1 t193 x9_2) from ge208_0)
                          clear hv208_0 ge208_0
                          clear hcc208 hce208
                          have HR208_0 := Aside0.mk hi208_0
                          have HC208_0 := Aside0.mk hl208_0
                          clear hi208_0 hl208_0
                          replace p208 := eq_true p208
                          replace q208 := eq_true q208
                          have p209 : 0 ≤ (x10_4 : Int) := of_decide_eq_true (by first | (with_reducible assumption) | assumption)
                          have q209 : x10_4 < ((rd_L1 t193 x9_2).length : Int) := of_decide_eq_true (by first | (with_reducible assumption) | assumption)
                          obtain ⟨ad209, e209, hx209_0⟩ := Kd.at_int (by repeat (first | (with_reducible exact HR208_0.out) | (with_reducible refine Kd.C_alloc ?_ _) | (with_reducible refine Kd.C_drewN ?_ _) | (with_reducible refine Kd.C_drew ?_) | exact HR208_0.out)) x10_4 p209 q209
                          cases e209
                          replace p209 := eq_true p209
                          replace q209 := eq_true q209
                          have p210 : 0 ≤ ((ji67) : Int) := of_decide_eq_true (by first | (with_reducible assumption) | assumption)
                          have q210 : (ji67) < (t193.length : Int) := of_decide_eq_true (by first | (with_reducible assumption) | assumption)
                          obtain ⟨ad210, A210_0, c210_0, e210, hx210_0, hl210_0, hi210_0⟩ := at_L1 (Kd.S_reads' HO_7.out).2.2 (ji67) p210 q210
                          obtain rfl : ad208 = ad210 := (by injection e210)
                          obtain ⟨ce210, hce210, hMe210, hcc210⟩ := Kd.S_get HO_7.out [] (ji67) p210 (by first | exact q210 | exact of_decide_eq_true (by first | (with_reducible assumption) | assumption) | (have e_ := (Kd.S_reads' HO_7.out).1; omega))
                          obtain ⟨ve210_0, rfl, ge210_0⟩ := hMe210
                          have hv210_0 := hcc210 0 _ rfl
                          rw [Nat.add_zero, show ((Kd.slice 21 (Kd.int .i32))).sz = 1 from rfl, Nat.mul_one] at hv210_0
                          replace hv210_0 := Option.some.inj (hv210_0.symm.trans hx210_0)
                          rw [hv210_0] at ge210_0
                          have HL210_0 := Aside0.mk (show Kd.R (Kd.int .i32) 21 _ _ _ _ (rd_L1 t193 (ji67)) from ge210_0)
                          clear hv210_0 ge210_0
                          clear hcc210 hce210
                          have HR210_0 := Aside0.mk hi210_0
                          have HC210_0 := Aside0.mk hl210_0
                          clear hi210_0 hl210_0
                          replace p210 := eq_true p210
                          replace q210 := eq_true q210
                          have p211 : 0 ≤ (x10_4 : Int) := of_decide_eq_true (by first | (with_reducible assumption) | assumption)
                          have q211 : x10_4 < ((rd_L1 t193 (ji67)).length : Int) := of_decide_eq_true (by first | (with_reducible assumption) | assumption)
                          obtain ⟨ad211, e211, hx211_0⟩ := Kd.at_int (by repeat (first | (with_reducible exact HR210_0.out) | (with_reducible refine Kd.C_alloc ?_ _) | (with_reducible refine Kd.C_drewN ?_ _) | (with_reducible refine Kd.C_drew ?_) | exact HR210_0.out)) x10_4 p211 q211
                          cases e211
                          replace p211 := eq_true p211
                          replace q211 := eq_true q211
                          refine start_ (n := 22) (S := fun w' => w'.cell? (ad208.add (x9_2).toNat) = some (.slice (some ad209) (rd_L1 t193 x9_2).length c208_0) ∧ w'.cell? (ad209.add (x10_4).toNat) = some (.int .i32 (rd (rd_L1 t193 x9_2) x10_4)) ∧ w'.cell? (ad208.add ((ji67)).toNat) = some (.slice (some ad211) (rd_L1 t193 (ji67)).length c210_0) ∧ w'.cell? (ad211.add (x10_4).toNat) = some (.int .i32 (rd (rd_L1 t193 (ji67)) x10_4))) (ds := []) (bv 22 0) (by kernel_rfl) rfl rfl ⟨hx208_0, hx209_0, hx210_0, hx211_0⟩ (fun hHeld => ?_); refine with_tabW eponymlaw19_VariantsAlike.tab14 eponymlaw19_VariantsAlike.bits14 (fun HT_ HW_ => ?_)
                          generalize wr.drew = w80 at HO_7 BK188 HB HL208_0 HL210_0 HR208_0 HR210_0 hx208_0 hx209_0 hx210_0 hx211_0 hHeld ⊢
                          refine pureB HT_ 0 76 22 1 ?_
                          refine pureB HT_ 1 77 22 3 ?_
                          refine pureB HT_ 2 78 22 7 ?_
                          refine pureB HT_ 3 79 22 15 ?_
                          refine pureB HT_ 4 80 22 31 ?_
                          refine pureB HT_ 5 81 22 63 ?_
                          refine pureB HT_ 6 82 22 127 ?_
                          refine pureB HT_ 7 83 22 255 ?_
                          refine pureB HT_ 9 85 22 767 ?_
                          refine pureB HT_ 12 88 22 4863 ?_
                          refine pureB HT_ 13 89 22 13055 ?_
                          refine pureB HT_ 14 90 22 29439 ?_
                          refine pureB HT_ 15 91 22 62207 ?_
                          refine pureB HT_ 17 93 22 193279 ?_
                          refine takeB4 HT_ HW_ 8 84 22 193535 hHeld ?_
                          refine pureB HT_ 10 86 22 194559 ?_
                          refine takeB4 HT_ HW_ 11 87 22 196607 hHeld ?_
                          refine takeB4 HT_ HW_ 16 92 22 262143 hHeld ?_
                          refine pureB HT_ 18 94 22 524287 ?_
                          refine takeB4 HT_ HW_ 19 95 22 1048575 hHeld ?_
                          refine pureB HT_ 20 96 22 2097151 ?_
                          refine pureB HT_ 21 97 22 4194303 ?_
                          refine done_ (done_of HT_.out (by kernel_rfl)) ?_
                          try go_wp2
                          have n0_ := Aside0.mk (Kd.S_drew HO_7.out)
                          have n1_ := Aside0.mk (Kd.R_drew HL208_0.out)
                          have n2_ := Aside0.mk (Kd.R_drew HL210_0.out)
                          have n3_ := Aside0.mk (blk_drew BK188.out)
                          have n4_ := Aside0.mk (Kd.C_drew HR208_0.out)
                          have n5_ := Aside0.mk (Kd.C_drew HR210_0.out)
                          have n6_ := Aside0.mk (below_drew1 HB.out)
                          clear HO_7
                          clear HL208_0
                          clear HL210_0
                          clear BK188
                          clear HR208_0
                          clear HR210_0
                          clear HB
                          have HO_7 := n0_
                          have HL208_0 := n1_
                          have HL210_0 := n2_
                          have BK188 := n3_
                          have HR208_0 := n4_
                          have HR210_0 := n5_
                          have HB := n6_
                          clear n0_ n1_ n2_ n3_ n4_ n5_ n6_
                          have p212 : 0 ≤ (x9_2 : Int) := of_decide_eq_true (by first | (with_reducible assumption) | assumption)
                          have q212 : x9_2 < (t193.length : Int) := of_decide_eq_true (by first | (with_reducible assumption) | assumption)
                          obtain ⟨ad212, A212_0, c212_0, e212, hx212_0, hl212_0, hi212_0⟩ := at_L1 (Kd.S_reads' HO_7.out).2.2 x9_2 p212 q212
                          obtain rfl : ad208 = ad212 := (by injection e212)
                          obtain ⟨ce212, hce212, hMe212, hcc212⟩ := Kd.S_get HO_7.out [] x9_2 p212 (by first | exact q212 | exact of_decide_eq_true (by first | (with_reducible assumption) | assumption) | (have e_ := (Kd.S_reads' HO_7.out).1; omega))
                          obtain ⟨ve212_0, rfl, ge212_0⟩ := hMe212
                          have hv212_0 := hcc212 0 _ rfl
                          rw [Nat.add_zero, show ((Kd.slice 21 (Kd.int .i32))).sz = 1 from rfl, Nat.mul_one] at hv212_0
                          replace hv212_0 := Option.some.inj (hv212_0.symm.trans hx212_0)
                          rw [hv212_0] at ge212_0
                          have HL212_0 := Aside0.mk (show Kd.R (Kd.int .i32) 21 _ _ _ _ (rd_L1 t193 x9_2) from ge212_0)
                          clear hv212_0 ge212_0
                          clear hcc212 hce212
                          have HR212_0 := Aside0.mk hi212_0
                          have HC212_0 := Aside0.mk hl212_0
                          clear hi212_0 hl212_0
                          replace p212 := eq_true p212
                          replace q212 := eq_true q212
                          have p213 : 0 ≤ (x10_4 : Int) := of_decide_eq_true (by first | (with_reducible assumption) | assumption)
                          have q213 : x10_4 < ((rd_L1 t193 x9_2).length : Int) := of_decide_eq_true (by first | (with_reducible assumption) | assumption)
                          obtain ⟨ad213, e213, hx213_0⟩ := Kd.at_int (by repeat (first | (with_reducible exact HR212_0.out) | (with_reducible refine Kd.C_alloc ?_ _) | (with_reducible refine Kd.C_drewN ?_ _) | (with_reducible refine Kd.C_drew ?_) | exact HR212_0.out)) x10_4 p213 q213
                          cases e213
                          replace p213 := eq_true p213
                          replace q213 := eq_true q213
                          have p214 : 0 ≤ ((ji67) : Int) := of_decide_eq_true (by first | (with_reducible assumption) | assumption)
                          have q214 : (ji67) < (t193.length : Int) := of_decide_eq_true (by first | (with_reducible assumption) | assumption)
                          obtain ⟨ad214, A214_0, c214_0, e214, hx214_0, hl214_0, hi214_0⟩ := at_L1 (Kd.S_reads' HO_7.out).2.2 (ji67) p214 q214
                          obtain rfl : ad208 = ad214 := (by injection e214)
                          obtain ⟨ce214, hce214, hMe214, hcc214⟩ := Kd.S_get HO_7.out [] (ji67) p214 (by first | exact q214 | exact of_decide_eq_true (by first | (with_reducible assumption) | assumption) | (have e_ := (Kd.S_reads' HO_7.out).1; omega))
                          obtain ⟨ve214_0, rfl, ge214_0⟩ := hMe214
                          have hv214_0 := hcc214 0 _ rfl
                          rw [Nat.add_zero, show ((Kd.slice 21 (Kd.int .i32))).sz = 1 from rfl, Nat.mul_one] at hv214_0
                          replace hv214_0 := Option.some.inj (hv214_0.symm.trans hx214_0)
                          rw [hv214_0] at ge214_0
                          have HL214_0 := Aside0.mk (show Kd.R (Kd.int .i32) 21 _ _ _ _ (rd_L1 t193 (ji67)) from ge214_0)
                          clear hv214_0 ge214_0
                          clear hcc214 hce214
                          have HR214_0 := Aside0.mk hi214_0
                          have HC214_0 := Aside0.mk hl214_0
                          clear hi214_0 hl214_0
                          replace p214 := eq_true p214
                          replace q214 := eq_true q214
                          have p215 : 0 ≤ (x10_4 : Int) := of_decide_eq_true (by first | (with_reducible assumption) | assumption)
                          have q215 : x10_4 < ((rd_L1 t193 (ji67)).length : Int) := of_decide_eq_true (by first | (with_reducible assumption) | assumption)
                          obtain ⟨ad215, e215, hx215_0⟩ := Kd.at_int (by repeat (first | (with_reducible exact HR214_0.out) | (with_reducible refine Kd.C_alloc ?_ _) | (with_reducible refine Kd.C_drewN ?_ _) | (with_reducible refine Kd.C_drew ?_) | exact HR214_0.out)) x10_4 p215 q215
                          cases e215
                          replace p215 := eq_true p215
                          replace q215 := eq_true q215
                          refine start_ (n := 22) (S := fun w' => w'.cell? (ad208.add (x9_2).toNat) = some (.slice (some ad213) (rd_L1 t193 x9_2).length c212_0) ∧ w'.cell? (ad213.add (x10_4).toNat) = some (.int .i32 (rd (rd_L1 t193 x9_2) x10_4)) ∧ w'.cell? (ad208.add ((ji67)).toNat) = some (.slice (some ad215) (rd_L1 t193 (ji67)).length c214_0) ∧ w'.cell? (ad215.add (x10_4).toNat) = some (.int .i32 (rd (rd_L1 t193 (ji67)) x10_4))) (ds := []) (bv 22 0) (by kernel_rfl) rfl rfl ⟨hx212_0, hx213_0, hx214_0, hx215_0⟩ (fun hHeld => ?_); refine with_tabW eponymlaw19_VariantsAlike.tab16 eponymlaw19_VariantsAlike.bits16 (fun HT_ HW_ => ?_)
                          generalize w80.drew = w81 at HO_7 HL208_0 HL210_0 BK188 HR208_0 HR210_0 HB HL212_0 HL214_0 HR212_0 HR214_0 hx212_0 hx213_0 hx214_0 hx215_0 hHeld ⊢
                          refine pureB HT_ 0 100 22 1 ?_
                          refine pureB HT_ 1 101 22 3 ?_
                          refine pureB HT_ 2 102 22 7 ?_
                          refine pureB HT_ 3 103 22 15 ?_
                          refine pureB HT_ 4 104 22 31 ?_
                          refine pureB HT_ 5 105 22 63 ?_
                          refine pureB HT_ 6 106 22 127 ?_
                          refine pureB HT_ 7 107 22 255 ?_
                          refine pureB HT_ 9 109 22 767 ?_
                          refine pureB HT_ 12 112 22 4863 ?_
                          refine pureB HT_ 13 113 22 13055 ?_
                          refine pureB HT_ 14 114 22 29439 ?_
                          refine pureB HT_ 15 115 22 62207 ?_
                          refine pureB HT_ 17 117 22 193279 ?_
                          refine takeB4 HT_ HW_ 8 108 22 193535 hHeld ?_
                          refine pureB HT_ 10 110 22 194559 ?_
                          refine takeB4 HT_ HW_ 11 111 22 196607 hHeld ?_
                          refine takeB4 HT_ HW_ 16 116 22 262143 hHeld ?_
                          refine pureB HT_ 18 118 22 524287 ?_
                          refine takeB4 HT_ HW_ 19 119 22 1048575 hHeld ?_
                          refine pureB HT_ 20 120 22 2097151 ?_
                          refine pureB HT_ 21 121 22 4194303 ?_
                          refine done_ (done_of HT_.out (by kernel_rfl)) ?_
                          try go_wp2
                          go_roundg k4
                          case measure => have := HJ5.out; have := HK2.out; have := HJ32.out; have := HK4.out; omega
                          case rel => exact ⟨(true), (wrap64 (x9_2 + 1)), (by first | rfl | (simp; done) | (simp [*]; done)), (by first | rfl | (simp; done) | (simp [*]; done)), H', ⟨by have := HJ5.out; have := HK2.out; have := HJ32.out; have := HK4.out; omega⟩, ⟨by (with_reducible repeat (first | apply Kd.S_alloc | apply Kd.S_drewN | apply Kd.S_drew)); exact HO_7.out⟩, ⟨by (with_reducible repeat (first | refine blk_drewN ?_ _ | refine blk_drew ?_ | refine blk_alloc ?_ _)); exact BK188.out⟩, ⟨by repeat (first | (with_reducible first | exact HB.out | apply below_alloc | apply pw_below_drewN | apply below_drew1 | refine below_set ?_ GE188.out) | exact HB.out)⟩⟩
                         ·replace c79 := Bool.eq_false_iff.mpr c79
                          subst c79
                          have H1 : ((eponymlaw01_Same.f k4 (rd_L1 t193 x9_2) l2).bind fun t217 => (eponymlaw19_VariantsAlike.l0 k4 l1 l2 t193 t217 (wrap64 (x9_2 + 1)) a0_0 l0_1)) = some r := by rw [if_neg (show ¬ (false = true) by decide)] at H; exact H
                          clear H
                          have H := H1
                          clear H1
                          replace H := Option.bind_eq_some_iff.mp H
                          obtain ⟨t217, A820, H⟩ := H
                          replace H : (eponymlaw19_VariantsAlike.l0 k4 l1 l2 t193 t217 (wrap64 (x9_2 + 1)) a0_0 l0_1) = some r := H
                          have A82 := Aside0.mk A820
                          clear A820
                          have H' := Aside0.mk H
                          clear H
                          try go_wp2
                          have n0_ := Aside0.mk (Kd.S_drew HO_7.out)
                          have n1_ := Aside0.mk (blk_drew BK188.out)
                          have n2_ := Aside0.mk (below_drew1 HB.out)
                          clear HO_7
                          clear BK188
                          clear HB
                          have HO_7 := n0_
                          have BK188 := n1_
                          have HB := n2_
                          clear n0_ n1_ n2_
                          have p208 : 0 ≤ (x9_2 : Int) := of_decide_eq_true (by first | (with_reducible assumption) | assumption)
                          have q208 : x9_2 < (t193.length : Int) := of_decide_eq_true (by first | (with_reducible assumption) | assumption)
                          obtain ⟨ad208, A208_0, c208_0, e208, hx208_0, hl208_0, hi208_0⟩ := at_L1 (Kd.S_reads' HO_7.out).2.2 x9_2 p208 q208
                          cases e208
                          obtain ⟨ce208, hce208, hMe208, hcc208⟩ := Kd.S_get HO_7.out [] x9_2 p208 (by first | exact q208 | exact of_decide_eq_true (by first | (with_reducible assumption) | assumption) | (have e_ := (Kd.S_reads' HO_7.out).1; omega))
                          obtain ⟨ve208_0, rfl, ge208_0⟩ := hMe208
                          have hv208_0 := hcc208 0 _ rfl
                          rw [Nat.add_zero, show ((Kd.slice 21 (Kd.int .i32))).sz = 1 from rfl, Nat.mul_one] at hv208_0
                          replace hv208_0 := Option.some.inj (hv208_0.symm.trans hx208_0)
                          rw [hv208_0] at ge208_0
                          have HL208_0 := Aside0.mk (show Kd.R (Kd.int .i32) 21 _ _ _ _ (rd_L1 t193 x9_2) from ge208_0)
                          clear hv208_0 ge208_0
                          clear hcc208 hce208
                          have HR208_0 := Aside0.mk hi208_0
                          have HC208_0 := Aside0.mk hl208_0
                          clear hi208_0 hl208_0
                          replace p208 := eq_true p208
                          replace q208 := eq_true q208
                          have p209 : 0 ≤ (x10_4 : Int) := of_decide_eq_true (by first | (with_reducible assumption) | assumption)
                          have q209 : x10_4 < ((rd_L1 t193 x9_2).length : Int) := of_decide_eq_true (by first | (with_reducible assumption) | assumption)
                          obtain ⟨ad209, e209, hx209_0⟩ := Kd.at_int (by repeat (first | (with_reducible exact HR208_0.out) | (with_reducible refine Kd.C_alloc ?_ _) | (with_reducible refine Kd.C_drewN ?_ _) | (with_reducible refine Kd.C_drew ?_) | exact HR208_0.out)) x10_4 p209 q209
                          cases e209
                          replace p209 := eq_true p209
                          replace q209 := eq_true q209
                          have p210 : 0 ≤ ((ji67) : Int) := of_decide_eq_true (by first | (with_reducible assumption) | assumption)
                          have q210 : (ji67) < (t193.length : Int) := of_decide_eq_true (by first | (with_reducible assumption) | assumption)
                          obtain ⟨ad210, A210_0, c210_0, e210, hx210_0, hl210_0, hi210_0⟩ := at_L1 (Kd.S_reads' HO_7.out).2.2 (ji67) p210 q210
                          obtain rfl : ad208 = ad210 := (by injection e210)
                          obtain ⟨ce210, hce210, hMe210, hcc210⟩ := Kd.S_get HO_7.out [] (ji67) p210 (by first | exact q210 | exact of_decide_eq_true (by first | (with_reducible assumption) | assumption) | (have e_ := (Kd.S_reads' HO_7.out).1; omega))
                          obtain ⟨ve210_0, rfl, ge210_0⟩ := hMe210
                          have hv210_0 := hcc210 0 _ rfl
                          rw [Nat.add_zero, show ((Kd.slice 21 (Kd.int .i32))).sz = 1 from rfl, Nat.mul_one] at hv210_0
                          replace hv210_0 := Option.some.inj (hv210_0.symm.trans hx210_0)
                          rw [hv210_0] at ge210_0
                          have HL210_0 := Aside0.mk (show Kd.R (Kd.int .i32) 21 _ _ _ _ (rd_L1 t193 (ji67)) from ge210_0)
                          clear hv210_0 ge210_0
                          clear hcc210 hce210
                          have HR210_0 := Aside0.mk hi210_0
                          have HC210_0 := Aside0.mk hl210_0
                          clear hi210_0 hl210_0
                          replace p210 := eq_true p210
                          replace q210 := eq_true q210
                          have p211 : 0 ≤ (x10_4 : Int) := of_decide_eq_true (by first | (with_reducible assumption) | assumption)
                          have q211 : x10_4 < ((rd_L1 t193 (ji67)).length : Int) := of_decide_eq_true (by first | (with_reducible assumption) | assumption)
                          obtain ⟨ad211, e211, hx211_0⟩ := Kd.at_int (by repeat (first | (with_reducible exact HR210_0.out) | (with_reducible refine Kd.C_alloc ?_ _) | (with_reducible refine Kd.C_drewN ?_ _) | (with_reducible refine Kd.C_drew ?_) | exact HR210_0.out)) x10_4 p211 q211
                          cases e211
                          replace p211 := eq_true p211
                          replace q211 := eq_true q211
                          refine start_ (n := 22) (S := fun w' => w'.cell? (ad208.add (x9_2).toNat) = some (.slice (some ad209) (rd_L1 t193 x9_2).length c208_0) ∧ w'.cell? (ad209.add (x10_4).toNat) = some (.int .i32 (rd (rd_L1 t193 x9_2) x10_4)) ∧ w'.cell? (ad208.add ((ji67)).toNat) = some (.slice (some ad211) (rd_L1 t193 (ji67)).length c210_0) ∧ w'.cell? (ad211.add (x10_4).toNat) = some (.int .i32 (rd (rd_L1 t193 (ji67)) x10_4))) (ds := []) (bv 22 0) (by kernel_rfl) rfl rfl ⟨hx208_0, hx209_0, hx210_0, hx211_0⟩ (fun hHeld => ?_); refine with_tabW eponymlaw19_VariantsAlike.tab14 eponymlaw19_VariantsAlike.bits14 (fun HT_ HW_ => ?_)
                          generalize wr.drew = w83 at HO_7 BK188 HB HL208_0 HL210_0 HR208_0 HR210_0 hx208_0 hx209_0 hx210_0 hx211_0 hHeld ⊢
                          refine pureB HT_ 0 76 22 1 ?_
                          refine pureB HT_ 1 77 22 3 ?_
                          refine pureB HT_ 2 78 22 7 ?_
                          refine pureB HT_ 3 79 22 15 ?_
                          refine pureB HT_ 4 80 22 31 ?_
                          refine pureB HT_ 5 81 22 63 ?_
                          refine pureB HT_ 6 82 22 127 ?_
                          refine pureB HT_ 7 83 22 255 ?_
                          refine pureB HT_ 9 85 22 767 ?_
                          refine pureB HT_ 12 88 22 4863 ?_
                          refine pureB HT_ 13 89 22 13055 ?_
                          refine pureB HT_ 14 90 22 29439 ?_
                          refine pureB HT_ 15 91 22 62207 ?_
                          refine pureB HT_ 17 93 22 193279 ?_
                          refine takeB4 HT_ HW_ 8 84 22 193535 hHeld ?_
                          refine pureB HT_ 10 86 22 194559 ?_
                          refine takeB4 HT_ HW_ 11 87 22 196607 hHeld ?_
                          refine takeB4 HT_ HW_ 16 92 22 262143 hHeld ?_
                          refine pureB HT_ 18 94 22 524287 ?_
                          refine takeB4 HT_ HW_ 19 95 22 1048575 hHeld ?_
                          refine pureB HT_ 20 96 22 2097151 ?_
                          refine pureB HT_ 21 97 22 4194303 ?_
                          refine done_ (done_of HT_.out (by kernel_rfl)) ?_
                          try go_wp2
                          have n0_ := Aside0.mk (Kd.S_drew HO_7.out)
                          have n1_ := Aside0.mk (Kd.R_drew HL208_0.out)
                          have n2_ := Aside0.mk (Kd.R_drew HL210_0.out)
                          have n3_ := Aside0.mk (blk_drew BK188.out)
                          have n4_ := Aside0.mk (Kd.C_drew HR208_0.out)
                          have n5_ := Aside0.mk (Kd.C_drew HR210_0.out)
                          have n6_ := Aside0.mk (below_drew1 HB.out)
                          clear HO_7
                          clear HL208_0
                          clear HL210_0
                          clear BK188
                          clear HR208_0
                          clear HR210_0
                          clear HB
                          have HO_7 := n0_
                          have HL208_0 := n1_
                          have HL210_0 := n2_
                          have BK188 := n3_
                          have HR208_0 := n4_
                          have HR210_0 := n5_
                          have HB := n6_
                          clear n0_ n1_ n2_ n3_ n4_ n5_ n6_
                          have p212 : 0 ≤ (x9_2 : Int) := of_decide_eq_true (by first | (with_reducible assumption) | assumption)
                          have q212 : x9_2 < (t193.length : Int) := of_decide_eq_true (by first | (with_reducible assumption) | assumption)
                          obtain ⟨ad212, A212_0, c212_0, e212, hx212_0, hl212_0, hi212_0⟩ := at_L1 (Kd.S_reads' HO_7.out).2.2 x9_2 p212 q212
                          obtain rfl : ad208 = ad212 := (by injection e212)
                          obtain ⟨ce212, hce212, hMe212, hcc212⟩ := Kd.S_get HO_7.out [] x9_2 p212 (by first | exact q212 | exact of_decide_eq_true (by first | (with_reducible assumption) | assumption) | (have e_ := (Kd.S_reads' HO_7.out).1; omega))
                          obtain ⟨ve212_0, rfl, ge212_0⟩ := hMe212
                          have hv212_0 := hcc212 0 _ rfl
                          rw [Nat.add_zero, show ((Kd.slice 21 (Kd.int .i32))).sz = 1 from rfl, Nat.mul_one] at hv212_0
                          replace hv212_0 := Option.some.inj (hv212_0.symm.trans hx212_0)
                          rw [hv212_0] at ge212_0
                          have HL212_0 := Aside0.mk (show Kd.R (Kd.int .i32) 21 _ _ _ _ (rd_L1 t193 x9_2) from ge212_0)
                          clear hv212_0 ge212_0
                          clear hcc212 hce212
                          have HR212_0 := Aside0.mk hi212_0
                          have HC212_0 := Aside0.mk hl212_0
                          clear hi212_0 hl212_0
                          replace p212 := eq_true p212
                          replace q212 := eq_true q212
                          have p213 : 0 ≤ (x10_4 : Int) := of_decide_eq_true (by first | (with_reducible assumption) | assumption)
                          have q213 : x10_4 < ((rd_L1 t193 x9_2).length : Int) := of_decide_eq_true (by first | (with_reducible assumption) | assumption)
                          obtain ⟨ad213, e213, hx213_0⟩ := Kd.at_int (by repeat (first | (with_reducible exact HR212_0.out) | (with_reducible refine Kd.C_alloc ?_ _) | (with_reducible refine Kd.C_drewN ?_ _) | (with_reducible refine Kd.C_drew ?_) | exact HR212_0.out)) x10_4 p213 q213
                          cases e213
                          replace p213 := eq_true p213
                          replace q213 := eq_true q213
                          have p214 : 0 ≤ ((ji67) : Int) := of_decide_eq_true (by first | (with_reducible assumption) | assumption)
                          have q214 : (ji67) < (t193.length : Int) := of_decide_eq_true (by first | (with_reducible assumption) | assumption)
                          obtain ⟨ad214, A214_0, c214_0, e214, hx214_0, hl214_0, hi214_0⟩ := at_L1 (Kd.S_reads' HO_7.out).2.2 (ji67) p214 q214
                          obtain rfl : ad208 = ad214 := (by injection e214)
                          obtain ⟨ce214, hce214, hMe214, hcc214⟩ := Kd.S_get HO_7.out [] (ji67) p214 (by first | exact q214 | exact of_decide_eq_true (by first | (with_reducible assumption) | assumption) | (have e_ := (Kd.S_reads' HO_7.out).1; omega))
                          obtain ⟨ve214_0, rfl, ge214_0⟩ := hMe214
                          have hv214_0 := hcc214 0 _ rfl
                          rw [Nat.add_zero, show ((Kd.slice 21 (Kd.int .i32))).sz = 1 from rfl, Nat.mul_one] at hv214_0
                          replace hv214_0 := Option.some.inj (hv214_0.symm.trans hx214_0)
                          rw [hv214_0] at ge214_0
                          have HL214_0 := Aside0.mk (show Kd.R (Kd.int .i32) 21 _ _ _ _ (rd_L1 t193 (ji67)) from ge214_0)
                          clear hv214_0 ge214_0
                          clear hcc214 hce214
                          have HR214_0 := Aside0.mk hi214_0
                          have HC214_0 := Aside0.mk hl214_0
                          clear hi214_0 hl214_0
                          replace p214 := eq_true p214
                          replace q214 := eq_true q214
                          have p215 : 0 ≤ (x10_4 : Int) := of_decide_eq_true (by first | (with_reducible assumption) | assumption)
                          have q215 : x10_4 < ((rd_L1 t193 (ji67)).length : Int) := of_decide_eq_true (by first | (with_reducible assumption) | assumption)
                          obtain ⟨ad215, e215, hx215_0⟩ := Kd.at_int (by repeat (first | (with_reducible exact HR214_0.out) | (with_reducible refine Kd.C_alloc ?_ _) | (with_reducible refine Kd.C_drewN ?_ _) | (with_reducible refine Kd.C_drew ?_) | exact HR214_0.out)) x10_4 p215 q215
                          cases e215
                          replace p215 := eq_true p215
                          replace q215 := eq_true q215
                          refine start_ (n := 22) (S := fun w' => w'.cell? (ad208.add (x9_2).toNat) = some (.slice (some ad213) (rd_L1 t193 x9_2).length c212_0) ∧ w'.cell? (ad213.add (x10_4).toNat) = some (.int .i32 (rd (rd_L1 t193 x9_2) x10_4)) ∧ w'.cell? (ad208.add ((ji67)).toNat) = some (.slice (some ad215) (rd_L1 t193 (ji67)).length c214_0) ∧ w'.cell? (ad215.add (x10_4).toNat) = some (.int .i32 (rd (rd_L1 t193 (ji67)) x10_4))) (ds := []) (bv 22 0) (by kernel_rfl) rfl rfl ⟨hx212_0, hx213_0, hx214_0, hx215_0⟩ (fun hHeld => ?_); refine with_tabW eponymlaw19_VariantsAlike.tab16 eponymlaw19_VariantsAlike.bits16 (fun HT_ HW_ => ?_)
                          generalize w83.drew = w84 at HO_7 HL208_0 HL210_0 BK188 HR208_0 HR210_0 HB HL212_0 HL214_0 HR212_0 HR214_0 hx212_0 hx213_0 hx214_0 hx215_0 hHeld ⊢
                          refine pureB HT_ 0 100 22 1 ?_
                          refine pureB HT_ 1 101 22 3 ?_
                          refine pureB HT_ 2 102 22 7 ?_
                          refine pureB HT_ 3 103 22 15 ?_
                          refine pureB HT_ 4 104 22 31 ?_
                          refine pureB HT_ 5 105 22 63 ?_
                          refine pureB HT_ 6 106 22 127 ?_
                          refine pureB HT_ 7 107 22 255 ?_
                          refine pureB HT_ 9 109 22 767 ?_
                          refine pureB HT_ 12 112 22 4863 ?_
                          refine pureB HT_ 13 113 22 13055 ?_
                          refine pureB HT_ 14 114 22 29439 ?_
                          refine pureB HT_ 15 115 22 62207 ?_
                          refine pureB HT_ 17 117 22 193279 ?_
                          refine takeB4 HT_ HW_ 8 108 22 193535 hHeld ?_
                          refine pureB HT_ 10 110 22 194559 ?_
                          refine takeB4 HT_ HW_ 11 111 22 196607 hHeld ?_
                          refine takeB4 HT_ HW_ 16 116 22 262143 hHeld ?_
                          refine pureB HT_ 18 118 22 524287 ?_
                          refine takeB4 HT_ HW_ 19 119 22 1048575 hHeld ?_
                          refine pureB HT_ 20 120 22 2097151 ?_
                          refine pureB HT_ 21 121 22 4194303 ?_
                          refine done_ (done_of HT_.out (by kernel_rfl)) ?_
                          have p216 : 0 ≤ (x9_2 : Int) := of_decide_eq_true (by first | (with_reducible assumption) | assumption)
                          have q216 : x9_2 < (t193.length : Int) := of_decide_eq_true (by first | (with_reducible assumption) | assumption)
                          obtain ⟨ad216, A216_0, c216_0, e216, hx216_0, hl216_0, hi216_0⟩ := at_L1 (Kd.S_reads' HO_7.out).2.2 x9_2 p216 q216
                          obtain rfl : ad208 = ad216 := (by injection e216)
                          obtain ⟨ce216, hce216, hMe216, hcc216⟩ := Kd.S_get HO_7.out [] x9_2 p216 (by first | exact q216 | exact of_decide_eq_true (by first | (with_reducible assumption) | assumption) | (have e_ := (Kd.S_reads' HO_7.out).1; omega))
                          obtain ⟨ve216_0, rfl, ge216_0⟩ := hMe216
                          have hv216_0 := hcc216 0 _ rfl
                          rw [Nat.add_zero, show ((Kd.slice 21 (Kd.int .i32))).sz = 1 from rfl, Nat.mul_one] at hv216_0
                          replace hv216_0 := Option.some.inj (hv216_0.symm.trans hx216_0)
                          rw [hv216_0] at ge216_0
                          have HL216_0 := Aside0.mk (show Kd.R (Kd.int .i32) 21 _ _ _ _ (rd_L1 t193 x9_2) from ge216_0)
                          clear hv216_0 ge216_0
                          clear hcc216 hce216
                          have HR216_0 := Aside0.mk hi216_0
                          have HC216_0 := Aside0.mk hl216_0
                          clear hi216_0 hl216_0
                          replace p216 := eq_true p216
                          replace q216 := eq_true q216
                          have ea_ := Option.some.inj (hx212_0.symm.trans hx216_0)
                          injection ea_ with ea_ en_ ec_
                          subst ea_
                          subst ec_
                          clear en_
                          try go_wp2_with (first | (go_at_call 11; (with_reducible refine (eponymlaw01_Same.calls k4 _ _ (rd_L1 t193 x9_2) _ _ l2 t217 _ ?side1 ?side2 ?side3 ?side4 A82.out).mono ?_); (case side1 => repeat (first | exact (by repeat (first | (with_reducible exact HR216_0.out) | (with_reducible refine Kd.C_alloc ?_ _) | (with_reducible refine Kd.C_drewN ?_ _) | (with_reducible refine Kd.C_drew ?_) | exact HR216_0.out)) | (with_reducible refine Kd.C_alloc ?_ _) | (with_reducible refine Kd.C_drewN ?_ _) | (with_reducible refine Kd.C_drew ?_))); (case side2 => exact HC216_0.out); (case side3 => repeat (first | exact (Kd.C_below HR2.out HB.out) | (with_reducible refine Kd.C_alloc ?_ _) | (with_reducible refine Kd.C_drewN ?_ _) | (with_reducible refine Kd.C_drew ?_))); (case side4 => exact HC2.out); rintro e w' ⟨rfl, ⟨nd, rfl⟩⟩))
                          go_roundg k4
                          case measure => have := HJ5.out; have := HK2.out; have := HJ32.out; have := HK4.out; omega
                          case rel => exact ⟨(t217), (wrap64 (x9_2 + 1)), (by first | rfl | (simp; done) | (simp [*]; done)), (by first | rfl | (simp; done) | (simp [*]; done)), H', ⟨by have := HJ5.out; have := HK2.out; have := HJ32.out; have := HK4.out; omega⟩, ⟨by (with_reducible repeat (first | apply Kd.S_alloc | apply Kd.S_drewN | apply Kd.S_drew)); exact HO_7.out⟩, ⟨by (with_reducible repeat (first | refine blk_drewN ?_ _ | refine blk_drew ?_ | refine blk_alloc ?_ _)); exact BK188.out⟩, ⟨by repeat (first | (with_reducible first | exact HB.out | apply below_alloc | apply pw_below_drewN | apply below_drew1 | refine below_set ?_ GE188.out) | exact HB.out)⟩⟩
                     ·rw [if_neg c70] at H
                      exact absurd H (by simp)
                    ·rw [if_neg c69] at H
                     exact absurd H (by simp)
                   ·rw [if_neg c68] at H
                    exact absurd H (by simp)
                  ·rw [if_neg c66] at H
                   exact absurd H (by simp)
                 ·rw [if_neg c65] at H
                  exact absurd H (by simp)
                ·rw [if_neg c64] at H
                 exact absurd H (by simp)
               ·rw [if_neg c63] at H
                exact absurd H (by simp)
              ·rw [if_neg c62] at H
               have c62b0 : decide (x10_4 < (l1.length : Int)) = false := decide_eq_false c62
               clear c62
               by_cases c85 : x10_4 = (l1.length : Int)
               ·rw [if_pos c85] at H
                have c85b0 : (x10_4 == (l1.length : Int)) = true := beq_iff_eq.mpr c85
                have c85b1 : (x10_4 != (l1.length : Int)) = false := bne_eq_false_iff_eq.mpr c85
                clear c85
                obtain rfl := Option.some.inj H
                try go_wp2
                have n0_ := Aside0.mk (Kd.S_drew HO_7.out)
                have n1_ := Aside0.mk (blk_drew BK188.out)
                have n2_ := Aside0.mk (below_drew1 HB.out)
                clear HO_7
                clear BK188
                clear HB
                have HO_7 := n0_
                have BK188 := n1_
                have HB := n2_
                clear n0_ n1_ n2_
                refine start_ (n := 22) (S := fun w' => True) (ds := []) (bv 22 0) (by kernel_rfl) rfl rfl trivial (fun hHeld => ?_); refine with_tabW eponymlaw19_VariantsAlike.tab14 eponymlaw19_VariantsAlike.bits14 (fun HT_ HW_ => ?_)
                generalize wr.drew = w86 at HO_7 BK188 HB hHeld ⊢
                refine pureB HT_ 0 76 22 1 ?_
                refine pureB HT_ 1 77 22 3 ?_
                refine pureB HT_ 2 78 22 7 ?_
                refine pureB HT_ 3 79 22 15 ?_
                refine pureB HT_ 4 80 22 31 ?_
                refine skipB HT_ 5 81 22 63 ?_
                refine skipB HT_ 6 82 22 127 ?_
                refine skipB HT_ 7 83 22 255 ?_
                refine skipB HT_ 8 84 22 511 ?_
                refine skipB HT_ 9 85 22 1023 ?_
                refine skipB HT_ 10 86 22 2047 ?_
                refine skipB HT_ 11 87 22 4095 ?_
                refine skipB HT_ 12 88 22 8191 ?_
                refine skipB HT_ 13 89 22 16383 ?_
                refine skipB HT_ 14 90 22 32767 ?_
                refine skipB HT_ 15 91 22 65535 ?_
                refine skipB HT_ 16 92 22 131071 ?_
                refine skipB HT_ 17 93 22 262143 ?_
                refine skipB HT_ 18 94 22 524287 ?_
                refine skipB HT_ 19 95 22 1048575 ?_
                refine skipB HT_ 20 96 22 2097151 ?_
                refine pureB HT_ 21 97 22 4194303 ?_
                refine done_ (done_of HT_.out (by kernel_rfl)) ?_
                try go_wp2
                have n0_ := Aside0.mk (Kd.S_drew HO_7.out)
                have n1_ := Aside0.mk (blk_drew BK188.out)
                have n2_ := Aside0.mk (below_drew1 HB.out)
                clear HO_7
                clear BK188
                clear HB
                have HO_7 := n0_
                have BK188 := n1_
                have HB := n2_
                clear n0_ n1_ n2_
                refine start_ (n := 22) (S := fun w' => True) (ds := []) (bv 22 0) (by kernel_rfl) rfl rfl trivial (fun hHeld => ?_); refine with_tabW eponymlaw19_VariantsAlike.tab16 eponymlaw19_VariantsAlike.bits16 (fun HT_ HW_ => ?_)
                generalize w86.drew = w87 at HO_7 BK188 HB hHeld ⊢
                refine pureB HT_ 0 100 22 1 ?_
                refine pureB HT_ 1 101 22 3 ?_
                refine pureB HT_ 2 102 22 7 ?_
                refine pureB HT_ 3 103 22 15 ?_
                refine pureB HT_ 4 104 22 31 ?_
                refine skipB HT_ 5 105 22 63 ?_
                refine skipB HT_ 6 106 22 127 ?_
                refine skipB HT_ 7 107 22 255 ?_
                refine skipB HT_ 8 108 22 511 ?_
                refine skipB HT_ 9 109 22 1023 ?_
                refine skipB HT_ 10 110 22 2047 ?_
                refine skipB HT_ 11 111 22 4095 ?_
                refine skipB HT_ 12 112 22 8191 ?_
                refine skipB HT_ 13 113 22 16383 ?_
                refine skipB HT_ 14 114 22 32767 ?_
                refine skipB HT_ 15 115 22 65535 ?_
                refine skipB HT_ 16 116 22 131071 ?_
                refine skipB HT_ 17 117 22 262143 ?_
                refine skipB HT_ 18 118 22 524287 ?_
                refine skipB HT_ 19 119 22 1048575 ?_
                refine skipB HT_ 20 120 22 2097151 ?_
                refine pureB HT_ 21 121 22 4194303 ?_
                refine done_ (done_of HT_.out (by kernel_rfl)) ?_
                try go_wp2
                go_ret
                exact ⟨by first | rfl | (simp [errV_none, errV_some] <;> rfl) | (simp [*, errV_none, errV_some] <;> rfl), by repeat (first | (with_reducible first | exact HB.out | apply below_alloc | apply pw_below_drewN | apply below_drew1 | refine below_set ?_ GE188.out) | exact HB.out)⟩
               ·rw [if_neg c85] at H
                have c85b0 : (x10_4 == (l1.length : Int)) = false := beq_eq_false_iff_ne.mpr c85
                have c85b1 : (x10_4 != (l1.length : Int)) = true := bne_iff_ne.mpr c85
                by_cases c88 : 0 ≤ x9_2
                ·rw [if_pos c88] at H
                 have c88b0 : decide (0 ≤ x9_2) = true := decide_eq_true c88
                 clear c88
                 by_cases c89 : x9_2 < (t193.length : Int)
                 ·rw [if_pos c89] at H
                  have c89b0 : decide (x9_2 < (t193.length : Int)) = true := decide_eq_true c89
                  clear c89
                  by_cases c90 : 0 ≤ x10_4
                  ·rw [if_pos c90] at H
                   have c90b0 : decide (0 ≤ x10_4) = true := decide_eq_true c90
                   clear c90
                   by_cases c91 : x10_4 < ((rd_L1 t193 x9_2).length : Int)
                   ·rw [if_pos c91] at H
                    have c91b0 : decide (x10_4 < ((rd_L1 t193 x9_2).length : Int)) = true := decide_eq_true c91
                    clear c91
                    obtain ⟨ji92, hji92⟩ : ∃ j_ : Int, (wrap64 (x9_2 - 1)) = j_ := ⟨_, rfl⟩
                    replace H : (if 0 ≤ (ji92) then (if (ji92) < (t193.length : Int) then (if x10_4 < ((rd_L1 t193 (ji92)).length : Int) then (if (rd (rd_L1 t193 x9_2) x10_4) < (rd (rd_L1 t193 (ji92)) x10_4) then (some false) else (if x8_2 = true then (eponymlaw19_VariantsAlike.l0 k4 l1 l2 t193 true (wrap64 (x9_2 + 1)) a0_0 l0_1) else ((eponymlaw01_Same.f k4 (rd_L1 t193 x9_2) l2).bind fun t223 => (eponymlaw19_VariantsAlike.l0 k4 l1 l2 t193 t223 (wrap64 (x9_2 + 1)) a0_0 l0_1)))) else (none)) else (none)) else (none)) = some r := by first | (rw [hji92] at H; exact H) | (simp only [hji92] at H ⊢; exact H)
                    have hji92w : (IntKind.i64.wrap (x9_2 - 1)) = ji92 := (i64_w _).trans hji92
                    by_cases c93 : 0 ≤ (ji92)
                    ·rw [if_pos c93] at H
                     have c93b0 : decide (0 ≤ (ji92)) = true := decide_eq_true c93
                     clear c93
                     by_cases c94 : (ji92) < (t193.length : Int)
                     ·rw [if_pos c94] at H
                      have c94b0 : decide ((ji92) < (t193.length : Int)) = true := decide_eq_true c94
                      clear c94
                      by_cases c95 : x10_4 < ((rd_L1 t193 (ji92)).length : Int)
                      ·rw [if_pos c95] at H
                       have c95b0 : decide (x10_4 < ((rd_L1 t193 (ji92)).length : Int)) = true := decide_eq_true c95
                       clear c95
                       by_cases c96 : (rd (rd_L1 t193 x9_2) x10_4) < (rd (rd_L1 t193 (ji92)) x10_4)
                       ·rw [if_pos c96] at H
                        have c96b0 : decide ((rd (rd_L1 t193 x9_2) x10_4) < (rd (rd_L1 t193 (ji92)) x10_4)) = true := decide_eq_true c96
                        clear c96
                        obtain rfl := Option.some.inj H
                        try go_wp2
                        have n0_ := Aside0.mk (Kd.S_drew HO_7.out)
                        have n1_ := Aside0.mk (blk_drew BK188.out)
                        have n2_ := Aside0.mk (below_drew1 HB.out)
                        clear HO_7
                        clear BK188
                        clear HB
                        have HO_7 := n0_
                        have BK188 := n1_
                        have HB := n2_
                        clear n0_ n1_ n2_
                        refine start_ (n := 22) (S := fun w' => True) (ds := []) (bv 22 0) (by kernel_rfl) rfl rfl trivial (fun hHeld => ?_); refine with_tabW eponymlaw19_VariantsAlike.tab14 eponymlaw19_VariantsAlike.bits14 (fun HT_ HW_ => ?_)
                        generalize wr.drew = w97 at HO_7 BK188 HB hHeld ⊢
                        refine pureB HT_ 0 76 22 1 ?_
                        refine pureB HT_ 1 77 22 3 ?_
                        refine pureB HT_ 2 78 22 7 ?_
                        refine pureB HT_ 3 79 22 15 ?_
                        refine pureB HT_ 4 80 22 31 ?_
                        refine skipB HT_ 5 81 22 63 ?_
                        refine skipB HT_ 6 82 22 127 ?_
                        refine skipB HT_ 7 83 22 255 ?_
                        refine skipB HT_ 8 84 22 511 ?_
                        refine skipB HT_ 9 85 22 1023 ?_
                        refine skipB HT_ 10 86 22 2047 ?_
                        refine skipB HT_ 11 87 22 4095 ?_
                        refine skipB HT_ 12 88 22 8191 ?_
                        refine skipB HT_ 13 89 22 16383 ?_
                        refine skipB HT_ 14 90 22 32767 ?_
                        refine skipB HT_ 15 91 22 65535 ?_
                        refine skipB HT_ 16 92 22 131071 ?_
                        refine skipB HT_ 17 93 22 262143 ?_
                        refine skipB HT_ 18 94 22 524287 ?_
                        refine skipB HT_ 19 95 22 1048575 ?_
                        refine skipB HT_ 20 96 22 2097151 ?_
                        refine pureB HT_ 21 97 22 4194303 ?_
                        refine done_ (done_of HT_.out (by kernel_rfl)) ?_
                        try go_wp2
                        have n0_ := Aside0.mk (Kd.S_drew HO_7.out)
                        have n1_ := Aside0.mk (blk_drew BK188.out)
                        have n2_ := Aside0.mk (below_drew1 HB.out)
                        clear HO_7
                        clear BK188
                        clear HB
                        have HO_7 := n0_
                        have BK188 := n1_
                        have HB := n2_
                        clear n0_ n1_ n2_
                        have p218 : 0 ≤ (x9_2 : Int) := of_decide_eq_true (by first | (with_reducible assumption) | assumption)
                        have q218 : x9_2 < (t193.length : Int) := of_decide_eq_true (by first | (with_reducible assumption) | assumption)
                        obtain ⟨ad218, A218_0, c218_0, e218, hx218_0, hl218_0, hi218_0⟩ := at_L1 (Kd.S_reads' HO_7.out).2.2 x9_2 p218 q218
                        cases e218
                        obtain ⟨ce218, hce218, hMe218, hcc218⟩ := Kd.S_get HO_7.out [] x9_2 p218 (by first | exact q218 | exact of_decide_eq_true (by first | (with_reducible assumption) | assumption) | (have e_ := (Kd.S_reads' HO_7.out).1; omega))
                        obtain ⟨ve218_0, rfl, ge218_0⟩ := hMe218
                        have hv218_0 := hcc218 0 _ rfl
                        rw [Nat.add_zero, show ((Kd.slice 21 (Kd.int .i32))).sz = 1 from rfl, Nat.mul_one] at hv218_0
                        replace hv218_0 := Option.some.inj (hv218_0.symm.trans hx218_0)
                        rw [hv218_0] at ge218_0
                        have HL218_0 := Aside0.mk (show Kd.R (Kd.int .i32) 21 _ _ _ _ (rd_L1 t193 x9_2) from ge218_0)
                        clear hv218_0 ge218_0
                        clear hcc218 hce218
                        have HR218_0 := Aside0.mk hi218_0
                        have HC218_0 := Aside0.mk hl218_0
                        clear hi218_0 hl218_0
                        replace p218 := eq_true p218
                        replace q218 := eq_true q218
                        have p219 : 0 ≤ (x10_4 : Int) := of_decide_eq_true (by first | (with_reducible assumption) | assumption)
                        have q219 : x10_4 < ((rd_L1 t193 x9_2).length : Int) := of_decide_eq_true (by first | (with_reducible assumption) | assumption)
                        obtain ⟨ad219, e219, hx219_0⟩ := Kd.at_int (by repeat (first | (with_reducible exact HR218_0.out) | (with_reducible refine Kd.C_alloc ?_ _) | (with_reducible refine Kd.C_drewN ?_ _) | (with_reducible refine Kd.C_drew ?_) | exact HR218_0.out)) x10_4 p219 q219
                        cases e219
                        replace p219 := eq_true p219
                        replace q219 := eq_true q219
                        have p220 : 0 ≤ ((ji92) : Int) := of_decide_eq_true (by first | (with_reducible assumption) | assumption)
                        have q220 : (ji92) < (t193.length : Int) := of_decide_eq_true (by first | (with_reducible assumption) | assumption)
                        obtain ⟨ad220, A220_0, c220_0, e220, hx220_0, hl220_0, hi220_0⟩ := at_L1 (Kd.S_reads' HO_7.out).2.2 (ji92) p220 q220
                        obtain rfl : ad218 = ad220 := (by injection e220)
                        obtain ⟨ce220, hce220, hMe220, hcc220⟩ := Kd.S_get HO_7.out [] (ji92) p220 (by first | exact q220 | exact of_decide_eq_true (by first | (with_reducible assumption) | assumption) | (have e_ := (Kd.S_reads' HO_7.out).1; omega))
                        obtain ⟨ve220_0, rfl, ge220_0⟩ := hMe220
                        have hv220_0 := hcc220 0 _ rfl
                        rw [Nat.add_zero, show ((Kd.slice 21 (Kd.int .i32))).sz = 1 from rfl, Nat.mul_one] at hv220_0
                        replace hv220_0 := Option.some.inj (hv220_0.symm.trans hx220_0)
                        rw [hv220_0] at ge220_0
                        have HL220_0 := Aside0.mk (show Kd.R (Kd.int .i32) 21 _ _ _ _ (rd_L1 t193 (ji92)) from ge220_0)
                        clear hv220_0 ge220_0
                        clear hcc220 hce220
                        have HR220_0 := Aside0.mk hi220_0
                        have HC220_0 := Aside0.mk hl220_0
                        clear hi220_0 hl220_0
                        replace p220 := eq_true p220
                        replace q220 := eq_true q220
                        have p221 : 0 ≤ (x10_4 : Int) := of_decide_eq_true (by first | (with_reducible assumption) | assumption)
                        have q221 : x10_4 < ((rd_L1 t193 (ji92)).length : Int) := of_decide_eq_true (by first | (with_reducible assumption) | assumption)
                        obtain ⟨ad221, e221, hx221_0⟩ := Kd.at_int (by repeat (first | (with_reducible exact HR220_0.out) | (with_reducible refine Kd.C_alloc ?_ _) | (with_reducible refine Kd.C_drewN ?_ _) | (with_reducible refine Kd.C_drew ?_) | exact HR220_0.out)) x10_4 p221 q221
                        cases e221
                        replace p221 := eq_true p221
                        replace q221 := eq_true q221
                        refine start_ (n := 22) (S := fun w' => w'.cell? (ad218.add (x9_2).toNat) = some (.slice (some ad219) (rd_L1 t193 x9_2).length c218_0) ∧ w'.cell? (ad219.add (x10_4).toNat) = some (.int .i32 (rd (rd_L1 t193 x9_2) x10_4)) ∧ w'.cell? (ad218.add ((ji92)).toNat) = some (.slice (some ad221) (rd_L1 t193 (ji92)).length c220_0) ∧ w'.cell? (ad221.add (x10_4).toNat) = some (.int .i32 (rd (rd_L1 t193 (ji92)) x10_4))) (ds := []) (bv 22 0) (by kernel_rfl) rfl rfl ⟨hx218_0, hx219_0, hx220_0, hx221_0⟩ (fun hHeld => ?_); refine with_tabW eponymlaw19_VariantsAlike.tab16 eponymlaw19_VariantsAlike.bits16 (fun HT_ HW_ => ?_)
                        generalize w97.drew = w98 at HO_7 BK188 HB HL218_0 HL220_0 HR218_0 HR220_0 hx218_0 hx219_0 hx220_0 hx221_0 hHeld ⊢
                        refine pureB HT_ 0 100 22 1 ?_
                        refine pureB HT_ 1 101 22 3 ?_
                        refine pureB HT_ 2 102 22 7 ?_
                        refine pureB HT_ 3 103 22 15 ?_
                        refine pureB HT_ 4 104 22 31 ?_
                        refine pureB HT_ 5 105 22 63 ?_
                        refine pureB HT_ 6 106 22 127 ?_
                        refine pureB HT_ 7 107 22 255 ?_
                        refine pureB HT_ 9 109 22 767 ?_
                        refine pureB HT_ 12 112 22 4863 ?_
                        refine pureB HT_ 13 113 22 13055 ?_
                        refine pureB HT_ 14 114 22 29439 ?_
                        refine pureB HT_ 15 115 22 62207 ?_
                        refine pureB HT_ 17 117 22 193279 ?_
                        refine takeB4 HT_ HW_ 8 108 22 193535 hHeld ?_
                        refine pureB HT_ 10 110 22 194559 ?_
                        refine takeB4 HT_ HW_ 11 111 22 196607 hHeld ?_
                        refine takeB4 HT_ HW_ 16 116 22 262143 hHeld ?_
                        refine pureB HT_ 18 118 22 524287 ?_
                        refine takeB4 HT_ HW_ 19 119 22 1048575 hHeld ?_
                        refine pureB HT_ 20 120 22 2097151 ?_
                        refine pureB HT_ 21 121 22 4194303 ?_
                        refine done_ (done_of HT_.out (by kernel_rfl)) ?_
                        try go_wp2
                        go_ret
                        exact ⟨by first | rfl | (simp [errV_none, errV_some] <;> rfl) | (simp only [← hji92]; first | rfl | (simp [errV_none, errV_some] <;> rfl)) | (simp [*, errV_none, errV_some] <;> rfl), by repeat (first | (with_reducible first | exact HB.out | apply below_alloc | apply pw_below_drewN | apply below_drew1 | refine below_set ?_ GE188.out) | exact HB.out)⟩
                       ·rw [if_neg c96] at H
                        have c96b0 : decide ((rd (rd_L1 t193 x9_2) x10_4) < (rd (rd_L1 t193 (ji92)) x10_4)) = false := decide_eq_false c96
                        clear c96
                        by_cases c99 : x8_2 = true
                        ·subst c99
                         have H1 : (eponymlaw19_VariantsAlike.l0 k4 l1 l2 t193 true (wrap64 (x9_2 + 1)) a0_0 l0_1) = some r := by rw [if_pos rfl] at H; exact H
                         clear H
                         have H := H1
                         clear H1
                         have H' := Aside0.mk H
                         clear H
                         try go_wp2
                         have n0_ := Aside0.mk (Kd.S_drew HO_7.out)
                         have n1_ := Aside0.mk (blk_drew BK188.out)
                         have n2_ := Aside0.mk (below_drew1 HB.out)
                         clear HO_7
                         clear BK188
                         clear HB
                         have HO_7 := n0_
                         have BK188 := n1_
                         have HB := n2_
                         clear n0_ n1_ n2_
                         refine start_ (n := 22) (S := fun w' => True) (ds := []) (bv 22 0) (by kernel_rfl) rfl rfl trivial (fun hHeld => ?_); refine with_tabW eponymlaw19_VariantsAlike.tab14 eponymlaw19_VariantsAlike.bits14 (fun HT_ HW_ => ?_)
                         generalize wr.drew = w100 at HO_7 BK188 HB hHeld ⊢
                         refine pureB HT_ 0 76 22 1 ?_
                         refine pureB HT_ 1 77 22 3 ?_
                         refine pureB HT_ 2 78 22 7 ?_
                         refine pureB HT_ 3 79 22 15 ?_
                         refine pureB HT_ 4 80 22 31 ?_
                         refine skipB HT_ 5 81 22 63 ?_
                         refine skipB HT_ 6 82 22 127 ?_
                         refine skipB HT_ 7 83 22 255 ?_
                         refine skipB HT_ 8 84 22 511 ?_
                         refine skipB HT_ 9 85 22 1023 ?_
                         refine skipB HT_ 10 86 22 2047 ?_
                         refine skipB HT_ 11 87 22 4095 ?_
                         refine skipB HT_ 12 88 22 8191 ?_
                         refine skipB HT_ 13 89 22 16383 ?_
                         refine skipB HT_ 14 90 22 32767 ?_
                         refine skipB HT_ 15 91 22 65535 ?_
                         refine skipB HT_ 16 92 22 131071 ?_
                         refine skipB HT_ 17 93 22 262143 ?_
                         refine skipB HT_ 18 94 22 524287 ?_
                         refine skipB HT_ 19 95 22 1048575 ?_
                         refine skipB HT_ 20 96 22 2097151 ?_
                         refine pureB HT_ 21 97 22 4194303 ?_
                         refine done_ (done_of HT_.out (by kernel_rfl)) ?_
                         try go_wp2
                         have n0_ := Aside0.mk (Kd.S_drew HO_7.out)
                         have n1_ := Aside0.mk (blk_drew BK188.out)
                         have n2_ := Aside0.mk (below_drew1 HB.out)
                         clear HO_7
                         clear BK188
                         clear HB
                         have HO_7 := n0_
                         have BK188 := n1_
                         have HB := n2_
                         clear n0_ n1_ n2_
                         have p218 : 0 ≤ (x9_2 : Int) := of_decide_eq_true (by first | (with_reducible assumption) | assumption)
                         have q218 : x9_2 < (t193.length : Int) := of_decide_eq_true (by first | (with_reducible assumption) | assumption)
                         obtain ⟨ad218, A218_0, c218_0, e218, hx218_0, hl218_0, hi218_0⟩ := at_L1 (Kd.S_reads' HO_7.out).2.2 x9_2 p218 q218
                         cases e218
                         obtain ⟨ce218, hce218, hMe218, hcc218⟩ := Kd.S_get HO_7.out [] x9_2 p218 (by first | exact q218 | exact of_decide_eq_true (by first | (with_reducible assumption) | assumption) | (have e_ := (Kd.S_reads' HO_7.out).1; omega))
                         obtain ⟨ve218_0, rfl, ge218_0⟩ := hMe218
                         have hv218_0 := hcc218 0 _ rfl
                         rw [Nat.add_zero, show ((Kd.slice 21 (Kd.int .i32))).sz = 1 from rfl, Nat.mul_one] at hv218_0
                         replace hv218_0 := Option.some.inj (hv218_0.symm.trans hx218_0)
                         rw [hv218_0] at ge218_0
                         have HL218_0 := Aside0.mk (show Kd.R (Kd.int .i32) 21 _ _ _ _ (rd_L1 t193 x9_2) from ge218_0)
                         clear hv218_0 ge218_0
                         clear hcc218 hce218
                         have HR218_0 := Aside0.mk hi218_0
                         have HC218_0 := Aside0.mk hl218_0
                         clear hi218_0 hl218_0
                         replace p218 := eq_true p218
                         replace q218 := eq_true q218
                         have p219 : 0 ≤ (x10_4 : Int) := of_decide_eq_true (by first | (with_reducible assumption) | assumption)
                         have q219 : x10_4 < ((rd_L1 t193 x9_2).length : Int) := of_decide_eq_true (by first | (with_reducible assumption) | assumption)
                         obtain ⟨ad219, e219, hx219_0⟩ := Kd.at_int (by repeat (first | (with_reducible exact HR218_0.out) | (with_reducible refine Kd.C_alloc ?_ _) | (with_reducible refine Kd.C_drewN ?_ _) | (with_reducible refine Kd.C_drew ?_) | exact HR218_0.out)) x10_4 p219 q219
                         cases e219
                         replace p219 := eq_true p219
                         replace q219 := eq_true q219
                         have p220 : 0 ≤ ((ji92) : Int) := of_decide_eq_true (by first | (with_reducible assumption) | assumption)
                         have q220 : (ji92) < (t193.length : Int) := of_decide_eq_true (by first | (with_reducible assumption) | assumption)
                         obtain ⟨ad220, A220_0, c220_0, e220, hx220_0, hl220_0, hi220_0⟩ := at_L1 (Kd.S_reads' HO_7.out).2.2 (ji92) p220 q220
                         obtain rfl : ad218 = ad220 := (by injection e220)
                         obtain ⟨ce220, hce220, hMe220, hcc220⟩ := Kd.S_get HO_7.out [] (ji92) p220 (by first | exact q220 | exact of_decide_eq_true (by first | (with_reducible assumption) | assumption) | (have e_ := (Kd.S_reads' HO_7.out).1; omega))
                         obtain ⟨ve220_0, rfl, ge220_0⟩ := hMe220
                         have hv220_0 := hcc220 0 _ rfl
                         rw [Nat.add_zero, show ((Kd.slice 21 (Kd.int .i32))).sz = 1 from rfl, Nat.mul_one] at hv220_0
                         replace hv220_0 := Option.some.inj (hv220_0.symm.trans hx220_0)
                         rw [hv220_0] at ge220_0
                         have HL220_0 := Aside0.mk (show Kd.R (Kd.int .i32) 21 _ _ _ _ (rd_L1 t193 (ji92)) from ge220_0)
                         clear hv220_0 ge220_0
                         clear hcc220 hce220
                         have HR220_0 := Aside0.mk hi220_0
                         have HC220_0 := Aside0.mk hl220_0
                         clear hi220_0 hl220_0
                         replace p220 := eq_true p220
                         replace q220 := eq_true q220
                         have p221 : 0 ≤ (x10_4 : Int) := of_decide_eq_true (by first | (with_reducible assumption) | assumption)
                         have q221 : x10_4 < ((rd_L1 t193 (ji92)).length : Int) := of_decide_eq_true (by first | (with_reducible assumption) | assumption)
                         obtain ⟨ad221, e221, hx221_0⟩ := Kd.at_int (by repeat (first | (with_reducible exact HR220_0.out) | (with_reducible refine Kd.C_alloc ?_ _) | (with_reducible refine Kd.C_drewN ?_ _) | (with_reducible refine Kd.C_drew ?_) | exact HR220_0.out)) x10_4 p221 q221
                         cases e221
                         replace p221 := eq_true p221
                         replace q221 := eq_true q221
                         refine start_ (n := 22) (S := fun w' => w'.cell? (ad218.add (x9_2).toNat) = some (.slice (some ad219) (rd_L1 t193 x9_2).length c218_0) ∧ w'.cell? (ad219.add (x10_4).toNat) = some (.int .i32 (rd (rd_L1 t193 x9_2) x10_4)) ∧ w'.cell? (ad218.add ((ji92)).toNat) = some (.slice (some ad221) (rd_L1 t193 (ji92)).length c220_0) ∧ w'.cell? (ad221.add (x10_4).toNat) = some (.int .i32 (rd (rd_L1 t193 (ji92)) x10_4))) (ds := []) (bv 22 0) (by kernel_rfl) rfl rfl ⟨hx218_0, hx219_0, hx220_0, hx221_0⟩ (fun hHeld => ?_); refine with_tabW eponymlaw19_VariantsAlike.tab16 eponymlaw19_VariantsAlike.bits16 (fun HT_ HW_ => ?_)
                         generalize w100.drew = w101 at HO_7 BK188 HB HL218_0 HL220_0 HR218_0 HR220_0 hx218_0 hx219_0 hx220_0 hx221_0 hHeld ⊢
                         refine pureB HT_ 0 100 22 1 ?_
                         refine pureB HT_ 1 101 22 3 ?_
                         refine pureB HT_ 2 102 22 7 ?_
                         refine pureB HT_ 3 103 22 15 ?_
                         refine pureB HT_ 4 104 22 31 ?_
                         refine pureB HT_ 5 105 22 63 ?_
                         refine pureB HT_ 6 106 22 127 ?_
                         refine pureB HT_ 7 107 22 255 ?_
                         refine pureB HT_ 9 109 22 767 ?_
                         refine pureB HT_ 12 112 22 4863 ?_
                         refine pureB HT_ 13 113 22 13055 ?_
                         refine pureB HT_ 14 114 22 29439 ?_
                         refine pureB HT_ 15 115 22 62207 ?_
                         refine pureB HT_ 17 117 22 193279 ?_
                         refine takeB4 HT_ HW_ 8 108 22 193535 hHeld ?_
                         refine pureB HT_ 10 110 22 194559 ?_
                         refine takeB4 HT_ HW_ 11 111 22 196607 hHeld ?_
                         refine takeB4 HT_ HW_ 16 116 22 262143 hHeld ?_
                         refine pureB HT_ 18 118 22 524287 ?_
                         refine takeB4 HT_ HW_ 19 119 22 1048575 hHeld ?_
                         refine pureB HT_ 20 120 22 2097151 ?_
                         refine pureB HT_ 21 121 22 4194303 ?_
                         refine done_ (done_of HT_.out (by kernel_rfl)) ?_
                         try go_wp2
                         go_roundg k4
                         case measure => have := HJ5.out; have := HK2.out; have := HJ32.out; have := HK4.out; omega
                         case rel => exact ⟨(true), (wrap64 (x9_2 + 1)), (by first | rfl | (simp; done) | (simp [*]; done)), (by first | rfl | (simp; done) | (simp [*]; done)), H', ⟨by have := HJ5.out; have := HK2.out; have := HJ32.out; have := HK4.out; omega⟩, ⟨by (with_reducible repeat (first | apply Kd.S_alloc | apply Kd.S_drewN | apply Kd.S_drew)); exact HO_7.out⟩, ⟨by (with_reducible repeat (first | refine blk_drewN ?_ _ | refine blk_drew ?_ | refine blk_alloc ?_ _)); exact BK188.out⟩, ⟨by repeat (first | (with_reducible first | exact HB.out | apply below_alloc | apply pw_below_drewN | apply below_drew1 | refine below_set ?_ GE188.out) | exact HB.out)⟩⟩
                        ·replace c99 := Bool.eq_false_iff.mpr c99
                         subst c99
                         have H1 : ((eponymlaw01_Same.f k4 (rd_L1 t193 x9_2) l2).bind fun t223 => (eponymlaw19_VariantsAlike.l0 k4 l1 l2 t193 t223 (wrap64 (x9_2 + 1)) a0_0 l0_1)) = some r := by rw [if_neg (show ¬ (false = true) by decide)] at H; exact H
                         clear H
                         have H := H1
                         clear H1
                         replace H := Option.bind_eq_some_iff.mp H
                         obtain ⟨t223, A1020, H⟩ := H
                         replace H : (eponymlaw19_VariantsAlike.l0 k4 l1 l2 t193 t223 (wrap64 (x9_2 + 1)) a0_0 l0_1) = some r := H
                         have A102 := Aside0.mk A1020
                         clear A1020
                         have H' := Aside0.mk H
                         clear H
                         try go_wp2
                         have n0_ := Aside0.mk (Kd.S_drew HO_7.out)
                         have n1_ := Aside0.mk (blk_drew BK188.out)
                         have n2_ := Aside0.mk (below_drew1 HB.out)
                         clear HO_7
                         clear BK188
                         clear HB
                         have HO_7 := n0_
                         have BK188 := n1_
                         have HB := n2_
                         clear n0_ n1_ n2_
                         refine start_ (n := 22) (S := fun w' => True) (ds := []) (bv 22 0) (by kernel_rfl) rfl rfl trivial (fun hHeld => ?_); refine with_tabW eponymlaw19_VariantsAlike.tab14 eponymlaw19_VariantsAlike.bits14 (fun HT_ HW_ => ?_)
                         generalize wr.drew = w103 at HO_7 BK188 HB hHeld ⊢
                         refine pureB HT_ 0 76 22 1 ?_
                         refine pureB HT_ 1 77 22 3 ?_
                         refine pureB HT_ 2 78 22 7 ?_
                         refine pureB HT_ 3 79 22 15 ?_
                         refine pureB HT_ 4 80 22 31 ?_
                         refine skipB HT_ 5 81 22 63 ?_
                         refine skipB HT_ 6 82 22 127 ?_
                         refine skipB HT_ 7 83 22 255 ?_
                         refine skipB HT_ 8 84 22 511 ?_
                         refine skipB HT_ 9 85 22 1023 ?_
                         refine skipB HT_ 10 86 22 2047 ?_
                         refine skipB HT_ 11 87 22 4095 ?_
                         refine skipB HT_ 12 88 22 8191 ?_
                         refine skipB HT_ 13 89 22 16383 ?_
                         refine skipB HT_ 14 90 22 32767 ?_
                         refine skipB HT_ 15 91 22 65535 ?_
                         refine skipB HT_ 16 92 22 131071 ?_
                         refine skipB HT_ 17 93 22 262143 ?_
                         refine skipB HT_ 18 94 22 524287 ?_
                         refine skipB HT_ 19 95 22 1048575 ?_
                         refine skipB HT_ 20 96 22 2097151 ?_
                         refine pureB HT_ 21 97 22 4194303 ?_
                         refine done_ (done_of HT_.out (by kernel_rfl)) ?_
                         try go_wp2
                         have n0_ := Aside0.mk (Kd.S_drew HO_7.out)
                         have n1_ := Aside0.mk (blk_drew BK188.out)
                         have n2_ := Aside0.mk (below_drew1 HB.out)
                         clear HO_7
                         clear BK188
                         clear HB
                         have HO_7 := n0_
                         have BK188 := n1_
                         have HB := n2_
                         clear n0_ n1_ n2_
                         have p218 : 0 ≤ (x9_2 : Int) := of_decide_eq_true (by first | (with_reducible assumption) | assumption)
                         have q218 : x9_2 < (t193.length : Int) := of_decide_eq_true (by first | (with_reducible assumption) | assumption)
                         obtain ⟨ad218, A218_0, c218_0, e218, hx218_0, hl218_0, hi218_0⟩ := at_L1 (Kd.S_reads' HO_7.out).2.2 x9_2 p218 q218
                         cases e218
                         obtain ⟨ce218, hce218, hMe218, hcc218⟩ := Kd.S_get HO_7.out [] x9_2 p218 (by first | exact q218 | exact of_decide_eq_true (by first | (with_reducible assumption) | assumption) | (have e_ := (Kd.S_reads' HO_7.out).1; omega))
                         obtain ⟨ve218_0, rfl, ge218_0⟩ := hMe218
                         have hv218_0 := hcc218 0 _ rfl
                         rw [Nat.add_zero, show ((Kd.slice 21 (Kd.int .i32))).sz = 1 from rfl, Nat.mul_one] at hv218_0
                         replace hv218_0 := Option.some.inj (hv218_0.symm.trans hx218_0)
                         rw [hv218_0] at ge218_0
                         have HL218_0 := Aside0.mk (show Kd.R (Kd.int .i32) 21 _ _ _ _ (rd_L1 t193 x9_2) from ge218_0)
                         clear hv218_0 ge218_0
                         clear hcc218 hce218
                         have HR218_0 := Aside0.mk hi218_0
                         have HC218_0 := Aside0.mk hl218_0
                         clear hi218_0 hl218_0
                         replace p218 := eq_true p218
                         replace q218 := eq_true q218
                         have p219 : 0 ≤ (x10_4 : Int) := of_decide_eq_true (by first | (with_reducible assumption) | assumption)
                         have q219 : x10_4 < ((rd_L1 t193 x9_2).length : Int) := of_decide_eq_true (by first | (with_reducible assumption) | assumption)
                         obtain ⟨ad219, e219, hx219_0⟩ := Kd.at_int (by repeat (first | (with_reducible exact HR218_0.out) | (with_reducible refine Kd.C_alloc ?_ _) | (with_reducible refine Kd.C_drewN ?_ _) | (with_reducible refine Kd.C_drew ?_) | exact HR218_0.out)) x10_4 p219 q219
                         cases e219
                         replace p219 := eq_true p219
                         replace q219 := eq_true q219
                         have p220 : 0 ≤ ((ji92) : Int) := of_decide_eq_true (by first | (with_reducible assumption) | assumption)
                         have q220 : (ji92) < (t193.length : Int) := of_decide_eq_true (by first | (with_reducible assumption) | assumption)
                         obtain ⟨ad220, A220_0, c220_0, e220, hx220_0, hl220_0, hi220_0⟩ := at_L1 (Kd.S_reads' HO_7.out).2.2 (ji92) p220 q220
                         obtain rfl : ad218 = ad220 := (by injection e220)
                         obtain ⟨ce220, hce220, hMe220, hcc220⟩ := Kd.S_get HO_7.out [] (ji92) p220 (by first | exact q220 | exact of_decide_eq_true (by first | (with_reducible assumption) | assumption) | (have e_ := (Kd.S_reads' HO_7.out).1; omega))
                         obtain ⟨ve220_0, rfl, ge220_0⟩ := hMe220
                         have hv220_0 := hcc220 0 _ rfl
                         rw [Nat.add_zero, show ((Kd.slice 21 (Kd.int .i32))).sz = 1 from rfl, Nat.mul_one] at hv220_0
                         replace hv220_0 := Option.some.inj (hv220_0.symm.trans hx220_0)
                         rw [hv220_0] at ge220_0
                         have HL220_0 := Aside0.mk (show Kd.R (Kd.int .i32) 21 _ _ _ _ (rd_L1 t193 (ji92)) from ge220_0)
                         clear hv220_0 ge220_0
                         clear hcc220 hce220
                         have HR220_0 := Aside0.mk hi220_0
                         have HC220_0 := Aside0.mk hl220_0
                         clear hi220_0 hl220_0
                         replace p220 := eq_true p220
                         replace q220 := eq_true q220
                         have p221 : 0 ≤ (x10_4 : Int) := of_decide_eq_true (by first | (with_reducible assumption) | assumption)
                         have q221 : x10_4 < ((rd_L1 t193 (ji92)).length : Int) := of_decide_eq_true (by first | (with_reducible assumption) | assumption)
                         obtain ⟨ad221, e221, hx221_0⟩ := Kd.at_int (by repeat (first | (with_reducible exact HR220_0.out) | (with_reducible refine Kd.C_alloc ?_ _) | (with_reducible refine Kd.C_drewN ?_ _) | (with_reducible refine Kd.C_drew ?_) | exact HR220_0.out)) x10_4 p221 q221
                         cases e221
                         replace p221 := eq_true p221
                         replace q221 := eq_true q221
                         refine start_ (n := 22) (S := fun w' => w'.cell? (ad218.add (x9_2).toNat) = some (.slice (some ad219) (rd_L1 t193 x9_2).length c218_0) ∧ w'.cell? (ad219.add (x10_4).toNat) = some (.int .i32 (rd (rd_L1 t193 x9_2) x10_4)) ∧ w'.cell? (ad218.add ((ji92)).toNat) = some (.slice (some ad221) (rd_L1 t193 (ji92)).length c220_0) ∧ w'.cell? (ad221.add (x10_4).toNat) = some (.int .i32 (rd (rd_L1 t193 (ji92)) x10_4))) (ds := []) (bv 22 0) (by kernel_rfl) rfl rfl ⟨hx218_0, hx219_0, hx220_0, hx221_0⟩ (fun hHeld => ?_); refine with_tabW eponymlaw19_VariantsAlike.tab16 eponymlaw19_VariantsAlike.bits16 (fun HT_ HW_ => ?_)
                         generalize w103.drew = w104 at HO_7 BK188 HB HL218_0 HL220_0 HR218_0 HR220_0 hx218_0 hx219_0 hx220_0 hx221_0 hHeld ⊢
                         refine pureB HT_ 0 100 22 1 ?_
                         refine pureB HT_ 1 101 22 3 ?_
                         refine pureB HT_ 2 102 22 7 ?_
                         refine pureB HT_ 3 103 22 15 ?_
                         refine pureB HT_ 4 104 22 31 ?_
                         refine pureB HT_ 5 105 22 63 ?_
                         refine pureB HT_ 6 106 22 127 ?_
                         refine pureB HT_ 7 107 22 255 ?_
                         refine pureB HT_ 9 109 22 767 ?_
                         refine pureB HT_ 12 112 22 4863 ?_
                         refine pureB HT_ 13 113 22 13055 ?_
                         refine pureB HT_ 14 114 22 29439 ?_
                         refine pureB HT_ 15 115 22 62207 ?_
                         refine pureB HT_ 17 117 22 193279 ?_
                         refine takeB4 HT_ HW_ 8 108 22 193535 hHeld ?_
                         refine pureB HT_ 10 110 22 194559 ?_
                         refine takeB4 HT_ HW_ 11 111 22 196607 hHeld ?_
                         refine takeB4 HT_ HW_ 16 116 22 262143 hHeld ?_
                         refine pureB HT_ 18 118 22 524287 ?_
                         refine takeB4 HT_ HW_ 19 119 22 1048575 hHeld ?_
                         refine pureB HT_ 20 120 22 2097151 ?_
                         refine pureB HT_ 21 121 22 4194303 ?_
                         refine done_ (done_of HT_.out (by kernel_rfl)) ?_
                         have p222 : 0 ≤ (x9_2 : Int) := of_decide_eq_true (by first | (with_reducible assumption) | assumption)
                         have q222 : x9_2 < (t193.length : Int) := of_decide_eq_true (by first | (with_reducible assumption) | assumption)
                         obtain ⟨ad222, A222_0, c222_0, e222, hx222_0, hl222_0, hi222_0⟩ := at_L1 (Kd.S_reads' HO_7.out).2.2 x9_2 p222 q222
                         obtain rfl : ad218 = ad222 := (by injection e222)
                         obtain ⟨ce222, hce222, hMe222, hcc222⟩ := Kd.S_get HO_7.out [] x9_2 p222 (by first | exact q222 | exact of_decide_eq_true (by first | (with_reducible assumption) | assumption) | (have e_ := (Kd.S_reads' HO_7.out).1; omega))
                         obtain ⟨ve222_0, rfl, ge222_0⟩ := hMe222
                         have hv222_0 := hcc222 0 _ rfl
                         rw [Nat.add_zero, show ((Kd.slice 21 (Kd.int .i32))).sz = 1 from rfl, Nat.mul_one] at hv222_0
                         replace hv222_0 := Option.some.inj (hv222_0.symm.trans hx222_0)
                         rw [hv222_0] at ge222_0
                         have HL222_0 := Aside0.mk (show Kd.R (Kd.int .i32) 21 _ _ _ _ (rd_L1 t193 x9_2) from ge222_0)
                         clear hv222_0 ge222_0
                         clear hcc222 hce222
                         have HR222_0 := Aside0.mk hi222_0
                         have HC222_0 := Aside0.mk hl222_0
                         clear hi222_0 hl222_0
                         replace p222 := eq_true p222
                         replace q222 := eq_true q222
                         have ea_ := Option.some.inj (hx218_0.symm.trans hx222_0)
                         injection ea_ with ea_ en_ ec_
                         subst ea_
                         subst ec_
                         clear en_
                         try go_wp2_with (first | (go_at_call 11; (with_reducible refine (eponymlaw01_Same.calls k4 _ _ (rd_L1 t193 x9_2) _ _ l2 t223 _ ?side1 ?side2 ?side3 ?side4 A102.out).mono ?_); (case side1 => repeat (first | exact (by repeat (first | (with_reducible exact HR222_0.out) | (with_reducible refine Kd.C_alloc ?_ _) | (with_reducible refine Kd.C_drewN ?_ _) | (with_reducible refine Kd.C_drew ?_) | exact HR222_0.out)) | (with_reducible refine Kd.C_alloc ?_ _) | (with_reducible refine Kd.C_drewN ?_ _) | (with_reducible refine Kd.C_drew ?_))); (case side2 => exact HC222_0.out); (case side3 => repeat (first | exact (Kd.C_below HR2.out HB.out) | (with_reducible refine Kd.C_alloc ?_ _) | (with_reducible refine Kd.C_drewN ?_ _) | (with_reducible refine Kd.C_drew ?_))); (case side4 => exact HC2.out); rintro e w' ⟨rfl, ⟨nd, rfl⟩⟩))
                         go_roundg k4
                         case measure => have := HJ5.out; have := HK2.out; have := HJ32.out; have := HK4.out; omega
                         case rel => exact ⟨(t223), (wrap64 (x9_2 + 1)), (by first | rfl | (simp; done) | (simp [*]; done)), (by first | rfl | (simp; done) | (simp [*]; done)), H', ⟨by have := HJ5.out; have := HK2.out; have := HJ32.out; have := HK4.out; omega⟩, ⟨by (with_reducible repeat (first | apply Kd.S_alloc | apply Kd.S_drewN | apply Kd.S_drew)); exact HO_7.out⟩, ⟨by (with_reducible repeat (first | refine blk_drewN ?_ _ | refine blk_drew ?_ | refine blk_alloc ?_ _)); exact BK188.out⟩, ⟨by repeat (first | (with_reducible first | exact HB.out | apply below_alloc | apply pw_below_drewN | apply below_drew1 | refine below_set ?_ GE188.out) | exact HB.out)⟩⟩
                      ·rw [if_neg c95] at H
                       exact absurd H (by simp)
                     ·rw [if_neg c94] at H
                      exact absurd H (by simp)
                    ·rw [if_neg c93] at H
                     exact absurd H (by simp)
                   ·rw [if_neg c91] at H
                    exact absurd H (by simp)
                  ·rw [if_neg c90] at H
                   exact absurd H (by simp)
                 ·rw [if_neg c89] at H
                  exact absurd H (by simp)
                ·rw [if_neg c88] at H
                 exact absurd H (by simp)
           ·rw [if_neg c61] at H
            have c61b0 : decide (0 < x9_2) = false := decide_eq_false c61
            clear c61
            by_cases c105 : x8_2 = true
            ·subst c105
             have H1 : (eponymlaw19_VariantsAlike.l0 kj32 l1 l2 t193 true (wrap64 (x9_2 + 1)) a0_0 l0_1) = some r := by rw [if_pos rfl] at H; exact H
             clear H
             have H := H1
             clear H1
             have H' := Aside0.mk H
             clear H
             go_wp2
             go_roundg kj32
             case measure => have := HJ5.out; have := HK2.out; have := HJ32.out; omega
             case rel => exact ⟨(true), (wrap64 (x9_2 + 1)), (by first | rfl | (simp; done) | (simp [*]; done)), (by first | rfl | (simp; done) | (simp [*]; done)), H', ⟨by have := HJ5.out; have := HK2.out; have := HJ32.out; omega⟩, ⟨by (with_reducible repeat (first | apply Kd.S_alloc | apply Kd.S_drewN | apply Kd.S_drew)); exact HO_7.out⟩, ⟨by (with_reducible repeat (first | refine blk_drewN ?_ _ | refine blk_drew ?_ | refine blk_alloc ?_ _)); exact BK188.out⟩, ⟨by repeat (first | (with_reducible first | exact HB.out | apply below_alloc | apply pw_below_drewN | apply below_drew1 | refine below_set ?_ GE188.out) | exact HB.out)⟩⟩
            ·replace c105 := Bool.eq_false_iff.mpr c105
             subst c105
             have H1 : (if 0 ≤ x9_2 then (if x9_2 < (t193.length : Int) then ((eponymlaw01_Same.f kj32 (rd_L1 t193 x9_2) l2).bind fun t225 => (eponymlaw19_VariantsAlike.l0 kj32 l1 l2 t193 t225 (wrap64 (x9_2 + 1)) a0_0 l0_1)) else (none)) else (none)) = some r := by rw [if_neg (show ¬ (false = true) by decide)] at H; exact H
             clear H
             have H := H1
             clear H1
             by_cases c106 : 0 ≤ x9_2
             ·rw [if_pos c106] at H
              have c106b0 : decide (0 ≤ x9_2) = true := decide_eq_true c106
              clear c106
              by_cases c107 : x9_2 < (t193.length : Int)
              ·rw [if_pos c107] at H
               have c107b0 : decide (x9_2 < (t193.length : Int)) = true := decide_eq_true c107
               clear c107
               replace H := Option.bind_eq_some_iff.mp H
               obtain ⟨t225, A1080, H⟩ := H
               replace H : (eponymlaw19_VariantsAlike.l0 kj32 l1 l2 t193 t225 (wrap64 (x9_2 + 1)) a0_0 l0_1) = some r := H
               have A108 := Aside0.mk A1080
               clear A1080
               have H' := Aside0.mk H
               clear H
               have p224 : 0 ≤ (x9_2 : Int) := of_decide_eq_true (by first | (with_reducible assumption) | assumption)
               have q224 : x9_2 < (t193.length : Int) := of_decide_eq_true (by first | (with_reducible assumption) | assumption)
               obtain ⟨ad224, A224_0, c224_0, e224, hx224_0, hl224_0, hi224_0⟩ := at_L1 (Kd.S_reads' HO_7.out).2.2 x9_2 p224 q224
               cases e224
               obtain ⟨ce224, hce224, hMe224, hcc224⟩ := Kd.S_get HO_7.out [] x9_2 p224 (by first | exact q224 | exact of_decide_eq_true (by first | (with_reducible assumption) | assumption) | (have e_ := (Kd.S_reads' HO_7.out).1; omega))
               obtain ⟨ve224_0, rfl, ge224_0⟩ := hMe224
               have hv224_0 := hcc224 0 _ rfl
               rw [Nat.add_zero, show ((Kd.slice 21 (Kd.int .i32))).sz = 1 from rfl, Nat.mul_one] at hv224_0
               replace hv224_0 := Option.some.inj (hv224_0.symm.trans hx224_0)
               rw [hv224_0] at ge224_0
               have HL224_0 := Aside0.mk (show Kd.R (Kd.int .i32) 21 _ _ _ _ (rd_L1 t193 x9_2) from ge224_0)
               clear hv224_0 ge224_0
               clear hcc224 hce224
               have HR224_0 := Aside0.mk hi224_0
               have HC224_0 := Aside0.mk hl224_0
               clear hi224_0 hl224_0
               replace p224 := eq_true p224
               replace q224 := eq_true q224
               go_wp2_with (first | (go_at_call 11; (with_reducible refine (eponymlaw01_Same.calls kj32 _ _ (rd_L1 t193 x9_2) _ _ l2 t225 _ ?side1 ?side2 ?side3 ?side4 A108.out).mono ?_); (case side1 => repeat (first | exact (by repeat (first | (with_reducible exact HR224_0.out) | (with_reducible refine Kd.C_alloc ?_ _) | (with_reducible refine Kd.C_drewN ?_ _) | (with_reducible refine Kd.C_drew ?_) | exact HR224_0.out)) | (with_reducible refine Kd.C_alloc ?_ _) | (with_reducible refine Kd.C_drewN ?_ _) | (with_reducible refine Kd.C_drew ?_))); (case side2 => exact HC224_0.out); (case side3 => repeat (first | exact (Kd.C_below HR2.out HB.out) | (with_reducible refine Kd.C_alloc ?_ _) | (with_reducible refine Kd.C_drewN ?_ _) | (with_reducible refine Kd.C_drew ?_))); (case side4 => exact HC2.out); rintro e w' ⟨rfl, ⟨nd, rfl⟩⟩))
               go_roundg kj32
               case measure => have := HJ5.out; have := HK2.out; have := HJ32.out; omega
               case rel => exact ⟨(t225), (wrap64 (x9_2 + 1)), (by first | rfl | (simp; done) | (simp [*]; done)), (by first | rfl | (simp; done) | (simp [*]; done)), H', ⟨by have := HJ5.out; have := HK2.out; have := HJ32.out; omega⟩, ⟨by (with_reducible repeat (first | apply Kd.S_alloc | apply Kd.S_drewN | apply Kd.S_drew)); exact HO_7.out⟩, ⟨by (with_reducible repeat (first | refine blk_drewN ?_ _ | refine blk_drew ?_ | refine blk_alloc ?_ _)); exact BK188.out⟩, ⟨by repeat (first | (with_reducible first | exact HB.out | apply below_alloc | apply pw_below_drewN | apply below_drew1 | refine below_set ?_ GE188.out) | exact HB.out)⟩⟩
              ·rw [if_neg c107] at H
               exact absurd H (by simp)
             ·rw [if_neg c106] at H
              exact absurd H (by simp)
       ·rw [if_neg c32] at H
        have c32b0 : decide (x9_2 < (t193.length : Int)) = false := decide_eq_false c32
        clear c32
        replace H := Option.bind_eq_some_iff.mp H
        obtain ⟨t196, A1090, H⟩ := H
        replace H : (if t196 > 50 then (some true) else ((variants_Same.f k2 a0_0 l0_1 l1 l2).bind fun t197 => (some (x8_2 == t197)))) = some r := H
        have A109 := Aside0.mk A1090
        clear A1090
        by_cases c110 : t196 > 50
        ·rw [if_pos c110] at H
         have c110b0 : decide (50 < t196) = true := decide_eq_true c110
         clear c110
         obtain rfl := Option.some.inj H
         obtain ⟨Ao111, co111, eo111⟩ := Kd.S_slice HO_7.out
         subst eo111
         have hcz112_0 : wr.cell? ⟨gb188, 0, none⟩ = some (.string a0_0) := (blk_cell BK188.out 0).trans rfl
         have hcz112_1 : wr.cell? ⟨gb188, 1, none⟩ = some (.slice A0_1 l0_1.length c0_1) := (blk_cell BK188.out 1).trans rfl
         have hfz112_0 := blk_frozen BK188.out 0
         have hfz112_1 := blk_frozen BK188.out 1
         go_wp2_with (first | ((with_reducible refine gate_callee (f := 10) rfl ?_); refine goesL_ (some 133) rfl rfl Tryd.func10 (by kernel_rfl) rfl #[.agg #[.string a0_0, .slice A0_1 l0_1.length c0_1], .slice A1 l1.length c1] rfl (by (try simp only [List.map_toArray, List.map_cons, List.map_nil]); first | done | rfl | (simp only [List.length_drop, List.length_take]; rfl)) ?_; (with_reducible refine (variants_Count.calls k2 a0_0 _ _ l0_1 _ _ l1 t196 _ ?side1 ?side2 ?side3 ?side4 A109.out).mono ?_); (case side1 => repeat (first | exact (Kd.C_below HR0_1.out HB.out) | (with_reducible refine Kd.C_alloc ?_ _) | (with_reducible refine Kd.C_drewN ?_ _) | (with_reducible refine Kd.C_drew ?_))); (case side2 => exact HC0_1.out); (case side3 => repeat (first | exact (Kd.C_below HR1.out HB.out) | (with_reducible refine Kd.C_alloc ?_ _) | (with_reducible refine Kd.C_drewN ?_ _) | (with_reducible refine Kd.C_drew ?_))); (case side4 => exact HC1.out); rintro e w113 ⟨rfl, hb⟩; refine ⟨_, rfl, ?_⟩; have n0_ := Aside0.mk (Kd.S_below (by (with_reducible repeat (first | apply Kd.S_alloc | apply Kd.S_drewN | apply Kd.S_drew)); exact HO_7.out) hb); have n1_ := Aside0.mk (blk_below (g := gb188) (o := .cells #[.string a0_0, .slice A0_1 l0_1.length c0_1] 24 (0, 0)) (by (with_reducible repeat (first | refine blk_drewN ?_ _ | refine blk_drew ?_ | refine blk_alloc ?_ _)); exact BK188.out) hb); have n2_ := Aside0.mk (below_step (by repeat (first | (with_reducible first | exact HB.out | apply below_alloc | apply pw_below_drewN | apply below_drew1 | refine below_set ?_ GE188.out) | exact HB.out)) hb); clear HO_7; clear BK188; clear HB; have HO_7 := n0_; have BK188 := n1_; have HB := n2_; clear n0_ n1_ n2_; (try clear hb); (try clear hb2); (try clear hk); (try clear hi)))
         go_ret
         exact ⟨by first | rfl | (simp [errV_none, errV_some] <;> rfl) | (simp [*, errV_none, errV_some] <;> rfl), by repeat (first | (with_reducible first | exact HB.out | apply below_alloc | apply pw_below_drewN | apply below_drew1 | refine below_set ?_ GE188.out) | exact HB.out)⟩
        ·rw [if_neg c110] at H
         have c110b0 : decide (50 < t196) = false := decide_eq_false c110
         clear c110
         replace H := Option.bind_eq_some_iff.mp H
         obtain ⟨t197, A1140, H⟩ := H
         replace H : (some (x8_2 == t197)) = some r := H
         have A114 := Aside0.mk A1140
         clear A1140
         obtain rfl := Option.some.inj H
         obtain ⟨Ao115, co115, eo115⟩ := Kd.S_slice HO_7.out
         subst eo115
         have hcz116_0 : wr.cell? ⟨gb188, 0, none⟩ = some (.string a0_0) := (blk_cell BK188.out 0).trans rfl
         have hcz116_1 : wr.cell? ⟨gb188, 1, none⟩ = some (.slice A0_1 l0_1.length c0_1) := (blk_cell BK188.out 1).trans rfl
         have hfz116_0 := blk_frozen BK188.out 0
         have hfz116_1 := blk_frozen BK188.out 1
         go_wp2_with (first | ((with_reducible refine gate_callee (f := 10) rfl ?_); refine goesL_ (some 133) rfl rfl Tryd.func10 (by kernel_rfl) rfl #[.agg #[.string a0_0, .slice A0_1 l0_1.length c0_1], .slice A1 l1.length c1] rfl (by (try simp only [List.map_toArray, List.map_cons, List.map_nil]); first | done | rfl | (simp only [List.length_drop, List.length_take]; rfl)) ?_; (with_reducible refine (variants_Count.calls k2 a0_0 _ _ l0_1 _ _ l1 t196 _ ?side1 ?side2 ?side3 ?side4 A109.out).mono ?_); (case side1 => repeat (first | exact (Kd.C_below HR0_1.out HB.out) | (with_reducible refine Kd.C_alloc ?_ _) | (with_reducible refine Kd.C_drewN ?_ _) | (with_reducible refine Kd.C_drew ?_))); (case side2 => exact HC0_1.out); (case side3 => repeat (first | exact (Kd.C_below HR1.out HB.out) | (with_reducible refine Kd.C_alloc ?_ _) | (with_reducible refine Kd.C_drewN ?_ _) | (with_reducible refine Kd.C_drew ?_))); (case side4 => exact HC1.out); rintro e w117 ⟨rfl, hb⟩; refine ⟨_, rfl, ?_⟩; have n0_ := Aside0.mk (Kd.S_below (by (with_reducible repeat (first | apply Kd.S_alloc | apply Kd.S_drewN | apply Kd.S_drew)); exact HO_7.out) hb); have n1_ := Aside0.mk (blk_below (g := gb188) (o := .cells #[.string a0_0, .slice A0_1 l0_1.length c0_1] 24 (0, 0)) (by (with_reducible repeat (first | refine blk_drewN ?_ _ | refine blk_drew ?_ | refine blk_alloc ?_ _)); exact BK188.out) hb); have n2_ := Aside0.mk (below_step (by repeat (first | (with_reducible first | exact HB.out | apply below_alloc | apply pw_below_drewN | apply below_drew1 | refine below_set ?_ GE188.out) | exact HB.out)) hb); clear HO_7; clear BK188; clear HB; have HO_7 := n0_; have BK188 := n1_; have HB := n2_; clear n0_ n1_ n2_; (try clear hb); (try clear hb2); (try clear hk); (try clear hi); have hcz118_0 : w117.cell? ⟨gb188, 0, none⟩ = some (.string a0_0) := (blk_cell BK188.out 0).trans rfl; have hcz118_1 : w117.cell? ⟨gb188, 1, none⟩ = some (.slice A0_1 l0_1.length c0_1) := (blk_cell BK188.out 1).trans rfl; have hfz118_0 := blk_frozen BK188.out 0; have hfz118_1 := blk_frozen BK188.out 1) | (go_at_call 9; (with_reducible refine (variants_Same.calls k2 a0_0 _ _ l0_1 _ _ l1 _ _ l2 t197 _ ?side1 ?side2 ?side3 ?side4 ?side5 ?side6 A114.out).mono ?_); (case side1 => repeat (first | exact (Kd.C_below HR0_1.out HB.out) | (with_reducible refine Kd.C_alloc ?_ _) | (with_reducible refine Kd.C_drewN ?_ _) | (with_reducible refine Kd.C_drew ?_))); (case side2 => exact HC0_1.out); (case side3 => repeat (first | exact (Kd.C_below HR1.out HB.out) | (with_reducible refine Kd.C_alloc ?_ _) | (with_reducible refine Kd.C_drewN ?_ _) | (with_reducible refine Kd.C_drew ?_))); (case side4 => exact HC1.out); (case side5 => repeat (first | exact (Kd.C_below HR2.out HB.out) | (with_reducible refine Kd.C_alloc ?_ _) | (with_reducible refine Kd.C_drewN ?_ _) | (with_reducible refine Kd.C_drew ?_))); (case side6 => exact HC2.out); rintro e w119 ⟨rfl, hb⟩; have n0_ := Aside0.mk (Kd.S_below (by (with_reducible repeat (first | apply Kd.S_alloc | apply Kd.S_drewN | apply Kd.S_drew)); exact HO_7.out) hb); have n1_ := Aside0.mk (blk_below (g := gb188) (o := .cells #[.string a0_0, .slice A0_1 l0_1.length c0_1] 24 (0, 0)) (by (with_reducible repeat (first | refine blk_drewN ?_ _ | refine blk_drew ?_ | refine blk_alloc ?_ _)); exact BK188.out) hb); have n2_ := Aside0.mk (below_step (by repeat (first | (with_reducible first | exact HB.out | apply below_alloc | apply pw_below_drewN | apply below_drew1 | refine below_set ?_ GE188.out) | exact HB.out)) hb); clear HO_7; clear BK188; clear HB; have HO_7 := n0_; have BK188 := n1_; have HB := n2_; clear n0_ n1_ n2_; (try clear hb); (try clear hb2); (try clear hk); (try clear hi)))
         go_ret
         exact ⟨by first | rfl | (simp [errV_none, errV_some] <;> rfl) | (simp [*, errV_none, errV_some] <;> rfl), by repeat (first | (with_reducible first | exact HB.out | apply below_alloc | apply pw_below_drewN | apply below_drew1 | refine below_set ?_ GE188.out) | exact HB.out)⟩
 ·replace c5 := Bool.eq_false_iff.mpr c5
  subst c5
  have H1 : (some false) = some r := by rw [if_neg (show ¬ (false = true) by decide)] at H; exact H
  clear H
  have H := H1
  clear H1
  obtain rfl := Option.some.inj H
  go_enter Tryd.func3, Tryd.ntmps3
  go_wp2_with (first | ((with_reducible refine gate_dst (N := 3) rfl ?_); (try (refine gate_guard (by rfl) ?_; dsimp only)); refine box_event ?hg (N := 3) ?hd (cs := #[.string a0_0, .slice A0_1 l0_1.length c0_1]) (t := 24) ?hr ?_; (case hd => rfl); (case hg => rfl); (case hr => first | (go_simp; done) | (go_simp; rfl)); intro gb188 hg w120 hbox hb; have n0_ := Aside0.mk (below_step (by repeat (first | (with_reducible first | exact HB.out | apply below_alloc | apply pw_below_drewN | apply below_drew1) | exact HB.out)) hb); have n1_ := Aside0.mk (hbox); have n2_ := Aside0.mk ((by rw [hg]; exact (below_size (by repeat (first | (with_reducible first | exact HB.out | apply below_alloc | apply pw_below_drewN | apply below_drew1) | exact HB.out))) : w.heap.size ≤ gb188)); have n3_ := Aside0.mk ((by rw [hg]; exact (below_size (by repeat (first | (with_reducible first | exact HB.out | apply below_alloc | apply pw_below_drewN | apply below_drew1) | exact HB.out))) : w.heap.size ≤ gb188)); clear HB; have HB := n0_; have BK188 := n1_; have GW188 := n2_; have GE188 := n3_; clear n0_ n1_ n2_ n3_; clear hb hbox hg) | ((with_reducible refine gate_callee (f := 5) rfl ?_); refine goesL_ (some 11) rfl rfl Tryd.func5 (by kernel_rfl) rfl #[] rfl (by (try simp only [List.map_toArray, List.map_cons, List.map_nil]); first | done | rfl | (simp only [List.length_drop, List.length_take]; rfl)) ?_; (with_reducible refine (eponymlaw19_awake.calls k  false _ A4.out).mono ?_); rintro e w121 ⟨rfl, hb⟩; refine ⟨_, rfl, ?_⟩; have n0_ := Aside0.mk (blk_below (g := gb188) (o := .cells #[.string a0_0, .slice A0_1 l0_1.length c0_1] 24 (0, 0)) (by (with_reducible repeat (first | refine blk_drewN ?_ _ | refine blk_drew ?_ | refine blk_alloc ?_ _)); exact BK188.out) hb); have n1_ := Aside0.mk (below_step (by repeat (first | (with_reducible first | exact HB.out | apply below_alloc | apply pw_below_drewN | apply below_drew1 | refine below_set ?_ GE188.out) | exact HB.out)) hb); clear BK188; clear HB; have BK188 := n0_; have HB := n1_; clear n0_ n1_; (try clear hb); (try clear hb2); (try clear hk); (try clear hi)))
  go_ret
  exact ⟨by first | rfl | (simp [errV_none, errV_some] <;> rfl) | (simp [*, errV_none, errV_some] <;> rfl), by repeat (first | (with_reducible first | exact HB.out | apply below_alloc | apply pw_below_drewN | apply below_drew1 | refine below_set ?_ GE188.out) | exact HB.out)⟩

end Go.Proofs.YtohnahbjmcelfaaDoor.V
