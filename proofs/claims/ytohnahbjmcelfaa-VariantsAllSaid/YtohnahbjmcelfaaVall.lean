/- The walk of the law VariantsAll (printed up to its range over a function, the rest by hand); conditions: those that its contract names. -/
import Derived.Test.YtohnahbjmcelfaaVx13
import Derived.Test.YtohnahbjmcelfaaVx12
import Derived.Test.YtohnahbjmcelfaaVx4
import Derived.Test.YtohnahbjmcelfaaPlain
import Derived.Maps.OwnIn
import Derived.RangeFuncNested
import Derived.RangeFuncBound
import Derived.RangeFuncCalls
import Derived.RangeFuncLeaves
import Derived.Deep.CutBlock
import Derived.WalkKit
import Derived.OwnWalkIn
import Derived.TacticsInMore
import Derived.LoopNIn
import Derived.LoopIn
import Derived.BigQuiet
import Derived.Deep.QuietTactic
import Derived.Outline
namespace Go.Proofs.Ytohnahbjmcelfaa.V
open Go.RowKit Go.Proofs.YtohnahbjmcelfaaW.PrintWords Go.Proofs.YtohnahbjmcelfaaW.PrintLast Go.Proofs.YtohnahbjmcelfaaW.PrintMore
attribute [local go_sem] max2_int min2_int max_two min_two max_three min_three max_four min_four
set_option linter.unusedVariables false
set_option linter.unusedSimpArgs false
/-! ### What the range over the variants shows -/
/-- are the first n rows those of the list? -/
def goodTo (k : Nat) (ws all : List (List Int)) : Nat → Option Bool
  | 0 => some true
  | n + 1 => (goodTo k ws all n).bind fun g => if g = true then eponymlaw01_Same.f k (VarPlain.row ws n) (rd_L1 all (n : Int)) else some false
theorem goodTo_mono (k : Nat) (ws all : List (List Int)) : ∀ n, LeO (goodTo k ws all n) (goodTo (k + 1) ws all n)
  | 0 => LeO.refl _
  | n + 1 => by
    unfold goodTo
    refine LeO.bind (goodTo_mono k ws all n) (fun g => ?_)
    exact LeO.ite (eponymlaw01_Same.mono _ _ _) (LeO.refl _)
theorem goodTo_le {k : Nat} {ws all : List (List Int)} {n m : Nat} {g : Bool} (h : goodTo k ws all n = some g) (hm : m ≤ n) : ∃ g', goodTo k ws all m = some g' := by
  induction n generalizing g with
  | zero => exact ⟨g, by rw [show m = 0 by omega]; exact h⟩
  | succ n ih =>
    by_cases e : m = n + 1
    · exact ⟨g, by rw [e]; exact h⟩
    · unfold goodTo at h
      obtain ⟨g1, h1, _⟩ := Option.bind_eq_some_iff.mp h
      exact ih h1 (by omega)
/-- the range's end. -/
def rgEnd (k : Nat) (a0_0 : ByteArray) (l0_1 : List (List Int)) (l1 : List Int) (all : List (List Int)) : Option Bool :=
  (variants_Seq.f k a0_0 l0_1 l1).bind fun ws => (if ws.length < 1000 then (if ws.all (fun x => decide (0 < x.length)) = true then (goodTo k ws all (min (VarPlain.prod ws) all.length)).bind fun g => some (g && decide (all.length ≤ VarPlain.prod ws)) else none) else none)
theorem rgEnd_mono (k : Nat) (a0_0 : ByteArray) (l0_1 : List (List Int)) (l1 : List Int) (all : List (List Int)) : LeO (rgEnd k a0_0 l0_1 l1 all) (rgEnd (k + 1) a0_0 l0_1 l1 all) := by
  unfold rgEnd
  refine LeO.bind (variants_Seq.mono _ _ _ _) (fun ws => ?_)
  exact LeO.ite (LeO.ite (LeO.bind (goodTo_mono _ _ _ _) (fun _ => LeO.refl _)) (LeO.none _)) (LeO.none _)
/-- what the law's own memory holds between two rounds. -/
structure RgInv (k0 : Nat) (w : World) (S0 ga gn gg : Nat) (v : Value) (ws all : List (List Int)) (k : Nat) (W : World) : Prop where
  n : W.heap[gn]? = some (.cells #[.int .i64 (k : Int)] 3 (0, 0))
  good : ∃ g, goodTo k0 ws all k = some g ∧ W.heap[gg]? = some (.cells #[.bool g] 4 (0, 0))
  box : W.heap[ga]? = some (.cells #[v] 22 (0, 0))
  rows : Kd.S (Kd.slice 21 (Kd.int .i32)) 25 W w.heap.size (fun b => b < S0) v all
  bel : Below w.heap.size w W
theorem RgInv.grown {k0 : Nat} {w : World} {S0 ga gn gg : Nat} {v : Value} {ws all : List (List Int)} {k : Nat} {W W' : World} (h : RgInv k0 w S0 ga gn gg v ws all k W) (h1 : ga < S0) (h2 : gn < S0) (h4 : gg < S0) (h3 : w.heap.size ≤ S0) {row : Option Nat} (hg : W.grownBy W' row) (hr : ∀ r, row = some r → S0 ≤ r ∧ r ≤ S0 + 2) : RgInv k0 w S0 ga gn gg v ws all k W' := by
  obtain ⟨hn, ⟨g, hg1, hg2⟩, hb, hS, hbel⟩ := h
  exact ⟨blk_grown hn hg (fun e => by have := hr _ e.symm; omega), ⟨g, hg1, blk_grown hg2 hg (fun e => by have := hr _ e.symm; omega)⟩, blk_grown hb hg (fun e => by have := hr _ e.symm; omega), Kd.S_grown hS hg (fun b hb' e => by have := hr _ e.symm; omega), hbel.grown hg hbel.size (fun r e => by have := hr _ e; omega)⟩
theorem RgInv.kept {k0 : Nat} {w : World} {S0 ga gn gg : Nat} {v : Value} {ws all : List (List Int)} {k : Nat} {W W' : World} (h : RgInv k0 w S0 ga gn gg v ws all k W) (h1 : ga < S0) (h2 : gn < S0) (h4 : gg < S0) (h3 : w.heap.size ≤ S0) (hK : KeepO S0 W W') : RgInv k0 w S0 ga gn gg v ws all k W' := by
  obtain ⟨hn, ⟨g, hg1, hg2⟩, hb, hS, hbel⟩ := h
  have hl := hbel.size
  refine ⟨(hK.block _ (blk_lt hn) (.inl (by omega))).trans hn, ⟨g, hg1, (hK.block _ (blk_lt hg2) (.inl (by omega))).trans hg2⟩, (hK.block _ (blk_lt hb) (.inl (by omega))).trans hb, Kd.S_step hS (fun b hb hlt => hK.block b hlt (.inl hb)), ?_⟩
  exact ⟨hK.os.trans hbel.os, hK.tape.trans hbel.tape, hK.output.trans hbel.output, Nat.le_trans hbel.size hK.size, fun b hb => (hK.block b (by omega) (.inl (by omega))).trans (hbel.block b hb)⟩
theorem RgInv.step {k0 : Nat} {w : World} {S0 b0 ga gn gg : Nat} {v : Value} {ws all : List (List Int)} {k : Nat} {W : World} {g1 : Bool} (h : RgInv k0 w S0 ga gn gg v ws all k W) (hk : goodTo k0 ws all (k + 1) = some g1) (ha : ga < b0) (hn : gn < b0) (hgg : gg < b0) (wn : w.heap.size ≤ gn) (wg : w.heap.size ≤ gg) (m : Nat) :
    KpB b0 S0 W (((W.drewN m).setCell ⟨gg, 0, none⟩ (.bool g1)).setCell ⟨gn, 0, none⟩ (.int .i64 ((k + 1 : Nat) : Int))) ∧ RgInv k0 w S0 ga gn gg v ws all (k + 1) (((W.drewN m).setCell ⟨gg, 0, none⟩ (.bool g1)).setCell ⟨gn, 0, none⟩ (.int .i64 ((k + 1 : Nat) : Int))) := by
  obtain ⟨hn1, ⟨g, hg1, hg2⟩, hb, hS, hbel⟩ := h
  have e1 : gg ≠ gn := blk_ne hg2 hn1 (by decide)
  have e2 : ga ≠ gg := blk_ne hb hg2 (by decide)
  have e3 : ga ≠ gn := blk_ne hb hn1 (by decide)
  refine ⟨⟨by simp [World.setCell], fun b hb1 hb2 => ?_⟩, ⟨blk_put (blk_far (blk_drewN hn1 m) (Ne.symm e1) _) 0 _ rfl, ⟨g1, hk, blk_far (blk_put (blk_drewN hg2 m) 0 _ rfl) e1 _⟩, blk_far (blk_far (blk_drewN hb m) e2 _) e3 _, ?_, below_set (below_set (pw_below_drewN hbel m) wg) wn⟩⟩
  · rw [Below.heap_setCell _ ⟨gn, 0, none⟩ _ b (by simp only; omega), Below.heap_setCell _ ⟨gg, 0, none⟩ _ b (by simp only; omega)]
    rfl
  · refine Kd.S_set (Kd.S_set (Kd.S_drewN hS m) (blk_drewN hg2 m) (by decide) 0 _) (blk_far (blk_drewN hn1 m) (Ne.symm e1) _) (by decide) 0 _
theorem KpB.refl (b0 S0 : Nat) (W : World) : KpB b0 S0 W W := ⟨Nat.le_refl _, fun _ _ _ => rfl⟩
/-- what the body of a function that holds a range over a function must achieve, if it never panics. -/
def bodyPostN (n : Nat) (P : Program) (fn : Func) (R : Ending → World → Prop) : Exit → Act → World → Prop
  | .normal, a, w | .ret, a, w => LeavesInM Fence.wide n P fn a.tmps R a.defers .returning w
  | _, _, _ => False
theorem calls_of_marks {n : Nat} {P : Program} {f : FuncId} {fn : Func} {c : Code} {args : Array Value} {w : World} {R : Ending → World → Prop} (hf : P.funcs[f]? = some fn) (hb : fn.body = some c)
    (h : c.wp P (bodyPostN n P fn R) { tmps := args ++ Array.replicate (fn.ntmps - args.size) undef, defers := [] } w) : Calls P f args w R := by
  refine (callsIn_wide (n := n)).1 (callsIn_of_wp_marks hf hb trivial ((wpIn_wide (n := n)).2 (wp_mono h ?_)) rfl)
  intro e a w h
  cases e <;> first | exact h | exact h.elim
theorem bodyPostN_ret {n : Nat} {P : Program} {fn : Func} {R : Ending → World → Prop} {a : Act} {w : World} {v : Value} (hr : (results fn a.tmps).run P w = .ok v w) (hd : a.defers = []) (hR : R (.returned v) w) : bodyPostN n P fn R .ret a w := by
  show LeavesInM Fence.wide n P fn a.tmps R a.defers .returning w
  rw [hd]
  exact ⟨v, hr, hR⟩
theorem bodyPostN_mark {n : Nat} {P : Program} {fn : Func} {R : Ending → World → Prop} {a : Act} {w : World} {v : Value} {r : Nat} {ar : Array Value} (hD : w.heap[r]? = some (.deferred (some []))) (hd : a.defers = [{ target := .collected r, args := ar }]) (hr : ∀ w, (results fn a.tmps).run P w = .ok v w)
    (hR : R (.returned v) (w.putObj r (.deferred none))) : bodyPostN n P fn R .ret a w := by
  show LeavesInM Fence.wide n P fn a.tmps R a.defers .returning w
  rw [hd]
  exact ⟨by simp, .inl ⟨_, _, rfl, run_takeDeferred hD, ⟨v, hr _, hR⟩⟩⟩
theorem wp_range_rows_at {P : Program} {g : Operand} {ps : Array Tmp} {assign body : Code} {Q : Exit → Act → World → Prop} {a : Act} {w : World} (n : Nat)
    {gf : Nat} {lb : Array Value} (hg : a.eval g = .func (.func gf) #[] lb) (eg : ∀ args w, (callFunc gf args).run P w = .ok (.enter gf args) w)
    {b0 N : Nat} {rowf : Nat → List Int} (p q : Nat) (hb0 : b0 ≤ w.heap.size) (hps : ps.size = 1)
    (hiter : ∀ W1, Below w.heap.size w W1 → W1.heap.size = w.heap.size + 2 → RowsIter P gf lb w.heap.size b0 N rowf W1)
    (I : Nat → World → Prop) (Ix : Code → Nat → World → Prop)
    (hI : ∀ k W W' row, I k W → W.grownBy W' row → (∀ r, row = some r → w.heap.size ≤ r ∧ r ≤ w.heap.size + 2) → I k W')
    (hIx : ∀ c k W W' row, Ix c k W → W.grownBy W' row → (∀ r, row = some r → w.heap.size ≤ r ∧ r ≤ w.heap.size + 2) → Ix c k W')
    (h0 : I 0 w)
    (hassign : ∀ (l : Nat) (v : Value) (W : World) (K : Act → World → Prop), K { tmps := (a.tmps.setIfInBounds p v).setIfInBounds q v, defers := [] } W →
      assign.wpIn (Fence.wide.inRound l) n P (Exit.then K (fun _ _ _ => False)) { tmps := (ps.zip #[v]).foldl (fun t (p, v) => t.setIfInBounds p v) a.tmps, defers := [] } W)
    (hbody : ∀ (k : Nat) (v : Value) (Wl W : World), k < N → I k Wl → KeepO w.heap.size Wl W → w.heap.size + 3 ≤ Wl.heap.size → Kd.R (Kd.int .i32) 21 W Wl.heap.size (fun _ => True) v (rowf k) →
      body.wpIn (Fence.wide.inRound (w.heap.size + 1)) n P (postB b0 w.heap.size I Ix (k + 1) W) { tmps := (a.tmps.setIfInBounds p v).setIfInBounds q v, defers := [] } W)
    (hdone : ∀ (W : World), I N W → W.heap[w.heap.size]? = some (.deferred (some [])) → Q .normal { a with defers := { target := .collected w.heap.size, args := #[] } :: a.defers } W)
    (hstop : ∀ (c : Code) (k : Nat) (W : World), Ix c k W → W.heap[w.heap.size]? = some (.deferred (some [])) → c.wpIn Fence.wide n P Q { a with defers := { target := .collected w.heap.size, args := #[] } :: a.defers } W) :
    (Code.rangeFunc g ps assign body).wp P Q a w :=
  wp_range_rows n hg eg hb0 hps hiter I Ix hI hIx h0 (fun v => { tmps := (a.tmps.setIfInBounds p v).setIfInBounds q v, defers := [] }) hassign hbody hdone hstop
attribute [local go_sem] Oper.semAt_some

/-! ### eponymlaw19_VariantsAll: function 3 -/
mutual
def eponymlaw19_VariantsAll.j0 : Nat → List Int → Int → Bool → ByteArray → List (List Int) → Option (Bool)
  | 0, _, _, _, _, _ => none
  | k + 1, x1, x2, x29, x217000, x217001 => if x29 = true then (some true) else ((variants_All.f k x217000 x217001 x1 x2).bind fun t220 => ((eponymref19_Count.f k x217000 x217001 x1).bind fun t224 => (if (t220.length : Int) = (mn (mx x2 0) t224) then (eponymlaw19_VariantsAll.l0 k x1 0 x217000 x217001 t220) else (some false))))
def eponymlaw19_VariantsAll.l0 : Nat → List Int → Int → ByteArray → List (List Int) → List (List Int) → Option (Bool)
  | 0, _, _, _, _, _ => none
  | k + 1, x1, x8, x217000, x217001, x224000 => if x8 < (x224000.length : Int) then (if 0 ≤ x8 then ((eponymref19_Variant.f k x217000 x217001 x1 x8).bind fun t228 => ((eponymlaw01_Same.f k (rd_L1 x224000 x8) t228).bind fun t231 => (if t231 = true then (eponymlaw19_VariantsAll.l0 k x1 (wrap64 (x8 + 1)) x217000 x217001 x224000) else (some false)))) else (none)) else (rgEnd k x217000 x217001 x1 x224000)
end
def eponymlaw19_VariantsAll.f (k : Nat) (a0_0 : ByteArray) (l0_1 : List (List Int)) (l1 : List Int) (a2 : Int) : Option (Bool) := (eponymlaw19_awake.f k).bind fun t217 => (if t217 = true then ((eponymlaw19_Great.f k a0_0 l0_1).bind fun t218 => (if t218 = true then (eponymlaw19_VariantsAll.j0 k l1 a2 true a0_0 l0_1) else ((eponymlaw19_Right.f k a0_0 l0_1).bind fun t219 => (if t219 = true then (if (l1.length : Int) > 20 then (eponymlaw19_VariantsAll.j0 k l1 a2 true a0_0 l0_1) else (eponymlaw19_VariantsAll.j0 k l1 a2 (decide (a2 > 100)) a0_0 l0_1)) else (eponymlaw19_VariantsAll.j0 k l1 a2 true a0_0 l0_1))))) else (some false))
theorem eponymlaw19_VariantsAll.mono_l : ∀ k, (∀ y0 y1 y2 y3 y4, LeO (eponymlaw19_VariantsAll.j0 k y0 y1 y2 y3 y4) (eponymlaw19_VariantsAll.j0 (k + 1) y0 y1 y2 y3 y4)) ∧ (∀ y0 y1 y2 y3 y4, LeO (eponymlaw19_VariantsAll.l0 k y0 y1 y2 y3 y4) (eponymlaw19_VariantsAll.l0 (k + 1) y0 y1 y2 y3 y4))
  | 0 => ⟨fun _ _ _ _ _ r h => by simp [eponymlaw19_VariantsAll.j0] at h, fun _ _ _ _ _ r h => by simp [eponymlaw19_VariantsAll.l0] at h⟩
  | k + 1 => by
    obtain ⟨ih0, ih1⟩ := eponymlaw19_VariantsAll.mono_l k
    refine ⟨?_, ?_⟩
    · intro y0 y1 y2 y3 y4
      unfold eponymlaw19_VariantsAll.j0
      repeat' first
      | (with_reducible exact ih0 _ _ _ _ _)
      | (with_reducible exact ih1 _ _ _ _ _)
      | (with_reducible exact eponymlaw01_Same.mono _ _ _)
      | (with_reducible exact eponymlaw19_Great.mono _ _ _)
      | (with_reducible exact eponymlaw19_Right.mono _ _ _)
      | (with_reducible exact eponymlaw19_awake.mono _)
      | (with_reducible exact eponymref19_Count.mono _ _ _ _)
      | (with_reducible exact eponymref19_Variant.mono _ _ _ _ _)
      | (with_reducible exact variants_All.mono _ _ _ _ _)
      | (with_reducible exact rgEnd_mono _ _ _ _ _)
      | (with_reducible exact LeO.refl _)
      | (with_reducible exact LeO.none _)
      | (with_reducible refine LeO.ite ?_ ?_)
      | (with_reducible refine LeO.bind ?_ (fun _ => ?_))
      | exact ih0 _ _ _ _ _
      | exact ih1 _ _ _ _ _
      | exact eponymlaw01_Same.mono _ _ _
      | exact eponymlaw19_Great.mono _ _ _
      | exact eponymlaw19_Right.mono _ _ _
      | exact eponymlaw19_awake.mono _
      | exact eponymref19_Count.mono _ _ _ _
      | exact eponymref19_Variant.mono _ _ _ _ _
      | exact variants_All.mono _ _ _ _ _
      | exact LeO.none _
      | refine LeO.ite ?_ ?_
      | refine LeO.bind ?_ (fun _ => ?_)
    · intro y0 y1 y2 y3 y4
      unfold eponymlaw19_VariantsAll.l0
      repeat' first
      | (with_reducible exact ih0 _ _ _ _ _)
      | (with_reducible exact ih1 _ _ _ _ _)
      | (with_reducible exact eponymlaw01_Same.mono _ _ _)
      | (with_reducible exact eponymlaw19_Great.mono _ _ _)
      | (with_reducible exact eponymlaw19_Right.mono _ _ _)
      | (with_reducible exact eponymlaw19_awake.mono _)
      | (with_reducible exact eponymref19_Count.mono _ _ _ _)
      | (with_reducible exact eponymref19_Variant.mono _ _ _ _ _)
      | (with_reducible exact variants_All.mono _ _ _ _ _)
      | (with_reducible exact rgEnd_mono _ _ _ _ _)
      | (with_reducible exact LeO.refl _)
      | (with_reducible exact LeO.none _)
      | (with_reducible refine LeO.ite ?_ ?_)
      | (with_reducible refine LeO.bind ?_ (fun _ => ?_))
      | exact ih0 _ _ _ _ _
      | exact ih1 _ _ _ _ _
      | exact eponymlaw01_Same.mono _ _ _
      | exact eponymlaw19_Great.mono _ _ _
      | exact eponymlaw19_Right.mono _ _ _
      | exact eponymlaw19_awake.mono _
      | exact eponymref19_Count.mono _ _ _ _
      | exact eponymref19_Variant.mono _ _ _ _ _
      | exact variants_All.mono _ _ _ _ _
      | exact LeO.none _
      | refine LeO.ite ?_ ?_
      | refine LeO.bind ?_ (fun _ => ?_)
theorem eponymlaw19_VariantsAll.mono : ∀ a0 a1 a2 a3 k, LeO (eponymlaw19_VariantsAll.f k a0 a1 a2 a3) (eponymlaw19_VariantsAll.f (k + 1) a0 a1 a2 a3) := by
  intro a0 a1 a2 a3 k
  obtain ⟨ih0, ih1⟩ := eponymlaw19_VariantsAll.mono_l k
  unfold eponymlaw19_VariantsAll.f
  repeat' first
      | (with_reducible exact ih0 _ _ _ _ _)
      | (with_reducible exact ih1 _ _ _ _ _)
      | (with_reducible exact eponymlaw01_Same.mono _ _ _)
      | (with_reducible exact eponymlaw19_Great.mono _ _ _)
      | (with_reducible exact eponymlaw19_Right.mono _ _ _)
      | (with_reducible exact eponymlaw19_awake.mono _)
      | (with_reducible exact eponymref19_Count.mono _ _ _ _)
      | (with_reducible exact eponymref19_Variant.mono _ _ _ _ _)
      | (with_reducible exact variants_All.mono _ _ _ _ _)
      | (with_reducible exact rgEnd_mono _ _ _ _ _)
      | (with_reducible exact LeO.refl _)
      | (with_reducible exact LeO.none _)
      | (with_reducible refine LeO.ite ?_ ?_)
      | (with_reducible refine LeO.bind ?_ (fun _ => ?_))
      | exact ih0 _ _ _ _ _
      | exact ih1 _ _ _ _ _
      | exact eponymlaw01_Same.mono _ _ _
      | exact eponymlaw19_Great.mono _ _ _
      | exact eponymlaw19_Right.mono _ _ _
      | exact eponymlaw19_awake.mono _
      | exact eponymref19_Count.mono _ _ _ _
      | exact eponymref19_Variant.mono _ _ _ _ _
      | exact variants_All.mono _ _ _ _ _
      | exact LeO.none _
      | refine LeO.ite ?_ ?_
      | refine LeO.bind ?_ (fun _ => ?_)
def eponymlaw19_VariantsAll.T6 : Bool × List (List Nat × List Nat) := (true, [([], []), ([0], [0]), ([], []), ([2], [2]), ([], []), ([], []), ([4, 5], [4, 5]), ([3, 6], [3, 6]), ([1, 7], [1, 7])])
def eponymlaw19_VariantsAll.B6 : List Nat := [0, 1, 0, 4, 0, 0, 48, 124, 255]
theorem eponymlaw19_VariantsAll.tab6 : rtab .any (opsOf Try.f3 6) = eponymlaw19_VariantsAll.T6 := by kernel_rfl
theorem eponymlaw19_VariantsAll.bits6 : waitsOk eponymlaw19_VariantsAll.T6.2 eponymlaw19_VariantsAll.B6 = true := by kernel_rfl
def eponymlaw19_VariantsAll.T11 : Bool × List (List Nat × List Nat) := (true, [([], []), ([], []), ([0, 1], [0, 1]), ([2], [2]), ([], []), ([], []), ([], []), ([4, 5, 6], [4, 5, 6]), ([3, 7, 7], [3, 7]), ([8], [8])])
def eponymlaw19_VariantsAll.B11 : List Nat := [0, 0, 3, 7, 0, 0, 0, 112, 255, 511]
theorem eponymlaw19_VariantsAll.tab11 : rtab .any (opsOf Try.f3 11) = eponymlaw19_VariantsAll.T11 := by kernel_rfl
theorem eponymlaw19_VariantsAll.bits11 : waitsOk eponymlaw19_VariantsAll.T11.2 eponymlaw19_VariantsAll.B11 = true := by kernel_rfl
set_option maxHeartbeats 8000000 in
set_option maxRecDepth 100000 in
theorem eponymlaw19_VariantsAll.calls (k : Nat) (a0_0 : ByteArray) (A0_1 : Option Addr) (c0_1 : Nat) (l0_1 : List (List Int)) (A1 : Option Addr) (c1 : Nat) (l1 : List Int) (a2 : Int) (r : Bool) (w : World) (hr0_1 : Kd.C (Kd.slice 21 (Kd.int .i32)) w A0_1 l0_1.length l0_1) (hc0_1 : l0_1.length ≤ c0_1) (hr1 : Kd.C (Kd.int .i32) w A1 l1.length l1) (hc1 : l1.length ≤ c1) (h : eponymlaw19_VariantsAll.f k a0_0 l0_1 l1 a2 = some r) :
    Calls Try.prog 3 #[.agg #[.string a0_0, .slice A0_1 l0_1.length c0_1], .slice A1 l1.length c1, .int .i64 a2] w fun e w' => e = .returned (.bool r) ∧ Below w.heap.size w w' := by
  have hu24 := Try.underlying24
  have HR0_1 := Aside0.mk hr0_1
  have HC0_1 := Aside0.mk hc0_1
  clear hr0_1 hc0_1
  have HR1 := Aside0.mk hr1
  have HC1 := Aside0.mk hc1
  clear hr1 hc1
  have HB := Aside0.mk (Below.refl w.heap.size w)
  have H : ((eponymlaw19_awake.f k).bind fun t217 => (if t217 = true then ((eponymlaw19_Great.f k a0_0 l0_1).bind fun t218 => (if t218 = true then (eponymlaw19_VariantsAll.j0 k l1 a2 true a0_0 l0_1) else ((eponymlaw19_Right.f k a0_0 l0_1).bind fun t219 => (if t219 = true then (if (l1.length : Int) > 20 then (eponymlaw19_VariantsAll.j0 k l1 a2 true a0_0 l0_1) else (eponymlaw19_VariantsAll.j0 k l1 a2 (decide (a2 > 100)) a0_0 l0_1)) else (eponymlaw19_VariantsAll.j0 k l1 a2 true a0_0 l0_1))))) else (some false))) = some r := h
  clear h
  replace H := Option.bind_eq_some_iff.mp H
  obtain ⟨t217, A40, H⟩ := H
  replace H : (if t217 = true then ((eponymlaw19_Great.f k a0_0 l0_1).bind fun t218 => (if t218 = true then (eponymlaw19_VariantsAll.j0 k l1 a2 true a0_0 l0_1) else ((eponymlaw19_Right.f k a0_0 l0_1).bind fun t219 => (if t219 = true then (if (l1.length : Int) > 20 then (eponymlaw19_VariantsAll.j0 k l1 a2 true a0_0 l0_1) else (eponymlaw19_VariantsAll.j0 k l1 a2 (decide (a2 > 100)) a0_0 l0_1)) else (eponymlaw19_VariantsAll.j0 k l1 a2 true a0_0 l0_1))))) else (some false)) = some r := H
  have A4 := Aside0.mk A40
  clear A40
  by_cases c5 : t217 = true
  · subst c5
    have H1 : ((eponymlaw19_Great.f k a0_0 l0_1).bind fun t218 => (if t218 = true then (eponymlaw19_VariantsAll.j0 k l1 a2 true a0_0 l0_1) else ((eponymlaw19_Right.f k a0_0 l0_1).bind fun t219 => (if t219 = true then (if (l1.length : Int) > 20 then (eponymlaw19_VariantsAll.j0 k l1 a2 true a0_0 l0_1) else (eponymlaw19_VariantsAll.j0 k l1 a2 (decide (a2 > 100)) a0_0 l0_1)) else (eponymlaw19_VariantsAll.j0 k l1 a2 true a0_0 l0_1))))) = some r := by rw [if_pos rfl] at H; exact H
    clear H
    have H := H1
    clear H1
    have HC6 := Aside0.mk H
    clear H
    refine calls_of_marks (n := 1) Try.func3 rfl ?_
    simp only [Try.ntmps3, List.size_toArray, List.length_cons, List.length_nil, Nat.reduceAdd, Nat.reduceSub, Array.replicate_succ, Array.replicate_zero, List.push_toArray, List.append_toArray, List.nil_append, List.cons_append]
    let bp_ : Exit → Act → World → Prop := bodyPost Try.prog Try.f3 (fun _ _ => True)
    go_upto_region 3 with (first | ((with_reducible refine gate_dst (N := 3) rfl ?_); (try (refine gate_guard (by rfl) ?_; dsimp only)); refine box_event ?hg (N := 3) ?hd (cs := #[.string a0_0, .slice A0_1 l0_1.length c0_1]) (t := 24) ?hr ?_; (case hd => rfl); (case hg => rfl); (case hr => first | (go_simp; done) | (go_simp; rfl)); intro gb216 hg w7 hbox hb; have n0_ := Aside0.mk (below_step (by repeat (first | (with_reducible first | exact HB.out | apply below_alloc | apply pw_below_drewN | apply below_drew1) | exact HB.out)) hb); have n1_ := Aside0.mk (hbox); have n2_ := Aside0.mk ((by rw [hg]; exact (below_size (by repeat (first | (with_reducible first | exact HB.out | apply below_alloc | apply pw_below_drewN | apply below_drew1) | exact HB.out))) : w.heap.size ≤ gb216)); have n3_ := Aside0.mk ((by rw [hg]; exact (below_size (by repeat (first | (with_reducible first | exact HB.out | apply below_alloc | apply pw_below_drewN | apply below_drew1) | exact HB.out))) : w.heap.size ≤ gb216)); clear HB; have HB := n0_; have BK216 := n1_; have GW216 := n2_; have GE216 := n3_; clear n0_ n1_ n2_ n3_; clear hb hbox hg) | ((with_reducible refine gate_callee (f := 5) rfl ?_); refine goesL_ (some 12) rfl rfl Try.func5 (by kernel_rfl) rfl #[] rfl (by (try simp only [List.map_toArray, List.map_cons, List.map_nil]); first | done | rfl | (simp only [List.length_drop, List.length_take]; rfl)) ?_; (with_reducible refine (eponymlaw19_awake.calls k  true _ A4.out).mono ?_); rintro e w8 ⟨rfl, hb⟩; refine ⟨_, rfl, ?_⟩; have n0_ := Aside0.mk (blk_below (g := gb216) (o := .cells #[.string a0_0, .slice A0_1 l0_1.length c0_1] 24 (0, 0)) (by (with_reducible repeat (first | refine blk_drewN ?_ _ | refine blk_drew ?_ | refine blk_alloc ?_ _)); exact BK216.out) hb); have n1_ := Aside0.mk (below_step (by repeat (first | (with_reducible first | exact HB.out | apply below_alloc | apply pw_below_drewN | apply below_drew1 | refine below_set ?_ GE216.out) | exact HB.out)) hb); clear BK216; clear HB; have BK216 := n0_; have HB := n1_; clear n0_ n1_; (try clear hb); (try clear hb2); (try clear hk); (try clear hi)))
    (try simp only [Act.put, List.setIfInBounds_toArray, List.set_cons_zero, List.set_cons_succ])
    go_cut [29] (fun v29 wc => ∃ (kq : Nat) (x29_5 : Bool), v29 = .bool x29_5 ∧ Aside0 (eponymlaw19_VariantsAll.j0 kq l1 a2 x29_5 a0_0 l0_1 = some r) ∧ Aside0 (kq ≤ k) ∧ Aside0 (wc.heap[gb216]? = some (.cells #[.string a0_0, (.slice A0_1 l0_1.length c0_1)] 24 (0, 0))) ∧ Aside0 (Below w.heap.size w wc))
    case first =>
      have H := HC6.out
      clear HC6
      replace H := Option.bind_eq_some_iff.mp H
      obtain ⟨t218, A90, H⟩ := H
      replace H : (if t218 = true then (eponymlaw19_VariantsAll.j0 k l1 a2 true a0_0 l0_1) else ((eponymlaw19_Right.f k a0_0 l0_1).bind fun t219 => (if t219 = true then (if (l1.length : Int) > 20 then (eponymlaw19_VariantsAll.j0 k l1 a2 true a0_0 l0_1) else (eponymlaw19_VariantsAll.j0 k l1 a2 (decide (a2 > 100)) a0_0 l0_1)) else (eponymlaw19_VariantsAll.j0 k l1 a2 true a0_0 l0_1)))) = some r := H
      have A9 := Aside0.mk A90
      clear A90
      by_cases c10 : t218 = true
      · subst c10
        have H1 : (eponymlaw19_VariantsAll.j0 k l1 a2 true a0_0 l0_1) = some r := by rw [if_pos rfl] at H; exact H
        clear H
        have H := H1
        clear H1
        have H' := Aside0.mk H
        clear H
        have hcz11_0 : w8.cell? ⟨gb216, 0, none⟩ = some (.string a0_0) := (blk_cell BK216.out 0).trans rfl
        have hcz11_1 : w8.cell? ⟨gb216, 1, none⟩ = some (.slice A0_1 l0_1.length c0_1) := (blk_cell BK216.out 1).trans rfl
        have hfz11_0 := blk_frozen BK216.out 0
        have hfz11_1 := blk_frozen BK216.out 1
        go_wp2_with (first | ((with_reducible refine gate_callee (f := 6) rfl ?_); refine goesL_ (some 15) rfl rfl Try.func6 (by kernel_rfl) rfl #[.agg #[.string a0_0, .slice A0_1 l0_1.length c0_1]] rfl (by (try simp only [List.map_toArray, List.map_cons, List.map_nil]); first | done | rfl | (simp only [List.length_drop, List.length_take]; rfl)) ?_; (with_reducible refine (eponymlaw19_Great.calls k a0_0 _ _ l0_1 true _ ?side1 ?side2 A9.out).mono ?_); (case side1 => repeat (first | exact (Kd.C_below HR0_1.out HB.out) | (with_reducible refine Kd.C_alloc ?_ _) | (with_reducible refine Kd.C_drewN ?_ _) | (with_reducible refine Kd.C_drew ?_))); (case side2 => exact HC0_1.out); rintro e w12 ⟨rfl, hb⟩; refine ⟨_, rfl, ?_⟩; have n0_ := Aside0.mk (blk_below (g := gb216) (o := .cells #[.string a0_0, .slice A0_1 l0_1.length c0_1] 24 (0, 0)) (by (with_reducible repeat (first | refine blk_drewN ?_ _ | refine blk_drew ?_ | refine blk_alloc ?_ _)); exact BK216.out) hb); have n1_ := Aside0.mk (below_step (by repeat (first | (with_reducible first | exact HB.out | apply below_alloc | apply pw_below_drewN | apply below_drew1 | refine below_set ?_ GE216.out) | exact HB.out)) hb); clear BK216; clear HB; have BK216 := n0_; have HB := n1_; clear n0_ n1_; (try clear hb); (try clear hb2); (try clear hk); (try clear hi)))
        go_meet
        case rel => exact ⟨_, (true), (by first | rfl | (simp; done) | (simp [*]; done)), H', ⟨by first | omega | exact Nat.le_refl _⟩, ⟨by (with_reducible repeat (first | refine blk_drewN ?_ _ | refine blk_drew ?_ | refine blk_alloc ?_ _)); exact BK216.out⟩, ⟨by repeat (first | (with_reducible first | exact HB.out | apply below_alloc | apply pw_below_drewN | apply below_drew1 | refine below_set ?_ GE216.out) | exact HB.out)⟩⟩
      · replace c10 := Bool.eq_false_iff.mpr c10
        subst c10
        have H1 : ((eponymlaw19_Right.f k a0_0 l0_1).bind fun t219 => (if t219 = true then (if (l1.length : Int) > 20 then (eponymlaw19_VariantsAll.j0 k l1 a2 true a0_0 l0_1) else (eponymlaw19_VariantsAll.j0 k l1 a2 (decide (a2 > 100)) a0_0 l0_1)) else (eponymlaw19_VariantsAll.j0 k l1 a2 true a0_0 l0_1))) = some r := by rw [if_neg (show ¬ (false = true) by decide)] at H; exact H
        clear H
        have H := H1
        clear H1
        replace H := Option.bind_eq_some_iff.mp H
        obtain ⟨t219, A130, H⟩ := H
        replace H : (if t219 = true then (if (l1.length : Int) > 20 then (eponymlaw19_VariantsAll.j0 k l1 a2 true a0_0 l0_1) else (eponymlaw19_VariantsAll.j0 k l1 a2 (decide (a2 > 100)) a0_0 l0_1)) else (eponymlaw19_VariantsAll.j0 k l1 a2 true a0_0 l0_1)) = some r := H
        have A13 := Aside0.mk A130
        clear A130
        by_cases c14 : t219 = true
        · subst c14
          have H1 : (if (l1.length : Int) > 20 then (eponymlaw19_VariantsAll.j0 k l1 a2 true a0_0 l0_1) else (eponymlaw19_VariantsAll.j0 k l1 a2 (decide (a2 > 100)) a0_0 l0_1)) = some r := by rw [if_pos rfl] at H; exact H
          clear H
          have H := H1
          clear H1
          by_cases c15 : (l1.length : Int) > 20
          · rw [if_pos c15] at H
            have c15b0 : decide (20 < (l1.length : Int)) = true := decide_eq_true c15
            have c15b1 : decide (20 < l1.length) = true := decide_eq_true (by omega)
            clear c15
            (first | rw [c15b0] | (simp only [i64_w, i32_w]; rw [c15b0]) | skip)
            have H' := Aside0.mk H
            clear H
            have hcz16_0 : w8.cell? ⟨gb216, 0, none⟩ = some (.string a0_0) := (blk_cell BK216.out 0).trans rfl
            have hcz16_1 : w8.cell? ⟨gb216, 1, none⟩ = some (.slice A0_1 l0_1.length c0_1) := (blk_cell BK216.out 1).trans rfl
            have hfz16_0 := blk_frozen BK216.out 0
            have hfz16_1 := blk_frozen BK216.out 1
            go_wp2_with (first | ((with_reducible refine gate_callee (f := 6) rfl ?_); refine goesL_ (some 15) rfl rfl Try.func6 (by kernel_rfl) rfl #[.agg #[.string a0_0, .slice A0_1 l0_1.length c0_1]] rfl (by (try simp only [List.map_toArray, List.map_cons, List.map_nil]); first | done | rfl | (simp only [List.length_drop, List.length_take]; rfl)) ?_; (with_reducible refine (eponymlaw19_Great.calls k a0_0 _ _ l0_1 false _ ?side1 ?side2 A9.out).mono ?_); (case side1 => repeat (first | exact (Kd.C_below HR0_1.out HB.out) | (with_reducible refine Kd.C_alloc ?_ _) | (with_reducible refine Kd.C_drewN ?_ _) | (with_reducible refine Kd.C_drew ?_))); (case side2 => exact HC0_1.out); rintro e w17 ⟨rfl, hb⟩; refine ⟨_, rfl, ?_⟩; have n0_ := Aside0.mk (blk_below (g := gb216) (o := .cells #[.string a0_0, .slice A0_1 l0_1.length c0_1] 24 (0, 0)) (by (with_reducible repeat (first | refine blk_drewN ?_ _ | refine blk_drew ?_ | refine blk_alloc ?_ _)); exact BK216.out) hb); have n1_ := Aside0.mk (below_step (by repeat (first | (with_reducible first | exact HB.out | apply below_alloc | apply pw_below_drewN | apply below_drew1 | refine below_set ?_ GE216.out) | exact HB.out)) hb); clear BK216; clear HB; have BK216 := n0_; have HB := n1_; clear n0_ n1_; (try clear hb); (try clear hb2); (try clear hk); (try clear hi); have hcz18_0 : w17.cell? ⟨gb216, 0, none⟩ = some (.string a0_0) := (blk_cell BK216.out 0).trans rfl; have hcz18_1 : w17.cell? ⟨gb216, 1, none⟩ = some (.slice A0_1 l0_1.length c0_1) := (blk_cell BK216.out 1).trans rfl; have hfz18_0 := blk_frozen BK216.out 0; have hfz18_1 := blk_frozen BK216.out 1) | (go_at_call 7; (with_reducible refine (eponymlaw19_Right.calls k a0_0 _ _ l0_1 true _ ?side1 ?side2 A13.out).mono ?_); (case side1 => repeat (first | exact (Kd.C_below HR0_1.out HB.out) | (with_reducible refine Kd.C_alloc ?_ _) | (with_reducible refine Kd.C_drewN ?_ _) | (with_reducible refine Kd.C_drew ?_))); (case side2 => exact HC0_1.out); rintro e w19 ⟨rfl, hb⟩; have n0_ := Aside0.mk (blk_below (g := gb216) (o := .cells #[.string a0_0, .slice A0_1 l0_1.length c0_1] 24 (0, 0)) (by (with_reducible repeat (first | refine blk_drewN ?_ _ | refine blk_drew ?_ | refine blk_alloc ?_ _)); exact BK216.out) hb); have n1_ := Aside0.mk (below_step (by repeat (first | (with_reducible first | exact HB.out | apply below_alloc | apply pw_below_drewN | apply below_drew1 | refine below_set ?_ GE216.out) | exact HB.out)) hb); clear BK216; clear HB; have BK216 := n0_; have HB := n1_; clear n0_ n1_; (try clear hb); (try clear hb2); (try clear hk); (try clear hi)))
            go_meet
            case rel => exact ⟨_, (true), (by first | rfl | (simp; done) | (simp [*]; done)), H', ⟨by first | omega | exact Nat.le_refl _⟩, ⟨by (with_reducible repeat (first | refine blk_drewN ?_ _ | refine blk_drew ?_ | refine blk_alloc ?_ _)); exact BK216.out⟩, ⟨by repeat (first | (with_reducible first | exact HB.out | apply below_alloc | apply pw_below_drewN | apply below_drew1 | refine below_set ?_ GE216.out) | exact HB.out)⟩⟩
          · rw [if_neg c15] at H
            have c15b0 : decide (20 < (l1.length : Int)) = false := decide_eq_false c15
            have c15b1 : decide (20 < l1.length) = false := decide_eq_false (by omega)
            clear c15
            (first | rw [c15b0] | (simp only [i64_w, i32_w]; rw [c15b0]) | skip)
            have H' := Aside0.mk H
            clear H
            have hcz20_0 : w8.cell? ⟨gb216, 0, none⟩ = some (.string a0_0) := (blk_cell BK216.out 0).trans rfl
            have hcz20_1 : w8.cell? ⟨gb216, 1, none⟩ = some (.slice A0_1 l0_1.length c0_1) := (blk_cell BK216.out 1).trans rfl
            have hfz20_0 := blk_frozen BK216.out 0
            have hfz20_1 := blk_frozen BK216.out 1
            go_wp2_with (first | ((with_reducible refine gate_callee (f := 6) rfl ?_); refine goesL_ (some 15) rfl rfl Try.func6 (by kernel_rfl) rfl #[.agg #[.string a0_0, .slice A0_1 l0_1.length c0_1]] rfl (by (try simp only [List.map_toArray, List.map_cons, List.map_nil]); first | done | rfl | (simp only [List.length_drop, List.length_take]; rfl)) ?_; (with_reducible refine (eponymlaw19_Great.calls k a0_0 _ _ l0_1 false _ ?side1 ?side2 A9.out).mono ?_); (case side1 => repeat (first | exact (Kd.C_below HR0_1.out HB.out) | (with_reducible refine Kd.C_alloc ?_ _) | (with_reducible refine Kd.C_drewN ?_ _) | (with_reducible refine Kd.C_drew ?_))); (case side2 => exact HC0_1.out); rintro e w21 ⟨rfl, hb⟩; refine ⟨_, rfl, ?_⟩; have n0_ := Aside0.mk (blk_below (g := gb216) (o := .cells #[.string a0_0, .slice A0_1 l0_1.length c0_1] 24 (0, 0)) (by (with_reducible repeat (first | refine blk_drewN ?_ _ | refine blk_drew ?_ | refine blk_alloc ?_ _)); exact BK216.out) hb); have n1_ := Aside0.mk (below_step (by repeat (first | (with_reducible first | exact HB.out | apply below_alloc | apply pw_below_drewN | apply below_drew1 | refine below_set ?_ GE216.out) | exact HB.out)) hb); clear BK216; clear HB; have BK216 := n0_; have HB := n1_; clear n0_ n1_; (try clear hb); (try clear hb2); (try clear hk); (try clear hi); have hcz22_0 : w21.cell? ⟨gb216, 0, none⟩ = some (.string a0_0) := (blk_cell BK216.out 0).trans rfl; have hcz22_1 : w21.cell? ⟨gb216, 1, none⟩ = some (.slice A0_1 l0_1.length c0_1) := (blk_cell BK216.out 1).trans rfl; have hfz22_0 := blk_frozen BK216.out 0; have hfz22_1 := blk_frozen BK216.out 1) | (go_at_call 7; (with_reducible refine (eponymlaw19_Right.calls k a0_0 _ _ l0_1 true _ ?side1 ?side2 A13.out).mono ?_); (case side1 => repeat (first | exact (Kd.C_below HR0_1.out HB.out) | (with_reducible refine Kd.C_alloc ?_ _) | (with_reducible refine Kd.C_drewN ?_ _) | (with_reducible refine Kd.C_drew ?_))); (case side2 => exact HC0_1.out); rintro e w23 ⟨rfl, hb⟩; have n0_ := Aside0.mk (blk_below (g := gb216) (o := .cells #[.string a0_0, .slice A0_1 l0_1.length c0_1] 24 (0, 0)) (by (with_reducible repeat (first | refine blk_drewN ?_ _ | refine blk_drew ?_ | refine blk_alloc ?_ _)); exact BK216.out) hb); have n1_ := Aside0.mk (below_step (by repeat (first | (with_reducible first | exact HB.out | apply below_alloc | apply pw_below_drewN | apply below_drew1 | refine below_set ?_ GE216.out) | exact HB.out)) hb); clear BK216; clear HB; have BK216 := n0_; have HB := n1_; clear n0_ n1_; (try clear hb); (try clear hb2); (try clear hk); (try clear hi)))
            go_meet
            case rel => exact ⟨_, (decide (a2 > 100)), (by first | rfl | (simp; done) | (simp [*]; done)), H', ⟨by first | omega | exact Nat.le_refl _⟩, ⟨by (with_reducible repeat (first | refine blk_drewN ?_ _ | refine blk_drew ?_ | refine blk_alloc ?_ _)); exact BK216.out⟩, ⟨by repeat (first | (with_reducible first | exact HB.out | apply below_alloc | apply pw_below_drewN | apply below_drew1 | refine below_set ?_ GE216.out) | exact HB.out)⟩⟩
        · replace c14 := Bool.eq_false_iff.mpr c14
          subst c14
          have H1 : (eponymlaw19_VariantsAll.j0 k l1 a2 true a0_0 l0_1) = some r := by rw [if_neg (show ¬ (false = true) by decide)] at H; exact H
          clear H
          have H := H1
          clear H1
          have H' := Aside0.mk H
          clear H
          have hcz24_0 : w8.cell? ⟨gb216, 0, none⟩ = some (.string a0_0) := (blk_cell BK216.out 0).trans rfl
          have hcz24_1 : w8.cell? ⟨gb216, 1, none⟩ = some (.slice A0_1 l0_1.length c0_1) := (blk_cell BK216.out 1).trans rfl
          have hfz24_0 := blk_frozen BK216.out 0
          have hfz24_1 := blk_frozen BK216.out 1
          go_wp2_with (first | ((with_reducible refine gate_callee (f := 6) rfl ?_); refine goesL_ (some 15) rfl rfl Try.func6 (by kernel_rfl) rfl #[.agg #[.string a0_0, .slice A0_1 l0_1.length c0_1]] rfl (by (try simp only [List.map_toArray, List.map_cons, List.map_nil]); first | done | rfl | (simp only [List.length_drop, List.length_take]; rfl)) ?_; (with_reducible refine (eponymlaw19_Great.calls k a0_0 _ _ l0_1 false _ ?side1 ?side2 A9.out).mono ?_); (case side1 => repeat (first | exact (Kd.C_below HR0_1.out HB.out) | (with_reducible refine Kd.C_alloc ?_ _) | (with_reducible refine Kd.C_drewN ?_ _) | (with_reducible refine Kd.C_drew ?_))); (case side2 => exact HC0_1.out); rintro e w25 ⟨rfl, hb⟩; refine ⟨_, rfl, ?_⟩; have n0_ := Aside0.mk (blk_below (g := gb216) (o := .cells #[.string a0_0, .slice A0_1 l0_1.length c0_1] 24 (0, 0)) (by (with_reducible repeat (first | refine blk_drewN ?_ _ | refine blk_drew ?_ | refine blk_alloc ?_ _)); exact BK216.out) hb); have n1_ := Aside0.mk (below_step (by repeat (first | (with_reducible first | exact HB.out | apply below_alloc | apply pw_below_drewN | apply below_drew1 | refine below_set ?_ GE216.out) | exact HB.out)) hb); clear BK216; clear HB; have BK216 := n0_; have HB := n1_; clear n0_ n1_; (try clear hb); (try clear hb2); (try clear hk); (try clear hi); have hcz26_0 : w25.cell? ⟨gb216, 0, none⟩ = some (.string a0_0) := (blk_cell BK216.out 0).trans rfl; have hcz26_1 : w25.cell? ⟨gb216, 1, none⟩ = some (.slice A0_1 l0_1.length c0_1) := (blk_cell BK216.out 1).trans rfl; have hfz26_0 := blk_frozen BK216.out 0; have hfz26_1 := blk_frozen BK216.out 1) | (go_at_call 7; (with_reducible refine (eponymlaw19_Right.calls k a0_0 _ _ l0_1 false _ ?side1 ?side2 A13.out).mono ?_); (case side1 => repeat (first | exact (Kd.C_below HR0_1.out HB.out) | (with_reducible refine Kd.C_alloc ?_ _) | (with_reducible refine Kd.C_drewN ?_ _) | (with_reducible refine Kd.C_drew ?_))); (case side2 => exact HC0_1.out); rintro e w27 ⟨rfl, hb⟩; have n0_ := Aside0.mk (blk_below (g := gb216) (o := .cells #[.string a0_0, .slice A0_1 l0_1.length c0_1] 24 (0, 0)) (by (with_reducible repeat (first | refine blk_drewN ?_ _ | refine blk_drew ?_ | refine blk_alloc ?_ _)); exact BK216.out) hb); have n1_ := Aside0.mk (below_step (by repeat (first | (with_reducible first | exact HB.out | apply below_alloc | apply pw_below_drewN | apply below_drew1 | refine below_set ?_ GE216.out) | exact HB.out)) hb); clear BK216; clear HB; have BK216 := n0_; have HB := n1_; clear n0_ n1_; (try clear hb); (try clear hb2); (try clear hk); (try clear hi)))
          go_meet
          case rel => exact ⟨_, (true), (by first | rfl | (simp; done) | (simp [*]; done)), H', ⟨by first | omega | exact Nat.le_refl _⟩, ⟨by (with_reducible repeat (first | refine blk_drewN ?_ _ | refine blk_drew ?_ | refine blk_alloc ?_ _)); exact BK216.out⟩, ⟨by repeat (first | (with_reducible first | exact HB.out | apply below_alloc | apply pw_below_drewN | apply below_drew1 | refine below_set ?_ GE216.out) | exact HB.out)⟩⟩
    case rest =>
      clear HC6
      try clear c1
      try clear p2
      try clear c3
      try clear c5
      try clear c6
      try clear c10
      try clear c14
      try clear c15
      try clear c15b0
      try clear c15b1
      try clear hcz11_0
      try clear hcz11_1
      try clear hcz16_0
      try clear hcz16_1
      try clear hcz18_0
      try clear hcz18_1
      try clear hcz20_0
      try clear hcz20_1
      try clear hcz22_0
      try clear hcz22_1
      try clear hcz24_0
      try clear hcz24_1
      try clear hcz26_0
      try clear hcz26_1
      try clear hfz11_0
      try clear hfz11_1
      try clear hfz16_0
      try clear hfz16_1
      try clear hfz18_0
      try clear hfz18_1
      try clear hfz20_0
      try clear hfz20_1
      try clear hfz22_0
      try clear hfz22_1
      try clear hfz24_0
      try clear hfz24_1
      try clear hfz26_0
      try clear hfz26_1
      obtain ⟨kq, x29_5, rfl, HA, HJ5, BK216, HB⟩ := hcut
      cases kq with
      | zero => exact absurd HA.out (by simp [eponymlaw19_VariantsAll.j0])
      | succ kj5 =>
        have H := HA.out
        clear HA
        simp only [eponymlaw19_VariantsAll.j0] at H
        by_cases c28 : x29_5 = true
        · subst c28
          have H1 : (some true) = some r := by rw [if_pos rfl] at H; exact H
          clear H
          have H := H1
          clear H1
          obtain rfl := Option.some.inj H
          go_wp2
          ((try simp only [Exit.inBlock, Exit.then]); refine bodyPostN_ret (results_tmp rfl _ _ _) rfl ?_)
          exact ⟨by first | rfl | (simp [errW_none, errW_some] <;> rfl) | (simp [*, errW_none, errW_some] <;> rfl), by repeat (first | (with_reducible first | exact HB.out | apply below_alloc | apply pw_below_drewN | apply below_drew1 | refine below_set ?_ GE216.out) | exact HB.out)⟩
        · replace c28 := Bool.eq_false_iff.mpr c28
          subst c28
          have H1 : ((variants_All.f kj5 a0_0 l0_1 l1 a2).bind fun t220 => ((eponymref19_Count.f kj5 a0_0 l0_1 l1).bind fun t224 => (if (t220.length : Int) = (mn (mx a2 0) t224) then (eponymlaw19_VariantsAll.l0 kj5 l1 0 a0_0 l0_1 t220) else (some false)))) = some r := by rw [if_neg (show ¬ (false = true) by decide)] at H; exact H
          clear H
          have H := H1
          clear H1
          replace H := Option.bind_eq_some_iff.mp H
          obtain ⟨t220, A290, H⟩ := H
          replace H : ((eponymref19_Count.f kj5 a0_0 l0_1 l1).bind fun t224 => (if (t220.length : Int) = (mn (mx a2 0) t224) then (eponymlaw19_VariantsAll.l0 kj5 l1 0 a0_0 l0_1 t220) else (some false))) = some r := H
          have A29 := Aside0.mk A290
          clear A290
          obtain ⟨ji30, hji30⟩ : ∃ j_ : Int, (mx a2 0) = j_ := ⟨_, rfl⟩
          replace H : ((eponymref19_Count.f kj5 a0_0 l0_1 l1).bind fun t224 => (if (t220.length : Int) = (mn (ji30) t224) then (eponymlaw19_VariantsAll.l0 kj5 l1 0 a0_0 l0_1 t220) else (some false))) = some r := by first | (rw [hji30] at H; exact H) | (simp only [hji30] at H ⊢; exact H)
          (try rw [hji30] at A29)
          have hji30_ : (if a2 < 0 then 0 else a2) = ji30 := hji30
          replace H := Option.bind_eq_some_iff.mp H
          obtain ⟨t224, A310, H⟩ := H
          replace H : (if (t220.length : Int) = (mn (ji30) t224) then (eponymlaw19_VariantsAll.l0 kj5 l1 0 a0_0 l0_1 t220) else (some false)) = some r := H
          have A31 := Aside0.mk A310
          clear A310
          obtain ⟨ji32, hji32⟩ : ∃ j_ : Int, (mn (ji30) t224) = j_ := ⟨_, rfl⟩
          replace H : (if (t220.length : Int) = (ji32) then (eponymlaw19_VariantsAll.l0 kj5 l1 0 a0_0 l0_1 t220) else (some false)) = some r := by first | (rw [hji32] at H; exact H) | (simp only [hji32] at H ⊢; exact H)
          (try rw [hji32] at A29)
          (try rw [hji32] at A31)
          have hji32_ : (if t224 < (ji30) then t224 else (ji30)) = ji32 := hji32
          by_cases c33 : (t220.length : Int) = (ji32)
          · rw [if_pos c33] at H
            have c33b0 : ((t220.length : Int) == (ji32)) = true := beq_iff_eq.mpr c33
            have c33b1 : ((t220.length : Int) != (ji32)) = false := bne_eq_false_iff_eq.mpr c33
            clear c33
            have H' := Aside0.mk H
            clear H
            have hcz34_0 : wc.cell? ⟨gb216, 0, none⟩ = some (.string a0_0) := (blk_cell BK216.out 0).trans rfl
            have hcz34_1 : wc.cell? ⟨gb216, 1, none⟩ = some (.slice A0_1 l0_1.length c0_1) := (blk_cell BK216.out 1).trans rfl
            have hfz34_0 := blk_frozen BK216.out 0
            have hfz34_1 := blk_frozen BK216.out 1
            try go_wp2_with (first | ((with_reducible refine gate_callee (f := 8) rfl ?_); refine goesL_ (some 33) rfl rfl Try.func8 (by kernel_rfl) rfl #[.agg #[.string a0_0, .slice A0_1 l0_1.length c0_1], .slice A1 l1.length c1, .int .i64 a2] rfl (by (try simp only [List.map_toArray, List.map_cons, List.map_nil]); first | done | rfl | (simp only [List.length_drop, List.length_take]; rfl)) ?_; (with_reducible refine (variants_All.calls kj5 a0_0 _ _ l0_1 _ _ l1 a2 t220 _ ?side1 ?side2 ?side3 ?side4 A29.out).mono ?_); (case side1 => repeat (first | exact (Kd.C_below HR0_1.out HB.out) | (with_reducible refine Kd.C_alloc ?_ _) | (with_reducible refine Kd.C_drewN ?_ _) | (with_reducible refine Kd.C_drew ?_))); (case side2 => exact HC0_1.out); (case side3 => repeat (first | exact (Kd.C_below HR1.out HB.out) | (with_reducible refine Kd.C_alloc ?_ _) | (with_reducible refine Kd.C_drewN ?_ _) | (with_reducible refine Kd.C_drew ?_))); (case side4 => exact HC1.out); rintro e w35 ⟨v221, rfl, ho0, hb⟩; refine ⟨_, rfl, ?_⟩; have n0_ := Aside0.mk (Kd.S_lower ho0 (below_size (by repeat (first | (with_reducible first | exact HB.out | apply below_alloc | apply pw_below_drewN | apply below_drew1 | refine below_set ?_ GE216.out) | exact HB.out)))); have n1_ := Aside0.mk (blk_below (g := gb216) (o := .cells #[.string a0_0, .slice A0_1 l0_1.length c0_1] 24 (0, 0)) (by (with_reducible repeat (first | refine blk_drewN ?_ _ | refine blk_drew ?_ | refine blk_alloc ?_ _)); exact BK216.out) hb); have n2_ := Aside0.mk (below_step (by repeat (first | (with_reducible first | exact HB.out | apply below_alloc | apply pw_below_drewN | apply below_drew1 | refine below_set ?_ GE216.out) | exact HB.out)) hb); clear BK216; clear HB; have HO222 := n0_; have BK216 := n1_; have HB := n2_; clear n0_ n1_ n2_; (try clear hb); (try clear hb2); (try clear hk); (try clear hi); (try clear ho0)) | ((with_reducible refine gate_dst (N := 7) rfl ?_); (try (refine gate_guard (by rfl) ?_; dsimp only)); refine box_event ?hg (N := 7) ?hd (cs := #[.slice none 0 0]) (t := 22) ?hr ?_; (case hd => rfl); (case hg => rfl); (case hr => first | (go_simp; done) | (go_simp; rfl)); intro gb223 hg w36 hbox hb; have n0_ := Aside0.mk (Kd.S_below (by (with_reducible repeat (first | apply Kd.S_alloc | apply Kd.S_drewN | apply Kd.S_drew)); exact HO222.out) hb); have n1_ := Aside0.mk (blk_below (g := gb216) (o := .cells #[.string a0_0, .slice A0_1 l0_1.length c0_1] 24 (0, 0)) (by (with_reducible repeat (first | refine blk_drewN ?_ _ | refine blk_drew ?_ | refine blk_alloc ?_ _)); exact BK216.out) hb); have n2_ := Aside0.mk (below_step (by repeat (first | (with_reducible first | exact HB.out | apply below_alloc | apply pw_below_drewN | apply below_drew1 | refine below_set ?_ GE216.out) | exact HB.out)) hb); have n3_ := Aside0.mk (hbox); have n4_ := Aside0.mk ((by rw [hg]; exact (below_size (by repeat (first | (with_reducible first | exact HB.out | apply below_alloc | apply pw_below_drewN | apply below_drew1 | refine below_set ?_ GE216.out) | exact HB.out))) : w.heap.size ≤ gb223)); have n5_ := Aside0.mk ((by rw [hg]; exact (below_size (by repeat (first | (with_reducible first | exact HB.out | apply below_alloc | apply pw_below_drewN | apply below_drew1 | refine below_set ?_ GE216.out) | exact HB.out))) : w.heap.size ≤ gb223)); have n6_ := Aside0.mk ((by rw [hg]; exact Nat.ne_of_lt (blk_lt (g := gb216) (o := .cells #[.string a0_0, .slice A0_1 l0_1.length c0_1] 24 (0, 0)) (by (with_reducible repeat (first | refine blk_drewN ?_ _ | refine blk_drew ?_ | refine blk_alloc ?_ _)); exact BK216.out)) : gb216 ≠ gb223)); have n7_ := Aside0.mk ((by rw [hg]; exact Nat.ne_of_gt (blk_lt (g := gb216) (o := .cells #[.string a0_0, .slice A0_1 l0_1.length c0_1] 24 (0, 0)) (by (with_reducible repeat (first | refine blk_drewN ?_ _ | refine blk_drew ?_ | refine blk_alloc ?_ _)); exact BK216.out)) : gb223 ≠ gb216)); clear HO222; clear BK216; clear HB; have HO222 := n0_; have BK216 := n1_; have HB := n2_; have BK223 := n3_; have GW223 := n4_; have GE223 := n5_; have NB216_223 := n6_; have NB223_216 := n7_; clear n0_ n1_ n2_ n3_ n4_ n5_ n6_ n7_; clear hb hbox hg; obtain ⟨Ao37, co37, eo37⟩ := Kd.S_slice HO222.out; subst eo37; have hnb38 := NB223_216.out; have hnc38 := NB216_223.out; have hcz39_0 : w36.cell? ⟨gb223, 0, none⟩ = some (.slice none 0 0) := (blk_cell BK223.out 0).trans rfl; have hfz39_0 := blk_frozen BK223.out 0))
            have n0_ : Aside0 (Kd.S (Kd.slice 21 (Kd.int .i32)) 25 (w36.setCell ⟨gb223, 0, none⟩ (.slice Ao37 t220.length co37)) w.heap.size (fun _ => True) (.slice Ao37 t220.length co37) t220) := ⟨by (with_reducible repeat (first | apply Kd.S_alloc | apply Kd.S_drewN | apply Kd.S_drew)); exact Kd.S_mono (Kd.S_far (p := ⟨gb223, 0, none⟩) (Kd.S_types HO222.out BK223.out (by decide)) (fun _ hk => hk.2) (.slice Ao37 t220.length co37)) (fun _ hk => trivial)⟩
            have n1_ : Aside0 ((w36.setCell ⟨gb223, 0, none⟩ (.slice Ao37 t220.length co37)).heap[gb216]? = some (.cells #[.string a0_0, .slice A0_1 l0_1.length c0_1] 24 (0, 0))) := ⟨by (with_reducible repeat (first | refine blk_drewN ?_ _ | refine blk_drew ?_ | refine blk_alloc ?_ _)); refine blk_far ?_ NB216_223.out _; (with_reducible repeat (first | refine blk_drewN ?_ _ | refine blk_drew ?_ | refine blk_alloc ?_ _)); exact BK216.out⟩
            have n2_ : Aside0 ((w36.setCell ⟨gb223, 0, none⟩ (.slice Ao37 t220.length co37)).heap[gb223]? = some (.cells #[.slice Ao37 t220.length co37] 22 (0, 0))) := ⟨by (with_reducible repeat (first | refine blk_drewN ?_ _ | refine blk_drew ?_ | refine blk_alloc ?_ _)); refine blk_put (cs := #[.slice none 0 0]) ?_ 0 _ rfl; (with_reducible repeat (first | refine blk_drewN ?_ _ | refine blk_drew ?_ | refine blk_alloc ?_ _)); exact BK223.out⟩
            have n3_ : Aside0 (Below w.heap.size w (w36.setCell ⟨gb223, 0, none⟩ (.slice Ao37 t220.length co37))) := ⟨by repeat (first | (with_reducible first | exact HB.out | apply below_alloc | apply pw_below_drewN | apply below_drew1 | refine below_set ?_ GE216.out | refine below_set ?_ GE223.out) | exact HB.out)⟩
            (try clear HO222)
            (try clear BK216)
            (try clear BK223)
            (try clear HB)
            generalize (w36.setCell ⟨gb223, 0, none⟩ (.slice Ao37 t220.length co37)) = w40 at n0_ n1_ n2_ n3_ ⊢
            have HO222 := n0_
            have BK216 := n1_
            have BK223 := n2_
            have HB := n3_
            clear n0_ n1_ n2_ n3_
            have n0_ := Aside0.mk (Kd.S_drew HO222.out)
            have n1_ := Aside0.mk (blk_drew BK216.out)
            have n2_ := Aside0.mk (blk_drew BK223.out)
            have n3_ := Aside0.mk (below_drew1 HB.out)
            clear HO222
            clear BK216
            clear BK223
            clear HB
            have HO222 := n0_
            have BK216 := n1_
            have BK223 := n2_
            have HB := n3_
            clear n0_ n1_ n2_ n3_
            refine start_ (n := 9) (S := fun w' => w'.cell? ⟨gb223, 0, none⟩ = some (.slice Ao37 t220.length co37) ∧ w'.cell? ⟨gb216, 0, none⟩ = some (.string a0_0) ∧ w'.cell? ⟨gb216, 1, none⟩ = some (.slice A0_1 l0_1.length c0_1)) (ds := []) #[false, false, false, false, false, false, false, false, false] (by kernel_rfl) rfl rfl ⟨(blk_cell BK223.out 0).trans rfl, (blk_cell BK216.out 0).trans rfl, (blk_cell BK216.out 1).trans rfl⟩ (fun hHeld => ?_); refine with_tabW eponymlaw19_VariantsAll.tab6 eponymlaw19_VariantsAll.bits6 (fun HT_ HW_ => ?_)
            generalize w40.drew = w41 at HO222 BK216 BK223 HB hHeld ⊢
            refine pure_ (i := 2) (N := some 36) (v := ?_) (a' := ?_) #[false, false, true, false, false, false, false, false, false] rfl rfl (any_of HT_.out (by kernel_rfl)) (fun _ _ _ h => h) (Or.inl ⟨by rfl, ?_⟩) ?_ ?_
            rotate_left
            · intro w'
              go_simp
              with_reducible rfl
            rotate_left
            · simp only [Act.put, List.setIfInBounds_toArray, List.set_cons_zero, List.set_cons_succ, i64_w, i32_w]
              rfl
            refine pure_ (i := 3) (N := some 37) (v := ?_) (a' := ?_) #[false, false, true, true, false, false, false, false, false] rfl rfl (any_of HT_.out (by kernel_rfl)) (fun _ _ _ h => h) (Or.inl ⟨by rfl, ?_⟩) ?_ ?_
            rotate_left
            · intro w'
              go_simp
              with_reducible rfl
            rotate_left
            · simp only [Act.put, List.setIfInBounds_toArray, List.set_cons_zero, List.set_cons_succ, i64_w, i32_w]
              rfl
            refine pure_ (i := 5) (N := some 39) (v := ?_) (a' := ?_) #[false, false, true, true, false, true, false, false, false] rfl rfl (any_of HT_.out (by kernel_rfl)) (fun _ _ _ h => h) (Or.inl ⟨by rfl, ?_⟩) ?_ ?_
            rotate_left
            · intro w'
              go_simp
              with_reducible rfl
            rotate_left
            · simp only [Act.put, List.setIfInBounds_toArray, List.set_cons_zero, List.set_cons_succ, i64_w, i32_w]
              rfl
            refine take_ (i := 0) (N := some 34) (v := ?_) (a' := ?_) #[true, false, true, true, false, true, false, false, false] rfl rfl (take_ofW HT_.out HW_.out (by kernel_rfl)) (fun _ _ _ h => h) (Or.inl ⟨by rfl, ?_⟩) hHeld ?_ ?_
            rotate_left
            · rintro w' ⟨s0, s1, s2⟩
              go_simp
              with_reducible rfl
            rotate_left
            · simp only [Act.put, List.setIfInBounds_toArray, List.set_cons_zero, List.set_cons_succ, i64_w, i32_w]
              rfl
            refine pure_ (i := 1) (N := some 35) (v := ?_) (a' := ?_) #[true, true, true, true, false, true, false, false, false] rfl rfl (any_of HT_.out (by kernel_rfl)) (fun _ _ _ h => h) (Or.inl ⟨by rfl, ?_⟩) ?_ ?_
            rotate_left
            · intro w'
              go_simp
              with_reducible rfl
            rotate_left
            · simp only [Act.put, List.setIfInBounds_toArray, List.set_cons_zero, List.set_cons_succ, i64_w, i32_w]
              rfl
            refine take_ (i := 4) (N := some 38) (v := ?_) (a' := ?_) #[true, true, true, true, true, true, false, false, false] rfl rfl (take_ofW HT_.out HW_.out (by kernel_rfl)) (fun _ _ _ h => h) (Or.inl ⟨by rfl, ?_⟩) hHeld ?_ ?_
            rotate_left
            · rintro w' ⟨s0, s1, s2⟩
              go_simp
              with_reducible rfl
            rotate_left
            · simp only [Act.put, List.setIfInBounds_toArray, List.set_cons_zero, List.set_cons_succ, i64_w, i32_w]
              rfl
            refine one_ (i := 6) (N := some 40) #[true, true, true, true, true, true, true, false, false] rfl rfl (one_of HT_.out (by kernel_rfl)) (by decide) (fun K hK => ?_)
            refine goes_ Try.func9 (by kernel_rfl) rfl #[.agg #[.string a0_0, .slice A0_1 l0_1.length c0_1], .slice A1 l1.length c1] (by rfl) rfl rfl (by (try simp only [List.map_toArray, List.map_cons, List.map_nil]); first | done | rfl | (simp only [List.length_drop, List.length_take]; rfl)) ?_
            with_reducible refine (eponymref19_Count.calls kj5 a0_0 _ _ l0_1 _ _ l1 t224 _ ?side1 ?side2 ?side3 ?side4 A31.out).mono ?_
            (case side1 => repeat (first | exact (Kd.C_below HR0_1.out HB.out) | (with_reducible refine Kd.C_alloc ?_ _) | (with_reducible refine Kd.C_drewN ?_ _) | (with_reducible refine Kd.C_drew ?_)))
            (case side2 => exact HC0_1.out)
            (case side3 => repeat (first | exact (Kd.C_below HR1.out HB.out) | (with_reducible refine Kd.C_alloc ?_ _) | (with_reducible refine Kd.C_drewN ?_ _) | (with_reducible refine Kd.C_drew ?_)))
            (case side4 => exact HC1.out)
            rintro e w42 ⟨rfl, hb⟩
            refine ⟨_, rfl, ?_⟩
            have n0_ := Aside0.mk (Kd.S_below (by (with_reducible repeat (first | apply Kd.S_alloc | apply Kd.S_drewN | apply Kd.S_drew)); exact HO222.out) hb)
            have n1_ := Aside0.mk (blk_below (g := gb216) (o := .cells #[.string a0_0, .slice A0_1 l0_1.length c0_1] 24 (0, 0)) (by (with_reducible repeat (first | refine blk_drewN ?_ _ | refine blk_drew ?_ | refine blk_alloc ?_ _)); exact BK216.out) hb)
            have n2_ := Aside0.mk (blk_below (g := gb223) (o := .cells #[.slice Ao37 t220.length co37] 22 (0, 0)) (by (with_reducible repeat (first | refine blk_drewN ?_ _ | refine blk_drew ?_ | refine blk_alloc ?_ _)); exact BK223.out) hb)
            have n3_ := Aside0.mk (below_step (by repeat (first | (with_reducible first | exact HB.out | apply below_alloc | apply pw_below_drewN | apply below_drew1 | refine below_set ?_ GE216.out | refine below_set ?_ GE223.out) | exact HB.out)) hb)
            clear HO222
            clear BK216
            clear BK223
            clear HB
            have HO222 := n0_
            have BK216 := n1_
            have BK223 := n2_
            have HB := n3_
            clear n0_ n1_ n2_ n3_
            (try clear hb)
            (try clear hb2)
            (try clear hk)
            (try clear hi)
            refine hK.out _ _ ⟨(blk_cell BK223.out 0).trans rfl, (blk_cell BK216.out 0).trans rfl, (blk_cell BK216.out 1).trans rfl⟩ (fun hHeld => ?_)
            clear hK K
            refine norm_ (a' := ?_) ?_ ?_
            rotate_left
            · show Act.put _ (some 40) _ = _
              simp only [Act.put, List.setIfInBounds_toArray, List.set_cons_zero, List.set_cons_succ, i64_w, i32_w]
              rfl
            refine pure_ (i := 7) (N := some 41) (v := ?_) (a' := ?_) #[true, true, true, true, true, true, true, true, false] rfl rfl (any_of HT_.out (by kernel_rfl)) (fun _ _ _ h => h) (Or.inl ⟨by rfl, ?_⟩) ?_ ?_
            rotate_left
            · intro w'
              go_simp
              with_reducible rfl
            rotate_left
            · simp only [Act.put, List.setIfInBounds_toArray, List.set_cons_zero, List.set_cons_succ, i64_w, i32_w]
              rfl
            refine pure_ (i := 8) (N := some 42) (v := ?_) (a' := ?_) #[true, true, true, true, true, true, true, true, true] rfl rfl (any_of HT_.out (by kernel_rfl)) (fun _ _ _ h => h) (Or.inl ⟨by rfl, ?_⟩) ?_ ?_
            rotate_left
            · intro w'
              go_simp
              with_reducible rfl
            rotate_left
            · simp only [Act.put, List.setIfInBounds_toArray, List.set_cons_zero, List.set_cons_succ, i64_w, i32_w]
              rfl
            refine done_ (done_of HT_.out (by kernel_rfl)) ?_
            try go_wp2
            go_loopg [8] kj5 (fun kq v8 w' => ∃ (x8_2 : Int), v8 = .int .i64 x8_2 ∧ Aside0 (eponymlaw19_VariantsAll.l0 kq l1 x8_2 a0_0 l0_1 t220 = some r) ∧ Aside0 (kq ≤ kj5) ∧ Aside0 (Kd.S (Kd.slice 21 (Kd.int .i32)) 25 w' w.heap.size (fun _ => True) (.slice Ao37 t220.length co37) t220) ∧ Aside0 (w'.heap[gb216]? = some (.cells #[.string a0_0, (.slice A0_1 l0_1.length c0_1)] 24 (0, 0))) ∧ Aside0 (w'.heap[gb223]? = some (.cells #[(.slice Ao37 t220.length co37)] 22 (0, 0))) ∧ Aside0 (Below w.heap.size w w'))
            case atStart => exact ⟨(0), (by first | rfl | (simp; done) | (simp [*]; done)), H', ⟨Nat.le_refl _⟩, ⟨by (with_reducible repeat (first | apply Kd.S_alloc | apply Kd.S_drewN | apply Kd.S_drew)); exact HO222.out⟩, ⟨by (with_reducible repeat (first | refine blk_drewN ?_ _ | refine blk_drew ?_ | refine blk_alloc ?_ _)); exact BK216.out⟩, ⟨by (with_reducible repeat (first | refine blk_drewN ?_ _ | refine blk_drew ?_ | refine blk_alloc ?_ _)); exact BK223.out⟩, ⟨by repeat (first | (with_reducible first | exact HB.out | apply below_alloc | apply pw_below_drewN | apply below_drew1 | refine below_set ?_ GE216.out | refine below_set ?_ GE223.out) | exact HB.out)⟩⟩
            case round =>
              clear H'
              try clear c1
              try clear c2
              try clear p2
              try clear c3
              try clear c5
              try clear c6
              try clear c8
              try clear c9
              try clear c10
              try clear c14
              try clear c15
              try clear c15b0
              try clear c15b1
              try clear c28
              try clear c33
              try clear c33b0
              try clear c33b1
              try clear c38
              try clear hcz11_0
              try clear hcz11_1
              try clear hcz16_0
              try clear hcz16_1
              try clear hcz18_0
              try clear hcz18_1
              try clear hcz20_0
              try clear hcz20_1
              try clear hcz22_0
              try clear hcz22_1
              try clear hcz24_0
              try clear hcz24_1
              try clear hcz26_0
              try clear hcz26_1
              try clear hcz34_0
              try clear hcz34_1
              try clear hcz39_0
              try clear hfz11_0
              try clear hfz11_1
              try clear hfz16_0
              try clear hfz16_1
              try clear hfz18_0
              try clear hfz18_1
              try clear hfz20_0
              try clear hfz20_1
              try clear hfz22_0
              try clear hfz22_1
              try clear hfz24_0
              try clear hfz24_1
              try clear hfz26_0
              try clear hfz26_1
              try clear hfz34_0
              try clear hfz34_1
              try clear hfz39_0
              try clear p2
              obtain ⟨x8_2, rfl, HA, HK2, HO_224000, BK216, BK223, HB⟩ := hrel
              cases gk with
              | zero => exact absurd HA.out (by simp [eponymlaw19_VariantsAll.l0])
              | succ k2 =>
                have H := HA.out
                clear HA
                simp only [eponymlaw19_VariantsAll.l0] at H
                by_cases c43 : x8_2 < (t220.length : Int)
                · rw [if_pos c43] at H
                  have c43b0 : decide (x8_2 < (t220.length : Int)) = true := decide_eq_true c43
                  clear c43
                  by_cases c44 : 0 ≤ x8_2
                  · rw [if_pos c44] at H
                    have c44b0 : decide (0 ≤ x8_2) = true := decide_eq_true c44
                    clear c44
                    replace H := Option.bind_eq_some_iff.mp H
                    obtain ⟨t228, A450, H⟩ := H
                    replace H : ((eponymlaw01_Same.f k2 (rd_L1 t220 x8_2) t228).bind fun t231 => (if t231 = true then (eponymlaw19_VariantsAll.l0 k2 l1 (wrap64 (x8_2 + 1)) a0_0 l0_1 t220) else (some false))) = some r := H
                    have A45 := Aside0.mk A450
                    clear A450
                    replace H := Option.bind_eq_some_iff.mp H
                    obtain ⟨t231, A460, H⟩ := H
                    replace H : (if t231 = true then (eponymlaw19_VariantsAll.l0 k2 l1 (wrap64 (x8_2 + 1)) a0_0 l0_1 t220) else (some false)) = some r := H
                    have A46 := Aside0.mk A460
                    clear A460
                    by_cases c47 : t231 = true
                    · subst c47
                      have H1 : (eponymlaw19_VariantsAll.l0 k2 l1 (wrap64 (x8_2 + 1)) a0_0 l0_1 t220) = some r := by rw [if_pos rfl] at H; exact H
                      clear H
                      have H := H1
                      clear H1
                      have H' := Aside0.mk H
                      clear H
                      have hnb48 := NB223_216.out
                      have hnc48 := NB216_223.out
                      have hcz49_0 : wr.cell? ⟨gb223, 0, none⟩ = some (.slice Ao37 t220.length co37) := (blk_cell BK223.out 0).trans rfl
                      have hfz49_0 := blk_frozen BK223.out 0
                      try go_wp2
                      have n0_ := Aside0.mk (Kd.S_drew HO_224000.out)
                      have n1_ := Aside0.mk (blk_drew BK216.out)
                      have n2_ := Aside0.mk (blk_drew BK223.out)
                      have n3_ := Aside0.mk (below_drew1 HB.out)
                      clear HO_224000
                      clear BK216
                      clear BK223
                      clear HB
                      have HO_224000 := n0_
                      have BK216 := n1_
                      have BK223 := n2_
                      have HB := n3_
                      clear n0_ n1_ n2_ n3_
                      have p227 : 0 ≤ (x8_2 : Int) := of_decide_eq_true (by first | (with_reducible assumption) | assumption)
                      have q227 : x8_2 < (t220.length : Int) := of_decide_eq_true (by first | (with_reducible assumption) | assumption)
                      obtain ⟨ad227, A227_0, c227_0, e227, hx227_0, hl227_0, hi227_0⟩ := at_L1 (Kd.S_reads' HO_224000.out).2.2 x8_2 p227 q227
                      cases e227
                      obtain ⟨ce227, hce227, hMe227, hcc227⟩ := Kd.S_get HO_224000.out [] x8_2 p227 (by first | exact q227 | exact of_decide_eq_true (by first | (with_reducible assumption) | assumption) | (have e_ := (Kd.S_reads' HO_224000.out).1; omega))
                      obtain ⟨ve227_0, rfl, ge227_0⟩ := hMe227
                      have hv227_0 := hcc227 0 _ rfl
                      rw [Nat.add_zero, show ((Kd.slice 21 (Kd.int .i32))).sz = 1 from rfl, Nat.mul_one] at hv227_0
                      replace hv227_0 := Option.some.inj (hv227_0.symm.trans hx227_0)
                      rw [hv227_0] at ge227_0
                      have HL227_0 := Aside0.mk (show Kd.R (Kd.int .i32) 21 _ _ _ _ (rd_L1 t220 x8_2) from ge227_0)
                      clear hv227_0 ge227_0
                      clear hcc227 hce227
                      have HR227_0 := Aside0.mk hi227_0
                      have HC227_0 := Aside0.mk hl227_0
                      clear hi227_0 hl227_0
                      replace p227 := eq_true p227
                      replace q227 := eq_true q227
                      refine start_ (n := 10) (S := fun w' => w'.cell? ⟨gb223, 0, none⟩ = some (.slice (some ad227) t220.length co37) ∧ w'.cell? ⟨gb216, 0, none⟩ = some (.string a0_0) ∧ w'.cell? ⟨gb216, 1, none⟩ = some (.slice A0_1 l0_1.length c0_1) ∧ w'.cell? (ad227.add (x8_2).toNat) = some (.slice A227_0 (rd_L1 t220 x8_2).length c227_0)) (ds := []) #[false, false, false, false, false, false, false, false, false, false] (by kernel_rfl) rfl rfl ⟨(blk_cell BK223.out 0).trans rfl, (blk_cell BK216.out 0).trans rfl, (blk_cell BK216.out 1).trans rfl, hx227_0⟩ (fun hHeld => ?_); refine with_tabW eponymlaw19_VariantsAll.tab11 eponymlaw19_VariantsAll.bits11 (fun HT_ HW_ => ?_)
                      generalize wr.drew = w50 at HO_224000 BK216 BK223 HB HL227_0 HR227_0 hx227_0 hHeld ⊢
                      refine pure_ (i := 1) (N := some 50) (v := ?_) (a' := ?_) #[false, true, false, false, false, false, false, false, false, false] rfl rfl (any_of HT_.out (by kernel_rfl)) (fun _ _ _ h => h) (Or.inl ⟨by rfl, ?_⟩) ?_ ?_
                      rotate_left
                      · intro w'
                        go_simp
                        with_reducible rfl
                      rotate_left
                      · simp only [Act.put, List.setIfInBounds_toArray, List.set_cons_zero, List.set_cons_succ, i64_w, i32_w]
                        rfl
                      refine pure_ (i := 5) (N := some 54) (v := ?_) (a' := ?_) #[false, true, false, false, false, true, false, false, false, false] rfl rfl (any_of HT_.out (by kernel_rfl)) (fun _ _ _ h => h) (Or.inl ⟨by rfl, ?_⟩) ?_ ?_
                      rotate_left
                      · intro w'
                        go_simp
                        with_reducible rfl
                      rotate_left
                      · simp only [Act.put, List.setIfInBounds_toArray, List.set_cons_zero, List.set_cons_succ, i64_w, i32_w]
                        rfl
                      refine pure_ (i := 6) (N := some 55) (v := ?_) (a' := ?_) #[false, true, false, false, false, true, true, false, false, false] rfl rfl (any_of HT_.out (by kernel_rfl)) (fun _ _ _ h => h) (Or.inl ⟨by rfl, ?_⟩) ?_ ?_
                      rotate_left
                      · intro w'
                        go_simp
                        with_reducible rfl
                      rotate_left
                      · simp only [Act.put, List.setIfInBounds_toArray, List.set_cons_zero, List.set_cons_succ, i64_w, i32_w]
                        rfl
                      refine take_ (i := 0) (N := some 49) (v := ?_) (a' := ?_) #[true, true, false, false, false, true, true, false, false, false] rfl rfl (take_ofW HT_.out HW_.out (by kernel_rfl)) (fun _ _ _ h => h) (Or.inl ⟨by rfl, ?_⟩) hHeld ?_ ?_
                      rotate_left
                      · rintro w' ⟨s0, s1, s2, s3⟩
                        go_simp
                        with_reducible rfl
                      rotate_left
                      · simp only [Act.put, List.setIfInBounds_toArray, List.set_cons_zero, List.set_cons_succ, i64_w, i32_w]
                        rfl
                      refine pure_ (i := 2) (N := some 51) (v := ?_) (a' := ?_) #[true, true, true, false, false, true, true, false, false, false] rfl rfl (any_of HT_.out (by kernel_rfl)) (fun _ _ _ h => h) (Or.inl ⟨by rfl, ?_⟩) ?_ ?_
                      rotate_left
                      · intro w'
                        go_simp
                        with_reducible rfl
                      rotate_left
                      · simp only [Act.put, List.setIfInBounds_toArray, List.set_cons_zero, List.set_cons_succ, i64_w, i32_w]
                        rfl
                      refine take_ (i := 3) (N := some 52) (v := ?_) (a' := ?_) #[true, true, true, true, false, true, true, false, false, false] rfl rfl (take_ofW HT_.out HW_.out (by kernel_rfl)) (fun _ _ _ h => h) (Or.inl ⟨by rfl, ?_⟩) hHeld ?_ ?_
                      rotate_left
                      · rintro w' ⟨s0, s1, s2, s3⟩
                        go_simp
                        with_reducible rfl
                      rotate_left
                      · simp only [Act.put, List.setIfInBounds_toArray, List.set_cons_zero, List.set_cons_succ, i64_w, i32_w]
                        rfl
                      refine take_ (i := 4) (N := some 53) (v := ?_) (a' := ?_) #[true, true, true, true, true, true, true, false, false, false] rfl rfl (take_ofW HT_.out HW_.out (by kernel_rfl)) (fun _ _ _ h => h) (Or.inl ⟨by rfl, ?_⟩) hHeld ?_ ?_
                      rotate_left
                      · rintro w' ⟨s0, s1, s2, s3⟩
                        go_simp
                        with_reducible rfl
                      rotate_left
                      · simp only [Act.put, List.setIfInBounds_toArray, List.set_cons_zero, List.set_cons_succ, i64_w, i32_w]
                        rfl
                      refine one_ (i := 7) (N := some 56) #[true, true, true, true, true, true, true, true, false, false] rfl rfl (one_of HT_.out (by kernel_rfl)) (by decide) (fun K hK => ?_)
                      refine goes_ Try.func11 (by kernel_rfl) rfl #[.agg #[.string a0_0, .slice A0_1 l0_1.length c0_1], .slice A1 l1.length c1, .int .i64 x8_2] (by rfl) rfl rfl (by (try simp only [List.map_toArray, List.map_cons, List.map_nil]); first | done | rfl | (simp only [List.length_drop, List.length_take]; rfl)) ?_
                      with_reducible refine (eponymref19_Variant.calls k2 a0_0 _ _ l0_1 _ _ l1 x8_2 t228 _ ?side1 ?side2 ?side3 ?side4 A45.out).mono ?_
                      (case side1 => repeat (first | exact (Kd.C_below HR0_1.out HB.out) | (with_reducible refine Kd.C_alloc ?_ _) | (with_reducible refine Kd.C_drewN ?_ _) | (with_reducible refine Kd.C_drew ?_)))
                      (case side2 => exact HC0_1.out)
                      (case side3 => repeat (first | exact (Kd.C_below HR1.out HB.out) | (with_reducible refine Kd.C_alloc ?_ _) | (with_reducible refine Kd.C_drewN ?_ _) | (with_reducible refine Kd.C_drew ?_)))
                      (case side4 => exact HC1.out)
                      rintro e w51 ⟨v229, rfl, ho0, hb⟩
                      have HS3_ := (hb.cell (World.block_lt_of_cell? _ _ (hHeld.2.2.2))).trans (hHeld.2.2.2)
                      refine ⟨_, rfl, ?_⟩
                      have n0_ := Aside0.mk (Kd.S_elder' (by (with_reducible repeat (first | apply Kd.S_alloc | apply Kd.S_drewN | apply Kd.S_drew)); exact HO_224000.out) (Kd.R_base ho0) hb)
                      have n1_ := Aside0.mk (Kd.R_elder' (by (with_reducible repeat (first | apply Kd.R_alloc | apply Kd.R_drewN | apply Kd.R_drew)); exact HL227_0.out) (Kd.R_base ho0) hb)
                      have n2_ := Aside0.mk (Kd.R_lower (Kd.R_new' ho0 (Kd.R_lt (by (with_reducible repeat (first | apply Kd.R_alloc | apply Kd.R_drewN | apply Kd.R_drew)); exact HL227_0.out))) (below_size (by repeat (first | (with_reducible first | exact HB.out | apply below_alloc | apply pw_below_drewN | apply below_drew1 | refine below_set ?_ GE216.out | refine below_set ?_ GE223.out) | exact HB.out))))
                      have n3_ := Aside0.mk (blk_below (g := gb216) (o := .cells #[.string a0_0, .slice A0_1 l0_1.length c0_1] 24 (0, 0)) (by (with_reducible repeat (first | refine blk_drewN ?_ _ | refine blk_drew ?_ | refine blk_alloc ?_ _)); exact BK216.out) hb)
                      have n4_ := Aside0.mk (blk_below (g := gb223) (o := .cells #[.slice (some ad227) t220.length co37] 22 (0, 0)) (by (with_reducible repeat (first | refine blk_drewN ?_ _ | refine blk_drew ?_ | refine blk_alloc ?_ _)); exact BK223.out) hb)
                      have n5_ := Aside0.mk (Kd.C_below (by repeat (first | (with_reducible exact HR227_0.out) | (with_reducible refine Kd.C_alloc ?_ _) | (with_reducible refine Kd.C_drewN ?_ _) | (with_reducible refine Kd.C_drew ?_) | exact HR227_0.out)) hb)
                      have n6_ := Aside0.mk (below_step (by repeat (first | (with_reducible first | exact HB.out | apply below_alloc | apply pw_below_drewN | apply below_drew1 | refine below_set ?_ GE216.out | refine below_set ?_ GE223.out) | exact HB.out)) hb)
                      clear HO_224000
                      clear HL227_0
                      clear BK216
                      clear BK223
                      clear HR227_0
                      clear HB
                      have HO_224000 := n0_
                      have HL227_0 := n1_
                      have HO230 := n2_
                      have BK216 := n3_
                      have BK223 := n4_
                      have HR227_0 := n5_
                      have HB := n6_
                      clear n0_ n1_ n2_ n3_ n4_ n5_ n6_
                      (try clear hb)
                      (try clear hb2)
                      (try clear hk)
                      (try clear hi)
                      (try clear ho0)
                      obtain ⟨Ao52, co52, eo52⟩ := Kd.R_slice HO230.out
                      (first | subst eo52 | (injection eo52 with f1_ f2_ f3_; have f4_ := f1_.symm; have f5_ := f3_.symm; clear f1_ f2_ f3_; subst f4_; subst f5_))
                      refine hK.out _ _ ⟨(blk_cell BK223.out 0).trans rfl, (blk_cell BK216.out 0).trans rfl, (blk_cell BK216.out 1).trans rfl, HS3_⟩ (fun hHeld => ?_)
                      clear hK K
                      refine norm_ (a' := ?_) ?_ ?_
                      rotate_left
                      · show Act.put _ (some 56) _ = _
                        simp only [Act.put, List.setIfInBounds_toArray, List.set_cons_zero, List.set_cons_succ, i64_w, i32_w]
                        rfl
                      refine one_ (i := 8) (N := some 57) #[true, true, true, true, true, true, true, true, true, false] rfl rfl (one_of HT_.out (by kernel_rfl)) (by decide) (fun K hK => ?_)
                      refine goes_ Try.func10 (by kernel_rfl) rfl #[.slice A227_0 (rd_L1 t220 x8_2).length c227_0, .slice Ao52 t228.length co52] (by rfl) rfl rfl (by (try simp only [List.map_toArray, List.map_cons, List.map_nil]); first | done | rfl | (simp only [List.length_drop, List.length_take]; rfl)) ?_
                      with_reducible refine (eponymlaw01_Same.calls k2 _ _ (rd_L1 t220 x8_2) _ _ t228 true _ ?side1 ?side2 ?side3 ?side4 A46.out).mono ?_
                      (case side1 => repeat (first | exact (by repeat (first | (with_reducible exact HR227_0.out) | (with_reducible refine Kd.C_alloc ?_ _) | (with_reducible refine Kd.C_drewN ?_ _) | (with_reducible refine Kd.C_drew ?_) | exact HR227_0.out)) | (with_reducible refine Kd.C_alloc ?_ _) | (with_reducible refine Kd.C_drewN ?_ _) | (with_reducible refine Kd.C_drew ?_)))
                      (case side2 => exact HC227_0.out)
                      (case side3 => repeat (first | exact (Kd.R_reads' HO230.out).2.2 | (with_reducible refine Kd.C_alloc ?_ _) | (with_reducible refine Kd.C_drewN ?_ _) | (with_reducible refine Kd.C_drew ?_)))
                      (case side4 => exact (Kd.R_reads' HO230.out).2.1)
                      rintro e w' ⟨rfl, ⟨nd, rfl⟩⟩
                      refine ⟨_, rfl, ?_⟩
                      refine hK.out _ _ ⟨(blk_cell BK223.out 0).trans rfl, (blk_cell BK216.out 0).trans rfl, (blk_cell BK216.out 1).trans rfl, hHeld.2.2.2⟩ (fun hHeld => ?_)
                      clear hK K
                      refine norm_ (a' := ?_) ?_ ?_
                      rotate_left
                      · show Act.put _ (some 57) _ = _
                        simp only [Act.put, List.setIfInBounds_toArray, List.set_cons_zero, List.set_cons_succ, i64_w, i32_w]
                        rfl
                      refine pure_ (i := 9) (N := some 58) (v := ?_) (a' := ?_) #[true, true, true, true, true, true, true, true, true, true] rfl rfl (any_of HT_.out (by kernel_rfl)) (fun _ _ _ h => h) (Or.inl ⟨by rfl, ?_⟩) ?_ ?_
                      rotate_left
                      · intro w'
                        go_simp
                        with_reducible rfl
                      rotate_left
                      · simp only [Act.put, List.setIfInBounds_toArray, List.set_cons_zero, List.set_cons_succ, i64_w, i32_w]
                        rfl
                      refine done_ (done_of HT_.out (by kernel_rfl)) ?_
                      try go_wp2
                      go_roundg k2
                      case measure => have := HJ5.out; have := HK2.out; omega
                      case rel => exact ⟨(wrap64 (x8_2 + 1)), (by first | rfl | (simp; done) | (simp [*]; done)), H', ⟨by have := HJ5.out; have := HK2.out; omega⟩, ⟨by (with_reducible repeat (first | apply Kd.S_alloc | apply Kd.S_drewN | apply Kd.S_drew)); exact Kd.S_mono HO_224000.out (fun _ hk => trivial)⟩, ⟨by (with_reducible repeat (first | refine blk_drewN ?_ _ | refine blk_drew ?_ | refine blk_alloc ?_ _)); exact BK216.out⟩, ⟨by (with_reducible repeat (first | refine blk_drewN ?_ _ | refine blk_drew ?_ | refine blk_alloc ?_ _)); exact BK223.out⟩, ⟨by repeat (first | (with_reducible first | exact HB.out | apply below_alloc | apply pw_below_drewN | apply below_drew1 | refine below_set ?_ GE216.out | refine below_set ?_ GE223.out) | exact HB.out)⟩⟩
                    · replace c47 := Bool.eq_false_iff.mpr c47
                      subst c47
                      have H1 : (some false) = some r := by rw [if_neg (show ¬ (false = true) by decide)] at H; exact H
                      clear H
                      have H := H1
                      clear H1
                      obtain rfl := Option.some.inj H
                      have hnb53 := NB223_216.out
                      have hnc53 := NB216_223.out
                      have hcz54_0 : wr.cell? ⟨gb223, 0, none⟩ = some (.slice Ao37 t220.length co37) := (blk_cell BK223.out 0).trans rfl
                      have hfz54_0 := blk_frozen BK223.out 0
                      try go_wp2
                      have n0_ := Aside0.mk (Kd.S_drew HO_224000.out)
                      have n1_ := Aside0.mk (blk_drew BK216.out)
                      have n2_ := Aside0.mk (blk_drew BK223.out)
                      have n3_ := Aside0.mk (below_drew1 HB.out)
                      clear HO_224000
                      clear BK216
                      clear BK223
                      clear HB
                      have HO_224000 := n0_
                      have BK216 := n1_
                      have BK223 := n2_
                      have HB := n3_
                      clear n0_ n1_ n2_ n3_
                      have p227 : 0 ≤ (x8_2 : Int) := of_decide_eq_true (by first | (with_reducible assumption) | assumption)
                      have q227 : x8_2 < (t220.length : Int) := of_decide_eq_true (by first | (with_reducible assumption) | assumption)
                      obtain ⟨ad227, A227_0, c227_0, e227, hx227_0, hl227_0, hi227_0⟩ := at_L1 (Kd.S_reads' HO_224000.out).2.2 x8_2 p227 q227
                      cases e227
                      obtain ⟨ce227, hce227, hMe227, hcc227⟩ := Kd.S_get HO_224000.out [] x8_2 p227 (by first | exact q227 | exact of_decide_eq_true (by first | (with_reducible assumption) | assumption) | (have e_ := (Kd.S_reads' HO_224000.out).1; omega))
                      obtain ⟨ve227_0, rfl, ge227_0⟩ := hMe227
                      have hv227_0 := hcc227 0 _ rfl
                      rw [Nat.add_zero, show ((Kd.slice 21 (Kd.int .i32))).sz = 1 from rfl, Nat.mul_one] at hv227_0
                      replace hv227_0 := Option.some.inj (hv227_0.symm.trans hx227_0)
                      rw [hv227_0] at ge227_0
                      have HL227_0 := Aside0.mk (show Kd.R (Kd.int .i32) 21 _ _ _ _ (rd_L1 t220 x8_2) from ge227_0)
                      clear hv227_0 ge227_0
                      clear hcc227 hce227
                      have HR227_0 := Aside0.mk hi227_0
                      have HC227_0 := Aside0.mk hl227_0
                      clear hi227_0 hl227_0
                      replace p227 := eq_true p227
                      replace q227 := eq_true q227
                      refine start_ (n := 10) (S := fun w' => w'.cell? ⟨gb223, 0, none⟩ = some (.slice (some ad227) t220.length co37) ∧ w'.cell? ⟨gb216, 0, none⟩ = some (.string a0_0) ∧ w'.cell? ⟨gb216, 1, none⟩ = some (.slice A0_1 l0_1.length c0_1) ∧ w'.cell? (ad227.add (x8_2).toNat) = some (.slice A227_0 (rd_L1 t220 x8_2).length c227_0)) (ds := []) #[false, false, false, false, false, false, false, false, false, false] (by kernel_rfl) rfl rfl ⟨(blk_cell BK223.out 0).trans rfl, (blk_cell BK216.out 0).trans rfl, (blk_cell BK216.out 1).trans rfl, hx227_0⟩ (fun hHeld => ?_); refine with_tabW eponymlaw19_VariantsAll.tab11 eponymlaw19_VariantsAll.bits11 (fun HT_ HW_ => ?_)
                      generalize wr.drew = w55 at HO_224000 BK216 BK223 HB HL227_0 HR227_0 hx227_0 hHeld ⊢
                      refine pure_ (i := 1) (N := some 50) (v := ?_) (a' := ?_) #[false, true, false, false, false, false, false, false, false, false] rfl rfl (any_of HT_.out (by kernel_rfl)) (fun _ _ _ h => h) (Or.inl ⟨by rfl, ?_⟩) ?_ ?_
                      rotate_left
                      · intro w'
                        go_simp
                        with_reducible rfl
                      rotate_left
                      · simp only [Act.put, List.setIfInBounds_toArray, List.set_cons_zero, List.set_cons_succ, i64_w, i32_w]
                        rfl
                      refine pure_ (i := 5) (N := some 54) (v := ?_) (a' := ?_) #[false, true, false, false, false, true, false, false, false, false] rfl rfl (any_of HT_.out (by kernel_rfl)) (fun _ _ _ h => h) (Or.inl ⟨by rfl, ?_⟩) ?_ ?_
                      rotate_left
                      · intro w'
                        go_simp
                        with_reducible rfl
                      rotate_left
                      · simp only [Act.put, List.setIfInBounds_toArray, List.set_cons_zero, List.set_cons_succ, i64_w, i32_w]
                        rfl
                      refine pure_ (i := 6) (N := some 55) (v := ?_) (a' := ?_) #[false, true, false, false, false, true, true, false, false, false] rfl rfl (any_of HT_.out (by kernel_rfl)) (fun _ _ _ h => h) (Or.inl ⟨by rfl, ?_⟩) ?_ ?_
                      rotate_left
                      · intro w'
                        go_simp
                        with_reducible rfl
                      rotate_left
                      · simp only [Act.put, List.setIfInBounds_toArray, List.set_cons_zero, List.set_cons_succ, i64_w, i32_w]
                        rfl
                      refine take_ (i := 0) (N := some 49) (v := ?_) (a' := ?_) #[true, true, false, false, false, true, true, false, false, false] rfl rfl (take_ofW HT_.out HW_.out (by kernel_rfl)) (fun _ _ _ h => h) (Or.inl ⟨by rfl, ?_⟩) hHeld ?_ ?_
                      rotate_left
                      · rintro w' ⟨s0, s1, s2, s3⟩
                        go_simp
                        with_reducible rfl
                      rotate_left
                      · simp only [Act.put, List.setIfInBounds_toArray, List.set_cons_zero, List.set_cons_succ, i64_w, i32_w]
                        rfl
                      refine pure_ (i := 2) (N := some 51) (v := ?_) (a' := ?_) #[true, true, true, false, false, true, true, false, false, false] rfl rfl (any_of HT_.out (by kernel_rfl)) (fun _ _ _ h => h) (Or.inl ⟨by rfl, ?_⟩) ?_ ?_
                      rotate_left
                      · intro w'
                        go_simp
                        with_reducible rfl
                      rotate_left
                      · simp only [Act.put, List.setIfInBounds_toArray, List.set_cons_zero, List.set_cons_succ, i64_w, i32_w]
                        rfl
                      refine take_ (i := 3) (N := some 52) (v := ?_) (a' := ?_) #[true, true, true, true, false, true, true, false, false, false] rfl rfl (take_ofW HT_.out HW_.out (by kernel_rfl)) (fun _ _ _ h => h) (Or.inl ⟨by rfl, ?_⟩) hHeld ?_ ?_
                      rotate_left
                      · rintro w' ⟨s0, s1, s2, s3⟩
                        go_simp
                        with_reducible rfl
                      rotate_left
                      · simp only [Act.put, List.setIfInBounds_toArray, List.set_cons_zero, List.set_cons_succ, i64_w, i32_w]
                        rfl
                      refine take_ (i := 4) (N := some 53) (v := ?_) (a' := ?_) #[true, true, true, true, true, true, true, false, false, false] rfl rfl (take_ofW HT_.out HW_.out (by kernel_rfl)) (fun _ _ _ h => h) (Or.inl ⟨by rfl, ?_⟩) hHeld ?_ ?_
                      rotate_left
                      · rintro w' ⟨s0, s1, s2, s3⟩
                        go_simp
                        with_reducible rfl
                      rotate_left
                      · simp only [Act.put, List.setIfInBounds_toArray, List.set_cons_zero, List.set_cons_succ, i64_w, i32_w]
                        rfl
                      refine one_ (i := 7) (N := some 56) #[true, true, true, true, true, true, true, true, false, false] rfl rfl (one_of HT_.out (by kernel_rfl)) (by decide) (fun K hK => ?_)
                      refine goes_ Try.func11 (by kernel_rfl) rfl #[.agg #[.string a0_0, .slice A0_1 l0_1.length c0_1], .slice A1 l1.length c1, .int .i64 x8_2] (by rfl) rfl rfl (by (try simp only [List.map_toArray, List.map_cons, List.map_nil]); first | done | rfl | (simp only [List.length_drop, List.length_take]; rfl)) ?_
                      with_reducible refine (eponymref19_Variant.calls k2 a0_0 _ _ l0_1 _ _ l1 x8_2 t228 _ ?side1 ?side2 ?side3 ?side4 A45.out).mono ?_
                      (case side1 => repeat (first | exact (Kd.C_below HR0_1.out HB.out) | (with_reducible refine Kd.C_alloc ?_ _) | (with_reducible refine Kd.C_drewN ?_ _) | (with_reducible refine Kd.C_drew ?_)))
                      (case side2 => exact HC0_1.out)
                      (case side3 => repeat (first | exact (Kd.C_below HR1.out HB.out) | (with_reducible refine Kd.C_alloc ?_ _) | (with_reducible refine Kd.C_drewN ?_ _) | (with_reducible refine Kd.C_drew ?_)))
                      (case side4 => exact HC1.out)
                      rintro e w56 ⟨v229, rfl, ho0, hb⟩
                      have HS3_ := (hb.cell (World.block_lt_of_cell? _ _ (hHeld.2.2.2))).trans (hHeld.2.2.2)
                      refine ⟨_, rfl, ?_⟩
                      have n0_ := Aside0.mk (Kd.S_elder' (by (with_reducible repeat (first | apply Kd.S_alloc | apply Kd.S_drewN | apply Kd.S_drew)); exact HO_224000.out) (Kd.R_base ho0) hb)
                      have n1_ := Aside0.mk (Kd.R_elder' (by (with_reducible repeat (first | apply Kd.R_alloc | apply Kd.R_drewN | apply Kd.R_drew)); exact HL227_0.out) (Kd.R_base ho0) hb)
                      have n2_ := Aside0.mk (Kd.R_lower (Kd.R_new' ho0 (Kd.R_lt (by (with_reducible repeat (first | apply Kd.R_alloc | apply Kd.R_drewN | apply Kd.R_drew)); exact HL227_0.out))) (below_size (by repeat (first | (with_reducible first | exact HB.out | apply below_alloc | apply pw_below_drewN | apply below_drew1 | refine below_set ?_ GE216.out | refine below_set ?_ GE223.out) | exact HB.out))))
                      have n3_ := Aside0.mk (blk_below (g := gb216) (o := .cells #[.string a0_0, .slice A0_1 l0_1.length c0_1] 24 (0, 0)) (by (with_reducible repeat (first | refine blk_drewN ?_ _ | refine blk_drew ?_ | refine blk_alloc ?_ _)); exact BK216.out) hb)
                      have n4_ := Aside0.mk (blk_below (g := gb223) (o := .cells #[.slice (some ad227) t220.length co37] 22 (0, 0)) (by (with_reducible repeat (first | refine blk_drewN ?_ _ | refine blk_drew ?_ | refine blk_alloc ?_ _)); exact BK223.out) hb)
                      have n5_ := Aside0.mk (Kd.C_below (by repeat (first | (with_reducible exact HR227_0.out) | (with_reducible refine Kd.C_alloc ?_ _) | (with_reducible refine Kd.C_drewN ?_ _) | (with_reducible refine Kd.C_drew ?_) | exact HR227_0.out)) hb)
                      have n6_ := Aside0.mk (below_step (by repeat (first | (with_reducible first | exact HB.out | apply below_alloc | apply pw_below_drewN | apply below_drew1 | refine below_set ?_ GE216.out | refine below_set ?_ GE223.out) | exact HB.out)) hb)
                      clear HO_224000
                      clear HL227_0
                      clear BK216
                      clear BK223
                      clear HR227_0
                      clear HB
                      have HO_224000 := n0_
                      have HL227_0 := n1_
                      have HO230 := n2_
                      have BK216 := n3_
                      have BK223 := n4_
                      have HR227_0 := n5_
                      have HB := n6_
                      clear n0_ n1_ n2_ n3_ n4_ n5_ n6_
                      (try clear hb)
                      (try clear hb2)
                      (try clear hk)
                      (try clear hi)
                      (try clear ho0)
                      obtain ⟨Ao57, co57, eo57⟩ := Kd.R_slice HO230.out
                      (first | subst eo57 | (injection eo57 with f1_ f2_ f3_; have f4_ := f1_.symm; have f5_ := f3_.symm; clear f1_ f2_ f3_; subst f4_; subst f5_))
                      refine hK.out _ _ ⟨(blk_cell BK223.out 0).trans rfl, (blk_cell BK216.out 0).trans rfl, (blk_cell BK216.out 1).trans rfl, HS3_⟩ (fun hHeld => ?_)
                      clear hK K
                      refine norm_ (a' := ?_) ?_ ?_
                      rotate_left
                      · show Act.put _ (some 56) _ = _
                        simp only [Act.put, List.setIfInBounds_toArray, List.set_cons_zero, List.set_cons_succ, i64_w, i32_w]
                        rfl
                      refine one_ (i := 8) (N := some 57) #[true, true, true, true, true, true, true, true, true, false] rfl rfl (one_of HT_.out (by kernel_rfl)) (by decide) (fun K hK => ?_)
                      refine goes_ Try.func10 (by kernel_rfl) rfl #[.slice A227_0 (rd_L1 t220 x8_2).length c227_0, .slice Ao57 t228.length co57] (by rfl) rfl rfl (by (try simp only [List.map_toArray, List.map_cons, List.map_nil]); first | done | rfl | (simp only [List.length_drop, List.length_take]; rfl)) ?_
                      with_reducible refine (eponymlaw01_Same.calls k2 _ _ (rd_L1 t220 x8_2) _ _ t228 false _ ?side1 ?side2 ?side3 ?side4 A46.out).mono ?_
                      (case side1 => repeat (first | exact (by repeat (first | (with_reducible exact HR227_0.out) | (with_reducible refine Kd.C_alloc ?_ _) | (with_reducible refine Kd.C_drewN ?_ _) | (with_reducible refine Kd.C_drew ?_) | exact HR227_0.out)) | (with_reducible refine Kd.C_alloc ?_ _) | (with_reducible refine Kd.C_drewN ?_ _) | (with_reducible refine Kd.C_drew ?_)))
                      (case side2 => exact HC227_0.out)
                      (case side3 => repeat (first | exact (Kd.R_reads' HO230.out).2.2 | (with_reducible refine Kd.C_alloc ?_ _) | (with_reducible refine Kd.C_drewN ?_ _) | (with_reducible refine Kd.C_drew ?_)))
                      (case side4 => exact (Kd.R_reads' HO230.out).2.1)
                      rintro e w' ⟨rfl, ⟨nd, rfl⟩⟩
                      refine ⟨_, rfl, ?_⟩
                      refine hK.out _ _ ⟨(blk_cell BK223.out 0).trans rfl, (blk_cell BK216.out 0).trans rfl, (blk_cell BK216.out 1).trans rfl, hHeld.2.2.2⟩ (fun hHeld => ?_)
                      clear hK K
                      refine norm_ (a' := ?_) ?_ ?_
                      rotate_left
                      · show Act.put _ (some 57) _ = _
                        simp only [Act.put, List.setIfInBounds_toArray, List.set_cons_zero, List.set_cons_succ, i64_w, i32_w]
                        rfl
                      refine pure_ (i := 9) (N := some 58) (v := ?_) (a' := ?_) #[true, true, true, true, true, true, true, true, true, true] rfl rfl (any_of HT_.out (by kernel_rfl)) (fun _ _ _ h => h) (Or.inl ⟨by rfl, ?_⟩) ?_ ?_
                      rotate_left
                      · intro w'
                        go_simp
                        with_reducible rfl
                      rotate_left
                      · simp only [Act.put, List.setIfInBounds_toArray, List.set_cons_zero, List.set_cons_succ, i64_w, i32_w]
                        rfl
                      refine done_ (done_of HT_.out (by kernel_rfl)) ?_
                      try go_wp2
                      ((try simp only [Exit.inBlock, Exit.then]); refine bodyPostN_ret (results_tmp rfl _ _ _) rfl ?_)
                      exact ⟨by first | rfl | (simp [errW_none, errW_some] <;> rfl) | (simp only [← hji30, ← hji32]; first | rfl | (simp [errW_none, errW_some] <;> rfl)) | (simp [*, errW_none, errW_some] <;> rfl), by repeat (first | (with_reducible first | exact HB.out | apply below_alloc | apply pw_below_drewN | apply below_drew1 | refine below_set ?_ GE216.out | refine below_set ?_ GE223.out) | exact HB.out)⟩
                  · rw [if_neg c44] at H
                    exact absurd H (by simp)
                · rw [if_neg c43] at H
                  have c43b0 : decide (x8_2 < (t220.length : Int)) = false := decide_eq_false c43
                  clear c43
                  have HG := Aside0.mk H
                  clear H
                  have hnb58 := NB223_216.out
                  have hnc58 := NB216_223.out
                  have hcz59_0 : wr.cell? ⟨gb223, 0, none⟩ = some (.slice Ao37 t220.length co37) := (blk_cell BK223.out 0).trans rfl
                  have hfz59_0 := blk_frozen BK223.out 0
                  go_wp2_with (first | ((with_reducible refine gate_dst (N := 9) rfl ?_); (try (refine gate_guard (by rfl) ?_; dsimp only)); refine box_event ?hg (N := 9) ?hd (cs := #[.int .i64 0]) (t := 3) ?hr ?_; (case hd => rfl); (case hg => rfl); (case hr => first | (go_simp; done) | (go_simp; rfl)); intro gb225 hg w60 hbox hb; have n0_ := Aside0.mk (Kd.S_below (by (with_reducible repeat (first | apply Kd.S_alloc | apply Kd.S_drewN | apply Kd.S_drew)); exact HO_224000.out) hb); have n1_ := Aside0.mk (blk_below (g := gb216) (o := .cells #[.string a0_0, .slice A0_1 l0_1.length c0_1] 24 (0, 0)) (by (with_reducible repeat (first | refine blk_drewN ?_ _ | refine blk_drew ?_ | refine blk_alloc ?_ _)); exact BK216.out) hb); have n2_ := Aside0.mk (blk_below (g := gb223) (o := .cells #[.slice Ao37 t220.length co37] 22 (0, 0)) (by (with_reducible repeat (first | refine blk_drewN ?_ _ | refine blk_drew ?_ | refine blk_alloc ?_ _)); exact BK223.out) hb); have n3_ := Aside0.mk (below_step (by repeat (first | (with_reducible first | exact HB.out | apply below_alloc | apply pw_below_drewN | apply below_drew1 | refine below_set ?_ GE216.out | refine below_set ?_ GE223.out) | exact HB.out)) hb); have n4_ := Aside0.mk (hbox); have n5_ := Aside0.mk ((by rw [hg]; exact (below_size (by repeat (first | (with_reducible first | exact HB.out | apply below_alloc | apply pw_below_drewN | apply below_drew1 | refine below_set ?_ GE216.out | refine below_set ?_ GE223.out) | exact HB.out))) : w.heap.size ≤ gb225)); have n6_ := Aside0.mk ((by rw [hg]; exact (below_size (by repeat (first | (with_reducible first | exact HB.out | apply below_alloc | apply pw_below_drewN | apply below_drew1 | refine below_set ?_ GE216.out | refine below_set ?_ GE223.out) | exact HB.out))) : w.heap.size ≤ gb225)); have n7_ := Aside0.mk ((by rw [hg]; exact Nat.ne_of_lt (blk_lt (g := gb216) (o := .cells #[.string a0_0, .slice A0_1 l0_1.length c0_1] 24 (0, 0)) (by (with_reducible repeat (first | refine blk_drewN ?_ _ | refine blk_drew ?_ | refine blk_alloc ?_ _)); exact BK216.out)) : gb216 ≠ gb225)); have n8_ := Aside0.mk ((by rw [hg]; exact Nat.ne_of_gt (blk_lt (g := gb216) (o := .cells #[.string a0_0, .slice A0_1 l0_1.length c0_1] 24 (0, 0)) (by (with_reducible repeat (first | refine blk_drewN ?_ _ | refine blk_drew ?_ | refine blk_alloc ?_ _)); exact BK216.out)) : gb225 ≠ gb216)); have n9_ := Aside0.mk ((by rw [hg]; exact Nat.ne_of_lt (blk_lt (g := gb223) (o := .cells #[.slice Ao37 t220.length co37] 22 (0, 0)) (by (with_reducible repeat (first | refine blk_drewN ?_ _ | refine blk_drew ?_ | refine blk_alloc ?_ _)); exact BK223.out)) : gb223 ≠ gb225)); have n10_ := Aside0.mk ((by rw [hg]; exact Nat.ne_of_gt (blk_lt (g := gb223) (o := .cells #[.slice Ao37 t220.length co37] 22 (0, 0)) (by (with_reducible repeat (first | refine blk_drewN ?_ _ | refine blk_drew ?_ | refine blk_alloc ?_ _)); exact BK223.out)) : gb225 ≠ gb223)); clear HO_224000; clear BK216; clear BK223; clear HB; have HO_224000 := n0_; have BK216 := n1_; have BK223 := n2_; have HB := n3_; have BK225 := n4_; have GW225 := n5_; have GE225 := n6_; have NB216_225 := n7_; have NB225_216 := n8_; have NB223_225 := n9_; have NB225_223 := n10_; clear n0_ n1_ n2_ n3_ n4_ n5_ n6_ n7_ n8_ n9_ n10_; clear hb hbox hg; have hnb61 := NB225_216.out; have hnc61 := NB216_225.out; have hnb62 := NB225_223.out; have hnc62 := NB223_225.out; have hcz63_0 : w60.cell? ⟨gb225, 0, none⟩ = some (.int .i64 0) := (blk_cell BK225.out 0).trans rfl; have hfz63_0 := blk_frozen BK225.out 0) | ((with_reducible refine gate_dst (N := 10) rfl ?_); (try (refine gate_guard (by rfl) ?_; dsimp only)); refine box_event ?hg (N := 10) ?hd (cs := #[.bool false]) (t := 4) ?hr ?_; (case hd => rfl); (case hg => rfl); (case hr => first | (go_simp; done) | (go_simp; rfl)); intro gb226 hg w64 hbox hb; have n0_ := Aside0.mk (Kd.S_below (by (with_reducible repeat (first | apply Kd.S_alloc | apply Kd.S_drewN | apply Kd.S_drew)); exact (Kd.S_mono (Kd.S_far (p := ⟨gb225, 0, none⟩) (Kd.S_types HO_224000.out BK225.out (by decide)) (fun _ hk => hk.2) (.int .i64 0)) (fun _ h_ => h_.1))) hb); have n1_ := Aside0.mk (blk_below (g := gb216) (o := .cells #[.string a0_0, .slice A0_1 l0_1.length c0_1] 24 (0, 0)) (by (with_reducible repeat (first | refine blk_drewN ?_ _ | refine blk_drew ?_ | refine blk_alloc ?_ _)); refine blk_far ?_ NB216_225.out _; (with_reducible repeat (first | refine blk_drewN ?_ _ | refine blk_drew ?_ | refine blk_alloc ?_ _)); exact BK216.out) hb); have n2_ := Aside0.mk (blk_below (g := gb223) (o := .cells #[.slice Ao37 t220.length co37] 22 (0, 0)) (by (with_reducible repeat (first | refine blk_drewN ?_ _ | refine blk_drew ?_ | refine blk_alloc ?_ _)); refine blk_far ?_ NB223_225.out _; (with_reducible repeat (first | refine blk_drewN ?_ _ | refine blk_drew ?_ | refine blk_alloc ?_ _)); exact BK223.out) hb); have n3_ := Aside0.mk (blk_below (g := gb225) (o := .cells #[.int .i64 0] 3 (0, 0)) (by (with_reducible repeat (first | refine blk_drewN ?_ _ | refine blk_drew ?_ | refine blk_alloc ?_ _)); refine blk_put (cs := #[.int .i64 0]) ?_ 0 _ rfl; (with_reducible repeat (first | refine blk_drewN ?_ _ | refine blk_drew ?_ | refine blk_alloc ?_ _)); exact BK225.out) hb); have n4_ := Aside0.mk (below_step (by repeat (first | (with_reducible first | exact HB.out | apply below_alloc | apply pw_below_drewN | apply below_drew1 | refine below_set ?_ GE216.out | refine below_set ?_ GE223.out | refine below_set ?_ GE225.out) | exact HB.out)) hb); have n5_ := Aside0.mk (hbox); have n6_ := Aside0.mk ((by rw [hg]; exact (below_size (by repeat (first | (with_reducible first | exact HB.out | apply below_alloc | apply pw_below_drewN | apply below_drew1 | refine below_set ?_ GE216.out | refine below_set ?_ GE223.out | refine below_set ?_ GE225.out) | exact HB.out))) : w.heap.size ≤ gb226)); have n7_ := Aside0.mk ((by rw [hg]; exact (below_size (by repeat (first | (with_reducible first | exact HB.out | apply below_alloc | apply pw_below_drewN | apply below_drew1 | refine below_set ?_ GE216.out | refine below_set ?_ GE223.out | refine below_set ?_ GE225.out) | exact HB.out))) : w.heap.size ≤ gb226)); have n8_ := Aside0.mk ((by rw [hg]; exact Nat.ne_of_lt (blk_lt (g := gb216) (o := .cells #[.string a0_0, .slice A0_1 l0_1.length c0_1] 24 (0, 0)) (by (with_reducible repeat (first | refine blk_drewN ?_ _ | refine blk_drew ?_ | refine blk_alloc ?_ _)); refine blk_far ?_ NB216_225.out _; (with_reducible repeat (first | refine blk_drewN ?_ _ | refine blk_drew ?_ | refine blk_alloc ?_ _)); exact BK216.out)) : gb216 ≠ gb226)); have n9_ := Aside0.mk ((by rw [hg]; exact Nat.ne_of_gt (blk_lt (g := gb216) (o := .cells #[.string a0_0, .slice A0_1 l0_1.length c0_1] 24 (0, 0)) (by (with_reducible repeat (first | refine blk_drewN ?_ _ | refine blk_drew ?_ | refine blk_alloc ?_ _)); refine blk_far ?_ NB216_225.out _; (with_reducible repeat (first | refine blk_drewN ?_ _ | refine blk_drew ?_ | refine blk_alloc ?_ _)); exact BK216.out)) : gb226 ≠ gb216)); have n10_ := Aside0.mk ((by rw [hg]; exact Nat.ne_of_lt (blk_lt (g := gb223) (o := .cells #[.slice Ao37 t220.length co37] 22 (0, 0)) (by (with_reducible repeat (first | refine blk_drewN ?_ _ | refine blk_drew ?_ | refine blk_alloc ?_ _)); refine blk_far ?_ NB223_225.out _; (with_reducible repeat (first | refine blk_drewN ?_ _ | refine blk_drew ?_ | refine blk_alloc ?_ _)); exact BK223.out)) : gb223 ≠ gb226)); have n11_ := Aside0.mk ((by rw [hg]; exact Nat.ne_of_gt (blk_lt (g := gb223) (o := .cells #[.slice Ao37 t220.length co37] 22 (0, 0)) (by (with_reducible repeat (first | refine blk_drewN ?_ _ | refine blk_drew ?_ | refine blk_alloc ?_ _)); refine blk_far ?_ NB223_225.out _; (with_reducible repeat (first | refine blk_drewN ?_ _ | refine blk_drew ?_ | refine blk_alloc ?_ _)); exact BK223.out)) : gb226 ≠ gb223)); have n12_ := Aside0.mk ((by rw [hg]; exact Nat.ne_of_lt (blk_lt (g := gb225) (o := .cells #[.int .i64 0] 3 (0, 0)) (by (with_reducible repeat (first | refine blk_drewN ?_ _ | refine blk_drew ?_ | refine blk_alloc ?_ _)); refine blk_put (cs := #[.int .i64 0]) ?_ 0 _ rfl; (with_reducible repeat (first | refine blk_drewN ?_ _ | refine blk_drew ?_ | refine blk_alloc ?_ _)); exact BK225.out)) : gb225 ≠ gb226)); have n13_ := Aside0.mk ((by rw [hg]; exact Nat.ne_of_gt (blk_lt (g := gb225) (o := .cells #[.int .i64 0] 3 (0, 0)) (by (with_reducible repeat (first | refine blk_drewN ?_ _ | refine blk_drew ?_ | refine blk_alloc ?_ _)); refine blk_put (cs := #[.int .i64 0]) ?_ 0 _ rfl; (with_reducible repeat (first | refine blk_drewN ?_ _ | refine blk_drew ?_ | refine blk_alloc ?_ _)); exact BK225.out)) : gb226 ≠ gb225)); clear HO_224000; clear BK216; clear BK223; clear BK225; clear HB; have HO_224000 := n0_; have BK216 := n1_; have BK223 := n2_; have BK225 := n3_; have HB := n4_; have BK226 := n5_; have GW226 := n6_; have GE226 := n7_; have NB216_226 := n8_; have NB226_216 := n9_; have NB223_226 := n10_; have NB226_223 := n11_; have NB225_226 := n12_; have NB226_225 := n13_; clear n0_ n1_ n2_ n3_ n4_ n5_ n6_ n7_ n8_ n9_ n10_ n11_ n12_ n13_; clear hb hbox hg; have hnb65 := NB226_216.out; have hnc65 := NB216_226.out; have hnb66 := NB226_223.out; have hnc66 := NB223_226.out; have hnb67 := NB226_225.out; have hnc67 := NB225_226.out; have hcz68_0 : w64.cell? ⟨gb226, 0, none⟩ = some (.bool false) := (blk_cell BK226.out 0).trans rfl; have hfz68_0 := blk_frozen BK226.out 0; have hczX_0 : w64.cell? ⟨gb216, 0, none⟩ = some (.string a0_0) := (blk_cell BK216.out 0).trans rfl; have hczX_1 : w64.cell? ⟨gb216, 1, none⟩ = some (.slice A0_1 l0_1.length c0_1) := (blk_cell BK216.out 1).trans rfl))
                  have hba : gb223 < w64.heap.size := blk_lt BK223.out
                  have hbn : gb225 < w64.heap.size := blk_lt BK225.out
                  have hbg : gb226 < w64.heap.size := blk_lt BK226.out
                  have BG := Aside0.mk (blk_put BK226.out 0 (.bool true) rfl : (w64.setCell ⟨gb226, 0, none⟩ (.bool true)).heap[gb226]? = some (.cells #[.bool true] 4 (0, 0)))
                  have BN := Aside0.mk (blk_far BK225.out (p := ⟨gb226, 0, none⟩) NB225_226.out (.bool true))
                  have BA := Aside0.mk (blk_far BK223.out (p := ⟨gb226, 0, none⟩) NB223_226.out (.bool true))
                  have HOR := Aside0.mk (Kd.S_set HO_224000.out BK226.out (by decide) 0 (.bool true))
                  have HB2 := Aside0.mk (below_set (j := 0) (v := .bool true) HB.out GE226.out)
                  generalize hw65 : w64.setCell ⟨gb226, 0, none⟩ (.bool true) = w65 at BG BN BA HOR HB2 ⊢
                  have hs65 : w65.heap.size = w64.heap.size := by rw [← hw65]; simp [World.setCell]
                  clear hw65
                  unfold rgEnd at HG
                  obtain ⟨ws, hws, HG⟩ := Option.bind_eq_some_iff.mp HG.out
                  by_cases h2 : ws.length < 1000
                  rotate_left
                  · rw [if_neg h2] at HG; exact absurd HG (by simp)
                  rw [if_pos h2] at HG
                  by_cases h3 : ws.all (fun x => decide (0 < x.length)) = true
                  rotate_left
                  · rw [if_neg h3] at HG; exact absurd HG (by simp)
                  rw [if_pos h3] at HG
                  obtain ⟨gend, hgend, HG⟩ := Option.bind_eq_some_iff.mp HG
                  obtain rfl := Option.some.inj HG
                  have HWS := Aside0.mk hws
                  have H2 := Aside0.mk h2
                  have H3 := Aside0.mk h3
                  have HGE := Aside0.mk hgend
                  clear HG hws h2 h3 hgend
                  refine (variants_Seq.calls k2 a0_0 A0_1 c0_1 l0_1 A1 c1 l1 ws _ (Kd.C_below HR0_1.out HB2.out) HC0_1.out (Kd.C_below HR1.out HB2.out) HC1.out HWS.out).mono ?_
                  rintro e w66 ⟨g, vw, rfl, hbw, hgw, hRw, hb⟩
                  have HBW := Aside0.mk hbw
                  have HRW := Aside0.mk hRw
                  have hgw6 := blk_lt hbw
                  have hs66 := hb.size
                  have BG6 := Aside0.mk (blk_below BG.out hb)
                  have BN6 := Aside0.mk (blk_below BN.out hb)
                  have BA6 := Aside0.mk (blk_below BA.out hb)
                  have HO6 := Aside0.mk (Kd.S_mono (Kd.S_bound (Kd.S_below HOR.out hb)) (fun b hb => (hb.2.2.1 : b < w66.heap.size)))
                  have HB6 := Aside0.mk (below_step HB2.out hb)
                  have hl6 := HB6.out.size
                  clear hb hbw hRw BG BN BA HOR HB2 HB BK216 BK223 BK225 BK226 HO_224000
                  go_wp2
                  have hpos : ∀ j, j < ws.length → 0 < VarPlain.wl ws j := fun j hj => by
                    have := List.all_eq_true.1 H3.out (ws[j]) (List.getElem_mem hj)
                    unfold VarPlain.wl
                    rw [List.getD_eq_getElem?_getD, List.getElem?_eq_getElem hj]
                    simpa using this
                  have hL : t220.length ≤ 9223372036854775807 := (Kd.S_reads' HO6.out).2.2.2.1
                  have hga := GE223.out
                  have hgn := GE225.out
                  have hgg := GE226.out
                  refine wp_range_rows_at (n := 1) (gf := 20) (lb := #[.pointer (some ⟨g, 0, none⟩)]) rfl (fun args w => enters_ Try.func20 (by kernel_rfl) rfl args w) (b0 := w65.heap.size) (N := VarPlain.prod ws) (rowf := VarPlain.row ws) 62 11 hs66 rfl
                    (fun W1 hb1 hs1 => variants_Seq1.iter w66.heap.size w65.heap.size g vw ws W1 hs1 hgw hgw6 (blk_below HBW.out hb1) (Kd.R_mono (Kd.R_below (Kd.R_bound HRW.out) hb1) (fun k hk => ⟨hk.2.2.1, hk.1⟩)) hpos H2.out)
                    (fun k W => RgInv k2 w w66.heap.size gb223 gb225 gb226 (.slice Ao37 t220.length co37) ws t220 k W ∧ k ≤ t220.length)
                    (fun c k W => c = .exit 2 ∧ t220.length ≤ VarPlain.prod ws ∧ RgInv k2 w w66.heap.size gb223 gb225 gb226 (.slice Ao37 t220.length co37) ws t220 t220.length W)
                    (fun k W W' row hi hg hr => ⟨hi.1.grown (by omega) (by omega) (by omega) hl6 hg hr, hi.2⟩)
                    (fun c k W W' row hi hg hr => ⟨hi.1, hi.2.1, hi.2.2.grown (by omega) (by omega) (by omega) hl6 hg hr⟩)
                    ⟨⟨BN6.out, ⟨true, rfl, BG6.out⟩, BA6.out, HO6.out, HB6.out⟩, Nat.zero_le _⟩
                    ?assign ?body ?done ?stop
                  case assign =>
                    intro l v W K hK
                    (try simp only [Act.put, List.setIfInBounds_toArray, List.set_cons_zero, List.set_cons_succ] at hK)
                    gi_wp2
                    exact hK
                  case body =>
                    rintro k v Wl W hkN ⟨hI, hka⟩ hKO hS3 hrow
                    (try simp only [Act.put, List.setIfInBounds_toArray, List.set_cons_zero, List.set_cons_succ])
                    obtain ⟨Ar, cr, rfl⟩ := Kd.R_slice hrow
                    have hI2 := hI.kept (by omega) (by omega) (by omega) hl6 hKO
                    clear hI
                    have HI := Aside0.mk hI2
                    obtain ⟨hn, ⟨gd, hg1, hg2⟩, hbx, hS, hbel⟩ := hI2
                    have hcn : W.cell? ⟨gb225, 0, none⟩ = some (.int .i64 (k : Int)) := (blk_cell hn 0).trans rfl
                    have hcg : W.cell? ⟨gb226, 0, none⟩ = some (.bool gd) := (blk_cell hg2 0).trans rfl
                    have hca : W.cell? ⟨gb223, 0, none⟩ = some (.slice Ao37 t220.length co37) := (blk_cell hbx 0).trans rfl
                    have hfn := blk_frozen hn 0
                    have hfg := blk_frozen hg2 0
                    have hne : gb226 ≠ gb225 := NB226_225.out
                    have hne2 : gb225 ≠ gb226 := NB225_226.out
                    have HG1 := Aside0.mk hg1
                    have HS := Aside0.mk hS
                    have HROW := Aside0.mk hrow
                    clear hg1 hS hbel hn hg2 hbx hrow
                    by_cases hend : (t220.length : Int) ≤ (k : Int)
                    · have hend1 : decide ((t220.length : Int) ≤ (k : Int)) = true := decide_eq_true hend
                      have hkk : k = t220.length := Nat.le_antisymm hka (Int.ofNat_le.mp hend)
                      gi_wp2
                      subst hkk
                      exact ⟨KpB.refl _ _ _, rfl, Nat.le_of_lt hkN, HI.out⟩
                    · have hend1 : decide ((t220.length : Int) ≤ (k : Int)) = false := decide_eq_false hend
                      have hk1 : (k : Int) < (t220.length : Int) := Int.not_le.mp hend
                      have hw1 : wrap64 ((k : Int) + 1) = ((k + 1 : Nat) : Int) := by unfold wrap64; omega
                      obtain ⟨g1, hg1⟩ := goodTo_le HGE.out (m := k + 1) (Nat.le_min.mpr ⟨hkN, Int.ofNat_lt.mp hk1⟩)
                      cases gd with
                      | false =>
                        have hg2 : g1 = false := by
                          unfold goodTo at hg1
                          rw [HG1.out] at hg1
                          simpa using hg1.symm
                        subst hg2
                        have hST := Aside0.mk (HI.out.step (b0 := w65.heap.size) (g1 := false) hg1 (by omega) (by omega) (by omega) hgn hgg 0)
                        clear hg1
                        gi_wp2
                        refine ⟨trivial, ?_⟩
                        gi_wp2
                        rw [hw1]
                        exact ⟨hST.out.1, hST.out.2, Nat.succ_le_of_lt (Int.ofNat_lt.mp hk1)⟩
                      | true =>
                        have hsm : eponymlaw01_Same.f k2 (VarPlain.row ws k) (rd_L1 t220 (k : Int)) = some g1 := by
                          unfold goodTo at hg1
                          rw [HG1.out] at hg1
                          simpa using hg1
                        have HSM := Aside0.mk hsm
                        have HG2 := Aside0.mk hg1
                        clear hsm hg1
                        have p227 : 0 ≤ (k : Int) := Int.natCast_nonneg k
                        obtain ⟨ad, Aq, cq, e227, hx, hl, hi⟩ := at_L1 (Kd.S_reads' HS.out).2.2 (k : Int) p227 hk1
                        cases e227
                        have hx2 : W.cell? (ad.add k) = some (.slice Aq (rd_L1 t220 (k : Int)).length cq) := hx
                        have HL := Aside0.mk hl
                        have HI2 := Aside0.mk hi
                        clear hl hi
                        have p1 := eq_true p227
                        have q1 := eq_true hk1
                        gi_wp2
                        refine ⟨trivial, CallsIn.inRound _ ((callsIn_wide (n := 0)).2 ?_)⟩
                        refine (eponymlaw01_Same.calls _ _ _ _ _ _ _ g1 _ (Kd.R_reads' HROW.out).2.2 (Kd.R_reads' HROW.out).2.1 HI2.out HL.out HSM.out).mono ?_
                        rintro e w' ⟨rfl, ⟨nd, rfl⟩⟩
                        have hST := Aside0.mk (HI.out.step (b0 := w65.heap.size) (g1 := g1) HG2.out (by omega) (by omega) (by omega) hgn hgg nd)
                        have hcn2 : (W.drewN nd).cell? ⟨gb225, 0, none⟩ = some (.int .i64 (k : Int)) := hcn
                        have hcg2 : (W.drewN nd).cell? ⟨gb226, 0, none⟩ = some (.bool true) := hcg
                        have hfn2 : (W.drewN nd).frozen? ⟨gb225, 0, none⟩ = false := hfn
                        have hfg2 : (W.drewN nd).frozen? ⟨gb226, 0, none⟩ = false := hfg
                        gi_wp2
                        rw [hw1]
                        exact ⟨hST.out.1, hST.out.2, Nat.succ_le_of_lt (Int.ofNat_lt.mp hk1)⟩
                  case done =>
                    rintro W ⟨hI, hka⟩ hD
                    obtain ⟨hn, ⟨gd, hg1, hg2⟩, hbx, hS, hbel⟩ := hI
                    have hcn : W.cell? ⟨gb225, 0, none⟩ = some (.int .i64 (VarPlain.prod ws : Int)) := (blk_cell hn 0).trans rfl
                    have hcg : W.cell? ⟨gb226, 0, none⟩ = some (.bool gd) := (blk_cell hg2 0).trans rfl
                    have hca : W.cell? ⟨gb223, 0, none⟩ = some (.slice Ao37 t220.length co37) := (blk_cell hbx 0).trans rfl
                    have egd : gd = gend := by
                      have := HGE.out
                      rw [Nat.min_eq_left hka, hg1] at this
                      exact Option.some.inj this
                    have HBE := Aside0.mk (hbel.trans ((Below.refl _ W).grown (grownBy_putObj' W w66.heap.size (.deferred none)) hbel.size (fun r e => by cases e; omega)))
                    clear hbel hS hn hg2 hbx hg1
                    subst egd
                    have hbq : ((VarPlain.prod ws : Int) == (t220.length : Int)) = decide (t220.length ≤ VarPlain.prod ws) := by
                      by_cases e : t220.length ≤ VarPlain.prod ws
                      · rw [decide_eq_true e]; exact beq_iff_eq.mpr (by omega)
                      · rw [decide_eq_false e]; exact beq_eq_false_iff_ne.mpr (by omega)
                    cases gd with
                    | false =>
                      go_wp2
                      (try simp only [Exit.inBlock, Exit.then])
                      exact bodyPostN_mark hD rfl (results_tmp rfl _ _) ⟨rfl, HBE.out⟩
                    | true =>
                      go_wp2
                      (try simp only [Exit.inBlock, Exit.then])
                      refine bodyPostN_mark hD rfl (results_tmp rfl _ _) ⟨?_, HBE.out⟩
                      first | rfl | (rw [hbq]; rfl)
                  case stop =>
                    rintro c k W ⟨rfl, hlp, hI⟩ hD
                    obtain ⟨hn, ⟨gd, hg1, hg2⟩, hbx, hS, hbel⟩ := hI
                    have hcn : W.cell? ⟨gb225, 0, none⟩ = some (.int .i64 (t220.length : Int)) := (blk_cell hn 0).trans rfl
                    have hcg : W.cell? ⟨gb226, 0, none⟩ = some (.bool gd) := (blk_cell hg2 0).trans rfl
                    have hca : W.cell? ⟨gb223, 0, none⟩ = some (.slice Ao37 t220.length co37) := (blk_cell hbx 0).trans rfl
                    have egd : gd = gend := by
                      have := HGE.out
                      rw [Nat.min_eq_right hlp, hg1] at this
                      exact Option.some.inj this
                    have HBE := Aside0.mk (hbel.trans ((Below.refl _ W).grown (grownBy_putObj' W w66.heap.size (.deferred none)) hbel.size (fun r e => by cases e; omega)))
                    clear hbel hS hn hg2 hbx hg1
                    subst egd
                    have hbq : ((t220.length : Int) == (t220.length : Int)) = true := beq_self_eq_true _
                    have hbd : decide (t220.length ≤ VarPlain.prod ws) = true := decide_eq_true hlp
                    refine (wpIn_wide (n := 1)).2 ?_
                    cases gd with
                    | false =>
                      go_wp2
                      (try simp only [Exit.inBlock, Exit.then])
                      exact bodyPostN_mark hD rfl (results_tmp rfl _ _) ⟨rfl, HBE.out⟩
                    | true =>
                      go_wp2
                      (try simp only [Exit.inBlock, Exit.then])
                      refine bodyPostN_mark hD rfl (results_tmp rfl _ _) ⟨?_, HBE.out⟩
                      rw [hbd]
                      rfl
          · rw [if_neg c33] at H
            have c33b0 : ((t220.length : Int) == (ji32)) = false := beq_eq_false_iff_ne.mpr c33
            have c33b1 : ((t220.length : Int) != (ji32)) = true := bne_iff_ne.mpr c33
            obtain rfl := Option.some.inj H
            have hcz69_0 : wc.cell? ⟨gb216, 0, none⟩ = some (.string a0_0) := (blk_cell BK216.out 0).trans rfl
            have hcz69_1 : wc.cell? ⟨gb216, 1, none⟩ = some (.slice A0_1 l0_1.length c0_1) := (blk_cell BK216.out 1).trans rfl
            have hfz69_0 := blk_frozen BK216.out 0
            have hfz69_1 := blk_frozen BK216.out 1
            try go_wp2_with (first | ((with_reducible refine gate_callee (f := 8) rfl ?_); refine goesL_ (some 33) rfl rfl Try.func8 (by kernel_rfl) rfl #[.agg #[.string a0_0, .slice A0_1 l0_1.length c0_1], .slice A1 l1.length c1, .int .i64 a2] rfl (by (try simp only [List.map_toArray, List.map_cons, List.map_nil]); first | done | rfl | (simp only [List.length_drop, List.length_take]; rfl)) ?_; (with_reducible refine (variants_All.calls kj5 a0_0 _ _ l0_1 _ _ l1 a2 t220 _ ?side1 ?side2 ?side3 ?side4 A29.out).mono ?_); (case side1 => repeat (first | exact (Kd.C_below HR0_1.out HB.out) | (with_reducible refine Kd.C_alloc ?_ _) | (with_reducible refine Kd.C_drewN ?_ _) | (with_reducible refine Kd.C_drew ?_))); (case side2 => exact HC0_1.out); (case side3 => repeat (first | exact (Kd.C_below HR1.out HB.out) | (with_reducible refine Kd.C_alloc ?_ _) | (with_reducible refine Kd.C_drewN ?_ _) | (with_reducible refine Kd.C_drew ?_))); (case side4 => exact HC1.out); rintro e w70 ⟨v221, rfl, ho0, hb⟩; refine ⟨_, rfl, ?_⟩; have n0_ := Aside0.mk (Kd.S_lower ho0 (below_size (by repeat (first | (with_reducible first | exact HB.out | apply below_alloc | apply pw_below_drewN | apply below_drew1 | refine below_set ?_ GE216.out) | exact HB.out)))); have n1_ := Aside0.mk (blk_below (g := gb216) (o := .cells #[.string a0_0, .slice A0_1 l0_1.length c0_1] 24 (0, 0)) (by (with_reducible repeat (first | refine blk_drewN ?_ _ | refine blk_drew ?_ | refine blk_alloc ?_ _)); exact BK216.out) hb); have n2_ := Aside0.mk (below_step (by repeat (first | (with_reducible first | exact HB.out | apply below_alloc | apply pw_below_drewN | apply below_drew1 | refine below_set ?_ GE216.out) | exact HB.out)) hb); clear BK216; clear HB; have HO222 := n0_; have BK216 := n1_; have HB := n2_; clear n0_ n1_ n2_; (try clear hb); (try clear hb2); (try clear hk); (try clear hi); (try clear ho0)) | ((with_reducible refine gate_dst (N := 7) rfl ?_); (try (refine gate_guard (by rfl) ?_; dsimp only)); refine box_event ?hg (N := 7) ?hd (cs := #[.slice none 0 0]) (t := 22) ?hr ?_; (case hd => rfl); (case hg => rfl); (case hr => first | (go_simp; done) | (go_simp; rfl)); intro gb223 hg w71 hbox hb; have n0_ := Aside0.mk (Kd.S_below (by (with_reducible repeat (first | apply Kd.S_alloc | apply Kd.S_drewN | apply Kd.S_drew)); exact HO222.out) hb); have n1_ := Aside0.mk (blk_below (g := gb216) (o := .cells #[.string a0_0, .slice A0_1 l0_1.length c0_1] 24 (0, 0)) (by (with_reducible repeat (first | refine blk_drewN ?_ _ | refine blk_drew ?_ | refine blk_alloc ?_ _)); exact BK216.out) hb); have n2_ := Aside0.mk (below_step (by repeat (first | (with_reducible first | exact HB.out | apply below_alloc | apply pw_below_drewN | apply below_drew1 | refine below_set ?_ GE216.out) | exact HB.out)) hb); have n3_ := Aside0.mk (hbox); have n4_ := Aside0.mk ((by rw [hg]; exact (below_size (by repeat (first | (with_reducible first | exact HB.out | apply below_alloc | apply pw_below_drewN | apply below_drew1 | refine below_set ?_ GE216.out) | exact HB.out))) : w.heap.size ≤ gb223)); have n5_ := Aside0.mk ((by rw [hg]; exact (below_size (by repeat (first | (with_reducible first | exact HB.out | apply below_alloc | apply pw_below_drewN | apply below_drew1 | refine below_set ?_ GE216.out) | exact HB.out))) : w.heap.size ≤ gb223)); have n6_ := Aside0.mk ((by rw [hg]; exact Nat.ne_of_lt (blk_lt (g := gb216) (o := .cells #[.string a0_0, .slice A0_1 l0_1.length c0_1] 24 (0, 0)) (by (with_reducible repeat (first | refine blk_drewN ?_ _ | refine blk_drew ?_ | refine blk_alloc ?_ _)); exact BK216.out)) : gb216 ≠ gb223)); have n7_ := Aside0.mk ((by rw [hg]; exact Nat.ne_of_gt (blk_lt (g := gb216) (o := .cells #[.string a0_0, .slice A0_1 l0_1.length c0_1] 24 (0, 0)) (by (with_reducible repeat (first | refine blk_drewN ?_ _ | refine blk_drew ?_ | refine blk_alloc ?_ _)); exact BK216.out)) : gb223 ≠ gb216)); clear HO222; clear BK216; clear HB; have HO222 := n0_; have BK216 := n1_; have HB := n2_; have BK223 := n3_; have GW223 := n4_; have GE223 := n5_; have NB216_223 := n6_; have NB223_216 := n7_; clear n0_ n1_ n2_ n3_ n4_ n5_ n6_ n7_; clear hb hbox hg; obtain ⟨Ao72, co72, eo72⟩ := Kd.S_slice HO222.out; subst eo72; have hnb73 := NB223_216.out; have hnc73 := NB216_223.out; have hcz74_0 : w71.cell? ⟨gb223, 0, none⟩ = some (.slice none 0 0) := (blk_cell BK223.out 0).trans rfl; have hfz74_0 := blk_frozen BK223.out 0))
            have n0_ : Aside0 (Kd.S (Kd.slice 21 (Kd.int .i32)) 25 (w71.setCell ⟨gb223, 0, none⟩ (.slice Ao72 t220.length co72)) w.heap.size (fun _ => True) (.slice Ao72 t220.length co72) t220) := ⟨by (with_reducible repeat (first | apply Kd.S_alloc | apply Kd.S_drewN | apply Kd.S_drew)); exact Kd.S_mono (Kd.S_far (p := ⟨gb223, 0, none⟩) (Kd.S_types HO222.out BK223.out (by decide)) (fun _ hk => hk.2) (.slice Ao72 t220.length co72)) (fun _ hk => trivial)⟩
            have n1_ : Aside0 ((w71.setCell ⟨gb223, 0, none⟩ (.slice Ao72 t220.length co72)).heap[gb216]? = some (.cells #[.string a0_0, .slice A0_1 l0_1.length c0_1] 24 (0, 0))) := ⟨by (with_reducible repeat (first | refine blk_drewN ?_ _ | refine blk_drew ?_ | refine blk_alloc ?_ _)); refine blk_far ?_ NB216_223.out _; (with_reducible repeat (first | refine blk_drewN ?_ _ | refine blk_drew ?_ | refine blk_alloc ?_ _)); exact BK216.out⟩
            have n2_ : Aside0 ((w71.setCell ⟨gb223, 0, none⟩ (.slice Ao72 t220.length co72)).heap[gb223]? = some (.cells #[.slice Ao72 t220.length co72] 22 (0, 0))) := ⟨by (with_reducible repeat (first | refine blk_drewN ?_ _ | refine blk_drew ?_ | refine blk_alloc ?_ _)); refine blk_put (cs := #[.slice none 0 0]) ?_ 0 _ rfl; (with_reducible repeat (first | refine blk_drewN ?_ _ | refine blk_drew ?_ | refine blk_alloc ?_ _)); exact BK223.out⟩
            have n3_ : Aside0 (Below w.heap.size w (w71.setCell ⟨gb223, 0, none⟩ (.slice Ao72 t220.length co72))) := ⟨by repeat (first | (with_reducible first | exact HB.out | apply below_alloc | apply pw_below_drewN | apply below_drew1 | refine below_set ?_ GE216.out | refine below_set ?_ GE223.out) | exact HB.out)⟩
            (try clear HO222)
            (try clear BK216)
            (try clear BK223)
            (try clear HB)
            generalize (w71.setCell ⟨gb223, 0, none⟩ (.slice Ao72 t220.length co72)) = w75 at n0_ n1_ n2_ n3_ ⊢
            have HO222 := n0_
            have BK216 := n1_
            have BK223 := n2_
            have HB := n3_
            clear n0_ n1_ n2_ n3_
            have n0_ := Aside0.mk (Kd.S_drew HO222.out)
            have n1_ := Aside0.mk (blk_drew BK216.out)
            have n2_ := Aside0.mk (blk_drew BK223.out)
            have n3_ := Aside0.mk (below_drew1 HB.out)
            clear HO222
            clear BK216
            clear BK223
            clear HB
            have HO222 := n0_
            have BK216 := n1_
            have BK223 := n2_
            have HB := n3_
            clear n0_ n1_ n2_ n3_
            refine start_ (n := 9) (S := fun w' => w'.cell? ⟨gb223, 0, none⟩ = some (.slice Ao72 t220.length co72) ∧ w'.cell? ⟨gb216, 0, none⟩ = some (.string a0_0) ∧ w'.cell? ⟨gb216, 1, none⟩ = some (.slice A0_1 l0_1.length c0_1)) (ds := []) #[false, false, false, false, false, false, false, false, false] (by kernel_rfl) rfl rfl ⟨(blk_cell BK223.out 0).trans rfl, (blk_cell BK216.out 0).trans rfl, (blk_cell BK216.out 1).trans rfl⟩ (fun hHeld => ?_); refine with_tabW eponymlaw19_VariantsAll.tab6 eponymlaw19_VariantsAll.bits6 (fun HT_ HW_ => ?_)
            generalize w75.drew = w76 at HO222 BK216 BK223 HB hHeld ⊢
            refine pure_ (i := 2) (N := some 36) (v := ?_) (a' := ?_) #[false, false, true, false, false, false, false, false, false] rfl rfl (any_of HT_.out (by kernel_rfl)) (fun _ _ _ h => h) (Or.inl ⟨by rfl, ?_⟩) ?_ ?_
            rotate_left
            · intro w'
              go_simp
              with_reducible rfl
            rotate_left
            · simp only [Act.put, List.setIfInBounds_toArray, List.set_cons_zero, List.set_cons_succ, i64_w, i32_w]
              rfl
            refine pure_ (i := 3) (N := some 37) (v := ?_) (a' := ?_) #[false, false, true, true, false, false, false, false, false] rfl rfl (any_of HT_.out (by kernel_rfl)) (fun _ _ _ h => h) (Or.inl ⟨by rfl, ?_⟩) ?_ ?_
            rotate_left
            · intro w'
              go_simp
              with_reducible rfl
            rotate_left
            · simp only [Act.put, List.setIfInBounds_toArray, List.set_cons_zero, List.set_cons_succ, i64_w, i32_w]
              rfl
            refine pure_ (i := 5) (N := some 39) (v := ?_) (a' := ?_) #[false, false, true, true, false, true, false, false, false] rfl rfl (any_of HT_.out (by kernel_rfl)) (fun _ _ _ h => h) (Or.inl ⟨by rfl, ?_⟩) ?_ ?_
            rotate_left
            · intro w'
              go_simp
              with_reducible rfl
            rotate_left
            · simp only [Act.put, List.setIfInBounds_toArray, List.set_cons_zero, List.set_cons_succ, i64_w, i32_w]
              rfl
            refine take_ (i := 0) (N := some 34) (v := ?_) (a' := ?_) #[true, false, true, true, false, true, false, false, false] rfl rfl (take_ofW HT_.out HW_.out (by kernel_rfl)) (fun _ _ _ h => h) (Or.inl ⟨by rfl, ?_⟩) hHeld ?_ ?_
            rotate_left
            · rintro w' ⟨s0, s1, s2⟩
              go_simp
              with_reducible rfl
            rotate_left
            · simp only [Act.put, List.setIfInBounds_toArray, List.set_cons_zero, List.set_cons_succ, i64_w, i32_w]
              rfl
            refine pure_ (i := 1) (N := some 35) (v := ?_) (a' := ?_) #[true, true, true, true, false, true, false, false, false] rfl rfl (any_of HT_.out (by kernel_rfl)) (fun _ _ _ h => h) (Or.inl ⟨by rfl, ?_⟩) ?_ ?_
            rotate_left
            · intro w'
              go_simp
              with_reducible rfl
            rotate_left
            · simp only [Act.put, List.setIfInBounds_toArray, List.set_cons_zero, List.set_cons_succ, i64_w, i32_w]
              rfl
            refine take_ (i := 4) (N := some 38) (v := ?_) (a' := ?_) #[true, true, true, true, true, true, false, false, false] rfl rfl (take_ofW HT_.out HW_.out (by kernel_rfl)) (fun _ _ _ h => h) (Or.inl ⟨by rfl, ?_⟩) hHeld ?_ ?_
            rotate_left
            · rintro w' ⟨s0, s1, s2⟩
              go_simp
              with_reducible rfl
            rotate_left
            · simp only [Act.put, List.setIfInBounds_toArray, List.set_cons_zero, List.set_cons_succ, i64_w, i32_w]
              rfl
            refine one_ (i := 6) (N := some 40) #[true, true, true, true, true, true, true, false, false] rfl rfl (one_of HT_.out (by kernel_rfl)) (by decide) (fun K hK => ?_)
            refine goes_ Try.func9 (by kernel_rfl) rfl #[.agg #[.string a0_0, .slice A0_1 l0_1.length c0_1], .slice A1 l1.length c1] (by rfl) rfl rfl (by (try simp only [List.map_toArray, List.map_cons, List.map_nil]); first | done | rfl | (simp only [List.length_drop, List.length_take]; rfl)) ?_
            with_reducible refine (eponymref19_Count.calls kj5 a0_0 _ _ l0_1 _ _ l1 t224 _ ?side1 ?side2 ?side3 ?side4 A31.out).mono ?_
            (case side1 => repeat (first | exact (Kd.C_below HR0_1.out HB.out) | (with_reducible refine Kd.C_alloc ?_ _) | (with_reducible refine Kd.C_drewN ?_ _) | (with_reducible refine Kd.C_drew ?_)))
            (case side2 => exact HC0_1.out)
            (case side3 => repeat (first | exact (Kd.C_below HR1.out HB.out) | (with_reducible refine Kd.C_alloc ?_ _) | (with_reducible refine Kd.C_drewN ?_ _) | (with_reducible refine Kd.C_drew ?_)))
            (case side4 => exact HC1.out)
            rintro e w77 ⟨rfl, hb⟩
            refine ⟨_, rfl, ?_⟩
            have n0_ := Aside0.mk (Kd.S_below (by (with_reducible repeat (first | apply Kd.S_alloc | apply Kd.S_drewN | apply Kd.S_drew)); exact HO222.out) hb)
            have n1_ := Aside0.mk (blk_below (g := gb216) (o := .cells #[.string a0_0, .slice A0_1 l0_1.length c0_1] 24 (0, 0)) (by (with_reducible repeat (first | refine blk_drewN ?_ _ | refine blk_drew ?_ | refine blk_alloc ?_ _)); exact BK216.out) hb)
            have n2_ := Aside0.mk (blk_below (g := gb223) (o := .cells #[.slice Ao72 t220.length co72] 22 (0, 0)) (by (with_reducible repeat (first | refine blk_drewN ?_ _ | refine blk_drew ?_ | refine blk_alloc ?_ _)); exact BK223.out) hb)
            have n3_ := Aside0.mk (below_step (by repeat (first | (with_reducible first | exact HB.out | apply below_alloc | apply pw_below_drewN | apply below_drew1 | refine below_set ?_ GE216.out | refine below_set ?_ GE223.out) | exact HB.out)) hb)
            clear HO222
            clear BK216
            clear BK223
            clear HB
            have HO222 := n0_
            have BK216 := n1_
            have BK223 := n2_
            have HB := n3_
            clear n0_ n1_ n2_ n3_
            (try clear hb)
            (try clear hb2)
            (try clear hk)
            (try clear hi)
            refine hK.out _ _ ⟨(blk_cell BK223.out 0).trans rfl, (blk_cell BK216.out 0).trans rfl, (blk_cell BK216.out 1).trans rfl⟩ (fun hHeld => ?_)
            clear hK K
            refine norm_ (a' := ?_) ?_ ?_
            rotate_left
            · show Act.put _ (some 40) _ = _
              simp only [Act.put, List.setIfInBounds_toArray, List.set_cons_zero, List.set_cons_succ, i64_w, i32_w]
              rfl
            refine pure_ (i := 7) (N := some 41) (v := ?_) (a' := ?_) #[true, true, true, true, true, true, true, true, false] rfl rfl (any_of HT_.out (by kernel_rfl)) (fun _ _ _ h => h) (Or.inl ⟨by rfl, ?_⟩) ?_ ?_
            rotate_left
            · intro w'
              go_simp
              with_reducible rfl
            rotate_left
            · simp only [Act.put, List.setIfInBounds_toArray, List.set_cons_zero, List.set_cons_succ, i64_w, i32_w]
              rfl
            refine pure_ (i := 8) (N := some 42) (v := ?_) (a' := ?_) #[true, true, true, true, true, true, true, true, true] rfl rfl (any_of HT_.out (by kernel_rfl)) (fun _ _ _ h => h) (Or.inl ⟨by rfl, ?_⟩) ?_ ?_
            rotate_left
            · intro w'
              go_simp
              with_reducible rfl
            rotate_left
            · simp only [Act.put, List.setIfInBounds_toArray, List.set_cons_zero, List.set_cons_succ, i64_w, i32_w]
              rfl
            refine done_ (done_of HT_.out (by kernel_rfl)) ?_
            try go_wp2
            ((try simp only [Exit.inBlock, Exit.then]); refine bodyPostN_ret (results_tmp rfl _ _ _) rfl ?_)
            exact ⟨by first | rfl | (simp [errW_none, errW_some] <;> rfl) | (simp only [← hji30, ← hji32]; first | rfl | (simp [errW_none, errW_some] <;> rfl)) | (simp [*, errW_none, errW_some] <;> rfl), by repeat (first | (with_reducible first | exact HB.out | apply below_alloc | apply pw_below_drewN | apply below_drew1 | refine below_set ?_ GE216.out | refine below_set ?_ GE223.out) | exact HB.out)⟩
  · replace c5 := Bool.eq_false_iff.mpr c5
    subst c5
    have H1 : (some false) = some r := by rw [if_neg (show ¬ (false = true) by decide)] at H; exact H
    clear H
    have H := H1
    clear H1
    obtain rfl := Option.some.inj H
    refine calls_of_marks (n := 1) Try.func3 rfl ?_
    simp only [Try.ntmps3, List.size_toArray, List.length_cons, List.length_nil, Nat.reduceAdd, Nat.reduceSub, Array.replicate_succ, Array.replicate_zero, List.push_toArray, List.append_toArray, List.nil_append, List.cons_append]
    let bp_ : Exit → Act → World → Prop := bodyPost Try.prog Try.f3 (fun _ _ => True)
    go_wp2_with (first | ((with_reducible refine gate_dst (N := 3) rfl ?_); (try (refine gate_guard (by rfl) ?_; dsimp only)); refine box_event ?hg (N := 3) ?hd (cs := #[.string a0_0, .slice A0_1 l0_1.length c0_1]) (t := 24) ?hr ?_; (case hd => rfl); (case hg => rfl); (case hr => first | (go_simp; done) | (go_simp; rfl)); intro gb216 hg w78 hbox hb; have n0_ := Aside0.mk (below_step (by repeat (first | (with_reducible first | exact HB.out | apply below_alloc | apply pw_below_drewN | apply below_drew1) | exact HB.out)) hb); have n1_ := Aside0.mk (hbox); have n2_ := Aside0.mk ((by rw [hg]; exact (below_size (by repeat (first | (with_reducible first | exact HB.out | apply below_alloc | apply pw_below_drewN | apply below_drew1) | exact HB.out))) : w.heap.size ≤ gb216)); have n3_ := Aside0.mk ((by rw [hg]; exact (below_size (by repeat (first | (with_reducible first | exact HB.out | apply below_alloc | apply pw_below_drewN | apply below_drew1) | exact HB.out))) : w.heap.size ≤ gb216)); clear HB; have HB := n0_; have BK216 := n1_; have GW216 := n2_; have GE216 := n3_; clear n0_ n1_ n2_ n3_; clear hb hbox hg) | ((with_reducible refine gate_callee (f := 5) rfl ?_); refine goesL_ (some 12) rfl rfl Try.func5 (by kernel_rfl) rfl #[] rfl (by (try simp only [List.map_toArray, List.map_cons, List.map_nil]); first | done | rfl | (simp only [List.length_drop, List.length_take]; rfl)) ?_; (with_reducible refine (eponymlaw19_awake.calls k  false _ A4.out).mono ?_); rintro e w79 ⟨rfl, hb⟩; refine ⟨_, rfl, ?_⟩; have n0_ := Aside0.mk (blk_below (g := gb216) (o := .cells #[.string a0_0, .slice A0_1 l0_1.length c0_1] 24 (0, 0)) (by (with_reducible repeat (first | refine blk_drewN ?_ _ | refine blk_drew ?_ | refine blk_alloc ?_ _)); exact BK216.out) hb); have n1_ := Aside0.mk (below_step (by repeat (first | (with_reducible first | exact HB.out | apply below_alloc | apply pw_below_drewN | apply below_drew1 | refine below_set ?_ GE216.out) | exact HB.out)) hb); clear BK216; clear HB; have BK216 := n0_; have HB := n1_; clear n0_ n1_; (try clear hb); (try clear hb2); (try clear hk); (try clear hi)))
    ((try simp only [Exit.inBlock, Exit.then]); refine bodyPostN_ret (results_tmp rfl _ _ _) rfl ?_)
    exact ⟨by first | rfl | (simp [errW_none, errW_some] <;> rfl) | (simp [*, errW_none, errW_some] <;> rfl), by repeat (first | (with_reducible first | exact HB.out | apply below_alloc | apply pw_below_drewN | apply below_drew1 | refine below_set ?_ GE216.out) | exact HB.out)⟩



end Go.Proofs.Ytohnahbjmcelfaa.V
