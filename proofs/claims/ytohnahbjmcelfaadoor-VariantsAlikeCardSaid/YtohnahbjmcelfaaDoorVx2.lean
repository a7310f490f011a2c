-- Printed by this session's own turn of the print (wip/mkprint.py), with parts that were proved by hand.
-- HALVED
import Derived.Test.YtohnahbjmcelfaaDoorVx0
import Derived.Test.YtohnahbjmcelfaaDoorVx1
namespace Go.Proofs.YtohnahbjmcelfaaDoor.V
open Go.RowKit Go.Proofs.YtohnahbjmcelfaaDoorW.PrintWords Go.Proofs.YtohnahbjmcelfaaDoorW.PrintLast Go.Proofs.YtohnahbjmcelfaaDoorW.PrintMore Go.Proofs.YtohnahbjmcelfaaDoor.Er
attribute [local go_sem] max2_int min2_int max_two min_two max_three min_three max_four min_four   -- for this text's walks alone
set_option linter.unusedVariables false
set_option linter.unusedSimpArgs false

/-! ### variants_All: function 8 -/
section
/-- a store of a row into a row of rows. -/
theorem variants_All.putrow {W : World} {base g n cap : Nat} {ok okp : Nat → Prop} {xs : List (List Int)} {u : Value} {x' : List Int} (HO : Kd.R (Kd.slice 21 (Kd.int .i32)) 25 W base ok (.slice (some ⟨g, 0, none⟩) n cap) xs) (i : Int) (h0 : 0 ≤ i) (h1 : i < n)
  (hM : Kd.R (Kd.int .i32) 21 W base okp u x') (hokp : ∀ k, okp k → ok k ∧ k ≠ g) :
  Kd.R (Kd.slice 21 (Kd.int .i32)) 25 (W.setCell ⟨g, i.toNat, none⟩ u) base ok (.slice (some ⟨g, 0, none⟩) n cap) (xs.set i.toNat x') ∧ W.grownBy (W.setCell ⟨g, i.toNat, none⟩ u) (some g) := by
 obtain ⟨c, hcl, hcM, hcc, _⟩ := Kd.R_elem HO ([] : List Int) i h0 h1
 have hc1 : c.length = 1 := hcl
 obtain ⟨A, cc, rfl⟩ := Kd.R_slice hM
 have := Kd.R_seg HO i h0 h1 (c := c) (seg := [.slice A x'.length cc]) (j := 0) hcl hcc (by simp; exact Nat.le_refl 1) (x' := x') (okp := okp) (by
  refine ⟨_, ?_, hM⟩
  rw [List.take_zero, List.drop_of_length_le (by simp; omega)]
  rfl) hokp
 rw [show i.toNat * (Kd.slice 21 (Kd.int .i32)).sz + 0 = i.toNat from Nat.mul_one _] at this
 exact this
theorem variants_All.cellrow {W : World} {base g n cap : Nat} {ok : Nat → Prop} {xs : List (List Int)} (HO : Kd.R (Kd.slice 21 (Kd.int .i32)) 25 W base ok (.slice (some ⟨g, 0, none⟩) n cap) xs) (i : Int) (h0 : 0 ≤ i) (h1 : i < n) :
  ∃ A cc, W.cell? ⟨g, i.toNat, none⟩ = some (.slice A (xs.getD i.toNat []).length cc) ∧ W.frozen? ⟨g, i.toNat, none⟩ = false ∧ Kd.R (Kd.int .i32) 21 W base (fun k => ok k ∧ k ≠ g) (.slice A (xs.getD i.toNat []).length cc) (xs.getD i.toNat []) := by
 obtain ⟨c, hcl, hcM, hcc, hff⟩ := Kd.R_elem HO ([] : List Int) i h0 h1
 obtain ⟨v, rfl, hR⟩ := hcM
 obtain ⟨A, cc, rfl⟩ := Kd.R_slice hR
 have h2 := hcc 0 _ rfl
 have h3 := hff 0
 rw [show i.toNat * (Kd.slice 21 (Kd.int .i32)).sz + 0 = i.toNat from Nat.mul_one _] at h2 h3
 exact ⟨A, cc, h2, h3, hR⟩
/-- the wheels, one by one. -/
def variants_Seq.l0 : Nat → List (List Int) → Int → Int → ByteArray → List (List Int) → List Int → Option (List (List Int))
 | 0, _, _, _, _, _, _ => none
 | k + 1, xs, n, i, a0_0, l0_1, l1 => if i < n then (if 0 ≤ i then (if i < (xs.length : Int) then ((variants_Set.f k a0_0 l0_1 (rd l1 i)).bind fun t => (if (t.length : Int) = 0 then variants_Seq.l0 k (xs.set i.toNat [rd l1 i]) n (wrap64 (i + 1)) a0_0 l0_1 l1 else variants_Seq.l0 k (xs.set i.toNat t) n (wrap64 (i + 1)) a0_0 l0_1 l1)) else none) else none) else some xs
def variants_Seq.f (k : Nat) (a0_0 : ByteArray) (l0_1 : List (List Int)) (l1 : List Int) : Option (List (List Int)) := if l1.length < 1000 then variants_Seq.l0 k (List.replicate l1.length []) (l1.length : Int) 0 a0_0 l0_1 l1 else none
theorem variants_Seq.mono_l : ∀ k, (∀ y0 y1 y2 y3 y4 y5, LeO (variants_Seq.l0 k y0 y1 y2 y3 y4 y5) (variants_Seq.l0 (k + 1) y0 y1 y2 y3 y4 y5))
 | 0 => fun _ _ _ _ _ _ r h => by simp [variants_Seq.l0] at h
 | k + 1 => by
  have ih0 := variants_Seq.mono_l k
  intro y0 y1 y2 y3 y4 y5
  unfold variants_Seq.l0
  repeat' first
   | (with_reducible exact ih0 _ _ _ _ _ _)
   | (with_reducible exact variants_Set.mono _ _ _ _)
   | (with_reducible exact LeO.refl _)
   | (with_reducible exact LeO.none _)
   | (with_reducible refine LeO.ite ?_ ?_)
   | (with_reducible refine LeO.bind ?_ (fun _ => ?_))
theorem variants_Seq.mono : ∀ a0 a1 a2 k, LeO (variants_Seq.f k a0 a1 a2) (variants_Seq.f (k + 1) a0 a1 a2) := by
 intro a0 a1 a2 k
 have ih0 := variants_Seq.mono_l k
 unfold variants_Seq.f
 repeat' first
   | (with_reducible exact ih0 _ _ _ _ _ _)
   | (with_reducible exact LeO.refl _)
   | (with_reducible exact LeO.none _)
   | (with_reducible refine LeO.ite ?_ ?_)
/-- the function value that Seq hands back. -/
def variants_Seq.Post (w : World) (ws : List (List Int)) (e : Ending) (w' : World) : Prop := ∃ (g : Nat) (v : Value), e = .returned (.func (.func 30) #[] #[.pointer (some ⟨g, 0, none⟩)]) ∧ w'.heap[g]? = some (.cells #[v] 22 (0, 0)) ∧ w.heap.size ≤ g ∧ Kd.R (Kd.slice 21 (Kd.int .i32)) 25 w' w.heap.size (fun k => k ≠ g) v ws ∧ Below w.heap.size w w'
set_option maxHeartbeats 8000000 in
set_option maxRecDepth 100000 in
theorem variants_Seq.calls (k : Nat) (a0_0 : ByteArray) (A0_1 : Option Addr) (c0_1 : Nat) (l0_1 : List (List Int)) (A1 : Option Addr) (c1 : Nat) (l1 : List Int) (r : List (List Int)) (w : World) (hr0_1 : Kd.C (Kd.slice 21 (Kd.int .i32)) w A0_1 l0_1.length l0_1) (hc0_1 : l0_1.length ≤ c0_1) (hr1 : Kd.C (Kd.int .i32) w A1 l1.length l1) (hc1 : l1.length ≤ c1) (h : variants_Seq.f k a0_0 l0_1 l1 = some r) :
  Calls Tryd.prog 18 #[.agg #[.string a0_0, .slice A0_1 l0_1.length c0_1], .slice A1 l1.length c1] w (variants_Seq.Post w r) := by
 unfold variants_Seq.f at h
 by_cases hl : l1.length < 1000
 rotate_left
 ·rw [if_neg hl] at h; exact absurd h (by simp)
 rw [if_pos hl] at h
 have hu24 := Tryd.underlying24
 have HR0_1 := Aside0.mk hr0_1
 have HC0_1 := Aside0.mk hc0_1
 clear hr0_1 hc0_1
 have HR1 := Aside0.mk hr1
 have HC1 := Aside0.mk hc1
 clear hr1 hc1
 have HB := Aside0.mk (Below.refl w.heap.size w)
 have H' := Aside0.mk h
 have LM := Aside0.mk hl
 clear h hl
 go_enter Tryd.func18, Tryd.ntmps18
 go_wp2_with (first | ((with_reducible refine gate_dst (N := 2) rfl ?_); refine box_event ?hg (N := 2) ?hd (cs := #[.string a0_0, .slice A0_1 l0_1.length c0_1]) (t := 24) ?hr ?_; (case hd => rfl); (case hg => rfl); (case hr => first | (go_simp; done) | (go_simp; rfl)); intro gb hg w3 hbox hb; have n0_ := Aside0.mk (below_step (by repeat (first | (with_reducible first | exact HB.out | apply below_alloc | apply pw_below_drewN | apply below_drew1) | exact HB.out)) hb); have BK := Aside0.mk (hbox); have GW := Aside0.mk ((by rw [hg]; exact (below_size HB.out) : w.heap.size ≤ gb)); clear HB; have HB := n0_; clear n0_; clear hb hbox hg) | ((with_reducible refine gate_dst (N := 10) rfl ?_); refine Kd.R_make (Kd.slice 21 (Kd.int .i32)) (w0 := w) w.heap.size 25 rfl (N := 10) rfl 22 (.tmp 9) (.tmp 9) rfl (l1.length : Int) rfl rfl Tryd.underlying22 (.slice none 0 0) 24 info25 rfl (by decide) (by decide) ([] : List Int) (ok := fun k => k ≠ gb) (okp := fun k => k ≠ gb) ?mz (fun _ hk => hk) ?mf (by omega) ?ml ?mB ?mS ?_; (case mz => exact ⟨_, rfl, Kd.R_nil _ _ _ _ _⟩); (case mf => have := blk_lt BK.out; intro e_; omega); (case ml => have := LM.out; omega); (case mB => exact HB.out); (case mS => exact (below_size HB.out)); intro v1 w4 ho hb hg_ hat; have n0_ := Aside0.mk ho; have n1_ := Aside0.mk (blk_grown BK.out hg_ (by simp)); clear HB BK; have HB := Aside0.mk hb; have HO := n0_; have BK := n1_; clear n0_ n1_ ho hb hg_ hat; obtain ⟨Ao, co, eo⟩ := Kd.R_slice HO.out; subst eo; have n2_ := Aside0.mk (show Kd.R (Kd.slice 21 (Kd.int .i32)) 25 w4 w.heap.size (fun k => k ≠ gb) (.slice Ao l1.length co) (List.replicate l1.length ([] : List Int)) from by simpa using HO.out); clear HO; have HO := n2_; clear n2_) | ((with_reducible refine gate_dst (N := 5) rfl ?_); refine box_event ?hg (N := 5) ?hd (cs := #[.slice none 0 0]) (t := 22) ?hr ?_; (case hd => rfl); (case hg => rfl); (case hr => first | (go_simp; done) | (go_simp; rfl)); intro gw hg w5 hbox hb; have n0_ := Aside0.mk (below_step HB.out hb); have BW := Aside0.mk (hbox); have GV := Aside0.mk ((by rw [hg]; exact (below_size HB.out) : w.heap.size ≤ gw)); have n1_ := Aside0.mk (blk_below BK.out hb); have n2_ := Aside0.mk (Kd.R_below (Kd.R_elderB HO.out gw (Nat.le_of_eq hg.symm)) hb); have NE := Aside0.mk (show gb ≠ gw from by have := blk_lt BK.out; omega); clear HB BK HO; have HB := n0_; have BK := n1_; have HO := n2_; clear n0_ n1_ n2_; clear hb hbox hg) | ((with_reducible refine gate_store (t := 22) (p := 5) rfl ?_); refine store_event (t := 22) (p := 5) (v := ?vo) (w1 := (w5.setCell ⟨gw, 0, none⟩ (.slice Ao l1.length co))) ?hg ?ho ?hn ?hr ?_; (case ho => rfl); (case hg => rfl); (case hn => rfl); (case hr => have hq1 := (blk_cell BW.out 0).trans rfl; have hq2 := blk_frozen BW.out 0; first | (go_simp; done) | (go_simp; rfl)); intro w6 hw; have n0_ := Aside0.mk (show w6.heap[gw]? = some (.cells #[.slice Ao l1.length co] 22 (0, 0)) from by rw [hw]; exact blk_put BW.out 0 _ rfl); have n1_ := Aside0.mk (show w6.heap[gb]? = some (.cells #[.string a0_0, .slice A0_1 l0_1.length c0_1] 24 (0, 0)) from by rw [hw]; exact blk_far BK.out NE.out _); have n2_ := Aside0.mk (show Kd.R (Kd.slice 21 (Kd.int .i32)) 25 w6 w.heap.size (fun k => k ≠ gb ∧ k ≠ gw) (.slice Ao l1.length co) (List.replicate l1.length ([] : List Int)) from by rw [hw]; exact Kd.R_far (p := ⟨gw, 0, none⟩) HO.out (fun k hk => hk.2) _); have n3_ := Aside0.mk (show Below w.heap.size w w6 from by rw [hw]; exact below_set HB.out GV.out); clear BW BK HO HB; have BW := n0_; have BK := n1_; have HO := n2_; have HB := n3_; clear n0_ n1_ n2_ n3_ hw))
 go_loopg [13] k (fun kq v13 w' => ∃ (xs : List (List Int)) (x13 : Int), v13 = .int .i64 x13 ∧ Aside0 (variants_Seq.l0 kq xs (l1.length : Int) x13 a0_0 l0_1 l1 = some r) ∧ Aside0 (kq ≤ k) ∧ Aside0 (xs.length = l1.length) ∧ Aside0 (Kd.R (Kd.slice 21 (Kd.int .i32)) 25 w' w.heap.size (fun k => k ≠ gb ∧ k ≠ gw) (.slice Ao l1.length co) xs) ∧ Aside0 (w'.heap[gw]? = some (.cells #[.slice Ao l1.length co] 22 (0, 0))) ∧ Aside0 (w'.heap[gb]? = some (.cells #[.string a0_0, .slice A0_1 l0_1.length c0_1] 24 (0, 0))) ∧ Aside0 (Below w.heap.size w w'))
 case atStart => exact ⟨_, 0, rfl, H', ⟨Nat.le_refl _⟩, ⟨by simp⟩, HO, BW, BK, HB⟩
 case round =>
  clear H' HO BK HB BW
  obtain ⟨xs, x13, rfl, HA, HK1, HXL, HO, BW, BK, HB⟩ := hrel
  cases gk with
  | zero => exact absurd HA.out (by simp [variants_Seq.l0])
  | succ k1 =>
   have H := HA.out
   clear HA
   simp only [variants_Seq.l0] at H
   by_cases c4 : x13 < (l1.length : Int)
   ·rw [if_pos c4] at H
    have c4b0 : decide (x13 < (l1.length : Int)) = true := decide_eq_true c4
    by_cases c5 : 0 ≤ x13
    ·rw [if_pos c5] at H
     by_cases c6 : x13 < (xs.length : Int)
     ·rw [if_pos c6] at H
      replace H := Option.bind_eq_some_iff.mp H
      obtain ⟨t, A70, H⟩ := H
      have A7 := Aside0.mk A70
      clear A70
      obtain ⟨go, cg, eg, gb1, gl1, cl1, HG1⟩ := Kd.R_form HO.out (by omega)
      injection eg with ea_ en_ ec_
      subst ea_
      clear en_ ec_ cl1 HG1
      have GB := Aside0.mk gb1
      have GL := Aside0.mk gl1
      clear gb1 gl1
      obtain ⟨adl, el, hxl⟩ := Kd.at_int HR1.out x13 c5 c4
      cases el
      have hxl' := (HB.out.cell (World.block_lt_of_cell? w _ hxl)).trans hxl
      clear hxl
      have hcz0 : wr.cell? ⟨gb, 0, none⟩ = some (.string a0_0) := (blk_cell BK.out 0).trans rfl
      have hcz1 : wr.cell? ⟨gb, 1, none⟩ = some (.slice A0_1 l0_1.length c0_1) := (blk_cell BK.out 1).trans rfl
      have hcw : wr.cell? ⟨gw, 0, none⟩ = some (.slice (some ⟨go, 0, none⟩) l1.length co) := (blk_cell BW.out 0).trans rfl
      go_wp2
      go_region_with (first | (go_at_call 29; refine (variants_Set.calls k1 a0_0 A0_1 c0_1 l0_1 (rd l1 x13) t _ ?s1 HC0_1.out A7.out).mono ?_; (case s1 => exact Kd.C_below HR0_1.out (below_drew1 HB.out)); rintro e w11 ⟨v248, rfl, ho0, hb⟩; obtain ⟨A2, c2, eo2⟩ := Kd.R_slice ho0; subst eo2; have HT := Aside0.mk ho0; have HBB := Aside0.mk hb; have HO2 := Aside0.mk (Kd.R_below (Kd.R_drew HO.out) hb); have hcw2 := (blk_cell (blk_below (blk_drew BW.out) hb) 0).trans rfl; obtain ⟨A3, c3, hx3, hf3, hR3⟩ := variants_All.cellrow HO2.out x13 c5 c4; clear hR3 ho0 hb))
      all_goals
       have HP := Aside0.mk (variants_All.putrow (okp := fun k => wr.heap.size ≤ k) HO2.out x13 c5 c4 (Kd.R_lower (Kd.R_mono (Kd.R_bound HT.out) (fun k hk => hk.2.1)) (below_size (below_drew1 HB.out))) (fun k hk => ⟨⟨(by have := blk_lt BK.out; intro e_; subst e_; exact absurd hk (by omega)), (by have := blk_lt BW.out; intro e_; subst e_; exact absurd hk (by omega))⟩, (by have := GL.out; intro e_; subst e_; exact absurd hk (by omega))⟩))
       have hc3 : (w11.setCell ⟨go, x13.toNat, none⟩ (.slice A2 t.length c2)).cell? ⟨go, x13.toNat, none⟩ = some (.slice A2 t.length c2) := World.cell?_setCell_same' _ _ _ (by rw [hx3]; rfl)
       have hf33 : (w11.setCell ⟨go, x13.toNat, none⟩ (.slice A2 t.length c2)).frozen? ⟨go, x13.toNat, none⟩ = false := by rw [World.frozen?_setCell]; exact hf3
       have BW2 := Aside0.mk (blk_grown (blk_below (blk_drew BW.out) HBB.out) HP.out.2 (Kd.R_ne HO2.out (blk_below (blk_drew BW.out) HBB.out) (by decide)))
       have BK2 := Aside0.mk (blk_grown (blk_below (blk_drew BK.out) HBB.out) HP.out.2 (Kd.R_ne HO2.out (blk_below (blk_drew BK.out) HBB.out) (by decide)))
       have HB2 := Aside0.mk (below_set (below_step (below_drew1 HB.out) HBB.out) GB.out : Below w.heap.size w (w11.setCell ⟨go, x13.toNat, none⟩ (.slice A2 t.length c2)))
       clear HT HO2 HBB hx3 hf3 hcw2 hcz0 hcz1 hcw hxl' BW BK HO HB
       generalize w11.setCell ⟨go, x13.toNat, none⟩ (.slice A2 t.length c2) = W3 at HP hc3 hf33 BW2 BK2 HB2 ⊢
       have HO3 := Aside0.mk HP.out.1
       clear HP
       have hcw3 : W3.cell? ⟨gw, 0, none⟩ = some (.slice (some ⟨go, 0, none⟩) l1.length co) := (blk_cell BW2.out 0).trans rfl
       by_cases c7 : (t.length : Int) = 0
       ·rw [if_pos c7] at H
        have H' := Aside0.mk H
        clear H
        have c7b0 : ((t.length : Int) == 0) = true := beq_iff_eq.mpr c7
        clear c7
        go_wp2_with (first | ((with_reducible refine gate_dst (N := 33) rfl ?_); refine Kd.R_lit (Kd.int .i32) _ 21 ?hg (N := 33) ?hd (xs := ([rd l1 x13] : List Int)) (inner := [.int .i32 (rd l1 x13)]) (ok := fun _ => True) (okp := fun _ => True) ?hr ?hp (fun _ hk => hk) trivial (Below.refl _ _) (Nat.le_refl _) (by simp) ?_; (case hd => rfl); (case hg => rfl); (case hr => first | (go_simp; done) | (go_simp; rfl)); (case hp => exact (Reps.one (show Kd.M (Kd.int .i32) _ _ _ (rd l1 x13) [.int .i32 (rd l1 x13)] from rfl) (Reps.none _ _))); intro v9 w9 ho9 hb9 hg9_ hnew_; clear hg9_ hnew_; obtain ⟨A9, c9, eo9⟩ := Kd.R_slice ho9; subst eo9; have HT := Aside0.mk ho9; have HO2 := Aside0.mk (Kd.R_below HO3.out hb9); have n0_ := Aside0.mk (blk_below BW2.out hb9); have n1_ := Aside0.mk (blk_below BK2.out hb9); have n2_ := Aside0.mk (below_step HB2.out hb9); have hcw4 := (blk_cell n0_.out 0).trans rfl; obtain ⟨A5, c5_, hx5, hf5, hR5⟩ := variants_All.cellrow HO2.out x13 c5 c4; clear hR5 ho9 hb9))
        have HP2 := Aside0.mk (variants_All.putrow (okp := fun k => W3.heap.size ≤ k) HO2.out x13 c5 c4 (Kd.R_lower (Kd.R_mono (Kd.R_bound HT.out) (fun k hk => hk.2.1)) (below_size HB2.out)) (fun k hk => ⟨⟨(by have := blk_lt BK2.out; intro e_; subst e_; exact absurd hk (by omega)), (by have := blk_lt BW2.out; intro e_; subst e_; exact absurd hk (by omega))⟩, (by have := World.block_lt_of_cell? _ _ hc3; intro e_; subst e_; exact absurd hk (by simpa using this))⟩))
        go_roundg k1
        case measure => have := HK1.out; omega
        case rel => exact ⟨xs.set x13.toNat [rd l1 x13], wrap64 (x13 + 1), (by first | rfl | (simp; done) | (simp [*]; done)), H', ⟨by have := HK1.out; omega⟩, ⟨by rw [List.length_set]; exact HXL.out⟩, ⟨by have z := HP2.out.1; rw [List.set_set] at z; exact z⟩, ⟨blk_grown n0_.out HP2.out.2 (Kd.R_ne HO2.out n0_.out (by decide))⟩, ⟨blk_grown n1_.out HP2.out.2 (Kd.R_ne HO2.out n1_.out (by decide))⟩, ⟨below_set n2_.out GB.out⟩⟩
       ·rw [if_neg c7] at H
        have H' := Aside0.mk H
        clear H
        have c7b0 : ((t.length : Int) == 0) = false := beq_eq_false_iff_ne.mpr c7
        have c7b2 : ¬ (t = []) := fun h_ => c7 (by rw [h_]; rfl)
        clear c7
        go_wp2
        go_roundg k1
        case measure => have := HK1.out; omega
        case rel => exact ⟨xs.set x13.toNat t, wrap64 (x13 + 1), (by first | rfl | (simp; done) | (simp [*]; done)), H', ⟨by have := HK1.out; omega⟩, ⟨by rw [List.length_set]; exact HXL.out⟩, HO3, BW2, BK2, HB2⟩
     ·rw [if_neg c6] at H
      exact absurd H (by simp)
    ·rw [if_neg c5] at H
     exact absurd H (by simp)
   ·rw [if_neg c4] at H
    have c4b0 : decide (x13 < (l1.length : Int)) = false := decide_eq_false c4
    obtain rfl := Option.some.inj H
    go_wp2
    go_ret
    exact ⟨gw, _, rfl, BW.out, GV.out, Kd.R_mono HO.out (fun k hk => hk.2), HB.out⟩
/-! ### A range over a function whose rounds are handed new rows, one by one -/
/-- what a round keeps of what the iterator leans on. -/
def KpR (b0 S0 : Nat) (W W' : World) : Prop := W.heap.size ≤ W'.heap.size ∧ ∀ b, b0 ≤ b → b ≤ S0 + 2 → b ≠ S0 → b ≠ S0 + 1 → W'.heap[b]? = W.heap[b]?
/-- what a round's body keeps. -/
def KpB (b0 S0 : Nat) (W W' : World) : Prop := W.heap.size ≤ W'.heap.size ∧ ∀ b, b0 ≤ b → b ≤ S0 + 2 → W'.heap[b]? = W.heap[b]?
theorem KpR.trans {b0 S0 : Nat} {A B C : World} (h : KpR b0 S0 A B) (k : KpR b0 S0 B C) : KpR b0 S0 A C := ⟨Nat.le_trans h.1 k.1, fun b h1 h2 h3 h4 => (k.2 b h1 h2 h3 h4).trans (h.2 b h1 h2 h3 h4)⟩
theorem KpR.put (b0 S0 : Nat) (W : World) (o : Obj) : KpR b0 S0 W (W.putObj (S0 + 1) o) := ⟨by simp, fun b _ _ _ h4 => World.putObj_heap_other (fun e => h4 e)⟩
theorem KpB.toR {b0 S0 : Nat} {A B : World} (h : KpB b0 S0 A B) : KpR b0 S0 A B := ⟨h.1, fun b h1 h2 _ _ => h.2 b h1 h2⟩

/-- what lies between two rounds' ends. -/
structure KeepO (S0 : Nat) (W W' : World) : Prop where
 os : W'.os = W.os
 tape : W'.tape = W.tape
 output : W'.output = W.output
 size : W.heap.size ≤ W'.heap.size
 block : ∀ b, b < W.heap.size → (b < S0 ∨ S0 + 2 < b) → W'.heap[b]? = W.heap[b]?

/-- the contract of an iterator that yields N rows, each new. -/
def RowsIter (P : Program) (gf : Nat) (lb : Array Value) (S0 b0 N : Nat) (rowf : Nat → List Int) (W1 : World) : Prop :=
 ∀ (n : Nat) (J Jx : Nat → World → Prop), (∀ k W W', J k W → W.grownBy W' (some (S0 + 2)) → J k W') → (∀ k W W', Jx k W → W.grownBy W' (some (S0 + 2)) → Jx k W') →
  (∀ k v Wl W, k < N → J k Wl → Wl.grownBy W (some (S0 + 2)) → S0 + 3 ≤ Wl.heap.size → Kd.R (Kd.int .i32) 21 W Wl.heap.size (fun _ => True) v (rowf k) → YieldAt Fence.wide n P (S0 + 1) #[v] W fun e W' => (e = .returned (.bool true) ∧ J (k + 1) W' ∧ KpR b0 S0 W W') ∨ (e = .returned (.bool false) ∧ Jx (k + 1) W')) →
  J 0 W1 →
  CallsIn Fence.wide n P gf (#[.func (.yield (S0 + 1)) #[] #[]] ++ lb) W1 fun e W' => (∃ v, e = .returned v) ∧ (J N W' ∨ ∃ k, Jx k W')

/-- how a round's body may be left. -/
def postB (b0 S0 : Nat) (I : Nat → World → Prop) (Ix : Code → Nat → World → Prop) (k : Nat) (W : World) : Exit → Act → World → Prop
 | .normal, _, W' => KpB b0 S0 W W' ∧ I k W'
 | .ret, _, W' => KpB b0 S0 W W' ∧ Ix .ret k W'
 | .exit id, _, W' => KpB b0 S0 W W' ∧ Ix (.exit id) k W'
 | .goto t, _, W' => KpB b0 S0 W W' ∧ Ix (.goto t) k W'
 | .panic _, _, _ => False
 | .outgrown, _, _ => False

theorem wp_range_rows {P : Program} {g : Operand} {ps : Array Tmp} {assign body : Code} {Q : Exit → Act → World → Prop} {a : Act} {w : World} (n : Nat)
  {gf : Nat} {lb : Array Value} (hg : a.eval g = .func (.func gf) #[] lb) (eg : ∀ args w, (callFunc gf args).run P w = .ok (.enter gf args) w)
  {b0 N : Nat} {rowf : Nat → List Int} (hb0 : b0 ≤ w.heap.size) (hps : ps.size = 1)
  (hiter : ∀ W1, Below w.heap.size w W1 → W1.heap.size = w.heap.size + 2 → RowsIter P gf lb w.heap.size b0 N rowf W1)
  (I : Nat → World → Prop) (Ix : Code → Nat → World → Prop)
  (hI : ∀ k W W' row, I k W → W.grownBy W' row → (∀ r, row = some r → w.heap.size ≤ r ∧ r ≤ w.heap.size + 2) → I k W')
  (hIx : ∀ c k W W' row, Ix c k W → W.grownBy W' row → (∀ r, row = some r → w.heap.size ≤ r ∧ r ≤ w.heap.size + 2) → Ix c k W')
  (h0 : I 0 w) (a₁ : Value → Act)
  (hassign : ∀ (l : Nat) (v : Value) (W : World) (K : Act → World → Prop), K (a₁ v) W →
   assign.wpIn (Fence.wide.inRound l) n P (Exit.then K (fun _ _ _ => False)) { tmps := (ps.zip #[v]).foldl (fun t (p, v) => t.setIfInBounds p v) a.tmps, defers := [] } W)
  (hbody : ∀ (k : Nat) (v : Value) (Wl W : World), k < N → I k Wl → KeepO w.heap.size Wl W → w.heap.size + 3 ≤ Wl.heap.size → Kd.R (Kd.int .i32) 21 W Wl.heap.size (fun _ => True) v (rowf k) →
   body.wpIn (Fence.wide.inRound (w.heap.size + 1)) n P (postB b0 w.heap.size I Ix (k + 1) W) (a₁ v) W)
  (hdone : ∀ (W : World), I N W → W.heap[w.heap.size]? = some (.deferred (some [])) → Q .normal { a with defers := { target := .collected w.heap.size, args := #[] } :: a.defers } W)
  (hstop : ∀ (c : Code) (k : Nat) (W : World), Ix c k W → W.heap[w.heap.size]? = some (.deferred (some [])) → c.wpIn Fence.wide n P Q { a with defers := { target := .collected w.heap.size, args := #[] } :: a.defers } W) :
  (Code.rangeFunc g ps assign body).wp P Q a w := by
 refine (wpIn_wide (n := n + 1)).1 ?_
 refine wpIn_rangeFunc ?_
 intro fn hfn
 obtain ⟨rec, hrec⟩ : ∃ rec : LoopState → Option Code → Loop, rec = fun st pe => { state := st, pending := pe, fn, tmps := a.tmps, params := ps, assign, body, defers := w.heap.size } := ⟨_, rfl⟩
 obtain ⟨W1, hW1⟩ : ∃ W1, (w.alloc (.deferred (some []))).alloc (.loop (rec .ready none)) = W1 := ⟨_, rfl⟩
 have hL1 : W1.heap[w.heap.size + 1]? = some (.loop (rec .ready none)) := by
  rw [← hW1]; have := World.alloc_heap_new (w.alloc (.deferred (some []))) (.loop (rec .ready none)); rwa [World.size_alloc] at this
 have hK1 : W1.heap[w.heap.size]? = some (.deferred (some [])) := by
  rw [← hW1]; exact (Below.heap_alloc _ _ _ (by simp)).trans (World.alloc_heap_new w _)
 have hI1 : I 0 W1 := by
  rw [← hW1]
  exact hI _ _ _ none (hI _ _ _ none h0 (World.grownBy_alloc _ _ none) (fun r e => by cases e)) (World.grownBy_alloc _ _ none) (fun r e => by cases e)
 have hb1 : Below w.heap.size w W1 := by
  rw [← hW1]; exact ((Below.refl _ w).alloc (Nat.le_refl _) _).alloc (by simp) _
 have hs1 : W1.heap.size = w.heap.size + 2 := by rw [← hW1]; simp
 refine ⟨w.heap.size + 1, [{ target := .collected w.heap.size, args := #[] }], W1, { target := .fn (.func gf) lb, args := #[.func (.yield (w.heap.size + 1)) #[] #[]] }, W1, gf,
  #[.func (.yield (w.heap.size + 1)) #[] #[]] ++ lb, W1, ?_, ?_, ?_, ?_, fun h => by simp [Fence.wide] at h, ?_⟩
 ·rw [← hW1, hrec]; exact run_enterLoop_outer _ _ _ _ _
 ·simp only [resolve, hg]
  simp [go_sem]
 ·intro f' hf'; trivial
 ·simp [invoke, go_sem, eg]
 ·refine (hiter W1 hb1 hs1 n
   (fun k W => I k W ∧ W.heap[w.heap.size + 1]? = some (.loop (rec .ready none)) ∧ W.heap[w.heap.size]? = some (.deferred (some [])))
   (fun k W => ∃ c, Ix c k W ∧ W.heap[w.heap.size + 1]? = some (.loop (rec .done (some c))) ∧ W.heap[w.heap.size]? = some (.deferred (some [])))
   (fun k W W' hs hg' => ⟨hI _ _ _ _ hs.1 hg' (fun r e => by cases e; omega), (hg'.block _ (Array.getElem?_eq_some_iff.1 hs.2.1).1 (fun e => by injection e with e; omega)).trans hs.2.1, (hg'.block _ (Array.getElem?_eq_some_iff.1 hs.2.2).1 (fun e => by injection e with e; omega)).trans hs.2.2⟩)
   (fun k W W' hs hg' => by
    obtain ⟨c, hc, hl, hk⟩ := hs
    exact ⟨c, hIx _ _ _ _ _ hc hg' (fun r e => by cases e; omega), (hg'.block _ (Array.getElem?_eq_some_iff.1 hl).1 (fun e => by injection e with e; omega)).trans hl, (hg'.block _ (Array.getElem?_eq_some_iff.1 hk).1 (fun e => by injection e with e; omega)).trans hk⟩)
   ?_ ⟨hI1, hL1, hK1⟩).mono ?_
  ·-- ONE ROUND
   rintro k v Wl W hkN ⟨hi, hl0, hk0⟩ hgW hsz hrow
   have hl := (hgW.block _ (Array.getElem?_eq_some_iff.1 hl0).1 (fun e => by injection e with e; omega)).trans hl0
   have hk := (hgW.block _ (Array.getElem?_eq_some_iff.1 hk0).1 (fun e => by injection e with e; omega)).trans hk0
   have hlt : w.heap.size + 1 < W.heap.size := (Array.getElem?_eq_some_iff.1 hl).1
   have hy := run_yield (P := P) (args := #[v]) hl (by rw [hrec]; exact hps.symm)
   rw [hrec] at hy
   refine ⟨fn, _, assign, body, hy, roundIn_of_wpIn hfn (hassign _ v W _ ⟨_, run_beginRound hl (by rw [hrec]), ?_⟩)⟩
   have hl2 : (W.putObj (w.heap.size + 1) (.loop { rec .ready none with state := .busy })).heap[w.heap.size + 1]? = some (.loop { rec .ready none with state := .busy }) := World.putObj_heap_same hlt
   have hk2 : (W.putObj (w.heap.size + 1) (.loop { rec .ready none with state := .busy })).heap[w.heap.size]? = some (.deferred (some [])) := (World.putObj_heap_other (by omega)).trans hk
   have hw2 : KpR b0 w.heap.size W (W.putObj (w.heap.size + 1) (.loop { rec .ready none with state := .busy })) := KpR.put _ _ _ _
   have hi2 : KeepO w.heap.size Wl (W.putObj (w.heap.size + 1) (.loop { rec .ready none with state := .busy })) :=
    ⟨hgW.os, hgW.tape, hgW.output, by simpa using hgW.size, fun b h1 h2 => (World.putObj_heap_other (by omega)).trans (hgW.block b h1 (fun e => by injection e with e; omega))⟩
   have hrow2 : Kd.R (Kd.int .i32) 21 (W.putObj (w.heap.size + 1) (.loop { rec .ready none with state := .busy })) Wl.heap.size (fun _ => True) v (rowf k) :=
    Kd.R_mono (Kd.R_step (Kd.R_bound hrow) (fun k hk hlt => World.putObj_heap_other (by have := hk.2.1; omega))) (fun _ _ => trivial)
   refine wpIn_mono (hbody k v Wl _ hkN hi hi2 hsz hrow2) ?_
   have fin : ∀ (jump : Option Code) (W3 : World), KpB b0 w.heap.size (W.putObj (w.heap.size + 1) (.loop { rec .ready none with state := .busy })) W3 →
     (Instr.endRound (w.heap.size + 1) jump).run P W3 = .ok (.bool jump.isNone) (W3.putObj (w.heap.size + 1) (.loop (rec (if jump.isNone then .ready else .done) jump))) ∧
     W3.heap[w.heap.size + 1]? = some (.loop { rec .ready none with state := .busy }) ∧
     (W3.putObj (w.heap.size + 1) (.loop (rec (if jump.isNone then .ready else .done) jump))).heap[w.heap.size + 1]? = some (.loop (rec (if jump.isNone then .ready else .done) jump)) ∧
     (W3.putObj (w.heap.size + 1) (.loop (rec (if jump.isNone then .ready else .done) jump))).heap[w.heap.size]? = some (.deferred (some [])) := fun jump W3 hk3 => by
    have hl3 := (hk3.2 (w.heap.size + 1) (by omega) (by omega)).trans hl2
    have := run_endRound (P := P) jump hl3
    rw [hrec] at this ⊢
    exact ⟨this, by rw [hrec] at hl3; exact hl3, World.putObj_heap_same (Array.getElem?_eq_some_iff.1 hl3).1, (World.putObj_heap_other (by omega)).trans ((hk3.2 _ hb0 (by omega)).trans hk2)⟩
   rintro e a3 W3 hp
   cases e with
   | normal =>
    obtain ⟨hk3, hi3⟩ := hp
    obtain ⟨hr, hl3, hl4, hk4⟩ := fin none W3 hk3
    exact ⟨_, _, hr, .inl ⟨rfl, ⟨hI _ _ _ _ hi3 (grownBy_putObj' W3 _ _) (fun r e => by cases e; omega), hl4, hk4⟩, (hw2.trans hk3.toR).trans (KpR.put _ _ _ _)⟩⟩
   | ret =>
    obtain ⟨hk3, hi3⟩ := hp
    obtain ⟨hr, hl3, hl4, hk4⟩ := fin (some .ret) W3 hk3
    exact ⟨_, _, hr, .inr ⟨rfl, .ret, hIx _ _ _ _ _ hi3 (grownBy_putObj' W3 _ _) (fun r e => by cases e; omega), hl4, hk4⟩⟩
   | exit id =>
    obtain ⟨hk3, hi3⟩ := hp
    obtain ⟨hr, hl3, hl4, hk4⟩ := fin (some (.exit id)) W3 hk3
    exact ⟨_, _, hr, .inr ⟨rfl, .exit id, hIx _ _ _ _ _ hi3 (grownBy_putObj' W3 _ _) (fun r e => by cases e; omega), hl4, hk4⟩⟩
   | goto t =>
    obtain ⟨hk3, hi3⟩ := hp
    obtain ⟨hr, hl3, hl4, hk4⟩ := fin (some (.goto t)) W3 hk3
    exact ⟨_, _, hr, .inr ⟨rfl, .goto t, hIx _ _ _ _ _ hi3 (grownBy_putObj' W3 _ _) (fun r e => by cases e; omega), hl4, hk4⟩⟩
   | panic ch => exact hp.elim
   | outgrown => exact hp.elim
  ·-- BEHIND THE ITERATOR
   rintro e W2 ⟨⟨v, rfl⟩, (⟨hi, hl, hk⟩ | ⟨k, c, hi, hl, hk⟩)⟩
   ·exact ⟨none, _, by have := run_endLoop (P := P) hl (by rw [hrec]; simp); rw [hrec] at this; exact this, hdone _ (hI _ _ _ _ hi (grownBy_putObj' W2 _ _) (fun r e => by cases e; omega)) ((World.putObj_heap_other (by omega)).trans hk)⟩
   ·exact ⟨some c, _, by have := run_endLoop (P := P) hl (by rw [hrec]; simp); rw [hrec] at this; exact this, (wpIn_wide (n := n + 1)).2 ((wpIn_wide (n := n)).1 (hstop c k _ (hIx _ _ _ _ _ hi (grownBy_putObj' W2 _ _) (fun r e => by cases e; omega)) ((World.putObj_heap_other (by omega)).trans hk)))⟩
/-! ### The iterator itself -/
theorem info3_ : (Tryd.prog.info? 3).map (fun i => (i.zero, i.size, i.bytes)) = some (some (.int .i64 0), 1, 8) := by kernel_rfl
section
variable {P : Program} {ops : Array Oper} {rest : List Oper} {o : Oper} {a : Act} {Q : Exit → Act → World → Prop} {α : Type}
/-- make([]T, n), and where it lies. -/
theorem R_make_at (d : Kd α) {W : World} (base e : Nat) (hgd : o.guard = none) {N : Tmp} (hd : o.dst = some N) (t : TypeId) (x y : Operand) (ho : o.op = .makeSlice t x y) (m : Nat) (hx : a.eval x = .int .i64 (m : Int)) (hy : a.eval y = .int .i64 (m : Int))
  (ht : P.underlying t = some (.slice e)) (z : Value) (bytes : Nat) (hinfo : (P.info? e).map (fun i => (i.zero, i.size, i.bytes)) = some (some z, d.sz, bytes)) (hz : z.cells.size = d.sz) (hs0 : 0 < d.sz) (hb0 : 0 < bytes)
  (z0 : α) {okp : Nat → Prop} (hzero : d.M W base okp z0 z.cells.toList) (hl : m * bytes ≤ 281474976710656) (hbase : base ≤ W.heap.size)
  (h : ∀ w1, d.R e w1 base (fun k => okp k ∨ k = W.heap.size) (.slice (some ⟨W.heap.size, 0, none⟩) m m) (List.replicate m z0) → Below W.heap.size W w1 → w1.heap.size = W.heap.size + 1 → wpList P ops Q rest (a.put o.dst (.slice (some ⟨W.heap.size, 0, none⟩) m m)) w1) : wpList P ops Q (o :: rest) a W := by
 obtain ⟨i0, hi, hzz⟩ := Option.map_eq_some_iff.1 hinfo
 simp only [Prod.mk.injEq] at hzz
 obtain ⟨hz0, hz1, hz2⟩ := hzz
 have hm : m ≤ 281474976710656 := Nat.le_trans (Nat.le_mul_of_pos_right _ hb0) hl
 have hr := run_make (P := P) W t e i0 z ht hi hz0 .i64 .i64 (m : Int) (m : Int) (by omega) (by omega)
  (by
   have h3 : ((i0.bytes * m : Nat) : Int) ≤ 281474976710656 := by rw [hz2, Nat.mul_comm]; omega
   rwa [Int.natCast_mul] at h3) (by omega)
 simp only [Int.toNat_natCast] at hr
 rw [hz1] at hr
 have hrep := Kd.reps_made (R := d.M W base okp) (z := z) (size := d.sz) (z0 := z0) hz hs0 hzero m
 refine Kd.event_run hgd (by simp [execOp, ho, hx, hy, hr]; rfl) (h _ ⟨fun k hk => ?_, (madeCells z.cells (m * d.sz)).toList, ?_, ?_⟩ (below_alloc (Below.refl _ _) _) (by simp))
 ·have : W.heap.size = k := by simpa [Value.ownBlock] using hk
  exact .inr this.symm
 ·have h2 := World.ownsRow_lit (base := base) (e := e) (size := d.sz) W (madeCells z.cells (m * d.sz)) m hbase (by simp only [maxLen]; omega) (by have := hrep.1; simpa using this)
  simpa using h2
 ·refine hrep.imp_ (fun p c hp => d.M_mono (fun k hk => ⟨.inl hk.1, fun he => ?_⟩) (Kd.M_below (d.M_bound hp) (below_alloc (Below.refl _ _) _)))
  have h3 : k = W.heap.size := by simpa [Value.ownBlock] using he
  have := hk.2.2.1
  omega
end
/-- the digits, as a list. -/
def digsOf (ws : List (List Int)) (k : Nat) : List Int := (List.range ws.length).map fun j => (VarPlain.dig ws k j : Int)
theorem digsOf_length (ws : List (List Int)) (k : Nat) : (digsOf ws k).length = ws.length := by simp [digsOf]
theorem digsOf_at (ws : List (List Int)) (k j : Nat) (h : j < ws.length) : (digsOf ws k).getD j 0 = (VarPlain.dig ws k j : Int) := by
 simp [digsOf, List.getD_eq_getElem?_getD, h]
theorem digsOf_zero (ws : List (List Int)) : digsOf ws 0 = List.replicate ws.length 0 := by
 apply List.ext_getElem
 ·simp [digsOf]
 ·intro i h1 h2
  simp [digsOf, VarPlain.dig]
/-- of a list the first ones, then zeros. -/
def headOf (l : List Int) (i : Nat) : List Int := l.take i ++ List.replicate (l.length - i) 0
theorem headOf_length (l : List Int) (i : Nat) : (headOf l i).length = l.length := by simp [headOf]; omega
theorem headOf_zero (l : List Int) : headOf l 0 = List.replicate l.length 0 := by simp [headOf]
theorem headOf_all (l : List Int) : headOf l l.length = l := by simp [headOf]
theorem headOf_getD (l : List Int) (i j : Nat) : (headOf l i).getD j 0 = if j < i then l.getD j 0 else 0 := by
 simp only [headOf, List.getD_eq_getElem?_getD, List.getElem?_append, List.length_take]
 by_cases h : j < i
 ·rw [if_pos h]
  by_cases h2 : j < l.length
  ·rw [if_pos (by omega), List.getElem?_take_of_lt h]
  ·rw [if_neg (by omega), List.getElem?_eq_none (by simp; omega), List.getElem?_eq_none (by omega)]
 ·rw [if_neg h, if_neg (by omega)]
  rcases Nat.lt_or_ge (j - min i l.length) (l.length - i) with h3 | h3
  ·rw [List.getElem?_eq_getElem (by simpa using h3)]; simp
  ·rw [List.getElem?_eq_none (by simpa using h3)]; rfl
theorem list_ext_getD {l m : List Int} (h : l.length = m.length) (h2 : ∀ j, j < l.length → l.getD j 0 = m.getD j 0) : l = m := by
 apply List.ext_getElem h
 intro i h1 h3
 have := h2 i h1
 simpa [List.getD_eq_getElem?_getD, h1, h3] using this
theorem getD_set (l : List Int) (i j : Nat) (x : Int) : (l.set i x).getD j 0 = if i = j ∧ j < l.length then x else l.getD j 0 := by
 simp only [List.getD_eq_getElem?_getD, List.getElem?_set]
 by_cases h : i = j
 ·subst h
  by_cases h2 : i < l.length
  ·simp [h2]
  ·simp [h2]
 ·simp [h]
theorem headOf_set (l : List Int) (i : Nat) (h : i < l.length) : (headOf l i).set i (l.getD i 0) = headOf l (i + 1) := by
 apply list_ext_getD (by simp [headOf_length])
 intro j hj
 rw [getD_set, headOf_getD, headOf_getD, headOf_length]
 simp [headOf_length] at hj
 by_cases e : i = j
 ·subst e; simp [h]
 ·by_cases h2 : j < i
  ·rw [if_neg (by omega), if_pos h2, if_pos (by omega)]
  ·rw [if_neg (by omega), if_neg h2, if_neg (by omega)]
theorem headOf_clear (l : List Int) (i : Nat) (h : i < l.length) : (headOf l (i + 1)).set i 0 = headOf l i := by
 apply list_ext_getD (by simp [headOf_length])
 intro j hj
 rw [getD_set, headOf_getD, headOf_getD, headOf_length]
 simp [headOf_length] at hj
 by_cases e : i = j
 ·subst e; simp [h]
 ·by_cases h2 : j < i
  ·rw [if_neg (by omega), if_pos (by omega), if_pos h2]
  ·rw [if_neg (by omega), if_neg (by omega), if_neg h2]
theorem digsOf_next (ws : List (List Int)) (h : ∀ j, j < ws.length → 0 < VarPlain.wl ws j) (k i : Nat) (hi : i < ws.length) (hm : ∀ j, i + 1 ≤ j → j < ws.length → VarPlain.dig ws k j + 1 = VarPlain.wl ws j)
  (hd : VarPlain.dig ws k i + 1 < VarPlain.wl ws i) : (headOf (digsOf ws k) (i + 1)).set i ((VarPlain.dig ws k i : Int) + 1) = digsOf ws (k + 1) := by
 apply list_ext_getD (by simp [headOf_length, digsOf_length])
 intro j hj
 rw [getD_set, headOf_getD, headOf_length, digsOf_length]
 simp [headOf_length, digsOf_length] at hj
 rw [digsOf_at ws (k + 1) j hj]
 by_cases e : i = j
 ·subst e
  rw [if_pos ⟨rfl, hj⟩, VarPlain.next_here ws h k i hm hd]; simp
 ·rw [if_neg (by omega)]
  by_cases h2 : j < i + 1
  ·rw [if_pos h2, digsOf_at ws k j hj, VarPlain.next_before ws h k i j hm hd hi (by omega)]
  ·rw [if_neg h2, VarPlain.next_zero ws h k (i + 1) j hm (by omega) hj]; rfl
set_option maxHeartbeats 8000000 in
set_option maxRecDepth 100000 in
theorem variants_Seq1.iter (S0 b0 g : Nat) (v : Value) (ws : List (List Int)) (W1 : World) (hsz : W1.heap.size = S0 + 2) (hbg : b0 ≤ g) (hgS : g < S0) (hgv : W1.heap[g]? = some (.cells #[v] 22 (0, 0)))
  (hw : Kd.R (Kd.slice 21 (Kd.int .i32)) 25 W1 b0 (fun k => k < S0 ∧ k ≠ g) v ws) (hpos : ∀ j, j < ws.length → 0 < VarPlain.wl ws j) (hlen : ws.length < 1000) :
  RowsIter Tryd.prog 30 #[.pointer (some ⟨g, 0, none⟩)] S0 b0 (VarPlain.prod ws) (VarPlain.row ws) W1 := by
 intro n J Jx hJ hJx hY h0
 obtain ⟨A0, c0, ev⟩ := Kd.R_slice hw
 subst ev
 have BW := Aside0.mk hgv
 have HW := Aside0.mk hw
 have HS := Aside0.mk hsz
 have HP := Aside0.mk hpos
 have HY := Aside0.mk hY
 have HJ := Aside0.mk hJ
 have HJ0 := Aside0.mk h0
 have HL := Aside0.mk hlen
 clear hgv hw hsz hpos hY hJ h0 hlen
 refine callsIn_of_wp Tryd.func30 rfl trivial ?_ rfl
 simp only [Tryd.ntmps30, List.size_toArray, List.length_cons, List.length_nil, Nat.reduceAdd, Nat.reduceSub, Array.replicate_succ, Array.replicate_zero, List.push_toArray, List.append_toArray, List.nil_append, List.cons_append]
 refine (wpIn_wide (n := n)).2 ?_
 have hcw : W1.cell? ⟨g, 0, none⟩ = some (.slice A0 ws.length c0) := (blk_cell BW.out 0).trans rfl
 go_wp2_with (first | ((with_reducible refine gate_dst (N := 9) rfl ?_); refine R_make_at (Kd.int .i64) W1.heap.size 3 rfl (N := 9) rfl 61 (.tmp 8) (.tmp 8) rfl ws.length rfl rfl Tryd.underlying61 (.int .i64 0) 8 info3_ rfl (by decide) (by decide) (0 : Int) (okp := fun _ => False) ?mz ?ml (Nat.le_refl _) ?_; (case mz => rfl); (case ml => have := HL.out; omega); intro w2 ho hb hs2; have HA := Aside0.mk (show Kd.R (Kd.int .i64) 3 w2 W1.heap.size (fun k => k = W1.heap.size) (.slice (some ⟨W1.heap.size, 0, none⟩) ws.length ws.length) (digsOf ws 0) from by rw [digsOf_zero]; exact Kd.R_mono ho (fun k hk => hk.elim (fun h => h.elim) id)); have n0_ := Aside0.mk (blk_below BW.out hb); have n1_ := Aside0.mk (Kd.R_below HW.out hb); have n2_ := Aside0.mk (HJ.out 0 _ _ HJ0.out (grown_of_below hb (some (S0 + 2)))); have HS2 := Aside0.mk (show S0 + 3 ≤ w2.heap.size from by have := HS.out; omega); clear BW HW HJ0 ho hb hs2 hcw; have BW := n0_; have HW := n1_; have HJ0 := n2_; clear n0_ n1_ n2_))
 go_loopg [6] (VarPlain.prod ws) (fun m v6 w' => ∃ k : Nat, Aside0 (k + m = VarPlain.prod ws ∧ 0 < m) ∧ Aside0 (J k w') ∧ Aside0 (w'.heap[g]? = some (.cells #[.slice A0 ws.length c0] 22 (0, 0))) ∧ Aside0 (Kd.R (Kd.slice 21 (Kd.int .i32)) 25 w' b0 (fun k => k < S0 ∧ k ≠ g) (.slice A0 ws.length c0) ws) ∧ Aside0 (Kd.R (Kd.int .i64) 3 w' W1.heap.size (fun k => k = W1.heap.size) (.slice (some ⟨W1.heap.size, 0, none⟩) ws.length ws.length) (digsOf ws k)) ∧ Aside0 (S0 + 3 ≤ w'.heap.size))
 case atStart => exact ⟨0, ⟨by omega, VarPlain.prod_pos' ws HP.out⟩, HJ0, BW, HW, HA, HS2⟩
 case round =>
  clear HJ0 BW HW HA HS2
  obtain ⟨k, HK, HJk, BW, HW, HA, HS2⟩ := hrel
  obtain ⟨wo, hwo⟩ : ∃ wo : World, wo = wr := ⟨_, rfl⟩
  subst hwo
  obtain ⟨og, hog⟩ : ∃ x : Nat, x = gk := ⟨_, rfl⟩
  have HOG := Aside0.mk hog
  rw [← hog] at HK
  clear hog
  have HB := Aside0.mk (Below.refl wo.heap.size wo)
  have hcw : wo.cell? ⟨g, 0, none⟩ = some (.slice A0 ws.length c0) := (blk_cell BW.out 0).trans rfl
  go_wp2_with (first | ((with_reducible refine gate_dst (N := 12) rfl ?_); refine Kd.R_make (Kd.int .i32) (w0 := wo) wo.heap.size 21 rfl (N := 12) rfl 25 (.tmp 11) (.tmp 11) rfl (ws.length : Int) rfl rfl Tryd.underlying25 (.int .i32 0) 4 info21 rfl (by decide) (by decide) (0 : Int) (ok := fun _ => True) (okp := fun _ => True) ?mz (fun _ hk => hk) trivial (by omega) ?ml ?mB ?mS ?_; (case mz => rfl); (case ml => have := HL.out; omega); (case mB => exact HB.out); (case mS => exact Nat.le_refl _); intro v1 w4 ho hb hg_ hat; clear HB; have HB := Aside0.mk hb; have hcw4 : w4.cell? ⟨g, 0, none⟩ = some (.slice A0 ws.length c0) := (blk_cell (blk_below BW.out hb) 0).trans rfl; obtain ⟨Ar, cr, er⟩ := Kd.R_slice ho; subst er; have HR := Aside0.mk (show Kd.R (Kd.int .i32) 21 w4 wo.heap.size (fun _ => True) (.slice Ar ws.length cr) (headOf (VarPlain.row ws k) 0) from by rw [headOf_zero, VarPlain.row_length]; simpa using ho); clear ho hb hg_ hat hcw))
  go_loopg [15] (ws.length + 1) (fun m v15 w' => ∃ i : Nat, v15 = .int .i64 (i : Int) ∧ Aside0 (i + m = ws.length + 1 ∧ 0 < m) ∧ Aside0 (Below wo.heap.size wo w') ∧ Aside0 (Kd.R (Kd.int .i32) 21 w' wo.heap.size (fun _ => True) (.slice Ar ws.length cr) (headOf (VarPlain.row ws k) i)))
  case atStart => exact ⟨0, rfl, ⟨by omega, by omega⟩, HB, HR⟩
  case round =>
   clear HB HR hcw4
   obtain ⟨i, rfl, HI, HB, HR⟩ := hrel
   have hI := HI.out
   by_cases hlt : i < ws.length
   ·obtain ⟨gr, cg, eg, gb1, gl1, cl1, HG1⟩ := Kd.R_form HR.out (by rw [headOf_length, VarPlain.row_length]; omega)
    injection eg with ea_ en_ ec_
    subst ea_
    clear en_ ec_ cl1 HG1
    have GB := Aside0.mk gb1
    clear gb1 gl1
    obtain ⟨x15, hx15⟩ : ∃ x : Int, x = (i : Int) := ⟨_, rfl⟩
    have h15a : 0 ≤ x15 := by omega
    have h15b : x15 < (ws.length : Int) := by omega
    have h15t : x15.toNat = i := by omega
    obtain ⟨y, hy⟩ : ∃ y : Int, y = (VarPlain.dig ws k i : Int) := ⟨_, rfl⟩
    have HY15 := Aside0.mk (⟨hx15, hy, h15t⟩ : x15 = (i : Int) ∧ y = (VarPlain.dig ws k i : Int) ∧ x15.toNat = i)
    have hd := VarPlain.dig_lt ws HP.out k i hlt
    have hya : 0 ≤ y := by omega
    obtain ⟨adw, Aw, cw, ew, hxw, hlw, hCw⟩ := at_L1 (Kd.C_below (Kd.R_reads' HW.out).2.2 HB.out) x15 h15a h15b
    have hwl : ((rd_L1 ws x15).length : Int) = (VarPlain.wl ws i : Int) := by unfold rd_L1 VarPlain.wl; rw [h15t]
    have hyb : y < ((rd_L1 ws x15).length : Int) := by omega
    obtain ⟨ad2, e2, hx2⟩ := Kd.at_int hCw y hya hyb
    have HV := Aside0.mk (show rd (rd_L1 ws x15) y = (VarPlain.row ws k).getD i 0 from by rw [VarPlain.row_at ws k i hlt]; unfold rd rd_L1; rw [h15t, hy, Int.toNat_natCast])
    have hx3 := (Kd.R_celln (0 : Int) (Kd.R_below HA.out HB.out) x15 h15a h15b).1
    have hy3 : rdOf (0 : Int) (digsOf ws k) x15 = y := by unfold rdOf; rw [h15t, hy]; exact digsOf_at ws k i hlt
    rw [hy3] at hx3
    obtain ⟨hx4, hf4⟩ := Kd.R_celln (0 : Int) HR.out x15 h15a h15b
    have hcw : wr.cell? ⟨g, 0, none⟩ = some (.slice A0 ws.length c0) := (blk_cell (blk_below BW.out HB.out) 0).trans rfl
    have HPU := Aside0.mk (Kd.R_putg (Kd.R_drew HR.out) x15 (rd (rd_L1 ws x15) y))
    have HX := Aside0.mk hx15
    rw [← hx15]
    clear hx15 hy h15t hwl hy3 hd hI
    cases ew
    cases e2
    have hltb : decide (x15 < (ws.length : Int)) = true := decide_eq_true h15b
    go_wp2
    go_region
    go_wp2
    go_roundg (gk - 1)
    case measure => have := HI.out; omega
    case rel =>
     obtain ⟨e1, e2, e3⟩ := HY15.out
     refine ⟨i + 1, ?_, ⟨⟨by have := HI.out; omega, by have := HI.out; omega⟩⟩, ⟨below_set (below_drew1 HB.out) GB.out⟩, ⟨?_⟩⟩
     ·subst e1
      have hb1 := HL.out
      first | rfl | (congr 1; unfold wrap64; omega) | (congr 1; omega)
     ·have z := HPU.out.1
      rw [HV.out] at z
      have e4 : (headOf (VarPlain.row ws k) i).set x15.toNat ((VarPlain.row ws k).getD i 0) = headOf (VarPlain.row ws k) (i + 1) := by rw [e3]; exact headOf_set _ _ (by rw [VarPlain.row_length]; exact hlt)
      rw [e4] at z
      rw [HV.out]
      exact z
   ·have hge : decide ((i : Int) < (ws.length : Int)) = false := decide_eq_false (by omega)
    have hR : Aside0 (Kd.R (Kd.int .i32) 21 wr wo.heap.size (fun _ => True) (.slice Ar ws.length cr) (VarPlain.row ws k)) := ⟨by
     have z := HR.out
     rw [show i = (VarPlain.row ws k).length from by rw [VarPlain.row_length]; omega, headOf_all] at z
     exact z⟩
    clear hI HR
    go_upto_region 7 with (fail)
    have hkN : k < VarPlain.prod ws := by have := HK.out; omega
    have hyield := HY.out k _ wo wr hkN HJk.out (grown_of_below HB.out (some (S0 + 2))) HS2.out hR.out
    obtain ⟨fn, tmps, assign, body, hy, hRd⟩ := hyield
    have hA0 := Aside0.mk (Kd.R_below HA.out HB.out)
    have hW0 := Aside0.mk (Kd.R_below HW.out HB.out)
    have hB0 := Aside0.mk (blk_below BW.out HB.out)
    have hS3 := Aside0.mk (show S0 + 3 ≤ wr.heap.size from Nat.le_trans HS2.out (below_size HB.out))
    clear HB HA HW BW HS2 HJk hR
    refine (wpIn_wide (n := n + 1)).1 ?_
    gi_wp2
    refine hRd.mono ?_
    rintro e W' (⟨rfl, hJ', hk⟩ | ⟨rfl, hJx'⟩)
    ·have hA1 := Aside0.mk (Kd.R_step hA0.out (w1 := W') (fun b e_ _ => hk.2 b (by rw [e_]; have := HS.out; omega) (by rw [e_]; have := HS.out; omega) (by rw [e_]; have := HS.out; omega) (by rw [e_]; have := HS.out; omega)))
     have hW1 := Aside0.mk (Kd.R_mono (Kd.R_step (Kd.R_bound hW0.out) (w1 := W') (fun b e_ _ => hk.2 b e_.2.1 (by omega) (by omega) (by omega))) (fun _ e_ => e_.1))
     have hB1 := Aside0.mk ((hk.2 g hbg (by omega) (by omega) (by omega)).trans hB0.out)
     have hS4 := Aside0.mk (Nat.le_trans hS3.out hk.1)
     have hJ2 := Aside0.mk hJ'
     clear hA0 hW0 hB0 hS3 hk hJ' hy hRd
     gi_wp2
     have hcw1 : W'.cell? ⟨g, 0, none⟩ = some (.slice A0 ws.length c0) := (blk_cell hB1.out 0).trans rfl
     go_wp2
     go_loopg [6] (ws.length + 1) (fun m v6 w' => ∃ j : Nat, v6 = .int .i64 ((j : Int) - 1) ∧ Aside0 (j < m ∧ j ≤ ws.length) ∧ Aside0 (∀ x, j ≤ x → x < ws.length → VarPlain.dig ws k x + 1 = VarPlain.wl ws x) ∧ Aside0 (W'.grownBy w' (some (S0 + 2))) ∧ Aside0 (Kd.R (Kd.int .i64) 3 w' W1.heap.size (fun k => k = W1.heap.size) (.slice (some ⟨W1.heap.size, 0, none⟩) ws.length ws.length) (headOf (digsOf ws k) j)))
     case atStart => exact ⟨ws.length, (by first | rfl | (congr 1; unfold wrap64; have := HL.out; omega)), ⟨by omega, Nat.le_refl _⟩, ⟨fun x h1 h2 => by omega⟩, ⟨grown_of_below (Below.refl _ _) _⟩, ⟨by have z := headOf_all (digsOf ws k); rw [digsOf_length] at z; rw [z]; exact hA1.out⟩⟩
     case round =>
      clear hA1 hcw1
      obtain ⟨j, rfl, HJ1, HM, HG, HA⟩ := hrel
      obtain ⟨x6, hx6⟩ : ∃ x : Int, x = (j : Int) - 1 := ⟨_, rfl⟩
      have HX6 := Aside0.mk hx6
      rw [← hx6]
      have hW2 := Aside0.mk (Kd.R_grown hW1.out HG.out (fun b e_ => by intro e2_; injection e2_ with e2_; have := e_.1; omega))
      have hB2 := Aside0.mk (blk_grown hB1.out HG.out (by intro e2_; injection e2_ with e2_; omega))
      have hcw2 : wr.cell? ⟨g, 0, none⟩ = some (.slice A0 ws.length c0) := (blk_cell hB2.out 0).trans rfl
      have hJ3 := Aside0.mk (HJ.out _ _ _ hJ2.out HG.out)
      have hS5 := Aside0.mk (Nat.le_trans hS4.out HG.out.size)
      have hj1 := HJ1.out
      rcases Nat.eq_zero_or_pos j with h0j | hpj
      ·-- no digit may be turned on: the last row
       have hneg : decide (0 ≤ x6) = false := decide_eq_false (by omega)
       have hneg2 : decide (x6 < 0) = true := decide_eq_true (by omega)
       have hneg3 : x6 < 0 := by omega
       have hlast := VarPlain.last_row ws HP.out k hkN (fun x hx => HM.out x (by omega) hx)
       rw [hlast] at hJ3
       clear hx6 hj1 h0j hcw2
       go_wp2
       go_quiet (fail)
       go_wp2
       refine bodyPost_ret (results_none rfl _ _ _) rfl ?_
       exact ⟨⟨_, rfl⟩, .inl (HJ.out _ _ _ hJ3.out (grown_of_below (pw_below_drewN (Below.refl _ _) _) _))⟩
      ·obtain ⟨i0, rfl⟩ : ∃ i0, j = i0 + 1 := ⟨j - 1, by omega⟩
       have h6a : 0 ≤ x6 := by omega
       have h6b : x6 < (ws.length : Int) := by omega
       have h6t : x6.toNat = i0 := by omega
       have hi0 : i0 < ws.length := by omega
       obtain ⟨y, hy⟩ : ∃ y : Int, y = (VarPlain.dig ws k i0 : Int) := ⟨_, rfl⟩
       have hd := VarPlain.dig_lt ws HP.out k i0 hi0
       obtain ⟨adw, Aw, cw, ew, hxw, hlw, hCw⟩ := at_L1 (Kd.R_reads' hW2.out).2.2 x6 h6a h6b
       have hwl : ((rd_L1 ws x6).length : Int) = (VarPlain.wl ws i0 : Int) := by unfold rd_L1 VarPlain.wl; rw [h6t]
       have hlm : (rd_L1 ws x6).length ≤ 9223372036854775807 := hCw.2.1
       obtain ⟨hx3, hf3⟩ := Kd.R_celln (0 : Int) HA.out x6 h6a h6b
       have hy3 : rdOf (0 : Int) (headOf (digsOf ws k) (i0 + 1)) x6 = y := by
        unfold rdOf
        rw [h6t, headOf_getD, if_pos (by omega), digsOf_at ws k i0 hi0, hy]
       rw [hy3] at hx3
       cases ew
       have hge0 : decide (0 ≤ x6) = true := decide_eq_true h6a
       have hlt0 : decide (x6 < 0) = false := decide_eq_false (by omega)
       have hlen1 : 1 ≤ ((rd_L1 ws x6).length : Int) := by omega
       have hlen2 : ((rd_L1 ws x6).length : Int) ≤ 9223372036854775807 := by omega
       have hya : 0 ≤ y := by omega
       have hyb : y < ((rd_L1 ws x6).length : Int) := by omega
       by_cases hmax : VarPlain.dig ws k i0 + 1 = VarPlain.wl ws i0
       ·have htest : (y == ((rd_L1 ws x6).length : Int) - 1) = true := beq_iff_eq.2 (by omega)
        have HP0 := Aside0.mk (Kd.R_putg (Kd.R_drew HA.out) x6 (0 : Int))
        have HI0 := Aside0.mk (⟨h6t, hi0, hmax⟩ : x6.toNat = i0 ∧ i0 < ws.length ∧ VarPlain.dig ws k i0 + 1 = VarPlain.wl ws i0)
        clear hx6 hj1 hy hy3 hwl h6t hmax hd hpj
        go_wp2
        go_quiet (fail)
        go_wp2
        go_roundg (gk - 1)
        case measure => have := HJ1.out; omega
        case rel =>
         obtain ⟨e1, e2, e3⟩ := HI0.out
         have HP1 := Kd.R_putg (Kd.R_drewN HA.out nq) x6 (0 : Int)
         refine ⟨i0, ?_, ⟨⟨by have := HJ1.out; omega, by omega⟩⟩, ⟨?_⟩, ⟨?_⟩, ⟨?_⟩⟩
         ·have := HX6.out
          have hb1 := HL.out
          first | (congr 1; unfold wrap64; omega) | (congr 1; omega)
         ·intro x h1 h2
          by_cases hx : x = i0
          ·rw [hx]; exact e3
          ·exact HM.out x (by omega) h2
         ·exact World.grownBy.trans HG.out (World.grownBy.trans (grown_of_below (pw_below_drewN (Below.refl _ _) nq) _) (by rw [← HS.out]; exact HP1.2))
         ·have z := HP1.1
          rw [e1, headOf_clear _ _ (by rw [digsOf_length]; exact e2)] at z
          rw [e1]
          exact z
       ·have htest : (y == ((rd_L1 ws x6).length : Int) - 1) = false := beq_eq_false_iff_ne.2 (by omega)
        have HI0 := Aside0.mk (⟨h6t, hi0, hmax, hy⟩ : x6.toNat = i0 ∧ i0 < ws.length ∧ ¬ VarPlain.dig ws k i0 + 1 = VarPlain.wl ws i0 ∧ y = (VarPlain.dig ws k i0 : Int))
        clear hx6 hj1 hy hy3 hwl h6t hmax hd hpj
        go_wp2
        go_quiet (fail)
        go_wp2
        go_roundg (og - 1)
        case measure => have := HOG.out; have := HK.out; omega
        case rel =>
         obtain ⟨e1, e2, e3, e4⟩ := HI0.out
         have hdl := VarPlain.dig_lt ws HP.out k i0 e2
         have hnl := VarPlain.not_last_row ws HP.out k i0 hkN e2 (by omega)
         have HP1 := Kd.R_putg (Kd.R_drewN HA.out nq) x6 (y + 1)
         have hg1 : wr.grownBy ((wr.drewN nq).setCell ⟨W1.heap.size, x6.toNat, none⟩ (.int .i64 (y + 1))) (some (S0 + 2)) := World.grownBy.trans (grown_of_below (pw_below_drewN (Below.refl _ _) nq) _) (by rw [← HS.out]; exact HP1.2)
         refine ⟨k + 1, ⟨⟨by have := HK.out; omega, by have := HK.out; omega⟩⟩, ⟨?_⟩, ⟨?_⟩, ⟨?_⟩, ⟨?_⟩, ⟨?_⟩⟩
         ·exact HJ.out _ _ _ hJ3.out hg1
         ·exact blk_grown hB2.out hg1 (by intro e2_; injection e2_ with e2_; omega)
         ·exact Kd.R_grown hW2.out hg1 (fun b e_ => by intro e2_; injection e2_ with e2_; have := e_.1; omega)
         ·have z := HP1.1
          rw [e1, e4, digsOf_next ws HP.out k i0 e2 (fun j h1 h2 => HM.out j h1 h2) (by omega)] at z
          rw [e1, e4]
          exact z
         ·exact Nat.le_trans hS5.out hg1.size
    ·clear hA0 hW0 hB0 hS3 hy hRd
     gi_wp2
     go_wp2
     refine bodyPost_ret (results_none rfl _ _ _) rfl ?_
     exact ⟨⟨_, rfl⟩, .inr ⟨_, hJx'⟩⟩
/-! ### All -/
section
variable {F : Fence} {nF : Nat} {P : Program} {ops : Array Oper} {rest : List Oper} {o : Oper} {a : Act} {Q : Exit → Act → World → Prop} {α : Type}
theorem R_append_in (d : Kd α) {W : World} (base : Nat) (hgd : o.guard = none) (s x : Operand) (t e : TypeId) (z : Value) (bytes : Nat)
  (ho : o.op = .call { callee := .builtin .append, args := #[s, x], argTypes := #[t, t] })
  (ht : P.underlying t = some (.slice e)) (hinfo : (P.info? e).map (fun i => (i.zero, i.size, i.bytes)) = some (some z, d.sz, bytes)) (hz : z.cells.size = d.sz) (hs0 : 0 < d.sz) (hb0 : 0 < bytes)
  (v : Value) (xs : List α) (p : α) (cs : List Value) (ok okp : Nat → Prop) (hs : a.eval s = v) (hx : a.eval x = .slice (some ⟨W.heap.size, 0, none⟩) 1 1) (hp : d.M W base okp p cs) (hokp : ∀ k, okp k → ok k ∧ some k ≠ v.ownBlock) (hfresh : ∀ k, W.heap.size ≤ k → ok k)
  (HO : d.R e W base ok v xs) (hbase : base ≤ W.heap.size) (hl : (xs.length + 1) * bytes ≤ 140737488355328)
  (h : ∀ v1 w1, d.R e w1 base ok v1 (xs ++ [p]) → W.grownBy w1 v.ownBlock → wpListIn F nF P ops Q rest (a.put o.dst v1) w1) :
  wpListIn F nF P ops Q (o :: rest) a (W.alloc (.cells cs.toArray e)) := by
 obtain ⟨h0, inner, hown, hr⟩ := HO
 obtain ⟨i0, hi, hzz⟩ := Option.map_eq_some_iff.1 hinfo
 simp only [Prod.mk.injEq] at hzz
 obtain ⟨hz0, hz1, hz2⟩ := hzz
 have hlen : xs.length + 1 ≤ 140737488355328 := Nat.le_trans (Nat.le_mul_of_pos_right _ hb0) hl
 have hcs : cs.length = d.sz := d.K_len (d.K_of_M hp)
 refine wpListIn_append_own_at (W.alloc (.cells cs.toArray e)) hgd s x t ho base e i0 z d.sz bytes ht hi hz0 hz1 hz2 hz hs0 v xs.length inner hs (hown.alloc _) ⟨W.heap.size, 0, none⟩ 1 1 cs hx (by rw [hcs]; simp)
  (by simpa using World.news_of_block (cs := cs.toArray) (t := e) (fr := (0, 0)) (heap_alloc_new W (.cells cs.toArray e))) (d.K_one (d.K_of_M hp)) (by simp only [maxLen]; omega) hl (by simp; omega) ?_
 intro v1 w1 hown1 hg _ hat
 have hg1 : W.grownBy w1 v.ownBlock := World.grownBy.trans (World.grownBy_alloc W _ _) hg
 refine h v1 w1 (Kd.R_appended h0 hr hp hokp hfresh hown1 hg1 ?_) hg1
 rcases hat with hat | hat
 ·exact .inl hat
 ·exact .inr ⟨_, hat, by simp⟩
theorem S_append_in (d : Kd α) {W : World} (base : Nat) (hgd : o.guard = none) (s x : Operand) (t e : TypeId) (z : Value) (bytes : Nat)
  (ho : o.op = .call { callee := .builtin .append, args := #[s, x], argTypes := #[t, t] })
  (ht : P.underlying t = some (.slice e)) (hinfo : (P.info? e).map (fun i => (i.zero, i.size, i.bytes)) = some (some z, d.sz, bytes)) (hz : z.cells.size = d.sz) (hs0 : 0 < d.sz) (hb0 : 0 < bytes)
  (v : Value) (xs : List α) (p : α) (cs : List Value) (ok okp : Nat → Prop) (hs : a.eval s = v) (hx : a.eval x = .slice (some ⟨W.heap.size, 0, none⟩) 1 1) (hp : d.M W base okp p cs) (hokp : ∀ k, okp k → ok k ∧ some k ≠ v.ownBlock) (hfresh : ∀ k, W.heap.size ≤ k → ok k)
  (HO : Kd.S d e W base (fun k => ok k ∧ ¬ okp k) v xs) (hbase : base ≤ W.heap.size) (hl : (xs.length + 1) * bytes ≤ 140737488355328)
  (h : ∀ v1 w1, Kd.S d e w1 base ok v1 (xs ++ [p]) → W.grownBy w1 v.ownBlock → wpListIn F nF P ops Q rest (a.put o.dst v1) w1) :
  wpListIn F nF P ops Q (o :: rest) a (W.alloc (.cells cs.toArray e)) := by
 obtain ⟨f, hf, hR⟩ := Kd.S_tag HO xs.length okp (fun _ hk h2 => h2.2 hk)
 refine R_append_in (Kd.tag f d) base hgd s x t e z bytes ho ht hinfo hz hs0 hb0 v xs.zipIdx (p, xs.length) cs ok okp hs hx (d.M_mono (fun k hk => ⟨hk, hf k hk⟩) hp) hokp hfresh (Kd.R_mono hR (fun _ hk => hk.1)) hbase (by rw [List.length_zipIdx]; exact hl) ?_
 intro v1 w1 hr
 rw [← Kd.zip_snoc] at hr
 exact h v1 w1 ⟨f, hr⟩
end
def variants_All.f (k : Nat) (a0_0 : ByteArray) (l0_1 : List (List Int)) (l1 : List Int) (a2 : Int) : Option (List (List Int)) :=
 if a2 < 1 then some [] else (variants_Seq.f k a0_0 l0_1 l1).bind fun ws => (if ws.length < 1000 then (if ws.all (fun x => decide (0 < x.length)) = true then (if min a2.toNat (VarPlain.prod ws) < 1000000000000 then some ((List.range (min a2.toNat (VarPlain.prod ws))).map (VarPlain.row ws)) else none) else none) else none)
theorem variants_All.mono : ∀ a0 a1 a2 a3 k, LeO (variants_All.f k a0 a1 a2 a3) (variants_All.f (k + 1) a0 a1 a2 a3) := by
 intro a0 a1 a2 a3 k
 unfold variants_All.f
 repeat' first
   | (with_reducible exact variants_Seq.mono _ _ _ _)
   | (with_reducible exact LeO.refl _)
   | (with_reducible exact LeO.none _)
   | (with_reducible refine LeO.ite ?_ ?_)
   | (with_reducible refine LeO.bind ?_ (fun _ => ?_))
attribute [local go_sem] Oper.semAt_some
/-- the rows that have come. -/
def rowsOf (ws : List (List Int)) (k : Nat) : List (List Int) := (List.range k).map (VarPlain.row ws)
theorem rowsOf_succ (ws : List (List Int)) (k : Nat) : rowsOf ws (k + 1) = rowsOf ws k ++ [VarPlain.row ws k] := by simp [rowsOf, List.range_succ]
theorem rowsOf_length (ws : List (List Int)) (k : Nat) : (rowsOf ws k).length = k := by simp [rowsOf]
/-- what All's own memory holds between two rounds. -/
structure AllInv (w : World) (S0 go gm : Nat) (a2 : Int) (ws : List (List Int)) (k : Nat) (W : World) : Prop where
 out : ∃ v, W.heap[go]? = some (.cells #[v] 22 (0, 0)) ∧ Kd.S (Kd.slice 21 (Kd.int .i32)) 25 W w.heap.size (fun b => S0 + 3 ≤ b) v (rowsOf ws k)
 most : W.heap[gm]? = some (.cells #[.int .i64 a2] 3 (0, 0))
 bel : Below w.heap.size w W
theorem AllInv.grown {w : World} {S0 go gm : Nat} {a2 : Int} {ws : List (List Int)} {k : Nat} {W W' : World} (h : AllInv w S0 go gm a2 ws k W) (h1 : go < S0) (h2 : gm < S0) (h3 : w.heap.size ≤ S0) {row : Option Nat} (hg : W.grownBy W' row) (hr : ∀ r, row = some r → S0 ≤ r ∧ r ≤ S0 + 2) : AllInv w S0 go gm a2 ws k W' := by
 obtain ⟨⟨v, hv, hS⟩, hm, hb⟩ := h
 exact ⟨⟨v, blk_grown hv hg (fun e => by have := hr _ e.symm; omega), Kd.S_grown hS hg (fun b hb' e => by have := hr _ e.symm; omega)⟩, blk_grown hm hg (fun e => by have := hr _ e.symm; omega), hb.grown hg hb.size (fun r e => by have := hr _ e; omega)⟩
theorem AllInv.step {w : World} {S0 b0 L go gm : Nat} {a2 : Int} {ws : List (List Int)} {k : Nat} {W w1 : World} {vo v1 : Value} (hv : W.heap[go]? = some (.cells #[vo] 22 (0, 0))) (hm : W.heap[gm]? = some (.cells #[.int .i64 a2] 3 (0, 0))) (hS : Kd.S (Kd.slice 21 (Kd.int .i32)) 25 W w.heap.size (fun b => S0 + 3 ≤ b ∧ b < L) vo (rowsOf ws k)) (hb : Below w.heap.size w W)
  (hS1 : Kd.S (Kd.slice 21 (Kd.int .i32)) 25 w1 w.heap.size (fun b => S0 + 3 ≤ b) v1 (rowsOf ws (k + 1))) (hg1 : W.grownBy w1 vo.ownBlock) (hgo : go < b0) (hgm : gm < b0) (hb0 : b0 ≤ S0) (hne : go ≠ gm) (hsz : S0 + 3 ≤ W.heap.size) (hwgo : w.heap.size ≤ go) :
  KpB b0 S0 W (w1.setCell ⟨go, 0, none⟩ v1) ∧ AllInv w S0 go gm a2 ws (k + 1) (w1.setCell ⟨go, 0, none⟩ v1) := by
 have hg3 := blk_grown hv hg1 (Kd.S_away hS (fun x hx => by omega))
 have hm3 := blk_grown hm hg1 (Kd.S_away hS (fun x hx => by omega))
 refine ⟨⟨?_, fun b h1 h2 => ?_⟩, ⟨⟨_, blk_put hg3 0 _ rfl, Kd.S_far (p := ⟨go, 0, none⟩) hS1 (fun b hb => by simp only; omega) _⟩, blk_far hm3 hne.symm _, below_set (hb.grown hg1 hb.size (fun r e => Kd.S_base hS r e)) hwgo⟩⟩
 ·have := hg1.size
  simpa [World.setCell] using this
 ·exact (Below.heap_setCell w1 ⟨go, 0, none⟩ v1 b (by simp only; omega)).trans (hg1.block b (by omega) (Kd.S_away hS (fun x hx => by omega)))
set_option maxHeartbeats 8000000 in
set_option maxRecDepth 100000 in
theorem variants_All.calls (k : Nat) (a0_0 : ByteArray) (A0_1 : Option Addr) (c0_1 : Nat) (l0_1 : List (List Int)) (A1 : Option Addr) (c1 : Nat) (l1 : List Int) (a2 : Int) (r : List (List Int)) (w : World) (hr0_1 : Kd.C (Kd.slice 21 (Kd.int .i32)) w A0_1 l0_1.length l0_1) (hc0_1 : l0_1.length ≤ c0_1) (hr1 : Kd.C (Kd.int .i32) w A1 l1.length l1) (hc1 : l1.length ≤ c1) (h : variants_All.f k a0_0 l0_1 l1 a2 = some r) :
  Calls Tryd.prog 8 #[.agg #[.string a0_0, .slice A0_1 l0_1.length c0_1], .slice A1 l1.length c1, .int .i64 a2] w fun e w' => ∃ v0_ : Value, e = .returned (v0_) ∧ Kd.S (Kd.slice 21 (Kd.int .i32)) 25 w' w.heap.size (fun _ => True) v0_ r ∧ Below w.heap.size w w' := by
 have hu24 := Tryd.underlying24
 have HR0_1 := Aside0.mk hr0_1
 have HC0_1 := Aside0.mk hc0_1
 clear hr0_1 hc0_1
 have HR1 := Aside0.mk hr1
 have HC1 := Aside0.mk hc1
 clear hr1 hc1
 have HB := Aside0.mk (Below.refl w.heap.size w)
 unfold variants_All.f at h
 refine (callsIn_wide (n := 1)).1 ?_
 refine callsIn_of_wp_marks Tryd.func8 rfl trivial ?_ rfl
 simp only [Tryd.ntmps8, List.size_toArray, List.length_cons, List.length_nil, Nat.reduceAdd, Nat.reduceSub, Array.replicate_succ, Array.replicate_zero, List.push_toArray, List.append_toArray, List.nil_append, List.cons_append]
 refine (wpIn_wide (n := 1)).2 ?_
 by_cases h1 : a2 < 1
 ·rw [if_pos h1] at h
  obtain rfl := Option.some.inj h
  have hb1 : decide (a2 < 1) = true := decide_eq_true h1
  go_wp2
  refine ⟨_, results_tmp rfl _ _ _, _, rfl, Kd.S_nil _ _ _ _ _, ?_⟩
  repeat (first | exact HB.out | apply below_alloc)
 ·rw [if_neg h1] at h
  replace h := Option.bind_eq_some_iff.mp h
  obtain ⟨ws, hws, h⟩ := h
  by_cases h2 : ws.length < 1000
  rotate_left
  ·rw [if_neg h2] at h; exact absurd h (by simp)
  rw [if_pos h2] at h
  by_cases h3 : ws.all (fun x => decide (0 < x.length)) = true
  rotate_left
  ·rw [if_neg h3] at h; exact absurd h (by simp)
  rw [if_pos h3] at h
  by_cases h4 : min a2.toNat (VarPlain.prod ws) < 1000000000000
  rotate_left
  ·rw [if_neg h4] at h; exact absurd h (by simp)
  rw [if_pos h4] at h
  obtain rfl := Option.some.inj h
  have HWS := Aside0.mk hws
  have H2 := Aside0.mk h2
  have H3 := Aside0.mk h3
  have H4 := Aside0.mk h4
  have hb1 : decide (a2 < 1) = false := decide_eq_false h1
  clear h hws h2 h3 h4
  go_wp2_with (first | ((with_reducible refine gate_dst (N := 3) rfl ?_); refine box_event ?hg (N := 3) ?hd (cs := #[.string a0_0, .slice A0_1 l0_1.length c0_1]) (t := 24) ?hr ?_; (case hd => rfl); (case hg => rfl); (case hr => first | (go_simp; done) | (go_simp; rfl)); intro gb hg w3 hbox hb; have n0_ := Aside0.mk (below_step HB.out hb); have BK := Aside0.mk (hbox); have hz0 := (blk_cell BK.out 0).trans rfl; have hz1 := (blk_cell BK.out 1).trans rfl; clear HB; have HB := n0_; clear n0_; clear hb hbox hg) | ((with_reducible refine gate_dst (N := 5) rfl ?_); refine box_event ?hg (N := 5) ?hd (cs := #[.int .i64 a2]) (t := 3) ?hr ?_; (case hd => rfl); (case hg => rfl); (case hr => first | (go_simp; done) | (go_simp; rfl)); intro gm hg w4 hbox hb; have GM := Aside0.mk (show gm < w4.heap.size from blk_lt hbox); have n0_ := Aside0.mk (below_step HB.out hb); have n1_ := Aside0.mk (blk_below BK.out hb); clear HB BK hz0 hz1; have HB := n0_; have BK := n1_; have BM := Aside0.mk hbox; clear n0_ n1_ hb hbox hg; have hz0 := (blk_cell BK.out 0).trans rfl; have hz1 := (blk_cell BK.out 1).trans rfl; have hzm := (blk_cell BM.out 0).trans rfl) | ((with_reducible refine gate_dst (N := 7) rfl ?_); refine box_event ?hg (N := 7) ?hd (cs := #[.slice none 0 0]) (t := 22) ?hr ?_; (case hd => rfl); (case hg => rfl); (case hr => first | (go_simp; done) | (go_simp; rfl)); intro go hg w5 hbox hb; have GV := Aside0.mk ((by rw [hg]; exact (below_size HB.out) : w.heap.size ≤ go)); have n0_ := Aside0.mk (below_step HB.out hb); have n1_ := Aside0.mk (blk_below BK.out hb); have n2_ := Aside0.mk (blk_below BM.out hb); clear HB BK BM hz0 hz1 hzm; have HB := n0_; have BK := n1_; have BM := n2_; have BO := Aside0.mk hbox; clear n0_ n1_ n2_ hb hbox hg; have hz0 := (blk_cell BK.out 0).trans rfl; have hz1 := (blk_cell BK.out 1).trans rfl; have hzm := (blk_cell BM.out 0).trans rfl))
  have hGW := GV.out
  have hne : go ≠ gm := blk_ne BO.out BM.out (by decide)
  have HNE := Aside0.mk hne
  clear hne
  refine (variants_Seq.calls k a0_0 A0_1 c0_1 l0_1 A1 c1 l1 ws _ (Kd.C_below HR0_1.out HB.out) HC0_1.out (Kd.C_below HR1.out HB.out) HC1.out HWS.out).mono ?_
  rintro e w6 ⟨g, vw, rfl, hbw, hgw, hRw, hb⟩
  have hBO := Aside0.mk (blk_below BO.out hb)
  have hBM := Aside0.mk (blk_below BM.out hb)
  have HB6 := Aside0.mk (below_step HB.out hb)
  have hgo5 := blk_lt BO.out
  have hgm5 := blk_lt BM.out
  have hs56 := hb.size
  have HRW := Aside0.mk hRw
  have HBW := Aside0.mk hbw
  clear HB BK BM BO hz0 hz1 hzm hb hRw hbw
  go_wp2
  have hpos : ∀ j, j < ws.length → 0 < VarPlain.wl ws j := fun j hj => by
   have := List.all_eq_true.1 H3.out (ws[j]) (List.getElem_mem hj)
   unfold VarPlain.wl
   rw [List.getD_eq_getElem?_getD, List.getElem?_eq_getElem hj]
   simpa using this
  have hgw6 := blk_lt HBW.out
  have hb16 : Below w.heap.size w w6 := HB6.out
  refine wp_range_rows (n := 1) (gf := 30) (lb := #[.pointer (some ⟨g, 0, none⟩)]) rfl (fun args w => enters_ Tryd.func30 (by kernel_rfl) rfl args w) (b0 := w5.heap.size) (N := VarPlain.prod ws) (rowf := VarPlain.row ws) hs56 rfl
   (fun W1 hb1 hs1 => variants_Seq1.iter w6.heap.size w5.heap.size g vw ws W1 hs1 hgw hgw6 (blk_below HBW.out hb1) (Kd.R_mono (Kd.R_below (Kd.R_bound HRW.out) hb1) (fun k hk => ⟨hk.2.2.1, hk.1⟩)) hpos H2.out)
   (fun k W => AllInv w w6.heap.size go gm a2 ws k W ∧ (k : Int) < a2)
   (fun c k W => c = .exit 0 ∧ (k : Int) = a2 ∧ k ≤ VarPlain.prod ws ∧ AllInv w w6.heap.size go gm a2 ws k W)
   (fun k W W' row hi hg hr => ⟨hi.1.grown (by omega) (by omega) hb16.size hg hr, hi.2⟩)
   (fun c k W W' row hi hg hr => ⟨hi.1, hi.2.1, hi.2.2.1, hi.2.2.2.grown (by omega) (by omega) hb16.size hg hr⟩)
   ⟨⟨⟨_, hBO.out, Kd.S_nil _ _ _ _ _⟩, hBM.out, hb16⟩, by omega⟩
   (fun v => { tmps := #[.agg #[.string a0_0, .slice A0_1 l0_1.length c0_1], .slice A1 l1.length c1, .int .i64 a2, .pointer (some ⟨gb, 0, none⟩), undef, .pointer (some ⟨gm, 0, none⟩), .slice none 0 0, .pointer (some ⟨go, 0, none⟩), v, .int .i64 a2, .bool false, .agg #[.string a0_0, .slice A0_1 l0_1.length c0_1], .slice A1 l1.length c1, .func (.func 30) #[] #[.pointer (some ⟨g, 0, none⟩)], v, undef, undef, undef, undef, undef, undef, undef, undef, undef], defers := [] })
   ?assign ?body ?done ?stop
  case assign =>
   intro l v W K hK
   gi_wp2
   exact hK
  case body =>
   rintro k v Wl W hkN ⟨hI, hka⟩ hKO hS3 hrow
   obtain ⟨Ar, cr, rfl⟩ := Kd.R_slice hrow
   obtain ⟨⟨vo, hv, hS⟩, hm, hbel⟩ := hI
   have hvW : W.heap[go]? = some (.cells #[vo] 22 (0, 0)) := (hKO.block go (by omega) (.inl (by omega))).trans hv
   have hmW : W.heap[gm]? = some (.cells #[.int .i64 a2] 3 (0, 0)) := (hKO.block gm (by omega) (.inl (by omega))).trans hm
   have hSW : Kd.S (Kd.slice 21 (Kd.int .i32)) 25 W w.heap.size (fun b => w6.heap.size + 3 ≤ b ∧ b < Wl.heap.size) vo (rowsOf ws k) :=
    Kd.S_mono (Kd.S_step (Kd.S_bound hS) (fun b hb hlt => hKO.block b hlt (.inr (by omega)))) (fun b hb => ⟨hb.1, hb.2.2.1⟩)
   have hbW : Below w.heap.size w W := ⟨hKO.os.trans hbel.os, hKO.tape.trans hbel.tape, hKO.output.trans hbel.output, Nat.le_trans hbel.size hKO.size, fun b hb => (hKO.block b (by omega) (.inl (by omega))).trans (hbel.block b hb)⟩
   obtain ⟨Ao, co, rfl⟩ := Kd.S_slice hSW
   have hWl := hKO.size
   have hco : W.cell? ⟨go, 0, none⟩ = some (.slice Ao (rowsOf ws k).length co) := (blk_cell hvW 0).trans rfl
   obtain ⟨k1, hk1⟩ : ∃ k1 : Nat, k1 = k + 1 := ⟨_, rfl⟩
   have HK1 := Aside0.mk hk1
   clear hk1
   have HVW := Aside0.mk hvW
   have HMW := Aside0.mk hmW
   have HSW := Aside0.mk hSW
   have HBW2 := Aside0.mk hbW
   have HROW := Aside0.mk hrow
   clear hv hS hm hbel hvW hmW hSW hbW hrow
   have hrow1 : Kd.S (Kd.slice 21 (Kd.int .i32)) 25 W w.heap.size (fun b => (w6.heap.size + 3 ≤ b) ∧ ¬ Wl.heap.size ≤ b) (.slice Ao (rowsOf ws k).length co) (rowsOf ws k) := Kd.S_mono HSW.out (fun b hb => ⟨hb.1, by omega⟩)
   have hpM : (Kd.slice 21 (Kd.int .i32)).M W w.heap.size (fun b => Wl.heap.size ≤ b) (VarPlain.row ws k) [.slice Ar (VarPlain.row ws k).length cr] := ⟨_, rfl, Kd.R_lower (Kd.R_mono (Kd.R_bound HROW.out) (fun b hb => hb.2.1)) (by omega)⟩
   have hokp : ∀ b, Wl.heap.size ≤ b → w6.heap.size + 3 ≤ b ∧ some b ≠ (Value.slice Ao (rowsOf ws k).length co).ownBlock := fun b hb => ⟨by omega, Kd.S_away HSW.out (fun x hx => by omega)⟩
   have hfresh : ∀ b, W.heap.size ≤ b → w6.heap.size + 3 ≤ b := fun b hb => by omega
   have HF := Aside0.mk (⟨hrow1, hpM, hokp, hfresh⟩ : _ ∧ _ ∧ _ ∧ _)
   clear hrow1 hpM hokp hfresh
   have hlim : ((rowsOf ws k).length + 1) * 24 ≤ 140737488355328 := by
    rw [rowsOf_length]
    have := H4.out
    omega
   have HLIM := Aside0.mk hlim
   clear hlim
   have HKO := Aside0.mk hKO
   clear hKO
   have hbase : w.heap.size ≤ W.heap.size := by omega
   by_cases hend : a2 ≤ (k1 : Int)
   ·have hend1 : decide (a2 ≤ (k1 : Int)) = true := decide_eq_true hend
    gi_wp2_with (first | (gi_at_builtin; refine S_append_in (Kd.slice 21 (Kd.int .i32)) (W := W) w.heap.size rfl (.tmp 15) (.tmp 17) 22 25 (.slice none 0 0) 24 rfl Tryd.underlying22 info25 rfl (by decide) (by decide) (.slice Ao (rowsOf ws k).length co) (rowsOf ws k) (VarPlain.row ws k) [.slice Ar (VarPlain.row ws k).length cr] (fun b => w6.heap.size + 3 ≤ b) (fun b => Wl.heap.size ≤ b) rfl rfl HF.out.2.1 HF.out.2.2.1 HF.out.2.2.2 HF.out.1 hbase HLIM.out ?_; intro v1 w1 hS1 hg1; rw [← rowsOf_succ] at hS1; obtain ⟨Av, cv, e1⟩ := Kd.S_slice hS1; rw [rowsOf_length, ← HK1.out] at e1; subst e1; have hg3 := blk_grown HVW.out hg1 (Kd.S_away HSW.out (fun x hx => by omega)); have hm3 := blk_grown HMW.out hg1 (Kd.S_away HSW.out (fun x hx => by omega)); have hco1 : w1.cell? ⟨go, 0, none⟩ = some (.slice Ao (rowsOf ws k).length co) := (blk_cell hg3 0).trans rfl; have hf1 := blk_frozen hg3 0; have hcm1 : ∀ u, (w1.setCell ⟨go, 0, none⟩ u).cell? ⟨gm, 0, none⟩ = some (.int .i64 a2) := (fun u => (blk_cell (blk_far hm3 (Ne.symm HNE.out) u) 0).trans rfl); have hco2 : ∀ u, u.oneCell' = true → (w1.setCell ⟨go, 0, none⟩ u).cell? ⟨go, 0, none⟩ = some u := (fun u _ => (blk_cell (blk_put hg3 0 u rfl) 0).trans rfl); have HST := Aside0.mk (AllInv.step (b0 := w5.heap.size) HVW.out HMW.out HSW.out HBW2.out hS1 hg1 (by omega) (by omega) (by omega) HNE.out (by omega) hGW); clear hS1 hg1 hg3 hm3))
    exact ⟨HST.out.1, rfl, by have := HK1.out; omega, by omega, HST.out.2⟩
   ·have hend1 : decide (a2 ≤ (k1 : Int)) = false := decide_eq_false hend
    gi_wp2_with (first | (gi_at_builtin; refine S_append_in (Kd.slice 21 (Kd.int .i32)) (W := W) w.heap.size rfl (.tmp 15) (.tmp 17) 22 25 (.slice none 0 0) 24 rfl Tryd.underlying22 info25 rfl (by decide) (by decide) (.slice Ao (rowsOf ws k).length co) (rowsOf ws k) (VarPlain.row ws k) [.slice Ar (VarPlain.row ws k).length cr] (fun b => w6.heap.size + 3 ≤ b) (fun b => Wl.heap.size ≤ b) rfl rfl HF.out.2.1 HF.out.2.2.1 HF.out.2.2.2 HF.out.1 hbase HLIM.out ?_; intro v1 w1 hS1 hg1; rw [← rowsOf_succ] at hS1; obtain ⟨Av, cv, e1⟩ := Kd.S_slice hS1; rw [rowsOf_length, ← HK1.out] at e1; subst e1; have hg3 := blk_grown HVW.out hg1 (Kd.S_away HSW.out (fun x hx => by omega)); have hm3 := blk_grown HMW.out hg1 (Kd.S_away HSW.out (fun x hx => by omega)); have hco1 : w1.cell? ⟨go, 0, none⟩ = some (.slice Ao (rowsOf ws k).length co) := (blk_cell hg3 0).trans rfl; have hf1 := blk_frozen hg3 0; have hcm1 : ∀ u, (w1.setCell ⟨go, 0, none⟩ u).cell? ⟨gm, 0, none⟩ = some (.int .i64 a2) := (fun u => (blk_cell (blk_far hm3 (Ne.symm HNE.out) u) 0).trans rfl); have hco2 : ∀ u, u.oneCell' = true → (w1.setCell ⟨go, 0, none⟩ u).cell? ⟨go, 0, none⟩ = some u := (fun u _ => (blk_cell (blk_put hg3 0 u rfl) 0).trans rfl); have HST := Aside0.mk (AllInv.step (b0 := w5.heap.size) HVW.out HMW.out HSW.out HBW2.out hS1 hg1 (by omega) (by omega) (by omega) HNE.out (by omega) hGW); clear hS1 hg1 hg3 hm3))
    exact ⟨HST.out.1, HST.out.2, by have := HK1.out; omega⟩
  case done =>
   rintro W ⟨hI, hka⟩ hD
   obtain ⟨⟨v, hv, hS⟩, hm, hbel⟩ := hI
   obtain ⟨Av, cv, rfl⟩ := Kd.S_slice hS
   have hco : W.cell? ⟨go, 0, none⟩ = some (.slice Av (rowsOf ws (VarPlain.prod ws)).length cv) := (blk_cell hv 0).trans rfl
   have HS1 := Aside0.mk hS
   have HBE := Aside0.mk hbel
   clear hS hbel hm hv
   go_wp2
   refine ⟨by simp, .inl ⟨_, _, rfl, run_takeDeferred hD, ?_⟩⟩
   refine ⟨_, results_tmp rfl _ _ _, _, rfl, ?_, ?_⟩
   ·have e1 : (List.range (min a2.toNat (VarPlain.prod ws))).map (VarPlain.row ws) = rowsOf ws (VarPlain.prod ws) := by
     rw [show min a2.toNat (VarPlain.prod ws) = (VarPlain.prod ws) from by omega]; rfl
    rw [e1]
    exact Kd.S_mono (Kd.S_step HS1.out (fun b hb _ => World.putObj_heap_other (by omega))) (fun _ _ => trivial)
   ·exact HBE.out.trans ((Below.refl _ W).grown (grownBy_putObj' W _ _) HBE.out.size (fun r e => by cases e; omega))
  case stop =>
   rintro c k W ⟨rfl, hka, hkp, hI⟩ hD
   obtain ⟨⟨v, hv, hS⟩, hm, hbel⟩ := hI
   obtain ⟨Av, cv, rfl⟩ := Kd.S_slice hS
   have hco : W.cell? ⟨go, 0, none⟩ = some (.slice Av (rowsOf ws k).length cv) := (blk_cell hv 0).trans rfl
   have HS1 := Aside0.mk hS
   have HBE := Aside0.mk hbel
   clear hS hbel hm hv
   refine (wpIn_wide (n := 1)).2 ?_
   go_wp2
   refine ⟨by simp, .inl ⟨_, _, rfl, run_takeDeferred hD, ?_⟩⟩
   refine ⟨_, results_tmp rfl _ _ _, _, rfl, ?_, ?_⟩
   ·have e1 : (List.range (min a2.toNat (VarPlain.prod ws))).map (VarPlain.row ws) = rowsOf ws k := by
     rw [show min a2.toNat (VarPlain.prod ws) = k from by omega]; rfl
    rw [e1]
    exact Kd.S_mono (Kd.S_step HS1.out (fun b hb _ => World.putObj_heap_other (by omega))) (fun _ _ => trivial)
   ·exact HBE.out.trans ((Below.refl _ W).grown (grownBy_putObj' W _ _) HBE.out.size (fun r e => by cases e; omega))
end

end Go.Proofs.YtohnahbjmcelfaaDoor.V
