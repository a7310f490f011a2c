/- The plain law of the variants' rows: the iterator's wheels, the rows counted like digits, and that the first rows are those that the reference tells. No condition beside the sizes that each lemma names. -/
import Derived.Test.YtohnahbjmcelfaaVall
import Derived.Test.YtohnahbjmcelfaaPure3
namespace Go.Proofs.Ytohnahbjmcelfaa.V
open Go.RowKit Go.Proofs.YtohnahbjmcelfaaW.PrintWords Go.Proofs.YtohnahbjmcelfaaW.PrintLast Go.Proofs.YtohnahbjmcelfaaW.PrintMore
open VarPlain (setOf wheel prod wl from_ dig row)

def wheels (s : List (List Int)) (l : List Int) : List (List Int) := l.map (wheel s)
theorem wheels_length (s : List (List Int)) (l : List Int) : (wheels s l).length = l.length := by simp [wheels]
theorem wheels_at (s : List (List Int)) (l : List Int) (j : Nat) (h : j < l.length) : (wheels s l).getD j [] = wheel s (l.getD j 0) := by
  simp [wheels, List.getD_eq_getElem?_getD, h]
theorem wheel_pos (s : List (List Int)) (r : Int) : 0 < (wheel s r).length := by
  unfold wheel
  split
  · simp
  · next h => exact List.length_pos_iff.2 h
theorem wheel_mx (s : List (List Int)) (r : Int) : ((wheel s r).length : Int) = mx ((setOf s r).length : Int) 1 := by
  unfold wheel
  split
  · next h => rw [h]; rfl
  · next h =>
    have := List.length_pos_iff.2 h
    unfold mx
    split <;> omega
theorem wheels_wl (s : List (List Int)) (l : List Int) (j : Nat) (h : j < (wheels s l).length) : 0 < wl (wheels s l) j := by
  rw [wheels_length] at h
  unfold VarPlain.wl
  rw [wheels_at s l j h]
  exact wheel_pos s _
theorem prod_wheels (s : List (List Int)) (l : List Int) : 0 < prod (wheels s l) := VarPlain.prod_pos' _ (wheels_wl s l)

theorem seq_ev (a : ByteArray) (s : List (List Int)) (hs : Fine s) (l : List Int) (hl : l.length ≤ 900) : Ev (fun k => variants_Seq.f k a s l) (wheels s l) := by
  have l0 : ∀ (d i : Nat), i + d = l.length → Ev (fun k => variants_Seq.l0 k (wheels s (l.take i) ++ List.replicate (l.length - i) []) (l.length : Int) (i : Int) a s l) (wheels s l) := by
    intro d
    induction d with
    | zero =>
      intro i hi
      refine Ev.step (f := fun _ => some (wheels s (l.take i) ++ List.replicate (l.length - i) [])) (fun k => by simp only [variants_Seq.l0]; rw [if_neg (by omega)]) ?_
      rw [List.take_of_length_le (by omega), show l.length - i = 0 by omega, List.replicate_zero, List.append_nil]
      exact Ev.now _
    | succ d ih =>
      intro i hi
      have hlt : i < l.length := by omega
      have hkl : (wheels s (l.take i)).length = i := by rw [wheels_length, List.length_take]; omega
      have hnext : wheels s (l.take (i + 1)) ++ List.replicate (l.length - (i + 1)) [] = (wheels s (l.take i) ++ List.replicate (l.length - i) []).set i (wheel s (l.getD i 0)) := by
        rw [List.take_succ_eq_append_getElem hlt, List.getD_eq_getElem?_getD, List.getElem?_eq_getElem hlt]
        rw [List.set_append_right _ _ (by omega), hkl, Nat.sub_self, show l.length - i = (l.length - (i + 1)) + 1 by omega, List.replicate_succ, List.set_cons_zero]
        unfold wheels
        rw [List.map_append, List.append_assoc]
        rfl
      have hih := ih (i + 1) (by omega)
      rw [hnext] at hih
      have hlen : (wheels s (l.take i) ++ List.replicate (l.length - i) ([] : List Int)).length = l.length := by rw [List.length_append, hkl, List.length_replicate]; omega
      refine Ev.step (f := fun k => (variants_Set.f k a s (l.getD i 0)).bind fun t => (if (t.length : Int) = 0 then variants_Seq.l0 k ((wheels s (l.take i) ++ List.replicate (l.length - i) []).set i [l.getD i 0]) (l.length : Int) ((i + 1 : Nat) : Int) a s l else variants_Seq.l0 k ((wheels s (l.take i) ++ List.replicate (l.length - i) []).set i t) (l.length : Int) ((i + 1 : Nat) : Int) a s l)) (fun k => by
        simp only [variants_Seq.l0]
        rw [if_pos (by omega), if_pos (by omega), if_pos (by omega), w64 (by omega) (by omega), rd_nat]; rfl) ?_
      refine Ev.bind (set_ev a s hs _) ?_
      by_cases he : setOf s (l.getD i 0) = []
      · rw [he]
        refine Ev.pos (by simp) ?_
        have ek : wheel s (l.getD i 0) = [l.getD i 0] := by unfold VarPlain.wheel; rw [if_pos he]
        rw [ek] at hih
        exact hih
      · have hp : 0 < (setOf s (l.getD i 0)).length := List.length_pos_iff.2 he
        refine Ev.neg (by omega) ?_
        have ek : wheel s (l.getD i 0) = setOf s (l.getD i 0) := by unfold VarPlain.wheel; rw [if_neg he]
        rw [ek] at hih
        exact hih
  unfold variants_Seq.f
  refine Ev.pos (by omega) ?_
  simpa [wheels] using l0 l.length 0 (by omega)
theorem all_wheels (s : List (List Int)) (l : List Int) : (wheels s l).all (fun x => decide (0 < x.length)) = true := by
  refine List.all_eq_true.2 (fun x hx => ?_)
  unfold wheels at hx
  obtain ⟨r, _, rfl⟩ := List.mem_map.1 hx
  exact decide_eq_true (wheel_pos s r)
/-- the first rows. -/
def firsts (s : List (List Int)) (l : List Int) (most : Int) : List (List Int) := (List.range (min most.toNat (prod (wheels s l)))).map (row (wheels s l))
theorem firsts_length (s : List (List Int)) (l : List Int) (most : Int) : (firsts s l most).length = min most.toNat (prod (wheels s l)) := by simp [firsts]
theorem firsts_at (s : List (List Int)) (l : List Int) (most : Int) (i : Nat) (h : i < (firsts s l most).length) : rd_L1 (firsts s l most) (i : Int) = row (wheels s l) i := by
  rw [rdL_nat]
  rw [firsts_length] at h
  simp [firsts, List.getD_eq_getElem?_getD, List.getElem?_range h]
theorem all_ev (a : ByteArray) (s : List (List Int)) (hs : Fine s) (l : List Int) (hl : l.length ≤ 900) (most : Int) (hm : most ≤ 1000) : Ev (fun k => variants_All.f k a s l most) (firsts s l most) := by
  unfold variants_All.f
  by_cases h1 : most < 1
  · refine Ev.pos h1 ?_
    have : firsts s l most = [] := by unfold firsts; rw [show most.toNat = 0 by omega, Nat.zero_min]; rfl
    rw [this]
    exact Ev.now _
  · refine Ev.neg h1 (Ev.bind (seq_ev a s hs l hl) (Ev.pos (by rw [wheels_length]; omega) (Ev.pos (all_wheels s l) (Ev.pos ?_ (Ev.now _)))))
    have := Nat.min_le_left most.toNat (prod (wheels s l))
    omega

theorem variant_ev (a : ByteArray) (s : List (List Int)) (hs : Fine s) (l : List Int) (hl : l.length ≤ 900) (q : Nat) (hq : q < 1000000) : Ev (fun k => eponymref19_Variant.f k a s l (q : Int)) (row (wheels s l) q) := by
  have hrl : (row (wheels s l) q).length = l.length := by simp [VarPlain.row, wheels_length]
  have l0 : ∀ (j : Nat), j ≤ l.length → Ev (fun k => eponymref19_Variant.l0 k l ((q / from_ (wheels s l) j : Nat) : Int) (l.take j ++ (row (wheels s l) q).drop j) ((j : Int) - 1) a s) (row (wheels s l) q) := by
    intro j
    induction j with
    | zero =>
      intro hj
      refine Ev.step (f := fun _ => some (row (wheels s l) q)) (fun k => by simp only [eponymref19_Variant.l0]; rw [if_neg (by omega)]; rfl) (Ev.now _)
    | succ j ih =>
      intro hj
      have hlt : j < l.length := by omega
      have hih := ih (by omega)
      have hwl : j < (wheels s l).length := by rw [wheels_length]; omega
      have ej : ((j + 1 : Nat) : Int) - 1 = (j : Int) := by omega
      have hlen : (l.take (j + 1) ++ (row (wheels s l) q).drop (j + 1)).length = l.length := by rw [List.length_append, List.length_take, List.length_drop, hrl]; omega
      have hqd : q / from_ (wheels s l) (j + 1) ≤ q := Nat.div_le_self _ _
      have hrow : (row (wheels s l) q).getD j 0 = (wheel s (l.getD j 0)).getD (dig (wheels s l) q j) 0 := by
        rw [VarPlain.row_at _ _ _ hwl, wheels_at s l j hlt]
      have hdrop : (row (wheels s l) q).drop j = (row (wheels s l) q).getD j 0 :: (row (wheels s l) q).drop (j + 1) := by
        rw [List.drop_eq_getElem_cons (by omega), List.getD_eq_getElem?_getD, List.getElem?_eq_getElem (by omega)]
        rfl
      have hset : ∀ v, v = (row (wheels s l) q).getD j 0 → (l.take (j + 1) ++ (row (wheels s l) q).drop (j + 1)).set j v = l.take j ++ (row (wheels s l) q).drop j := by
        rintro v rfl
        rw [hdrop, List.take_succ_eq_append_getElem hlt, List.append_assoc, List.set_append_right _ _ (by rw [List.length_take]; omega), List.length_take, Nat.min_eq_left (by omega), Nat.sub_self]
        rfl
      have hdiv : q / from_ (wheels s l) j = q / from_ (wheels s l) (j + 1) / wl (wheels s l) j := by
        rw [VarPlain.from_step _ _ hwl, Nat.mul_comm, Nat.div_div_eq_div_mul]
      have hwlj : wl (wheels s l) j = (wheel s (l.getD j 0)).length := by unfold VarPlain.wl; rw [wheels_at s l j hlt]
      refine Ev.step (f := fun k => (eponymref19_Set.f k a s (l.getD j 0)).bind fun t211 => (if (t211.length : Int) > 0 then (if (t211.length : Int) = 0 then (none) else (if 0 ≤ (Int.tmod ((q / from_ (wheels s l) (j + 1) : Nat) : Int) (t211.length : Int)) then (if (Int.tmod ((q / from_ (wheels s l) (j + 1) : Nat) : Int) (t211.length : Int)) < (t211.length : Int) then (eponymref19_Variant.l0 k l (wrap64 (Int.tdiv ((q / from_ (wheels s l) (j + 1) : Nat) : Int) (t211.length : Int))) ((l.take (j + 1) ++ (row (wheels s l) q).drop (j + 1)).set j (rd t211 (Int.tmod ((q / from_ (wheels s l) (j + 1) : Nat) : Int) (t211.length : Int)))) ((j : Int) - 1) a s) else (none)) else (none))) else (eponymref19_Variant.l0 k l ((q / from_ (wheels s l) (j + 1) : Nat) : Int) (l.take (j + 1) ++ (row (wheels s l) q).drop (j + 1)) ((j : Int) - 1) a s))) (fun k => by
        simp only [eponymref19_Variant.l0]
        rw [ej, if_pos (by omega), if_pos (by omega), if_pos (by omega), rd_nat, w64' (i := (j : Int) - 1) (by omega) (by omega)]
        have hjl : (j : Int) < (l.length : Int) := by omega
        simp only [hlen, Int.toNat_natCast, if_pos hjl]) ?_
      refine Ev.bind (refset_ev a s hs _) ?_
      by_cases he : setOf s (l.getD j 0) = []
      · rw [he]
        refine Ev.neg (by simp) ?_
        have ek : wheel s (l.getD j 0) = [l.getD j 0] := by unfold VarPlain.wheel; rw [if_pos he]
        have e1 : wl (wheels s l) j = 1 := by rw [hwlj, ek]; rfl
        have e2 : dig (wheels s l) q j = 0 := by unfold VarPlain.dig; rw [e1, Nat.mod_one]
        have e3 := hset (l.getD j 0) (by rw [hrow, ek, e2]; rfl)
        have e4 : (l.take (j + 1) ++ (row (wheels s l) q).drop (j + 1)).set j (l.getD j 0) = l.take (j + 1) ++ (row (wheels s l) q).drop (j + 1) := by
          rw [List.take_succ_eq_append_getElem hlt, List.append_assoc, List.set_append_right _ _ (by rw [List.length_take]; omega), List.length_take, Nat.min_eq_left (by omega), Nat.sub_self, List.getD_eq_getElem?_getD, List.getElem?_eq_getElem hlt]
          rfl
        rw [hdiv, e1, Nat.div_one, ← e3, e4] at hih
        exact hih
      · have hp : 0 < (setOf s (l.getD j 0)).length := List.length_pos_iff.2 he
        have ek : wheel s (l.getD j 0) = setOf s (l.getD j 0) := by unfold VarPlain.wheel; rw [if_neg he]
        rw [ek] at hrow hwlj
        rw [← Int.ofNat_tmod, ← Int.ofNat_tdiv]
        have hmod : q / from_ (wheels s l) (j + 1) % (setOf s (l.getD j 0)).length < (setOf s (l.getD j 0)).length := Nat.mod_lt _ hp
        have hdl : q / from_ (wheels s l) (j + 1) / (setOf s (l.getD j 0)).length ≤ q := Nat.le_trans (Nat.div_le_self _ _) hqd
        have hd0 := Int.natCast_nonneg (q / from_ (wheels s l) (j + 1) / (setOf s (l.getD j 0)).length)
        refine Ev.pos (by omega) (Ev.neg (by omega) (Ev.pos (by omega) (Ev.pos (by omega) ?_)))
        rw [rd_nat, w64' (by omega) (by omega)]
        have e3 := hset ((setOf s (l.getD j 0)).getD (q / from_ (wheels s l) (j + 1) % (setOf s (l.getD j 0)).length) 0) (by rw [hrow]; unfold VarPlain.dig; rw [hwlj])
        rw [e3]
        rw [hdiv, hwlj] at hih
        exact hih
  have h := l0 l.length (Nat.le_refl _)
  rw [VarPlain.from_end _ _ (by rw [wheels_length]; exact Nat.le_refl _), Nat.div_one, List.take_of_length_le (Nat.le_refl _), List.drop_eq_nil_of_le (by omega), List.append_nil] at h
  unfold eponymref19_Variant.f
  refine Ev.bind (Ev.now ([] : List Int)) (Ev.pos (by simp; omega) ?_)
  rw [w64' (by omega) (by omega), List.nil_append]
  exact h

theorem cnt_min (n m : Int) (h0 : 1 ≤ n) (h1 : 1 ≤ m) (p : Int) (hp : 1 ≤ p) : mn (mn (n * m) 1073741824 * p) 1073741824 = mn (n * m * p) 1073741824 := by
  have h2 : 1 * 1 ≤ n * m := Int.mul_le_mul h0 h1 (by omega) (by omega)
  generalize n * m = x at h2 ⊢
  unfold mn
  by_cases hx : 1073741824 < x
  · rw [if_pos hx]
    have h3 : 1073741824 * 1 ≤ 1073741824 * p := Int.mul_le_mul_of_nonneg_left hp (by omega)
    have h4 : x * 1 ≤ x * p := Int.mul_le_mul_of_nonneg_left hp (by omega)
    by_cases h5 : 1073741824 < 1073741824 * p
    · rw [if_pos h5, if_pos (by omega)]
    · rw [if_neg h5, if_pos (by omega)]; omega
  · rw [if_neg hx]
theorem cntOf_prod (s : List (List Int)) (hs : Fine s) (l : List Int) : ∀ n : Int, 1 ≤ n → n ≤ 1073741824 → cntOf s n l = mn (n * (prod (wheels s l) : Int)) 1073741824 := by
  induction l with
  | nil =>
    intro n h0 h1
    show n = mn (n * ((1 : Nat) : Int)) 1073741824
    unfold mn
    split <;> omega
  | cons r l ih =>
    intro n h0 h1
    obtain ⟨c1, c2, c3, c4⟩ := cnt_range s hs n r h0 h1
    have e0 : cntOf s n (r :: l) = cntOf s (cnt s n r) l := rfl
    have e1 : prod (wheels s (r :: l)) = (wheel s r).length * prod (wheels s l) := rfl
    have hp := prod_wheels s l
    have hm : 1 ≤ mx ((setOf s r).length : Int) 1 := by unfold mx; split <;> omega
    rw [e0, ih _ c1 c2, e1, Int.natCast_mul, wheel_mx, ← Int.mul_assoc]
    exact cnt_min n _ h0 hm _ (by omega)

theorem good_ev (s : List (List Int)) (l : List Int) (most : Int) (hl : l.length ≤ 900) : ∀ n, n ≤ (firsts s l most).length → Ev (fun k => goodTo k (wheels s l) (firsts s l most) n) true
  | 0, _ => Ev.now true
  | n + 1, h => by
    refine Ev.bind (good_ev s l most hl n (by omega)) (Ev.pos rfl ?_)
    rw [firsts_at s l most n (by omega)]
    have := same_ev (row (wheels s l) n) (row (wheels s l) n) (by simp [VarPlain.row, wheels_length]; omega)
    simpa using this
theorem rgEnd_ev (a : ByteArray) (s : List (List Int)) (hs : Fine s) (l : List Int) (hl : l.length ≤ 900) (most : Int) : Ev (fun k => rgEnd k a s l (firsts s l most)) true := by
  unfold rgEnd
  have hle : (firsts s l most).length ≤ prod (wheels s l) := by rw [firsts_length]; exact Nat.min_le_right _ _
  refine Ev.bind (seq_ev a s hs l hl) (Ev.pos (by rw [wheels_length]; omega) (Ev.pos (all_wheels s l) (Ev.bind (good_ev s l most hl _ (Nat.min_le_right _ _)) ?_)))
  rw [decide_eq_true hle]
  exact Ev.now true
theorem all_law (a : ByteArray) (s : List (List Int)) (l : List Int) (most : Int) (hsz : s.length ≤ 35184372088832) : ∃ k, eponymlaw19_VariantsAll.f k a s l most = some true := by
  have fin : Ev (fun k => eponymlaw19_VariantsAll.f k a s l most) true := by
    unfold eponymlaw19_VariantsAll.f
    refine Ev.bind awake_ev (Ev.pos rfl ?_)
    have jt : Ev (fun k => eponymlaw19_VariantsAll.j0 k l most true a s) true :=
      Ev.step (f := fun _ => some true) (fun k => by simp only [eponymlaw19_VariantsAll.j0]; rfl) (Ev.now _)
    obtain ⟨g, hg, hg2⟩ := great_ex a s hsz
    refine Ev.bind hg ?_
    cases g with
    | true => exact Ev.pos rfl jt
    | false =>
      refine Ev.neg (by simp) ?_
      obtain ⟨hsm, ha⟩ := hg2 rfl
      obtain ⟨b, hb, hb2⟩ := right_ex a s hsm ha
      refine Ev.bind hb ?_
      cases b with
      | false => exact Ev.neg (by simp) jt
      | true =>
        refine Ev.pos rfl ?_
        have hs := hb2 rfl
        by_cases hl : (l.length : Int) > 20
        · exact Ev.pos hl jt
        · refine Ev.neg hl ?_
          by_cases hm : most > 100
          · rw [decide_eq_true hm]; exact jt
          · rw [decide_eq_false hm]
            refine Ev.step (f := fun k => (variants_All.f k a s l most).bind fun t220 => ((eponymref19_Count.f k a s l).bind fun t224 => (if (t220.length : Int) = (mn (mx most 0) t224) then (eponymlaw19_VariantsAll.l0 k l 0 a s t220) else (some false)))) (fun k => by simp only [eponymlaw19_VariantsAll.j0]; rfl) ?_
            refine Ev.bind (all_ev a s hs l (by omega) most (by omega)) (Ev.bind (rcount_ev a s hs l (by omega)) (Ev.pos ?_ ?_))
            · rw [firsts_length, cntOf_prod s hs l 1 (by omega) (by omega), Int.one_mul]
              have hp := prod_wheels s l
              generalize prod (wheels s l) = p at hp ⊢
              unfold mn mx
              by_cases h0 : most < 0
              · rw [if_pos h0, show most.toNat = 0 by omega, Nat.zero_min]
                split <;> split at * <;> omega
              · rw [if_neg h0]
                by_cases h1 : most.toNat ≤ p
                · rw [Nat.min_eq_left h1]; split <;> split at * <;> omega
                · rw [Nat.min_eq_right (by omega)]; split <;> split at * <;> omega
            · have hlen : (firsts s l most).length ≤ 100 := by
                rw [firsts_length]
                have := Nat.min_le_left most.toNat (prod (wheels s l))
                omega
              have l0 : ∀ (d i : Nat), i + d = (firsts s l most).length → Ev (fun k => eponymlaw19_VariantsAll.l0 k l (i : Int) a s (firsts s l most)) true := by
                intro d
                induction d with
                | zero =>
                  intro i hi
                  refine Ev.step (f := fun k => rgEnd k a s l (firsts s l most)) (fun k => by simp only [eponymlaw19_VariantsAll.l0]; rw [if_neg (by omega)]) ?_
                  exact rgEnd_ev a s hs l (by omega) most
                | succ d ih =>
                  intro i hi
                  refine Ev.step (f := fun k => (eponymref19_Variant.f k a s l (i : Int)).bind fun t228 => ((eponymlaw01_Same.f k (row (wheels s l) i) t228).bind fun t231 => (if t231 = true then (eponymlaw19_VariantsAll.l0 k l ((i + 1 : Nat) : Int) a s (firsts s l most)) else (some false)))) (fun k => by
                    simp only [eponymlaw19_VariantsAll.l0]; rw [if_pos (by omega), if_pos (by omega), w64 (by omega) (by omega), firsts_at s l most i (by omega)]; rfl) ?_
                  refine Ev.bind (variant_ev a s hs l (by omega) i (by omega)) (Ev.bind (same_ev _ _ (by simp [VarPlain.row, wheels_length]; omega)) (Ev.pos (by simp) (ih (i + 1) (by omega))))
              exact l0 (firsts s l most).length 0 (by omega)
  exact fin.rounds
end Go.Proofs.Ytohnahbjmcelfaa.V
