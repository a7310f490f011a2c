/-
  What the rows' listed variables give the walks: the sentinels' cells, each sentinel's block its own, and errors.errorType. Conditions: the list reads as the rows say.
-/
import Derived.Test.YtenkmjccfpfkbaaDoorE
import Derived.Test.YtenkmjccfpfkbaaDoorRows
import Derived.ChangeSame
import Derived.ChangeVars
import Derived.JoinedOf
import Derived.RowKit
import Derived.RowKitTokens
import Derived.LaidLaws
import Derived.LaidHandle
import Derived.LaidMore
import Derived.Stop.Joined
namespace Go.Proofs.YtenkmjccfpfkbaaDoor.Er
open Go.ChangeShapes Go.WideShapes Go.RowKit Go.Proofs.YtenkmjccfpfkbaaDoorW.PrintWords

theorem star_name : "*" ++ "errors.errorString" = "*errors.errorString" := by decide
theorem row_name (u : TypeId) (h : Tryd.prog.typeName? 3 u = some "*errors.errorString") : u = 142 :=
  typeName_ptr_named (nm := "errors.errorString") (by rw [star_name]; kernel_rfl) (by kernel_rfl) (by decide) u (by rw [star_name]; exact h)

/-- a sentinel: its number, its variable's name, what it reads as. -/
abbrev Sen := Nat × String × DataW Unit
def Sen.ok (x : Sen) : Prop := x.1 ≠ 0 ∧ Tryd.prog.globalNamed x.2.1 = some (gOf x.1) ∧ (Tryd.prog.globals[gOf x.1]?).map (·.type) = some 25 ∧ ∃ text, x.2.2 = .iface "*errors.errorString" (.ptr (.agg [.lit (.string text)]))

set_option maxRecDepth 100000 in
theorem sents_of {W : World} : ∀ (l : List Sen), (∀ x ∈ l, Sen.ok x) → (l.map (·.1)).Nodup → ∀ ps, DataW.LaidVars Tryd.prog W (l.map (·.2)) ps → ps.Nodup →
    (∀ b off, MemPlace.cell b off ∈ ps → (∃ c t, W.heap[b]? = some (.cells c t (0, 0))) ∧ ∀ u v, W.cell? ⟨b, off, none⟩ = some (.iface u v) → Value.okWide Tryd.prog W .any 0 u v) →
    ∃ sv : Nat → Addr, (∀ x ∈ l, W.cell? ⟨gOf x.1, 0, none⟩ = some (senW sv x.1) ∧ (∃ c t, W.heap[(sv x.1).block]? = some (.cells c t (0, 0))) ∧ MemPlace.cell (sv x.1).block (sv x.1).off ∈ ps) ∧ ∀ x ∈ l, ∀ y ∈ l, x.1 ≠ y.1 → sv x.1 ≠ sv y.1
  | [], _, _, _, _, _, _ => ⟨fun _ => ⟨0, 0, none⟩, fun x hx => absurd hx (by simp), fun x hx => absurd hx (by simp)⟩
  | x :: l, hok, hnd, ps, hv, hps, hrows => by
    obtain ⟨h0, hg, ht, text, hx⟩ := hok x (List.mem_cons_self ..)
    obtain ⟨c, n, d⟩ := x
    simp only at h0 hg ht hx
    subst hx
    obtain ⟨g, t, cs, f, p, q, hg1, ht1, hv1, hd1, hq1, e1⟩ := hv
    obtain rfl := Option.some.inj (hg.symm.trans hg1)
    obtain rfl := Option.some.inj (ht.symm.trans ht1)
    subst e1
    obtain ⟨l0⟩ := cs
    have ok0 : ∀ u v, l0 = [.iface u v] → Value.okWide Tryd.prog W .any 0 u v := fun u v e => by
      subst e
      exact (hrows (gOf c) 0 (by simp [MemPlace.row])).2 u v (by simpa using World.var?_cell hg1 hv1 0)
    obtain ⟨a, s, rfl, hc0, hs0, hz0, rfl⟩ := errorString_of_trod Tryd.underlying25 row_name Tryd.underlying142 Tryd.underlying160 rfl rfl Tryd.underlying9 (by kernel_rfl) (by kernel_rfl) hd1 ok0
    have hap : MemPlace.cell a.block a.off ∈ MemPlace.row ⟨gOf c, 0, none⟩ (Array.mk [Value.iface 142 (.pointer (some a))]).size ++ MemPlace.row a 1 ++ q := by simp [MemPlace.row]
    obtain ⟨cb, tb, hb⟩ := (hrows a.block a.off hap).1
    have hnd2 := List.nodup_cons.1 hnd
    have hqn : q.Nodup := (List.nodup_append.1 hps).2.1
    have haq : MemPlace.cell a.block a.off ∉ q := fun hm => (List.nodup_append.1 hps).2.2 _ (List.mem_append_right _ (by simp [MemPlace.row])) _ hm rfl
    obtain ⟨sv, hs, hne⟩ := sents_of l (fun y hy => hok y (List.mem_cons_of_mem _ hy)) hnd2.2 q hq1 hqn (fun b off hm => hrows b off (List.mem_append_right _ hm))
    have old : ∀ y ∈ l, (if y.1 = c then a else sv y.1) = sv y.1 := fun y hy => if_neg (fun e => hnd2.1 (by have hm := List.mem_map_of_mem (f := fun z : Sen => z.1) hy; simp only [e] at hm; exact hm))
    refine ⟨fun d => if d = c then a else sv d, fun y hy => ?_, fun y hy z hz hyz => ?_⟩
    · rcases List.mem_cons.1 hy with rfl | hy'
      · refine ⟨?_, ?_, ?_⟩
        · rw [senW_pos _ _ h0]
          simpa using World.var?_cell hg1 hv1 0
        · exact ⟨cb, tb, by simpa using hb⟩
        · simpa using hap
      · obtain ⟨k1, k2, k3⟩ := hs y hy'
        have hy0 := (hok y hy).1
        refine ⟨?_, ?_, ?_⟩
        · rw [senW_pos _ _ hy0] at k1 ⊢
          rw [k1, old y hy']
        · simp only [old y hy']
          exact k2
        · simp only [old y hy']
          exact List.mem_append_right _ k3
    · rcases List.mem_cons.1 hy with rfl | hy'
      · rcases List.mem_cons.1 hz with rfl | hz'
        · exact absurd rfl hyz
        · simp only [old z hz', if_true]
          intro e
          exact haq (by rw [e]; exact (hs z hz').2.2)
      · rcases List.mem_cons.1 hz with rfl | hz'
        · simp only [old y hy', if_true]
          intro e
          exact haq (by rw [← e]; exact (hs y hy').2.2)
        · simp only [old y hy', old z hz']
          exact hne y hy' z hz' hyz

theorem rtype_name : (Tryd.prog.cutTypes.find? (·.1 == "internal/reflectlite.rtype")).map (·.2) = some 118 := by kernel_rfl
theorem one_error : ((List.range Tryd.prog.types.size).filter fun t => Tryd.prog.rowNamed t [101, 114, 114, 111, 114]) = [25] := by kernel_rfl
theorem etype_of {W : World} (h : handlesMet Tryd.prog [("errors.errorType", Rows.laid_errors_errorType)] W) : EType W := by
  obtain ⟨name, u, ty, e1, e2, e3, e4, e5⟩ := h _ (List.mem_singleton.2 rfl)
  have en : name = [101, 114, 114, 111, 114] := (Option.some.inj e1).symm
  subst en
  obtain rfl := Option.some.inj (rtype_name.symm.trans e2)
  have hm : ty ∈ (List.range Tryd.prog.types.size).filter fun t => Tryd.prog.rowNamed t [101, 114, 114, 111, 114] := List.mem_filter.2 ⟨List.mem_range.2 e3, e4⟩
  rw [one_error] at hm
  obtain rfl := List.mem_singleton.1 hm
  have hh : typeHandle Tryd.prog 25 = .pointer (some ⟨20, 25, none⟩) := by kernel_rfl
  rw [hh] at e5
  have hg : Tryd.prog.globalNamed "errors.errorType" = some 3 := by kernel_rfl
  unfold EType
  simpa using World.var?_cell hg e5 0
end Go.Proofs.YtenkmjccfpfkbaaDoor.Er
