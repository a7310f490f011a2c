/-
  How an argument of the family's type is opened: its name and its rows of runes, as the walks ask for them. Conditions: what the reading gives; each length lies within the reach.
-/
import Derived.Test.YtenkmjccfpfkbaaDoorVx0
import Derived.Test.YtenkmjccfpfkbaaDoorWSized
import Derived.Test.YtenkmjccfpfkbaaDoorRows
import Derived.Lib.SmallJoins
import Derived.Deep.Matrix
namespace Go.Proofs.YtenkmjccfpfkbaaDoor.Opened
open Go.RowKit Go.ChangeShapes Go.WideShapes Go.Deep Go.Proofs.YtenkmjccfpfkbaaDoorW.PrintWords Go.Proofs.YtenkmjccfpfkbaaDoorW.PrintLast
set_option linter.unusedVariables false

def IsRow (k : IntKind) (w : World) (a : Option Addr) (len cap : Nat) (zs : List Int) : Prop :=
  (a = none ∧ len = 0 ∧ cap = 0 ∧ zs = []) ∨
  ∃ x, a = some x ∧ len ≤ cap ∧ cap ≤ maxLen ∧ zs.length = cap ∧ (∀ i, i < zs.length → w.cell? (x.add i) = some (.int k (zs.getD i 0))) ∧ ∀ n ∈ zs, (Lit.int k n).wf = true

theorem open_row {H : Type} {enc : TypeId × Value → H} {P : Program} {W : World} {base e q : Nat} {k : IntKind} {v : Value} {d : DataW H} {p : List MemPlace} (he : P.underlying e = some (.slice q)) (hq : P.underlying q = some (.int k)) (cq : P.cellsOf q = 1)
    (hv : Value.okWide P W .any base e v) (h : DataW.Trod enc P W 0 (fun _ => true) true e v d p) :
    ∃ (A : Option Addr) (l : List Int) (c : Nat), v = .slice A l.length c ∧ Kd.C (Kd.int k) W A l.length l ∧ l.length ≤ c ∧ l.length ≤ maxLen ∧ ∀ x ∈ l, (Lit.int k x).wf = true := by
  obtain ⟨a, len, cap, rfl⟩ := okWide_slice he hv
  obtain ⟨z, w⟩ : ∃ zs, IsRow k W a len cap zs := by
    obtain ⟨fuel, hf⟩ := h
    rcases open_ints he hq cq hf with ⟨hcs, _⟩ | ⟨x, l, c, zs, hcs, _, hl, hm, hz, _, hcell, hwz⟩
    · simp [Value.cells] at hcs
      obtain ⟨rfl, rfl, rfl⟩ := hcs
      exact ⟨[], .inl ⟨rfl, rfl, rfl, rfl⟩⟩
    · simp [Value.cells] at hcs
      obtain ⟨rfl, rfl, rfl⟩ := hcs
      exact ⟨zs, .inr ⟨_, rfl, hl, hm, by simpa using hz, hcell, hwz⟩⟩
  obtain ⟨l, rfl, hr, hm, hw, hc⟩ := ReadsInt.ofRowC w
  exact ⟨a, l, cap, rfl, Kd.C_of_reads hr, hc, hm, hw⟩

theorem open_fam {H : Type} {enc : TypeId × Value → H} {P : Program} {W : World} {base t f e q s9 : Nat} {f0 f1 : Field} {v : Value} {d : DataW H} {p : List MemPlace}
    (ht : P.underlying t = some (.struct #[f0, f1])) (hone : oneCellFields P #[f0, f1] = true) (hC : P.cellsOf t = 2) (h0 : f0.type = s9) (h1 : f1.type = f) (hs : P.underlying s9 = some .string)
    (hf : P.underlying f = some (.slice e)) (he : P.underlying e = some (.slice q)) (hq : P.underlying q = some (.int .i32)) (ce : P.cellsOf e = 1) (cq : P.cellsOf q = 1) (be : P.bytesOf e = 24)
    (hv : Value.okWide P W .any base t v) (h : DataW.Trod enc P W 0 (fun _ => true) true t v d p) (hsz : (d.weights P t).all (· ≤ reachBytes) = true) :
    ∃ (s : ByteArray) (A : Option Addr) (l : List (List Int)) (c : Nat), v = .agg #[.string s, .slice A l.length c] ∧ s.size ≤ 140737488351232 ∧ Kd.C (Kd.slice q (Kd.int .i32)) W A l.length l ∧ l.length ≤ c ∧ l.length * 24 ≤ 140737488351232 ∧
      ∀ x ∈ l, x.length ≤ maxLen ∧ ∀ n ∈ x, (Lit.int .i32 n).wf = true := by
  obtain ⟨v0, v1, y0, y1, n, rfl, rfl, rfl, k0, k1⟩ := Joins.open_agg2 ht hone hC hv h
  rw [h0] at k0
  rw [h1] at k1
  obtain ⟨s, hs0, rfl, hs1⟩ := DataW.trod_string hs k0
  obtain rfl : v0 = .string s := by simpa using hs0
  have hw0 : s.size ≤ 140737488351232 := by
    have := List.all_eq_true.1 hsz s.size (by simp [DataW.weights, ht, DataW.weightsEach])
    exact of_decide_eq_true this
  rcases open_int_rows hf he hq ce cq k1 with ⟨hcs, rfl⟩ | ⟨a, len, cap, A, L, C, Z, hcs, hb, hl, hm, hx, hr⟩
  · obtain rfl : v1 = .slice none 0 0 := by simpa using hcs
    exact ⟨s, none, [], 0, rfl, hw0, ⟨rfl, Nat.zero_le _, fun h => absurd h (Nat.lt_irrefl _)⟩, Nat.le_refl _, by simp, fun x hx => by simp at hx⟩
  · obtain rfl : v1 = .slice (some a) len cap := by simpa using hcs
    have hw1 : cap * 24 ≤ 140737488351232 := by
      have := List.all_eq_true.1 hsz (cap * 24) (by
        rw [hx]
        simp only [DataW.weights, ht, DataW.weightsEach, List.map_cons, List.map_nil, h1, hf, be, List.length_map, List.length_range, List.append_nil]
        rw [show len + (cap - len) = cap by omega]
        simp)
      exact of_decide_eq_true this
    let l : List (List Int) := (List.range len).map fun r => (Z r).take (L r)
    have hll : l.length = len := by simp [l]
    have hget : ∀ (j : Nat) (x : List Int), l[j]? = some x → j < len ∧ x = (Z j).take (L j) := by
      intro j x hj
      obtain ⟨h1, h2⟩ := List.getElem?_eq_some_iff.1 hj
      rw [hll] at h1
      exact ⟨h1, by rw [← h2]; simp [l]⟩
    refine ⟨s, some a, l, cap, by rw [hll], hw0, ⟨rfl, ?_, fun _ => ⟨a, rfl, fun j x hj => ?_⟩⟩, by rw [hll]; exact hl, by rw [hll]; omega, fun x hx => ?_⟩
    · rw [hll]; simp only [maxLen] at hm; omega
    · obtain ⟨hj1, rfl⟩ := hget j x hj
      obtain ⟨hc1, hLC, hCm, hZ, hwf, hnone, hsome⟩ := hr j (by omega)
      have hlen : ((Z j).take (L j)).length = L j := by rw [List.length_take]; omega
      refine ⟨[.slice (A j) (L j) (C j)], rfl, ⟨A j, C j, by rw [hlen], by rw [hlen]; exact hLC, ?_⟩, fun i u hu => ?_⟩
      · refine ⟨rfl, by rw [hlen]; simp only [maxLen] at hCm; omega, fun hp => ?_⟩
        rw [hlen] at hp
        cases hA : A j with
        | none => have := hnone hA; omega
        | some a' =>
          refine ⟨a', rfl, fun i y hi => ⟨[.int .i32 y], rfl, rfl, fun i2 u hu => ?_⟩⟩
          obtain ⟨hi1, hi2⟩ := List.getElem?_eq_some_iff.1 hi
          rw [hlen] at hi1
          have hcell := (hsome a' hA).2 i (by omega)
          cases i2 with
          | zero =>
            obtain rfl : Value.int .i32 y = u := by simpa using hu
            have e1 : (Kd.int .i32).sz = 1 := rfl
            rw [e1, Nat.mul_one, Nat.add_zero, hcell]
            rw [List.getElem_take] at hi2
            rw [← hi2, List.getD_eq_getElem?_getD, List.getElem?_eq_getElem (by omega)]
            rfl
          | succ i2 => simp at hu
      · cases i with
        | zero =>
          obtain rfl : Value.slice (A j) (L j) (C j) = u := by simpa using hu
          have e1 : (Kd.slice q (Kd.int .i32)).sz = 1 := rfl
          rw [e1, Nat.mul_one, Nat.add_zero]
          exact hc1
        | succ i => simp at hu
    · obtain ⟨j, hj⟩ := List.getElem?_of_mem hx
      obtain ⟨hj1, rfl⟩ := hget j x hj
      obtain ⟨hc1, hLC, hCm, hZ, hwf, _, _⟩ := hr j (by omega)
      refine ⟨by rw [List.length_take]; omega, fun n hn => hwf n (List.mem_of_mem_take hn)⟩
end Go.Proofs.YtenkmjccfpfkbaaDoor.Opened
