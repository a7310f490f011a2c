/- Plain words for the laws: what a printed function comes to from some number of rounds on. No condition. -/
import Derived.Test.YtohnahbjmcelfaaDoorVx13
namespace Go.Proofs.YtohnahbjmcelfaaDoor.V
open Go.RowKit Go.Proofs.YtohnahbjmcelfaaDoorW.PrintWords Go.Proofs.YtohnahbjmcelfaaDoorW.PrintLast Go.Proofs.YtohnahbjmcelfaaDoorW.PrintMore Go.Proofs.YtohnahbjmcelfaaDoor.Er

theorem Ev.pos {α : Type} {c : Prop} [Decidable c] {f g : Nat → Option α} {r : α} (hc : c) (h : Ev f r) : Ev (fun k => if c then f k else g k) r := by
  obtain ⟨K, h⟩ := h
  exact ⟨K, fun k hk => by simp only [if_pos hc]; exact h k hk⟩
theorem Ev.neg {α : Type} {c : Prop} [Decidable c] {f g : Nat → Option α} {r : α} (hc : ¬ c) (h : Ev g r) : Ev (fun k => if c then f k else g k) r := by
  obtain ⟨K, h⟩ := h
  exact ⟨K, fun k hk => by simp only [if_neg hc]; exact h k hk⟩
theorem Ev.ite {α : Type} {c : Prop} [Decidable c] {f g : Nat → Option α} {r : α} (h1 : c → Ev f r) (h2 : ¬ c → Ev g r) : Ev (fun k => if c then f k else g k) r := by
  by_cases hc : c
  · exact Ev.pos hc (h1 hc)
  · exact Ev.neg hc (h2 hc)
theorem Ev.succ {α : Type} {g : Nat → Option α} {r : α} (h : Ev (fun k => g (k + 1)) r) : Ev g r := Ev.step (fun _ => rfl) h
theorem Ev.is {α : Type} {x r : α} (h : x = r) : Ev (fun _ => some x) r := h ▸ Ev.now x
theorem Ev.bindc {α β : Type} {x : Option α} {f : Nat → α → Option β} {a : α} {r : β} (h : x = some a) (k : Ev (fun n => f n a) r) : Ev (fun n => x.bind (f n)) r := by
  subst h
  exact k
theorem Ev.bindc' {α : Type} {x : Option α} {a r : α} (h : x = some a) (e : a = r) : Ev (fun _ => x) r := by
  subst h
  exact Ev.is e
theorem Ev.to {α : Type} {g : Nat → Option α} {x r : α} (h : Ev g x) (e : x = r) : Ev g r := e ▸ h
theorem w64 {i : Int} (h0 : 0 ≤ i) (h1 : i < 4611686018427387904) : wrap64 (i + 1) = i + 1 := by unfold wrap64; omega
theorem w64' {i : Int} (h0 : -4611686018427387904 ≤ i) (h1 : i < 4611686018427387904) : wrap64 i = i := by unfold wrap64; omega
theorem w32' {i : Int} (h0 : -2147483648 ≤ i) (h1 : i ≤ 2147483647) : wrap32 i = i := by unfold wrap32; omega
theorem rd_nat (l : List Int) (i : Nat) : rd l (i : Int) = l.getD i 0 := by simp [rd]

theorem ite_p {α : Type} {P : α → Prop} {c : Prop} [Decidable c] {a b : α} (h1 : c → P a) (h2 : ¬ c → P b) : P (if c then a else b) := by
  by_cases hc : c
  · rw [if_pos hc]; exact h1 hc
  · rw [if_neg hc]; exact h2 hc
/-- it comes to something. -/
def Ex {α : Type} (g : Nat → Option α) (p : α → Prop) : Prop := ∃ r, Ev g r ∧ p r
theorem Ex.succ {α : Type} {g : Nat → Option α} {p : α → Prop} (h : Ex (fun k => g (k + 1)) p) : Ex g p := by
  obtain ⟨r, h, hp⟩ := h
  exact ⟨r, Ev.step (fun _ => rfl) h, hp⟩
theorem Ex.ite {α : Type} {c : Prop} [Decidable c] {f g : Nat → Option α} {p : α → Prop} (h1 : c → Ex f p) (h2 : ¬ c → Ex g p) : Ex (fun k => if c then f k else g k) p := by
  by_cases hc : c
  · obtain ⟨r, h, hp⟩ := h1 hc; exact ⟨r, Ev.pos hc h, hp⟩
  · obtain ⟨r, h, hp⟩ := h2 hc; exact ⟨r, Ev.neg hc h, hp⟩
theorem Ex.now {α : Type} {p : α → Prop} (r : α) (h : p r) : Ex (fun _ => some r) p := ⟨r, Ev.now r, h⟩
theorem Ex.bind {α β : Type} {g : Nat → Option α} {f : Nat → α → Option β} {q : α → Prop} {p : β → Prop} (h : Ex g q) (k : ∀ a, q a → Ex (fun n => f n a) p) : Ex (fun n => (g n).bind (f n)) p := by
  obtain ⟨a, ha, hq⟩ := h
  obtain ⟨r, hr, hp⟩ := k a hq
  exact ⟨r, Ev.bind ha hr, hp⟩
theorem Ex.mono {α : Type} {g : Nat → Option α} {p q : α → Prop} (h : Ex g p) (hpq : ∀ r, p r → q r) : Ex g q := by
  obtain ⟨r, h, hp⟩ := h
  exact ⟨r, h, hpq r hp⟩
theorem Ex.bindc {α β : Type} {x : Option α} {f : Nat → α → Option β} {a : α} {p : β → Prop} (h : x = some a) (k : Ex (fun n => f n a) p) : Ex (fun n => x.bind (f n)) p := by
  subst h
  exact k
/-- an error out of a place and a number; 0: none. -/
def eo (at_ e : Int) : Option Int := if e = 0 then none else some (at_ * 64 + e)
theorem eo_zero (at_ : Int) : eo at_ 0 = none := rfl
theorem eo_enc (at_ : Int) (c : Nat) (h : c ≠ 0) : some (enc at_ c) = eo at_ (c : Int) := by
  unfold eo enc
  rw [if_neg (by omega)]
/-- whether an error is the one of a number at a place: the very error that was made so. -/
theorem is_eo (at_ e at2 e2 : Int) (h0 : 0 ≤ e) (h1 : e ≤ 18) (h2 : 0 ≤ e2) (h3 : e2 ≤ 18) : eponymlaw01_Is.f (eo at_ e) at2 e2 = some (decide (e = e2) && (decide (e = 0) || decide (at_ = at2))) := by
  unfold eponymlaw01_Is.f eo
  by_cases c0 : e2 = 0
  · rw [if_pos c0]
    subst c0
    by_cases c1 : e = 0
    · simp [c1]
    · simp [c1]
  · rw [if_neg c0, if_pos (by omega)]
    by_cases c1 : e = 0
    · subst c1
      simp only [if_true]
      simp
      omega
    · simp only [if_neg c1]
      have e1 : (at_ * 64 + e) % 64 = e := by omega
      have e3 : (at_ * 64 + e) / 64 = at_ := by omega
      rw [e1, e3, if_pos (by omega)]
      simp [c1, Bool.and_comm]
theorem is_eo_same (at_ e : Int) (h0 : 0 ≤ e) (h1 : e ≤ 18) : eponymlaw01_Is.f (eo at_ e) at_ e = some true := by
  rw [is_eo at_ e at_ e h0 h1 h0 h1]
  simp
end Go.Proofs.YtohnahbjmcelfaaDoor.V
