-- Printed by this session's own turn of the print (wip/mkprint.py), with parts that were proved by hand.
import Derived.Test.YtohnahbjmcelfaaDoorProg
import Derived.Below
import Derived.Deep.Draws
import Derived.Deep.AppendLies
import Derived.Maps.AppendAt
import Derived.OwnWalk
import Derived.Laws.BytesArg
import Derived.Laws.MakeOwn
import Derived.Laws.OwnMore
import Derived.Deep.OwnRows
import Derived.Tactics
import Derived.Lib.ConvBytes
import Derived.Laws.Slices
import Derived.WalkKit
import Derived.KernelRfl
import Derived.RowKit3
import Derived.Deep.LoopGhost
import Derived.Deep.QuietTactic
import Derived.BigQuiet
import Derived.WideLaws
import Derived.Deep.DeepCutAuto
import Derived.Deep.CutBlock
import Derived.Deep.RegionHeld3
import Derived.Laws.Rows
import Derived.Lib.AppendStr
import Derived.ArgAppend
import Derived.Laws.IdiomCopy
import Derived.OrdersHeld
import Derived.Laws.BitsLemmas
import Derived.RowKit
import Derived.Test.YtohnahbjmcelfaaDoorPlain
import Derived.Test.YtohnahbjmcelfaaDoorE
import Derived.Maps.OwnOps
import Derived.Maps.OwnSet
import Derived.Lib.LazyBuf
import Derived.Maps.OwnIn
import Derived.RangeFuncNested
import Derived.RangeFuncBound
import Derived.RangeFuncCalls
import Derived.RangeFuncLeaves
import Derived.OwnWalkIn
import Derived.TacticsInMore
import Derived.LoopNIn
import Derived.LoopIn
import Derived.Deep.RegionWith
import Derived.Test.YtohnahbjmcelfaaDoorWWords
import Derived.Test.YtohnahbjmcelfaaDoorWLast
import Derived.Test.YtohnahbjmcelfaaDoorWTab
import Derived.Test.YtohnahbjmcelfaaDoorWFour
import Derived.Test.YtohnahbjmcelfaaDoorWQPut
import Derived.Test.YtohnahbjmcelfaaDoorWApart
import Derived.Test.YtohnahbjmcelfaaDoorWArr
import Derived.Test.YtohnahbjmcelfaaDoorWZeros
import Derived.Test.YtohnahbjmcelfaaDoorWFoot
import Derived.Test.YtohnahbjmcelfaaDoorWKept
import Derived.Test.YtohnahbjmcelfaaDoorWShare
import Derived.Test.YtohnahbjmcelfaaDoorWN
import Derived.Test.YtohnahbjmcelfaaDoorWFootNe
import Derived.Test.YtohnahbjmcelfaaDoorWAt
import Derived.Test.YtohnahbjmcelfaaDoorWEqStruct
import Derived.Test.YtohnahbjmcelfaaDoorWRepsOne
import Derived.Test.YtohnahbjmcelfaaDoorWInv
import Derived.Test.YtohnahbjmcelfaaDoorWInvWords
import Derived.Test.YtohnahbjmcelfaaDoorWGuard
import Derived.Test.YtohnahbjmcelfaaDoorWNEv
import Derived.Test.YtohnahbjmcelfaaDoorWMore
namespace Go.Proofs.YtohnahbjmcelfaaDoor.V
open Go.RowKit Go.Proofs.YtohnahbjmcelfaaDoorW.PrintWords Go.Proofs.YtohnahbjmcelfaaDoorW.PrintLast Go.Proofs.YtohnahbjmcelfaaDoorW.PrintMore Go.Proofs.YtohnahbjmcelfaaDoor.Er
attribute [local go_sem] max2_int min2_int max_two min_two max_three min_three max_four min_four   -- for this text's walks alone
set_option linter.unusedVariables false
set_option linter.unusedSimpArgs false




theorem info5 : (Tryd.prog.info? 5).map (fun i => (i.zero, i.size, i.bytes)) = some (some (.int .u8 0), 1, 1) := by kernel_rfl
theorem info21 : (Tryd.prog.info? 21).map (fun i => (i.zero, i.size, i.bytes)) = some (some (.int .i32 0), 1, 4) := by kernel_rfl
theorem info25 : (Tryd.prog.info? 25).map (fun i => (i.zero, i.size, i.bytes)) = some (some (.slice none 0 0), 1, 24) := by kernel_rfl
-- the values' own types
def rd_L1 (xs : List (List Int)) (i : Int) : (List Int) := xs.getD i.toNat ([] : List Int)
theorem at_L1 {w : World} {A : Option Addr} {n : Nat} {xs : List (List Int)} (h : Kd.C (Kd.slice 21 (Kd.int .i32)) w A n xs) (i : Int) (h0 : 0 ≤ i) (h1 : i < n) : ∃ ad A0 c0, A = some ad ∧ w.cell? (ad.add i.toNat) = some (.slice A0 (rd_L1 xs i).length c0) ∧ (rd_L1 xs i).length ≤ c0 ∧ (Kd.int .i32).C w A0 (rd_L1 xs i).length (rd_L1 xs i) := by
  obtain ⟨ad, c, e, _, hK, hc0⟩ := Kd.C_get h ([] : List Int) i h0 h1
  have hc : ∀ j u, c[j]? = some u → w.cell? (ad.add (i.toNat * 1 + j)) = some u := hc0
  obtain ⟨A0, c0, rfl, l0, g0⟩ := hK
  exact ⟨ad, A0, c0, e, by have hq := hc 0 _ rfl; rwa [Nat.mul_one, Nat.add_zero] at hq, l0, g0⟩

def rd_L3 (xs : List (List (List Int))) (i : Int) : (List (List Int)) := xs.getD i.toNat ([] : List (List Int))
theorem at_L3 {w : World} {A : Option Addr} {n : Nat} {xs : List (List (List Int))} (h : Kd.C (Kd.slice 25 (Kd.slice 21 (Kd.int .i32))) w A n xs) (i : Int) (h0 : 0 ≤ i) (h1 : i < n) : ∃ ad A0 c0, A = some ad ∧ w.cell? (ad.add i.toNat) = some (.slice A0 (rd_L3 xs i).length c0) ∧ (rd_L3 xs i).length ≤ c0 ∧ (Kd.slice 21 (Kd.int .i32)).C w A0 (rd_L3 xs i).length (rd_L3 xs i) := by
  obtain ⟨ad, c, e, _, hK, hc0⟩ := Kd.C_get h ([] : List (List Int)) i h0 h1
  have hc : ∀ j u, c[j]? = some u → w.cell? (ad.add (i.toNat * 1 + j)) = some u := hc0
  obtain ⟨A0, c0, rfl, l0, g0⟩ := hK
  exact ⟨ad, A0, c0, e, by have hq := hc 0 _ rfl; rwa [Nat.mul_one, Nat.add_zero] at hq, l0, g0⟩

/-! #### struct type 24 -/
structure S24 where
  f0 : ByteArray
  f1 : (List (List Int))
def z24 : S24 := ⟨(⟨#[]⟩ : ByteArray), ([] : List (List Int))⟩
def k24 : Kd S24 := Kd.iso (Kd.pair Kd.string (Kd.slice 25 (Kd.slice 21 (Kd.int .i32)))) (fun x : S24 => (x.f0, x.f1))
theorem k24_heap : Kd.Heap k24 := Kd.heap_iso _ (Kd.heap_pair Kd.heap_string (Kd.heap_slice 25 (Kd.heap_slice 21 (Kd.heap_int .i32))))
theorem k24_open {w : World} {x : S24} {cs : List Value} (h : k24.K w x cs) : ∃ A1 c1, cs = [.string x.f0, .slice A1 x.f1.length c1] ∧ x.f1.length ≤ c1 ∧ (Kd.slice 21 (Kd.int .i32)).C w A1 x.f1.length x.f1 := by
  obtain ⟨_, _, rfl, rfl, ⟨A1, c1, rfl, l1, g1⟩⟩ := h
  exact ⟨A1, c1, rfl, l1, g1⟩
theorem k24_openM {w : World} {base : Nat} {ok : Nat → Prop} {x : S24} {cs : List Value} (h : k24.M w base ok x cs) : ∃ v1, cs = [.string x.f0, v1] ∧ (Kd.slice 21 (Kd.int .i32)).R 25 w base ok v1 x.f1 := by
  obtain ⟨_, _, rfl, rfl, ⟨v1, rfl, g1⟩⟩ := h
  exact ⟨v1, rfl, g1⟩
theorem k24_mk (w : World) (x : S24) {A1 : Option Addr} {c1 : Nat} (l1 : x.f1.length ≤ c1) (g1 : (Kd.slice 21 (Kd.int .i32)).C w A1 x.f1.length x.f1) : k24.K w x [.string x.f0, .slice A1 x.f1.length c1] := ⟨[.string x.f0], [.slice A1 x.f1.length c1], rfl, rfl, ⟨A1, c1, rfl, l1, g1⟩⟩
theorem k24_mkM (w : World) (base : Nat) (ok : Nat → Prop) (x : S24) {v1 : Value} (g1 : (Kd.slice 21 (Kd.int .i32)).R 25 w base ok v1 x.f1) : k24.M w base ok x [.string x.f0, v1] := ⟨[.string x.f0], [v1], rfl, rfl, ⟨v1, rfl, g1⟩⟩
theorem k24_openF {W : World} {ok : Nat → Prop} {x : S24} {cs : List Value} (h : Kd.FK k24 W ok x cs) : ∃ A1 c1, cs = [.string x.f0, .slice A1 x.f1.length c1] ∧ x.f1.length ≤ c1 ∧ Kd.F (Kd.slice 21 (Kd.int .i32)) W ok A1 x.f1.length x.f1 := by
  obtain ⟨A1, c1, rfl, l1, _⟩ := k24_open (Kd.FK_now h)
  exact ⟨A1, c1, rfl, l1, (fun W' hW => by obtain ⟨A1_, c1_, he, l1_, g1_⟩ := k24_open (h W' hW); injection (Option.some.inj (show some (Value.slice A1 x.f1.length c1) = some (Value.slice A1_ x.f1.length c1_) from congrArg (fun l => l[1]?) he)) with ha_ _ _; rw [ha_]; exact g1_)⟩
theorem k24_mkF (W : World) (ok : Nat → Prop) (x : S24) {A1 : Option Addr} {c1 : Nat} (l1 : x.f1.length ≤ c1) (g1 : Kd.F (Kd.slice 21 (Kd.int .i32)) W ok A1 x.f1.length x.f1) : Kd.FK k24 W ok x [.string x.f0, .slice A1 x.f1.length c1] := fun W2 hW => k24_mk W2 x l1 (g1 W2 hW)
def rd_T24 (xs : List S24) (i : Int) : S24 := xs.getD i.toNat z24
theorem at_T24 {w : World} {A : Option Addr} {n : Nat} {xs : List S24} (h : Kd.C k24 w A n xs) (i : Int) (h0 : 0 ≤ i) (h1 : i < n) : ∃ ad A1 c1, A = some ad ∧ w.cell? (ad.add (i.toNat * 2)) = some (.string (rd_T24 xs i).f0) ∧ w.cell? ⟨(ad.add (i.toNat * 2)).block, (ad.add (i.toNat * 2)).off + 1, none⟩ = some (.slice A1 (rd_T24 xs i).f1.length c1) ∧ (rd_T24 xs i).f1.length ≤ c1 ∧ (Kd.slice 21 (Kd.int .i32)).C w A1 (rd_T24 xs i).f1.length (rd_T24 xs i).f1 := by
  obtain ⟨ad, c, e, _, hK, hc0⟩ := Kd.C_get h z24 i h0 h1
  have hc : ∀ j u, c[j]? = some u → w.cell? (ad.add (i.toNat * 2 + j)) = some u := hc0
  obtain ⟨A1, c1, rfl, l1, g1⟩ := k24_open hK
  exact ⟨ad, A1, c1, e, hc 0 _ rfl, by rw [← add_field _ _ 1 (by omega)]; exact hc 1 _ rfl, l1, g1⟩

end Go.Proofs.YtohnahbjmcelfaaDoor.V
