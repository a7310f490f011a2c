/-
  The row of the law PunyNumbers and its card: what is listed lies as the text lays it; its arguments opened, its walk, and that it answers true. No condition beyond the row's own.
-/
import Derived.Test.YtenkmjccfpfkbaaDoorPN
import Derived.Test.YtenkmjccfpfkbaaDoorOpened
import Derived.Test.YtenkmjccfpfkbaaDoorLd
import Derived.Test.YtenkmjccfpfkbaaDoorCards
import Derived.Test.YtenkmjccfpfkbaaDoorTie
import Derived.WalkKit
import Derived.ProofKit
import Derived.OpenShut
import Derived.ShutString
import Derived.ChangeOld
import Derived.Below
import Derived.SizedLaws
import Derived.LaidMore
import Derived.Stop.Joined
import Derived.SevenTiedAt
import Derived.Handed
namespace Go.Proofs.YtenkmjccfpfkbaaDoor.lawPunyNumbers
open Go.ChangeShapes Go.WideShapes Go.ChangeAt Go.RowKit Go.Proofs.YtenkmjccfpfkbaaDoor.Er
open Go.ChangeMaps (open_string shut_string)
open Go.Proofs.YtenkmjccfpfkbaaDoor.Opened
set_option linter.unusedVariables false
theorem own : ownKnob Tryd.prog.godebug = none := by kernel_rfl
theorem laidOut : laidOutB Tryd.prog = true := by kernel_rfl
abbrev sens : List Sen := [(1, "eponym/api.ErrByte", Rows.laid_eponym_api_ErrByte), (2, "eponym/api.ErrEnd", Rows.laid_eponym_api_ErrEnd), (3, "eponym/api.ErrLong", Rows.laid_eponym_api_ErrLong), (4, "eponym/api.ErrRange", Rows.laid_eponym_api_ErrRange), (5, "eponym/api.ErrForm", Rows.laid_eponym_api_ErrForm), (6, "eponym/api.ErrOrder", Rows.laid_eponym_api_ErrOrder), (7, "eponym/api.ErrThere", Rows.laid_eponym_api_ErrThere), (8, "eponym/api.ErrNone", Rows.laid_eponym_api_ErrNone), (9, "eponym/api.ErrDeep", Rows.laid_eponym_api_ErrDeep), (10, "eponym/api.ErrClass", Rows.laid_eponym_api_ErrClass), (11, "eponym/api.ErrContext", Rows.laid_eponym_api_ErrContext), (12, "eponym/api.ErrBidi", Rows.laid_eponym_api_ErrBidi), (13, "eponym/api.ErrHyphen", Rows.laid_eponym_api_ErrHyphen), (14, "eponym/api.ErrNorm", Rows.laid_eponym_api_ErrNorm), (15, "eponym/api.ErrPuny", Rows.laid_eponym_api_ErrPuny), (16, "eponym/api.ErrEmpty", Rows.laid_eponym_api_ErrEmpty), (17, "eponym/api.ErrKind", Rows.laid_eponym_api_ErrKind), (18, "eponym/api.ErrFull", Rows.laid_eponym_api_ErrFull)]
theorem sens_ok : ∀ x ∈ sens, Sen.ok x := by
  intro x hx
  simp only [sens, List.mem_cons, List.not_mem_nil, or_false] at hx
  rcases hx with rfl | rfl | rfl | rfl | rfl | rfl | rfl | rfl | rfl | rfl | rfl | rfl | rfl | rfl | rfl | rfl | rfl | rfl <;> exact ⟨by decide, by kernel_rfl, by kernel_rfl, _, rfl⟩
theorem of_laid {W : World} (h : laidMetH Tryd.prog Rows.punyNumbersRow.laid W) : ∃ sv : Nat → Addr, LaidAll sv W := by
  have h' : laidMet Tryd.prog (sens.map (·.2)) W ∧ handlesMet Tryd.prog [("errors.errorType", Rows.laid_errors_errorType)] W := h
  obtain ⟨⟨ps, hv, hnd, hrows⟩, hh⟩ := h'
  obtain ⟨sv, hs, hne⟩ := sents_of sens sens_ok (by decide) ps hv hnd hrows
  have hin : ∀ c ∈ allCodes, ∃ x ∈ sens, x.1 = c := by decide
  have hS : Sents allCodes sv W := fun c hc => by
    obtain ⟨x, hx, rfl⟩ := hin c hc
    exact (hs x hx).1
  exact ⟨sv, hS, ⟨fun c hc => by
    obtain ⟨x, hx, rfl⟩ := hin c hc
    exact (hs x hx).2.1, fun c hc d hd hcd => by
    obtain ⟨x, hx, rfl⟩ := hin c hc
    obtain ⟨y, hy, rfl⟩ := hin d hd
    exact hne x hx y hy hcd⟩, etype_of hh⟩
theorem door_met (os : Os) (args : Array Value) : laidMetH Tryd.prog Rows.punyNumbersRow.laid ((World.doorLaid Tryd.prog 400 os).forCall (fun _ _ => 0) ⟨#[], args, []⟩).memory :=
  laidMetH_of_parts (laidMet_of_run' 8 (by kernel_rfl) (by kernel_rfl)) (by kernel_rfl)
set_option maxRecDepth 100000 in
theorem lifted (os : Os) (started : os.Started) (H : Type) (enc : TypeId × Value → H) :
    ReturnsInHanded {} Tryd.checked os 7 .any (fun w args => (Rows.punyNumbersSpec.pre enc Tryd.prog Tryd.f7 [] false w args ∧ laidMetH Tryd.prog Rows.punyNumbersRow.laid w) ∧ sizedMet enc Tryd.prog Tryd.f7 (OpenSpec.ofChange Rows.punyNumbersSpec) false w args)
      (Rows.punyNumbersSpec.post enc Tryd.prog Tryd.f7 false true false false) := by
  refine returnsInHanded_of_change_and (C := Tryd.checked) (X := fun w _ => laidMetH Tryd.prog Rows.punyNumbersRow.laid w) (fun _ _ _ hh h => h.of_heap hh) own started (by kernel_rfl) Tryd.func7
    (ChangeSpec.witness_shaped (enc := enc) (C := Tryd.checked) (os := os) (X := fun w _ => laidMetH Tryd.prog Rows.punyNumbersRow.laid w) false (World.doorLaid Tryd.prog 400 os) #[.int .i64 0, .int .i64 0, .bool false] 8 rfl (World.shaped_of_RefB (by kernel_rfl) (by kernel_rfl)) (by kernel_rfl) (by kernel_rfl) (by kernel_rfl) (door_met os _)) ?_
  intro W base args ds gs before hval0 hW hcnd hsz0 hL _
  have hsz : (DataW.weightsEach Tryd.prog (Tryd.f7.params.toList ++ Rows.punyNumbersSpec.plain.varTypes Tryd.prog) (ds ++ gs)).all (· ≤ reachBytes) = true := hsz0
  have hval : ∀ (j : Nat) t v, Tryd.f7.params[j]? = some t → args[j]? = some v → Value.okWide Tryd.prog W .any base t v := hval0
  have hW' := hW
  obtain ⟨p, q, hA0, hV, rfl, hfz, hnd⟩ := hW
  have hA : DataW.TrodAll enc Tryd.prog W 0 (fun _ => true) true Tryd.f7.params.toList args.toList ds p := hA0
  rw [Tryd.params7] at hA hval hsz
  obtain ⟨v0, vs0, d0, ds0, p0, q0, hargs, rfl, rfl, h0, r0⟩ := trodAll_cons hA
  obtain ⟨v1, vs1, d1, ds1, p1, q1, rfl, rfl, rfl, h1, r1⟩ := trodAll_cons r0
  obtain ⟨v2, vs2, d2, ds2, p2, q2, rfl, rfl, rfl, h2, r2⟩ := trodAll_cons r1
  obtain ⟨rfl, rfl, rfl⟩ := trodAll_nil r2
  obtain rfl : args = #[v0, v1, v2] := by cases args; simp_all
  obtain ⟨rfl, rfl⟩ := trodVars_none hV
  obtain ⟨sv, hsv⟩ := of_laid hL
  have k0 := h0
  have lt0 : ∀ x ∈ p0, x.block < W.heap.size := by obtain ⟨m, hm⟩ := k0; exact DataW.trod_lt m _ _ _ hm
  have k1 := h1
  have lt1 : ∀ x ∈ p1, x.block < W.heap.size := by obtain ⟨m, hm⟩ := k1; exact DataW.trod_lt m _ _ _ hm
  have k2 := h2
  have lt2 : ∀ x ∈ p2, x.block < W.heap.size := by obtain ⟨m, hm⟩ := k2; exact DataW.trod_lt m _ _ _ hm
  obtain ⟨n0, rfl, rfl, rfl, hwn0⟩ := Go.ChangeShapes.open_int Tryd.underlying3 (hval 0 3 v0 rfl rfl) h0
  obtain ⟨n1, rfl, rfl, rfl, hwn1⟩ := Go.ChangeShapes.open_int Tryd.underlying3 (hval 1 3 v1 rfl rfl) h1
  obtain ⟨b2, rfl, rfl, rfl⟩ := Go.RowKit.open_bool Tryd.underlying4 (hval 2 4 v2 rfl rfl) h2
  clear hA0 hval0 hsz0 hsz
  obtain ⟨k, hk⟩ := Go.Proofs.YtenkmjccfpfkbaaDoor.V.numbers_exists n0 n1 b2 hwn0 hwn1 
  refine (Pk.eponymlaw06_PunyNumbers.calls sv k n0 n1 b2 true W hsv    hk).mono fun e W' ⟨he, bel⟩ => ?_
  subst he
  exact ⟨_, rfl, _, _, _, [], _, [], hW', trodAll_mk1 (shut_bool (by kernel_rfl) _), (trodAll_cons_mk (Below.trod laidOut (by kernel_rfl) (of_decide_eq_true (by kernel_rfl)) k0 bel lt0) (trodAll_cons_mk (Below.trod laidOut (by kernel_rfl) (of_decide_eq_true (by kernel_rfl)) k1 bel lt1) (trodAll_cons_mk (Below.trod laidOut (by kernel_rfl) (of_decide_eq_true (by kernel_rfl)) k2 bel lt2) trodAll_mk0))), rfl, bel.frame _, fun h => by cases h⟩
theorem over : Rows.PunyNumbersSaid :=
  OpenClaim.holds_of_wide 7 Tryd.f7 rfl rfl rfl rfl rfl rfl rfl ⟨rfl, rfl, rfl, rfl, rfl⟩ rfl rfl rfl rfl rfl (by kernel_rfl) Tryd.func7 (by kernel_rfl)
    (of_decide_eq_true (by kernel_rfl)) (by unfold Func.isWrapper; first | (rw [if_pos (by decide +kernel)]; kernel_rfl) | (rw [if_neg (by decide +kernel)]; exact ⟨rfl, rfl⟩))
    (fun os started H enc _ => lifted os started H enc)
/-- The tied card. -/
theorem carded : Rows.PunyNumbersCardSaid :=
  Claim7.holds_tied_plain_at .later [] [.handle, .sentinel, .sentinel, .sentinel, .sentinel, .sentinel, .sentinel, .sentinel, .sentinel, .sentinel, .sentinel, .sentinel, .sentinel, .sentinel, .sentinel, .sentinel, .sentinel, .sentinel, .sentinel] true (true, "abdabd225e670f0c9a5667d56e7ffbc67c53079747ffee590cd470d3d1857d78") true
    over (fun _ h => by cases h) (by kernel_rfl) (fun _ h => by cases h) punyNumbers_row_tie rfl ⟨rfl, rfl⟩ (by kernel_rfl) rfl
    (fun f fn hf hfn => by
      obtain rfl : f = 7 := Option.some.inj ((show Tryd.prog.funcNamed "eponym/eponymlaw06.PunyNumbers" = some 7 by kernel_rfl).symm.trans hf) |>.symm
      obtain rfl : fn = Tryd.f7 := (Option.some.inj (Tryd.func7.symm.trans hfn)).symm
      exact ⟨by kernel_rfl, fun j t ht => by
        rw [Tryd.params7] at ht
        have hall : (#[3, 3, 4] : Array TypeId).all (fun t => !Tryd.prog.wantsStandIn t) = true := by kernel_rfl
        obtain ⟨hlt, he⟩ := Array.getElem?_eq_some_iff.mp ht
        have := (Array.all_eq_true.mp hall) j hlt
        rw [he] at this
        have h9 : Tryd.prog.wantsStandIn t = false := by simpa using this
        exact h9⟩)
    (by kernel_rfl)
end Go.Proofs.YtenkmjccfpfkbaaDoor.lawPunyNumbers
namespace Go.Proofs.YtenkmjccfpfkbaaDoor
/-- The card, under a short name, for the claim. -/
theorem punyNumbers_holds : Rows.PunyNumbersCardSaid := lawPunyNumbers.carded
end Go.Proofs.YtenkmjccfpfkbaaDoor
#print axioms Go.Proofs.YtenkmjccfpfkbaaDoor.punyNumbers_holds
