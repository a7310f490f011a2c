/-
  errors.As at a *api.Fault: it answers true and hands the fault over; at nil it answers false. Conditions: the variable errors.errorType is laid; the target's cell is there. (Turned from the guide's worked example toyas.)
  errors.Is at a *api.Fault that wraps a sentinel, at a sentinel and at nil: it tells whether the sentinel is the target. Conditions: the fault's cell; the sentinels' blocks. (Turned from the guide's worked example sentry.)
  Errors as the walks tell them: the sentinels (package variables, laid), and a fault of the program's own, the last block of the world in which it comes back. Conditions: those that each lemma names.
  The named error of a number, and whether an error is the one of a number at a place. Conditions: the sentinels lie in their variables; the fault lies in its block.
  Whether an error is the one of a number at a place, as the laws ask it. Conditions: the sentinels lie in their variables, each in a block of its own; the fault lies in its block; errors.errorType is laid.
-/
import Derived.Test.YtenkmjccfpfkbaaDoorProg
import Derived.WalkKit
import Derived.LaidEql
import Derived.Stop.Asserts
import Derived.RowKitTokens
import Derived.Test.YtenkmjccfpfkbaaDoorWWords
import Derived.Below
namespace Go.Proofs.YtenkmjccfpfkbaaDoor.As
open Go.RowKit Go.Extern.Stop Go.Stop Go.Extern

/-- errors.As(nil, target). -/
theorem as_nil (t : Value) (w : World) :
    Calls Tryd.prog 30 #[.nilIface, t] w fun e w' => e = .returned (.bool false) ∧ w' = w := by
  go_enter Tryd.func30, Tryd.ntmps30
  go_wp2
  go_ret
  exact ⟨rfl, rfl⟩

/-! ### CLOSED FACTS ON THE MODEL's ENTRIES FOR internal/reflectlite, at this program's types: 25: *p.E · 27: **p.E · 23: error · 45: reflectlite's rtype · 1: how many package-level variables the dump has -/
theorem valueOf27 (t : Addr) (w : World) : (ReflectliteValue.unpack (.iface 62 (.pointer (some t)))).run Tryd.prog w
    = .ok (.agg #[.pointer (some ⟨20, 62, none⟩), .pointer (some ⟨w.heap.size, 0, none⟩), .int .u64 150]) (w.alloc (.cells #[.pointer (some t)] 62)) := by kernel_rfl
theorem type27 (a : Addr) (w : World) : (ReflectliteValue.methodAny (ReflectliteValue.valueError "reflectlite.Value.Type" 0) (fun t _ _ _ => ReflectliteType.toType t) #[.agg #[.pointer (some ⟨20, 62, none⟩), .pointer (some a), .int .u64 150]]).run Tryd.prog w
    = .ok (.iface 118 (.agg #[.pointer (some ⟨20, 62, none⟩)])) w := by kernel_rfl
theorem methodKind (h : Value) (w : World) : (Go.method 272 118 (.agg #[h]) "Kind").run Tryd.prog w = .ok (98, h) w := by kernel_rfl
theorem kind27 (w : World) : ((ReflectliteType.abiMethod fun t => (fun a : Nat => Value.int IntKind.u8 (a : Int)) <$> Rtype.kind t) #[.pointer (some ⟨20, 62, none⟩)]).run Tryd.prog w = .ok (.int .u8 22) w := by kernel_rfl
theorem kind25 (w : World) : ((ReflectliteType.abiMethod fun t => (fun a : Nat => Value.int IntKind.u8 (a : Int)) <$> Rtype.kind t) #[.pointer (some ⟨20, 60, none⟩)]).run Tryd.prog w = .ok (.int .u8 22) w := by kernel_rfl

/-! ### THE ENTRIES THAT READ OR WRITE MEMORY: laws with a premise on the cell (after Derived/Lib/ReflectliteSlice.lean's manner: each unfolding a lemma of its own, by rfl) -/
theorem rlm (z : Sem Value) (f : TypeId → Addr → Nat → Nat → Sem Value) (v : Value) :
    ReflectliteValue.method z f #[v] = (do match ← ReflectliteValue.parts v with | none => z | some (t, a, fl) => f t a fl (fl % 32)) := rfl
theorem parts27 (a : Addr) (w : World) : (ReflectliteValue.parts (.agg #[.pointer (some ⟨20, 62, none⟩), .pointer (some a), .int .u64 150])).run Tryd.prog w = .ok (some (62, a, 150)) w := by kernel_rfl
/-- (Value).IsNil at the Value of a **p.E that is not nil. -/
theorem isNil27 (a p : Addr) (W : World) (ha : W.cell? a = some (.pointer (some p))) :
    (ReflectliteValue.method (ReflectliteValue.valueError "reflectlite.Value.IsNil" 0) ReflectliteValue.isNil #[.agg #[.pointer (some ⟨20, 62, none⟩), .pointer (some a), .int .u64 150]]).run Tryd.prog W = .ok (.bool false) W := by
  rw [rlm]
  simp only [Sem.run_bind, parts27, Result.andThen]
  simp [ReflectliteValue.isNil, loadVar, isAgg, underlying, Tryd.underlying62, ha, Result.andThen]

theorem methodElem (h : Value) (w : World) : (Go.method 272 118 (.agg #[h]) "Elem").run Tryd.prog w = .ok (110, .agg #[h]) w := by kernel_rfl
theorem methodImplements (h : Value) (w : World) : (Go.method 272 118 (.agg #[h]) "Implements").run Tryd.prog w = .ok (111, .agg #[h]) w := by kernel_rfl
theorem methodAssignableTo (h : Value) (w : World) : (Go.method 272 118 (.agg #[h]) "AssignableTo").run Tryd.prog w = .ok (108, .agg #[h]) w := by kernel_rfl
theorem elem27 (w : World) : (ReflectliteType.method ReflectliteType.elem #[.agg #[.pointer (some ⟨20, 62, none⟩)]]).run Tryd.prog w = .ok (.iface 118 (.agg #[.pointer (some ⟨20, 60, none⟩)])) w := by kernel_rfl
theorem implements25 (w : World) : (ReflectliteType.relation "Implements" ReflectliteType.implements_ #[.agg #[.pointer (some ⟨20, 60, none⟩)], .iface 118 (.agg #[.pointer (some ⟨20, 25, none⟩)])]).run Tryd.prog w = .ok (.bool true) w := by kernel_rfl
theorem typeOf25 (v : Value) (w : World) : (ReflectliteType.typeOf #[.iface 60 v]).run Tryd.prog w = .ok (.iface 118 (.agg #[.pointer (some ⟨20, 60, none⟩)])) w := by kernel_rfl
theorem assignable25 (w : World) : (ReflectliteType.relation "AssignableTo" ReflectliteType.assignableTo #[.agg #[.pointer (some ⟨20, 60, none⟩)], .iface 118 (.agg #[.pointer (some ⟨20, 60, none⟩)])]).run Tryd.prog w = .ok (.bool true) w := by kernel_rfl
theorem valueOf25 (e : Addr) (w : World) : (ReflectliteValue.unpack (.iface 60 (.pointer (some e)))).run Tryd.prog w
    = .ok (.agg #[.pointer (some ⟨20, 60, none⟩), .pointer (some ⟨w.heap.size, 0, none⟩), .int .u64 150]) (w.alloc (.cells #[.pointer (some e)] 60)) := by kernel_rfl

theorem elemOf27 (w : World) : (Rtype.elem? 62).run Tryd.prog w = .ok (some 60) w := by kernel_rfl
theorem mk25 (p : Addr) (w : World) : (ReflectliteValue.mk 60 p ReflectliteValue.flagAddr).run Tryd.prog w = .ok (.agg #[.pointer (some ⟨20, 60, none⟩), .pointer (some p), .int .u64 406]) w := by kernel_rfl
/-- (Value).Elem at the Value of a **p.E that is not nil: the Value of the *p.E variable that it points to, addressable. -/
theorem elemV27 (a p : Addr) (W : World) (ha : W.cell? a = some (.pointer (some p))) :
    (ReflectliteValue.method (ReflectliteValue.valueError "reflectlite.Value.Elem" 0) ReflectliteValue.elem #[.agg #[.pointer (some ⟨20, 62, none⟩), .pointer (some a), .int .u64 150]]).run Tryd.prog W
      = .ok (.agg #[.pointer (some ⟨20, 60, none⟩), .pointer (some p), .int .u64 406]) W := by
  rw [rlm]
  simp only [Sem.run_bind, parts27, Result.andThen]
  simp [ReflectliteValue.elem, loadVar, isAgg, underlying, Tryd.underlying62, ha, Result.andThen, elemOf27, mk25]
theorem rls (v x : Value) : ReflectliteValue.set #[v, x] = (do
    let (some (dst, a, fl), some (src, b, _)) := (← ReflectliteValue.parts v, ← ReflectliteValue.parts x)
      | unsupported (.noEntry "extern/(internal/reflectlite.Value).Set.zeroValue")
    if fl / ReflectliteValue.flagAddr % 2 == 0 then unsupported (.noEntry "extern/(internal/reflectlite.Value).Set.unaddressable")
    let val ← loadVar src b
    if ← Rtype.directlyAssignable dst src then storeVar dst a val
    else if ← Rtype.implements dst src then
      if (← Rtype.kind src) == 20 then
        match val with
        | .nilIface => unsupported (.noEntry "extern/reflectlite: a nil value of one interface type handed on as a value of another")
        | _ => storeVar dst a val
      else storeVar dst a (.iface src val)
    else panicString ("reflectlite.Set: value of type " ++ (← Rtype.spelt src) ++ " is not assignable to type " ++ (← Rtype.spelt dst))
    pure (.tuple #[])) := rfl
theorem parts25a (a : Addr) (w : World) : (ReflectliteValue.parts (.agg #[.pointer (some ⟨20, 60, none⟩), .pointer (some a), .int .u64 406])).run Tryd.prog w = .ok (some (60, a, 406)) w := by kernel_rfl
theorem parts25 (a : Addr) (w : World) : (ReflectliteValue.parts (.agg #[.pointer (some ⟨20, 60, none⟩), .pointer (some a), .int .u64 150])).run Tryd.prog w = .ok (some (60, a, 150)) w := by kernel_rfl
theorem direct25 (w : World) : (Rtype.directlyAssignable 60 60).run Tryd.prog w = .ok true w := by kernel_rfl
theorem size25 (w : World) : (sizeOf 60).run Tryd.prog w = .ok 1 w := by kernel_rfl
/-- (Value).Set: the *p.E variable at 'ta' gets what the Value's own variable 'b' holds. -/
theorem set25 (ta b e : Addr) (old : Value) (W : World) (hb : W.cell? b = some (.pointer (some e))) (ht : W.cell? ta = some old) (hf : W.frozen? ta = false) :
    (ReflectliteValue.set #[.agg #[.pointer (some ⟨20, 60, none⟩), .pointer (some ta), .int .u64 406], .agg #[.pointer (some ⟨20, 60, none⟩), .pointer (some b), .int .u64 150]]).run Tryd.prog W
      = .ok (.tuple #[]) (W.setCell ta (.pointer (some e))) := by
  rw [rls]
  simp only [Sem.run_bind, parts25a, parts25, Result.andThen]
  simp [ReflectliteValue.flagAddr, loadVar, isAgg, underlying, Tryd.underlying60, hb, Result.andThen, direct25, storeVar, Value.cells, storeCells, Addr.add]
  rw [run_store Tryd.prog W ta _ _ (by rfl)]
  simp [ht, hf]

set_option maxHeartbeats 4000000 in
theorem as_hit (e t : Addr) (old : Value) (w : World) (hg : w.cell? ⟨3, 0, none⟩ = some (.iface 118 (.agg #[.pointer (some ⟨20, 25, none⟩)]))) (ht0 : w.cell? t = some old) (hf0 : w.frozen? t = false) :
    Calls Tryd.prog 30 #[.iface 60 (.pointer (some e)), .iface 62 (.pointer (some t))] w fun ev w' => ev = .returned (.bool true) ∧ w' = ((((w.alloc (.cells #[.pointer (some t)] 62)).alloc (.cells #[.pointer (some ⟨20, 62, none⟩), .pointer (some ⟨w.heap.size, 0, none⟩), .int .u64 150] 84)).alloc (.cells #[.pointer (some ⟨20, 62, none⟩), .pointer (some ⟨w.heap.size, 0, none⟩), .int .u64 150] 84)).alloc (.cells #[.pointer (some e)] 60)).setCell t (.pointer (some e)) := by
  have h6 := @run_callFunc_extern Tryd.prog 45 _ (fun args => ReflectliteValue.unpack (args.getD 0 (.tuple #[]))) Tryd.func45 (by kernel_rfl) (by kernel_rfl) (by kernel_rfl) (by kernel_rfl)
  have h7 := @run_callFunc_extern Tryd.prog 46 _ (ReflectliteValue.methodAny (ReflectliteValue.valueError "reflectlite.Value.Type" 0) (fun t _ _ _ => ReflectliteType.toType t)) Tryd.func46 (by kernel_rfl) (by kernel_rfl) (by kernel_rfl) (by kernel_rfl)
  have h8 := @run_callFunc_extern Tryd.prog 47 _ (ReflectliteValue.method (ReflectliteValue.valueError "reflectlite.Value.IsNil" 0) ReflectliteValue.isNil) Tryd.func47 (by kernel_rfl) (by kernel_rfl) (by kernel_rfl) (by kernel_rfl)
  have h27 := @run_callFunc_extern Tryd.prog 98 _ (ReflectliteType.abiMethod fun t => do pure (.int .u8 (← Rtype.kind t))) Tryd.func98 (by kernel_rfl) (by kernel_rfl) (by kernel_rfl) (by kernel_rfl)
  have h37 := @run_callFunc_extern Tryd.prog 110 _ (ReflectliteType.method ReflectliteType.elem) Tryd.func110 (by kernel_rfl) (by kernel_rfl) (by kernel_rfl) (by kernel_rfl)
  have h38 := @run_callFunc_extern Tryd.prog 111 _ (ReflectliteType.relation "Implements" ReflectliteType.implements_) Tryd.func111 (by kernel_rfl) (by kernel_rfl) (by kernel_rfl) (by kernel_rfl)
  have h10 := @run_callFunc_extern Tryd.prog 49 _ ReflectliteType.typeOf Tryd.func49 (by kernel_rfl) (by kernel_rfl) (by kernel_rfl) (by kernel_rfl)
  have h35 := @run_callFunc_extern Tryd.prog 108 _ (ReflectliteType.relation "AssignableTo" ReflectliteType.assignableTo) Tryd.func108 (by kernel_rfl) (by kernel_rfl) (by kernel_rfl) (by kernel_rfl)
  have h11 := @run_callFunc_extern Tryd.prog 70 _ (ReflectliteValue.method (ReflectliteValue.valueError "reflectlite.Value.Elem" 0) ReflectliteValue.elem) Tryd.func70 (by kernel_rfl) (by kernel_rfl) (by kernel_rfl) (by kernel_rfl)
  have h12 := @run_callFunc_extern Tryd.prog 71 _ ReflectliteValue.set Tryd.func71 (by kernel_rfl) (by kernel_rfl) (by kernel_rfl) (by kernel_rfl)
  have tO := typeOf25
  have mA := methodAssignableTo
  have a25 := assignable25
  have v25 := valueOf25
  have f6 := valueOf27
  have f7 := type27
  have mK := methodKind
  have mE := methodElem
  have mI := methodImplements
  have k27 := kind27
  have k25 := kind25
  have e27 := elem27
  have i25 := implements25
  have n8 := isNil27 ⟨w.heap.size, 0, none⟩ t ((w.alloc (.cells #[.pointer (some t)] 62)).alloc (.cells #[.pointer (some ⟨20, 62, none⟩), .pointer (some ⟨w.heap.size, 0, none⟩), .int .u64 150] 84)) (by simp)
  have hlt : 3 < w.heap.size := by
    rcases Nat.lt_or_ge 3 w.heap.size with h | h
    · exact h
    · simp [World.cell?, Array.getElem?_eq_none h] at hg
  have hg2 : ((w.alloc (.cells #[.pointer (some t)] 62)).alloc (.cells #[.pointer (some ⟨20, 62, none⟩), .pointer (some ⟨w.heap.size, 0, none⟩), .int .u64 150] 84)).cell? ⟨3, 0, none⟩ = some (.iface 118 (.agg #[.pointer (some ⟨20, 25, none⟩)])) := by
    rw [World.cell?_alloc_lt _ _ ⟨3, 0, none⟩ (by simp; omega), World.cell?_alloc_lt _ _ ⟨3, 0, none⟩ hlt]; exact hg
  have htl : t.block < w.heap.size := by
    rcases Nat.lt_or_ge t.block w.heap.size with h | h
    · exact h
    · simp [World.cell?, Array.getElem?_eq_none h] at ht0
  have el := elemV27 ⟨w.heap.size, 0, none⟩ t (((w.alloc (.cells #[.pointer (some t)] 62)).alloc (.cells #[.pointer (some ⟨20, 62, none⟩), .pointer (some ⟨w.heap.size, 0, none⟩), .int .u64 150] 84)).alloc (.cells #[.pointer (some ⟨20, 62, none⟩), .pointer (some ⟨w.heap.size, 0, none⟩), .int .u64 150] 84)) (by rw [World.cell?_alloc_lt _ _ ⟨w.heap.size, 0, none⟩ (by simp; omega)]; simp)
  have st := set25 t ⟨w.heap.size + 1 + 1 + 1, 0, none⟩ e old ((((w.alloc (.cells #[.pointer (some t)] 62)).alloc (.cells #[.pointer (some ⟨20, 62, none⟩), .pointer (some ⟨w.heap.size, 0, none⟩), .int .u64 150] 84)).alloc (.cells #[.pointer (some ⟨20, 62, none⟩), .pointer (some ⟨w.heap.size, 0, none⟩), .int .u64 150] 84)).alloc (.cells #[.pointer (some e)] 60))
    (by rw [World.cell?_alloc_at _ _ _ _ (by simp)]; rfl)
    (by rw [World.cell?_alloc_lt _ _ t (by simp; omega), World.cell?_alloc_lt _ _ t (by simp; omega), World.cell?_alloc_lt _ _ t (by simp; omega), World.cell?_alloc_lt _ _ t htl]; exact ht0)
    (by rw [World.frozen?_alloc_old _ _ t (by simp; omega), World.frozen?_alloc_old _ _ t (by simp; omega), World.frozen?_alloc_old _ _ t (by simp; omega), World.frozen?_alloc_old _ _ t (Nat.ne_of_lt htl)]; exact hf0)
  go_enter Tryd.func30, Tryd.ntmps30
  go_wp2
  refine wp_loop_rounds 1 ?_
  rw [rounds_succ]
  go_wp2
  go_ret
  exact ⟨rfl, rfl⟩
end Go.Proofs.YtenkmjccfpfkbaaDoor.As
namespace Go.Proofs.YtenkmjccfpfkbaaDoor.Is
open Go.RowKit Go.Extern.Stop Go.Stop Go.Extern

/-! ### CLOSED FACTS: what 'reflectlite.TypeOf(target).Comparable()' gives at such a target -/
theorem isTypeOf (v : Value) (w : World) : (Extern.ReflectliteType.typeOf #[.iface 142 v]).run Tryd.prog w = .ok (.iface 118 (.agg #[.pointer (some ⟨20, 142, none⟩)])) w := by kernel_rfl
theorem isComparable (w : World) : ((Extern.ReflectliteType.method fun t => do Extern.Rtype.noPackHeld "Comparable" t; (fun a => Value.bool a.comparable) <$> typeInfo t) #[.agg #[.pointer (some ⟨20, 142, none⟩)]]).run Tryd.prog w = .ok (.bool true) w := by kernel_rfl
theorem isMethodComparable (v : Value) (w : World) : (Go.method 272 118 v "Comparable").run Tryd.prog w = .ok (109, v) w := by kernel_rfl
theorem isComp : (Tryd.prog.info? 142).map (·.comparable) = some true := by kernel_rfl
theorem isSize : (Tryd.prog.info? 160).map (·.size) = some 1 := by kernel_rfl

/-! ### CLOSED FACTS ON THE METHOD SETS: what errors.is's assertions find -/
theorem noIsE (v : Value) (xT : TypeId) (w : World) : (Instr.typeAssert (.iface 142 v) xT 129 true).run Tryd.prog w = .ok (.tuple #[.nilIface, .bool false]) w := run_typeAssert_lacksB Tryd.underlying129 (by kernel_rfl) (by kernel_rfl) v xT w
theorem noUnwrapE (v : Value) (xT : TypeId) (w : World) : (Instr.typeAssert (.iface 142 v) xT 125 true).run Tryd.prog w = .ok (.tuple #[.nilIface, .bool false]) w := run_typeAssert_lacksB Tryd.underlying125 (by kernel_rfl) (by kernel_rfl) v xT w
theorem noUnwrapsE (v : Value) (xT : TypeId) (w : World) : (Instr.typeAssert (.iface 142 v) xT 126 true).run Tryd.prog w = .ok (.tuple #[.nilIface, .bool false]) w := run_typeAssert_lacksB Tryd.underlying126 (by kernel_rfl) (by kernel_rfl) v xT w
theorem noIsW (v : Value) (xT : TypeId) (w : World) : (Instr.typeAssert (.iface 60 v) xT 129 true).run Tryd.prog w = .ok (.tuple #[.nilIface, .bool false]) w := run_typeAssert_lacksB Tryd.underlying129 (by kernel_rfl) (by kernel_rfl) v xT w
theorem hasUnwrapW (v : Value) (xT : TypeId) (w : World) : (Instr.typeAssert (.iface 60 v) xT 125 true).run Tryd.prog w = .ok (.tuple #[.iface 60 v, .bool true]) w := run_typeAssert_hasB Tryd.underlying125 (by kernel_rfl) v xT w
theorem methodUnwrap (v : Value) (w : World) : (Go.method 272 60 v "Unwrap").run Tryd.prog w = .ok (103, v) w := by kernel_rfl

/-- errors.Is(x, x), x a pointer to an errors.errorString. -/
theorem is_same (a : Addr) (w : World) :
    Calls Tryd.prog 31 #[.iface 142 (.pointer (some a)), .iface 142 (.pointer (some a))] w fun e w' => e = .returned (.bool true) ∧ w' = w := by
  obtain ⟨i, hi, hcmp⟩ := Option.map_eq_some_iff.1 isComp
  obtain ⟨j, hj, hjs⟩ := Option.map_eq_some_iff.1 isSize
  have h8 := @run_callFunc_extern Tryd.prog 49 _ Extern.ReflectliteType.typeOf Tryd.func49 (by kernel_rfl) (by kernel_rfl) (by kernel_rfl) (by kernel_rfl)
  have h32 := @run_callFunc_extern Tryd.prog 109 _ (Extern.ReflectliteType.method fun t => do Extern.Rtype.noPackHeld "Comparable" t; pure (.bool (← typeInfo t).comparable)) Tryd.func109 (by kernel_rfl) (by kernel_rfl) (by kernel_rfl) (by kernel_rfl)
  have tT := isTypeOf
  have cT := isComparable
  have mR := isMethodComparable
  have heq := run_eql_iface_ptr_same (P := Tryd.prog) w a Tryd.underlying25 Tryd.underlying142 hi hcmp hj
  go_enter Tryd.func31, Tryd.ntmps31
  go_wp2
  refine wp_loop_rounds 1 ?_
  rw [rounds_succ]
  go_wp2
  go_ret
  exact ⟨rfl, rfl⟩

/-- errors.Is(nil, x). -/
theorem is_nil (b : Addr) (w : World) :
    Calls Tryd.prog 31 #[.nilIface, .iface 142 (.pointer (some b))] w fun e w' => e = .returned (.bool false) ∧ w' = w := by
  have hn := run_eql_iface_nil_left (P := Tryd.prog) w 142 (.pointer (some b)) Tryd.underlying25
  go_enter Tryd.func31, Tryd.ntmps31
  go_wp2
  go_ret
  exact ⟨rfl, rfl⟩

/-- errors.Is(x, y), two different pointers to errors.errorString: neither has Is nor Unwrap: false. -/
theorem is_other (a b : Addr) (ca cb : Array Value) (ta tb : TypeId) (w : World) (hne : a ≠ b) (ha : w.heap[a.block]? = some (.cells ca ta (0, 0))) (hb : w.heap[b.block]? = some (.cells cb tb (0, 0))) :
    Calls Tryd.prog 31 #[.iface 142 (.pointer (some a)), .iface 142 (.pointer (some b))] w fun e w' => e = .returned (.bool false) ∧ w' = w := by
  obtain ⟨i, hi, hcmp⟩ := Option.map_eq_some_iff.1 isComp
  obtain ⟨j, hj, hjs⟩ := Option.map_eq_some_iff.1 isSize
  have h8 := @run_callFunc_extern Tryd.prog 49 _ Extern.ReflectliteType.typeOf Tryd.func49 (by kernel_rfl) (by kernel_rfl) (by kernel_rfl) (by kernel_rfl)
  have h32 := @run_callFunc_extern Tryd.prog 109 _ (Extern.ReflectliteType.method fun t => do Extern.Rtype.noPackHeld "Comparable" t; pure (.bool (← typeInfo t).comparable)) Tryd.func109 (by kernel_rfl) (by kernel_rfl) (by kernel_rfl) (by kernel_rfl)
  have tT := isTypeOf
  have cT := isComparable
  have mR := isMethodComparable
  have nE := noIsE
  have uE := noUnwrapE
  have vE := noUnwrapsE
  have nW := noIsW
  have uW := hasUnwrapW
  have mU := methodUnwrap
  have heq := run_eql_iface_ptr_other (P := Tryd.prog) w Tryd.underlying25 Tryd.underlying142 hi hcmp hj (by rw [hjs]; decide) hne ha hb
  go_enter Tryd.func31, Tryd.ntmps31
  go_wp2
  refine wp_loop_rounds 1 ?_
  rw [rounds_succ]
  go_wp2
  go_ret
  exact ⟨rfl, rfl⟩

/-- errors.Is(e, x), e a *api.Fault that wraps x itself: one Unwrap, then equal. -/
theorem is_wrap_same (pb po : Nat) (b : Addr) (w : World) (h1 : w.cell? ⟨pb, po + 1, none⟩ = some (.iface 142 (.pointer (some b)))) :
    Calls Tryd.prog 31 #[.iface 60 (.pointer (some ⟨pb, po, none⟩)), .iface 142 (.pointer (some b))] w fun e w' => e = .returned (.bool true) ∧ w' = w := by
  obtain ⟨i, hi, hcmp⟩ := Option.map_eq_some_iff.1 isComp
  obtain ⟨j, hj, hjs⟩ := Option.map_eq_some_iff.1 isSize
  have h8 := @run_callFunc_extern Tryd.prog 49 _ Extern.ReflectliteType.typeOf Tryd.func49 (by kernel_rfl) (by kernel_rfl) (by kernel_rfl) (by kernel_rfl)
  have h32 := @run_callFunc_extern Tryd.prog 109 _ (Extern.ReflectliteType.method fun t => do Extern.Rtype.noPackHeld "Comparable" t; pure (.bool (← typeInfo t).comparable)) Tryd.func109 (by kernel_rfl) (by kernel_rfl) (by kernel_rfl) (by kernel_rfl)
  have tT := isTypeOf
  have cT := isComparable
  have mR := isMethodComparable
  have nE := noIsE
  have uE := noUnwrapE
  have vE := noUnwrapsE
  have nW := noIsW
  have uW := hasUnwrapW
  have mU := methodUnwrap
  have heq := run_eql_iface_ptr_same (P := Tryd.prog) w b Tryd.underlying25 Tryd.underlying142 hi hcmp hj
  have hty := run_eql_iface_types (P := Tryd.prog) 60 142 (.pointer (some ⟨pb, po, none⟩)) (.pointer (some b)) Tryd.underlying25 (by decide) w
  go_enter Tryd.func31, Tryd.ntmps31
  go_wp2
  refine wp_loop_rounds 2 ?_
  rw [rounds_succ]
  go_wp2
  rw [rounds_succ]
  go_wp2
  go_ret
  exact ⟨rfl, rfl⟩

/-- errors.Is(e, x), e a *api.Fault that wraps another error of errors.New's make. -/
theorem is_wrap_other (pb po : Nat) (b a : Addr) (ca cb : Array Value) (ta tb : TypeId) (w : World) (h1 : w.cell? ⟨pb, po + 1, none⟩ = some (.iface 142 (.pointer (some a)))) (hne : a ≠ b) (ha : w.heap[a.block]? = some (.cells ca ta (0, 0))) (hb : w.heap[b.block]? = some (.cells cb tb (0, 0))) :
    Calls Tryd.prog 31 #[.iface 60 (.pointer (some ⟨pb, po, none⟩)), .iface 142 (.pointer (some b))] w fun e w' => e = .returned (.bool false) ∧ w' = w := by
  obtain ⟨i, hi, hcmp⟩ := Option.map_eq_some_iff.1 isComp
  obtain ⟨j, hj, hjs⟩ := Option.map_eq_some_iff.1 isSize
  have h8 := @run_callFunc_extern Tryd.prog 49 _ Extern.ReflectliteType.typeOf Tryd.func49 (by kernel_rfl) (by kernel_rfl) (by kernel_rfl) (by kernel_rfl)
  have h32 := @run_callFunc_extern Tryd.prog 109 _ (Extern.ReflectliteType.method fun t => do Extern.Rtype.noPackHeld "Comparable" t; pure (.bool (← typeInfo t).comparable)) Tryd.func109 (by kernel_rfl) (by kernel_rfl) (by kernel_rfl) (by kernel_rfl)
  have tT := isTypeOf
  have cT := isComparable
  have mR := isMethodComparable
  have nE := noIsE
  have uE := noUnwrapE
  have vE := noUnwrapsE
  have nW := noIsW
  have uW := hasUnwrapW
  have mU := methodUnwrap
  have heq := run_eql_iface_ptr_other (P := Tryd.prog) w Tryd.underlying25 Tryd.underlying142 hi hcmp hj (by rw [hjs]; decide) hne ha hb
  have hty := run_eql_iface_types (P := Tryd.prog) 60 142 (.pointer (some ⟨pb, po, none⟩)) (.pointer (some b)) Tryd.underlying25 (by decide) w
  go_enter Tryd.func31, Tryd.ntmps31
  go_wp2
  refine wp_loop_rounds 2 ?_
  rw [rounds_succ]
  go_wp2
  rw [rounds_succ]
  go_wp2
  go_ret
  exact ⟨rfl, rfl⟩


end Go.Proofs.YtenkmjccfpfkbaaDoor.Is
namespace Go.Proofs.YtenkmjccfpfkbaaDoor.Er
open Go.RowKit Go.Proofs.YtenkmjccfpfkbaaDoorW.PrintWords

/-- the package variable of a sentinel's number. -/
def gOf : Nat → Nat
 | 1 => 2
 | 2 => 4
 | 3 => 1
 | 4 => 0
 | 5 => 5
 | 6 => 6
 | 7 => 7
 | 8 => 8
 | 9 => 9
 | 10 => 10
 | 11 => 11
 | 12 => 12
 | 13 => 13
 | 14 => 14
 | 15 => 15
 | 16 => 16
 | 17 => 17
 | 18 => 18
  | _ => 0

/-- a sentinel's value; sv: the sentinels' blocks. -/
def senW (sv : Nat → Addr) (c : Nat) : Value := if c = 0 then .nilIface else .iface 142 (.pointer (some (sv c)))
theorem senW_pos (sv : Nat → Addr) (c : Nat) (h : c ≠ 0) : senW sv c = .iface 142 (.pointer (some (sv c))) := if_neg h
/-- the sentinels of these numbers lie in their variables. -/
def Sents (cs : List Nat) (sv : Nat → Addr) (w : World) : Prop := ∀ c ∈ cs, w.cell? ⟨gOf c, 0, none⟩ = some (senW sv c)
theorem cell_lt {w : World} {a : Addr} {v : Value} (h : w.cell? a = some v) : a.block < w.heap.size := by
  rcases Nat.lt_or_ge a.block w.heap.size with h1 | h1
  · exact h1
  · simp [World.cell?, Array.getElem?_eq_none h1] at h
theorem Sents.below {cs : List Nat} {sv : Nat → Addr} {w W : World} (h : Sents cs sv w) (hb : Below w.heap.size w W) : Sents cs sv W := fun c hc => (hb.cell (cell_lt (h c hc))).trans (h c hc)
theorem Sents.mem {cs cs' : List Nat} {sv : Nat → Addr} {w : World} (h : Sents cs sv w) (hs : ∀ c ∈ cs', c ∈ cs) : Sents cs' sv w := fun c hc => h c (hs c hc)

theorem Sents.at1 {cs : List Nat} {sv : Nat → Addr} {w : World} (h : Sents cs sv w) (hc : 1 ∈ cs) : w.cell? ⟨2, 0, none⟩ = some (senW sv 1) := h 1 hc
theorem Sents.at2 {cs : List Nat} {sv : Nat → Addr} {w : World} (h : Sents cs sv w) (hc : 2 ∈ cs) : w.cell? ⟨4, 0, none⟩ = some (senW sv 2) := h 2 hc
theorem Sents.at3 {cs : List Nat} {sv : Nat → Addr} {w : World} (h : Sents cs sv w) (hc : 3 ∈ cs) : w.cell? ⟨1, 0, none⟩ = some (senW sv 3) := h 3 hc
theorem Sents.at4 {cs : List Nat} {sv : Nat → Addr} {w : World} (h : Sents cs sv w) (hc : 4 ∈ cs) : w.cell? ⟨0, 0, none⟩ = some (senW sv 4) := h 4 hc
theorem Sents.at5 {cs : List Nat} {sv : Nat → Addr} {w : World} (h : Sents cs sv w) (hc : 5 ∈ cs) : w.cell? ⟨5, 0, none⟩ = some (senW sv 5) := h 5 hc
theorem Sents.at6 {cs : List Nat} {sv : Nat → Addr} {w : World} (h : Sents cs sv w) (hc : 6 ∈ cs) : w.cell? ⟨6, 0, none⟩ = some (senW sv 6) := h 6 hc
theorem Sents.at7 {cs : List Nat} {sv : Nat → Addr} {w : World} (h : Sents cs sv w) (hc : 7 ∈ cs) : w.cell? ⟨7, 0, none⟩ = some (senW sv 7) := h 7 hc
theorem Sents.at8 {cs : List Nat} {sv : Nat → Addr} {w : World} (h : Sents cs sv w) (hc : 8 ∈ cs) : w.cell? ⟨8, 0, none⟩ = some (senW sv 8) := h 8 hc
theorem Sents.at9 {cs : List Nat} {sv : Nat → Addr} {w : World} (h : Sents cs sv w) (hc : 9 ∈ cs) : w.cell? ⟨9, 0, none⟩ = some (senW sv 9) := h 9 hc
theorem Sents.at10 {cs : List Nat} {sv : Nat → Addr} {w : World} (h : Sents cs sv w) (hc : 10 ∈ cs) : w.cell? ⟨10, 0, none⟩ = some (senW sv 10) := h 10 hc
theorem Sents.at11 {cs : List Nat} {sv : Nat → Addr} {w : World} (h : Sents cs sv w) (hc : 11 ∈ cs) : w.cell? ⟨11, 0, none⟩ = some (senW sv 11) := h 11 hc
theorem Sents.at12 {cs : List Nat} {sv : Nat → Addr} {w : World} (h : Sents cs sv w) (hc : 12 ∈ cs) : w.cell? ⟨12, 0, none⟩ = some (senW sv 12) := h 12 hc
theorem Sents.at13 {cs : List Nat} {sv : Nat → Addr} {w : World} (h : Sents cs sv w) (hc : 13 ∈ cs) : w.cell? ⟨13, 0, none⟩ = some (senW sv 13) := h 13 hc
theorem Sents.at14 {cs : List Nat} {sv : Nat → Addr} {w : World} (h : Sents cs sv w) (hc : 14 ∈ cs) : w.cell? ⟨14, 0, none⟩ = some (senW sv 14) := h 14 hc
theorem Sents.at15 {cs : List Nat} {sv : Nat → Addr} {w : World} (h : Sents cs sv w) (hc : 15 ∈ cs) : w.cell? ⟨15, 0, none⟩ = some (senW sv 15) := h 15 hc
theorem Sents.at16 {cs : List Nat} {sv : Nat → Addr} {w : World} (h : Sents cs sv w) (hc : 16 ∈ cs) : w.cell? ⟨16, 0, none⟩ = some (senW sv 16) := h 16 hc
theorem Sents.at17 {cs : List Nat} {sv : Nat → Addr} {w : World} (h : Sents cs sv w) (hc : 17 ∈ cs) : w.cell? ⟨17, 0, none⟩ = some (senW sv 17) := h 17 hc
theorem Sents.at18 {cs : List Nat} {sv : Nat → Addr} {w : World} (h : Sents cs sv w) (hc : 18 ∈ cs) : w.cell? ⟨18, 0, none⟩ = some (senW sv 18) := h 18 hc
/-- an error's value in the world in which it comes back: nil, or the fault that is the last block. -/
def errV (W : World) : Option Int → Value
  | none => .nilIface
  | some _ => .iface 60 (.pointer (some ⟨W.heap.size - 1, 0, none⟩))
theorem errV_none (W : World) : errV W none = .nilIface := rfl
theorem errV_some (W : World) (e : Int) : errV W (some e) = .iface 60 (.pointer (some ⟨W.heap.size - 1, 0, none⟩)) := rfl
/-- a fault's place and number in one whole number. -/
def enc (at_ : Int) (c : Nat) : Int := at_ * 64 + (c : Int)
theorem enc_at (at_ : Int) (c : Nat) (h : c < 64) : enc at_ c / 64 = at_ := by unfold enc; omega
theorem enc_no (at_ : Int) (c : Nat) (h : c < 64) : (enc at_ c % 64).toNat = c := by unfold enc; omega
/-- what the fault's block holds. -/
def FaultAt (sv : Nat → Addr) (W : World) (b : Nat) (e : Int) : Prop := W.heap[b]? = some (.cells #[.int .i64 (e / 64), senW sv (e % 64).toNat] 64 (0, 0))
def ErrAt (sv : Nat → Addr) (W : World) : Option Int → Prop
  | none => True
  | some e => FaultAt sv W (W.heap.size - 1) e
theorem fault_calls {P : Program} {f : Nat} (sv : Nat → Addr) (at_ : Int) (c : Nat) (hc : c < 64) (w : World)
    (h : Calls P f #[.int .i64 at_, senW sv c] w fun e w' => e = .returned (.iface 60 (.pointer (some ⟨w.heap.size, 0, none⟩))) ∧ w' = w.alloc (.cells #[.int .i64 at_, senW sv c] 64)) :
    Calls P f #[.int .i64 at_, senW sv c] w fun e w' => e = .returned (errV w' (some (enc at_ c))) ∧ ErrAt sv w' (some (enc at_ c)) ∧ Below w.heap.size w w' := by
  refine h.mono ?_
  rintro e w' ⟨rfl, rfl⟩
  have hs : (w.alloc (.cells #[.int .i64 at_, senW sv c] 64)).heap.size - 1 = w.heap.size := by simp
  refine ⟨by rw [errV_some, hs], ?_, below_alloc (Below.refl _ _) _⟩
  show FaultAt sv _ _ _
  unfold FaultAt
  rw [hs, enc_at _ _ hc, enc_no _ _ hc]
  exact heap_alloc_new w _
/-- all numbers that have a named error. -/
def allCodes : List Nat := [1, 2, 3, 4, 5, 6, 7, 8, 9, 10, 11, 12, 13, 14, 15, 16, 17, 18]
/-- the sentinels' blocks: each its own. -/
structure Apart (cs : List Nat) (sv : Nat → Addr) (w : World) : Prop where
  blk : ∀ c ∈ cs, ∃ (cells : Array Value) (t : TypeId), w.heap[(sv c).block]? = some (.cells cells t (0, 0))
  ne : ∀ c ∈ cs, ∀ d ∈ cs, c ≠ d → sv c ≠ sv d
theorem Apart.below {cs : List Nat} {sv : Nat → Addr} {w W : World} (h : Apart cs sv w) (hb : Below w.heap.size w W) : Apart cs sv W :=
  ⟨fun c hc => by obtain ⟨x, t, e⟩ := h.blk c hc; exact ⟨x, t, blk_below e hb⟩, h.ne⟩
/-- errors.errorType as it is laid. -/
def EType (w : World) : Prop := w.cell? ⟨3, 0, none⟩ = some (.iface 118 (.agg #[.pointer (some ⟨20, 25, none⟩)]))
theorem EType.below {w W : World} (h : EType w) (hb : Below w.heap.size w W) : EType W := (hb.cell (cell_lt h)).trans h
/-- the numbers whose variables the laws list. -/
def codesLow : List Nat := allCodes
/-- what lies ahead of the calls: the sentinels that are listed, and errors.errorType. -/
structure Laid (sv : Nat → Addr) (w : World) : Prop where
  sents : Sents codesLow sv w
  etype : EType w
theorem Laid.below {sv : Nat → Addr} {w W : World} (h : Laid sv w) (hb : Below w.heap.size w W) : Laid sv W := ⟨h.sents.below hb, h.etype.below hb⟩
/-- all sentinels, each in a block of its own, and errors.errorType. -/
structure LaidAll (sv : Nat → Addr) (w : World) : Prop where
  sents : Sents allCodes sv w
  apart : Apart allCodes sv w
  etype : EType w
theorem LaidAll.below {sv : Nat → Addr} {w W : World} (h : LaidAll sv w) (hb : Below w.heap.size w W) : LaidAll sv W := ⟨h.sents.below hb, h.apart.below hb, h.etype.below hb⟩
theorem LaidAll.laid {sv : Nat → Addr} {w : World} (h : LaidAll sv w) : Laid sv w := ⟨h.sents.mem (by decide), h.etype⟩
theorem Laid.at1 {sv : Nat → Addr} {w : World} (h : Laid sv w) (hc : 1 ∈ codesLow := by decide) : w.cell? ⟨2, 0, none⟩ = some (senW sv 1) := h.sents.at1 hc
theorem Laid.at2 {sv : Nat → Addr} {w : World} (h : Laid sv w) (hc : 2 ∈ codesLow := by decide) : w.cell? ⟨4, 0, none⟩ = some (senW sv 2) := h.sents.at2 hc
theorem Laid.at3 {sv : Nat → Addr} {w : World} (h : Laid sv w) (hc : 3 ∈ codesLow := by decide) : w.cell? ⟨1, 0, none⟩ = some (senW sv 3) := h.sents.at3 hc
theorem Laid.at4 {sv : Nat → Addr} {w : World} (h : Laid sv w) (hc : 4 ∈ codesLow := by decide) : w.cell? ⟨0, 0, none⟩ = some (senW sv 4) := h.sents.at4 hc
theorem Laid.at5 {sv : Nat → Addr} {w : World} (h : Laid sv w) (hc : 5 ∈ codesLow := by decide) : w.cell? ⟨5, 0, none⟩ = some (senW sv 5) := h.sents.at5 hc
theorem Laid.at6 {sv : Nat → Addr} {w : World} (h : Laid sv w) (hc : 6 ∈ codesLow := by decide) : w.cell? ⟨6, 0, none⟩ = some (senW sv 6) := h.sents.at6 hc
theorem Laid.at7 {sv : Nat → Addr} {w : World} (h : Laid sv w) (hc : 7 ∈ codesLow := by decide) : w.cell? ⟨7, 0, none⟩ = some (senW sv 7) := h.sents.at7 hc
theorem Laid.at8 {sv : Nat → Addr} {w : World} (h : Laid sv w) (hc : 8 ∈ codesLow := by decide) : w.cell? ⟨8, 0, none⟩ = some (senW sv 8) := h.sents.at8 hc
theorem Laid.at9 {sv : Nat → Addr} {w : World} (h : Laid sv w) (hc : 9 ∈ codesLow := by decide) : w.cell? ⟨9, 0, none⟩ = some (senW sv 9) := h.sents.at9 hc
theorem Laid.at10 {sv : Nat → Addr} {w : World} (h : Laid sv w) (hc : 10 ∈ codesLow := by decide) : w.cell? ⟨10, 0, none⟩ = some (senW sv 10) := h.sents.at10 hc
theorem Laid.at11 {sv : Nat → Addr} {w : World} (h : Laid sv w) (hc : 11 ∈ codesLow := by decide) : w.cell? ⟨11, 0, none⟩ = some (senW sv 11) := h.sents.at11 hc
theorem Laid.at12 {sv : Nat → Addr} {w : World} (h : Laid sv w) (hc : 12 ∈ codesLow := by decide) : w.cell? ⟨12, 0, none⟩ = some (senW sv 12) := h.sents.at12 hc
theorem Laid.at13 {sv : Nat → Addr} {w : World} (h : Laid sv w) (hc : 13 ∈ codesLow := by decide) : w.cell? ⟨13, 0, none⟩ = some (senW sv 13) := h.sents.at13 hc
theorem Laid.at14 {sv : Nat → Addr} {w : World} (h : Laid sv w) (hc : 14 ∈ codesLow := by decide) : w.cell? ⟨14, 0, none⟩ = some (senW sv 14) := h.sents.at14 hc
theorem Laid.at15 {sv : Nat → Addr} {w : World} (h : Laid sv w) (hc : 15 ∈ codesLow := by decide) : w.cell? ⟨15, 0, none⟩ = some (senW sv 15) := h.sents.at15 hc
theorem Laid.at16 {sv : Nat → Addr} {w : World} (h : Laid sv w) (hc : 16 ∈ codesLow := by decide) : w.cell? ⟨16, 0, none⟩ = some (senW sv 16) := h.sents.at16 hc
theorem Laid.at17 {sv : Nat → Addr} {w : World} (h : Laid sv w) (hc : 17 ∈ codesLow := by decide) : w.cell? ⟨17, 0, none⟩ = some (senW sv 17) := h.sents.at17 hc
theorem Laid.at18 {sv : Nat → Addr} {w : World} (h : Laid sv w) (hc : 18 ∈ codesLow := by decide) : w.cell? ⟨18, 0, none⟩ = some (senW sv 18) := h.sents.at18 hc
/-- an error's value by its block, and what the block holds. -/
def errB (b : Nat) : Option Int → Value
  | none => .nilIface
  | some _ => .iface 60 (.pointer (some ⟨b, 0, none⟩))
def ErrB (sv : Nat → Addr) (b : Nat) (W : World) : Option Int → Prop
  | none => True
  | some e => FaultAt sv W b e
theorem errV_errB (W : World) (x : Option Int) : errV W x = errB (W.heap.size - 1) x := by cases x <;> rfl
theorem ErrAt.errB {sv : Nat → Addr} {W : World} {x : Option Int} (h : ErrAt sv W x) : ErrB sv (W.heap.size - 1) W x := by cases x <;> exact h
theorem ErrB.below {sv : Nat → Addr} {b : Nat} {w W : World} {x : Option Int} (h : ErrB sv b w x) (hb : Below w.heap.size w W) : ErrB sv b W x := by
  cases x with
  | none => trivial
  | some e => exact blk_below h hb
theorem ErrB.alloc {sv : Nat → Addr} {b : Nat} {w : World} {x : Option Int} (h : ErrB sv b w x) (o : Obj) : ErrB sv b (w.alloc o) x := by
  cases x with
  | none => trivial
  | some e => exact blk_alloc h o
theorem ErrB.drewN {sv : Nat → Addr} {b : Nat} {w : World} {x : Option Int} (h : ErrB sv b w x) (n : Nat) : ErrB sv b (w.drewN n) x := by
  cases x with
  | none => trivial
  | some e => exact blk_drewN h n
theorem ErrB.drew {sv : Nat → Addr} {b : Nat} {w : World} {x : Option Int} (h : ErrB sv b w x) : ErrB sv b w.drew x := by
  cases x with
  | none => trivial
  | some e => exact blk_drew h
end Go.Proofs.YtenkmjccfpfkbaaDoor.Er
namespace Go.Proofs.YtenkmjccfpfkbaaDoor.Er
open Go.RowKit Go.Proofs.YtenkmjccfpfkbaaDoorW.PrintWords
theorem named_1 (v : Value) (w : World) (hg : w.cell? ⟨2, 0, none⟩ = some (.iface 142 v)) : Calls Tryd.prog 32 #[.int .i64 1] w fun e w' => e = .returned (.iface 142 v) ∧ w' = w := by
  go_enter Tryd.func32, Tryd.ntmps32
  go_wp2
  go_ret
  exact ⟨rfl, rfl⟩
theorem named_2 (v : Value) (w : World) (hg : w.cell? ⟨4, 0, none⟩ = some (.iface 142 v)) : Calls Tryd.prog 32 #[.int .i64 2] w fun e w' => e = .returned (.iface 142 v) ∧ w' = w := by
  go_enter Tryd.func32, Tryd.ntmps32
  go_wp2
  go_ret
  exact ⟨rfl, rfl⟩
theorem named_3 (v : Value) (w : World) (hg : w.cell? ⟨1, 0, none⟩ = some (.iface 142 v)) : Calls Tryd.prog 32 #[.int .i64 3] w fun e w' => e = .returned (.iface 142 v) ∧ w' = w := by
  go_enter Tryd.func32, Tryd.ntmps32
  go_wp2
  go_ret
  exact ⟨rfl, rfl⟩
theorem named_4 (v : Value) (w : World) (hg : w.cell? ⟨0, 0, none⟩ = some (.iface 142 v)) : Calls Tryd.prog 32 #[.int .i64 4] w fun e w' => e = .returned (.iface 142 v) ∧ w' = w := by
  go_enter Tryd.func32, Tryd.ntmps32
  go_wp2
  go_ret
  exact ⟨rfl, rfl⟩
theorem named_5 (v : Value) (w : World) (hg : w.cell? ⟨5, 0, none⟩ = some (.iface 142 v)) : Calls Tryd.prog 32 #[.int .i64 5] w fun e w' => e = .returned (.iface 142 v) ∧ w' = w := by
  go_enter Tryd.func32, Tryd.ntmps32
  go_wp2
  go_ret
  exact ⟨rfl, rfl⟩
theorem named_6 (v : Value) (w : World) (hg : w.cell? ⟨6, 0, none⟩ = some (.iface 142 v)) : Calls Tryd.prog 32 #[.int .i64 6] w fun e w' => e = .returned (.iface 142 v) ∧ w' = w := by
  go_enter Tryd.func32, Tryd.ntmps32
  go_wp2
  go_ret
  exact ⟨rfl, rfl⟩
theorem named_7 (v : Value) (w : World) (hg : w.cell? ⟨7, 0, none⟩ = some (.iface 142 v)) : Calls Tryd.prog 32 #[.int .i64 7] w fun e w' => e = .returned (.iface 142 v) ∧ w' = w := by
  go_enter Tryd.func32, Tryd.ntmps32
  go_wp2
  go_ret
  exact ⟨rfl, rfl⟩
theorem named_8 (v : Value) (w : World) (hg : w.cell? ⟨8, 0, none⟩ = some (.iface 142 v)) : Calls Tryd.prog 32 #[.int .i64 8] w fun e w' => e = .returned (.iface 142 v) ∧ w' = w := by
  go_enter Tryd.func32, Tryd.ntmps32
  go_wp2
  go_ret
  exact ⟨rfl, rfl⟩
theorem named_9 (v : Value) (w : World) (hg : w.cell? ⟨9, 0, none⟩ = some (.iface 142 v)) : Calls Tryd.prog 32 #[.int .i64 9] w fun e w' => e = .returned (.iface 142 v) ∧ w' = w := by
  go_enter Tryd.func32, Tryd.ntmps32
  go_wp2
  go_ret
  exact ⟨rfl, rfl⟩
theorem named_10 (v : Value) (w : World) (hg : w.cell? ⟨10, 0, none⟩ = some (.iface 142 v)) : Calls Tryd.prog 32 #[.int .i64 10] w fun e w' => e = .returned (.iface 142 v) ∧ w' = w := by
  go_enter Tryd.func32, Tryd.ntmps32
  go_wp2
  go_ret
  exact ⟨rfl, rfl⟩
theorem named_11 (v : Value) (w : World) (hg : w.cell? ⟨11, 0, none⟩ = some (.iface 142 v)) : Calls Tryd.prog 32 #[.int .i64 11] w fun e w' => e = .returned (.iface 142 v) ∧ w' = w := by
  go_enter Tryd.func32, Tryd.ntmps32
  go_wp2
  go_ret
  exact ⟨rfl, rfl⟩
theorem named_12 (v : Value) (w : World) (hg : w.cell? ⟨12, 0, none⟩ = some (.iface 142 v)) : Calls Tryd.prog 32 #[.int .i64 12] w fun e w' => e = .returned (.iface 142 v) ∧ w' = w := by
  go_enter Tryd.func32, Tryd.ntmps32
  go_wp2
  go_ret
  exact ⟨rfl, rfl⟩
theorem named_13 (v : Value) (w : World) (hg : w.cell? ⟨13, 0, none⟩ = some (.iface 142 v)) : Calls Tryd.prog 32 #[.int .i64 13] w fun e w' => e = .returned (.iface 142 v) ∧ w' = w := by
  go_enter Tryd.func32, Tryd.ntmps32
  go_wp2
  go_ret
  exact ⟨rfl, rfl⟩
theorem named_14 (v : Value) (w : World) (hg : w.cell? ⟨14, 0, none⟩ = some (.iface 142 v)) : Calls Tryd.prog 32 #[.int .i64 14] w fun e w' => e = .returned (.iface 142 v) ∧ w' = w := by
  go_enter Tryd.func32, Tryd.ntmps32
  go_wp2
  go_ret
  exact ⟨rfl, rfl⟩
theorem named_15 (v : Value) (w : World) (hg : w.cell? ⟨15, 0, none⟩ = some (.iface 142 v)) : Calls Tryd.prog 32 #[.int .i64 15] w fun e w' => e = .returned (.iface 142 v) ∧ w' = w := by
  go_enter Tryd.func32, Tryd.ntmps32
  go_wp2
  go_ret
  exact ⟨rfl, rfl⟩
theorem named_16 (v : Value) (w : World) (hg : w.cell? ⟨16, 0, none⟩ = some (.iface 142 v)) : Calls Tryd.prog 32 #[.int .i64 16] w fun e w' => e = .returned (.iface 142 v) ∧ w' = w := by
  go_enter Tryd.func32, Tryd.ntmps32
  go_wp2
  go_ret
  exact ⟨rfl, rfl⟩
theorem named_17 (v : Value) (w : World) (hg : w.cell? ⟨17, 0, none⟩ = some (.iface 142 v)) : Calls Tryd.prog 32 #[.int .i64 17] w fun e w' => e = .returned (.iface 142 v) ∧ w' = w := by
  go_enter Tryd.func32, Tryd.ntmps32
  go_wp2
  go_ret
  exact ⟨rfl, rfl⟩
theorem named_18 (v : Value) (w : World) (hg : w.cell? ⟨18, 0, none⟩ = some (.iface 142 v)) : Calls Tryd.prog 32 #[.int .i64 18] w fun e w' => e = .returned (.iface 142 v) ∧ w' = w := by
  go_enter Tryd.func32, Tryd.ntmps32
  go_wp2
  go_ret
  exact ⟨rfl, rfl⟩
theorem named_calls (sv : Nat → Addr) (c : Nat) (hc : c ∈ allCodes) (w : World) (hs : Sents allCodes sv w) : Calls Tryd.prog 32 #[.int .i64 (c : Int)] w fun e w' => e = .returned (senW sv c) ∧ w' = w := by
  have h := hs c hc
  simp only [allCodes, List.mem_cons, List.not_mem_nil, or_false] at hc
  rcases hc with rfl | rfl | rfl | rfl | rfl | rfl | rfl | rfl | rfl | rfl | rfl | rfl | rfl | rfl | rfl | rfl | rfl | rfl
  · exact named_1 _ w h
  · exact named_2 _ w h
  · exact named_3 _ w h
  · exact named_4 _ w h
  · exact named_5 _ w h
  · exact named_6 _ w h
  · exact named_7 _ w h
  · exact named_8 _ w h
  · exact named_9 _ w h
  · exact named_10 _ w h
  · exact named_11 _ w h
  · exact named_12 _ w h
  · exact named_13 _ w h
  · exact named_14 _ w h
  · exact named_15 _ w h
  · exact named_16 _ w h
  · exact named_17 _ w h
  · exact named_18 _ w h
end Go.Proofs.YtenkmjccfpfkbaaDoor.Er
namespace Go.Proofs.YtenkmjccfpfkbaaDoor.Er
open Go.RowKit Go.Proofs.YtenkmjccfpfkbaaDoorW.PrintWords

theorem as_fault (e : Addr) (w : World) (hg : EType w) :
    Calls Tryd.prog 30 #[.iface 60 (.pointer (some e)), .iface 62 (.pointer (some ⟨w.heap.size, 0, none⟩))] (w.alloc (.cells #[.pointer none] 60)) fun ev w' => ev = .returned (.bool true) ∧ w'.cell? ⟨w.heap.size, 0, none⟩ = some (.pointer (some e)) ∧ Below w.heap.size w w' := by
  have hn := blk_new w (.cells #[.pointer none] 60)
  refine (As.as_hit e ⟨w.heap.size, 0, none⟩ (.pointer none) _ (EType.below hg (below_alloc (Below.refl _ _) _)) ((blk_cell hn 0).trans rfl) (blk_frozen hn 0)).mono ?_
  rintro ev w' ⟨rfl, rfl⟩
  refine ⟨rfl, (blk_cell (blk_put (cs := #[.pointer none]) (blk_alloc (blk_alloc (blk_alloc (blk_alloc hn _) _) _) _) 0 _ rfl) 0).trans rfl, below_set (below_alloc (below_alloc (below_alloc (below_alloc (below_alloc (Below.refl _ _) _) _) _) _) _) (Nat.le_refl _)⟩

/-- errors.Is at a fault, at any sentinel. -/
theorem is_sent (sv : Nat → Addr) (b c d : Nat) (at_ : Value) (w : World) (hc : c ∈ allCodes) (hd : d ∈ allCodes) (hA : Apart allCodes sv w) (hf : w.heap[b]? = some (.cells #[at_, senW sv d] 64 (0, 0))) :
    Calls Tryd.prog 31 #[.iface 60 (.pointer (some ⟨b, 0, none⟩)), senW sv c] w fun e w' => e = .returned (.bool (decide (d = c))) ∧ w' = w := by
  have hc0 : c ≠ 0 := by rintro rfl; simp [allCodes] at hc
  have hd0 : d ≠ 0 := by rintro rfl; simp [allCodes] at hd
  rw [senW_pos sv d hd0] at hf
  rw [senW_pos sv c hc0]
  have h1 : w.cell? ⟨b, 0 + 1, none⟩ = some (.iface 142 (.pointer (some (sv d)))) := (blk_cell hf 1).trans rfl
  by_cases e : d = c
  · subst e
    rw [decide_eq_true rfl]
    exact Is.is_wrap_same b 0 (sv d) w h1
  · rw [decide_eq_false e]
    obtain ⟨ca, ta, ha⟩ := hA.blk d hd
    obtain ⟨cb, tb, hb⟩ := hA.blk c hc
    exact Is.is_wrap_other b 0 (sv c) (sv d) ca cb ta tb w h1 (fun h => hA.ne d hd c hc e h) ha hb

theorem is_zero_nil (at_ : Int) (w : World) : Calls Tryd.prog 11 #[.nilIface, .int .i64 at_, .int .i64 0] w fun e w' => e = .returned (.bool true) ∧ w' = w := by
  go_enter Tryd.func11, Tryd.ntmps11
  go_wp2
  go_ret
  exact ⟨rfl, rfl⟩
theorem is_zero_fault (v : Value) (at_ : Int) (w : World) : Calls Tryd.prog 11 #[.iface 60 v, .int .i64 at_, .int .i64 0] w fun e w' => e = .returned (.bool false) ∧ w' = w := by
  go_enter Tryd.func11, Tryd.ntmps11
  go_wp2
  go_ret
  exact ⟨rfl, rfl⟩
theorem is_nil_code (at_ : Int) (c : Nat) (hc : c ∈ allCodes) (w : World) : Calls Tryd.prog 11 #[.nilIface, .int .i64 at_, .int .i64 (c : Int)] w fun e w' => e = .returned (.bool false) ∧ Below w.heap.size w w' := by
  have h0 : ((c : Int) == 0) = false := by
    refine beq_eq_false_iff_ne.mpr ?_
    simp only [allCodes, List.mem_cons, List.not_mem_nil, or_false] at hc
    omega
  go_enter Tryd.func11, Tryd.ntmps11
  go_wp2
  go_ret
  exact ⟨rfl, below_alloc (Below.refl _ _) _⟩
theorem is_fault (sv : Nat → Addr) (b d c : Nat) (fa at_ : Int) (w : World) (hc : c ∈ allCodes) (hd : d ∈ allCodes) (hS : Sents allCodes sv w) (hA : Apart allCodes sv w) (hE : EType w) (hf : w.heap[b]? = some (.cells #[.int .i64 fa, senW sv d] 64 (0, 0))) :
    Calls Tryd.prog 11 #[.iface 60 (.pointer (some ⟨b, 0, none⟩)), .int .i64 at_, .int .i64 (c : Int)] w fun e w' => e = .returned (.bool (decide (fa = at_) && decide (d = c))) ∧ Below w.heap.size w w' := by
  have h0 : ((c : Int) == 0) = false := by
    refine beq_eq_false_iff_ne.mpr ?_
    simp only [allCodes, List.mem_cons, List.not_mem_nil, or_false] at hc
    omega
  have HE := Aside0.mk hE
  have HS := Aside0.mk hS
  have HA := Aside0.mk hA
  have HF := Aside0.mk hf
  clear hE hS hA hf
  by_cases ha : fa = at_
  · have hb1 : (fa == at_) = true := beq_iff_eq.mpr ha
    rw [decide_eq_true ha, Bool.true_and]
    go_enter Tryd.func11, Tryd.ntmps11
    go_wp2_with (first | (go_at_call 30; refine (as_fault ⟨b, 0, none⟩ w HE.out).mono ?_; rintro e w1 ⟨rfl, hcell, hb⟩; have HB := Aside0.mk hb; have hat : w1.cell? ⟨b, 0, none⟩ = some (.int .i64 fa) := (blk_cell (blk_below HF.out hb) 0).trans rfl; clear hb) | (go_at_call 32; refine (named_calls sv c hc _ (Sents.below HS.out HB.out)).mono ?_; rintro e w2 ⟨rfl, rfl⟩) | (go_at_call 31; refine (is_sent sv b c d _ _ hc hd (Apart.below HA.out HB.out) (blk_below HF.out HB.out)).mono ?_; rintro e w3 ⟨rfl, rfl⟩))
    go_ret
    exact ⟨by first | rfl | simp, HB.out⟩
  · have hb1 : (fa == at_) = false := beq_eq_false_iff_ne.mpr ha
    rw [decide_eq_false ha, Bool.false_and]
    go_enter Tryd.func11, Tryd.ntmps11
    go_wp2_with (first | (go_at_call 30; refine (as_fault ⟨b, 0, none⟩ w HE.out).mono ?_; rintro e w1 ⟨rfl, hcell, hb⟩; have HB := Aside0.mk hb; have hat : w1.cell? ⟨b, 0, none⟩ = some (.int .i64 fa) := (blk_cell (blk_below HF.out hb) 0).trans rfl; clear hb))
    go_ret
    exact ⟨by first | rfl | simp, HB.out⟩
end Go.Proofs.YtenkmjccfpfkbaaDoor.Er
