/-
  A strings.Builder that lies among the cells of a block (its address and its bytes at two of them): what its methods do. Conditions: those that each lemma names; Go's own limit of a slice's bytes.
  The bias at the head of a block of any type: what bound and digits do there (their printed walks, turned by wip/tohead.py), and adapt.
  puny's encoder by hand: the bias's digits and adapt at the head of a block, put. Conditions: those that each lemma names.
  puny's encoder by hand: all. Conditions: those that the lemma names.
  puny's decoder by hand: number. Conditions: those that the lemma names.
  puny's encoder by hand: Sort and Compact in part. Conditions: those that each lemma names.
  puny's Encode by hand (Sort and Compact in part). Conditions: those that the lemma names.
  puny's decoder by hand, in part: what it says of a text without a hyphen (but at its head) whose first number is wrong; Digits. Conditions: those that each lemma names.
  puny's Decode by hand, in part (a text whose only hyphens stand at its head, its first number wrong). Conditions: those that the lemma names.
  The puny laws' awake, and PunyNumbers, by hand. Conditions: what is listed lies as it was laid.
-/
import Derived.Test.YtenkmjccfpfkbaaDoorE
import Derived.Lib.OthersKept
import Derived.Lib.FrozenHead2
import Derived.Deep.RegionWith
import Derived.Orders
import Derived.Shelf.RegionOpenPlain
import Derived.Laws.Externs
import Derived.Lib.Walk
import Derived.Lib.Builder
import Derived.Lib.UnsafeStr
import Derived.WalkKit
import Derived.Test.YtenkmjccfpfkbaaDoorVx0
import Derived.Test.YtenkmjccfpfkbaaDoorVN
import Derived.StillTailTactics
import Derived.Deep.RegionHeld3
import Derived.Deep.QuietTactic
import Derived.BigQuiet
set_option linter.unusedVariables false
namespace Go.Proofs.YtenkmjccfpfkbaaDoor.Bl
open Go.RowKit Go.Proofs.YtenkmjccfpfkbaaDoorW.PrintWords

/-- the builder among a block's cells: at o what its address is, at o + 1 its bytes. -/
structure BAt (T : TypeId) (B b o : Nat) (cs : Array Value) (bs : List Value) (w : World) : Prop where
  le : B ≤ b
  blk : w.heap[b]? = some (.cells cs T (0, 0))
  ad : cs[o]? = some (.pointer none) ∨ cs[o]? = some (.pointer (some ⟨b, o, none⟩))
  buf : ∃ v, cs[o + 1]? = some v ∧ w.ownsRowF B 5 1 v bs.length bs ∧ v.ownBlock ≠ some b ∧ (bs = [] → v = .slice none 0 0)
/-- where a builder lies within a type's cells. -/
structure Fits (T : TypeId) (o : Nat) (cs : Array Value) : Prop where
  lies : liesAt Tryd.prog Tryd.prog.depth T (cs.size / Tryd.prog.cellsOf T) o 50 1 = true
  room : o + 1 < cs.size
  ne : T ≠ 5
theorem Fits.set {T : TypeId} {o : Nat} {cs : Array Value} (h : Fits T o cs) (i : Nat) (v : Value) : Fits T o (cs.setIfInBounds i v) := ⟨by rw [Array.size_setIfInBounds]; exact h.lies, by rw [Array.size_setIfInBounds]; exact h.room, h.ne⟩
theorem set_same {cs : Array Value} {i : Nat} {v : Value} (h : cs[i]? = some v) : cs.setIfInBounds i v = cs := by
  obtain ⟨h1, h2⟩ := Array.getElem?_eq_some_iff.1 h
  refine Array.ext (by simp) (fun j h3 h4 => ?_)
  rw [Array.getElem_setIfInBounds h4]
  by_cases e : i = j
  · subst e; simp [h2]
  · simp [e]
theorem get_same {cs : Array Value} {i : Nat} {v : Value} (h : i < cs.size) : (cs.setIfInBounds i v)[i]? = some v := by simp [h]
theorem get_other {cs : Array Value} {i j : Nat} {v : Value} (h : i ≠ j) : (cs.setIfInBounds i v)[j]? = cs[j]? := by simp [h]
theorem info_builder : (Tryd.prog.info? 50).map (·.size) = some 2 := by kernel_rfl
theorem info_byte : (Tryd.prog.info? 5).map (fun i => (i.zero, i.size, i.bytes)) = some (some (.int .u8 0), 1, 1) := by kernel_rfl

/-- the builder's bytes, whatever another cell of its block holds. -/
theorem BAt.other {T : TypeId} {B b o : Nat} {cs : Array Value} {bs : List Value} {w : World} (h : BAt T B b o cs bs w) (hF : Fits T o cs) {i : Nat} (hi : i ≠ o) (hi1 : i ≠ o + 1) (u : Value) : BAt T B b o (cs.setIfInBounds i u) bs (w.setCell ⟨b, i, none⟩ u) := by
  obtain ⟨v, hv, hown, hne, hn⟩ := h.buf
  refine ⟨h.le, blk_put h.blk i u rfl, ?_, v, ?_, ?_, hne, hn⟩
  · rw [get_other hi]; exact h.ad
  · rw [get_other hi1]; exact hv
  · exact hown.kept (row := some b) ⟨rfl, rfl, rfl, by simp [World.setCell], fun k _ hk => Below.heap_setCell _ _ _ _ (fun e => hk (by simp [e]))⟩ (Or.inr hne)

set_option maxHeartbeats 2000000 in
set_option maxRecDepth 100000 in
/-- (*strings.Builder).copyCheck: behind it the builder knows its own address. -/
theorem copyCheck_calls {T : TypeId} {B b o : Nat} {cs : Array Value} {bs : List Value} {w : World} (h : BAt T B b o cs bs w) (hF : Fits T o cs) :
    Calls Tryd.prog 41 #[.pointer (some ⟨b, o, none⟩)] w fun e w' => e = .returned (.tuple #[]) ∧ BAt T B b o (cs.setIfInBounds o (.pointer (some ⟨b, o, none⟩))) bs w' ∧ Below B w w' ∧ Lib.OthersKept 5 (some b) w w' := by
  obtain ⟨j, hj, hjs⟩ := Option.map_eq_some_iff.1 info_builder
  have hsh : w.shape? b = some (T, cs.size) := by simp [World.shape?, h.blk]
  have hro := hF.room
  rcases h.ad with ha | ha
  · have h0 : w.cell? ⟨b, o, none⟩ = some (.pointer none) := (blk_cell h.blk o).trans ha
    have hfz := blk_frozen h.blk o
    have hend : BAt T B b o (cs.setIfInBounds o (.pointer (some ⟨b, o, none⟩))) bs (w.setCell ⟨b, o, none⟩ (.pointer (some ⟨b, o, none⟩))) := by
      obtain ⟨v, hv, hown, hne, hn⟩ := h.buf
      refine ⟨h.le, blk_put h.blk o _ rfl, ?_, v, ?_, ?_, hne, hn⟩
      · exact .inr (get_same (by omega))
      · rw [get_other (by omega)]; exact hv
      · exact hown.kept (row := some b) ⟨rfl, rfl, rfl, by simp [World.setCell], fun k _ hk => Below.heap_setCell _ _ _ _ (fun e => hk (by simp [e]))⟩ (Or.inr hne)
    have hB := h.le
    go_enter Tryd.func41, Tryd.ntmps41
    go_wp2
    rw [Lib.run_to_unsafe w ⟨b, o, none⟩ Tryd.underlying47 Tryd.underlying81 hj (by rw [hjs]; decide) hsh (by show o < cs.size; omega)]
    simp only [Result.andThen]
    rw [Oper.upon_value]
    go_wp2
    rw [run_callFunc_extern Tryd.func57 (by kernel_rfl) (by kernel_rfl) (by kernel_rfl) (e := Extern.AbiNoEscape.same) (by kernel_rfl)]
    rw [Lib.run_noEscape]
    simp only [Result.andThen]
    rw [Oper.upon_value]
    go_wp2
    rw [Lib.run_from_unsafe w ⟨b, o, none⟩ Tryd.underlying81 Tryd.underlying47 hj hsh hF.lies]
    simp only [Result.andThen]
    rw [Oper.upon_value]
    go_wp2
    go_end0
    exact ⟨rfl, hend, (Below.refl B w).setCell (p := ⟨b, o, none⟩) hB _, (Lib.OthersKept.refl _ _ w).setCell ⟨b, o, none⟩ rfl _⟩
  · have h0 : w.cell? ⟨b, o, none⟩ = some (.pointer (some ⟨b, o, none⟩)) := (blk_cell h.blk o).trans ha
    rw [set_same ha]
    have hnq := Lib.run_neq_ptr_same (w := w) (tp := 47) ⟨b, o, none⟩ Tryd.underlying47 hj
    go_enter Tryd.func41, Tryd.ntmps41
    go_wp2
    go_end0
    exact ⟨rfl, h, Below.refl B _, Lib.OthersKept.refl _ _ _⟩

set_option maxHeartbeats 2000000 in
set_option maxRecDepth 100000 in
/-- (*strings.Builder).WriteByte. -/
theorem writeByte_calls {T : TypeId} {B b o : Nat} {cs : Array Value} {bs : List Value} (c : Int) {w : World} (h : BAt T B b o cs bs w) (hF : Fits T o cs) (hlen : bs.length + 1 ≤ 140737488355328) (hBw : B ≤ w.heap.size) :
    Calls Tryd.prog 22 #[.pointer (some ⟨b, o, none⟩), .int .u8 c] w fun e w' => e = .returned .nilIface ∧ (∃ v', BAt T B b o ((cs.setIfInBounds o (.pointer (some ⟨b, o, none⟩))).setIfInBounds (o + 1) v') (bs ++ [.int .u8 c]) w') ∧ Below B w w' ∧ Lib.OthersKept 5 (some b) w w' := by
  obtain ⟨i0, hi, hz0, hz1, hz2⟩ := info_parts info_byte
  have hro := hF.room
  go_enter Tryd.func22, Tryd.ntmps22
  go_wp2_with (go_at_call 41; refine (copyCheck_calls h hF).mono ?_)
  rintro e w1 ⟨rfl, h1, hb1, hk1⟩
  have hF1 := hF.set o (.pointer (some ⟨b, o, none⟩))
  obtain ⟨v, hv, hown, hne, hn⟩ := h1.buf
  have hbk := h1.blk
  have hB := h.le
  generalize hcs1 : cs.setIfInBounds o (.pointer (some ⟨b, o, none⟩)) = cs1 at *
  have c1 : w1.cell? ⟨b, o + 1, none⟩ = some v := (blk_cell hbk (o + 1)).trans hv
  go_wp2_with (at_builtin; refine wpList_append_ownF _ rfl _ _ 48 rfl B 5 i0 (.int .u8 0) 1 1 Tryd.underlying48 hi hz0 hz1 hz2 rfl (by decide) _ _ _ rfl (hown.alloc _) ⟨w1.heap.size, 0, none⟩ 1 1 [.int .u8 c] rfl rfl ?c1 ?c2 ?c3 ?c4 ?c5 ?_)
  case c1 =>
    intro j u hj
    match j, hj with
    | 0, hj => simp at hj; subst hj; simp [Addr.add]
  case c2 => intro u hu; simp at hu; subst hu; rfl
  case c3 => unfold maxLen; omega
  case c4 => omega
  case c5 => have := hb1.size; simp; omega
  intro v' w2 hown' hgrow hnil
  have hlt := blk_lt hbk
  have hb2 : w2.heap[b]? = some (.cells cs1 T (0, 0)) := by
    rw [hgrow.block b (by simp; omega) (fun e => hne e.symm), Lib.alloc_old w1 _ b hlt]
    exact hbk
  have d1 : w2.cell? ⟨b, o + 1, none⟩ = some v := (blk_cell hb2 (o + 1)).trans hv
  have f1 : w2.frozen? ⟨b, o + 1, none⟩ = false := blk_frozen hb2 (o + 1)
  obtain ⟨g, cap, rfl⟩ : ∃ g cap, v' = .slice (some ⟨g, 0, none⟩) (bs.length + 1) cap := by
    rcases hown'.2 with ⟨_, h0⟩ | ⟨g, cap, cur, fz, hv, _⟩
    · omega
    · exact ⟨g, cap, hv⟩
  have hne' : (Value.slice (some ⟨g, 0, none⟩) (bs.length + 1) cap).ownBlock ≠ some b := Lib.ownBlock_neF hown' hb2 hF.ne
  go_wp2
  go_ret
  subst hcs1
  refine ⟨rfl, ⟨_, h.le, blk_put hb2 (o + 1) _ rfl, ?_, _, get_same (by have := hF1.room; omega), ?_, hne', fun e => by simp at e⟩, ?_, ((hk1.alloc _).grown hgrow (Lib.ownsRowF_kind (hown.alloc _))).setCell ⟨b, o + 1, none⟩ rfl _⟩
  · rw [get_other (by omega)]; exact h1.ad
  · have hk := hown'.kept (w' := w2.setCell ⟨b, o + 1, none⟩ (.slice (some ⟨g, 0, none⟩) (bs.length + 1) cap)) (row := some b) ⟨rfl, rfl, rfl, by simp [World.setCell], fun k _ hk => Below.heap_setCell _ _ _ _ (fun e => hk (by simp [e]))⟩ (Or.inr hne')
    simpa using hk
  · exact ((hb1.alloc (by have := hb1.size; omega) _).grown hgrow (by have := hb1.size; simp; omega) (fun k hk => (hown.lt k hk).1)).setCell (p := ⟨b, o + 1, none⟩) hB _

set_option maxHeartbeats 2000000 in
set_option maxRecDepth 100000 in
/-- (*strings.Builder).WriteString. -/
theorem writeString_calls {T : TypeId} {B b o : Nat} {cs : Array Value} {bs : List Value} (s : ByteArray) {w : World} (h : BAt T B b o cs bs w) (hF : Fits T o cs) (hlen : bs.length + s.size ≤ 140737488355328) (hBw : B ≤ w.heap.size) :
    Calls Tryd.prog 69 #[.pointer (some ⟨b, o, none⟩), .string s] w fun e w' => e = .returned (.tuple #[.int .i64 s.size, .nilIface]) ∧ (∃ v', BAt T B b o ((cs.setIfInBounds o (.pointer (some ⟨b, o, none⟩))).setIfInBounds (o + 1) v') (bs ++ Lib.strCells s) w') ∧ Below B w w' ∧ Lib.OthersKept 5 (some b) w w' := by
  obtain ⟨i0, hi, hz0, hz1, hz2⟩ := info_parts info_byte
  have hro := hF.room
  go_enter Tryd.func69, Tryd.ntmps69
  go_wp2_with (go_at_call 41; refine (copyCheck_calls h hF).mono ?_)
  rintro e w1 ⟨rfl, h1, hb1, hk1⟩
  have hF1 := hF.set o (.pointer (some ⟨b, o, none⟩))
  obtain ⟨v, hv, hown, hne, hn⟩ := h1.buf
  have hbk := h1.blk
  have hB := h.le
  generalize hcs1 : cs.setIfInBounds o (.pointer (some ⟨b, o, none⟩)) = cs1 at *
  have c1 : w1.cell? ⟨b, o + 1, none⟩ = some v := (blk_cell hbk (o + 1)).trans hv
  go_wp2_with (at_builtin; refine Lib.wpList_append_own_stringF _ rfl _ _ 48 9 rfl B 5 i0 Tryd.underlying48 Tryd.underlying9 hi hz0 hz1 hz2 _ _ _ rfl hown s rfl ?c3 ?c4 ?c5 ?_)
  case c3 => unfold maxLen; omega
  case c4 => omega
  case c5 => have := hb1.size; omega
  intro v' w2 hown' hgrow hnil
  have hlt := blk_lt hbk
  have hb2 : w2.heap[b]? = some (.cells cs1 T (0, 0)) := by
    rw [hgrow.block b hlt (fun e => hne e.symm)]
    exact hbk
  have d1 : w2.cell? ⟨b, o + 1, none⟩ = some v := (blk_cell hb2 (o + 1)).trans hv
  have f1 : w2.frozen? ⟨b, o + 1, none⟩ = false := blk_frozen hb2 (o + 1)
  have hne' : v'.ownBlock ≠ some b := Lib.ownBlock_neF hown' hb2 hF.ne
  have hnil' : bs ++ Lib.strCells s = [] → v' = .slice none 0 0 := fun e => by
    obtain ⟨e1, e2⟩ := List.append_eq_nil_iff.1 e
    refine hnil.2 ⟨hn e1, ?_⟩
    have := congrArg List.length e2
    simpa [Lib.strCells_length] using this
  obtain ⟨ao, n', cap, rfl⟩ : ∃ ao n' cap, v' = .slice ao n' cap := by
    rcases hown'.2 with ⟨hv, _⟩ | ⟨g, cap, cur, fz, hv, _⟩
    · exact ⟨_, _, _, hv⟩
    · exact ⟨_, _, _, hv⟩
  go_wp2
  go_ret2
  subst hcs1
  refine ⟨rfl, ⟨_, h.le, blk_put hb2 (o + 1) _ rfl, ?_, _, get_same (by have := hF1.room; omega), ?_, hne', hnil'⟩, ?_, (hk1.grown hgrow (Lib.ownsRowF_kind hown)).setCell ⟨b, o + 1, none⟩ rfl _⟩
  · rw [get_other (by omega)]; exact h1.ad
  · have hk := hown'.kept (w' := w2.setCell ⟨b, o + 1, none⟩ (.slice ao n' cap)) (row := some b) ⟨rfl, rfl, rfl, by simp [World.setCell], fun k _ hk => Below.heap_setCell _ _ _ _ (fun e => hk (by simp [e]))⟩ (Or.inr hne')
    simpa [Lib.strCells_length] using hk
  · exact (hb1.grown hgrow (by have := hb1.size; omega) (fun k hk => (hown.lt k hk).1)).setCell (p := ⟨b, o + 1, none⟩) hB _

set_option maxRecDepth 100000 in
/-- (*strings.Builder).Len. -/
theorem len_calls {T : TypeId} {B b o : Nat} {cs : Array Value} {bs : List Value} {w : World} (h : BAt T B b o cs bs w) (hF : Fits T o cs) :
    Calls Tryd.prog 26 #[.pointer (some ⟨b, o, none⟩)] w fun e w' => e = .returned (.int .i64 bs.length) ∧ w' = w := by
  obtain ⟨v, hv, hown, hne, hn⟩ := h.buf
  obtain ⟨ao, cap, rfl⟩ : ∃ ao cap, v = .slice ao bs.length cap := by
    rcases hown.2 with ⟨hv, hz⟩ | ⟨g, cap, cur, fz, hv, _⟩
    · exact ⟨none, 0, by rw [hv, hz]⟩
    · exact ⟨_, _, hv⟩
  have c1 : w.cell? ⟨b, o + 1, none⟩ = some (.slice ao bs.length cap) := (blk_cell h.blk (o + 1)).trans hv
  go_enter Tryd.func26, Tryd.ntmps26
  go_wp2
  go_ret
  exact ⟨rfl, rfl⟩

set_option maxHeartbeats 2000000 in
set_option maxRecDepth 100000 in
/-- (*strings.Builder).String. -/
theorem string_calls {T : TypeId} {B b o : Nat} {cs : Array Value} (l : List UInt8) {w : World} (h : BAt T B b o cs (Lib.byteCells l) w) (hF : Fits T o cs) :
    Calls Tryd.prog 27 #[.pointer (some ⟨b, o, none⟩)] w fun e w' => e = .returned (.string ⟨l.toArray⟩) ∧ Below B w w' ∧ Lib.OthersKept 5 (some b) w w' := by
  obtain ⟨v, hv, hown, hne, hn⟩ := h.buf
  have mixed : Tryd.prog.follows .mixedOrders = true := by kernel_rfl
  by_cases h0 : l = []
  · subst h0
    obtain rfl := hn rfl
    have c1 : w.drew.cell? ⟨b, o + 1, none⟩ = some (.slice none 0 0) := (blk_cell (w := w) h.blk (o + 1)).trans hv
    have hSD : (Builtin.unsafeSliceData_ #[48] 80 #[.slice none 0 0]).run Tryd.prog w.drew = .ok (.pointer none) w.drew := rfl
    have hUS := fun (W : World) (p : Option Addr) => Lib.run_unsafeString_none (P := Tryd.prog) W 80 3 9 p
    go_enter Tryd.func27, Tryd.ntmps27
    go_wp2
    go_region_o
    all_goals (go_wp2; go_ret; exact ⟨rfl, Below.drew (Below.refl B w), (Lib.OthersKept.refl _ _ w).drew⟩)
  · have hl0 : l.length ≠ 0 := by simpa using h0
    rw [Lib.byteCells_length] at hown
    obtain ⟨g, cap, cur, fz, rfl, hbg, hg, hfz, hnc, hcm, hcs, htake⟩ : ∃ g cap cur fz, v = .slice (some ⟨g, 0, none⟩) l.length cap ∧ B ≤ g ∧ w.heap[g]? = some (.cells cur 5 fz) ∧ fz.2 ≤ l.length * 1 ∧ l.length ≤ cap ∧ cap ≤ maxLen ∧ cur.size = cap * 1 ∧ cur.toList.take (l.length * 1) = Lib.byteCells l := by
      rcases hown.2 with ⟨_, hz⟩ | ⟨g, cap, cur, fz, hv, r⟩
      · exact absurd hz hl0
      · exact ⟨g, cap, cur, fz, hv, r⟩
    have c1 : w.drew.cell? ⟨b, o + 1, none⟩ = some (.slice (some ⟨g, 0, none⟩) l.length cap) := (blk_cell (w := w) h.blk (o + 1)).trans hv
    have hSD : (Builtin.unsafeSliceData_ #[48] 80 #[.slice (some ⟨g, 0, none⟩) l.length cap]).run Tryd.prog w.drew = .ok (.pointer (some ⟨g, 0, none⟩)) w.drew :=
      Lib.run_unsafeSliceData_row _ _ _ _ _ _ (by omega)
    have hUS : (Builtin.unsafeString_ #[80, 3] 9 #[.pointer (some ⟨g, 0, none⟩), .int .i64 l.length]).run Tryd.prog w.drew = .ok (.string ⟨l.toArray⟩) (w.drew.freeze ⟨g, 0, none⟩ l.length) := by
      refine Lib.run_unsafeString_row w.drew 80 3 9 5 Tryd.underlying80 (by kernel_rfl) g cur.size (by have hg' : w.drew.heap[g]? = some (.cells cur 5 fz) := hg; simp [World.shape?, hg']) l h0 (by omega) (by unfold maxLen at hcm; omega) ?_
      intro j x hx
      have := hown.cells (g := g) rfl j (.int .u8 x.toNat) (by simp [Lib.byteCells, hx])
      exact this
    go_enter Tryd.func27, Tryd.ntmps27
    go_wp2
    go_region_o
    all_goals (go_wp2; go_ret; exact ⟨rfl, Lib.below_freeze (Below.drew (Below.refl B w)) (p := ⟨g, 0, none⟩) hbg _, ((Lib.OthersKept.refl _ _ w).drew).freeze ⟨g, 0, none⟩ _ ⟨cur, fz, hg⟩⟩)
end Go.Proofs.YtenkmjccfpfkbaaDoor.Bl
set_option linter.unusedVariables false
namespace Go.Proofs.YtenkmjccfpfkbaaDoor.Pu
open Go.RowKit Go.Proofs.YtenkmjccfpfkbaaDoorW.PrintWords Go.Proofs.YtenkmjccfpfkbaaDoorW.PrintLast Go.Proofs.YtenkmjccfpfkbaaDoorW.PrintMore Go.Proofs.YtenkmjccfpfkbaaDoor.Er
attribute [local go_sem] max2_int min2_int max_two min_two max_three min_three max_four min_four   -- for this text's walks alone
open Go.Proofs.YtenkmjccfpfkbaaDoor.V
theorem neE {T : TypeId} (h : 5 ≠ T) : ∀ q, q ∈ 5 :: (Kd.int .u8).E → q ≠ T := by
  intro q hq
  have : q = 5 := by
    have h2 : (Kd.int .u8).E = [] := rfl
    rw [h2] at hq
    simpa using hq
  subst this
  exact h
/-- a bias at the head of the block g: a type, its cells. -/
def IsH (T : TypeId) (cs : Array Value) (w0 W : World) (g : Nat) (f0 : Int) (f1 : Bool) : Prop := W.heap[g]? = some (.cells cs T (0, 0)) ∧ w0.heap.size ≤ g ∧ cs[0]? = some (.int .i64 f0) ∧ cs[1]? = some (.bool f1)
theorem IsH.cell_0 {T : TypeId} {cs : Array Value} {w0 W : World} {g : Nat} {f0 : Int} {f1 : Bool} (h : IsH T cs w0 W g f0 f1) : W.cell? ⟨g, 0, none⟩ = some (.int .i64 f0) := (blk_cell h.1 0).trans h.2.2.1
theorem IsH.cell_1 {T : TypeId} {cs : Array Value} {w0 W : World} {g : Nat} {f0 : Int} {f1 : Bool} (h : IsH T cs w0 W g f0 f1) : W.cell? ⟨g, 1, none⟩ = some (.bool f1) := (blk_cell h.1 1).trans h.2.2.2
theorem IsH.frozen_ {T : TypeId} {cs : Array Value} {w0 W : World} {g : Nat} {f0 : Int} {f1 : Bool} (h : IsH T cs w0 W g f0 f1) (i : Nat) : W.frozen? ⟨g, i, none⟩ = false := blk_frozen h.1 i
theorem IsH.grown {T : TypeId} {cs : Array Value} {w0 W : World} {g : Nat} {f0 : Int} {f1 : Bool} {W1 : World} {row : Option Nat} (h : IsH T cs w0 W g f0 f1) (hw : W.grownBy W1 row) (hne : some g ≠ row) : IsH T cs w0 W1 g f0 f1 := ⟨blk_grown h.1 hw hne, h.2⟩
theorem IsH.below {T : TypeId} {cs : Array Value} {w0 W : World} {g : Nat} {f0 : Int} {f1 : Bool} {W1 : World} (h : IsH T cs w0 W g f0 f1) (hw : Below W.heap.size W W1) : IsH T cs w0 W1 g f0 f1 := h.grown (grown_of_below hw none) (by simp)
theorem IsH.alloc {T : TypeId} {cs : Array Value} {w0 W : World} {g : Nat} {f0 : Int} {f1 : Bool} (h : IsH T cs w0 W g f0 f1) (o : Obj) : IsH T cs w0 (W.alloc o) g f0 f1 := h.below (below_alloc (Below.refl _ _) o)
theorem IsH.drewN {T : TypeId} {cs : Array Value} {w0 W : World} {g : Nat} {f0 : Int} {f1 : Bool} (h : IsH T cs w0 W g f0 f1) (m : Nat) : IsH T cs w0 (W.drewN m) g f0 f1 := h
theorem IsH.drew {T : TypeId} {cs : Array Value} {w0 W : World} {g : Nat} {f0 : Int} {f1 : Bool} (h : IsH T cs w0 W g f0 f1) : IsH T cs w0 W.drew g f0 f1 := h
theorem IsH.ge {T : TypeId} {cs : Array Value} {w0 W : World} {g : Nat} {f0 : Int} {f1 : Bool} (h : IsH T cs w0 W g f0 f1) : w0.heap.size ≤ g := h.2.1
theorem IsH.apart {T : TypeId} {cs : Array Value} {w0 W : World} {g : Nat} {f0 : Int} {f1 : Bool} {α : Type} {d : Kd α} {e : Nat} {base : Nat} {ok : Nat → Prop} {v : Value} {xs : List α} (h : IsH T cs w0 W g f0 f1) (ho : d.R e W base ok v xs) (ht : ∀ q, q ∈ e :: d.E → q ≠ T) : d.R e W base (fun k => ok k ∧ k ≠ g) v xs := Kd.R_types ho h.1 ht
theorem IsH.own_ne {T : TypeId} {cs : Array Value} {w0 W : World} {g : Nat} {f0 : Int} {f1 : Bool} {α : Type} {d : Kd α} {e : Nat} {base : Nat} {ok : Nat → Prop} {v : Value} {xs : List α} (h : IsH T cs w0 W g f0 f1) (ho : d.R e W base ok v xs) (ht : e ≠ T) : some g ≠ v.ownBlock := Kd.R_ne ho h.1 ht
set_option maxHeartbeats 8000000 in
set_option maxRecDepth 100000 in
theorem bound_calls {T_ : TypeId} (cs_ : Array Value) (hT_ : 5 ≠ T_) (g : Nat) (s0_0 : Int) (s0_1 : Bool) (a1 : Int) (r1 : Int) (r2 : Int) (r3 : Bool) (w0 w : World) (hI : IsH T_ cs_ w0 w g s0_0 s0_1) (hB : Below w0.heap.size w0 w) (h : puny_bias_bound.f s0_0 s0_1 a1 = some (r1, r2, r3)) :
    Calls Tryd.prog 55 #[.pointer (some ⟨g, 0, none⟩), .int .i64 a1] w fun e w' => e = .returned (.int .i64 r1) ∧ IsH T_ cs_ w0 w' g r2 r3 ∧ Below w0.heap.size w0 w' ∧ KeepBut w w' g none := by
  have HI0 := Aside0.mk hI
  have HK := Aside0.mk (KeepBut.refl w g none)
  have HL := Aside0.mk hB.size
  clear hI
  have HW0 := Aside0.mk hB.size
  have HB := Aside0.mk hB
  clear hB
  have H : ((puny_within.f (wrap64 ((wrap64 (36 * (wrap64 (a1 + 1)))) - s0_0)) 1 26).bind fun t238 => (some (t238, s0_0, s0_1))) = some (r1, r2, r3) := h
  clear h
  replace H := Option.bind_eq_some_iff.mp H
  obtain ⟨t238, A30, H⟩ := H
  replace H : (some (t238, s0_0, s0_1)) = some (r1, r2, r3) := H
  have A3 := Aside0.mk A30
  clear A30
  simp only [Option.some.injEq, Prod.mk.injEq] at H
  obtain ⟨rfl, rfl, rfl⟩ := H
  have HGz4 := HI0.out
  have hcz4_0 := IsH.cell_0 HGz4
  have hcz4_1 := IsH.cell_1 HGz4
  have hfz4_0 := IsH.frozen_ HGz4 0
  have hfz4_1 := IsH.frozen_ HGz4 1
  clear HGz4
  go_enter Tryd.func55, Tryd.ntmps55
  go_wp2_with (first | ((with_reducible refine gate_callee (f := 37) rfl ?_); refine goesL_ (some 13) rfl rfl Tryd.func37 (by kernel_rfl) rfl #[.int .i64 (wrap64 ((wrap64 (36 * (wrap64 (a1 + 1)))) - s0_0)), .int .i64 1, .int .i64 26] rfl (by (try simp only [List.map_toArray, List.map_cons, List.map_nil]); first | done | rfl | (simp only [List.length_drop, List.length_take]; rfl)) ?_; (with_reducible refine (puny_within.calls (wrap64 ((wrap64 (36 * (wrap64 (a1 + 1)))) - s0_0)) 1 26 t238 _ A3.out).mono ?_); rintro e w5 ⟨rfl, hb⟩; refine ⟨_, rfl, ?_⟩; have n0_ := Aside0.mk (IsH.below (by repeat (first | (with_reducible first | exact HI0.out | apply IsH.alloc | apply IsH.drewN | apply IsH.drew) | exact HI0.out)) hb); have n1_ := Aside0.mk (KeepBut.trans (by repeat (first | (with_reducible first | exact HK.out | apply KeepBut.set_ | apply keep_drewN | apply keep_drew | apply keep_alloc) | exact HK.out)) (KeepBut.of_below hb g none) (.inl rfl)); have n2_ := Aside0.mk (below_step (by repeat (first | (with_reducible first | exact HB.out | apply below_alloc | apply pw_below_drewN | apply below_drew1 | refine below_set ?_ (IsH.ge HI0.out)) | exact HB.out)) hb); clear HI0; clear HK; clear HB; have HI0 := n0_; have HK := n1_; have HB := n2_; clear n0_ n1_ n2_; (try clear hb); (try clear hb2); (try clear hk); (try clear hi)))
  go_ret
  exact ⟨by first | rfl | (simp [errW_none, errW_some] <;> rfl) | (simp [*, errW_none, errW_some] <;> rfl), by repeat (first | (with_reducible first | exact HI0.out | apply IsH.alloc | apply IsH.drewN | apply IsH.drew) | exact HI0.out), by repeat (first | (with_reducible first | exact HB.out | apply below_alloc | apply pw_below_drewN | apply below_drew1 | refine below_set ?_ (IsH.ge HI0.out)) | exact HB.out), by repeat (first | (with_reducible first | exact HK.out | apply KeepBut.set_ | apply keep_drewN | apply keep_drew | apply keep_alloc) | exact HK.out)⟩


set_option maxHeartbeats 8000000 in
set_option maxRecDepth 100000 in
theorem digits_calls {T_ : TypeId} (cs_ : Array Value) (hT_ : 5 ≠ T_) (k : Nat) (g : Nat) (s0_0 : Int) (s0_1 : Bool) (a1 : Int) (r1 : ByteArray) (r2 : Int) (r3 : Bool) (w0 w : World) (hI : IsH T_ cs_ w0 w g s0_0 s0_1) (hB : Below w0.heap.size w0 w) (h : puny_bias_digits.f k s0_0 s0_1 a1 = some (r1, r2, r3)) :
    Calls Tryd.prog 39 #[.pointer (some ⟨g, 0, none⟩), .int .i64 a1] w fun e w' => e = .returned (.string r1) ∧ IsH T_ cs_ w0 w' g r2 r3 ∧ Below w0.heap.size w0 w' ∧ KeepBut w w' g none := by
  have HI0 := Aside0.mk hI
  have HK := Aside0.mk (KeepBut.refl w g none)
  have HL := Aside0.mk hB.size
  clear hI
  have HW0 := Aside0.mk hB.size
  have HB := Aside0.mk hB
  clear hB
  have H : (puny_bias_digits.l0 k a1 ([] : List Int) 0 s0_0 s0_1) = some (r1, r2, r3) := h
  clear h
  have H' := Aside0.mk H
  clear H
  go_enter Tryd.func39, Tryd.ntmps39
  go_wp2
  go_loopg [1, 5, 6] k (fun kq v1 v5 v6 w' => ∃ (x1_1 : Int) (x5_1 : List Int) (x6_1 : Int) (x1000_1 : Int) (x1001_1 : Bool), v1 = .int .i64 x1_1 ∧ v6 = .int .i64 x6_1 ∧ Aside0 (puny_bias_digits.l0 kq x1_1 x5_1 x6_1 x1000_1 x1001_1 = some (r1, r2, r3)) ∧ Aside0 (kq ≤ k) ∧ Aside0 (Kd.R (Kd.int .u8) 5 w' w.heap.size (fun _ => True) v5 x5_1) ∧ Aside0 (IsH T_ cs_ w0 w' g x1000_1 x1001_1) ∧ Aside0 (KeepBut w w' g none) ∧ Aside0 (Below w0.heap.size w0 w'))
  case atStart => exact ⟨(a1), (([] : List Int)), (0), (s0_0), (s0_1), (by first | rfl | (simp; done) | (simp [*]; done)), (by first | rfl | (simp; done) | (simp [*]; done)), H', ⟨Nat.le_refl _⟩, ⟨by first | exact Kd.R_nil _ _ _ _ _ | exact Kd.N_nil _ _ _ _ _ | exact Kd.V_nil _ _ _ _ _ | exact Kd.Q_nil _ _ _ _ _ | exact Kd.S_nil _ _ _ _ _⟩, ⟨by repeat (first | (with_reducible first | exact HI0.out | apply IsH.alloc | apply IsH.drewN | apply IsH.drew) | exact HI0.out)⟩, ⟨by repeat (first | (with_reducible first | exact HK.out | apply KeepBut.set_ | apply keep_drewN | apply keep_drew | apply keep_alloc) | exact HK.out)⟩, ⟨by repeat (first | (with_reducible first | exact HB.out | apply below_alloc | apply pw_below_drewN | apply below_drew1 | refine below_set ?_ (IsH.ge HI0.out)) | exact HB.out)⟩⟩
  case round =>
    clear H'
    try clear p2
    obtain ⟨x1_1, x5_1, x6_1, x1000_1, x1001_1, rfl, rfl, HA, HK1, HO_5, HI0, HK, HB⟩ := hrel
    cases gk with
    | zero => exact absurd HA.out (by simp [puny_bias_digits.l0])
    | succ k1 =>
      have H := HA.out
      clear HA
      simp only [puny_bias_digits.l0] at H
      replace H := Option.bind_eq_some_iff.mp H
      obtain ⟨⟨t239, t240, t241⟩, A30, H⟩ := H
      replace H : (if x1_1 < t239 then ((puny_sign.f x1_1).bind fun t242 => (if x5_1.length < 140737488355328 then (some (strOfNums (x5_1 ++ [t242]), t240, t241)) else (none))) else (if (wrap64 (36 - t239)) = 0 then (none) else ((puny_sign.f (wrap64 (t239 + (Int.tmod (wrap64 (x1_1 - t239)) (wrap64 (36 - t239)))))).bind fun t246 => (if x5_1.length < 140737488355328 then (puny_bias_digits.l0 k1 (wrap64 (Int.tdiv (wrap64 (x1_1 - t239)) (wrap64 (36 - t239)))) (x5_1 ++ [t246]) (wrap64 (x6_1 + 1)) t240 t241) else (none))))) = some (r1, r2, r3) := H
      have A3 := Aside0.mk A30
      clear A30
      by_cases c4 : x1_1 < t239
      · rw [if_pos c4] at H
        have c4b0 : decide (x1_1 < t239) = true := decide_eq_true c4
        clear c4
        replace H := Option.bind_eq_some_iff.mp H
        obtain ⟨t242, A50, H⟩ := H
        replace H : (if x5_1.length < 140737488355328 then (some (strOfNums (x5_1 ++ [t242]), t240, t241)) else (none)) = some (r1, r2, r3) := H
        have A5 := Aside0.mk A50
        clear A50
        by_cases c6 : x5_1.length < 140737488355328
        · rw [if_pos c6] at H
          have LMc6 := Aside0.mk c6
          clear c6
          obtain ⟨y243, hy243⟩ : ∃ y_ : List Int, y_ = (x5_1 ++ [t242]) := ⟨_, rfl⟩
          replace H : (some (strOfNums y243, t240, t241)) = some (r1, r2, r3) := by first | (rw [hy243]; with_reducible exact H) | (have H2_ := (Option.bind_some _ _).symm.trans H; rw [hy243]; with_reducible exact H2_) | (have H2_ := (Option.bind_some _ _).symm.trans H; with_reducible exact H2_) | with_reducible exact H | (rw [hy243]; exact H) | exact H
          have Ny243 := Aside0.mk hy243
          clear hy243
          simp only [Option.some.injEq, Prod.mk.injEq] at H
          obtain ⟨rfl, rfl, rfl⟩ := H
          go_wp2_with (first | ((with_reducible refine gate_callee (f := 55) rfl ?_); refine goesL_ (some 12) rfl rfl Tryd.func55 (by kernel_rfl) rfl #[.pointer (some ⟨g, 0, none⟩), .int .i64 x6_1] rfl (by (try simp only [List.map_toArray, List.map_cons, List.map_nil]); first | done | rfl | (simp only [List.length_drop, List.length_take]; rfl)) ?_; (with_reducible refine (bound_calls cs_ hT_ g x1000_1 x1001_1 x6_1 t239 t240 t241 w0 _ ?side1 ?side2 A3.out).mono ?_); (case side1 => repeat (first | (with_reducible first | exact HI0.out | apply IsH.alloc | apply IsH.drewN | apply IsH.drew) | exact HI0.out)); (case side2 => repeat (first | (with_reducible first | exact HB.out | apply below_alloc | apply pw_below_drewN | apply below_drew1 | refine below_set ?_ (IsH.ge HI0.out)) | exact HB.out)); rintro e w7 ⟨rfl, hi, hb, hk⟩; refine ⟨_, rfl, ?_⟩; have n0_ := Aside0.mk (Kd.R_mono (Kd.R_keep (IsH.apart (show IsH T_ cs_ w0 _ g x1000_1 x1001_1 from by repeat (first | (with_reducible first | exact HI0.out | apply IsH.alloc | apply IsH.drewN | apply IsH.drew) | exact HI0.out)) (by (with_reducible repeat (first | apply Kd.R_alloc | apply Kd.R_drewN | apply Kd.R_drew)); exact HO_5.out) (neE hT_)) hk (fun _ h => h.2)) (fun _ h => h.1)); have n1_ := Aside0.mk (KeepBut.trans (by repeat (first | (with_reducible first | exact HK.out | apply KeepBut.set_ | apply keep_drewN | apply keep_drew | apply keep_alloc) | exact HK.out)) hk (.inl rfl)); have n2_ := Aside0.mk (hb); have n3_ := Aside0.mk (hi); clear HO_5; clear HK; clear HB; clear HI0; have HO_5 := n0_; have HK := n1_; have HB := n2_; have HI0 := n3_; clear n0_ n1_ n2_ n3_; (try clear hb); (try clear hb2); (try clear hk); (try clear hi)) | ((with_reducible refine gate_callee (f := 56) rfl ?_); refine goesL_ (some 18) rfl rfl Tryd.func56 (by kernel_rfl) rfl #[.int .i64 x1_1] rfl (by (try simp only [List.map_toArray, List.map_cons, List.map_nil]); first | done | rfl | (simp only [List.length_drop, List.length_take]; rfl)) ?_; (with_reducible refine (puny_sign.calls x1_1 t242 _ A5.out).mono ?_); rintro e w' ⟨rfl, ⟨nd, rfl⟩⟩; refine ⟨_, rfl, ?_⟩) | ((with_reducible refine gate_builtin (b := .append) (xs := #[.tmp 16, .tmp 19]) rfl ?_); at_builtin; refine Kd.R_append (Kd.int .u8) w.heap.size rfl (.tmp 16) (.tmp 19) 48 5 (.int .u8 0) 1 rfl Tryd.underlying48 info5 rfl (by decide) (by omega) u5 x5_1 t242 [.int .u8 t242] (fun _ => True) (fun _ => False) rfl rfl ?aP (fun _ hk => hk.elim) ?aF ?aO (Below.refl _ _) ?aS ?aL ?_; (case aP => exact rfl); (case aF => exact (fun _ _ => trivial)); (case aO => exact (by (with_reducible repeat (first | apply Kd.R_alloc | apply Kd.R_drewN | apply Kd.R_drew)); exact HO_5.out)); (case aS => exact (keep_size (w := w) (g := g) (row := none) (by repeat (first | (with_reducible first | exact HK.out | apply KeepBut.set_ | apply keep_drewN | apply keep_drew | apply keep_alloc) | exact HK.out)))); (case aL => have := LMc6.out; omega); intro v244 w8 ho hb hg hat; rw [← Ny243.out] at ho; have n0_ := Aside0.mk (IsH.grown (by repeat (first | (with_reducible first | exact HI0.out | apply IsH.alloc | apply IsH.drewN | apply IsH.drew) | exact HI0.out)) hg (IsH.own_ne HI0.out HO_5.out hT_)); have n1_ := Aside0.mk (below_weaken (by repeat (first | (with_reducible first | exact HB.out | apply below_alloc | apply pw_below_drewN | apply below_drew1 | refine below_set ?_ (IsH.ge HI0.out)) | exact HB.out)) HL.out hb); have n2_ := Aside0.mk (KeepBut.trans (by repeat (first | (with_reducible first | exact HK.out | apply KeepBut.set_ | apply keep_drewN | apply keep_drew | apply keep_alloc) | exact HK.out)) (KeepBut.of_grown hg g) (Kd.R_base2 HO_5.out)); have n3_ := Aside0.mk (ho); clear HI0; clear HB; clear HK; clear HO_5; have HI0 := n0_; have HB := n1_; have HK := n2_; have HO245 := n3_; clear n0_ n1_ n2_ n3_; clear ho hb hg hat; have hcv9 := own_string (P := Tryd.prog) Tryd.underlying48 Tryd.underlying5 Tryd.underlying9 (Kd.own_of_R HO245.out)))
          go_ret
          exact ⟨by first | rfl | (simp [errW_none, errW_some] <;> rfl) | (simp [*, errW_none, errW_some] <;> rfl), by repeat (first | (with_reducible first | exact HI0.out | apply IsH.alloc | apply IsH.drewN | apply IsH.drew) | exact HI0.out), by repeat (first | (with_reducible first | exact HB.out | apply below_alloc | apply pw_below_drewN | apply below_drew1 | refine below_set ?_ (IsH.ge HI0.out)) | exact HB.out), by repeat (first | (with_reducible first | exact HK.out | apply KeepBut.set_ | apply keep_drewN | apply keep_drew | apply keep_alloc) | exact HK.out)⟩
        · rw [if_neg c6] at H
          exact absurd H (by simp)
      · rw [if_neg c4] at H
        have c4b0 : decide (x1_1 < t239) = false := decide_eq_false c4
        clear c4
        by_cases c10 : (wrap64 (36 - t239)) = 0
        · rw [if_pos c10] at H
          exact absurd H (by simp)
        · rw [if_neg c10] at H
          have c10b0 : ((wrap64 (36 - t239)) == 0) = false := beq_eq_false_iff_ne.mpr c10
          have c10b1 : ((wrap64 (36 - t239)) != 0) = true := bne_iff_ne.mpr c10
          replace H := Option.bind_eq_some_iff.mp H
          obtain ⟨t246, A110, H⟩ := H
          replace H : (if x5_1.length < 140737488355328 then (puny_bias_digits.l0 k1 (wrap64 (Int.tdiv (wrap64 (x1_1 - t239)) (wrap64 (36 - t239)))) (x5_1 ++ [t246]) (wrap64 (x6_1 + 1)) t240 t241) else (none)) = some (r1, r2, r3) := H
          have A11 := Aside0.mk A110
          clear A110
          by_cases c12 : x5_1.length < 140737488355328
          · rw [if_pos c12] at H
            have LMc12 := Aside0.mk c12
            clear c12
            obtain ⟨y247, hy247⟩ : ∃ y_ : List Int, y_ = (x5_1 ++ [t246]) := ⟨_, rfl⟩
            replace H : (puny_bias_digits.l0 k1 (wrap64 (Int.tdiv (wrap64 (x1_1 - t239)) (wrap64 (36 - t239)))) y247 (wrap64 (x6_1 + 1)) t240 t241) = some (r1, r2, r3) := by first | (rw [hy247]; with_reducible exact H) | (have H2_ := (Option.bind_some _ _).symm.trans H; rw [hy247]; with_reducible exact H2_) | (have H2_ := (Option.bind_some _ _).symm.trans H; with_reducible exact H2_) | with_reducible exact H | (rw [hy247]; exact H) | exact H
            have Ny247 := Aside0.mk hy247
            clear hy247
            have H' := Aside0.mk H
            clear H
            go_wp2_with (first | ((with_reducible refine gate_callee (f := 55) rfl ?_); refine goesL_ (some 12) rfl rfl Tryd.func55 (by kernel_rfl) rfl #[.pointer (some ⟨g, 0, none⟩), .int .i64 x6_1] rfl (by (try simp only [List.map_toArray, List.map_cons, List.map_nil]); first | done | rfl | (simp only [List.length_drop, List.length_take]; rfl)) ?_; (with_reducible refine (bound_calls cs_ hT_ g x1000_1 x1001_1 x6_1 t239 t240 t241 w0 _ ?side1 ?side2 A3.out).mono ?_); (case side1 => repeat (first | (with_reducible first | exact HI0.out | apply IsH.alloc | apply IsH.drewN | apply IsH.drew) | exact HI0.out)); (case side2 => repeat (first | (with_reducible first | exact HB.out | apply below_alloc | apply pw_below_drewN | apply below_drew1 | refine below_set ?_ (IsH.ge HI0.out)) | exact HB.out)); rintro e w13 ⟨rfl, hi, hb, hk⟩; refine ⟨_, rfl, ?_⟩; have n0_ := Aside0.mk (Kd.R_mono (Kd.R_keep (IsH.apart (show IsH T_ cs_ w0 _ g x1000_1 x1001_1 from by repeat (first | (with_reducible first | exact HI0.out | apply IsH.alloc | apply IsH.drewN | apply IsH.drew) | exact HI0.out)) (by (with_reducible repeat (first | apply Kd.R_alloc | apply Kd.R_drewN | apply Kd.R_drew)); exact HO_5.out) (neE hT_)) hk (fun _ h => h.2)) (fun _ h => h.1)); have n1_ := Aside0.mk (KeepBut.trans (by repeat (first | (with_reducible first | exact HK.out | apply KeepBut.set_ | apply keep_drewN | apply keep_drew | apply keep_alloc) | exact HK.out)) hk (.inl rfl)); have n2_ := Aside0.mk (hb); have n3_ := Aside0.mk (hi); clear HO_5; clear HK; clear HB; clear HI0; have HO_5 := n0_; have HK := n1_; have HB := n2_; have HI0 := n3_; clear n0_ n1_ n2_ n3_; (try clear hb); (try clear hb2); (try clear hk); (try clear hi)) | ((with_reducible refine gate_callee (f := 56) rfl ?_); refine goesL_ (some 31) rfl rfl Tryd.func56 (by kernel_rfl) rfl #[.int .i64 (wrap64 (t239 + (Int.tmod (wrap64 (x1_1 - t239)) (wrap64 (36 - t239)))))] rfl (by (try simp only [List.map_toArray, List.map_cons, List.map_nil]); first | done | rfl | (simp only [List.length_drop, List.length_take]; rfl)) ?_; (with_reducible refine (puny_sign.calls (wrap64 (t239 + (Int.tmod (wrap64 (x1_1 - t239)) (wrap64 (36 - t239))))) t246 _ A11.out).mono ?_); rintro e w' ⟨rfl, ⟨nd, rfl⟩⟩; refine ⟨_, rfl, ?_⟩) | ((with_reducible refine gate_builtin (b := .append) (xs := #[.tmp 22, .tmp 32]) rfl ?_); at_builtin; refine Kd.R_append (Kd.int .u8) w.heap.size rfl (.tmp 22) (.tmp 32) 48 5 (.int .u8 0) 1 rfl Tryd.underlying48 info5 rfl (by decide) (by omega) u5 x5_1 t246 [.int .u8 t246] (fun _ => True) (fun _ => False) rfl rfl ?aP (fun _ hk => hk.elim) ?aF ?aO (Below.refl _ _) ?aS ?aL ?_; (case aP => exact rfl); (case aF => exact (fun _ _ => trivial)); (case aO => exact (by (with_reducible repeat (first | apply Kd.R_alloc | apply Kd.R_drewN | apply Kd.R_drew)); exact HO_5.out)); (case aS => exact (keep_size (w := w) (g := g) (row := none) (by repeat (first | (with_reducible first | exact HK.out | apply KeepBut.set_ | apply keep_drewN | apply keep_drew | apply keep_alloc) | exact HK.out)))); (case aL => have := LMc12.out; omega); intro v248 w14 ho hb hg hat; rw [← Ny247.out] at ho; have n0_ := Aside0.mk (IsH.grown (by repeat (first | (with_reducible first | exact HI0.out | apply IsH.alloc | apply IsH.drewN | apply IsH.drew) | exact HI0.out)) hg (IsH.own_ne HI0.out HO_5.out hT_)); have n1_ := Aside0.mk (below_weaken (by repeat (first | (with_reducible first | exact HB.out | apply below_alloc | apply pw_below_drewN | apply below_drew1 | refine below_set ?_ (IsH.ge HI0.out)) | exact HB.out)) HL.out hb); have n2_ := Aside0.mk (KeepBut.trans (by repeat (first | (with_reducible first | exact HK.out | apply KeepBut.set_ | apply keep_drewN | apply keep_drew | apply keep_alloc) | exact HK.out)) (KeepBut.of_grown hg g) (Kd.R_base2 HO_5.out)); have n3_ := Aside0.mk (ho); clear HI0; clear HB; clear HK; clear HO_5; have HI0 := n0_; have HB := n1_; have HK := n2_; have HO249 := n3_; clear n0_ n1_ n2_ n3_; clear ho hb hg hat))
            go_roundg k1
            case measure => have := HK1.out; omega
            case rel => exact ⟨(wrap64 (Int.tdiv (wrap64 (x1_1 - t239)) (wrap64 (36 - t239)))), (y247), (wrap64 (x6_1 + 1)), (t240), (t241), (by first | rfl | (simp; done) | (simp [*]; done)), (by first | rfl | (simp; done) | (simp [*]; done)), H', ⟨by have := HK1.out; omega⟩, ⟨by (with_reducible repeat (first | apply Kd.R_alloc | apply Kd.R_drewN | apply Kd.R_drew)); exact HO249.out⟩, ⟨by repeat (first | (with_reducible first | exact HI0.out | apply IsH.alloc | apply IsH.drewN | apply IsH.drew) | exact HI0.out)⟩, ⟨by repeat (first | (with_reducible first | exact HK.out | apply KeepBut.set_ | apply keep_drewN | apply keep_drew | apply keep_alloc) | exact HK.out)⟩, ⟨by repeat (first | (with_reducible first | exact HB.out | apply below_alloc | apply pw_below_drewN | apply below_drew1 | refine below_set ?_ (IsH.ge HI0.out)) | exact HB.out)⟩⟩
          · rw [if_neg c12] at H
            exact absurd H (by simp)


end Go.Proofs.YtenkmjccfpfkbaaDoor.Pu
set_option linter.unusedVariables false
namespace Go.Proofs.YtenkmjccfpfkbaaDoor.Pe
open Go.RowKit Go.Proofs.YtenkmjccfpfkbaaDoorW.PrintWords Go.Proofs.YtenkmjccfpfkbaaDoorW.PrintLast Go.Proofs.YtenkmjccfpfkbaaDoorW.PrintMore Go.Proofs.YtenkmjccfpfkbaaDoor.Er
open Go.Proofs.YtenkmjccfpfkbaaDoor.V Go.Proofs.YtenkmjccfpfkbaaDoor.Bl Go.Proofs.YtenkmjccfpfkbaaDoor.Pu

/-- a world's first blocks alone. -/
def trim (w : World) (g : Nat) : World := { w with heap := w.heap.extract 0 g }
theorem trim_size {w : World} {g : Nat} (h : g ≤ w.heap.size) : (trim w g).heap.size = g := by simp [trim]; omega
theorem trim_below {w : World} {g : Nat} (h : g ≤ w.heap.size) : Below (trim w g).heap.size (trim w g) w := by
  have hs := trim_size h
  refine ⟨rfl, rfl, rfl, by omega, fun k hk => ?_⟩
  rw [hs] at hk
  simp [trim, Array.getElem?_extract]
  omega
theorem below_of_keep {w w' : World} {g : Nat} {o : Obj} (hg : w.heap[g]? = some o) (hb : Below (trim w g).heap.size (trim w g) w') (hk : KeepBut w w' g none) (hg' : w'.heap[g]? = some o) : Below w.heap.size w w' :=
  ⟨hb.os, hb.tape, hb.output, hk.1, fun i hi => by
    by_cases e : i = g
    · subst e; rw [hg, hg']
    · exact hk.2 i hi e (by simp)⟩

/-- the digits by a bias that lies at the head of a block. -/
theorem digits_at {T : TypeId} (hT : 5 ≠ T) {cs : Array Value} (k g : Nat) (now : Int) (sm : Bool) (d : Int) (r : ByteArray) (r2 : Int) (r3 : Bool) (w : World) (hb : w.heap[g]? = some (.cells cs T (0, 0))) (c0 : cs[0]? = some (.int .i64 now)) (c1 : cs[1]? = some (.bool sm)) (h : puny_bias_digits.f k now sm d = some (r, r2, r3)) :
    Calls Tryd.prog 39 #[.pointer (some ⟨g, 0, none⟩), .int .i64 d] w fun e w' => e = .returned (.string r) ∧ Below w.heap.size w w' := by
  have hlt := blk_lt hb
  refine (digits_calls cs hT k g now sm d r r2 r3 (trim w g) w ⟨hb, by rw [trim_size (by omega)]; omega, c0, c1⟩ (trim_below (by omega)) h).mono ?_
  rintro e w' ⟨rfl, hI, hB, hK⟩
  exact ⟨rfl, below_of_keep hb hB hK hI.1⟩
theorem bound_at {T : TypeId} (hT : 5 ≠ T) {cs : Array Value} (g : Nat) (now : Int) (sm : Bool) (k : Int) (r : Int) (w : World) (hb : w.heap[g]? = some (.cells cs T (0, 0))) (c0 : cs[0]? = some (.int .i64 now)) (c1 : cs[1]? = some (.bool sm)) (h : puny_bias_bound.f now sm k = some (r, now, sm)) :
    Calls Tryd.prog 55 #[.pointer (some ⟨g, 0, none⟩), .int .i64 k] w fun e w' => e = .returned (.int .i64 r) ∧ Below w.heap.size w w' := by
  have hlt := blk_lt hb
  refine (bound_calls cs hT g now sm k r now sm (trim w g) w ⟨hb, by rw [trim_size (by omega)]; omega, c0, c1⟩ (trim_below (by omega)) h).mono ?_
  rintro e w' ⟨rfl, hI, hB, hK⟩
  exact ⟨rfl, below_of_keep hb hB hK hI.1⟩

theorem grown_of_set {w : World} {g i : Nat} (u : Value) : w.grownBy (w.setCell ⟨g, i, none⟩ u) (some g) := ⟨rfl, rfl, rfl, by simp [World.setCell], fun k _ hk => Below.heap_setCell _ _ _ _ (fun e => hk (by simp [e]))⟩
theorem grown_trans {a b c : World} {row : Option Nat} (h : a.grownBy b row) (k : b.grownBy c row) : a.grownBy c row := ⟨k.os.trans h.os, k.tape.trans h.tape, k.output.trans h.output, Nat.le_trans h.size k.size, fun i hi hne => (k.block i (Nat.lt_of_lt_of_le hi h.size) hne).trans (h.block i hi hne)⟩
theorem grown_below {w w' : World} (h : Below w.heap.size w w') (row : Option Nat) : w.grownBy w' row := ⟨h.os, h.tape, h.output, h.size, fun k hk _ => h.block k hk⟩

set_option maxHeartbeats 2000000 in
set_option maxRecDepth 100000 in
/-- adapt, at the head of a block. -/
theorem adapt_at {T : TypeId} {cs : Array Value} (k g : Nat) (now : Int) (sm : Bool) (d many r : Int) (w : World) (hb : w.heap[g]? = some (.cells cs T (0, 0))) (c0 : cs[0]? = some (.int .i64 now)) (c1 : cs[1]? = some (.bool sm)) (h : puny_Bias.f k d many (!sm) = some r) :
    Calls Tryd.prog 53 #[.pointer (some ⟨g, 0, none⟩), .int .i64 d, .int .i64 many] w fun e w' => e = .returned (.tuple #[]) ∧ w.grownBy w' (some g) ∧ w'.heap[g]? = some (.cells ((cs.setIfInBounds 0 (.int .i64 r)).setIfInBounds 1 (.bool true)) T (0, 0)) := by
  have hcz1 : w.cell? ⟨g, 1, none⟩ = some (.bool sm) := (blk_cell hb 1).trans c1
  have s0 : 0 < cs.size := (Array.getElem?_eq_some_iff.1 c0).1
  have s1 : 1 < cs.size := (Array.getElem?_eq_some_iff.1 c1).1
  go_enter Tryd.func53, Tryd.ntmps53
  go_wp2_with (go_at_call 16; refine (puny_Bias.calls k d many (!sm) r _ h).mono ?_)
  rintro e w1 ⟨rfl, hb1⟩
  have hbk := blk_below hb hb1
  have d0 : w1.cell? ⟨g, 0, none⟩ = some (.int .i64 now) := (blk_cell hbk 0).trans c0
  have f0 : w1.frozen? ⟨g, 0, none⟩ = false := blk_frozen hbk 0
  have hbk2 := blk_put hbk 0 (.int .i64 r) rfl
  have d1 : (w1.setCell ⟨g, 0, none⟩ (.int .i64 r)).cell? ⟨g, 1, none⟩ = some (.bool sm) := (blk_cell hbk2 1).trans (by rw [get_other (by decide)]; exact c1)
  have f1 : (w1.setCell ⟨g, 0, none⟩ (.int .i64 r)).frozen? ⟨g, 1, none⟩ = false := blk_frozen hbk2 1
  go_wp2
  go_end0
  exact ⟨rfl, grown_trans (grown_below hb1 _) (grown_trans (grown_of_set _) (grown_of_set _)), blk_put hbk2 1 _ rfl⟩

/-- a builder goes with its block, where the rest stands. -/
theorem BAt_moved {T : TypeId} {B b o : Nat} {cs cs' : Array Value} {bs : List Value} {w w' : World} (h : BAt T B b o cs bs w) (hg : w.grownBy w' (some b)) (hb : w'.heap[b]? = some (.cells cs' T (0, 0))) (h0 : cs'[o]? = cs[o]?) (h1 : cs'[o + 1]? = cs[o + 1]?) : BAt T B b o cs' bs w' := by
  obtain ⟨v, hv, hown, hne, hn⟩ := h.buf
  exact ⟨h.le, hb, by rw [h0]; exact h.ad, v, by rw [h1]; exact hv, hown.kept hg (Or.inr hne), hne, hn⟩
theorem others_of_grown {e : TypeId} {w w' : World} {b : Nat} (hg : w.grownBy w' (some b)) : Lib.OthersKept e (some b) w w' := fun k o h1 h2 _ => (hg.block k (blk_lt h1) h2).trans h1
theorem below_of_grown {w w' : World} {b B : Nat} (hg : w.grownBy w' (some b)) (hB : B ≤ b) (hBw : B ≤ w.heap.size) : Below B w w' := ⟨hg.os, hg.tape, hg.output, hg.size, fun k hk => hg.block k (by omega) (by simp; omega)⟩

theorem BAt_drewN {T : TypeId} {B b o : Nat} {cs : Array Value} {bs : List Value} {w : World} (h : BAt T B b o cs bs w) (n : Nat) : BAt T B b o cs bs (w.drewN n) := ⟨h.le, h.blk, h.ad, h.buf⟩
theorem BAt_drew {T : TypeId} {B b o : Nat} {cs : Array Value} {bs : List Value} {w : World} (h : BAt T B b o cs bs w) : BAt T B b o cs bs w.drew := ⟨h.le, h.blk, h.ad, h.buf⟩
theorem BAt_below {T : TypeId} {B b o : Nat} {cs : Array Value} {bs : List Value} {w w' : World} (h : BAt T B b o cs bs w) (hb : Below w.heap.size w w') : BAt T B b o cs bs w' := BAt_moved h (grown_below hb _) (blk_below h.blk hb) rfl rfl
/-- an encoder: the bias, what is written, the present place. -/
structure St where
  now : Int
  sm : Bool
  n : Int
  i : Int
  many : Int
  out : List UInt8
abbrev St.cells (e : St) (ad buf : Value) : Array Value := #[.int .i64 e.now, .bool e.sm, ad, buf, .int .i32 e.n, .int .i64 e.i, .int .i64 e.many]
/-- an encoder in a block. -/
def EAt (B b : Nat) (e : St) (w : World) : Prop := ∃ ad buf, BAt 52 B b 2 (e.cells ad buf) (Lib.byteCells e.out) w
theorem fits (e : St) (ad buf : Value) : Fits 52 2 (e.cells ad buf) := ⟨by kernel_rfl, by show 2 + 1 < 7; decide, by decide⟩

/-- put, plainly. -/
def putD (e : St) (r i : Int) : Int := wrap64 (wrap64 (wrap64 (wrap64 (wrap64 r - wrap64 e.n) * wrap64 (e.many + 1)) + i) - e.i)
def putF (k : Nat) (e : St) (r i : Int) : Option St := (puny_bias_digits.f k e.now e.sm (putD e r i)).bind fun s => if e.out.length + s.1.size ≤ 140737488355328 then ((puny_Bias.f k (putD e r i) (wrap64 (e.many + 1)) (!e.sm)).bind fun b => some ⟨b, true, r, wrap64 (i + 1), wrap64 (e.many + 1), e.out ++ s.1.data.toList⟩) else none

set_option maxHeartbeats 4000000 in
set_option maxRecDepth 100000 in
theorem put_calls (k : Nat) (e e' : St) (r i : Int) (B b : Nat) (w : World) (h : EAt B b e w) (hBw : B ≤ w.heap.size) (hf : putF k e r i = some e') :
    Calls Tryd.prog 44 #[.pointer (some ⟨b, 0, none⟩), .int .i32 r, .int .i64 i] w fun x w' => x = .returned (.tuple #[]) ∧ EAt B b e' w' ∧ Below B w w' ∧ Lib.OthersKept 5 (some b) w w' := by
  obtain ⟨ad, buf, hA⟩ := h
  obtain ⟨now, sm, n, ei, many, out⟩ := e
  obtain ⟨⟨s, s2, s3⟩, hs, hf⟩ := Option.bind_eq_some_iff.mp hf
  have AS := Aside0.mk hs
  clear hs
  by_cases hl : out.length + s.size ≤ 140737488355328
  case neg => rw [if_neg hl] at hf; exact absurd hf (by simp)
  rw [if_pos hl] at hf
  obtain ⟨bi, hbi, hf⟩ := Option.bind_eq_some_iff.mp hf
  have AB := Aside0.mk hbi
  clear hbi
  obtain rfl := Option.some.inj hf
  clear hf
  replace AS : Aside0 (puny_bias_digits.f k now sm (wrap64 (wrap64 (wrap64 (wrap64 (wrap64 r - wrap64 n) * wrap64 (many + 1)) + i) - ei)) = some (s, s2, s3)) := AS
  replace AB : Aside0 (puny_Bias.f k (wrap64 (wrap64 (wrap64 (wrap64 (wrap64 r - wrap64 n) * wrap64 (many + 1)) + i) - ei)) (wrap64 (many + 1)) (!sm) = some bi) := AB
  have hlt := blk_lt hA.blk
  have hB := hA.le
  have c4 : w.cell? ⟨b, 4, none⟩ = some (.int .i32 n) := (blk_cell hA.blk 4).trans rfl
  have c5 : w.cell? ⟨b, 5, none⟩ = some (.int .i64 ei) := (blk_cell hA.blk 5).trans rfl
  have c6 : w.cell? ⟨b, 6, none⟩ = some (.int .i64 many) := (blk_cell hA.blk 6).trans rfl
  go_enter Tryd.func44, Tryd.ntmps44
  go_wp2
  go_quiet (fail)
  go_wp2
  have hA' : BAt _ B b 2 _ _ (w.drewN _) := BAt_drewN hA nq
  have hbw : Below B w (w.drewN nq) := ⟨rfl, rfl, rfl, Nat.le_refl _, fun _ _ => rfl⟩
  have hkw : Lib.OthersKept 5 (some b) w (w.drewN nq) := fun k o h _ _ => h
  have hBw0 : B ≤ (w.drewN nq).drew.heap.size := hBw
  clear c4 c5 c6
  generalize hw0 : w.drewN nq = w0 at *
  generalize wrap64 (wrap64 (wrap64 (wrap64 (wrap64 r - wrap64 n) * wrap64 (many + 1)) + i) - ei) = D at *
  go_region_held3 (fun w' => True) (exact trivial) ((first
    | (go_at_call 39; refine Calls.mono (digits_at (T := 52) (cs := #[.int .i64 now, .bool sm, ad, buf, .int .i32 n, .int .i64 ei, .int .i64 many]) (by decide) k b now sm D s s2 s3 _ ?hb rfl rfl AS.out) ?_; (case hb => exact hA'.blk); rintro e w1 ⟨rfl, hb1⟩; have hA1 := BAt_below (BAt_drew hA') hb1)
    | (go_at_call 69; refine Calls.mono (writeString_calls s hA1 (fits ⟨now, sm, n, ei, many, out⟩ ad buf) (by rw [Lib.byteCells_length]; exact hl) (Nat.le_trans hBw0 hb1.size)) ?_; rintro e w2 ⟨rfl, ⟨v2, hA2⟩, hb2, hk2⟩)))
  have hA3 : BAt 52 B b 2 #[.int .i64 now, .bool sm, .pointer (some ⟨b, 2, none⟩), v2, .int .i32 n, .int .i64 ei, .int .i64 many] (Lib.byteCells (out ++ s.data.toList)) w2 := by
    rw [Lib.byteCells_append, ← Lib.strCells_eq]; exact hA2
  have hb3 : Below B w w2 := hbw.trans ((Below.drew (Below.refl B w0)).trans ((hb1.mono hBw0).trans hb2))
  have hk3 : Lib.OthersKept 5 (some b) w w2 := hkw.trans ((show Lib.OthersKept 5 (some b) w0 w0.drew from fun k o h _ _ => h).trans ((others_of_grown (grown_below hb1 _)).trans hk2))
  have hB2 : B ≤ w2.heap.size := Nat.le_trans hBw hb3.size
  clear hA hA' hA1 hA2 hb1 hb2 hk2 hbw hkw
  have hA4 : BAt 52 B b 2 #[.int .i64 now, .bool sm, .pointer (some ⟨b, 2, none⟩), v2, .int .i32 n, .int .i64 ei, .int .i64 (wrap64 (many + 1))] (Lib.byteCells (out ++ s.data.toList)) (w2.setCell ⟨b, 6, none⟩ (.int .i64 (wrap64 (many + 1)))) := hA3.other (fits ⟨now, sm, n, ei, many, out⟩ _ _) (i := 6) (by decide) (by decide) (.int .i64 (wrap64 (many + 1)))
  have c6 : w2.cell? ⟨b, 6, none⟩ = some (.int .i64 many) := (blk_cell hA3.blk 6).trans rfl
  have f6 : w2.frozen? ⟨b, 6, none⟩ = false := blk_frozen hA3.blk 6
  go_wp2
  have hb5 : Below B w (w2.setCell ⟨b, 6, none⟩ (.int .i64 (wrap64 (many + 1)))) := (hb3.setCell (p := ⟨b, 6, none⟩) hB _)
  have hk5 : Lib.OthersKept 5 (some b) w (w2.setCell ⟨b, 6, none⟩ (.int .i64 (wrap64 (many + 1)))) := hk3.trans (others_of_grown (grown_of_set _))
  clear c6 f6 hA3 hb3 hk3
  generalize (w2.setCell ⟨b, 6, none⟩ (.int .i64 (wrap64 (many + 1)))) = w5 at *
  have c6 : w5.cell? ⟨b, 6, none⟩ = some (.int .i64 (wrap64 (many + 1))) := (blk_cell hA4.blk 6).trans rfl
  go_region_held3 (fun w' => w'.cell? ⟨b, 6, none⟩ = some (.int .i64 (wrap64 (many + 1)))) (first | exact c6 | exact (blk_cell hbk6 6).trans rfl) ((first
    | (go_at_call 53; refine Calls.mono (adapt_at (T := 52) (cs := #[.int .i64 now, .bool sm, .pointer (some ⟨b, 2, none⟩), v2, .int .i32 n, .int .i64 ei, .int .i64 (wrap64 (many + 1))]) k b now sm D (wrap64 (many + 1)) bi _ ?hb2 rfl rfl AB.out) ?_; (case hb2 => exact hA4.blk); rintro e w6 ⟨rfl, hg6, hbk6⟩)))
  have hA6 : BAt 52 B b 2 #[.int .i64 bi, .bool true, .pointer (some ⟨b, 2, none⟩), v2, .int .i32 n, .int .i64 ei, .int .i64 (wrap64 (many + 1))] (Lib.byteCells (out ++ s.data.toList)) w6 := BAt_moved (BAt_drew hA4) hg6 hbk6 rfl rfl
  have hb6 : Below B w w6 := hb5.drew.trans (below_of_grown hg6 hB (Nat.le_trans hBw hb5.size))
  have hk6 : Lib.OthersKept 5 (some b) w w6 := hk5.trans ((show Lib.OthersKept 5 (some b) w5 w5.drew from fun k o h _ _ => h).trans (others_of_grown hg6))
  clear c6 hA4 hb5 hk5 hg6 hbk6
  have c4 : w6.cell? ⟨b, 4, none⟩ = some (.int .i32 n) := (blk_cell hA6.blk 4).trans rfl
  have f4 : w6.frozen? ⟨b, 4, none⟩ = false := blk_frozen hA6.blk 4
  have hA7 := hA6.other (fits ⟨bi, true, n, ei, wrap64 (many + 1), out⟩ _ _) (i := 4) (by decide) (by decide) (.int .i32 r)
  have c5 : (w6.setCell ⟨b, 4, none⟩ (.int .i32 r)).cell? ⟨b, 5, none⟩ = some (.int .i64 ei) := (blk_cell hA7.blk 5).trans rfl
  have f5 : (w6.setCell ⟨b, 4, none⟩ (.int .i32 r)).frozen? ⟨b, 5, none⟩ = false := blk_frozen hA7.blk 5
  go_wp2
  go_end0
  have hA8 := hA7.other (fits ⟨bi, true, r, ei, wrap64 (many + 1), out⟩ _ _) (i := 5) (by decide) (by decide) (.int .i64 (wrap64 (i + 1)))
  exact ⟨rfl, ⟨_, _, hA8⟩, (hb6.setCell (p := ⟨b, 4, none⟩) hB _).setCell (p := ⟨b, 5, none⟩) hB _, hk6.trans ((others_of_grown (grown_of_set _)).trans (others_of_grown (grown_of_set _)))⟩
end Go.Proofs.YtenkmjccfpfkbaaDoor.Pe
set_option linter.unusedVariables false
namespace Go.Proofs.YtenkmjccfpfkbaaDoor.Pe
open Go.RowKit Go.Proofs.YtenkmjccfpfkbaaDoorW.PrintWords Go.Proofs.YtenkmjccfpfkbaaDoorW.PrintLast Go.Proofs.YtenkmjccfpfkbaaDoorW.PrintMore Go.Proofs.YtenkmjccfpfkbaaDoor.Er
open Go.Proofs.YtenkmjccfpfkbaaDoor.V Go.Proofs.YtenkmjccfpfkbaaDoor.Bl Go.Proofs.YtenkmjccfpfkbaaDoor.Pu

def allL (l : List Int) (r : Int) : Nat → St → Int → Int → Option St
  | 0, _, _, _ => none
  | k + 1, e, a, x => if x < (l.length : Int) then (if 0 ≤ x then (if rd l x = r then ((putF k e r a).bind fun e' => allL l r k e' (wrap64 (a + 1)) (wrap64 (x + 1))) else (if rd l x ≤ r then allL l r k e (wrap64 (a + 1)) (wrap64 (x + 1)) else allL l r k e a (wrap64 (x + 1)))) else none) else some e
def allF (k : Nat) (e : St) (l : List Int) (r : Int) : Option St := allL l r k e 0 0

set_option maxHeartbeats 4000000 in
set_option maxRecDepth 100000 in
theorem all_calls (k : Nat) (e0 e' : St) (A0 : Option Addr) (c0 : Nat) (l : List Int) (r : Int) (b : Nat) (w0 w : World) (hr0 : Kd.C (Kd.int .i32) w0 A0 l.length l) (hc0 : l.length ≤ c0) (hB : Below w0.heap.size w0 w) (h : EAt w0.heap.size b e0 w) (hf : allF k e0 l r = some e') :
    Calls Tryd.prog 25 #[.pointer (some ⟨b, 0, none⟩), .slice A0 l.length c0, .int .i32 r] w fun x w' => x = .returned (.tuple #[]) ∧ EAt w0.heap.size b e' w' ∧ Below w0.heap.size w0 w' ∧ Lib.OthersKept 5 (some b) w w' := by
  have HR0 := Aside0.mk hr0
  have HC0 := Aside0.mk hc0
  have HE := Aside0.mk h
  have HB := Aside0.mk hB
  have HK := Aside0.mk (Lib.OthersKept.refl 5 (some b) w)
  have H' := Aside0.mk (show allL l r k e0 0 0 = some e' from hf)
  clear hr0 hc0 h hB hf
  go_enter Tryd.func25, Tryd.ntmps25
  go_wp2
  go_loopg [6, 11] k (fun kq v6 v11 w' => ∃ (a x : Int) (e1 : St), v6 = .int .i64 a ∧ v11 = .int .i64 x ∧ Aside0 (allL l r kq e1 a x = some e') ∧ Aside0 (kq ≤ k) ∧ Aside0 (EAt w0.heap.size b e1 w') ∧ Aside0 (Below w0.heap.size w0 w') ∧ Aside0 (Lib.OthersKept 5 (some b) w w'))
  case atStart => exact ⟨0, 0, e0, rfl, rfl, H', ⟨Nat.le_refl _⟩, HE, HB, HK⟩
  case round =>
    clear H' HE HB HK
    obtain ⟨a, x, e1, rfl, rfl, HA, HK1, HE, HB, HK⟩ := hrel
    cases gk with
    | zero => exact absurd HA.out (by simp [allL])
    | succ k1 =>
      have H := HA.out
      clear HA
      simp only [allL] at H
      by_cases c3 : x < (l.length : Int)
      · rw [if_pos c3] at H
        have c3b0 : decide (x < (l.length : Int)) = true := decide_eq_true c3
        by_cases c4 : 0 ≤ x
        · rw [if_pos c4] at H
          obtain ⟨ad, ex, hx⟩ := Kd.at_int (Kd.C_below HR0.out HB.out) x c4 c3
          cases ex
          have p := eq_true c4
          have q := eq_true c3
          clear c3 c4
          by_cases c5 : rd l x = r
          · rw [if_pos c5] at H
            obtain ⟨e2, he, H⟩ := Option.bind_eq_some_iff.mp H
            have AE := Aside0.mk he
            have H' := Aside0.mk H
            clear he H
            have c5b : (rd l x == r) = true := beq_iff_eq.mpr c5
            have c6b : decide (rd l x ≤ r) = true := decide_eq_true (Int.le_of_eq c5)
            clear c5
            go_wp2_with (go_at_call 44; refine Calls.mono (put_calls k1 e1 e2 r a w0.heap.size b _ HE.out HB.out.size AE.out) ?_; rintro e w2 ⟨rfl, hE2, hB2, hK2⟩; have n0_ := Aside0.mk hE2; have n1_ := Aside0.mk (Below.trans HB.out hB2); have n2_ := Aside0.mk (Lib.OthersKept.trans HK.out hK2); clear HE HB HK hE2 hB2 hK2; have HE := n0_; have HB := n1_; have HK := n2_; clear n0_ n1_ n2_)
            go_roundg k1
            case measure => have := HK1.out; omega
            case rel => exact ⟨wrap64 (a + 1), wrap64 (x + 1), e2, (by first | rfl | (simp; done) | (simp [*]; done)), (by first | rfl | (simp; done) | (simp [*]; done)), H', ⟨by have := HK1.out; omega⟩, HE, HB, HK⟩
          · rw [if_neg c5] at H
            have c5b : (rd l x == r) = false := beq_eq_false_iff_ne.mpr c5
            clear c5
            by_cases c6 : rd l x ≤ r
            · rw [if_pos c6] at H
              have H' := Aside0.mk H
              have c6b : decide (rd l x ≤ r) = true := decide_eq_true c6
              clear H c6
              go_wp2
              go_roundg k1
              case measure => have := HK1.out; omega
              case rel => exact ⟨wrap64 (a + 1), wrap64 (x + 1), e1, (by first | rfl | (simp; done) | (simp [*]; done)), (by first | rfl | (simp; done) | (simp [*]; done)), H', ⟨by have := HK1.out; omega⟩, HE, HB, HK⟩
            · rw [if_neg c6] at H
              have H' := Aside0.mk H
              have c6b : decide (rd l x ≤ r) = false := decide_eq_false c6
              clear H c6
              go_wp2
              go_roundg k1
              case measure => have := HK1.out; omega
              case rel => exact ⟨a, wrap64 (x + 1), e1, (by first | rfl | (simp; done) | (simp [*]; done)), (by first | rfl | (simp; done) | (simp [*]; done)), H', ⟨by have := HK1.out; omega⟩, HE, HB, HK⟩
        · rw [if_neg c4] at H
          exact absurd H (by simp)
      · rw [if_neg c3] at H
        have c3b0 : decide (x < (l.length : Int)) = false := decide_eq_false c3
        obtain rfl := Option.some.inj H
        go_wp2
        go_end0
        exact ⟨rfl, HE.out, HB.out, HK.out⟩
end Go.Proofs.YtenkmjccfpfkbaaDoor.Pe
set_option linter.unusedVariables false
namespace Go.Proofs.YtenkmjccfpfkbaaDoor.Pd
open Go.RowKit Go.Proofs.YtenkmjccfpfkbaaDoorW.PrintWords Go.Proofs.YtenkmjccfpfkbaaDoorW.PrintLast Go.Proofs.YtenkmjccfpfkbaaDoorW.PrintMore Go.Proofs.YtenkmjccfpfkbaaDoor.Er
open Go.Proofs.YtenkmjccfpfkbaaDoor.V Go.Proofs.YtenkmjccfpfkbaaDoor.Bl Go.Proofs.YtenkmjccfpfkbaaDoor.Pu Go.Proofs.YtenkmjccfpfkbaaDoor.Pe

abbrev dcells (now : Int) (sm : Bool) (s : ByteArray) (at_ n i : Int) (v : Value) : Array Value := #[.int .i64 now, .bool sm, .string s, .int .i64 at_, .int .i64 n, .int .i64 i, v]
def numL (s : ByteArray) (now : Int) (sm : Bool) : Nat → Int → Int → Int → Int → Option (Int × Option Int × Int)
  | 0, _, _, _, _ => none
  | k + 1, n, u, j, at_ => if at_ = (s.size : Int) then ((puny_fault.f at_ 2).bind fun e => some (0, e, at_)) else (if 0 ≤ at_ then (if at_ < (s.size : Int) then ((puny_value.f k (bt s at_)).bind fun v => if v < 0 then ((puny_fault.f at_ 15).bind fun e => some (0, e, at_)) else (if wrap64 (n + wrap64 (v * u)) > 2147483647 then ((puny_fault.f at_ 3).bind fun e => some (0, e, at_)) else ((puny_bias_bound.f now sm j).bind fun t => if v < t.1 then some (wrap64 (n + wrap64 (v * u)), none, wrap64 (at_ + 1)) else numL s now sm k (wrap64 (n + wrap64 (v * u))) (wrap64 (u * wrap64 (36 - t.1))) (wrap64 (j + 1)) (wrap64 (at_ + 1))))) else none) else none)
def numF (k : Nat) (s : ByteArray) (now : Int) (sm : Bool) (at_ : Int) : Option (Int × Option Int × Int) := numL s now sm k 0 1 0 at_

theorem grown_drewN {a w : World} {row : Option Nat} (h : a.grownBy w row) (n : Nat) : a.grownBy (w.drewN n) row := ⟨h.os, h.tape, h.output, h.size, h.block⟩
theorem grown_drew {a w : World} {row : Option Nat} (h : a.grownBy w row) : a.grownBy w.drew row := ⟨h.os, h.tape, h.output, h.size, h.block⟩
theorem grown_refl (w : World) (row : Option Nat) : w.grownBy w row := ⟨rfl, rfl, rfl, Nat.le_refl _, fun _ _ _ => rfl⟩
theorem quiet_drawn {P : Program} {f : FuncId} {args : Array Value} {w : World} {n : Nat} {v : Value} (h : Calls P f args (w.drewN n) fun e w' => e = .returned v ∧ Drawn0 (w.drewN n) w') : Calls P f args (w.drewN n) fun e w'' => e = .returned v ∧ ∃ m, w'' = w.drewN m :=
  h.mono fun _ _ ⟨he, hd⟩ => by
    obtain ⟨m, rfl⟩ := hd
    exact ⟨he, n + m, by rw [World.drewN_drewN]⟩
theorem bound_same {now : Int} {sm : Bool} {j : Int} {t : Int × Int × Bool} (h : puny_bias_bound.f now sm j = some t) : t = (t.1, now, sm) := by
  unfold puny_bias_bound.f at h
  obtain ⟨x, _, h⟩ := Option.bind_eq_some_iff.mp h
  have := Option.some.inj h
  rw [← this]

set_option maxHeartbeats 8000000 in
set_option maxRecDepth 100000 in
theorem number_calls (sv : Nat → Addr) (k : Nat) (w0 w : World) (b : Nat) (now : Int) (sm : Bool) (s : ByteArray) (at0 n i : Int) (v : Value) (num : Int) (err : Option Int) (at' : Int) (hsv : Laid sv w0) (hB : Below w0.heap.size w0 w) (hge : w0.heap.size ≤ b)
    (hb : w.heap[b]? = some (.cells (dcells now sm s at0 n i v) 69 (0, 0))) (hf : numF k s now sm at0 = some (num, err, at')) :
    Calls Tryd.prog 52 #[.pointer (some ⟨b, 0, none⟩)] w fun e w' => e = .returned (.tuple #[.int .i64 num, errV w' err]) ∧ ErrAt sv w' err ∧ w'.heap[b]? = some (.cells (dcells now sm s at' n i v) 69 (0, 0)) ∧ w.grownBy w' (some b) := by
  have HSV := Aside0.mk hsv
  have HB := Aside0.mk hB
  have HG := Aside0.mk (grown_refl w (some b))
  have HD := Aside0.mk hb
  have H' := Aside0.mk (show numL s now sm k 0 1 0 at0 = some (num, err, at') from hf)
  clear hsv hB hb hf
  go_enter Tryd.func52, Tryd.ntmps52
  go_wp2
  go_loopg [4, 5, 6] k (fun kq v4 v5 v6 w' => ∃ (x4 x5 x6 at_ : Int), v4 = .int .i64 x4 ∧ v5 = .int .i64 x5 ∧ v6 = .int .i64 x6 ∧ Aside0 (numL s now sm kq x4 x5 x6 at_ = some (num, err, at')) ∧ Aside0 (kq ≤ k) ∧ Aside0 (w'.heap[b]? = some (.cells (dcells now sm s at_ n i v) 69 (0, 0))) ∧ Aside0 (w.grownBy w' (some b)))
  case atStart => exact ⟨0, 1, 0, at0, rfl, rfl, rfl, H', ⟨Nat.le_refl _⟩, HD, HG⟩
  case round =>
    clear H' HD HG
    obtain ⟨x4, x5, x6, at_, rfl, rfl, rfl, HA, HK1, HD, HG⟩ := hrel
    cases gk with
    | zero => exact absurd HA.out (by simp [numL])
    | succ k1 =>
      have H := HA.out
      clear HA
      simp only [numL] at H
      have HBr := Aside0.mk (HB.out.trans (below_of_grown HG.out hge HB.out.size))
      have hc2 : wr.cell? ⟨b, 2, none⟩ = some (.string s) := (blk_cell HD.out 2).trans rfl
      have hc3 : wr.cell? ⟨b, 3, none⟩ = some (.int .i64 at_) := (blk_cell HD.out 3).trans rfl
      by_cases c1 : at_ = (s.size : Int)
      · rw [if_pos c1] at H
        obtain ⟨e0, he, H⟩ := Option.bind_eq_some_iff.mp H
        have AF := Aside0.mk he
        obtain ⟨rfl, rfl, rfl⟩ : 0 = num ∧ e0 = err ∧ at_ = at' := by simpa using H
        have c1b : (at_ == (s.size : Int)) = true := beq_iff_eq.mpr c1
        clear he H c1
        go_wp2
        go_quiet (fail)
        go_wp2
        have n0_ := Aside0.mk (show (wr.drewN nq).heap[b]? = some (.cells (dcells now sm s at_ n i v) 69 (0, 0)) from HD.out)
        have n1_ := Aside0.mk (grown_drewN HG.out nq)
        have HBq := Aside0.mk (Below.trans HB.out (below_of_grown n1_.out hge HB.out.size))
        clear HD HG HBr hc2 hc3
        have HD := n0_
        have HG := n1_
        clear n0_ n1_
        generalize wr.drewN nq = wq at *
        have hd2 : wq.cell? ⟨b, 2, none⟩ = some (.string s) := (blk_cell HD.out 2).trans rfl
        have hd3 : wq.cell? ⟨b, 3, none⟩ = some (.int .i64 at_) := (blk_cell HD.out 3).trans rfl
        have hs1 : wq.cell? ⟨4, 0, none⟩ = some (senW sv 2) := (Laid.below HSV.out HBq.out).at2
        go_region_held3 (fun w' => w'.cell? ⟨b, 3, none⟩ = some (.int .i64 at_) ∧ w'.cell? ⟨4, 0, none⟩ = some (senW sv 2)) (first | exact ⟨hd3, hs1⟩ | exact ⟨(blk_cell hbk9 3).trans rfl, (Laid.below HSV.out hB9).at2⟩) ((first
          | (go_at_call 21; refine Calls.mono (puny_fault.calls sv at_ 2 e0 _ (Laid.below HSV.out (Below.drew HBq.out)) AF.out) ?_; rintro e w9 ⟨rfl, hE9, hb9⟩; have hbk9 := blk_below (blk_drew HD.out) hb9; have hg9 := grown_trans (grown_drew HG.out) (grown_below hb9 (some b)); have hB9 := (Below.drew HBq.out).trans (hb9.mono (Below.drew HBq.out).size))))
        go_wp2
        go_ret2
        exact ⟨rfl, hE9, hbk9, hg9⟩
      · rw [if_neg c1] at H
        have c1b : (at_ == (s.size : Int)) = false := beq_eq_false_iff_ne.mpr c1
        by_cases c2 : 0 ≤ at_
        case neg => rw [if_neg c2] at H; exact absurd H (by simp)
        rw [if_pos c2] at H
        by_cases c3 : at_ < (s.size : Int)
        case neg => rw [if_neg c3] at H; exact absurd H (by simp)
        rw [if_pos c3] at H
        obtain ⟨val, hval, H⟩ := Option.bind_eq_some_iff.mp H
        have AV := Aside0.mk hval
        clear hval
        have p1 := eq_true c2
        have p2 := eq_true c3
        have hx1 := bt_at s at_
        have hsz : at_.toNat < s.size := by omega
        clear c1 c2 c3
        go_wp2
        go_quiet (fail)
        go_wp2
        have n0_ := Aside0.mk (show (wr.drewN nq).heap[b]? = some (.cells (dcells now sm s at_ n i v) 69 (0, 0)) from HD.out)
        have n1_ := Aside0.mk (grown_drewN HG.out nq)
        have HBq := Aside0.mk (Below.trans HB.out (below_of_grown n1_.out hge HB.out.size))
        clear HD HG HBr hc2 hc3
        have HD := n0_
        have HG := n1_
        clear n0_ n1_
        generalize wr.drewN nq = wq at *
        have hd2 : wq.cell? ⟨b, 2, none⟩ = some (.string s) := (blk_cell HD.out 2).trans rfl
        have hd3 : wq.cell? ⟨b, 3, none⟩ = some (.int .i64 at_) := (blk_cell HD.out 3).trans rfl
        clear HBq
        go_quiet ((go_at_call 72; exact quiet_drawn (puny_value.calls k1 (bt s at_) val _ AV.out)))
        have n0_ := Aside0.mk (show (wq.drewN nq).heap[b]? = some (.cells (dcells now sm s at_ n i v) 69 (0, 0)) from HD.out)
        have n1_ := Aside0.mk (grown_drewN HG.out nq)
        have HBq := Aside0.mk (Below.trans HB.out (below_of_grown n1_.out hge HB.out.size))
        clear HD HG hd2 hd3
        have HD := n0_
        have HG := n1_
        clear n0_ n1_
        generalize wq.drewN nq = wp at *
        have hd2 : wp.cell? ⟨b, 2, none⟩ = some (.string s) := (blk_cell HD.out 2).trans rfl
        have hd3 : wp.cell? ⟨b, 3, none⟩ = some (.int .i64 at_) := (blk_cell HD.out 3).trans rfl
        clear hx1 hsz p1 p2 AV
        by_cases c4 : val < 0
        · rw [if_pos c4] at H
          obtain ⟨e0, he, H⟩ := Option.bind_eq_some_iff.mp H
          have AF := Aside0.mk he
          obtain ⟨rfl, rfl, rfl⟩ : 0 = num ∧ e0 = err ∧ at_ = at' := by simpa using H
          have c4b : decide (val < 0) = true := decide_eq_true c4
          clear he H c4
          go_wp2
          have hs1 : wp.cell? ⟨15, 0, none⟩ = some (senW sv 15) := (Laid.below HSV.out HBq.out).at15
          go_region_held3 (fun w' => w'.cell? ⟨b, 3, none⟩ = some (.int .i64 at_) ∧ w'.cell? ⟨15, 0, none⟩ = some (senW sv 15)) (first | exact ⟨hd3, hs1⟩ | exact ⟨(blk_cell hbk9 3).trans rfl, (Laid.below HSV.out hB9).at15⟩) ((first
            | (go_at_call 21; refine Calls.mono (puny_fault.calls sv at_ 15 e0 _ (Laid.below HSV.out (Below.drew HBq.out)) AF.out) ?_; rintro e w9 ⟨rfl, hE9, hb9⟩; have hbk9 := blk_below (blk_drew HD.out) hb9; have hg9 := grown_trans (grown_drew HG.out) (grown_below hb9 (some b)); have hB9 := (Below.drew HBq.out).trans (hb9.mono (Below.drew HBq.out).size))))
          go_wp2
          go_ret2
          exact ⟨rfl, hE9, hbk9, hg9⟩
        · rw [if_neg c4] at H
          have c4b : decide (val < 0) = false := decide_eq_false c4
          clear c4
          by_cases c5 : wrap64 (x4 + wrap64 (val * x5)) > 2147483647
          · rw [if_pos c5] at H
            obtain ⟨e0, he, H⟩ := Option.bind_eq_some_iff.mp H
            have AF := Aside0.mk he
            obtain ⟨rfl, rfl, rfl⟩ : 0 = num ∧ e0 = err ∧ at_ = at' := by simpa using H
            have c5b : decide (2147483647 < wrap64 (x4 + wrap64 (val * x5))) = true := decide_eq_true c5
            clear he H c5
            go_wp2
            have hs1 : wp.cell? ⟨1, 0, none⟩ = some (senW sv 3) := (Laid.below HSV.out HBq.out).at3
            go_region_held3 (fun w' => w'.cell? ⟨b, 3, none⟩ = some (.int .i64 at_) ∧ w'.cell? ⟨1, 0, none⟩ = some (senW sv 3)) (first | exact ⟨hd3, hs1⟩ | exact ⟨(blk_cell hbk9 3).trans rfl, (Laid.below HSV.out hB9).at3⟩) ((first
              | (go_at_call 21; refine Calls.mono (puny_fault.calls sv at_ 3 e0 _ (Laid.below HSV.out (Below.drew HBq.out)) AF.out) ?_; rintro e w9 ⟨rfl, hE9, hb9⟩; have hbk9 := blk_below (blk_drew HD.out) hb9; have hg9 := grown_trans (grown_drew HG.out) (grown_below hb9 (some b)); have hB9 := (Below.drew HBq.out).trans (hb9.mono (Below.drew HBq.out).size))))
            go_wp2
            go_ret2
            exact ⟨rfl, hE9, hbk9, hg9⟩
          · rw [if_neg c5] at H
            have c5b : decide (2147483647 < wrap64 (x4 + wrap64 (val * x5))) = false := decide_eq_false c5
            clear c5
            obtain ⟨t, ht, H⟩ := Option.bind_eq_some_iff.mp H
            rw [bound_same ht] at ht
            obtain ⟨t, t2, t3⟩ := t
            have AT := Aside0.mk ht
            replace H : (if val < t then some (wrap64 (x4 + wrap64 (val * x5)), none, wrap64 (at_ + 1)) else numL s now sm k1 (wrap64 (x4 + wrap64 (val * x5))) (wrap64 (x5 * wrap64 (36 - t))) (wrap64 (x6 + 1)) (wrap64 (at_ + 1))) = some (num, err, at') := H
            clear ht
            have hd3f : wp.frozen? ⟨b, 3, none⟩ = false := blk_frozen HD.out 3
            have hbk1 : (wp.setCell ⟨b, 3, none⟩ (.int .i64 (wrap64 (at_ + 1)))).heap[b]? = some (.cells (dcells now sm s (wrap64 (at_ + 1)) n i v) 69 (0, 0)) := blk_put HD.out 3 _ rfl
            have hg1 := grown_trans HG.out (grown_of_set (w := wp) (g := b) (i := 3) (.int .i64 (wrap64 (at_ + 1))))
            by_cases c6 : val < t
            · rw [if_pos c6] at H
              have c6b : decide (val < t) = true := decide_eq_true c6
              obtain ⟨rfl, rfl, rfl⟩ : wrap64 (x4 + wrap64 (val * x5)) = num ∧ none = err ∧ wrap64 (at_ + 1) = at' := by simpa using H
              clear H c6
              go_wp2_with (go_at_call 55; refine Calls.mono (bound_at (T := 69) (cs := dcells now sm s (wrap64 (at_ + 1)) n i v) (by decide) b now sm x6 t _ hbk1 rfl rfl AT.out) ?_; rintro e w9 ⟨rfl, hb9⟩)
              go_ret2
              exact ⟨rfl, trivial, blk_below hbk1 hb9, grown_trans hg1 (grown_below hb9 _)⟩
            · rw [if_neg c6] at H
              have c6b : decide (val < t) = false := decide_eq_false c6
              have H' := Aside0.mk H
              clear H c6
              go_wp2_with (go_at_call 55; refine Calls.mono (bound_at (T := 69) (cs := dcells now sm s (wrap64 (at_ + 1)) n i v) (by decide) b now sm x6 t _ hbk1 rfl rfl AT.out) ?_; rintro e w9 ⟨rfl, hb9⟩)
              go_roundg k1
              case measure => have := HK1.out; omega
              case rel => exact ⟨wrap64 (x4 + wrap64 (val * x5)), wrap64 (x5 * wrap64 (36 - t)), wrap64 (x6 + 1), wrap64 (at_ + 1), (by first | rfl | (simp; done) | (simp [*]; done)), (by first | rfl | (simp; done) | (simp [*]; done)), (by first | rfl | (simp; done) | (simp [*]; done)), H', ⟨by have := HK1.out; omega⟩, ⟨blk_below hbk1 hb9⟩, ⟨grown_trans hg1 (grown_below hb9 _)⟩⟩
end Go.Proofs.YtenkmjccfpfkbaaDoor.Pd
set_option linter.unusedVariables false
namespace Go.Proofs.YtenkmjccfpfkbaaDoor.Pe
open Go.RowKit Go.Proofs.YtenkmjccfpfkbaaDoorW.PrintWords Go.Proofs.YtenkmjccfpfkbaaDoorW.PrintLast Go.Proofs.YtenkmjccfpfkbaaDoorW.PrintMore Go.Proofs.YtenkmjccfpfkbaaDoor.Er
open Go.Proofs.YtenkmjccfpfkbaaDoor.V Go.Proofs.YtenkmjccfpfkbaaDoor.Bl Go.Proofs.YtenkmjccfpfkbaaDoor.Pu

theorem R_others {w w' : World} {B b : Nat} {ok : Nat → Prop} {v : Value} {xs : List Int} {cs : Array Value} {fz : Nat × Nat} (h : Kd.R (Kd.int .i32) 21 w B ok v xs) (hk : Lib.OthersKept 5 (some b) w w') (hb : w.heap[b]? = some (.cells cs 52 fz)) : Kd.R (Kd.int .i32) 21 w' B ok v xs := by
  refine Kd.R_mono (Kd.R_move (Kd.R_bound h) (fun k hk1 => ?_)) (fun _ hk => hk.1)
  obtain ⟨_, _, _, q, hq, cells, hc⟩ := hk1
  have hq' : q = 21 := by
    have h2 : (Kd.int .i32).E = [] := rfl
    rw [h2] at hq
    simpa using hq
  subst hq'
  refine (hk k _ hc ?_ ?_).trans hc.symm
  · rintro e
    cases e
    rw [hb] at hc
    injection hc with hc
    injection hc with _ h2 _
    exact absurd h2 (by decide)
  · intro c fz e
    injection e with _ h2 _
    exact absurd h2 (by decide)

set_option maxHeartbeats 8000000 in
set_option maxRecDepth 100000 in
theorem pdq_part (k : Nat) (l r : List Int) (n : Int) (P : Nat → Prop) (u : Value) (w0 w : World) (hB : Below w0.heap.size w0 w) (ho : Kd.R (Kd.int .i32) 21 w w0.heap.size P u l) (c1 : l.length ≤ 12) (h : slices_insertionSortOrdered_rune.f k l 0 (l.length : Int) = some r) :
    Calls Tryd.prog 42 #[u, .int .i64 0, .int .i64 (l.length : Int), .int .i64 n] w fun e w' => e = .returned (.tuple #[]) ∧ Kd.R (Kd.int .i32) 21 w' w0.heap.size (fun k_ => (P k_ ∨ w.heap.size ≤ k_)) u r ∧ Below w0.heap.size w0 w' ∧ Kept w w' (fun k_ => P k_) := by
  have HO := Aside0.mk ho
  have HB := Aside0.mk hB
  have AS := Aside0.mk h
  obtain ⟨m, hm⟩ : ∃ m : Int, m = (l.length : Int) := ⟨_, rfl⟩
  rw [← hm] at AS ⊢
  have hw : wrap64 (m - 0) = m := by unfold wrap64; omega
  have c1b : decide (m ≤ 12) = true := decide_eq_true (by omega)
  have c1d : decide (wrap64 (m - 0) ≤ 12) = true := by rw [hw]; exact c1b
  have c1e : decide (wrap64 m ≤ 12) = true := by rw [Int.sub_zero] at hw; rw [hw]; exact c1b
  clear ho hB h c1 hm
  go_enter Tryd.func42, Tryd.ntmps42
  go_wp2
  go_loopg [1, 2] 1 (fun kq v1 v2 w' => v1 = .int .i64 0 ∧ v2 = .int .i64 m ∧ w' = w)
  case atStart => exact ⟨rfl, rfl, rfl⟩
  case round =>
    obtain ⟨rfl, rfl, rfl⟩ := hrel
    go_wp2_with (go_at_call 58; (with_reducible refine Calls.mono (slices_insertionSortOrdered_rune.calls k P u l 0 m r w0 _ HB.out HO.out AS.out) ?_); rintro e w2 ⟨rfl, ho2, hb2, hk2⟩)
    refine bodyPost_ret (results_none rfl _ _ _) rfl ?_
    exact ⟨rfl, ho2, hb2, hk2⟩
/-- Sort, of few. -/
def sortF (k : Nat) (l : List Int) : Option (List Int) := if l.length ≤ 12 then ((bits_Len.f k (l.length : Int)).bind fun _ => slices_insertionSortOrdered_rune.f k l 0 (l.length : Int)) else none
set_option maxHeartbeats 8000000 in
set_option maxRecDepth 100000 in
theorem Sort_part (k : Nat) (l r : List Int) (P : Nat → Prop) (u : Value) (w0 w : World) (hB : Below w0.heap.size w0 w) (ho : Kd.R (Kd.int .i32) 21 w w0.heap.size P u l) (h : sortF k l = some r) :
    Calls Tryd.prog 23 #[u] w fun e w' => e = .returned (.tuple #[]) ∧ Kd.R (Kd.int .i32) 21 w' w0.heap.size (fun k_ => (P k_ ∨ w.heap.size ≤ k_)) u r ∧ Below w0.heap.size w0 w' ∧ Kept w w' (fun k_ => P k_) := by
  unfold sortF at h
  by_cases c1 : l.length ≤ 12
  case neg => rw [if_neg c1] at h; exact absurd h (by simp)
  rw [if_pos c1] at h
  obtain ⟨n, hn, h⟩ := Option.bind_eq_some_iff.mp h
  obtain ⟨Ao, co, eo⟩ := Kd.R_slice ho
  subst eo
  have HO := Aside0.mk ho
  have HB := Aside0.mk hB
  have AN := Aside0.mk hn
  have AS := Aside0.mk h
  have AC := Aside0.mk c1
  have hm : (l.length : Int) % 18446744073709551616 = (l.length : Int) := by omega
  clear ho hB hn h c1
  go_enter Tryd.func23, Tryd.ntmps23
  go_wp2_with (first
    | (go_at_call 43; (with_reducible refine Calls.mono (bits_Len.calls k (l.length : Int) n _ AN.out) ?_); rintro e w2 ⟨rfl, ⟨nd, rfl⟩⟩)
    | (go_at_call 42; (with_reducible refine Calls.mono (pdq_part k l r n P _ w0 _ (by first | exact HB.out | exact pw_below_drewN HB.out _) (by first | exact HO.out | exact Kd.R_drewN HO.out _) AC.out AS.out) ?_); rintro e w3 ⟨rfl, ho2, hb2, hk2⟩))
  go_end0
  exact ⟨rfl, ho2, hb2, hk2⟩

/-- Compact, of one at most. -/
def compF (l : List Int) : Option (List Int) := if l.length < 2 then some l else none
set_option maxRecDepth 100000 in
theorem Compact_part (l r : List Int) (B : Nat) (P : Nat → Prop) (u : Value) (w : World) (ho : Kd.R (Kd.int .i32) 21 w B P u l) (h : compF l = some r) :
    Calls Tryd.prog 24 #[u] w fun e w' => e = .returned u ∧ r = l ∧ w' = w := by
  unfold compF at h
  by_cases c1 : l.length < 2
  case neg => rw [if_neg c1] at h; exact absurd h (by simp)
  rw [if_pos c1] at h
  obtain rfl := Option.some.inj h
  obtain ⟨Ao, co, eo⟩ := Kd.R_slice ho
  subst eo
  have c1b : decide ((l.length : Int) < 2) = true := decide_eq_true (by omega)
  have c1c : decide (l.length < 2) = true := decide_eq_true c1
  clear ho h
  go_enter Tryd.func24, Tryd.ntmps24
  go_wp2
  go_ret
  exact ⟨rfl, by trivial, by trivial⟩
end Go.Proofs.YtenkmjccfpfkbaaDoor.Pe
set_option linter.unusedVariables false
namespace Go.Proofs.YtenkmjccfpfkbaaDoor.Pe
open Go.RowKit Go.Proofs.YtenkmjccfpfkbaaDoorW.PrintWords Go.Proofs.YtenkmjccfpfkbaaDoorW.PrintLast Go.Proofs.YtenkmjccfpfkbaaDoorW.PrintMore Go.Proofs.YtenkmjccfpfkbaaDoor.Er
open Go.Proofs.YtenkmjccfpfkbaaDoor.V Go.Proofs.YtenkmjccfpfkbaaDoor.Bl Go.Proofs.YtenkmjccfpfkbaaDoor.Pu Go.Proofs.YtenkmjccfpfkbaaDoor.Pd

abbrev Er2 := ByteArray × Option Int
def encL2 (l r3 : List Int) : Nat → St → Int → Option Er2
  | 0, _, _ => none
  | k + 1, e, x => if x < (r3.length : Int) then (if 0 ≤ x then ((allF k e l (rd r3 x)).bind fun e' => encL2 l r3 k e' (wrap64 (x + 1))) else none) else (if (e.out.length : Int) > 120 then ((puny_fault.f 0 3).bind fun y => some (⟨#[]⟩, y)) else some (⟨e.out.toArray⟩, none))
def encM (l : List Int) (k : Nat) (e : St) (rest : List Int) : Option Er2 := (if e.many > 0 then (if e.out.length + 1 ≤ 140737488355328 then some { e with out := e.out ++ [45] } else none) else some e).bind fun e1 => (sortF k rest).bind fun r2 => (compF r2).bind fun r3 => encL2 l r3 k e1 0
def encL1 (l : List Int) : Nat → St → List Int → Int → Option Er2
  | 0, _, _, _ => none
  | k + 1, e, rest, x => if x < (l.length : Int) then (if 0 ≤ x then (if rd l x < 128 then (if e.out.length + 1 ≤ 140737488355328 then encL1 l k { e with out := e.out ++ [(rd l x % 256).toNat.toUInt8], many := wrap64 (e.many + 1) } rest (wrap64 (x + 1)) else none) else (if rest.length < 35184372088832 then encL1 l k e (rest ++ [rd l x]) (wrap64 (x + 1)) else none)) else none) else encM l k e rest
def encL0 (l : List Int) : Nat → Int → Option Er2
  | 0, _ => none
  | k + 1, x => if x < (l.length : Int) then (if 0 ≤ x then ((utf_Right.f (rd l x)).bind fun b => if b = true then encL0 l k (wrap64 (x + 1)) else ((puny_fault.f x 4).bind fun y => some (⟨#[]⟩, y))) else none) else (if (l.length : Int) > 120 then ((puny_fault.f 0 3).bind fun y => some (⟨#[]⟩, y)) else encL1 l k ⟨72, false, 128, 0, 0, []⟩ [] 0)
def encF (k : Nat) (l : List Int) : Option Er2 := encL0 l k 0

/-- What is left of a builder where rows of runes alone changed. -/
theorem BAt_others {T : TypeId} {B b o : Nat} {cs : Array Value} {bs : List Value} {w w' : World} (h : BAt T B b o cs bs w) (hk : Lib.OthersKept 21 none w w') (hT : T ≠ 21) : BAt T B b o cs bs w' := by
  obtain ⟨v, hv, hown, hne, hn⟩ := h.buf
  refine ⟨h.le, hk b _ h.blk (by simp) (fun c fz e => by injection e with _ h2 _; exact hT h2), h.ad, v, hv, ?_, hne, hn⟩
  refine ⟨hown.1, ?_⟩
  rcases hown.2 with hn | ⟨g, cap, cur, fz, rfl, hbg, hgg, rest⟩
  · exact .inl hn
  · exact .inr ⟨g, cap, cur, fz, rfl, hbg, hk g _ hgg (by simp) (fun c fz e => by injection e with _ h2 _; exact absurd h2 (by decide)), rest⟩
/-- a row of runes that changed: all others stand. -/
theorem others_row {w w' : World} {B : Nat} {ok : Nat → Prop} {v : Value} {xs : List Int} (h : Kd.R (Kd.int .i32) 21 w B ok v xs) (hg : w.grownBy w' v.ownBlock) : Lib.OthersKept 21 none w w' := by
  intro k o ho _ hne
  obtain ⟨_, inner, how, _⟩ := h
  refine (hg.block k (blk_lt ho) (fun e => ?_)).trans ho
  obtain ⟨cells, hc⟩ := own_typed how k e.symm
  rw [ho] at hc
  exact hne cells (0, 0) (Option.some.inj hc)
theorem others_kept {w w' : World} {B : Nat} {ok : Nat → Prop} {v : Value} {xs : List Int} (h : Kd.R (Kd.int .i32) 21 w B ok v xs) (hg : Kept w w' (fun k => some k = v.ownBlock)) : Lib.OthersKept 21 none w w' := by
  intro k o ho _ hne
  obtain ⟨_, inner, how, _⟩ := h
  refine (hg.2 k (blk_lt ho) (fun e => ?_)).trans ho
  obtain ⟨cells, hc⟩ := own_typed how k e.symm
  rw [ho] at hc
  exact hne cells (0, 0) (Option.some.inj hc)
/-- the row's own block alone is what it may change. -/
theorem R_own_ok {w : World} {B : Nat} {ok : Nat → Prop} {v : Value} {xs : List Int} (h : Kd.R (Kd.int .i32) 21 w B ok v xs) : Kd.R (Kd.int .i32) 21 w B (fun k => some k = v.ownBlock) v xs := by
  obtain ⟨_, inner, how, hr⟩ := h
  refine ⟨fun k hk => hk.symm, inner, how, ?_⟩
  exact hr.imp_ (fun _ _ hp => hp)

theorem EAt_others {B b : Nat} {e : St} {w w' : World} (h : EAt B b e w) (hk : Lib.OthersKept 21 none w w') : EAt B b e w' := by
  obtain ⟨ad, buf, hA⟩ := h
  exact ⟨ad, buf, BAt_others hA hk (by decide)⟩
theorem bdN (w : World) (n : Nat) : Below w.heap.size w (w.drewN n) := ⟨rfl, rfl, rfl, Nat.le_refl _, fun _ _ => rfl⟩
theorem wrote_byte {B b : Nat} {e : St} {ad buf v : Value} {c : Int} {w : World} (h : BAt 52 B b 2 (((e.cells ad buf).setIfInBounds 2 (.pointer (some ⟨b, 2, none⟩))).setIfInBounds (2 + 1) v) (Lib.byteCells e.out ++ [.int .u8 (c % 256)]) w) :
    BAt 52 B b 2 (St.cells { e with out := e.out ++ [(c % 256).toNat.toUInt8] } (.pointer (some ⟨b, 2, none⟩)) v) (Lib.byteCells (e.out ++ [(c % 256).toNat.toUInt8])) w := by
  have h1 : ((c % 256).toNat.toUInt8.toNat : Int) = c % 256 := by
    have h2 : (c % 256).toNat.toUInt8.toNat = (c % 256).toNat % 256 := rfl
    rw [h2]; omega
  have h3 : Lib.byteCells (e.out ++ [(c % 256).toNat.toUInt8]) = Lib.byteCells e.out ++ [.int .u8 (c % 256)] := by
    rw [Lib.byteCells_append]; unfold Lib.byteCells; simp only [List.map_cons, List.map_nil]; rw [h1]
  rw [h3]
  exact h
/-- the second loop's state, and what follows it, are told by this. -/
abbrev EC (e : St) (ad buf : Value) : Array Value := e.cells ad buf

set_option maxHeartbeats 16000000 in
set_option maxRecDepth 100000 in
theorem Encode_part (sv : Nat → Addr) (k : Nat) (A0 : Option Addr) (c0 : Nat) (l : List Int) (r1 : ByteArray) (r2 : Option Int) (w : World) (hr0 : Kd.C (Kd.int .i32) w A0 l.length l) (hc0 : l.length ≤ c0) (hsv : Laid sv w) (hf : encF k l = some (r1, r2)) :
    Calls Tryd.prog 9 #[.slice A0 l.length c0] w fun e w' => e = .returned (.tuple #[.string r1, errV w' r2]) ∧ ErrAt sv w' r2 ∧ Below w.heap.size w w' := by
  have HSV := Aside0.mk hsv
  have HR0 := Aside0.mk hr0
  have HC0 := Aside0.mk hc0
  have H' := Aside0.mk (show encL0 l k 0 = some (r1, r2) from hf)
  clear hsv hr0 hc0 hf
  go_enter Tryd.func9, Tryd.ntmps9
  go_wp2
  go_loopg [14] k (fun kq v14 w' => ∃ (x : Int), v14 = .int .i64 x ∧ Aside0 (encL0 l kq x = some (r1, r2)) ∧ Aside0 (kq ≤ k) ∧ Drawn0 w w')
  case atStart => exact ⟨0, rfl, H', ⟨Nat.le_refl _⟩, Drawn0.refl _⟩
  case round =>
    clear H'
    obtain ⟨x, rfl, HA, HK1, ⟨m1, rfl⟩⟩ := hrel
    have HB1 := Aside0.mk (show Below w.heap.size w (w.drewN m1) from ⟨rfl, rfl, rfl, Nat.le_refl _, fun _ _ => rfl⟩)
    cases gk with
    | zero => exact absurd HA.out (by simp [encL0])
    | succ k1 =>
      have H := HA.out
      clear HA
      simp only [encL0] at H
      by_cases c3 : x < (l.length : Int)
      · rw [if_pos c3] at H
        have c3b0 : decide (x < (l.length : Int)) = true := decide_eq_true c3
        by_cases c4 : 0 ≤ x
        case neg => rw [if_neg c4] at H; exact absurd H (by simp)
        rw [if_pos c4] at H
        obtain ⟨ad, ex, hx⟩ := Kd.at_int HR0.out x c4 c3
        cases ex
        have p := eq_true c4
        have q := eq_true c3
        clear c3 c4
        obtain ⟨b, hb, H⟩ := Option.bind_eq_some_iff.mp H
        have AR := Aside0.mk hb
        clear hb
        cases b with
        | true =>
          rw [if_pos rfl] at H
          have H' := Aside0.mk H
          clear H
          go_wp2_with (go_at_call 20; (with_reducible refine Calls.mono (utf_Right.calls (rd l x) true _ AR.out) ?_); rintro e w2 ⟨rfl, ⟨m2, rfl⟩⟩)
          go_roundg k1
          case measure => have := HK1.out; omega
          case rel => exact ⟨wrap64 (x + 1), (by first | rfl | (simp; done) | (simp [*]; done)), H', ⟨by have := HK1.out; omega⟩, by repeat (first | exact Drawn0.refl _ | apply Drawn0.step)⟩
        | false =>
          rw [if_neg (by decide)] at H
          obtain ⟨e0, he, H⟩ := Option.bind_eq_some_iff.mp H
          have AF := Aside0.mk he
          obtain ⟨rfl, rfl⟩ : (⟨#[]⟩ : ByteArray) = r1 ∧ e0 = r2 := by simpa using H
          clear he H
          have hs := HSV.out.at4
          go_wp2_with (first
            | (go_at_call 20; (with_reducible refine Calls.mono (utf_Right.calls (rd l x) false _ AR.out) ?_); rintro e w2 ⟨rfl, ⟨m2, rfl⟩⟩)
            | (go_at_call 21; (with_reducible refine Calls.mono (puny_fault.calls sv x 4 e0 _ (Laid.below HSV.out (bdN w _)) AF.out) ?_); rintro e w9 ⟨rfl, hE9, hb9⟩))
          go_ret2
          exact ⟨rfl, hE9, Below.trans (bdN w _) hb9⟩
      · rw [if_neg c3] at H
        have c3b0 : decide (x < (l.length : Int)) = false := decide_eq_false c3
        clear c3
        by_cases c5 : (l.length : Int) > 120
        · rw [if_pos c5] at H
          obtain ⟨e0, he, H⟩ := Option.bind_eq_some_iff.mp H
          have AF := Aside0.mk he
          obtain ⟨rfl, rfl⟩ : (⟨#[]⟩ : ByteArray) = r1 ∧ e0 = r2 := by simpa using H
          have c5b : decide (120 < (l.length : Int)) = true := decide_eq_true c5
          have c5c : decide (120 < l.length) = true := decide_eq_true (by omega)
          clear he H c5
          have hs := HSV.out.at3
          go_wp2_with (go_at_call 21; (with_reducible refine Calls.mono (puny_fault.calls sv 0 3 e0 _ (Laid.below HSV.out (bdN w _)) AF.out) ?_); rintro e w9 ⟨rfl, hE9, hb9⟩)
          go_ret2
          exact ⟨rfl, hE9, Below.trans (bdN w _) hb9⟩
        · rw [if_neg c5] at H
          have c5b : decide (120 < (l.length : Int)) = false := decide_eq_false c5
          have c5c : decide (120 < l.length) = false := decide_eq_false (by omega)
          have H' := Aside0.mk H
          clear H c5
          go_wp2_with ((with_reducible refine gate_dst (N := 33) rfl ?_); refine box_event ?hg (N := 33) ?hd (cs := (St.cells ⟨72, false, 128, 0, 0, []⟩ (.pointer none) (.slice none 0 0))) (t := 52) ?hr ?_; (case hd => rfl); (case hg => rfl); (case hr => first | (go_simp; done) | (go_simp; rfl)); intro gb hg w3 hbox hb3)
          subst hg
          have HB := Aside0.mk (show Below w.heap.size w w3 from Below.trans (bdN w m1) hb3)
          have HE := Aside0.mk (show EAt w.heap.size w.heap.size ⟨72, false, 128, 0, 0, []⟩ w3 from ⟨_, _, ⟨Nat.le_refl _, hbox, .inl rfl, _, rfl, ⟨by decide, .inl ⟨rfl, rfl⟩⟩, by simp [Value.ownBlock], fun _ => rfl⟩⟩)
          clear hb3 hbox
          have HGE := Aside0.mk (Nat.le_refl w.heap.size)
          go_loopg [7, 36] k1 (fun kq v7 v36 w' => ∃ (x : Int) (e1 : St) (rest : List Int), v36 = .int .i64 x ∧ Aside0 (encL1 l kq e1 rest x = some (r1, r2)) ∧ Aside0 (kq ≤ k1) ∧ Aside0 (EAt w.heap.size w.heap.size e1 w') ∧ Aside0 (Kd.R (Kd.int .i32) 21 w' w.heap.size (fun _ => True) v7 rest) ∧ Aside0 (Below w.heap.size w w'))
          case atStart => exact ⟨0, _, [], rfl, H', ⟨Nat.le_refl _⟩, HE, ⟨Kd.R_nil _ _ _ _ _⟩, HB⟩
          case round =>
            clear H' HE HB HB1
            obtain ⟨x, e1, rest, rfl, HA, HK2, HE, HO, HB⟩ := hrel
            cases gk with
            | zero => exact absurd HA.out (by simp [encL1])
            | succ k2 =>
              have H := HA.out
              clear HA
              simp only [encL1] at H
              by_cases c3 : x < (l.length : Int)
              · rw [if_pos c3] at H
                have c3b0 : decide (x < (l.length : Int)) = true := decide_eq_true c3
                by_cases c4 : 0 ≤ x
                case neg => rw [if_neg c4] at H; exact absurd H (by simp)
                rw [if_pos c4] at H
                obtain ⟨ad, ex, hx⟩ := Kd.at_int (Kd.C_below HR0.out HB.out) x c4 c3
                cases ex
                have p := eq_true c4
                have q := eq_true c3
                clear c3 c4
                by_cases c6 : rd l x < 128
                · rw [if_pos c6] at H
                  have c6b : decide (rd l x < 128) = true := decide_eq_true c6
                  by_cases c7 : e1.out.length + 1 ≤ 140737488355328
                  case neg => rw [if_neg c7] at H; exact absurd H (by simp)
                  rw [if_pos c7] at H
                  have H' := Aside0.mk H
                  have HL := Aside0.mk c7
                  clear H c6 c7
                  obtain ⟨ad1, buf1, hA⟩ := HE.out
                  have HAA := Aside0.mk hA
                  clear hA
                  go_wp2_with (go_at_call 22; (with_reducible refine Calls.mono (writeByte_calls (rd l x % 256) HAA.out (fits e1 ad1 buf1) (by rw [Lib.byteCells_length]; exact HL.out) HB.out.size) ?_); rintro e w2 ⟨rfl, ⟨v2, hA2⟩, hb2, hk2⟩; have hA3 := wrote_byte hA2; have cc6 : w2.cell? ⟨w.heap.size, 6, none⟩ = some (.int .i64 e1.many) := (blk_cell hA3.blk 6).trans rfl; have ff6 : w2.frozen? ⟨w.heap.size, 6, none⟩ = false := blk_frozen hA3.blk 6)
                  go_roundg k2
                  case measure => have := HK2.out; omega
                  case rel => exact ⟨wrap64 (x + 1), _, rest, (by first | rfl | (simp; done) | (simp [*]; done)), H', ⟨by have := HK2.out; omega⟩, ⟨⟨_, _, hA3.other (fits _ _ _) (i := 6) (by decide) (by decide) (.int .i64 (wrap64 (e1.many + 1)))⟩⟩, ⟨R_others (R_others HO.out hk2 HAA.out.blk) (others_of_grown (grown_of_set _)) hA3.blk⟩, ⟨(HB.out.trans hb2).setCell (p := ⟨w.heap.size, 6, none⟩) HGE.out _⟩⟩
                · rw [if_neg c6] at H
                  have c6b : decide (rd l x < 128) = false := decide_eq_false c6
                  by_cases c7 : rest.length < 35184372088832
                  case neg => rw [if_neg c7] at H; exact absurd H (by simp)
                  rw [if_pos c7] at H
                  have H' := Aside0.mk H
                  have HL := Aside0.mk c7
                  clear H c6 c7
                  go_wp2_with ((with_reducible refine gate_builtin (b := .append) (xs := #[.tmp 55, .tmp 57]) rfl ?_); at_builtin; refine Kd.R_append (Kd.int .i32) (w0 := w) w.heap.size rfl (.tmp 55) (.tmp 57) 22 21 (.int .i32 0) 4 rfl Tryd.underlying22 info21 rfl (by decide) (by omega) u7 rest (rd l x) [.int .i32 (rd l x)] (fun _ => True) (fun _ => False) rfl rfl ?aP (fun _ hk => hk.elim) ?aF ?aO ?aB ?aS ?aL ?_; (case aP => exact rfl); (case aB => exact (by repeat (first | (with_reducible first | exact HB.out | apply below_alloc | apply pw_below_drewN | apply below_drew1) | exact HB.out))); (case aF => exact (fun _ _ => trivial)); (case aO => exact (by (with_reducible repeat (first | apply Kd.R_alloc | apply Kd.R_drewN | apply Kd.R_drew)); exact HO.out)); (case aS => exact (below_size (by repeat (first | (with_reducible first | exact HB.out | apply below_alloc | apply pw_below_drewN | apply below_drew1) | exact HB.out)))); (case aL => have := HL.out; omega); intro v318 w15 ho hb hg hat)
                  obtain ⟨ad1, buf1, hA⟩ := HE.out
                  have hA2 := BAt_others hA (others_row HO.out hg) (by decide)
                  go_roundg k2
                  case measure => have := HK2.out; omega
                  case rel => exact ⟨wrap64 (x + 1), e1, rest ++ [rd l x], (by first | rfl | (simp; done) | (simp [*]; done)), H', ⟨by have := HK2.out; omega⟩, ⟨⟨_, _, hA2⟩⟩, ⟨ho⟩, ⟨hb⟩⟩
              · rw [if_neg c3] at H
                have c3b0 : decide (x < (l.length : Int)) = false := decide_eq_false c3
                clear c3
                obtain ⟨e2, he2, H⟩ := Option.bind_eq_some_iff.mp H
                obtain ⟨rs, hrs, H⟩ := Option.bind_eq_some_iff.mp H
                obtain ⟨rc, hrc, H⟩ := Option.bind_eq_some_iff.mp H
                have A2 := Aside0.mk he2
                have AS := Aside0.mk hrs
                have AC := Aside0.mk hrc
                have H' := Aside0.mk H
                clear he2 hrs hrc H
                obtain ⟨ad1, buf1, hA⟩ := HE.out
                have HAA := Aside0.mk hA
                have cc6 : wr.cell? ⟨w.heap.size, 6, none⟩ = some (.int .i64 e1.many) := (blk_cell hA.blk 6).trans rfl
                clear hA
                go_upto_if 64 with (fail)
                go_cut [7] (fun v7 wc => Aside0 (EAt w.heap.size w.heap.size e2 wc) ∧ Aside0 (Kd.R (Kd.int .i32) 21 wc w.heap.size (fun _ => True) v7 rest) ∧ Aside0 (Below w.heap.size w wc))
                case first =>
                  have H := A2.out
                  clear A2
                  by_cases c8 : e1.many > 0
                  · rw [if_pos c8] at H
                    have c8b : decide (0 < e1.many) = true := decide_eq_true c8
                    by_cases c7 : e1.out.length + 1 ≤ 140737488355328
                    case neg => rw [if_neg c7] at H; exact absurd H (by simp)
                    rw [if_pos c7] at H
                    obtain rfl := Option.some.inj H
                    have HL := Aside0.mk c7
                    clear H c7 c8
                    (first | rw [c8b] | skip)
                    go_wp2_with (go_at_call 22; (with_reducible refine Calls.mono (writeByte_calls 45 HAA.out (fits e1 ad1 buf1) (by rw [Lib.byteCells_length]; exact HL.out) HB.out.size) ?_); rintro e w2 ⟨rfl, ⟨v2, hA2⟩, hb2, hk2⟩)
                    go_meet
                    case rel => exact ⟨⟨⟨_, _, wrote_byte (c := 45) hA2⟩⟩, ⟨R_others HO.out hk2 HAA.out.blk⟩, ⟨HB.out.trans hb2⟩⟩
                  · rw [if_neg c8] at H
                    have c8b : decide (0 < e1.many) = false := decide_eq_false c8
                    obtain rfl := Option.some.inj H
                    clear H c8
                    (first | rw [c8b] | skip)
                    go_wp2
                    go_meet
                    case rel => exact ⟨HE, HO, HB⟩
                case rest =>
                  clear A2 HE HO HB HAA cc6
                  obtain ⟨HE, HO, HB⟩ := hcut
                  obtain ⟨Ao, co, eo⟩ := Kd.R_slice HO.out
                  subst eo
                  go_wp2_with (first
                    | (go_at_call 23; (with_reducible refine Calls.mono (Sort_part k2 rest rs (fun k_ => some k_ = (Value.slice Ao rest.length co).ownBlock) _ w _ HB.out (R_own_ok HO.out) AS.out) ?_); rintro e w2 ⟨rfl, ho2, hb2, hk2⟩; have HO2 := Aside0.mk (Kd.R_mono ho2 (ok' := fun _ => True) (fun _ _ => trivial)); have HE2 := Aside0.mk (EAt_others HE.out (others_kept HO.out hk2)); have HB2 := Aside0.mk hb2; clear ho2 hb2 hk2)
                    | (go_at_call 24; (with_reducible refine Calls.mono (Compact_part rs rc w.heap.size (fun _ => True) _ _ HO2.out AC.out) ?_); rintro e w3 ⟨rfl, hrr, rfl⟩))
                  subst hrr
                  have hlen := (Kd.R_reads' HO2.out).1
                  rw [hlen] at HO2 ⊢
                  clear HE HO HB AS AC hlen
                  go_loopg [74] k2 (fun kq v74 w' => ∃ (x : Int) (e3 : St), v74 = .int .i64 x ∧ Aside0 (encL2 l rc kq e3 x = some (r1, r2)) ∧ Aside0 (kq ≤ k2) ∧ Aside0 (EAt w.heap.size w.heap.size e3 w') ∧ Aside0 (Kd.R (Kd.int .i32) 21 w' w.heap.size (fun _ => True) (.slice Ao rc.length co) rc) ∧ Aside0 (Below w.heap.size w w'))
                  case atStart => exact ⟨0, e2, rfl, H', ⟨Nat.le_refl _⟩, HE2, HO2, HB2⟩
                  case round =>
                    clear H' HE2 HO2 HB2
                    obtain ⟨x, e3, rfl, HA, HK3, HE, HO, HB⟩ := hrel
                    cases gk with
                    | zero => exact absurd HA.out (by simp [encL2])
                    | succ k3 =>
                      have H := HA.out
                      clear HA
                      simp only [encL2] at H
                      by_cases c3 : x < (rc.length : Int)
                      · rw [if_pos c3] at H
                        have c3b0 : decide (x < (rc.length : Int)) = true := decide_eq_true (by omega)
                        by_cases c4 : 0 ≤ x
                        case neg => rw [if_neg c4] at H; exact absurd H (by simp)
                        rw [if_pos c4] at H
                        obtain ⟨ad, ex, hx⟩ := Kd.at_int (Kd.R_reads' HO.out).2.2 x c4 c3
                        cases ex
                        have p := eq_true c4
                        have q := eq_true (show x < (rc.length : Int) by omega)
                        clear c3 c4
                        obtain ⟨e4, he4, H⟩ := Option.bind_eq_some_iff.mp H
                        have AE := Aside0.mk he4
                        have H' := Aside0.mk H
                        clear he4 H
                        go_wp2_with (go_at_call 25; (with_reducible refine Calls.mono (all_calls k3 e3 e4 A0 c0 l (rd rc x) w.heap.size w _ HR0.out HC0.out HB.out HE.out AE.out) ?_); rintro e w4 ⟨rfl, hE4, hB4, hK4⟩)
                        obtain ⟨ad1, buf1, hA⟩ := HE.out
                        go_roundg k3
                        case measure => have := HK3.out; omega
                        case rel => exact ⟨wrap64 (x + 1), e4, (by first | rfl | (simp; done) | (simp [*]; done)), H', ⟨by have := HK3.out; omega⟩, ⟨hE4⟩, ⟨R_others HO.out hK4 hA.blk⟩, ⟨hB4⟩⟩
                      · rw [if_neg c3] at H
                        have c3b0 : decide (x < (rc.length : Int)) = false := decide_eq_false (by omega)
                        clear c3
                        obtain ⟨ad1, buf1, hA⟩ := HE.out
                        have HAA := Aside0.mk hA
                        clear hA
                        have hbl := Lib.byteCells_length e3.out
                        by_cases c9 : (e3.out.length : Int) > 120
                        · rw [if_pos c9] at H
                          obtain ⟨e0, he, H⟩ := Option.bind_eq_some_iff.mp H
                          have AF := Aside0.mk he
                          obtain ⟨rfl, rfl⟩ : (⟨#[]⟩ : ByteArray) = r1 ∧ e0 = r2 := by simpa using H
                          have c9b : decide (120 < ((Lib.byteCells e3.out).length : Int)) = true := decide_eq_true (by omega)
                          have c9c : decide (120 < (Lib.byteCells e3.out).length) = true := decide_eq_true (by omega)
                          have hs := (Laid.below HSV.out HB.out).at3
                          clear he H c9 hbl
                          go_wp2_with (first
                            | (go_at_call 26; (with_reducible refine Calls.mono (len_calls HAA.out (fits e3 ad1 buf1)) ?_); rintro e w5 ⟨rfl, rfl⟩)
                            | (go_at_call 21; (with_reducible refine Calls.mono (puny_fault.calls sv 0 3 e0 _ (Laid.below HSV.out HB.out) AF.out) ?_); rintro e w9 ⟨rfl, hE9, hb9⟩))
                          go_ret2
                          exact ⟨rfl, hE9, HB.out.trans (hb9.mono HB.out.size)⟩
                        · rw [if_neg c9] at H
                          obtain ⟨rfl, rfl⟩ : (⟨e3.out.toArray⟩ : ByteArray) = r1 ∧ none = r2 := by simpa using H
                          have c9b : decide (120 < ((Lib.byteCells e3.out).length : Int)) = false := decide_eq_false (by omega)
                          have c9c : decide (120 < (Lib.byteCells e3.out).length) = false := decide_eq_false (by omega)
                          clear H c9 hbl
                          go_wp2_with (first
                            | (go_at_call 26; (with_reducible refine Calls.mono (len_calls HAA.out (fits e3 ad1 buf1)) ?_); rintro e w5 ⟨rfl, rfl⟩)
                            | (go_at_call 27; (with_reducible refine Calls.mono (string_calls e3.out HAA.out (fits e3 ad1 buf1)) ?_); rintro e w9 ⟨rfl, hb9, hk9⟩))
                          go_ret2
                          exact ⟨rfl, trivial, HB.out.trans hb9⟩
end Go.Proofs.YtenkmjccfpfkbaaDoor.Pe
set_option linter.unusedVariables false
namespace Go.Proofs.YtenkmjccfpfkbaaDoor.Pd
open Go.RowKit Go.Proofs.YtenkmjccfpfkbaaDoorW.PrintWords Go.Proofs.YtenkmjccfpfkbaaDoorW.PrintLast Go.Proofs.YtenkmjccfpfkbaaDoorW.PrintMore Go.Proofs.YtenkmjccfpfkbaaDoor.Er
open Go.Proofs.YtenkmjccfpfkbaaDoor.V Go.Proofs.YtenkmjccfpfkbaaDoor.Bl Go.Proofs.YtenkmjccfpfkbaaDoor.Pu Go.Proofs.YtenkmjccfpfkbaaDoor.Pe

set_option maxHeartbeats 8000000 in
set_option maxRecDepth 100000 in
theorem next_err (sv : Nat → Addr) (k : Nat) (w0 w : World) (b : Nat) (now : Int) (sm : Bool) (s : ByteArray) (at0 n i : Int) (v : Value) (num : Int) (x : Int) (at' : Int) (hsv : Laid sv w0) (hB : Below w0.heap.size w0 w) (hge : w0.heap.size ≤ b)
    (hb : w.heap[b]? = some (.cells (dcells now sm s at0 n i v) 69 (0, 0))) (hf : numF k s now sm at0 = some (num, some x, at')) :
    Calls Tryd.prog 34 #[.pointer (some ⟨b, 0, none⟩)] w fun e w' => e = .returned (errV w' (some x)) ∧ ErrAt sv w' (some x) ∧ w.grownBy w' (some b) := by
  go_enter Tryd.func34, Tryd.ntmps34
  go_wp2_with (go_at_call 52; refine Calls.mono (number_calls sv k w0 w b now sm s at0 n i v num (some x) at' hsv hB hge hb hf) ?_; rintro e w9 ⟨rfl, hE9, hbk9, hg9⟩; rw [errV_some])
  go_ret
  exact ⟨rfl, hE9, hg9⟩

set_option maxHeartbeats 8000000 in
set_option maxRecDepth 100000 in
/-- Digits. -/
theorem Digits_calls (k : Nat) (d now d' now' : Int) (r : ByteArray) (r2 : Int) (r3 : Bool) (w : World) (h1 : puny_within.f now 0 1000 = some now') (h2 : puny_within.f d 0 2147483647 = some d') (h : puny_bias_digits.f k now' false d' = some (r, r2, r3)) :
    Calls Tryd.prog 18 #[.int .i64 d, .int .i64 now] w fun e w' => e = .returned (.string r) ∧ Below w.heap.size w w' := by
  have hf := Aside0.mk h
  clear h
  go_enter Tryd.func18, Tryd.ntmps18
  go_wp2_with (first
    | (go_at_call 37; first | ((with_reducible refine Calls.mono (puny_within.calls now 0 1000 now' _ h1) ?_); rintro e w2 ⟨rfl, hb2⟩) | ((with_reducible refine Calls.mono (puny_within.calls d 0 2147483647 d' _ h2) ?_); rintro e w3 ⟨rfl, hb3⟩)))
  have hbk := blk_below (blk_new w2 (.cells #[.int .i64 now', .bool false] 46)) hb3
  refine Calls.mono (digits_at (T := 46) (cs := #[.int .i64 now', .bool false]) (by decide) k w2.heap.size now' false d' r r2 r3 _ hbk rfl rfl hf.out) ?_
  rintro e w4 ⟨rfl, hb4⟩
  go_wp2
  go_ret
  exact ⟨rfl, (below_alloc hb2 _).trans ((hb3.mono (below_alloc hb2 _).size).trans (hb4.mono ((below_alloc hb2 _).trans (hb3.mono (below_alloc hb2 _).size)).size))⟩
end Go.Proofs.YtenkmjccfpfkbaaDoor.Pd
set_option linter.unusedVariables false
namespace Go.Proofs.YtenkmjccfpfkbaaDoor.Pd
open Go.RowKit Go.Proofs.YtenkmjccfpfkbaaDoorW.PrintWords Go.Proofs.YtenkmjccfpfkbaaDoorW.PrintLast Go.Proofs.YtenkmjccfpfkbaaDoorW.PrintMore Go.Proofs.YtenkmjccfpfkbaaDoor.Er
open Go.Proofs.YtenkmjccfpfkbaaDoor.V Go.Proofs.YtenkmjccfpfkbaaDoor.Bl Go.Proofs.YtenkmjccfpfkbaaDoor.Pu Go.Proofs.YtenkmjccfpfkbaaDoor.Pe

def decR (k : Nat) (s : ByteArray) : Option (List Int × Option Int) := (strings_LastIndexByte.f k s 45).bind fun a => if a > 0 then none else if 0 < (s.size : Int) then ((numF k s 72 false 0).bind fun y => match y.2.1 with | some e => some ([], some e) | none => none) else some ([], none)
def decL (s : ByteArray) : Nat → Int → Option (List Int × Option Int)
  | 0, _ => none
  | k + 1, x => if x < (s.size : Int) then (if 0 ≤ x then (if bt s x ≥ 128 then ((puny_fault.f x 1).bind fun e => some ([], e)) else decL s k (wrap64 (x + 1))) else none) else decR k s
def decF (k : Nat) (s : ByteArray) : Option (List Int × Option Int) := if (s.size : Int) > 120 then ((puny_fault.f 0 3).bind fun e => some ([], e)) else decL s k 0

set_option maxHeartbeats 8000000 in
set_option maxRecDepth 100000 in
theorem Decode_part (sv : Nat → Addr) (k : Nat) (s : ByteArray) (r1 : List Int) (r2 : Option Int) (w : World) (hsv : Laid sv w) (hf : decF k s = some (r1, r2)) :
    Calls Tryd.prog 12 #[.string s] w fun e w' => ∃ v, e = .returned (.tuple #[v, errV w' r2]) ∧ Kd.R (Kd.int .i32) 21 w' w.heap.size (fun _ => True) v r1 ∧ ErrAt sv w' r2 ∧ Below w.heap.size w w' := by
  have HSV := Aside0.mk hsv
  have HB := Aside0.mk (Below.refl w.heap.size w)
  by_cases c1 : (s.size : Int) > 120
  · unfold decF at hf
    rw [if_pos c1] at hf
    obtain ⟨e0, he, hf⟩ := Option.bind_eq_some_iff.mp hf
    have AF := Aside0.mk he
    obtain ⟨rfl, rfl⟩ : [] = r1 ∧ e0 = r2 := by simpa using hf
    have c1b : decide (120 < (s.size : Int)) = true := decide_eq_true c1
    have c1c : decide (120 < s.size) = true := decide_eq_true (by omega)
    have hs := hsv.at3
    clear he hf c1 hsv
    go_enter Tryd.func12, Tryd.ntmps12
    go_wp2_with (go_at_call 21; (with_reducible refine Calls.mono (puny_fault.calls sv 0 3 e0 _ HSV.out AF.out) ?_); rintro e w9 ⟨rfl, hE9, hb9⟩)
    go_ret2
    exact ⟨_, rfl, Kd.R_nil _ _ _ _ _, hE9, hb9⟩
  · unfold decF at hf
    rw [if_neg c1] at hf
    have c1b : decide (120 < (s.size : Int)) = false := decide_eq_false c1
    have c1c : decide (120 < s.size) = false := decide_eq_false (by omega)
    have H' := Aside0.mk hf
    clear hf hsv
    go_enter Tryd.func12, Tryd.ntmps12
    go_wp2
    go_loopg [4] k (fun kq v4 w' => ∃ (x : Int), v4 = .int .i64 x ∧ Aside0 (decL s kq x = some (r1, r2)) ∧ Aside0 (kq ≤ k) ∧ w' = w)
    case atStart => exact ⟨0, rfl, H', ⟨Nat.le_refl _⟩, rfl⟩
    case round =>
      clear H'
      obtain ⟨x, rfl, HA, HK1, rfl⟩ := hrel
      cases gk with
      | zero => exact absurd HA.out (by simp [decL])
      | succ k1 =>
        have H := HA.out
        clear HA
        simp only [decL] at H
        by_cases c2 : x < (s.size : Int)
        · rw [if_pos c2] at H
          by_cases c3 : 0 ≤ x
          case neg => rw [if_neg c3] at H; exact absurd H (by simp)
          rw [if_pos c3] at H
          have p2 := eq_true c3
          have q2 := eq_true c2
          have c2b : decide (x < (s.size : Int)) = true := decide_eq_true c2
          have hx := bt_at s x
          have hsz : x.toNat < s.size := by omega
          clear c2 c3
          by_cases c4 : bt s x ≥ 128
          · rw [if_pos c4] at H
            obtain ⟨e0, he, H⟩ := Option.bind_eq_some_iff.mp H
            have AF := Aside0.mk he
            obtain ⟨rfl, rfl⟩ : [] = r1 ∧ e0 = r2 := by simpa using H
            have c4b : decide (128 ≤ bt s x) = true := decide_eq_true c4
            have hs := HSV.out.at1
            clear he H c4
            go_wp2_with (go_at_call 21; (with_reducible refine Calls.mono (puny_fault.calls sv x 1 e0 _ HSV.out AF.out) ?_); rintro e w9 ⟨rfl, hE9, hb9⟩)
            go_ret2
            exact ⟨_, rfl, Kd.R_nil _ _ _ _ _, hE9, hb9⟩
          · rw [if_neg c4] at H
            have c4b : decide (128 ≤ bt s x) = false := decide_eq_false c4
            have H' := Aside0.mk H
            clear H c4
            go_wp2
            go_roundg k1
            case measure => have := HK1.out; omega
            case rel => exact ⟨wrap64 (x + 1), (by first | rfl | (simp; done) | (simp [*]; done)), H', ⟨by have := HK1.out; omega⟩, rfl⟩
        · rw [if_neg c2] at H
          have c2b : decide (x < (s.size : Int)) = false := decide_eq_false c2
          clear c2
          unfold decR at H
          obtain ⟨a, ha, H⟩ := Option.bind_eq_some_iff.mp H
          have AL := Aside0.mk ha
          clear ha
          by_cases c5 : a > 0
          · rw [if_pos c5] at H; exact absurd H (by simp)
          rw [if_neg c5] at H
          have c5b : decide (0 < a) = false := decide_eq_false c5
          have H' := Aside0.mk H
          clear H c5
          go_wp2_with (first
            | ((with_reducible refine gate_dst (N := 29) rfl ?_); refine box_event ?hg (N := 29) ?hd (cs := dcells 72 false s 0 128 0 (.slice none 0 0)) (t := 69) ?hr ?_; (case hd => rfl); (case hg => rfl); (case hr => first | (go_simp; done) | (go_simp; rfl)); intro gb hg w3 hbox hb3)
            | (go_at_call 33; (with_reducible refine Calls.mono (strings_LastIndexByte.calls k1 s 45 a _ AL.out) ?_); rintro e w4 ⟨rfl, ⟨nd, rfl⟩⟩))
          subst hg
          have HBB := Aside0.mk (show Below wr.heap.size wr (w3.drewN nd) from ⟨hb3.os, hb3.tape, hb3.output, hb3.size, hb3.block⟩)
          have HBK := Aside0.mk (show (w3.drewN nd).heap[wr.heap.size]? = some (.cells (dcells 72 false s 0 128 0 (.slice none 0 0)) 69 (0, 0)) from hbox)
          have HGE := Aside0.mk (Nat.le_refl wr.heap.size)
          clear hb3 hbox
          go_loopg [7] k1 (fun kq v7 w' => Aside0 (w'.heap[wr.heap.size]? = some (.cells (dcells 72 false s 0 128 0 (.slice none 0 0)) 69 (0, 0))) ∧ Aside0 (Below wr.heap.size wr w'))
          case atStart => exact ⟨HBK, HBB⟩
          case round =>
            clear HBK HBB
            obtain ⟨HBK, HBB⟩ := hrel
            have c7 := (blk_cell HBK.out 3).trans (show (dcells 72 false s 0 128 0 (.slice none 0 0))[3]? = some (Value.int IntKind.i64 0) from rfl)
            have c8 := (blk_cell HBK.out 6).trans (show (dcells 72 false s 0 128 0 (.slice none 0 0))[6]? = some (Value.slice none 0 0) from rfl)
            have H := H'.out
            by_cases c9 : 0 < (s.size : Int)
            · rw [if_pos c9] at H
              obtain ⟨⟨num, er, at'⟩, hn, H⟩ := Option.bind_eq_some_iff.mp H
              have c9b : decide (0 < (s.size : Int)) = true := decide_eq_true c9
              have c9c : decide (0 < s.size) = true := decide_eq_true (by omega)
              cases er with
              | none => exact absurd H (by simp)
              | some x =>
                obtain ⟨rfl, rfl⟩ : [] = r1 ∧ some x = r2 := by simpa using H
                have AN := Aside0.mk hn
                clear hn H c9 H'
                go_wp2_with (go_at_call 34; (with_reducible refine Calls.mono (next_err sv k1 _ _ _ 72 false s 0 128 0 (.slice none 0 0) num x at' HSV.out HBB.out HGE.out HBK.out AN.out) ?_); rintro e w9 ⟨rfl, hE9, hg9⟩; rw [errV_some])
                go_ret2
                exact ⟨_, rfl, Kd.R_nil _ _ _ _ _, hE9, HBB.out.trans (below_of_grown hg9 HGE.out HBB.out.size)⟩
            · rw [if_neg c9] at H
              obtain ⟨rfl, rfl⟩ : [] = r1 ∧ none = r2 := by simpa using H
              have c9b : decide (0 < (s.size : Int)) = false := decide_eq_false c9
              have c9c : decide (0 < s.size) = false := decide_eq_false (by omega)
              clear H c9 H'
              go_wp2
              go_ret2
              exact ⟨_, rfl, Kd.R_nil _ _ _ _ _, trivial, HBB.out⟩
end Go.Proofs.YtenkmjccfpfkbaaDoor.Pd
set_option linter.unusedVariables false
namespace Go.Proofs.YtenkmjccfpfkbaaDoor.Pk
open Go.RowKit Go.Proofs.YtenkmjccfpfkbaaDoorW.PrintWords Go.Proofs.YtenkmjccfpfkbaaDoorW.PrintLast Go.Proofs.YtenkmjccfpfkbaaDoorW.PrintMore Go.Proofs.YtenkmjccfpfkbaaDoor.Er
open Go.Proofs.YtenkmjccfpfkbaaDoor.V Go.Proofs.YtenkmjccfpfkbaaDoor.Bl Go.Proofs.YtenkmjccfpfkbaaDoor.Pu Go.Proofs.YtenkmjccfpfkbaaDoor.Pe Go.Proofs.YtenkmjccfpfkbaaDoor.Pd

abbrev bucher : List Int := [98, 252, 99, 104, 101, 114]
theorem enc_bucher : encF 60 bucher = some (⟨#[98, 99, 104, 101, 114, 45, 107, 118, 97]⟩, none) := by kernel_rfl
theorem dec_kv : decF 60 ⟨#[107, 118]⟩ = some ([], some 130) := by kernel_rfl
theorem is_kv : eponymlaw01_Is.f (some 130) 2 2 = some true := by kernel_rfl

set_option maxHeartbeats 16000000 in
set_option maxRecDepth 100000 in
theorem awake_calls (sv : Nat → Addr) (w : World) (hsv : LaidAll sv w) :
    Calls Tryd.prog 8 #[] w fun e w' => e = .returned (.bool true) ∧ Below w.heap.size w w' := by
  have HSV := Aside0.mk hsv
  have HB := Aside0.mk (Below.refl w.heap.size w)
  clear hsv
  go_enter Tryd.func8, Tryd.ntmps8
  go_wp2_with (first
    | ((with_reducible refine gate_dst (N := 6) rfl ?_); refine Kd.R_lit (Kd.int .i32) w.heap.size 21 ?hg (N := 6) ?hd (xs := bucher) (inner := [.int .i32 98, .int .i32 252, .int .i32 99, .int .i32 104, .int .i32 101, .int .i32 114]) (ok := fun _ => True) (okp := fun _ => True) ?hr ?hp (fun _ hk => hk) trivial (Below.refl _ _) (Nat.le_refl _) (by decide) ?_; (case hd => rfl); (case hg => rfl); (case hr => first | (go_simp; done) | (go_simp; rfl)); (case hp => exact (Reps.one (show Kd.M (Kd.int .i32) _ _ _ 98 [.int .i32 98] from rfl) (Reps.one (show Kd.M (Kd.int .i32) _ _ _ 252 [.int .i32 252] from rfl) (Reps.one (show Kd.M (Kd.int .i32) _ _ _ 99 [.int .i32 99] from rfl) (Reps.one (show Kd.M (Kd.int .i32) _ _ _ 104 [.int .i32 104] from rfl) (Reps.one (show Kd.M (Kd.int .i32) _ _ _ 101 [.int .i32 101] from rfl) (Reps.one (show Kd.M (Kd.int .i32) _ _ _ 114 [.int .i32 114] from rfl) (Reps.none _ _)))))))); intro v1 w1 ho1 hb1 hg_ hnew_; clear hg_ hnew_; obtain ⟨Ao, co, eo⟩ := Kd.R_slice ho1; subst eo; have HO := Aside0.mk ho1; have HB1 := Aside0.mk hb1; clear hb1 ho1)
    | (go_at_call 9; (with_reducible refine Calls.mono (Encode_part sv 60 Ao co bucher _ _ _ (Kd.R_reads' HO.out).2.2 (Kd.R_reads' HO.out).2.1 (Laid.below HSV.out.laid HB1.out) enc_bucher) ?_); rintro e w2 ⟨rfl, hE2, hb2⟩; rw [errV_none]; have HB2 := Aside0.mk (HB1.out.trans (hb2.mono HB1.out.size)))
    | (go_at_call 12; (with_reducible refine Calls.mono (Decode_part sv 60 _ _ _ _ (Laid.below HSV.out.laid HB2.out) dec_kv) ?_); rintro e w3 ⟨v3, rfl, hR3, hE3, hb3⟩; rw [errV_some]))
  refine Calls.mono (eponymlaw01_Is.calls sv w3 (some 130) 2 2 true w3 (LaidAll.below HSV.out (HB2.out.trans (hb3.mono HB2.out.size))) hE3.errB is_kv) ?_
  rintro e w4 ⟨rfl, hb4⟩
  go_wp2
  go_ret
  exact ⟨rfl, HB2.out.trans ((hb3.trans (hb4.mono hb3.size)).mono HB2.out.size)⟩

set_option maxHeartbeats 16000000 in
set_option maxRecDepth 100000 in
theorem Numbers_calls (sv : Nat → Addr) (k : Nat) (d many b d' n' : Int) (first : Bool) (s : ByteArray) (n2 : Int) (b2 : Bool) (w : World) (hsv : LaidAll sv w) (h1 : puny_Bias.f k d many first = some b) (h2 : eponymref06_Bias.f k d many first = some b)
    (h3 : puny_within.f many 0 1000 = some n') (h4 : puny_within.f d 0 2147483647 = some d') (h5 : puny_bias_digits.f k n' false d' = some (s, n2, b2)) (h6 : eponymref06_Digits.f k d many = some s) :
    Calls Tryd.prog 7 #[.int .i64 d, .int .i64 many, .bool first] w fun e w' => e = .returned (.bool true) ∧ Below w.heap.size w w' := by
  have HSV := Aside0.mk hsv
  have K1 := Aside0.mk h1
  have K2 := Aside0.mk h2
  have K3 := Aside0.mk h3
  have K4 := Aside0.mk h4
  have K5 := Aside0.mk h5
  have K6 := Aside0.mk h6
  clear hsv h1 h2 h3 h4 h5 h6
  go_enter Tryd.func7, Tryd.ntmps7
  go_wp2_with (first
    | (go_at_call 8; (with_reducible refine Calls.mono (awake_calls sv _ HSV.out) ?_); rintro e w1 ⟨rfl, hb1⟩)
    | (go_at_call 16; (with_reducible refine Calls.mono (puny_Bias.calls k d many first b _ K1.out) ?_); rintro e w2 ⟨rfl, hb2⟩)
    | (go_at_call 17; (with_reducible refine Calls.mono (eponymref06_Bias.calls k d many first b _ K2.out) ?_); rintro e w3 ⟨rfl, hb3⟩)
    | (go_at_call 18; (with_reducible refine Calls.mono (Digits_calls k d many d' n' s n2 b2 _ K3.out K4.out K5.out) ?_); rintro e w4 ⟨rfl, hb4⟩)
    | (go_at_call 19; (with_reducible refine Calls.mono (eponymref06_Digits.calls k d many s _ K6.out) ?_); rintro e w5 ⟨rfl, hb5⟩))
  go_ret
  have e2 := hb1.trans (hb2.mono hb1.size)
  obtain ⟨m, rfl⟩ := hb3
  have e3 := e2.trans ((bdN w2 m).mono e2.size)
  have e4 := e3.trans (hb4.mono e3.size)
  exact ⟨rfl, e4.trans (hb5.mono e4.size)⟩
end Go.Proofs.YtenkmjccfpfkbaaDoor.Pk
