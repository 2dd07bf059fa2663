/-
  Walks, part B: strings.Builder at this dump (copyCheck, WriteByte, WriteString; String off the shelf): turned from the guide's worked contracts.
-/
import Derived.Test.YtkmoakfphfakoaaGreatShelf
import Derived.Lib.Builder
import Derived.Lib.AppendStr
import Derived.Test.YtkmoakfphfakoaaGreatM
import Derived.Lib.Hide
import Derived.Lib.UnsafeStr
import Derived.WalkKit
import Derived.WalkSpells
import Derived.WalkLawsBesides
import Derived.Laws.Externs
namespace Go.Proofs.YtkmoakfphfakoaaGreat
open Go.RowKit

theorem sizeB : (Tryz.prog.info? 39).map (·.size) = some 2 := by kernel_rfl
theorem liesB : liesAt Tryz.prog Tryz.prog.depth 39 (2 / Tryz.prog.cellsOf 39) 0 39 1 = true := by kernel_rfl
theorem infoByte : (Tryz.prog.info? 5).map (fun i => (i.zero, i.size, i.bytes)) = some (some (.int .u8 0), 1, 1) := by kernel_rfl

set_option maxRecDepth 100000 in
theorem cc_used (b : Nat) (w : World) (h0 : w.cell? ⟨b, 0, none⟩ = some (.pointer (some ⟨b, 0, none⟩))) :
    Calls Tryz.prog 37 #[.pointer (some ⟨b, 0, none⟩)] w fun e w' => e = .returned (.tuple #[]) ∧ w' = w := by
  obtain ⟨j, hj, _⟩ := Option.map_eq_some_iff.1 sizeB
  go_enter Tryz.func37, Tryz.ntmps37
  go_wp2
  rw [Lib.run_neq_ptr_same w _ Tryz.underlying36 hj]
  go_wp2
  go_end0
  exact ⟨rfl, rfl⟩

set_option maxRecDepth 100000 in
theorem cc_fresh (b : Nat) (w : World) (h0 : w.cell? ⟨b, 0, none⟩ = some (.pointer none)) (hsh : w.shape? b = some (39, 2)) (hfz : w.frozen? ⟨b, 0, none⟩ = false) :
    Calls Tryz.prog 37 #[.pointer (some ⟨b, 0, none⟩)] w fun e w' => e = .returned (.tuple #[]) ∧ w' = w.setCell ⟨b, 0, none⟩ (.pointer (some ⟨b, 0, none⟩)) := by
  obtain ⟨j, hj, hjs⟩ := Option.map_eq_some_iff.1 sizeB
  go_enter Tryz.func37, Tryz.ntmps37
  go_wp2
  rw [Lib.run_to_unsafe w ⟨b, 0, none⟩ Tryz.underlying36 Tryz.underlying68 hj (by rw [hjs]; decide) hsh (Nat.zero_lt_succ 1)]
  simp only [Result.andThen]
  rw [Oper.upon_value]
  go_wp2
  rw [run_callFunc_extern Tryz.func56 (by kernel_rfl) (by kernel_rfl) (by kernel_rfl) (e := Extern.AbiNoEscape.same) (by kernel_rfl)]
  rw [Lib.run_noEscape]
  simp only [Result.andThen]
  rw [Oper.upon_value]
  go_wp2
  rw [Lib.run_from_unsafe w ⟨b, 0, none⟩ Tryz.underlying68 Tryz.underlying36 hj hsh liesB]
  simp only [Result.andThen]
  rw [Oper.upon_value]
  go_wp2
  go_end0
  exact ⟨rfl, rfl⟩

abbrev BAt (B b : Nat) (p : Value) (bs : List Value) (w : World) : Prop := Lib.BuilderAt 39 5 B b p bs w
abbrev IsB (B b : Nat) (bs : List Value) (w : World) : Prop := Lib.IsBuilder 39 5 B b bs w

theorem cc_any (B b : Nat) (bs : List Value) (w : World) (h : IsB B b bs w) :
    Calls Tryz.prog 37 #[.pointer (some ⟨b, 0, none⟩)] w fun e w' => e = .returned (.tuple #[]) ∧ (BAt B b (.pointer (some ⟨b, 0, none⟩)) bs w' ∧ Below B w w' ∧ Keeps b w w') := by
  rcases h with h | h
  · refine (cc_fresh b w h.cell0 h.shape h.frozen0).mono ?_
    rintro e w' ⟨rfl, rfl⟩
    refine ⟨rfl, h.used _, (Below.refl B w).setCell (p := ⟨b, 0, none⟩) h.1 _, by simp [World.setCell], fun k hk ha => ⟨Below.heap_setCell _ _ _ _ ha.1, ha.of_cell ?_⟩⟩
    exact World.cell?_setCell_other w _ _ _ (fun h => by cases h)
  · refine (cc_used b w h.cell0).mono ?_
    rintro e w' ⟨rfl, rfl⟩
    exact ⟨rfl, h, Below.refl B _, Keeps.refl _ _⟩

set_option maxHeartbeats 2000000 in
set_option maxRecDepth 100000 in
theorem wb_any (B b : Nat) (bs : List Value) (c : Int) (w : World) (h : IsB B b bs w) (hlen : bs.length + 1 ≤ 140737488355328) (hBw : B ≤ w.heap.size) :
    Calls Tryz.prog 95 #[.pointer (some ⟨b, 0, none⟩), .int .u8 c] w fun e w' => e = .returned .nilIface ∧ (BAt B b (.pointer (some ⟨b, 0, none⟩)) (bs ++ [.int .u8 c]) w' ∧ Below B w w' ∧ Keeps b w w') := by
  obtain ⟨i0, hi, hz0, hz1, hz2⟩ := info_parts infoByte
  go_enter Tryz.func95, Tryz.ntmps95
  go_wp2_with (go_at_call 37; refine (cc_any B b bs _ h).mono ?_)
  rintro e w1 ⟨rfl, h1, hb1, hk1⟩
  obtain ⟨hB, v, hbk, hown, hne⟩ := h1
  have c0 : w1.cell? ⟨b, 0, none⟩ = some (.pointer (some ⟨b, 0, none⟩)) := by rw [Lib.cell_of_heap hbk]; rfl
  have c1 : w1.cell? ⟨b, 1, none⟩ = some v := by rw [Lib.cell_of_heap hbk]; rfl
  go_wp2_with (at_builtin; refine wpList_append_at _ rfl _ _ 37 rfl B 5 i0 (.int .u8 0) 1 1 Tryz.underlying37 hi hz0 hz1 hz2 rfl (by decide) _ _ _ rfl (hown.alloc _) ⟨w1.heap.size, 0, none⟩ 1 1 [.int .u8 c] rfl rfl ?c1 ?c2 ?c3 ?c4 ?c5 ?_)
  case c1 =>
    intro j u hj
    match j, hj with
    | 0, hj => simp at hj; subst hj; simp [Addr.add]
  case c2 => intro u hu; simp at hu; subst hu; rfl
  case c3 => unfold maxLen; omega
  case c4 => omega
  case c5 => have := hb1.size; simp; omega
  intro v' w2 hown' hgrow _ hwh
  have hwh := Lib.hid hwh
  have hlt : b < w1.heap.size := by
    rcases Nat.lt_or_ge b w1.heap.size with h' | h'
    · exact h'
    · simp [Array.getElem?_eq_none h'] at hbk
  have hb2 : w2.heap[b]? = some (.cells #[.pointer (some ⟨b, 0, none⟩), v] 39 (0, 0)) := by
    rw [hgrow.block b (by simp; omega) (fun e => hne e.symm), Lib.alloc_old w1 _ b hlt]
    exact hbk
  have d0 : w2.cell? ⟨b, 0, none⟩ = some (.pointer (some ⟨b, 0, none⟩)) := by rw [Lib.cell_of_heap hb2]; rfl
  have d1 : w2.cell? ⟨b, 1, none⟩ = some v := by rw [Lib.cell_of_heap hb2]; rfl
  have f1 : w2.frozen? ⟨b, 1, none⟩ = false := Lib.frozen_of_heap hb2 1
  obtain ⟨g, cap, rfl⟩ : ∃ g cap, v' = .slice (some ⟨g, 0, none⟩) (bs.length + 1) cap := by
    rcases hown'.2 with ⟨_, h0⟩ | ⟨g, cap, cur, hv, _⟩
    · omega
    · exact ⟨g, cap, hv⟩
  go_wp2
  go_ret
  refine ⟨rfl, ?g1, ?g2, ?g3⟩
  · exact Lib.BuilderAt.put (T := 39) (e := 5) hB hb2 (bs' := bs ++ [.int .u8 c]) (by simpa using hown') (by decide)
  case g3 => exact hk1.trans (Keeps.put hbk (by simp) (fun k hk => Lib.alloc_old w1 _ k hk) hgrow hne hwh.out hlt)
  · exact ((hb1.alloc (by have := hb1.size; omega) _).grown hgrow (by have := hb1.size; simp; omega) (fun k hk => (hown.lt k hk).1)).setCell (p := ⟨b, 1, none⟩) hB _

set_option maxHeartbeats 2000000 in
set_option maxRecDepth 100000 in
theorem ws_any (B b : Nat) (bs : List Value) (s : ByteArray) (w : World) (h : IsB B b bs w) (hlen : bs.length + s.size ≤ 140737488355328) (hBw : B ≤ w.heap.size) :
    Calls Tryz.prog 19 #[.pointer (some ⟨b, 0, none⟩), .string s] w fun e w' => e = .returned (.tuple #[.int .i64 s.size, .nilIface]) ∧ (BAt B b (.pointer (some ⟨b, 0, none⟩)) (bs ++ Lib.strCells s) w' ∧ Below B w w' ∧ Keeps b w w') := by
  obtain ⟨i0, hi, hz0, hz1, hz2⟩ := info_parts infoByte
  go_enter Tryz.func19, Tryz.ntmps19
  go_wp2_with (go_at_call 37; refine (cc_any B b bs _ h).mono ?_)
  rintro e w1 ⟨rfl, h1, hb1, hk1⟩
  obtain ⟨hB, v, hbk, hown, hne⟩ := h1
  have c0 : w1.cell? ⟨b, 0, none⟩ = some (.pointer (some ⟨b, 0, none⟩)) := by rw [Lib.cell_of_heap hbk]; rfl
  have c1 : w1.cell? ⟨b, 1, none⟩ = some v := by rw [Lib.cell_of_heap hbk]; rfl
  go_wp2_with (at_builtin; refine wpList_append_string_at _ rfl _ _ 37 9 rfl B 5 i0 Tryz.underlying37 Tryz.underlying9 hi hz0 hz1 hz2 _ _ _ rfl hown s rfl ?c3 ?c4 ?c5 ?_)
  case c3 => unfold maxLen; omega
  case c4 => omega
  case c5 => have := hb1.size; omega
  intro v' w2 hown' hgrow _ hwh
  have hwh := Lib.hid hwh
  have hlt : b < w1.heap.size := by
    rcases Nat.lt_or_ge b w1.heap.size with h' | h'
    · exact h'
    · simp [Array.getElem?_eq_none h'] at hbk
  have hb2 : w2.heap[b]? = some (.cells #[.pointer (some ⟨b, 0, none⟩), v] 39 (0, 0)) := by
    rw [hgrow.block b hlt (fun e => hne e.symm)]
    exact hbk
  have d0 : w2.cell? ⟨b, 0, none⟩ = some (.pointer (some ⟨b, 0, none⟩)) := by rw [Lib.cell_of_heap hb2]; rfl
  have d1 : w2.cell? ⟨b, 1, none⟩ = some v := by rw [Lib.cell_of_heap hb2]; rfl
  have f1 : w2.frozen? ⟨b, 1, none⟩ = false := Lib.frozen_of_heap hb2 1
  obtain ⟨ao, n', cap, rfl⟩ : ∃ ao n' cap, v' = .slice ao n' cap := by
    rcases hown'.2 with ⟨hv, _⟩ | ⟨g, cap, cur, hv, _⟩
    · exact ⟨_, _, _, hv⟩
    · exact ⟨_, _, _, hv⟩
  go_wp2
  go_ret2
  refine ⟨rfl, ?g1, ?g2, ?g3⟩
  case g3 => exact hk1.trans (Keeps.put hbk (Nat.le_refl _) (fun k hk => rfl) hgrow hne hwh.out hlt)
  · exact Lib.BuilderAt.put (T := 39) (e := 5) hB hb2 (bs' := bs ++ Lib.strCells s) (by simpa [Lib.strCells_length] using hown') (by decide)
  · exact (hb1.grown hgrow (by have := hb1.size; omega) (fun k hk => (hown.lt k hk).1)).setCell (p := ⟨b, 1, none⟩) hB _

/-! ## The builder by its bytes -/
/-- Block b, from B on, is a builder that holds the bytes l. -/
def Bld (B b : Nat) (l : List UInt8) (w : World) : Prop := IsB B b (Lib.byteCells l) w
theorem Bld.below {B b : Nat} {l : List UInt8} {w w' : World} (h : Bld B b l w) (hb : Below w.heap.size w w') : Bld B b l w' := by
  have key : ∀ p, BAt B b p (Lib.byteCells l) w → BAt B b p (Lib.byteCells l) w' := by
    rintro p ⟨hB, v, hbk, hown, hne⟩
    have hlt : b < w.heap.size := by
      rcases Nat.lt_or_ge b w.heap.size with h' | h'
      · exact h'
      · simp [Array.getElem?_eq_none h'] at hbk
    exact ⟨hB, v, by rw [hb.block b hlt]; exact hbk, hown.kept (row := none) ⟨hb.os, hb.tape, hb.output, hb.size, fun k hk _ => hb.block k hk⟩ (Classical.em _), hne⟩
  rcases h with h | h
  · exact .inl (key _ h)
  · exact .inr (key _ h)

theorem putB (B b : Nat) (l : List UInt8) (c : UInt8) (w : World) (h : Bld B b l w) (hlen : l.length + 1 ≤ 140737488355328) (hBw : B ≤ w.heap.size) :
    Calls Tryz.prog 95 #[.pointer (some ⟨b, 0, none⟩), .int .u8 c.toNat] w fun e w' => e = .returned .nilIface ∧ Bld B b (l ++ [c]) w' ∧ Below B w w' ∧ Keeps b w w' :=
  (wb_any B b (Lib.byteCells l) c.toNat w h (by rw [Lib.byteCells_length]; exact hlen) hBw).mono fun e w' ⟨he, h1, h2⟩ => ⟨he, .inr (by simpa [Lib.byteCells] using h1), h2⟩
theorem putS (B b : Nat) (l : List UInt8) (s : ByteArray) (w : World) (h : Bld B b l w) (hlen : l.length + s.size ≤ 140737488355328) (hBw : B ≤ w.heap.size) :
    Calls Tryz.prog 19 #[.pointer (some ⟨b, 0, none⟩), .string s] w fun e w' => e = .returned (.tuple #[.int .i64 s.size, .nilIface]) ∧ Bld B b (l ++ s.data.toList) w' ∧ Below B w w' ∧ Keeps b w w' :=
  (ws_any B b (Lib.byteCells l) s w h (by rw [Lib.byteCells_length]; exact hlen) hBw).mono fun e w' ⟨he, h1, h2⟩ => ⟨he, .inr (by simpa [Lib.byteCells, Lib.strCells] using h1), h2⟩
theorem getB (B b : Nat) (l : List UInt8) (w : World) (h : Bld B b l w) (hBw : B ≤ w.heap.size) :
    Calls Tryz.prog 23 #[.pointer (some ⟨b, 0, none⟩)] w fun e w' => e = .returned (.string ⟨l.toArray⟩) ∧ Below B w w' :=
  Tryz.Builder_String_any B b l w h hBw
theorem Bld.lt {B b : Nat} {l : List UInt8} {w : World} (h : Bld B b l w) : B ≤ b ∧ b < w.heap.size := by
  rcases h with h | h <;> exact ⟨h.1, h.lt⟩
/-- A block that is laid behind a builder is apart from it. -/
theorem Bld.apart {B b : Nat} {l : List UInt8} {w : World} (h : Bld B b l w) {k : Nat} (hk : w.heap.size ≤ k) : Apart b k w := by
  have hlt := h.lt.2
  refine ⟨by omega, fun v hv e => ?_⟩
  rcases h with ⟨_, u, hbk, hown, _⟩ | ⟨_, u, hbk, hown, _⟩
  all_goals
    have hc : w.cell? ⟨b, 1, none⟩ = some u := by rw [Lib.cell_of_heap hbk]; rfl
    rw [hc] at hv
    cases hv
    have := (hown.lt k e).2
    omega
/-- .. and one that lay below B. -/
theorem Bld.apart_below {B b : Nat} {l : List UInt8} {w : World} (h : Bld B b l w) {k : Nat} (hk : k < B) : Apart b k w := by
  have hlt := h.lt.1
  refine ⟨by omega, fun v hv e => ?_⟩
  rcases h with ⟨_, u, hbk, hown, _⟩ | ⟨_, u, hbk, hown, _⟩
  all_goals
    have hc : w.cell? ⟨b, 1, none⟩ = some u := by rw [Lib.cell_of_heap hbk]; rfl
    rw [hc] at hv
    cases hv
    have := (hown.lt k e).1
    omega
theorem Bld.apart_new {B b : Nat} {l : List UInt8} {w : World} (h : Bld B b l w) (o : Obj) : Apart b w.heap.size (w.alloc o) :=
  (h.apart (Nat.le_refl _)).of_cell (((Below.refl w.heap.size w).alloc (Nat.le_refl _) o).cell (p := ⟨b, 1, none⟩) h.lt.2)
theorem Bld.alloc {B b : Nat} {l : List UInt8} {w : World} (h : Bld B b l w) (o : Obj) : Bld B b l (w.alloc o) := h.below ((Below.refl _ _).alloc (Nat.le_refl _) _)
theorem byte_cells (w : World) (cs : List UInt8) (t : Nat) (j : Nat) (hj : j < cs.length) :
    (w.alloc (.cells (Lib.byteCells cs).toArray t)).cell? ⟨w.heap.size, j, none⟩ = some (.int .u8 (cs[j]).toNat) := by
  rw [Lib.cell_of_heap (b := w.heap.size) (cs := (Lib.byteCells cs).toArray) (T := t) (fr := (0, 0)) (by show (w.heap.push _)[w.heap.size]? = _; simp)]
  simp [Lib.byteCells, hj]
theorem newB (w : World) : Bld w.heap.size w.heap.size [] (w.alloc (.cells #[.pointer none, .slice none 0 0] 39)) :=
    .inl ⟨Nat.le_refl _, _, by show (w.heap.push _)[w.heap.size]? = _; simp, World.ownsRow_nil _ _ _ _, by simp [Value.ownBlock]⟩
end Go.Proofs.YtkmoakfphfakoaaGreat
