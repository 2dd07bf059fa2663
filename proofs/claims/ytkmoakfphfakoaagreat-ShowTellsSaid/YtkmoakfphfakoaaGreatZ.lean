/-
  Walks, part Z: show.Bare, show.Open.
-/
import Derived.Test.YtkmoakfphfakoaaGreatT
import Derived.Laws.Rows
import Derived.Laws.Tables
import Derived.Laws.CopyOwn
import Derived.Great.BuildSlice
import Derived.Lib.QuietBelow
set_option linter.unusedVariables false
set_option linter.unusedSimpArgs false
namespace Go.Proofs.YtkmoakfphfakoaaGreat
open Go.RowKit Go.Shelf Go.Sort
attribute [local go_sem] Oper.semAt_some

/-- A slice that reads as the texts ss, in a block from B on. -/
def StrsAt (B : Nat) (w : World) (A : Option Addr) (ss : List ByteArray) : Prop :=
  ss = [] ∨ ∃ b, A = some ⟨b, 0, none⟩ ∧ B ≤ b ∧ b < w.heap.size ∧ ∀ (j : Nat) (h : j < ss.length), w.cell? ⟨b, j, none⟩ = some (.string ss[j])
theorem StrsAt.strs {B : Nat} {w : World} {A : Option Addr} {ss : List ByteArray} (h : StrsAt B w A ss) : Strs w A ss := by
  rcases h with h | ⟨b, rfl, _, h1, h2⟩
  · exact .inl h
  · exact .inr ⟨b, 0, rfl, h1, fun j hj => by rw [Nat.zero_add]; exact h2 j hj⟩
theorem StrsAt.mono {B B' : Nat} {w : World} {A : Option Addr} {ss : List ByteArray} (h : StrsAt B w A ss) (hB : B' ≤ B) : StrsAt B' w A ss := by
  rcases h with h | ⟨b, rfl, h0, h1⟩
  · exact .inl h
  · exact .inr ⟨b, rfl, Nat.le_trans hB h0, h1⟩
theorem StrsAt.kept {B : Nat} {w w' : World} {A : Option Addr} {ss : List ByteArray} (h : StrsAt B w A ss) (hs : w.heap.size ≤ w'.heap.size) (hk : ∀ k, B ≤ k → k < w.heap.size → w'.heap[k]? = w.heap[k]?) : StrsAt B w' A ss := by
  rcases h with h | ⟨b, rfl, h0, h1, h2⟩
  · exact .inl h
  · exact .inr ⟨b, rfl, h0, Nat.lt_of_lt_of_le h1 hs, fun j hj => (World.cell?_of_block (a := ⟨b, j, none⟩) (hk b h0 h1)).trans (h2 j hj)⟩

theorem Clone_any (A : Option Addr) (ss : List ByteArray) (c : Nat) (w : World) (hS : Strs w A ss) (hl : ss.length ≤ 1000000) :
    Calls Tryz.prog 17 #[.slice A ss.length c] w fun e w' => (∃ A' c', e = .returned (.slice A' ss.length c') ∧ StrsAt w.heap.size w' A' ss ∧ ss.length ≤ c') ∧ Below w.heap.size w w' := by
  rcases hS with rfl | ⟨b, off, rfl, hb, hc⟩
  · rcases A with _ | a
    · exact (Tryz.slices_Clone_string_nil 0 c w).mono fun e w' ⟨he, hw⟩ => ⟨⟨none, 0, he, .inl rfl, by simp⟩, hw ▸ Below.refl _ _⟩
    · refine (Tryz.slices_Clone_string_zero a c w).mono fun e w' ⟨v', he, ho, hne, hb⟩ => ⟨?_, hb⟩
      rcases ho.2 with ⟨rfl, _⟩ | ⟨g, cap, cur, rfl, _⟩
      · exact absurd rfl hne
      · exact ⟨_, _, he, .inl rfl, by simp⟩
  · refine (Tryz.slices_Clone_string b off ss.length c ss w (Nat.le_refl _) (by omega) (fun j hj => by rw [hc j hj]; simp [hj])).mono fun e w' ⟨v', he, ho, hne, hb⟩ => ⟨?_, hb⟩
    rw [List.take_length] at ho
    rcases ho.2 with ⟨rfl, _⟩ | ⟨g, cap, cur, rfl, hg, hgg, hnc, _⟩
    · exact absurd rfl hne
    · refine ⟨_, _, he, .inr ⟨g, rfl, hg, (Array.getElem?_eq_some_iff.1 hgg).1, fun j hj => ?_⟩, hnc⟩
      have h1 := ho.cells (g := g) rfl j (.string ss[j]) (by simp [hj])
      have h2 : (⟨g, 0, none⟩ : Addr).add j = ⟨g, j, none⟩ := by unfold Addr.add; split <;> simp_all
      rw [h2] at h1
      exact h1

theorem UAt.put {u u' : Url} {b : Nat} {w : World} (h : UAt u b w) (j : Nat) (v : Value) (he : u.cells.setIfInBounds j v = u'.cells) : UAt u' b (w.setCell ⟨b, j, none⟩ v) := by
  unfold UAt at *
  rw [← he]
  simp [World.setCell, Array.getElem?_modify, h]

abbrev zeroCells : Array Value := #[.string ⟨#[]⟩, .string ⟨#[]⟩, .string ⟨#[]⟩, .int .i64 0, .string ⟨#[]⟩, .int .i64 0, .int .i64 0, .int .i64 0, .int .i64 0, .int .i64 0, .int .i64 0, .int .i64 0, .int .i64 0, .int .i64 0, .int .i64 0, .slice none 0 0, .string ⟨#[]⟩, .string ⟨#[]⟩, .string ⟨#[]⟩, .bool false, .bool false]

/-- The load of an address that lies whole. -/
theorem UAt.load {u : Url} {b : Nat} {W : World} (hW : UAt u b W) (x : Operand) {ops : Array Oper} {rest : List Oper} {o : Oper} {a : Act} {Q : Exit → Act → World → Prop} (hg : o.guard = none) (ho : o.op = .load 27 x) (hx : a.eval x = .pointer (some ⟨b, 0, none⟩))
    (h : wpList Tryz.prog ops Q rest (a.put o.dst u.val) W) : wpList Tryz.prog ops Q (o :: rest) a W :=
  wpList_load_row hg 27 x ho b hx 27 u.cells (0, 0) _ hW Tryz.underlying27 rfl (by kernel_rfl) h
/-- The store of an address into a block of as many cells. -/
theorem UAt.store {b : Nat} {W : World} {old : Array Value} (hW : W.heap[b]? = some (.cells old 27 (0, 0))) (hold : old.size = 21) (u : Url) (x y : Operand) {ops : Array Oper} {rest : List Oper} {o : Oper} {a : Act} {Q : Exit → Act → World → Prop} (hg : o.guard = none) (ho : o.op = .store 27 x y) (hd : o.dst = none) (hx : a.eval x = .pointer (some ⟨b, 0, none⟩))
    (hy : a.eval y = u.val) (h : wpList Tryz.prog ops Q rest a (W.setRow b u.cells)) : wpList Tryz.prog ops Q (o :: rest) a W :=
  wpList_store_rowTo hg 27 x y ho hd b u.cells hx hy 27 old hW (by kernel_rfl) hold (by kernel_rfl) h
theorem UAt.stored {b : Nat} {W : World} {old : Array Value} (hW : W.heap[b]? = some (.cells old 27 (0, 0))) (u : Url) : UAt u b (W.setRow b u.cells) := setRow_heap _ _ _ _ _ _ hW
/-- What a result's cell holds. -/
theorem UAt.result {u : Url} {b : Nat} {W : World} (hW : UAt u b W) {fn : Func} {p : Tmp} (h : fn.results = #[.cell p 27]) (tmps : Array Value) (hp : tmps.getD p undef = .pointer (some ⟨b, 0, none⟩)) : (results fn tmps).run Tryz.prog W = .ok u.val W :=
  results_cell_row h tmps W b 27 u.cells (0, 0) _ hp hW Tryz.underlying27 rfl (by kernel_rfl)

/-- The address that a copy is: the same but for where its segments lie. -/
abbrev Url.at (u : Url) (A : Option Addr) (c : Nat) : Url := { u with A := A, cap := c }
abbrev Url.bare (u : Url) : Url := { u with frg := ⟨#[]⟩, hf := false }
abbrev Url.open' (u : Url) : Url := { u with frg := ⟨#[]⟩, hf := false, usr := ⟨#[]⟩, pwd := ⟨#[]⟩ }

set_option maxRecDepth 100000 in
set_option maxHeartbeats 4000000 in
theorem Bare_any (u : Url) (w : World) (hu : u.Ok w) :
    Calls Tryz.prog 7 #[u.val] w fun e w' => (∃ A' c', e = .returned (u.bare.at A' c').val ∧ StrsAt w.heap.size w' A' u.segs ∧ u.segs.length ≤ c') ∧ Below w.heap.size w w' := by
  obtain ⟨w0, hw0⟩ : ∃ w0, w.alloc (.cells u.cells 27) = w0 := ⟨_, rfl⟩
  have hU0 : UAt u w.heap.size w0 := by rw [← hw0]; exact UAt.new u w
  have hb0 : Below w.heap.size w w0 := by rw [← hw0]; exact (Below.refl _ w).alloc (Nat.le_refl _) _
  have hs0 : w0.heap.size = w.heap.size + 1 := by rw [← hw0]; simp
  have hC := fun W hS => Clone_any u.A u.segs u.cap W hS hu.len
  obtain ⟨w1, hw1⟩ : ∃ w1, w0.alloc (.cells zeroCells 27) = w1 := ⟨_, rfl⟩
  have hb1 : Below w0.heap.size w0 w1 := by rw [← hw1]; exact (Below.refl _ w0).alloc (Nat.le_refl _) _
  have hU1 := hU0.below hb1
  have hz1 : w1.heap[w.heap.size + 1]? = some (.cells zeroCells 27 (0, 0)) := by rw [← hw1, ← hs0]; exact World.alloc_heap_new w0 _
  have hs1 : w1.heap.size = w.heap.size + 2 := by rw [← hw1, World.size_alloc]; omega
  have c15 : w1.cell? ⟨w.heap.size, 15, none⟩ = some (.slice u.A u.segs.length u.cap) := hU1.cell 15
  have hK := hC w1 (((hu.below hb0).below hb1).strs)
  have hbw1 : Below w.heap.size w w1 := hb0.trans (hb1.mono (by omega))
  have hs0' : w0.heap.size = w.heap.size + 1 := hs0
  have HS := Lib.hid hs1
  have HZ := Lib.hid hz1
  have HU1 := Lib.hid hU1
  have HB1 := Lib.hid hbw1
  clear hu hC hz1 hs1 hs0 hb0 hU0 hU1 hb1 hbw1
  go_enter Tryz.func7, Tryz.ntmps7
  go_wp2_with fail
  refine Calls.mono hK ?_
  rintro e w2 ⟨⟨A', c', rfl, hSt, hcap⟩, h2⟩
  clear hw0 hw1 hs0'
  have hU2 := HU1.out.below h2
  have hz2 := (h2.block (w.heap.size + 1) (by have := HS.out; omega)).trans HZ.out
  have hs2 := h2.size
  have hU3 := hU2.put (u' := u.at A' c') 15 (.slice A' u.segs.length c') rfl
  have hU4 := hU3.put (u' := { u with A := A', cap := c', frg := ⟨#[]⟩ }) 18 (.string ⟨#[]⟩) rfl
  have hU5 := hU4.put (u' := u.bare.at A' c') 20 (.bool false) rfl
  have d15 : w2.cell? ⟨w.heap.size, 15, none⟩ = some (.slice u.A u.segs.length u.cap) := hU2.cell 15
  have d18 : w2.cell? ⟨w.heap.size, 18, none⟩ = some (.string u.frg) := hU2.cell 18
  have d20 : w2.cell? ⟨w.heap.size, 20, none⟩ = some (.bool u.hf) := hU2.cell 20
  have f15 : w2.frozen? ⟨w.heap.size, 15, none⟩ = false := Lib.frozen_of_heap hU2 15
  have f18 : w2.frozen? ⟨w.heap.size, 18, none⟩ = false := Lib.frozen_of_heap hU2 18
  have f20 : w2.frozen? ⟨w.heap.size, 20, none⟩ = false := Lib.frozen_of_heap hU2 20
  have hz5 : (((w2.setCell ⟨w.heap.size, 15, none⟩ (.slice A' u.segs.length c')).setCell ⟨w.heap.size, 18, none⟩ (.string ⟨#[]⟩)).setCell ⟨w.heap.size, 20, none⟩ (.bool false)).heap[w.heap.size + 1]? = some (.cells zeroCells 27 (0, 0)) := by
    rw [heap_setCell_other _ _ _ _ (by show _ ≠ w.heap.size; omega), heap_setCell_other _ _ _ _ (by show _ ≠ w.heap.size; omega), heap_setCell_other _ _ _ _ (by show _ ≠ w.heap.size; omega)]
    exact hz2
  have HU5 := Lib.hid hU5
  have HZ5 := Lib.hid hz5
  have HH := Lib.hid (And.intro hSt h2)
  have HCAP := Lib.hid hcap
  clear hcap
  clear c15 hK hz2 hU2 hU3 hU4 hU5 hz5 hs2 hSt h2
  go_wp2_with (first
    | (with_reducible change wpList _ _ _ (⟨_, .load 27 (.tmp 1), _, _, _, _⟩ :: _) _ _; refine UAt.load HU5.out (.tmp 1) rfl rfl rfl ?_)
    | (with_reducible change wpList _ _ _ (⟨_, .store 27 (.tmp 2) (.tmp 9), _, _, _, _⟩ :: _) _ _; refine UAt.store HZ5.out rfl (u.bare.at A' c') (.tmp 2) (.tmp 9) rfl rfl rfl rfl rfl ?_))
  refine bodyPost_ret (UAt.result (UAt.stored HZ5.out _) (fn := Tryz.f7) rfl _ rfl) rfl ⟨⟨A', c', rfl, ?_, HCAP.out⟩, ?_⟩
  · have hs := HS.out
    refine (HH.out.1.kept (by simp [World.setCell]) (fun k hk _ => ?_)).mono (by omega)
    rw [setRow_other _ _ _ _ (by omega), heap_setCell_other _ _ _ _ (by show _ ≠ w.heap.size; omega), heap_setCell_other _ _ _ _ (by show _ ≠ w.heap.size; omega), heap_setCell_other _ _ _ _ (by show _ ≠ w.heap.size; omega)]
  · have hs := HS.out
    refine below_setRow ?_ (by omega) _
    exact (((HB1.out.trans (HH.out.2.mono (by omega))).setCell (p := ⟨w.heap.size, 15, none⟩) (Nat.le_refl _) _).setCell (p := ⟨w.heap.size, 18, none⟩) (Nat.le_refl _) _).setCell (p := ⟨w.heap.size, 20, none⟩) (Nat.le_refl _) _

set_option maxRecDepth 100000 in
set_option maxHeartbeats 4000000 in
theorem Open_any (u : Url) (w : World) (hu : u.Ok w) :
    Calls Tryz.prog 9 #[u.val] w fun e w' => (∃ A' c', e = .returned (u.open'.at A' c').val ∧ StrsAt w.heap.size w' A' u.segs ∧ u.segs.length ≤ c') ∧ Below w.heap.size w w' := by
  obtain ⟨w0, hw0⟩ : ∃ w0, w.alloc (.cells u.cells 27) = w0 := ⟨_, rfl⟩
  have hU0 : UAt u w.heap.size w0 := by rw [← hw0]; exact UAt.new u w
  have hb0 : Below w.heap.size w w0 := by rw [← hw0]; exact (Below.refl _ w).alloc (Nat.le_refl _) _
  have hs0 : w0.heap.size = w.heap.size + 1 := by rw [← hw0]; simp
  obtain ⟨w1, hw1⟩ : ∃ w1, w0.alloc (.cells zeroCells 27) = w1 := ⟨_, rfl⟩
  have hb1 : Below w0.heap.size w0 w1 := by rw [← hw1]; exact (Below.refl _ w0).alloc (Nat.le_refl _) _
  have hU1 := hU0.below hb1
  have hz1 : w1.heap[w.heap.size + 1]? = some (.cells zeroCells 27 (0, 0)) := by rw [← hw1, ← hs0]; exact World.alloc_heap_new w0 _
  have hs1 : w1.heap.size = w.heap.size + 2 := by rw [← hw1, World.size_alloc]; omega
  have hK := Bare_any u w1 ((hu.below hb0).below hb1)
  have hbw1 : Below w.heap.size w w1 := hb0.trans (hb1.mono (by omega))
  have HS := Lib.hid hs1
  have HZ := Lib.hid hz1
  have HU1 := Lib.hid hU1
  have HB1 := Lib.hid hbw1
  have hs0' : w0.heap.size = w.heap.size + 1 := hs0
  clear hu hz1 hs1 hs0 hb0 hU0 hU1 hb1 hbw1
  go_enter Tryz.func9, Tryz.ntmps9
  go_wp2_with (with_reducible change wpList _ _ _ (⟨_, .load 27 (.tmp 1), _, _, _, _⟩ :: _) _ _; refine UAt.load HU1.out (.tmp 1) rfl rfl rfl ?_)
  refine Calls.mono hK ?_
  rintro e w2 ⟨⟨A', c', rfl, hSt, hcap⟩, h2⟩
  clear hw0 hw1 hs0' hK
  have hz2 := (h2.block (w.heap.size + 1) (by have := HS.out; omega)).trans HZ.out
  have hs2 := h2.size
  obtain ⟨w3, hw3⟩ : ∃ w3, w2.alloc (.cells zeroCells 27) = w3 := ⟨_, rfl⟩
  have hb3 : Below w2.heap.size w2 w3 := by rw [← hw3]; exact (Below.refl _ w2).alloc (Nat.le_refl _) _
  have hn3 : w3.heap[w2.heap.size]? = some (.cells zeroCells 27 (0, 0)) := by rw [← hw3]; exact World.alloc_heap_new w2 _
  have hz3 := (hb3.block (w.heap.size + 1) (by have := HS.out; omega)).trans hz2
  have hU4 := UAt.stored hn3 (u.bare.at A' c')
  have d1 : (w3.setRow w2.heap.size (u.bare.at A' c').cells).cell? ⟨w2.heap.size, 1, none⟩ = some (.string u.usr) := hU4.cell 1
  have d2 : (w3.setRow w2.heap.size (u.bare.at A' c').cells).cell? ⟨w2.heap.size, 2, none⟩ = some (.string u.pwd) := hU4.cell 2
  have f1 : (w3.setRow w2.heap.size (u.bare.at A' c').cells).frozen? ⟨w2.heap.size, 1, none⟩ = false := Lib.frozen_of_heap hU4 1
  have f2 : (w3.setRow w2.heap.size (u.bare.at A' c').cells).frozen? ⟨w2.heap.size, 2, none⟩ = false := Lib.frozen_of_heap hU4 2
  have hU5 := hU4.put (u' := { u.bare.at A' c' with usr := ⟨#[]⟩ }) 1 (.string ⟨#[]⟩) rfl
  have hU6 := hU5.put (u' := u.open'.at A' c') 2 (.string ⟨#[]⟩) rfl
  have hz6 : (((w3.setRow w2.heap.size (u.bare.at A' c').cells).setCell ⟨w2.heap.size, 1, none⟩ (.string ⟨#[]⟩)).setCell ⟨w2.heap.size, 2, none⟩ (.string ⟨#[]⟩)).heap[w.heap.size + 1]? = some (.cells zeroCells 27 (0, 0)) := by
    have := HS.out
    rw [heap_setCell_other _ _ _ _ (by show _ ≠ w2.heap.size; omega), heap_setCell_other _ _ _ _ (by show _ ≠ w2.heap.size; omega), setRow_other _ _ _ _ (by omega)]
    exact hz3
  have hs3 : w3.heap.size = w2.heap.size + 1 := by rw [← hw3]; simp
  have HN3 := Lib.hid hn3
  have HU6 := Lib.hid hU6
  have HZ6 := Lib.hid hz6
  have HH := Lib.hid (And.intro hSt (And.intro h2 (And.intro hb3 hs3)))
  have HCAP := Lib.hid hcap
  clear hcap
  clear hz2 hz3 hU4 hU5 hU6 hz6 hs2 hSt h2 hn3 hb3 hs3
  go_wp2_with (first
    | (with_reducible change wpList _ _ _ (⟨_, .store 27 (.tmp 3) (.tmp 5), _, _, _, _⟩ :: _) _ _; refine UAt.store HN3.out rfl (u.bare.at A' c') (.tmp 3) (.tmp 5) rfl rfl rfl rfl rfl ?_)
    | (with_reducible change wpList _ _ _ (⟨_, .load 27 (.tmp 3), _, _, _, _⟩ :: _) _ _; refine UAt.load HU6.out (.tmp 3) rfl rfl rfl ?_)
    | (with_reducible change wpList _ _ _ (⟨_, .store 27 (.tmp 2) (.tmp 8), _, _, _, _⟩ :: _) _ _; refine UAt.store HZ6.out rfl (u.open'.at A' c') (.tmp 2) (.tmp 8) rfl rfl rfl rfl rfl ?_))
  refine bodyPost_ret (UAt.result (UAt.stored HZ6.out _) (fn := Tryz.f9) rfl _ rfl) rfl ⟨⟨A', c', rfl, ?_, HCAP.out⟩, ?_⟩
  · have hs := HS.out
    have hs3 := HH.out.2.2.2
    have hs2 := HH.out.2.1.size
    refine (HH.out.1.kept (w' := _) (by simp [World.setCell]; omega) (fun k hk hlt => ?_)).mono (by omega)
    rw [setRow_other _ _ _ _ (by omega), heap_setCell_other _ _ _ _ (by show _ ≠ w2.heap.size; omega), heap_setCell_other _ _ _ _ (by show _ ≠ w2.heap.size; omega), setRow_other _ _ _ _ (by omega)]
    exact HH.out.2.2.1.block k hlt
  · have hs := HS.out
    have hs2 := HH.out.2.1.size
    refine below_setRow ?_ (by omega) _
    refine (Below.setCell (p := ⟨w2.heap.size, 2, none⟩) (Below.setCell (p := ⟨w2.heap.size, 1, none⟩) (below_setRow ?_ (by omega) _) (by show _ ≤ w2.heap.size; omega) _) (by show _ ≤ w2.heap.size; omega) _)
    exact (HB1.out.trans (HH.out.2.1.mono (by omega))).trans (HH.out.2.2.1.mono (by omega))
end Go.Proofs.YtkmoakfphfakoaaGreat
