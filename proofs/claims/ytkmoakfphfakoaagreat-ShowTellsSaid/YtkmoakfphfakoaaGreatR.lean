/-
  Walks, part R: hosts.
-/
import Derived.Test.YtkmoakfphfakoaaGreatL
import Derived.Test.YtkmoakfphfakoaaGreatF
import Derived.Test.YtkmoakfphfakoaaGreatH
import Derived.Test.YtkmoakfphfakoaaGreatQ
set_option linter.unusedVariables false
set_option linter.unusedSimpArgs false
namespace Go.Proofs.YtkmoakfphfakoaaGreat
open Go.RowKit Go.Shelf
attribute [local go_sem] Oper.semAt_some

abbrev six8 (p0 p1 p2 p3 p4 p5 p6 p7 : Int) : Value := .agg #[.int .i64 p0, .int .i64 p1, .int .i64 p2, .int .i64 p3, .int .i64 p4, .int .i64 p5, .int .i64 p6, .int .i64 p7]
abbrev hostV (k : Int) (s : ByteArray) (n p0 p1 p2 p3 p4 p5 p6 p7 : Int) : Value := .agg #[.int .i64 k, .string s, .int .i64 n, .int .i64 p0, .int .i64 p1, .int .i64 p2, .int .i64 p3, .int .i64 p4, .int .i64 p5, .int .i64 p6, .int .i64 p7]

theorem as11 (v : Value) (W : World) : (Instr.typeAssert (.iface 73 v) 60 73 true).run Tryz.prog W = .ok (.tuple #[v, .bool true]) W := by kernel_rfl
theorem as22 (v : Value) (W : World) : (Instr.typeAssert (.iface 74 v) 60 74 true).run Tryz.prog W = .ok (.tuple #[v, .bool true]) W := by kernel_rfl
theorem as33 (v : Value) (W : World) : (Instr.typeAssert (.iface 75 v) 60 75 true).run Tryz.prog W = .ok (.tuple #[v, .bool true]) W := by kernel_rfl
theorem as21 (v : Value) (W : World) : (Instr.typeAssert (.iface 74 v) 60 73 true).run Tryz.prog W = .ok (.tuple #[.string ⟨#[]⟩, .bool false]) W := by kernel_rfl
theorem as31 (v : Value) (W : World) : (Instr.typeAssert (.iface 75 v) 60 73 true).run Tryz.prog W = .ok (.tuple #[.string ⟨#[]⟩, .bool false]) W := by kernel_rfl
theorem as32 (v : Value) (W : World) : (Instr.typeAssert (.iface 75 v) 60 74 true).run Tryz.prog W = .ok (.tuple #[.int .i64 0, .bool false]) W := by kernel_rfl

set_option maxRecDepth 100000 in
set_option maxHeartbeats 2000000 in
theorem host1_any (s : ByteArray) (w : World) :
    Calls Tryz.prog 65 #[.iface 73 (.string s)] w fun e w' => e = .returned (hostV 1 s 0 0 0 0 0 0 0 0 0) ∧ Below w.heap.size w w' := by
  have a11 := as11
  go_enter Tryz.func65, Tryz.ntmps65
  go_wp2_with fail
  refine bodyPost_ret (results_cell_row rfl _ _ w.heap.size 24 _ (0, 0) _ rfl (World.alloc_heap_new w _) Tryz.underlying24 rfl (by kernel_rfl)) rfl ?_
  exact ⟨rfl, (Below.refl _ w).alloc (Nat.le_refl _) _⟩
set_option maxRecDepth 100000 in
set_option maxHeartbeats 2000000 in
theorem host2_any (n : Int) (w : World) :
    Calls Tryz.prog 65 #[.iface 74 (.int .i64 n)] w fun e w' => e = .returned (hostV 2 ⟨#[]⟩ n 0 0 0 0 0 0 0 0) ∧ Below w.heap.size w w' := by
  have a21 := as21
  have a22 := as22
  go_enter Tryz.func65, Tryz.ntmps65
  go_wp2_with fail
  refine bodyPost_ret (results_cell_row rfl _ _ w.heap.size 24 _ (0, 0) _ rfl (World.alloc_heap_new w _) Tryz.underlying24 rfl (by kernel_rfl)) rfl ?_
  exact ⟨rfl, (Below.refl _ w).alloc (Nat.le_refl _) _⟩
set_option maxRecDepth 100000 in
set_option maxHeartbeats 2000000 in
theorem host3_any (p0 p1 p2 p3 p4 p5 p6 p7 : Int) (w : World) :
    Calls Tryz.prog 65 #[.iface 75 (six8 p0 p1 p2 p3 p4 p5 p6 p7)] w fun e w' => e = .returned (hostV 3 ⟨#[]⟩ 0 p0 p1 p2 p3 p4 p5 p6 p7) ∧ Below w.heap.size w w' := by
  have a31 := as31
  have a32 := as32
  have a33 := as33
  go_enter Tryz.func65, Tryz.ntmps65
  go_wp2_with fail
  refine bodyPost_ret (results_cell_row rfl _ _ w.heap.size 24 _ (0, 0) _ rfl ((Below.heap_alloc _ _ _ (by simp)).trans (World.alloc_heap_new w _)) Tryz.underlying24 rfl (by kernel_rfl)) rfl ?_
  exact ⟨rfl, ((Below.refl _ w).alloc (Nat.le_refl _) _).alloc (by simp) _⟩

def ofV (k : Int) (s : ByteArray) (n p0 p1 p2 p3 p4 p5 p6 p7 : Int) : Value :=
  if k = 1 then (if fitsD s.data.toList && (n == 0 && eq8 0 0 0 0 0 0 0 0 p0 p1 p2 p3 p4 p5 p6 p7) then .iface 73 (.string s) else .nilIface)
  else if k = 2 then (if decide (0 ≤ n ∧ n ≤ 4294967295) && (s.toList.isEmpty && eq8 0 0 0 0 0 0 0 0 p0 p1 p2 p3 p4 p5 p6 p7) then .iface 74 (.int .i64 n) else .nilIface)
  else if k = 3 then (if mayS [p0, p1, p2, p3, p4, p5, p6, p7] && (s.toList.isEmpty && n == 0) then .iface 75 (six8 p0 p1 p2 p3 p4 p5 p6 p7) else .nilIface)
  else .nilIface

set_option maxRecDepth 100000 in
set_option maxHeartbeats 4000000 in
theorem of1_any (s : ByteArray) (hs : s.size ≤ 140737488351232) (n p0 p1 p2 p3 p4 p5 p6 p7 : Int) (w : World) (hD : Deep w) :
    Calls Tryz.prog 45 #[hostV 1 s n p0 p1 p2 p3 p4 p5 p6 p7] w fun e w' => e = .returned (ofV 1 s n p0 p1 p2 p3 p4 p5 p6 p7) ∧ Below w.heap.size w w' := by
  have hF := fits_any s hs
  unfold ofV
  rw [if_pos rfl]
  obtain ⟨f, hf⟩ : ∃ f, fitsD s.data.toList = f := ⟨_, rfl⟩
  rw [hf] at hF ⊢
  clear hf
  cases f with
  | false =>
    simp only [Bool.false_and, Bool.false_eq_true, if_false]
    go_enter Tryz.func45, Tryz.ntmps45
    go_wp2_with fail
    refine Calls.mono (hF _ (hD.below ((Below.refl _ w).alloc (Nat.le_refl _) _))) ?_
    rintro e w1 ⟨rfl, h1⟩
    have hb1 : w.heap.size < w1.heap.size := by have := h1.size; simp at this; omega
    have hrf := Below.refl w1.heap.size w1
    have c0 : ∀ Wx, Below w1.heap.size w1 Wx → Wx.cell? ⟨w.heap.size, 0, none⟩ = some (.int .i64 1) := fun Wx hx => (hx.cell (p := ⟨w.heap.size, 0, none⟩) hb1).trans ((h1.cell (p := ⟨w.heap.size, 0, none⟩) (by simp)).trans (by simp))
    have c1 : ∀ Wx, Below w1.heap.size w1 Wx → Wx.cell? ⟨w.heap.size, 1, none⟩ = some (.string s) := fun Wx hx => (hx.cell (p := ⟨w.heap.size, 1, none⟩) hb1).trans ((h1.cell (p := ⟨w.heap.size, 1, none⟩) (by simp)).trans (by simp))
    have c2 : ∀ Wx, Below w1.heap.size w1 Wx → Wx.cell? ⟨w.heap.size, 2, none⟩ = some (.int .i64 n) := fun Wx hx => (hx.cell (p := ⟨w.heap.size, 2, none⟩) hb1).trans ((h1.cell (p := ⟨w.heap.size, 2, none⟩) (by simp)).trans (by simp))
    have c3 : ∀ Wx, Below w1.heap.size w1 Wx → Wx.cell? ⟨w.heap.size, 3, none⟩ = some (.int .i64 p0) := fun Wx hx => (hx.cell (p := ⟨w.heap.size, 3, none⟩) hb1).trans ((h1.cell (p := ⟨w.heap.size, 3, none⟩) (by simp)).trans (by simp))
    have c4 : ∀ Wx, Below w1.heap.size w1 Wx → Wx.cell? ⟨w.heap.size, 4, none⟩ = some (.int .i64 p1) := fun Wx hx => (hx.cell (p := ⟨w.heap.size, 4, none⟩) hb1).trans ((h1.cell (p := ⟨w.heap.size, 4, none⟩) (by simp)).trans (by simp))
    have c5 : ∀ Wx, Below w1.heap.size w1 Wx → Wx.cell? ⟨w.heap.size, 5, none⟩ = some (.int .i64 p2) := fun Wx hx => (hx.cell (p := ⟨w.heap.size, 5, none⟩) hb1).trans ((h1.cell (p := ⟨w.heap.size, 5, none⟩) (by simp)).trans (by simp))
    have c6 : ∀ Wx, Below w1.heap.size w1 Wx → Wx.cell? ⟨w.heap.size, 6, none⟩ = some (.int .i64 p3) := fun Wx hx => (hx.cell (p := ⟨w.heap.size, 6, none⟩) hb1).trans ((h1.cell (p := ⟨w.heap.size, 6, none⟩) (by simp)).trans (by simp))
    have c7 : ∀ Wx, Below w1.heap.size w1 Wx → Wx.cell? ⟨w.heap.size, 7, none⟩ = some (.int .i64 p4) := fun Wx hx => (hx.cell (p := ⟨w.heap.size, 7, none⟩) hb1).trans ((h1.cell (p := ⟨w.heap.size, 7, none⟩) (by simp)).trans (by simp))
    have c8 : ∀ Wx, Below w1.heap.size w1 Wx → Wx.cell? ⟨w.heap.size, 8, none⟩ = some (.int .i64 p5) := fun Wx hx => (hx.cell (p := ⟨w.heap.size, 8, none⟩) hb1).trans ((h1.cell (p := ⟨w.heap.size, 8, none⟩) (by simp)).trans (by simp))
    have c9 : ∀ Wx, Below w1.heap.size w1 Wx → Wx.cell? ⟨w.heap.size, 9, none⟩ = some (.int .i64 p6) := fun Wx hx => (hx.cell (p := ⟨w.heap.size, 9, none⟩) hb1).trans ((h1.cell (p := ⟨w.heap.size, 9, none⟩) (by simp)).trans (by simp))
    have c10 : ∀ Wx, Below w1.heap.size w1 Wx → Wx.cell? ⟨w.heap.size, 10, none⟩ = some (.int .i64 p7) := fun Wx hx => (hx.cell (p := ⟨w.heap.size, 10, none⟩) hb1).trans ((h1.cell (p := ⟨w.heap.size, 10, none⟩) (by simp)).trans (by simp))
    go_wp2_with fail
    go_region
    go_wp2_with fail
    go_ret
    exact ⟨rfl, ((Below.refl _ w).alloc (Nat.le_refl _) _).trans ((h1.mono (by simp)).drew)⟩
  | true =>
    simp only [Bool.true_and]
    have hE : eqH 1 s 0 0 0 0 0 0 0 0 0 1 s n p0 p1 p2 p3 p4 p5 p6 p7 = (n == 0 && eq8 0 0 0 0 0 0 0 0 p0 p1 p2 p3 p4 p5 p6 p7) := by
      have : ((0 : Int) == n) = (n == 0) := by rw [Bool.eq_iff_iff]; simp; omega
      simp [eqH, this]
    obtain ⟨q, hq⟩ : ∃ q, (n == 0 && eq8 0 0 0 0 0 0 0 0 p0 p1 p2 p3 p4 p5 p6 p7) = q := ⟨_, rfl⟩
    rw [hq] at hE ⊢
    clear hq
    go_enter Tryz.func45, Tryz.ntmps45
    go_wp2_with fail
    refine Calls.mono (hF _ (hD.below ((Below.refl _ w).alloc (Nat.le_refl _) _))) ?_
    rintro e w1 ⟨rfl, h1⟩
    have hb1 : w.heap.size < w1.heap.size := by have := h1.size; simp at this; omega
    have hrf := Below.refl w1.heap.size w1
    have c0 : ∀ Wx, Below w1.heap.size w1 Wx → Wx.cell? ⟨w.heap.size, 0, none⟩ = some (.int .i64 1) := fun Wx hx => (hx.cell (p := ⟨w.heap.size, 0, none⟩) hb1).trans ((h1.cell (p := ⟨w.heap.size, 0, none⟩) (by simp)).trans (by simp))
    have c1 : ∀ Wx, Below w1.heap.size w1 Wx → Wx.cell? ⟨w.heap.size, 1, none⟩ = some (.string s) := fun Wx hx => (hx.cell (p := ⟨w.heap.size, 1, none⟩) hb1).trans ((h1.cell (p := ⟨w.heap.size, 1, none⟩) (by simp)).trans (by simp))
    have c2 : ∀ Wx, Below w1.heap.size w1 Wx → Wx.cell? ⟨w.heap.size, 2, none⟩ = some (.int .i64 n) := fun Wx hx => (hx.cell (p := ⟨w.heap.size, 2, none⟩) hb1).trans ((h1.cell (p := ⟨w.heap.size, 2, none⟩) (by simp)).trans (by simp))
    have c3 : ∀ Wx, Below w1.heap.size w1 Wx → Wx.cell? ⟨w.heap.size, 3, none⟩ = some (.int .i64 p0) := fun Wx hx => (hx.cell (p := ⟨w.heap.size, 3, none⟩) hb1).trans ((h1.cell (p := ⟨w.heap.size, 3, none⟩) (by simp)).trans (by simp))
    have c4 : ∀ Wx, Below w1.heap.size w1 Wx → Wx.cell? ⟨w.heap.size, 4, none⟩ = some (.int .i64 p1) := fun Wx hx => (hx.cell (p := ⟨w.heap.size, 4, none⟩) hb1).trans ((h1.cell (p := ⟨w.heap.size, 4, none⟩) (by simp)).trans (by simp))
    have c5 : ∀ Wx, Below w1.heap.size w1 Wx → Wx.cell? ⟨w.heap.size, 5, none⟩ = some (.int .i64 p2) := fun Wx hx => (hx.cell (p := ⟨w.heap.size, 5, none⟩) hb1).trans ((h1.cell (p := ⟨w.heap.size, 5, none⟩) (by simp)).trans (by simp))
    have c6 : ∀ Wx, Below w1.heap.size w1 Wx → Wx.cell? ⟨w.heap.size, 6, none⟩ = some (.int .i64 p3) := fun Wx hx => (hx.cell (p := ⟨w.heap.size, 6, none⟩) hb1).trans ((h1.cell (p := ⟨w.heap.size, 6, none⟩) (by simp)).trans (by simp))
    have c7 : ∀ Wx, Below w1.heap.size w1 Wx → Wx.cell? ⟨w.heap.size, 7, none⟩ = some (.int .i64 p4) := fun Wx hx => (hx.cell (p := ⟨w.heap.size, 7, none⟩) hb1).trans ((h1.cell (p := ⟨w.heap.size, 7, none⟩) (by simp)).trans (by simp))
    have c8 : ∀ Wx, Below w1.heap.size w1 Wx → Wx.cell? ⟨w.heap.size, 8, none⟩ = some (.int .i64 p5) := fun Wx hx => (hx.cell (p := ⟨w.heap.size, 8, none⟩) hb1).trans ((h1.cell (p := ⟨w.heap.size, 8, none⟩) (by simp)).trans (by simp))
    have c9 : ∀ Wx, Below w1.heap.size w1 Wx → Wx.cell? ⟨w.heap.size, 9, none⟩ = some (.int .i64 p6) := fun Wx hx => (hx.cell (p := ⟨w.heap.size, 9, none⟩) hb1).trans ((h1.cell (p := ⟨w.heap.size, 9, none⟩) (by simp)).trans (by simp))
    have c10 : ∀ Wx, Below w1.heap.size w1 Wx → Wx.cell? ⟨w.heap.size, 10, none⟩ = some (.int .i64 p7) := fun Wx hx => (hx.cell (p := ⟨w.heap.size, 10, none⟩) hb1).trans ((h1.cell (p := ⟨w.heap.size, 10, none⟩) (by simp)).trans (by simp))
    have hH := Lib.hid (fun Wx (hx : Below w1.heap.size w1 Wx) => (host1_any s Wx).mono (R' := fun e w' => e = .returned (hostV 1 s 0 0 0 0 0 0 0 0 0) ∧ Below w1.heap.size w1 w') fun e w' ⟨he, h⟩ => ⟨he, hx.trans (h.mono hx.size)⟩)
    have hEH := run_eqH
    go_wp2_with fail
    go_region_held3 (fun Wx => Below w1.heap.size w1 Wx) (first | assumption | exact (Below.refl _ _).drew)
      (first
        | (go_at_call 65; refine Calls.mono (hH.out _ (by assumption)) ?_; rintro e w' ⟨rfl, hS⟩))
    cases q
    all_goals go_wp2_with fail
    all_goals go_ret
    all_goals exact ⟨rfl, ((Below.refl _ w).alloc (Nat.le_refl _) _).trans ((h1.mono (by simp)).trans (hS.mono (by omega)))⟩

set_option maxRecDepth 100000 in
set_option maxHeartbeats 4000000 in
theorem of2_any (s : ByteArray) (hs : s.size ≤ 140737488351232) (n p0 p1 p2 p3 p4 p5 p6 p7 : Int) (hn : (Lit.int .i64 n).wf = true) (w : World) (hD : Deep w) :
    Calls Tryz.prog 45 #[hostV 2 s n p0 p1 p2 p3 p4 p5 p6 p7] w fun e w' => e = .returned (ofV 2 s n p0 p1 p2 p3 p4 p5 p6 p7) ∧ Below w.heap.size w w' := by
  have hF := fun W => FShow_any n W hn
  unfold ofV
  rw [if_neg (by decide), if_pos rfl]
  obtain ⟨f, hf⟩ : ∃ f, decide (0 ≤ n ∧ n ≤ 4294967295) = f := ⟨_, rfl⟩
  obtain ⟨t, ht⟩ : ∃ t, fourS n = t := ⟨_, rfl⟩
  have htf : t.isEmpty = !f := by
    rw [← ht, ← hf, fourS]
    by_cases h : 0 ≤ n ∧ n ≤ 4294967295
    · rw [if_pos h]; simp [h, fourL, Lib.join]
    · rw [if_neg h, decide_eq_false h]; rfl
  rw [hf]
  rw [ht] at hF
  clear hf ht hn
  cases f with
  | false =>
    obtain rfl : t = [] := by simpa using htf
    clear htf
    simp only [Bool.false_and, Bool.false_eq_true, if_false]
    go_enter Tryz.func45, Tryz.ntmps45
    go_wp2_with fail
    refine Calls.mono (hF _) ?_
    rintro e w1 ⟨rfl, h1⟩
    have hb1 : w.heap.size < w1.heap.size := by have := h1.size; simp at this; omega
    have hrf := Below.refl w1.heap.size w1
    have c0 : ∀ Wx, Below w1.heap.size w1 Wx → Wx.cell? ⟨w.heap.size, 0, none⟩ = some (.int .i64 2) := fun Wx hx => (hx.cell (p := ⟨w.heap.size, 0, none⟩) hb1).trans ((h1.cell (p := ⟨w.heap.size, 0, none⟩) (by simp)).trans (by simp))
    have c1 : ∀ Wx, Below w1.heap.size w1 Wx → Wx.cell? ⟨w.heap.size, 1, none⟩ = some (.string s) := fun Wx hx => (hx.cell (p := ⟨w.heap.size, 1, none⟩) hb1).trans ((h1.cell (p := ⟨w.heap.size, 1, none⟩) (by simp)).trans (by simp))
    have c2 : ∀ Wx, Below w1.heap.size w1 Wx → Wx.cell? ⟨w.heap.size, 2, none⟩ = some (.int .i64 n) := fun Wx hx => (hx.cell (p := ⟨w.heap.size, 2, none⟩) hb1).trans ((h1.cell (p := ⟨w.heap.size, 2, none⟩) (by simp)).trans (by simp))
    have c3 : ∀ Wx, Below w1.heap.size w1 Wx → Wx.cell? ⟨w.heap.size, 3, none⟩ = some (.int .i64 p0) := fun Wx hx => (hx.cell (p := ⟨w.heap.size, 3, none⟩) hb1).trans ((h1.cell (p := ⟨w.heap.size, 3, none⟩) (by simp)).trans (by simp))
    have c4 : ∀ Wx, Below w1.heap.size w1 Wx → Wx.cell? ⟨w.heap.size, 4, none⟩ = some (.int .i64 p1) := fun Wx hx => (hx.cell (p := ⟨w.heap.size, 4, none⟩) hb1).trans ((h1.cell (p := ⟨w.heap.size, 4, none⟩) (by simp)).trans (by simp))
    have c5 : ∀ Wx, Below w1.heap.size w1 Wx → Wx.cell? ⟨w.heap.size, 5, none⟩ = some (.int .i64 p2) := fun Wx hx => (hx.cell (p := ⟨w.heap.size, 5, none⟩) hb1).trans ((h1.cell (p := ⟨w.heap.size, 5, none⟩) (by simp)).trans (by simp))
    have c6 : ∀ Wx, Below w1.heap.size w1 Wx → Wx.cell? ⟨w.heap.size, 6, none⟩ = some (.int .i64 p3) := fun Wx hx => (hx.cell (p := ⟨w.heap.size, 6, none⟩) hb1).trans ((h1.cell (p := ⟨w.heap.size, 6, none⟩) (by simp)).trans (by simp))
    have c7 : ∀ Wx, Below w1.heap.size w1 Wx → Wx.cell? ⟨w.heap.size, 7, none⟩ = some (.int .i64 p4) := fun Wx hx => (hx.cell (p := ⟨w.heap.size, 7, none⟩) hb1).trans ((h1.cell (p := ⟨w.heap.size, 7, none⟩) (by simp)).trans (by simp))
    have c8 : ∀ Wx, Below w1.heap.size w1 Wx → Wx.cell? ⟨w.heap.size, 8, none⟩ = some (.int .i64 p5) := fun Wx hx => (hx.cell (p := ⟨w.heap.size, 8, none⟩) hb1).trans ((h1.cell (p := ⟨w.heap.size, 8, none⟩) (by simp)).trans (by simp))
    have c9 : ∀ Wx, Below w1.heap.size w1 Wx → Wx.cell? ⟨w.heap.size, 9, none⟩ = some (.int .i64 p6) := fun Wx hx => (hx.cell (p := ⟨w.heap.size, 9, none⟩) hb1).trans ((h1.cell (p := ⟨w.heap.size, 9, none⟩) (by simp)).trans (by simp))
    have c10 : ∀ Wx, Below w1.heap.size w1 Wx → Wx.cell? ⟨w.heap.size, 10, none⟩ = some (.int .i64 p7) := fun Wx hx => (hx.cell (p := ⟨w.heap.size, 10, none⟩) hb1).trans ((h1.cell (p := ⟨w.heap.size, 10, none⟩) (by simp)).trans (by simp))
    go_wp2_with fail
    go_region
    go_wp2_with fail
    go_ret
    exact ⟨rfl, ((Below.refl _ w).alloc (Nat.le_refl _) _).trans ((h1.mono (by simp)).drew)⟩
  | true =>
    obtain ⟨a, t, rfl⟩ : ∃ a t', t = a :: t' := by
      cases t with
      | nil => cases htf
      | cons a t => exact ⟨_, _, rfl⟩
    clear htf
    simp only [Bool.true_and]
    have hE : eqH 2 ⟨#[]⟩ n 0 0 0 0 0 0 0 0 2 s n p0 p1 p2 p3 p4 p5 p6 p7 = (s.toList.isEmpty && eq8 0 0 0 0 0 0 0 0 p0 p1 p2 p3 p4 p5 p6 p7) := by
      have : ((⟨#[]⟩ : ByteArray).toList == s.toList) = s.toList.isEmpty := by
        rw [Lib.toList_data ⟨#[]⟩]; cases s.toList <;> rfl
      simp [eqH, this]
    obtain ⟨q, hq⟩ : ∃ q, (s.toList.isEmpty && eq8 0 0 0 0 0 0 0 0 p0 p1 p2 p3 p4 p5 p6 p7) = q := ⟨_, rfl⟩
    rw [hq] at hE ⊢
    clear hq
    go_enter Tryz.func45, Tryz.ntmps45
    go_wp2_with fail
    refine Calls.mono (hF _) ?_
    rintro e w1 ⟨rfl, h1⟩
    have hb1 : w.heap.size < w1.heap.size := by have := h1.size; simp at this; omega
    have hrf := Below.refl w1.heap.size w1
    have c0 : ∀ Wx, Below w1.heap.size w1 Wx → Wx.cell? ⟨w.heap.size, 0, none⟩ = some (.int .i64 2) := fun Wx hx => (hx.cell (p := ⟨w.heap.size, 0, none⟩) hb1).trans ((h1.cell (p := ⟨w.heap.size, 0, none⟩) (by simp)).trans (by simp))
    have c1 : ∀ Wx, Below w1.heap.size w1 Wx → Wx.cell? ⟨w.heap.size, 1, none⟩ = some (.string s) := fun Wx hx => (hx.cell (p := ⟨w.heap.size, 1, none⟩) hb1).trans ((h1.cell (p := ⟨w.heap.size, 1, none⟩) (by simp)).trans (by simp))
    have c2 : ∀ Wx, Below w1.heap.size w1 Wx → Wx.cell? ⟨w.heap.size, 2, none⟩ = some (.int .i64 n) := fun Wx hx => (hx.cell (p := ⟨w.heap.size, 2, none⟩) hb1).trans ((h1.cell (p := ⟨w.heap.size, 2, none⟩) (by simp)).trans (by simp))
    have c3 : ∀ Wx, Below w1.heap.size w1 Wx → Wx.cell? ⟨w.heap.size, 3, none⟩ = some (.int .i64 p0) := fun Wx hx => (hx.cell (p := ⟨w.heap.size, 3, none⟩) hb1).trans ((h1.cell (p := ⟨w.heap.size, 3, none⟩) (by simp)).trans (by simp))
    have c4 : ∀ Wx, Below w1.heap.size w1 Wx → Wx.cell? ⟨w.heap.size, 4, none⟩ = some (.int .i64 p1) := fun Wx hx => (hx.cell (p := ⟨w.heap.size, 4, none⟩) hb1).trans ((h1.cell (p := ⟨w.heap.size, 4, none⟩) (by simp)).trans (by simp))
    have c5 : ∀ Wx, Below w1.heap.size w1 Wx → Wx.cell? ⟨w.heap.size, 5, none⟩ = some (.int .i64 p2) := fun Wx hx => (hx.cell (p := ⟨w.heap.size, 5, none⟩) hb1).trans ((h1.cell (p := ⟨w.heap.size, 5, none⟩) (by simp)).trans (by simp))
    have c6 : ∀ Wx, Below w1.heap.size w1 Wx → Wx.cell? ⟨w.heap.size, 6, none⟩ = some (.int .i64 p3) := fun Wx hx => (hx.cell (p := ⟨w.heap.size, 6, none⟩) hb1).trans ((h1.cell (p := ⟨w.heap.size, 6, none⟩) (by simp)).trans (by simp))
    have c7 : ∀ Wx, Below w1.heap.size w1 Wx → Wx.cell? ⟨w.heap.size, 7, none⟩ = some (.int .i64 p4) := fun Wx hx => (hx.cell (p := ⟨w.heap.size, 7, none⟩) hb1).trans ((h1.cell (p := ⟨w.heap.size, 7, none⟩) (by simp)).trans (by simp))
    have c8 : ∀ Wx, Below w1.heap.size w1 Wx → Wx.cell? ⟨w.heap.size, 8, none⟩ = some (.int .i64 p5) := fun Wx hx => (hx.cell (p := ⟨w.heap.size, 8, none⟩) hb1).trans ((h1.cell (p := ⟨w.heap.size, 8, none⟩) (by simp)).trans (by simp))
    have c9 : ∀ Wx, Below w1.heap.size w1 Wx → Wx.cell? ⟨w.heap.size, 9, none⟩ = some (.int .i64 p6) := fun Wx hx => (hx.cell (p := ⟨w.heap.size, 9, none⟩) hb1).trans ((h1.cell (p := ⟨w.heap.size, 9, none⟩) (by simp)).trans (by simp))
    have c10 : ∀ Wx, Below w1.heap.size w1 Wx → Wx.cell? ⟨w.heap.size, 10, none⟩ = some (.int .i64 p7) := fun Wx hx => (hx.cell (p := ⟨w.heap.size, 10, none⟩) hb1).trans ((h1.cell (p := ⟨w.heap.size, 10, none⟩) (by simp)).trans (by simp))
    have hH := Lib.hid (fun Wx (hx : Below w1.heap.size w1 Wx) => (host2_any n Wx).mono (R' := fun e w' => e = .returned (hostV 2 ⟨#[]⟩ n 0 0 0 0 0 0 0 0) ∧ Below w1.heap.size w1 w') fun e w' ⟨he, h⟩ => ⟨he, hx.trans (h.mono hx.size)⟩)
    have hEH := run_eqH
    go_wp2_with fail
    go_region_held3 (fun Wx => Below w1.heap.size w1 Wx) (first | assumption | exact (Below.refl _ _).drew)
      (first
        | (go_at_call 65; refine Calls.mono (hH.out _ (by assumption)) ?_; rintro e w' ⟨rfl, hS⟩))
    cases q
    all_goals go_wp2_with fail
    all_goals go_ret
    all_goals exact ⟨rfl, ((Below.refl _ w).alloc (Nat.le_refl _) _).trans ((h1.mono (by simp)).trans (hS.mono (by omega)))⟩

set_option maxRecDepth 100000 in
set_option maxHeartbeats 4000000 in
theorem of3_any (s : ByteArray) (hs : s.size ≤ 140737488351232) (n p0 p1 p2 p3 p4 p5 p6 p7 : Int) (w : World) (hD : Deep w) :
    Calls Tryz.prog 45 #[hostV 3 s n p0 p1 p2 p3 p4 p5 p6 p7] w fun e w' => e = .returned (ofV 3 s n p0 p1 p2 p3 p4 p5 p6 p7) ∧ Below w.heap.size w w' := by
  have hF := May6_any p0 p1 p2 p3 p4 p5 p6 p7
  unfold ofV
  rw [if_neg (by decide), if_neg (by decide), if_pos rfl]
  obtain ⟨f, hf⟩ : ∃ f, mayS [p0, p1, p2, p3, p4, p5, p6, p7] = f := ⟨_, rfl⟩
  rw [hf] at hF ⊢
  clear hf
  cases f with
  | false =>
    simp only [Bool.false_and, Bool.false_eq_true, if_false]
    go_enter Tryz.func45, Tryz.ntmps45
    go_wp2_with fail
    refine Calls.mono (hF _) ?_
    rintro e w1 ⟨rfl, h1⟩
    have hb1 : w.heap.size < w1.heap.size := by have := h1.size; simp at this; omega
    have hrf := Below.refl w1.heap.size w1
    have c0 : ∀ Wx, Below w1.heap.size w1 Wx → Wx.cell? ⟨w.heap.size, 0, none⟩ = some (.int .i64 3) := fun Wx hx => (hx.cell (p := ⟨w.heap.size, 0, none⟩) hb1).trans ((h1.cell (p := ⟨w.heap.size, 0, none⟩) (by simp)).trans (by simp))
    have c1 : ∀ Wx, Below w1.heap.size w1 Wx → Wx.cell? ⟨w.heap.size, 1, none⟩ = some (.string s) := fun Wx hx => (hx.cell (p := ⟨w.heap.size, 1, none⟩) hb1).trans ((h1.cell (p := ⟨w.heap.size, 1, none⟩) (by simp)).trans (by simp))
    have c2 : ∀ Wx, Below w1.heap.size w1 Wx → Wx.cell? ⟨w.heap.size, 2, none⟩ = some (.int .i64 n) := fun Wx hx => (hx.cell (p := ⟨w.heap.size, 2, none⟩) hb1).trans ((h1.cell (p := ⟨w.heap.size, 2, none⟩) (by simp)).trans (by simp))
    have c3 : ∀ Wx, Below w1.heap.size w1 Wx → Wx.cell? ⟨w.heap.size, 3, none⟩ = some (.int .i64 p0) := fun Wx hx => (hx.cell (p := ⟨w.heap.size, 3, none⟩) hb1).trans ((h1.cell (p := ⟨w.heap.size, 3, none⟩) (by simp)).trans (by simp))
    have c4 : ∀ Wx, Below w1.heap.size w1 Wx → Wx.cell? ⟨w.heap.size, 4, none⟩ = some (.int .i64 p1) := fun Wx hx => (hx.cell (p := ⟨w.heap.size, 4, none⟩) hb1).trans ((h1.cell (p := ⟨w.heap.size, 4, none⟩) (by simp)).trans (by simp))
    have c5 : ∀ Wx, Below w1.heap.size w1 Wx → Wx.cell? ⟨w.heap.size, 5, none⟩ = some (.int .i64 p2) := fun Wx hx => (hx.cell (p := ⟨w.heap.size, 5, none⟩) hb1).trans ((h1.cell (p := ⟨w.heap.size, 5, none⟩) (by simp)).trans (by simp))
    have c6 : ∀ Wx, Below w1.heap.size w1 Wx → Wx.cell? ⟨w.heap.size, 6, none⟩ = some (.int .i64 p3) := fun Wx hx => (hx.cell (p := ⟨w.heap.size, 6, none⟩) hb1).trans ((h1.cell (p := ⟨w.heap.size, 6, none⟩) (by simp)).trans (by simp))
    have c7 : ∀ Wx, Below w1.heap.size w1 Wx → Wx.cell? ⟨w.heap.size, 7, none⟩ = some (.int .i64 p4) := fun Wx hx => (hx.cell (p := ⟨w.heap.size, 7, none⟩) hb1).trans ((h1.cell (p := ⟨w.heap.size, 7, none⟩) (by simp)).trans (by simp))
    have c8 : ∀ Wx, Below w1.heap.size w1 Wx → Wx.cell? ⟨w.heap.size, 8, none⟩ = some (.int .i64 p5) := fun Wx hx => (hx.cell (p := ⟨w.heap.size, 8, none⟩) hb1).trans ((h1.cell (p := ⟨w.heap.size, 8, none⟩) (by simp)).trans (by simp))
    have c9 : ∀ Wx, Below w1.heap.size w1 Wx → Wx.cell? ⟨w.heap.size, 9, none⟩ = some (.int .i64 p6) := fun Wx hx => (hx.cell (p := ⟨w.heap.size, 9, none⟩) hb1).trans ((h1.cell (p := ⟨w.heap.size, 9, none⟩) (by simp)).trans (by simp))
    have c10 : ∀ Wx, Below w1.heap.size w1 Wx → Wx.cell? ⟨w.heap.size, 10, none⟩ = some (.int .i64 p7) := fun Wx hx => (hx.cell (p := ⟨w.heap.size, 10, none⟩) hb1).trans ((h1.cell (p := ⟨w.heap.size, 10, none⟩) (by simp)).trans (by simp))
    go_wp2_with fail
    go_region
    go_wp2_with fail
    go_ret
    exact ⟨rfl, ((Below.refl _ w).alloc (Nat.le_refl _) _).trans ((h1.mono (by simp)).drew)⟩
  | true =>
    simp only [Bool.true_and]
    have hE : eqH 3 ⟨#[]⟩ 0 p0 p1 p2 p3 p4 p5 p6 p7 3 s n p0 p1 p2 p3 p4 p5 p6 p7 = (s.toList.isEmpty && n == 0) := by
      have h1 : ((⟨#[]⟩ : ByteArray).toList == s.toList) = s.toList.isEmpty := by
        rw [Lib.toList_data ⟨#[]⟩]; cases s.toList <;> rfl
      have h2 : ((0 : Int) == n) = (n == 0) := by rw [Bool.eq_iff_iff]; simp; omega
      simp [eqH, eq8, h1, h2]
    obtain ⟨q, hq⟩ : ∃ q, (s.toList.isEmpty && n == 0) = q := ⟨_, rfl⟩
    rw [hq] at hE ⊢
    clear hq
    go_enter Tryz.func45, Tryz.ntmps45
    go_wp2_with fail
    refine Calls.mono (hF _) ?_
    rintro e w1 ⟨rfl, h1⟩
    have hb1 : w.heap.size < w1.heap.size := by have := h1.size; simp at this; omega
    have hrf := Below.refl w1.heap.size w1
    have c0 : ∀ Wx, Below w1.heap.size w1 Wx → Wx.cell? ⟨w.heap.size, 0, none⟩ = some (.int .i64 3) := fun Wx hx => (hx.cell (p := ⟨w.heap.size, 0, none⟩) hb1).trans ((h1.cell (p := ⟨w.heap.size, 0, none⟩) (by simp)).trans (by simp))
    have c1 : ∀ Wx, Below w1.heap.size w1 Wx → Wx.cell? ⟨w.heap.size, 1, none⟩ = some (.string s) := fun Wx hx => (hx.cell (p := ⟨w.heap.size, 1, none⟩) hb1).trans ((h1.cell (p := ⟨w.heap.size, 1, none⟩) (by simp)).trans (by simp))
    have c2 : ∀ Wx, Below w1.heap.size w1 Wx → Wx.cell? ⟨w.heap.size, 2, none⟩ = some (.int .i64 n) := fun Wx hx => (hx.cell (p := ⟨w.heap.size, 2, none⟩) hb1).trans ((h1.cell (p := ⟨w.heap.size, 2, none⟩) (by simp)).trans (by simp))
    have c3 : ∀ Wx, Below w1.heap.size w1 Wx → Wx.cell? ⟨w.heap.size, 3, none⟩ = some (.int .i64 p0) := fun Wx hx => (hx.cell (p := ⟨w.heap.size, 3, none⟩) hb1).trans ((h1.cell (p := ⟨w.heap.size, 3, none⟩) (by simp)).trans (by simp))
    have c4 : ∀ Wx, Below w1.heap.size w1 Wx → Wx.cell? ⟨w.heap.size, 4, none⟩ = some (.int .i64 p1) := fun Wx hx => (hx.cell (p := ⟨w.heap.size, 4, none⟩) hb1).trans ((h1.cell (p := ⟨w.heap.size, 4, none⟩) (by simp)).trans (by simp))
    have c5 : ∀ Wx, Below w1.heap.size w1 Wx → Wx.cell? ⟨w.heap.size, 5, none⟩ = some (.int .i64 p2) := fun Wx hx => (hx.cell (p := ⟨w.heap.size, 5, none⟩) hb1).trans ((h1.cell (p := ⟨w.heap.size, 5, none⟩) (by simp)).trans (by simp))
    have c6 : ∀ Wx, Below w1.heap.size w1 Wx → Wx.cell? ⟨w.heap.size, 6, none⟩ = some (.int .i64 p3) := fun Wx hx => (hx.cell (p := ⟨w.heap.size, 6, none⟩) hb1).trans ((h1.cell (p := ⟨w.heap.size, 6, none⟩) (by simp)).trans (by simp))
    have c7 : ∀ Wx, Below w1.heap.size w1 Wx → Wx.cell? ⟨w.heap.size, 7, none⟩ = some (.int .i64 p4) := fun Wx hx => (hx.cell (p := ⟨w.heap.size, 7, none⟩) hb1).trans ((h1.cell (p := ⟨w.heap.size, 7, none⟩) (by simp)).trans (by simp))
    have c8 : ∀ Wx, Below w1.heap.size w1 Wx → Wx.cell? ⟨w.heap.size, 8, none⟩ = some (.int .i64 p5) := fun Wx hx => (hx.cell (p := ⟨w.heap.size, 8, none⟩) hb1).trans ((h1.cell (p := ⟨w.heap.size, 8, none⟩) (by simp)).trans (by simp))
    have c9 : ∀ Wx, Below w1.heap.size w1 Wx → Wx.cell? ⟨w.heap.size, 9, none⟩ = some (.int .i64 p6) := fun Wx hx => (hx.cell (p := ⟨w.heap.size, 9, none⟩) hb1).trans ((h1.cell (p := ⟨w.heap.size, 9, none⟩) (by simp)).trans (by simp))
    have c10 : ∀ Wx, Below w1.heap.size w1 Wx → Wx.cell? ⟨w.heap.size, 10, none⟩ = some (.int .i64 p7) := fun Wx hx => (hx.cell (p := ⟨w.heap.size, 10, none⟩) hb1).trans ((h1.cell (p := ⟨w.heap.size, 10, none⟩) (by simp)).trans (by simp))
    have hH := Lib.hid (fun Wx (hx : Below w1.heap.size w1 Wx) => (host3_any p0 p1 p2 p3 p4 p5 p6 p7 Wx).mono (R' := fun e w' => e = .returned (hostV 3 ⟨#[]⟩ 0 p0 p1 p2 p3 p4 p5 p6 p7) ∧ Below w1.heap.size w1 w') fun e w' ⟨he, h⟩ => ⟨he, hx.trans (h.mono hx.size)⟩)
    have hEH := run_eqH
    go_wp2_with fail
    go_region_held3 (fun Wx => Below w1.heap.size w1 Wx) (first | assumption | exact (Below.refl _ _).drew)
      (first
        | (go_at_call 65; refine Calls.mono (hH.out _ (by assumption)) ?_; rintro e w' ⟨rfl, hS⟩))
    cases q
    all_goals go_wp2_with fail
    all_goals go_ret
    all_goals exact ⟨rfl, ((Below.refl _ w).alloc (Nat.le_refl _) _).trans ((h1.mono (by simp)).trans (hS.mono (by omega)))⟩

set_option maxRecDepth 100000 in
set_option maxHeartbeats 4000000 in
theorem of0_any (k : Int) (s : ByteArray) (n p0 p1 p2 p3 p4 p5 p6 p7 : Int) (h1 : k ≠ 1) (h2 : k ≠ 2) (h3 : k ≠ 3) (w : World) :
    Calls Tryz.prog 45 #[hostV k s n p0 p1 p2 p3 p4 p5 p6 p7] w fun e w' => e = .returned (ofV k s n p0 p1 p2 p3 p4 p5 p6 p7) ∧ Below w.heap.size w w' := by
  unfold ofV
  rw [if_neg h1, if_neg h2, if_neg h3]
  have e1 : (k == 1) = false := by simpa using h1
  have e2 : (k == 2) = false := by simpa using h2
  have e3 : (k == 3) = false := by simpa using h3
  clear h1 h2 h3
  go_enter Tryz.func45, Tryz.ntmps45
  go_wp2_with fail
  go_region
  go_wp2_with fail
  go_ret
  exact ⟨rfl, ((Below.refl _ w).alloc (Nat.le_refl _) _).drew⟩

theorem of_any (k : Int) (s : ByteArray) (hs : s.size ≤ 140737488351232) (n p0 p1 p2 p3 p4 p5 p6 p7 : Int) (hn : (Lit.int .i64 n).wf = true) (w : World) (hD : Deep w) :
    Calls Tryz.prog 45 #[hostV k s n p0 p1 p2 p3 p4 p5 p6 p7] w fun e w' => e = .returned (ofV k s n p0 p1 p2 p3 p4 p5 p6 p7) ∧ Below w.heap.size w w' := by
  by_cases h1 : k = 1
  · subst h1; exact of1_any s hs n p0 p1 p2 p3 p4 p5 p6 p7 w hD
  by_cases h2 : k = 2
  · subst h2; exact of2_any s hs n p0 p1 p2 p3 p4 p5 p6 p7 hn w hD
  by_cases h3 : k = 3
  · subst h3; exact of3_any s hs n p0 p1 p2 p3 p4 p5 p6 p7 w hD
  exact of0_any k s n p0 p1 p2 p3 p4 p5 p6 p7 h1 h2 h3 w
end Go.Proofs.YtkmoakfphfakoaaGreat
