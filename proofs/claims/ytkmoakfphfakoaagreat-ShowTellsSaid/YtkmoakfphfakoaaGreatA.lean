/-
  Walks, part A: pct.In and the functions that it makes; ascii.in, Digit.
-/
import Derived.Test.YtkmoakfphfakoaaGreatProg
import Derived.Test.YtkmoakfphfakoaaGreatP
import Derived.Test.YtkmoakfphfakoaaGreatShelf
import Derived.WalkKit
import Derived.WalkSpells
import Derived.WalkLawsBesides
import Derived.Laws.EntriesVeiled
namespace Go.Proofs.YtkmoakfphfakoaaGreat
open Go.RowKit

theorem hmf (fn : Fn) (first cap : Array Value) (w : World) : (Instr.makeFunc fn first cap).run Tryz.prog w = .ok (.func fn first cap) w := rfl

theorem in_any (c a b : Int) (w : World) :
    Calls Tryz.prog 105 #[.int .u8 c, .int .u8 a, .int .u8 b] w fun e w' => e = .returned (.bool (decide (a ≤ c) && decide (c ≤ b))) ∧ w = w' := by
  cases h1 : decide (a ≤ c) <;>
  ( go_enter Tryz.func105, Tryz.ntmps105
    go_wp2_with fail
    go_ret
    exact ⟨by simp, rfl⟩)

theorem ib (s : ByteArray) (c : UInt8) (w : World) :
    Calls Tryz.prog 89 #[.string s, .int .u8 c.toNat] w fun e w' => e = .returned (.int .i64 (Lib.indexByte s.data.toList c)) ∧ w = w' :=
  (Tryz.strings_IndexByte s c.toNat w).mono fun e w' ⟨he, hw⟩ => ⟨by simpa using he, hw.symm⟩

theorem has_any (s : ByteArray) (c : UInt8) (b : Nat) (w : World) (hc : w.cell? ⟨b, 0, none⟩ = some (.int .u8 c.toNat)) :
    Calls Tryz.prog 88 #[.string s, .pointer (some ⟨b, 0, none⟩)] w fun e w' => e = .returned (.bool (has s.data.toList c)) ∧ w = w' := by
  go_enter Tryz.func88, Tryz.ntmps88
  go_wp2_with (first | (go_at_call 89; refine (ib _ _ _).mono ?_; rintro e w' ⟨rfl, rfl⟩))
  go_ret
  exact ⟨by simp [has], rfl⟩

theorem base_any (c : UInt8) (b : Nat) (w : World) (hc : w.cell? ⟨b, 0, none⟩ = some (.int .u8 c.toNat)) :
    Calls Tryz.prog 90 #[.pointer (some ⟨b, 0, none⟩)] w fun e w' => e = .returned (.bool (inBase c)) ∧ w = w' := by
  cases h1 : decide ((c.toNat : Int) < 32) <;>
  ( go_enter Tryz.func90, Tryz.ntmps90
    go_wp2_with fail
    go_ret
    have h2 : decide ((c.toNat : Int) < 32) = decide (c.toNat < 32) := by simp; omega
    exact ⟨by rw [h2] at h1; simp [inBase, h1]; try omega, rfl⟩)

theorem In0 (c : UInt8) (w : World) :
    Calls Tryz.prog 68 #[.int .i64 0, .int .u8 c.toNat] w fun e w' => e = .returned (.bool (inBase c)) ∧ Below w.heap.size w w' := by
  have hmf := hmf
  go_enter Tryz.func68, Tryz.ntmps68
  go_wp2_with (first | (go_at_call 90; refine Calls.mono (base_any c _ _ (by go_simp)) ?_; rintro e w' ⟨rfl, rfl⟩))
  go_ret
  exact ⟨by simp, (((Below.refl _ w).alloc (Nat.le_refl _) _).alloc (by simp) _).alloc (by simp; omega) _⟩

theorem clo3 (c : UInt8) (b b' : Nat) (w : World) (hc : w.cell? ⟨b, 0, none⟩ = some (.int .u8 c.toNat)) (hh : w.cell? ⟨b', 0, none⟩ = some (.func (.func 88) #[] #[.pointer (some ⟨b, 0, none⟩)])) (hb : b < w.heap.size) (hb' : b' < w.heap.size) :
    Calls Tryz.prog 91 #[.pointer (some ⟨b, 0, none⟩), .pointer (some ⟨b', 0, none⟩)] w fun e w' => e = .returned (.bool (inBase c || has set1 c)) ∧ Below w.heap.size w w' := by
  have key := In0 c w
  cases h1 : (inBase c) <;> rw [h1] at key
  · go_enter Tryz.func91, Tryz.ntmps91
    go_wp2_with fail
    refine Calls.mono key ?_
    rintro e w1 ⟨rfl, hbl⟩
    have hc1 : w1.cell? ⟨b, 0, none⟩ = some (.int .u8 c.toNat) := (hbl.cell (p := ⟨b, 0, none⟩) hb).trans hc
    have hh1 : w1.cell? ⟨b', 0, none⟩ = some (.func (.func 88) #[] #[.pointer (some ⟨b, 0, none⟩)]) := (hbl.cell (p := ⟨b', 0, none⟩) hb').trans hh
    go_wp2_with (first | (go_at_call 88; refine Calls.mono (has_any _ c b _ hc1) ?_; rintro e w' ⟨rfl, rfl⟩))
    go_ret
    exact ⟨by simp [set1], hbl⟩
  · go_enter Tryz.func91, Tryz.ntmps91
    go_wp2_with fail
    refine Calls.mono key ?_
    rintro e w1 ⟨rfl, hbl⟩
    go_wp2_with fail
    go_ret
    exact ⟨by simp, hbl⟩

theorem In1 (c : UInt8) (w : World) :
    Calls Tryz.prog 68 #[.int .i64 1, .int .u8 c.toNat] w fun e w' => e = .returned (.bool (inBase c || has set1 c)) ∧ Below w.heap.size w w' := by
  have hmf := hmf
  go_enter Tryz.func68, Tryz.ntmps68
  go_wp2_with fail
  refine Calls.mono (clo3 c _ _ _ (by go_simp) (by go_simp) (by simp <;> omega) (by simp <;> omega)) ?_
  rintro e w1 ⟨rfl, hbl⟩
  go_wp2_with fail
  go_ret
  exact ⟨by simp, ((((Below.refl _ w).alloc (Nat.le_refl _) _).alloc (by simp) _).alloc (by simp; omega) _).trans (hbl.mono (by simp; omega))⟩

theorem clo4 (c : UInt8) (b b' : Nat) (w : World) (hc : w.cell? ⟨b, 0, none⟩ = some (.int .u8 c.toNat)) (hh : w.cell? ⟨b', 0, none⟩ = some (.func (.func 88) #[] #[.pointer (some ⟨b, 0, none⟩)])) (hb : b < w.heap.size) (hb' : b' < w.heap.size) :
    Calls Tryz.prog 92 #[.pointer (some ⟨b, 0, none⟩), .pointer (some ⟨b', 0, none⟩)] w fun e w' => e = .returned (.bool (inBase c || has set2 c)) ∧ Below w.heap.size w w' := by
  have key := In0 c w
  cases h1 : (inBase c) <;> rw [h1] at key
  · go_enter Tryz.func92, Tryz.ntmps92
    go_wp2_with fail
    refine Calls.mono key ?_
    rintro e w1 ⟨rfl, hbl⟩
    have hc1 : w1.cell? ⟨b, 0, none⟩ = some (.int .u8 c.toNat) := (hbl.cell (p := ⟨b, 0, none⟩) hb).trans hc
    have hh1 : w1.cell? ⟨b', 0, none⟩ = some (.func (.func 88) #[] #[.pointer (some ⟨b, 0, none⟩)]) := (hbl.cell (p := ⟨b', 0, none⟩) hb').trans hh
    go_wp2_with (first | (go_at_call 88; refine Calls.mono (has_any _ c b _ hc1) ?_; rintro e w' ⟨rfl, rfl⟩))
    go_ret
    exact ⟨by simp [set2], hbl⟩
  · go_enter Tryz.func92, Tryz.ntmps92
    go_wp2_with fail
    refine Calls.mono key ?_
    rintro e w1 ⟨rfl, hbl⟩
    go_wp2_with fail
    go_ret
    exact ⟨by simp, hbl⟩

theorem In2 (c : UInt8) (w : World) :
    Calls Tryz.prog 68 #[.int .i64 2, .int .u8 c.toNat] w fun e w' => e = .returned (.bool (inBase c || has set2 c)) ∧ Below w.heap.size w w' := by
  have hmf := hmf
  go_enter Tryz.func68, Tryz.ntmps68
  go_wp2_with fail
  refine Calls.mono (clo4 c _ _ _ (by go_simp) (by go_simp) (by simp <;> omega) (by simp <;> omega)) ?_
  rintro e w1 ⟨rfl, hbl⟩
  go_wp2_with fail
  go_ret
  exact ⟨by simp, ((((Below.refl _ w).alloc (Nat.le_refl _) _).alloc (by simp) _).alloc (by simp; omega) _).trans (hbl.mono (by simp; omega))⟩

theorem clo5 (c : UInt8) (b b' : Nat) (w : World) (hc : w.cell? ⟨b, 0, none⟩ = some (.int .u8 c.toNat)) (hh : w.cell? ⟨b', 0, none⟩ = some (.func (.func 88) #[] #[.pointer (some ⟨b, 0, none⟩)])) (hb : b < w.heap.size) (hb' : b' < w.heap.size) :
    Calls Tryz.prog 93 #[.pointer (some ⟨b, 0, none⟩), .pointer (some ⟨b', 0, none⟩)] w fun e w' => e = .returned (.bool (inBase c || has set2 c || has set3 c)) ∧ Below w.heap.size w w' := by
  have key := In2 c w
  cases h1 : (inBase c || has set2 c) <;> rw [h1] at key
  · go_enter Tryz.func93, Tryz.ntmps93
    go_wp2_with fail
    refine Calls.mono key ?_
    rintro e w1 ⟨rfl, hbl⟩
    have hc1 : w1.cell? ⟨b, 0, none⟩ = some (.int .u8 c.toNat) := (hbl.cell (p := ⟨b, 0, none⟩) hb).trans hc
    have hh1 : w1.cell? ⟨b', 0, none⟩ = some (.func (.func 88) #[] #[.pointer (some ⟨b, 0, none⟩)]) := (hbl.cell (p := ⟨b', 0, none⟩) hb').trans hh
    go_wp2_with (first | (go_at_call 88; refine Calls.mono (has_any _ c b _ hc1) ?_; rintro e w' ⟨rfl, rfl⟩))
    go_ret
    exact ⟨by simp [set3], hbl⟩
  · go_enter Tryz.func93, Tryz.ntmps93
    go_wp2_with fail
    refine Calls.mono key ?_
    rintro e w1 ⟨rfl, hbl⟩
    go_wp2_with fail
    go_ret
    exact ⟨by simp, hbl⟩

theorem In3 (c : UInt8) (w : World) :
    Calls Tryz.prog 68 #[.int .i64 3, .int .u8 c.toNat] w fun e w' => e = .returned (.bool ((inBase c || has set2 c) || has set3 c)) ∧ Below w.heap.size w w' := by
  have hmf := hmf
  go_enter Tryz.func68, Tryz.ntmps68
  go_wp2_with fail
  refine Calls.mono (clo5 c _ _ _ (by go_simp) (by go_simp) (by simp <;> omega) (by simp <;> omega)) ?_
  rintro e w1 ⟨rfl, hbl⟩
  go_wp2_with fail
  go_ret
  exact ⟨by simp, ((((Below.refl _ w).alloc (Nat.le_refl _) _).alloc (by simp) _).alloc (by simp; omega) _).trans (hbl.mono (by simp; omega))⟩

theorem clo6 (c : UInt8) (b b' : Nat) (w : World) (hc : w.cell? ⟨b, 0, none⟩ = some (.int .u8 c.toNat)) (hh : w.cell? ⟨b', 0, none⟩ = some (.func (.func 88) #[] #[.pointer (some ⟨b, 0, none⟩)])) (hb : b < w.heap.size) (hb' : b' < w.heap.size) :
    Calls Tryz.prog 94 #[.pointer (some ⟨b, 0, none⟩), .pointer (some ⟨b', 0, none⟩)] w fun e w' => e = .returned (.bool ((inBase c || has set2 c) || has set3 c || has set4 c)) ∧ Below w.heap.size w w' := by
  have key := In3 c w
  cases h1 : ((inBase c || has set2 c) || has set3 c) <;> rw [h1] at key
  · go_enter Tryz.func94, Tryz.ntmps94
    go_wp2_with fail
    refine Calls.mono key ?_
    rintro e w1 ⟨rfl, hbl⟩
    have hc1 : w1.cell? ⟨b, 0, none⟩ = some (.int .u8 c.toNat) := (hbl.cell (p := ⟨b, 0, none⟩) hb).trans hc
    have hh1 : w1.cell? ⟨b', 0, none⟩ = some (.func (.func 88) #[] #[.pointer (some ⟨b, 0, none⟩)]) := (hbl.cell (p := ⟨b', 0, none⟩) hb').trans hh
    go_wp2_with (first | (go_at_call 88; refine Calls.mono (has_any _ c b _ hc1) ?_; rintro e w' ⟨rfl, rfl⟩))
    go_ret
    exact ⟨by simp [set4], hbl⟩
  · go_enter Tryz.func94, Tryz.ntmps94
    go_wp2_with fail
    refine Calls.mono key ?_
    rintro e w1 ⟨rfl, hbl⟩
    go_wp2_with fail
    go_ret
    exact ⟨by simp, hbl⟩

theorem In4 (c : UInt8) (w : World) :
    Calls Tryz.prog 68 #[.int .i64 4, .int .u8 c.toNat] w fun e w' => e = .returned (.bool (((inBase c || has set2 c) || has set3 c) || has set4 c)) ∧ Below w.heap.size w w' := by
  have hmf := hmf
  go_enter Tryz.func68, Tryz.ntmps68
  go_wp2_with fail
  refine Calls.mono (clo6 c _ _ _ (by go_simp) (by go_simp) (by simp <;> omega) (by simp <;> omega)) ?_
  rintro e w1 ⟨rfl, hbl⟩
  go_wp2_with fail
  go_ret
  exact ⟨by simp, ((((Below.refl _ w).alloc (Nat.le_refl _) _).alloc (by simp) _).alloc (by simp; omega) _).trans (hbl.mono (by simp; omega))⟩

theorem InNone (n : Int) (c : UInt8) (w : World) (h : n < 0 ∨ 5 ≤ n) :
    Calls Tryz.prog 68 #[.int .i64 n, .int .u8 c.toNat] w fun e w' => e = .returned (.bool false) ∧ Below w.heap.size w w' := by
  have hmf := hmf
  rcases h with h | h
  · have h1 : decide (0 ≤ n) = false := by simp; omega
    go_enter Tryz.func68, Tryz.ntmps68
    go_wp2_with fail
    go_ret
    exact ⟨rfl, (((Below.refl _ w).alloc (Nat.le_refl _) _).alloc (by simp) _).alloc (by simp; omega) _⟩
  · have h1 : decide (0 ≤ n) = true := by simp; omega
    have h2 : decide (n < 5) = false := by simp; omega
    go_enter Tryz.func68, Tryz.ntmps68
    go_wp2_with fail
    go_ret
    exact ⟨rfl, (((Below.refl _ w).alloc (Nat.le_refl _) _).alloc (by simp) _).alloc (by simp; omega) _⟩

theorem In_any (n : Int) (c : UInt8) (w : World) :
    Calls Tryz.prog 68 #[.int .i64 n, .int .u8 c.toNat] w fun e w' => e = .returned (.bool (inSet n c)) ∧ Below w.heap.size w w' := by
  by_cases h0 : n = 0
  · subst h0; exact In0 c w
  by_cases h1 : n = 1
  · subst h1; exact In1 c w
  by_cases h2 : n = 2
  · subst h2; exact In2 c w
  by_cases h3 : n = 3
  · subst h3; exact In3 c w
  by_cases h4 : n = 4
  · subst h4; exact In4 c w
  have e : inSet n c = false := by simp [inSet, h0, h1, h2, h3, h4]
  rw [e]
  exact InNone n c w (by omega)
end Go.Proofs.YtkmoakfphfakoaaGreat
