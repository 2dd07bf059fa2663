/-
  Walks, part H: four.Show, four.Inner.
-/
import Derived.Test.YtkmoakfphfakoaaGreatG
namespace Go.Proofs.YtkmoakfphfakoaaGreat
open Go.RowKit

set_option maxHeartbeats 1000000 in
set_option maxRecDepth 100000 in
theorem FShow_any (z : Int) (w : World) (_hz : (Lit.int .i64 z).wf = true) :
    Calls Tryz.prog 63 #[.int .i64 z] w fun e w' => e = .returned (.string ⟨(fourS z).toArray⟩) ∧ Below w.heap.size w w' := by
  by_cases hr : 0 ≤ z ∧ z ≤ 4294967295
  rotate_left
  · have e : fourS z = [] := by simp [fourS, hr]
    rw [e]
    cases h1 : decide (z < 0)
    · have h2 : decide (4294967295 < z) = true := by simp at h1 ⊢; omega
      go_enter Tryz.func63, Tryz.ntmps63
      go_wp2_with fail
      go_ret
      exact ⟨rfl, Below.refl _ _⟩
    · go_enter Tryz.func63, Tryz.ntmps63
      go_wp2_with fail
      go_ret
      exact ⟨rfl, Below.refl _ _⟩
  obtain ⟨n, rfl⟩ := Int.eq_ofNat_of_zero_le hr.1
  have hn : n ≤ 4294967295 := by omega
  have e : fourS (n : Int) = Lib.join (fourL n) [46] := by simp [fourS]; omega
  have HE := Lib.hid e; clear e hr
  have h1 : decide ((n : Int) < 0) = false := by simp
  have h2 : decide (4294967295 < (n : Int)) = false := by simp; omega
  obtain ⟨i0, hi, hz0, hz1, hz2⟩ := info_parts infoStr
  go_enter Tryz.func63, Tryz.ntmps63
  go_wp2_with fail
  go_loopw [3, 11] (fun v i wr => ∃ k : Nat, k ≤ 4 ∧ i = .int .i64 k ∧ wr.ownsRow w.heap.size 9 1 v k (((fourL n).take k).map fun l => Value.string ⟨l.toArray⟩) ∧ Below w.heap.size w wr) (fun _ i _ => 4 - (intOf i).toNat)
  case atStart => exact ⟨0, Nat.zero_le _, rfl, World.ownsRow_nil _ _ _ _, Below.refl _ _⟩
  case round =>
    obtain ⟨k, hk, rfl, hown, hbl⟩ := hrel
    obtain rfl | rfl | rfl | rfl | rfl : k = 0 ∨ k = 1 ∨ k = 2 ∨ k = 3 ∨ k = 4 := by omega
    · have hm : bits .and .i64 ((n : Int) / 16777216) 255 = (((n / 16777216 % 256) : Nat) : Int) := (and_255 _).trans (by omega)
      go_wp2_with fail
      refine Calls.mono (DShow_any (n / 16777216 % 256) _ (by omega)) ?_
      rintro e w1 ⟨rfl, hb1⟩
      have hsz := hbl.size
      have hs1 := hb1.size
      have hown1 := hown.kept (row := none) ⟨hb1.os, hb1.tape, hb1.output, hb1.size, fun k hk _ => hb1.block k hk⟩ (Classical.em _)
      go_wp2_with (at_builtin; refine wpList_append_own _ rfl _ _ 25 rfl w.heap.size 9 i0 (.string ⟨#[]⟩) 1 16 Tryz.underlying25 hi hz0 hz1 hz2 rfl (by decide) _ _ _ rfl (hown1.alloc _) ⟨w1.heap.size, 0, none⟩ 1 1 [.string ⟨(dec (n / 16777216 % 256)).toArray⟩] rfl rfl ?c1 ?c2 ?c3 ?c4 ?c5 ?_)
      case c1 =>
        intro j u hj
        match j, hj with
        | 0, hj => simp at hj; subst hj; simp [Addr.add]
      case c2 => intro u hu; simp at hu; subst hu; rfl
      case c3 => unfold maxLen; omega
      case c4 => omega
      case c5 => simp; omega
      intro v' w2 hown' hgrow _
      have hl := hown1.lt
      go_wp2_with fail
      go_roundw
      case rel =>
        refine ⟨0 + 1, by omega, by go_num, ?_, ((hbl.trans (hb1.mono hsz)).alloc (by omega) _).grown hgrow (by simp; omega) (fun q hq => (hl q hq).1)⟩
        simpa [fourL] using hown'
      case measure => simp [intOf]
    · have hm : bits .and .i64 ((n : Int) / 65536) 255 = (((n / 65536 % 256) : Nat) : Int) := (and_255 _).trans (by omega)
      go_wp2_with fail
      refine Calls.mono (DShow_any (n / 65536 % 256) _ (by omega)) ?_
      rintro e w1 ⟨rfl, hb1⟩
      have hsz := hbl.size
      have hs1 := hb1.size
      have hown1 := hown.kept (row := none) ⟨hb1.os, hb1.tape, hb1.output, hb1.size, fun k hk _ => hb1.block k hk⟩ (Classical.em _)
      go_wp2_with (at_builtin; refine wpList_append_own _ rfl _ _ 25 rfl w.heap.size 9 i0 (.string ⟨#[]⟩) 1 16 Tryz.underlying25 hi hz0 hz1 hz2 rfl (by decide) _ _ _ rfl (hown1.alloc _) ⟨w1.heap.size, 0, none⟩ 1 1 [.string ⟨(dec (n / 65536 % 256)).toArray⟩] rfl rfl ?c1 ?c2 ?c3 ?c4 ?c5 ?_)
      case c1 =>
        intro j u hj
        match j, hj with
        | 0, hj => simp at hj; subst hj; simp [Addr.add]
      case c2 => intro u hu; simp at hu; subst hu; rfl
      case c3 => unfold maxLen; omega
      case c4 => omega
      case c5 => simp; omega
      intro v' w2 hown' hgrow _
      have hl := hown1.lt
      go_wp2_with fail
      go_roundw
      case rel =>
        refine ⟨1 + 1, by omega, by go_num, ?_, ((hbl.trans (hb1.mono hsz)).alloc (by omega) _).grown hgrow (by simp; omega) (fun q hq => (hl q hq).1)⟩
        simpa [fourL] using hown'
      case measure => simp [intOf]
    · have hm : bits .and .i64 ((n : Int) / 256) 255 = (((n / 256 % 256) : Nat) : Int) := (and_255 _).trans (by omega)
      go_wp2_with fail
      refine Calls.mono (DShow_any (n / 256 % 256) _ (by omega)) ?_
      rintro e w1 ⟨rfl, hb1⟩
      have hsz := hbl.size
      have hs1 := hb1.size
      have hown1 := hown.kept (row := none) ⟨hb1.os, hb1.tape, hb1.output, hb1.size, fun k hk _ => hb1.block k hk⟩ (Classical.em _)
      go_wp2_with (at_builtin; refine wpList_append_own _ rfl _ _ 25 rfl w.heap.size 9 i0 (.string ⟨#[]⟩) 1 16 Tryz.underlying25 hi hz0 hz1 hz2 rfl (by decide) _ _ _ rfl (hown1.alloc _) ⟨w1.heap.size, 0, none⟩ 1 1 [.string ⟨(dec (n / 256 % 256)).toArray⟩] rfl rfl ?c1 ?c2 ?c3 ?c4 ?c5 ?_)
      case c1 =>
        intro j u hj
        match j, hj with
        | 0, hj => simp at hj; subst hj; simp [Addr.add]
      case c2 => intro u hu; simp at hu; subst hu; rfl
      case c3 => unfold maxLen; omega
      case c4 => omega
      case c5 => simp; omega
      intro v' w2 hown' hgrow _
      have hl := hown1.lt
      go_wp2_with fail
      go_roundw
      case rel =>
        refine ⟨2 + 1, by omega, by go_num, ?_, ((hbl.trans (hb1.mono hsz)).alloc (by omega) _).grown hgrow (by simp; omega) (fun q hq => (hl q hq).1)⟩
        simpa [fourL] using hown'
      case measure => simp [intOf]
    · have hm : bits .and .i64 ((n : Int)) 255 = (((n % 256) : Nat) : Int) := (and_255 _).trans (by omega)
      go_wp2_with fail
      refine Calls.mono (DShow_any (n % 256) _ (by omega)) ?_
      rintro e w1 ⟨rfl, hb1⟩
      have hsz := hbl.size
      have hs1 := hb1.size
      have hown1 := hown.kept (row := none) ⟨hb1.os, hb1.tape, hb1.output, hb1.size, fun k hk _ => hb1.block k hk⟩ (Classical.em _)
      go_wp2_with (at_builtin; refine wpList_append_own _ rfl _ _ 25 rfl w.heap.size 9 i0 (.string ⟨#[]⟩) 1 16 Tryz.underlying25 hi hz0 hz1 hz2 rfl (by decide) _ _ _ rfl (hown1.alloc _) ⟨w1.heap.size, 0, none⟩ 1 1 [.string ⟨(dec (n % 256)).toArray⟩] rfl rfl ?c1 ?c2 ?c3 ?c4 ?c5 ?_)
      case c1 =>
        intro j u hj
        match j, hj with
        | 0, hj => simp at hj; subst hj; simp [Addr.add]
      case c2 => intro u hu; simp at hu; subst hu; rfl
      case c3 => unfold maxLen; omega
      case c4 => omega
      case c5 => simp; omega
      intro v' w2 hown' hgrow _
      have hl := hown1.lt
      go_wp2_with fail
      go_roundw
      case rel =>
        refine ⟨3 + 1, by omega, by go_num, ?_, ((hbl.trans (hb1.mono hsz)).alloc (by omega) _).grown hgrow (by simp; omega) (fun q hq => (hl q hq).1)⟩
        simpa [fourL] using hown'
      case measure => simp [intOf]
    · have hl8 : (Lib.join (fourL n) [46]).length ≤ 140737488355328 := by
        have := join_len (fourL n) [46] 3 (fourL_len n)
        simp [fourL] at this ⊢
        omega
      go_wp2_with fail
      refine Calls.mono (join_own w.heap.size _ (fourL n) [46] _ (by simpa [fourL] using hown) hl8 (by simp [fourL])) ?_
      rintro e w1 ⟨rfl, hb1⟩
      have hsz := hbl.size
      go_wp2_with fail
      go_ret
      exact ⟨by rw [HE.out]; rfl, hbl.trans (hb1.mono hsz)⟩
end Go.Proofs.YtkmoakfphfakoaaGreat
