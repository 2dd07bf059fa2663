/-
  Walks, part C: pct.put, pct.Encode, pct.Ready.
-/
import Derived.Test.YtkmoakfphfakoaaGreatA
import Derived.Test.YtkmoakfphfakoaaGreatB
import Derived.StillTailTactics
import Derived.BigQuiet
import Derived.Deep.QuietTactic
import Derived.Deep.RegionWith
namespace Go.Proofs.YtkmoakfphfakoaaGreat
open Go.RowKit

set_option maxHeartbeats 1000000 in
theorem put_any (B b g : Nat) (l cs : List UInt8) (w : World) (h : Bld B b l w) (hg : g < w.heap.size) (ha : Apart b g w)
    (hc : ∀ (j : Nat) (hj : j < cs.length), w.cell? ⟨g, j, none⟩ = some (.int .u8 (cs[j]).toNat)) (hlen : l.length + cs.length ≤ 140737488355328) (hB : B ≤ w.heap.size) :
    Calls Tryz.prog 69 #[.pointer (some ⟨b, 0, none⟩), .slice (some ⟨g, 0, none⟩) cs.length cs.length] w fun e w' => e = .returned (.tuple #[]) ∧ Bld B b (l ++ cs) w' ∧ Below B w w' ∧ Keeps b w w' := by
  have HC := Lib.hid hc; clear hc
  go_enter Tryz.func69, Tryz.ntmps69
  go_wp2_with fail
  go_loopw [8] (fun i wr => ∃ k : Nat, k ≤ cs.length ∧ i = .int .i64 k ∧ Bld B b (l ++ cs.take k) wr ∧ Below B w wr ∧ Keeps b w wr) (fun i _ => cs.length - (intOf i).toNat)
  case atStart => exact ⟨0, Nat.zero_le _, rfl, by simpa using h, Below.refl _ _, Keeps.refl _ _⟩
  case round =>
    obtain ⟨k, hk, rfl, hb, hbl, hkp⟩ := hrel
    by_cases hlt : k < cs.length
    · have hcell : wr.cell? ⟨g, k, none⟩ = some (.int .u8 (cs[k]).toNat) := (hkp.cell (p := ⟨g, k, none⟩) hg ha).trans (HC.out k hlt)
      have hsz := hkp.1
      go_wp2_with fail
      refine Calls.mono (putB B b _ cs[k] _ hb (by simp; omega) (by omega)) ?_
      rintro e w1 ⟨rfl, hb1, hbl1, hk1⟩
      have HT := Lib.hid (List.take_succ_eq_append_getElem hlt)
      go_wp2_with fail
      go_roundw
      case rel => exact ⟨k + 1, by omega, by go_num, by rw [HT.out, ← List.append_assoc]; exact hb1, hbl.trans hbl1, hkp.trans hk1⟩
      case measure => simp [intOf]; omega
    · obtain rfl : k = cs.length := by omega
      go_wp2_with fail
      go_end0
      exact ⟨rfl, by simpa using hb, hbl, hkp⟩

theorem hex_at (n : Nat) (h : n < 16) (w : World) : (Instr.index 9 (.string ⟨#[48, 49, 50, 51, 52, 53, 54, 55, 56, 57, 65, 66, 67, 68, 69, 70]⟩) (.int .u8 n)).run Tryz.prog w = .ok (.int .u8 (hexD.getD n 0).toNat) w := by
  obtain rfl | rfl | rfl | rfl | rfl | rfl | rfl | rfl | rfl | rfl | rfl | rfl | rfl | rfl | rfl | rfl : n = 0 ∨ n = 1 ∨ n = 2 ∨ n = 3 ∨ n = 4 ∨ n = 5 ∨ n = 6 ∨ n = 7 ∨ n = 8 ∨ n = 9 ∨ n = 10 ∨ n = 11 ∨ n = 12 ∨ n = 13 ∨ n = 14 ∨ n = 15 := by omega
  all_goals kernel_rfl
theorem hex_hi (c : UInt8) (w : World) : (Instr.index 9 (.string ⟨#[48, 49, 50, 51, 52, 53, 54, 55, 56, 57, 65, 66, 67, 68, 69, 70]⟩) (.int .u8 ((c.toNat : Int) / 16))).run Tryz.prog w = .ok (.int .u8 (hexD.getD (c.toNat / 16) 0).toNat) w := by
  have := c.toNat_lt
  rw [show (c.toNat : Int) / 16 = ((c.toNat / 16 : Nat) : Int) by omega]
  exact hex_at _ (by omega) w
theorem hex_lo (c : UInt8) (w : World) : (Instr.index 9 (.string ⟨#[48, 49, 50, 51, 52, 53, 54, 55, 56, 57, 65, 66, 67, 68, 69, 70]⟩) (.int .u8 ((c.toNat : Int) % 16))).run Tryz.prog w = .ok (.int .u8 (hexD.getD (c.toNat % 16) 0).toNat) w := by
  rw [show (c.toNat : Int) % 16 = ((c.toNat % 16 : Nat) : Int) by omega]
  exact hex_at _ (by omega) w
theorem wrap_hi (c : UInt8) : IntKind.u8.wrap ((c.toNat : Int) / 16) = (c.toNat : Int) / 16 := by
  have := c.toNat_lt
  simp [IntKind.wrap, IntKind.bits, IntKind.signed]; omega
theorem tmod_lo (c : UInt8) : (c.toNat : Int).tmod 16 = (c.toNat : Int) % 16 := Int.tmod_eq_emod_of_nonneg (by omega)

set_option maxHeartbeats 1000000 in
set_option maxRecDepth 100000 in
theorem Encode_any (s : ByteArray) (set : Int) (w : World) (hs : 3 * s.size ≤ 140737488355328) :
    Calls Tryz.prog 49 #[.string s, .int .i64 set] w fun e w' => e = .returned (.string ⟨(encode set s.data.toList).toArray⟩) ∧ Below w.heap.size w w' := by
  go_enter Tryz.func49, Tryz.ntmps49
  go_wp2_with fail
  go_loopw [10] (fun i wr => ∃ k : Nat, k ≤ s.size ∧ i = .int .i64 k ∧ Bld w.heap.size w.heap.size (encode set (s.data.toList.take k)) wr ∧ Below w.heap.size w wr ∧ w.heap.size + 1 ≤ wr.heap.size) (fun i _ => s.size - (intOf i).toNat)
  case atStart => exact ⟨0, Nat.zero_le _, rfl, by simpa [encode] using newB w, (Below.refl _ _).alloc (Nat.le_refl _) _, by simp⟩
  case round =>
    obtain ⟨k, hk, rfl, hb, hbl, hsz⟩ := hrel
    by_cases hlt : k < s.size
    · have hts := encode_snoc set (s.data.toList.take k) s[k]
      rw [← take_snoc s k hlt] at hts
      have HT := Lib.hid hts; clear hts
      have hel := encode_len set (s.data.toList.take k)
      have htl := take_len s k
      have key := In_any set s[k] wr
      have HE : RowKit.Hid (encB set s[k] = if inSet set s[k] then [37, hexD.getD (s[k].toNat / 16) 0, hexD.getD (s[k].toNat % 16) 0] else [s[k]]) := rfl
      cases hin : inSet set s[k] <;> rw [hin] at key HE
      · clear hin
        go_wp2_with fail
        refine Calls.mono key ?_
        rintro e w1 ⟨rfl, hbl1⟩
        go_wp2_with fail
        have hb1 := hb.below hbl1
        have hs1 := hbl1.size
        refine Calls.mono (put_any w.heap.size w.heap.size w1.heap.size _ [s[k]] _ (hb1.alloc _) (by simp) (hb1.apart_new _) (byte_cells w1 [s[k]] _) (by simp; omega) (by simp; omega)) ?_
        rintro e w2 ⟨rfl, hb2, hbl2, hk2⟩
        have hs2 := hk2.1
        go_wp2_with fail
        go_roundw
        case rel =>
          refine ⟨k + 1, by omega, by go_num, ?_, (hbl.trans (hbl1.mono (by omega))).trans (((Below.refl _ _).alloc (by omega) _).trans hbl2), by simp at hs2; omega⟩
          rw [HT.out, HE.out]; exact hb2
        case measure => simp [intOf]; omega
      · clear hin
        go_wp2_with fail
        refine Calls.mono key ?_
        rintro e w1 ⟨rfl, hbl1⟩
        go_wp2_with fail
        have hb1 := hb.below hbl1
        have hs1 := hbl1.size
        have hu := s[k].toNat_lt
        have x1 := wrap_hi s[k]
        have x2 := tmod_lo s[k]
        have x3 := hex_hi s[k]
        have x4 := hex_lo s[k]
        go_still_tail 6, (by kernel_rfl)
        clear x1 x2 x3 x4
        change wpList _ _ _ _ _ w1.drew
        generalize hwd : w1.drew = wd
        have hbd : Below w1.heap.size w1 wd := by rw [← hwd]; exact (Below.refl _ _).drew
        clear hwd
        have hb2 := hb1.below hbd
        have hs2 := hbd.size
        go_wp2_with fail
        refine Calls.mono (put_any w.heap.size w.heap.size wd.heap.size _ [37, hexD.getD (s[k].toNat / 16) 0, hexD.getD (s[k].toNat % 16) 0] _ (hb2.alloc _) (by simp) (hb2.apart_new _) (byte_cells wd [37, hexD.getD (s[k].toNat / 16) 0, hexD.getD (s[k].toNat % 16) 0] _) (by simp; omega) (by simp; omega)) ?_
        rintro e w2 ⟨rfl, hb3, hbl3, hk3⟩
        have hs3 := hk3.1
        go_wp2_with fail
        go_roundw
        case rel =>
          refine ⟨k + 1, by omega, by go_num, ?_, (hbl.trans (hbl1.mono (by omega))).trans ((hbd.mono (by omega)).trans (((Below.refl _ _).alloc (by omega) _).trans hbl3)), by simp at hs3; omega⟩
          rw [HT.out, HE.out]; exact hb3
        case measure => simp [intOf]; omega
    · obtain rfl : k = s.size := by omega
      go_wp2_with fail
      refine Calls.mono (getB _ _ _ _ (by simpa only [take_all] using hb) (by omega)) ?_
      rintro e w1 ⟨rfl, hbl1⟩
      go_wp2_with fail
      go_ret
      exact ⟨rfl, hbl.trans hbl1⟩
end Go.Proofs.YtkmoakfphfakoaaGreat
