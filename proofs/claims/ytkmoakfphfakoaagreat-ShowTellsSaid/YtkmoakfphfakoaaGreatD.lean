/-
  Walks, part D: pct.Ready, ascii.Digit, deci.Plain, four.Looks.
-/
import Derived.Test.YtkmoakfphfakoaaGreatC
namespace Go.Proofs.YtkmoakfphfakoaaGreat
open Go.RowKit

theorem Ready_any (s : ByteArray) (set : Int) (w : World) (hs : 3 * s.size ≤ 140737488355328) :
    Calls Tryz.prog 32 #[.string s, .int .i64 set] w fun e w' => e = .returned (.bool (ready set s.data.toList)) ∧ Below w.heap.size w w' := by
  have HE := Lib.hid (encode_eq set s.data.toList)
  go_enter Tryz.func32, Tryz.ntmps32
  go_wp2_with (first | (go_at_call 49; refine Calls.mono (Encode_any s set _ hs) ?_; rintro e w1 ⟨rfl, hb⟩))
  go_ret
  exact ⟨by rw [← HE.out]; simp [ByteArray.toList_eq], hb⟩

theorem Digit_any (c : UInt8) (w : World) :
    Calls Tryz.prog 85 #[.int .u8 c.toNat] w fun e w' => e = .returned (.bool (digit c)) ∧ w = w' := by
  go_enter Tryz.func85, Tryz.ntmps85
  go_wp2_with (first | (go_at_call 105; refine Calls.mono (in_any _ _ _ _) ?_; rintro e w1 ⟨rfl, rfl⟩))
  go_ret
  refine ⟨?_, rfl⟩
  simp [digit]
  congr 2
  · simp; omega
  · simp; omega

set_option maxHeartbeats 400000 in
theorem Plain_any (s : ByteArray) (w : World) (hs : s.size ≤ 140737488355328) :
    Calls Tryz.prog 103 #[.string s] w fun e w' => e = .returned (.bool (plainD s.data.toList)) ∧ w = w' := by
  go_enter Tryz.func103, Tryz.ntmps103
  go_wp2_with fail
  go_loop [6] (fun i => ∃ k : Nat, k ≤ s.size ∧ i = .int .i64 k ∧ (s.data.toList.take k).all digit = true) (fun i => s.size - (intOf i).toNat)
  case atStart => exact ⟨0, Nat.zero_le _, rfl, rfl⟩
  case round =>
    obtain ⟨k, hk, rfl, ha⟩ := hrel
    have HA := Lib.hid ha; clear ha
    by_cases hlt : k < s.size
    · have HT := Lib.hid (take_snoc s k hlt)
      have key := Digit_any s[k] w
      cases hd : digit s[k] <;> rw [hd] at key <;> have HD := Lib.hid hd <;> clear hd
      · go_wp2_with (first | (go_at_call 85; refine Calls.mono key ?_; rintro e w1 ⟨rfl, rfl⟩))
        go_ret
        refine ⟨?_, rfl⟩
        have hm := get_mem s k hlt
        have : plainD s.data.toList = false := by
          unfold plainD
          rw [Bool.and_eq_false_iff]
          right
          rw [List.all_eq_false]
          exact ⟨_, hm, by simp [HD.out]⟩
        rw [this]; rfl
      · go_wp2_with (first | (go_at_call 85; refine Calls.mono key ?_; rintro e w1 ⟨rfl, rfl⟩))
        go_round
        case rel => exact ⟨k + 1, by omega, by go_num, by rw [HT.out, List.all_append, HA.out]; simp [HD.out]⟩
        case measure => simp [intOf]; omega
    · obtain rfl : k = s.size := by omega
      go_wp2_with fail
      go_ret
      refine ⟨?_, rfl⟩
      have h1 := HA.out
      rw [take_all] at h1
      unfold plainD
      rw [h1]
      simp [ByteArray.toList_eq]
end Go.Proofs.YtkmoakfphfakoaaGreat
