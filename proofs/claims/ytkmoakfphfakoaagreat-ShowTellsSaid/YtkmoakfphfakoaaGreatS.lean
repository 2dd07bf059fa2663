/-
  Walks, part S: host.May, host.Show.
-/
import Derived.Test.YtkmoakfphfakoaaGreatR
set_option linter.unusedVariables false
set_option linter.unusedSimpArgs false
namespace Go.Proofs.YtkmoakfphfakoaaGreat
open Go.RowKit Go.Shelf
attribute [local go_sem] Oper.semAt_some

def hmay (k : Int) (s : ByteArray) (n p0 p1 p2 p3 p4 p5 p6 p7 : Int) : Bool :=
  if k = 1 then fitsD s.data.toList && (n == 0 && eq8 0 0 0 0 0 0 0 0 p0 p1 p2 p3 p4 p5 p6 p7)
  else if k = 2 then decide (0 ≤ n ∧ n ≤ 4294967295) && (s.toList.isEmpty && eq8 0 0 0 0 0 0 0 0 p0 p1 p2 p3 p4 p5 p6 p7)
  else if k = 3 then mayS [p0, p1, p2, p3, p4, p5, p6, p7] && (s.toList.isEmpty && n == 0)
  else false
theorem ofV_cases (k : Int) (s : ByteArray) (n p0 p1 p2 p3 p4 p5 p6 p7 : Int) :
    (hmay k s n p0 p1 p2 p3 p4 p5 p6 p7 = false ∧ ofV k s n p0 p1 p2 p3 p4 p5 p6 p7 = .nilIface) ∨ (hmay k s n p0 p1 p2 p3 p4 p5 p6 p7 = true ∧
      (k = 1 ∧ ofV k s n p0 p1 p2 p3 p4 p5 p6 p7 = .iface 73 (.string s) ∨ k = 2 ∧ ofV k s n p0 p1 p2 p3 p4 p5 p6 p7 = .iface 74 (.int .i64 n) ∨ k = 3 ∧ ofV k s n p0 p1 p2 p3 p4 p5 p6 p7 = .iface 75 (six8 p0 p1 p2 p3 p4 p5 p6 p7))) := by
  unfold hmay ofV
  by_cases h1 : k = 1
  · simp only [if_pos h1]
    split
    · rename_i h; exact .inr ⟨h, .inl ⟨h1, rfl⟩⟩
    · rename_i h; exact .inl ⟨by simpa using h, rfl⟩
  by_cases h2 : k = 2
  · simp only [if_neg h1, if_pos h2]
    split
    · rename_i h; exact .inr ⟨h, .inr (.inl ⟨h2, rfl⟩)⟩
    · rename_i h; exact .inl ⟨by simpa using h, rfl⟩
  by_cases h3 : k = 3
  · simp only [if_neg h1, if_neg h2, if_pos h3]
    split
    · rename_i h; exact .inr ⟨h, .inr (.inr ⟨h3, rfl⟩)⟩
    · rename_i h; exact .inl ⟨by simpa using h, rfl⟩
  simp only [if_neg h1, if_neg h2, if_neg h3]
  simp

set_option maxRecDepth 100000 in
set_option maxHeartbeats 4000000 in
theorem HMay_any (k : Int) (s : ByteArray) (hs : s.size ≤ 140737488351232) (n p0 p1 p2 p3 p4 p5 p6 p7 : Int) (hn : (Lit.int .i64 n).wf = true) (w : World) (hD : Deep w) :
    Calls Tryz.prog 35 #[hostV k s n p0 p1 p2 p3 p4 p5 p6 p7] w fun e w' => e = .returned (.bool (hmay k s n p0 p1 p2 p3 p4 p5 p6 p7)) ∧ Below w.heap.size w w' := by
  have hO := fun W hD => of_any k s hs n p0 p1 p2 p3 p4 p5 p6 p7 hn W hD
  obtain ⟨v, hv⟩ : ∃ v, ofV k s n p0 p1 p2 p3 p4 p5 p6 p7 = v := ⟨_, rfl⟩
  obtain ⟨m, hm⟩ : ∃ m, hmay k s n p0 p1 p2 p3 p4 p5 p6 p7 = m := ⟨_, rfl⟩
  have hc := ofV_cases k s n p0 p1 p2 p3 p4 p5 p6 p7
  rw [hv] at hO hc
  rw [hm] at hc ⊢
  have hc' : (m = false ∧ v = .nilIface) ∨ (m = true ∧ ∃ t u, v = .iface t u) := by
    rcases hc with h | ⟨h1, h | h | h⟩
    · exact .inl h
    · exact .inr ⟨h1, _, _, h.2⟩
    · exact .inr ⟨h1, _, _, h.2⟩
    · exact .inr ⟨h1, _, _, h.2⟩
  clear hc hv hm
  rcases hc' with ⟨rfl, rfl⟩ | ⟨rfl, t, u, rfl⟩
  all_goals
    go_enter Tryz.func35, Tryz.ntmps35
    go_wp2_with fail
    refine Calls.mono (hO _ (hD.below ((Below.refl _ w).alloc (Nat.le_refl _) _))) ?_
    rintro e w1 ⟨rfl, h1⟩
    go_wp2_with fail
    go_ret
    exact ⟨rfl, ((Below.refl _ w).alloc (Nat.le_refl _) _).trans (h1.mono (by simp))⟩

def hshow (k : Int) (s : ByteArray) (n p0 p1 p2 p3 p4 p5 p6 p7 : Int) : List UInt8 :=
  if hmay k s n p0 p1 p2 p3 p4 p5 p6 p7 then (if k = 1 then s.data.toList else if k = 2 then fourS n else 91 :: (showS [p0, p1, p2, p3, p4, p5, p6, p7] ++ [93])) else []

set_option maxHeartbeats 4000000 in
theorem show1_any (s : ByteArray) (w : World) : Calls Tryz.prog 136 #[.string s] w fun e w' => e = .returned (.string s) ∧ Below w.heap.size w w' := by
  go_enter Tryz.func136, Tryz.ntmps136
  go_wp2_with fail
  go_ret
  exact ⟨rfl, Below.refl _ _⟩
set_option maxHeartbeats 4000000 in
theorem show2_any (n : Int) (hn : (Lit.int .i64 n).wf = true) (w : World) : Calls Tryz.prog 137 #[.int .i64 n] w fun e w' => e = .returned (.string ⟨(fourS n).toArray⟩) ∧ Below w.heap.size w w' := by
  go_enter Tryz.func137, Tryz.ntmps137
  go_wp2_with fail
  refine Calls.mono (FShow_any n _ hn) ?_
  rintro e w1 ⟨rfl, h1⟩
  go_wp2_with fail
  go_ret
  exact ⟨rfl, h1⟩
theorem meth1 (d : Nat) (v : Value) (W : World) : (method (d + 1) 73 v "postmark/host.show").run Tryz.prog W = .ok (136, v) W := by kernel_rfl
theorem meth2 (d : Nat) (v : Value) (W : World) : (method (d + 1) 74 v "postmark/host.show").run Tryz.prog W = .ok (137, v) W := by kernel_rfl
theorem meth3 (d : Nat) (v : Value) (W : World) : (method (d + 1) 75 v "postmark/host.show").run Tryz.prog W = .ok (138, v) W := by kernel_rfl
theorem showS_len (p : List Int) (hp : p.length = 8) : (showS p).length ≤ 100 := by
  unfold showS
  have hb := runOf_bd p hp
  by_cases hm : mayS p = true
  · have h1 := joinS_len p hm (by omega)
    have h2 := joinS_len (p.take (runOf p).1) (mayS_take p hm _) (by simp; omega)
    have h3 := joinS_len (p.drop ((runOf p).1 + (runOf p).2)) (mayS_drop p hm _) (by simp; omega)
    rw [if_pos hm]
    split
    · omega
    · simp; omega
  · simp [hm]
set_option maxRecDepth 100000 in
set_option maxHeartbeats 4000000 in
theorem show3_any (p0 p1 p2 p3 p4 p5 p6 p7 : Int) (w : World) : Calls Tryz.prog 138 #[six8 p0 p1 p2 p3 p4 p5 p6 p7] w fun e w' => e = .returned (.string ⟨(91 :: (showS [p0, p1, p2, p3, p4, p5, p6, p7] ++ [93])).toArray⟩) ∧ Below w.heap.size w w' := by
  obtain ⟨t, ht⟩ : ∃ t, showS [p0, p1, p2, p3, p4, p5, p6, p7] = t := ⟨_, rfl⟩
  have hl := showS_len [p0, p1, p2, p3, p4, p5, p6, p7] rfl
  have hS := Show6_any p0 p1 p2 p3 p4 p5 p6 p7
  rw [ht] at hS hl ⊢
  clear ht
  have hcat1 := concat_run Tryz.prog [91] t (by simp; omega)
  have hcat2 := concat_run Tryz.prog ([91] ++ t) [93] (by simp; omega)
  go_enter Tryz.func138, Tryz.ntmps138
  go_wp2_with fail
  refine Calls.mono (hS _) ?_
  rintro e w1 ⟨rfl, h1⟩
  go_wp2_with fail
  go_ret
  exact ⟨rfl, ((Below.refl _ w).alloc (Nat.le_refl _) _).trans (h1.mono (by simp))⟩

set_option maxRecDepth 100000 in
set_option maxHeartbeats 4000000 in
theorem HShow_any (k : Int) (s : ByteArray) (hs : s.size ≤ 140737488351232) (n p0 p1 p2 p3 p4 p5 p6 p7 : Int) (hn : (Lit.int .i64 n).wf = true) (w : World) (hD : Deep w) :
    Calls Tryz.prog 28 #[hostV k s n p0 p1 p2 p3 p4 p5 p6 p7] w fun e w' => e = .returned (.string ⟨(hshow k s n p0 p1 p2 p3 p4 p5 p6 p7).toArray⟩) ∧ Below w.heap.size w w' := by
  have hO := fun W hD => of_any k s hs n p0 p1 p2 p3 p4 p5 p6 p7 hn W hD
  obtain ⟨v, hv⟩ : ∃ v, ofV k s n p0 p1 p2 p3 p4 p5 p6 p7 = v := ⟨_, rfl⟩
  have hc := ofV_cases k s n p0 p1 p2 p3 p4 p5 p6 p7
  rw [hv] at hO hc
  clear hv
  unfold hshow
  rcases hc with ⟨hm, rfl⟩ | ⟨hm, h⟩
  · rw [hm]
    clear hm
    go_enter Tryz.func28, Tryz.ntmps28
    go_wp2_with fail
    refine Calls.mono (hO _ (hD.below ((Below.refl _ w).alloc (Nat.le_refl _) _))) ?_
    rintro e w1 ⟨rfl, h1⟩
    go_wp2_with fail
    go_ret
    exact ⟨rfl, ((Below.refl _ w).alloc (Nat.le_refl _) _).trans (h1.mono (by simp))⟩
  · rw [hm]
    clear hm
    rcases h with ⟨rfl, rfl⟩ | ⟨rfl, rfl⟩ | ⟨rfl, rfl⟩
    · rw [if_pos rfl, if_pos rfl]
      go_enter Tryz.func28, Tryz.ntmps28
      go_wp2_with fail
      refine Calls.mono (hO _ (hD.below ((Below.refl _ w).alloc (Nat.le_refl _) _))) ?_
      rintro e w1 ⟨rfl, h1⟩
      have m := meth1
      go_wp2_with fail
      refine Calls.mono (show1_any s _) ?_
      rintro e w2 ⟨rfl, h2⟩
      go_wp2_with fail
      go_ret
      exact ⟨rfl, (((Below.refl _ w).alloc (Nat.le_refl _) _).trans (h1.mono (by simp))).trans (h2.mono (by have := h1.size; simp at this; omega))⟩
    · rw [if_pos rfl, if_neg (by decide), if_pos rfl]
      obtain ⟨t, ht⟩ : ∃ t, fourS n = t := ⟨_, rfl⟩
      have hS := fun W => show2_any n hn W
      rw [ht] at hS ⊢
      clear ht
      go_enter Tryz.func28, Tryz.ntmps28
      go_wp2_with fail
      refine Calls.mono (hO _ (hD.below ((Below.refl _ w).alloc (Nat.le_refl _) _))) ?_
      rintro e w1 ⟨rfl, h1⟩
      have m := meth2
      go_wp2_with fail
      refine Calls.mono (hS _) ?_
      rintro e w2 ⟨rfl, h2⟩
      go_wp2_with fail
      go_ret
      exact ⟨rfl, (((Below.refl _ w).alloc (Nat.le_refl _) _).trans (h1.mono (by simp))).trans (h2.mono (by have := h1.size; simp at this; omega))⟩
    · rw [if_pos rfl, if_neg (by decide), if_neg (by decide)]
      obtain ⟨t, ht⟩ : ∃ t, 91 :: (showS [p0, p1, p2, p3, p4, p5, p6, p7] ++ [93]) = t := ⟨_, rfl⟩
      have hS := fun W => show3_any p0 p1 p2 p3 p4 p5 p6 p7 W
      rw [ht] at hS ⊢
      clear ht
      go_enter Tryz.func28, Tryz.ntmps28
      go_wp2_with fail
      refine Calls.mono (hO _ (hD.below ((Below.refl _ w).alloc (Nat.le_refl _) _))) ?_
      rintro e w1 ⟨rfl, h1⟩
      have m := meth3
      go_wp2_with fail
      refine Calls.mono (hS _) ?_
      rintro e w2 ⟨rfl, h2⟩
      go_wp2_with fail
      go_ret
      exact ⟨rfl, (((Below.refl _ w).alloc (Nat.le_refl _) _).trans (h1.mono (by simp))).trans (h2.mono (by have := h1.size; simp at this; omega))⟩
end Go.Proofs.YtkmoakfphfakoaaGreat
