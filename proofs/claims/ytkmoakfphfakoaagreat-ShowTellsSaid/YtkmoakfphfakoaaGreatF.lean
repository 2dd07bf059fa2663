/-
  Walks, part F: six.Show.
-/
import Derived.Test.YtkmoakfphfakoaaGreatE
import Derived.Deep.RegionHeld3
namespace Go.Proofs.YtkmoakfphfakoaaGreat
open Go.RowKit

theorem bcell {W w1 : World} (hb : Below W.heap.size W w1) : (∀ b o, b < W.heap.size → w1.cell? ⟨b, o, none⟩ = W.cell? ⟨b, o, none⟩) ∧ (∀ b o, b < W.heap.size → w1.frozen? ⟨b, o, none⟩ = W.frozen? ⟨b, o, none⟩) :=
  ⟨fun b o h => hb.cell (p := ⟨b, o, none⟩) h, fun b o h => hb.frozen (p := ⟨b, o, none⟩) h⟩

/-- six.join of a part of pieces that may be. -/
theorem joinP (p : List Int) (b o c : Nat) (w : World) (hb : b < w.heap.size) (hc : ∀ (j : Nat) (h : j < p.length), w.cell? ⟨b, o + j, none⟩ = some (.int .i64 p[j])) (hm : mayS p = true) (hn : p.length ≤ 8) :
    Calls Tryz.prog 141 #[.slice (some ⟨b, o, none⟩) p.length c] w fun e w' => e = .returned (.string ⟨(joinS p).toArray⟩) ∧ Below w.heap.size w w' := by
  have key := join_any (p.map Int.toNat) b o c w hb (fun j h => by
    have hj : j < p.length := by simpa using h
    rw [hc j hj]
    have := (mayS_iff p hm j hj).1
    simp; omega) (fun j h => by
    have hj : j < p.length := by simpa using h
    have := (mayS_iff p hm j hj).2
    simp; omega) (by simpa using hn)
  simpa [joinS] using key
theorem joinS_len (p : List Int) (hm : mayS p = true) (hn : p.length ≤ 8) : (joinS p).length ≤ 40 := by
  have := join_len ((p.map Int.toNat).map hexT) [58] 4 (fun y hy => by
    simp only [List.mem_map] at hy
    obtain ⟨x, ⟨z, hz, rfl⟩, rfl⟩ := hy
    obtain ⟨j, hj, rfl⟩ := List.getElem_of_mem hz
    exact hexT_len4 _ (by have := (mayS_iff p hm j hj).2; omega))
  have h2 : ([58] : List UInt8).length = 1 := rfl
  rw [List.length_map, List.length_map, h2] at this
  unfold joinS
  omega
theorem mayS_take (p : List Int) (h : mayS p = true) (n : Nat) : mayS (p.take n) = true := List.all_eq_true.2 fun x hx => List.all_eq_true.1 h x (List.mem_of_mem_take hx)
theorem mayS_drop (p : List Int) (h : mayS p = true) (n : Nat) : mayS (p.drop n) = true := List.all_eq_true.2 fun x hx => List.all_eq_true.1 h x (List.mem_of_mem_drop hx)

theorem slice_all (b : Nat) (W : World) : (Instr.sliceAt 22 (.pointer (some ⟨b, 0, none⟩)) none none none).run Tryz.prog W = .ok (.slice (some ⟨b, 0, none⟩) 8 8) W := by
  rw [run_sliceAt_array_all W 22 ⟨b, 0, none⟩ arr8u, size3]
  simp [Result.andThen, slicedAt, arr8, Addr.add]
theorem slice_to (b i : Nat) (hi : i ≤ 8) (W : World) : (Instr.sliceAt 22 (.pointer (some ⟨b, 0, none⟩)) none (some (.int .i64 i)) none).run Tryz.prog W = .ok (.slice (some ⟨b, 0, none⟩) i 8) W := by
  rw [run_sliceAt_array_h W 22 ⟨b, 0, none⟩ arr8u .i64 i (by omega) (by rw [arr8]; omega), size3]
  simp [Result.andThen, slicedAt, arr8, Addr.add]
/-- Where p[i:] begins: at the end it begins where the array does. -/
def offOf (i : Nat) : Nat := if i = 8 then 0 else i
theorem slice_off (b i : Nat) (hi : i ≤ 8) (W : World) : (Instr.sliceAt 22 (.pointer (some ⟨b, 0, none⟩)) (some (.int .i64 i)) none none).run Tryz.prog W = .ok (.slice (some ⟨b, offOf i, none⟩) (8 - i) (8 - i)) W := by
  by_cases h : i = 8
  · subst h
    rw [run_sliceAt_array_l W 22 ⟨b, 0, none⟩ arr8u .i64 ((8 : Nat) : Int) (by omega) (by rw [arr8]; omega), size3]
    simp [Result.andThen, slicedAt, arr8, offOf]
  · rw [slice_from b i (by omega), offOf, if_neg h]

set_option maxHeartbeats 2000000 in
set_option maxRecDepth 100000 in
theorem Show6_any (p0 p1 p2 p3 p4 p5 p6 p7 : Int) (w : World) :
    Calls Tryz.prog 139 #[.agg #[.int .i64 p0, .int .i64 p1, .int .i64 p2, .int .i64 p3, .int .i64 p4, .int .i64 p5, .int .i64 p6, .int .i64 p7]] w fun e w' =>
      e = .returned (.string ⟨(showS [p0, p1, p2, p3, p4, p5, p6, p7]).toArray⟩) ∧ Below w.heap.size w w' := by
  obtain ⟨p, hp⟩ : ∃ p, [p0, p1, p2, p3, p4, p5, p6, p7] = p := ⟨_, rfl⟩
  have hlen : p.length = 8 := by rw [← hp]; rfl
  have hcell : ∀ (j : Nat) (h : j < p.length), (w.alloc (.cells #[.int .i64 p0, .int .i64 p1, .int .i64 p2, .int .i64 p3, .int .i64 p4, .int .i64 p5, .int .i64 p6, .int .i64 p7] 22)).cell? ⟨w.heap.size, j, none⟩ = some (.int .i64 p[j]) := by
    intro j h
    subst hp
    rw [Lib.cell_of_heap (b := w.heap.size) (fr := (0, 0)) (by show (w.heap.push _)[w.heap.size]? = _; exact Array.getElem?_push_size)]
    match j, h with
    | 0, _ | 1, _ | 2, _ | 3, _ | 4, _ | 5, _ | 6, _ | 7, _ => rfl
  have kM := fun W => May6_any p0 p1 p2 p3 p4 p5 p6 p7 W
  have kR := fun W => Run_any p0 p1 p2 p3 p4 p5 p6 p7 W
  rw [hp] at *
  have KM := Lib.hid kM; clear kM
  have KR := Lib.hid kR; clear kR
  have HC := Lib.hid hcell; clear hcell
  cases hm : mayS p
  · have HM := Lib.hid hm; clear hm hp
    go_enter Tryz.func139, Tryz.ntmps139
    go_wp2_with fail
    refine Calls.mono (KM.out _) ?_
    rw [HM.out]
    rintro e w1 ⟨rfl, hb1⟩
    go_wp2_with fail
    go_ret
    exact ⟨by simp [showS, HM.out], ((Below.refl _ w).alloc (Nat.le_refl _) _).trans (hb1.mono (by simp))⟩
  · have HM := Lib.hid hm; clear hm hp
    have hbd := runOf_bd p hlen
    have HL := Lib.hid hlen; clear hlen
    have HS := Lib.hid (show showS p = if (runOf p).2 = 0 then joinS p else joinS (p.take (runOf p).1) ++ [58, 58] ++ joinS (p.drop ((runOf p).1 + (runOf p).2)) by simp [showS, HM.out])
    obtain ⟨r, hr⟩ : ∃ r, runOf p = r := ⟨_, rfl⟩
    have HV := Lib.hid hr
    rw [hr] at hbd HS KR
    clear hr
    obtain ⟨a, n⟩ := r
    simp only at hbd HS KR
    have hsa := slice_all w.heap.size
    by_cases hn : n = 0
    · subst hn
      go_enter Tryz.func139, Tryz.ntmps139
      go_wp2_with fail
      refine Calls.mono (KM.out _) ?_
      rw [HM.out]
      rintro e w1 ⟨rfl, hb1⟩
      obtain ⟨hc1, hf1⟩ := bcell hb1
      go_wp2_with fail
      refine Calls.mono (KR.out _) ?_
      rintro e w2 ⟨rfl, hb2⟩
      have hs1 := hb1.size
      simp at hs1
      go_wp2_with fail
      have kj := joinP p w.heap.size 0 8 w2 (by have := hb2.size; omega) (fun j h => by
        rw [Nat.zero_add]
        exact (hb2.cell (p := ⟨w.heap.size, j, none⟩) (by simp; omega)).trans ((hb1.cell (p := ⟨w.heap.size, j, none⟩) (by simp)).trans (HC.out j h))) HM.out (by rw [HL.out]; decide)
      rw [HL.out] at kj
      refine Calls.mono kj ?_
      rintro e w3 ⟨rfl, hb3⟩
      have hs2 := hb2.size
      go_wp2_with fail
      go_ret
      refine ⟨by rw [HS.out]; rfl, ((Below.refl _ w).alloc (Nat.le_refl _) _).trans ((hb1.mono (by simp)).trans ((hb2.mono (by omega)).trans (hb3.mono (by omega))))⟩
    · have hn1 : ((n : Int) == 0) = false := by simpa using hn
      have hsb := slice_to w.heap.size a (by omega)
      obtain ⟨m, hm⟩ : ∃ m, a + n = m := ⟨_, rfl⟩
      have hsc := slice_off w.heap.size m (by omega)
      have hwm : IntKind.i64.wrap ((a : Int) + n) = (m : Int) := by rw [← hm]; exact IntWalk.i64_in _ (by omega)
      have ha8 : a ≤ 8 := by omega
      have hm8 : m ≤ 8 := by omega
      rw [hm] at HS
      have HMM := Lib.hid hm; clear hm
      have hl1 := joinS_len (p.take a) (mayS_take p HM.out a) (by simp; omega)
      have hl2 := joinS_len (p.drop m) (mayS_drop p HM.out m) (by have := HL.out; simp; omega)
      go_enter Tryz.func139, Tryz.ntmps139
      go_wp2_with fail
      refine Calls.mono (KM.out _) ?_
      rw [HM.out]
      rintro e w1 ⟨rfl, hb1⟩
      obtain ⟨hc1, hf1⟩ := bcell hb1
      go_wp2_with fail
      refine Calls.mono (KR.out _) ?_
      rintro e w2 ⟨rfl, hb2⟩
      have hs1 := hb1.size
      simp at hs1
      have hcell : ∀ Wx, Below w2.heap.size w2 Wx → ∀ (j : Nat) (h : j < p.length), Wx.cell? ⟨w.heap.size, j, none⟩ = some (.int .i64 p[j]) := fun Wx hx j h =>
        (hx.cell (p := ⟨w.heap.size, j, none⟩) (by have := hb2.size; simp; omega)).trans ((hb2.cell (p := ⟨w.heap.size, j, none⟩) (by simp; omega)).trans ((hb1.cell (p := ⟨w.heap.size, j, none⟩) (by simp)).trans (HC.out j h)))
      have k1 : ∀ Wx, Below w2.heap.size w2 Wx → Calls Tryz.prog 141 #[.slice (some ⟨w.heap.size, 0, none⟩) a 8] Wx fun e w' => e = .returned (.string ⟨(joinS (p.take a)).toArray⟩) ∧ Below w2.heap.size w2 w' := fun Wx hx => by
        have h := joinP (p.take a) w.heap.size 0 8 Wx (by have := hx.size; have := hb2.size; omega) (fun j h => by
          rw [Nat.zero_add]
          have hj : j < p.length := by simp at h; omega
          rw [hcell Wx hx j hj]
          simp) (mayS_take p HM.out a) (by simp; omega)
        rw [show (p.take a).length = a by have := HL.out; simp; omega] at h
        exact Calls.mono h fun e w' ⟨he, hb⟩ => ⟨he, hx.trans (hb.mono hx.size)⟩
      have k2 : ∀ Wx, Below w2.heap.size w2 Wx → Calls Tryz.prog 141 #[.slice (some ⟨w.heap.size, offOf m, none⟩) (8 - m) (8 - m)] Wx fun e w' => e = .returned (.string ⟨(joinS (p.drop m)).toArray⟩) ∧ Below w2.heap.size w2 w' := fun Wx hx => by
        have h := joinP (p.drop m) w.heap.size (offOf m) (8 - m) Wx (by have := hx.size; have := hb2.size; omega) (fun j h => by
          have h8 := HL.out
          have hj : m + j < p.length := by simp at h; omega
          have ho : offOf m = m := by simp at h; simp [offOf]; omega
          rw [ho, hcell Wx hx (m + j) hj]
          simp) (mayS_drop p HM.out m) (by have := HL.out; simp; omega)
        rw [show (p.drop m).length = 8 - m by have := HL.out; simp; omega] at h
        exact Calls.mono h fun e w' ⟨he, hb⟩ => ⟨he, hx.trans (hb.mono hx.size)⟩
      have K1 := Lib.hid k1; clear k1
      have K2 := Lib.hid k2; clear k2 hcell
      obtain ⟨t1, ht1⟩ : ∃ t1, joinS (p.take a) = t1 := ⟨_, rfl⟩
      obtain ⟨t2, ht2⟩ : ∃ t2, joinS (p.drop m) = t2 := ⟨_, rfl⟩
      rw [ht1] at K1 hl1 HS
      rw [ht2] at K2 hl2 HS
      have hcat1 := concat_run Tryz.prog t1 [58, 58] (by simp; omega)
      have hcat2 := concat_run Tryz.prog (t1 ++ [58, 58]) t2 (by simp; omega)
      clear ht1 ht2
      have hs2 := hb2.size
      have hbw : Below w.heap.size w w2 := ((Below.refl _ w).alloc (Nat.le_refl _) _).trans ((hb1.mono (by simp)).trans (hb2.mono (by omega)))
      clear hb2 hb1 hc1 hf1 hsa
      go_wp2_with fail
      go_region_held3 (fun Wx => Below w2.heap.size w2 Wx) (first | assumption | exact (Below.refl _ _).drew)
        (first
          | (go_at_call_of 141 (Value.slice (some ⟨w.heap.size, 0, none⟩) a 8); refine Calls.mono (K1.out _ (by assumption)) ?_; rintro e w' ⟨rfl, hS⟩)
          | (go_at_call 141; refine Calls.mono (K2.out _ (by assumption)) ?_; rintro e w' ⟨rfl, hS⟩))
      go_wp2_with fail
      go_ret
      exact ⟨by rw [HS.out, if_neg hn]; simp, hbw.trans (hS.mono (by omega))⟩
end Go.Proofs.YtkmoakfphfakoaaGreat
