/-
  Walks of the references, part RA: postmarkref01.Lower, postmarkref08.Dots.
-/
import Derived.Test.YtkmoakfphfakoaaGreatJ
import Derived.Laws.IdiomStrings
import Derived.Laws.Rows
import Derived.Laws.Tables
namespace Go.Proofs.YtkmoakfphfakoaaGreat
open Go.RowKit Go.Shelf
attribute [local go_sem] Oper.semAt_some

theorem bytesRow_eq (s : ByteArray) (c : Nat) : bytesRow s c = (Lib.byteCells s.data.toList ++ List.replicate (c - s.size) (Value.int .u8 0)).toArray := by
  unfold bytesRow Lib.byteCells
  rw [← Array.toList_inj]
  simp

/-- A block that holds the bytes zs ahead of R; a place behind its last cell is marked. -/
def BRow (B : Nat) (zs : List UInt8) (R : List Value) (w : World) : Prop := ∃ m, zs.length ≤ m ∧ w.heap[B]? = some (.cells (Lib.byteCells zs ++ R).toArray 5 (m, m + 1))
theorem BRow.cell {B : Nat} {zs : List UInt8} {R : List Value} {w : World} (h : BRow B zs R w) (k : Nat) (hk : k < zs.length) : w.cell? ⟨B, k, none⟩ = some (.int .u8 zs[k].toNat) := by
  obtain ⟨m, _, h⟩ := h
  have : w.cell? ⟨B, k, none⟩ = (Lib.byteCells zs ++ R).toArray[k]? := by simp [World.cell?, h]
  rw [this]
  simp only [List.getElem?_toArray]
  rw [List.getElem?_append_left (by simpa [Lib.byteCells] using hk)]
  simp [Lib.byteCells, hk]
theorem BRow.frozen {B : Nat} {zs : List UInt8} {R : List Value} {w : World} (h : BRow B zs R w) (k : Nat) (hk : k < zs.length) : w.frozen? ⟨B, k, none⟩ = false := by
  obtain ⟨m, hm, h⟩ := h
  simp [World.frozen?, h]
  omega
theorem BRow.put {B : Nat} {zs : List UInt8} {R : List Value} {w : World} (h : BRow B zs R w) (k : Nat) (hk : k < zs.length) (c : UInt8) : BRow B (zs.set k c) R (w.setCell ⟨B, k, none⟩ (.int .u8 c.toNat)) := by
  obtain ⟨m, hm, h⟩ := h
  refine ⟨m, by simpa using hm, ?_⟩
  rw [setCell_eq_setRow w B k _ _ _ _ h, setRow_heap w B _ _ _ _ h]
  congr 2
  rw [← Array.toList_inj]
  simp only [Array.toList_setIfInBounds]
  rw [List.set_append_left _ _ (by simpa [Lib.byteCells] using hk)]
  simp [Lib.byteCells, List.map_set]
theorem BRow.lt {B : Nat} {zs : List UInt8} {R : List Value} {w : World} (h : BRow B zs R w) : B < w.heap.size := by
  obtain ⟨m, _, h⟩ := h
  exact (Array.getElem?_eq_some_iff.1 h).1

set_option maxRecDepth 100000 in
set_option maxHeartbeats 2000000 in
theorem RLower_any (s : ByteArray) (hs : s.size ≤ 140737488351232) (w : World) :
    Calls Tryz.prog 82 #[.string s] w fun e w' => e = .returned (.string ⟨(lowL s).toArray⟩) ∧ Below w.heap.size w w' := by
  have hcv := run_bytes_of_string (P := Tryz.prog) w 9 37 5 s Tryz.underlying9 Tryz.underlying37 Tryz.underlying5
  obtain ⟨cp, hcp⟩ : ∃ cp, grownCap w s.size 0 5 = cp := ⟨_, rfl⟩
  rw [hcp] at hcv
  clear hcp
  obtain ⟨w0, hw0⟩ : ∃ w0, w.drew.alloc (.cells (bytesRow s cp) 5 ((bytesRow s cp).size, (bytesRow s cp).size + 1)) = w0 := ⟨_, rfl⟩
  rw [hw0] at hcv
  have hb0 : Below w.heap.size w w0 := by rw [← hw0]; exact ((Below.refl _ w).drew).alloc (Nat.le_refl _) _
  have hr0 : BRow w.heap.size s.data.toList (List.replicate (cp - s.size) (.int .u8 0)) w0 := by
    refine ⟨(bytesRow s cp).size, by rw [bytesRow_eq]; simp [Lib.byteCells], ?_⟩
    rw [← hw0, bytesRow_eq]
    exact World.alloc_heap_new w.drew _
  generalize List.replicate (cp - s.size) (Value.int .u8 0) = R at hr0
  have hL : s.data.toList.length = s.size := by simp
  obtain ⟨L, hLd⟩ : ∃ L, s.data.toList = L := ⟨_, rfl⟩
  obtain ⟨n, hn⟩ : ∃ n, s.size = n := ⟨_, rfl⟩
  unfold lowL
  rw [hLd] at hr0 hL ⊢
  rw [hn] at hcv hL hs
  have HL := Lib.hid hL
  clear hL hw0 hLd hn
  go_enter Tryz.func82, Tryz.ntmps82
  go_wp2_with fail
  go_loopw [4] (fun i wr => ∃ k : Nat, k ≤ n ∧ i = .int .i64 k ∧ BRow w.heap.size ((L.take k).map lowB ++ L.drop k) R wr ∧ Below w.heap.size w wr) (fun i _ => n - (intOf i).toNat)
  case atStart => exact ⟨0, Nat.zero_le _, rfl, by simpa using hr0, hb0⟩
  case round =>
    obtain ⟨k, hk, rfl, hr, hb⟩ := hrel
    by_cases hlt : k < n
    · have hkL : k < L.length := by rw [HL.out]; exact hlt
      have hlen : k < ((L.take k).map lowB ++ L.drop k).length := by simp; omega
      have hget : ((L.take k).map lowB ++ L.drop k)[k] = L[k] := by
        rw [List.getElem_append_right (by simp; omega)]
        simp only [List.length_map, List.length_take, List.getElem_drop]
        congr 1
        omega
      have hset : ((L.take k).map lowB ++ L.drop k).set k (lowB L[k]) = (L.take (k + 1)).map lowB ++ L.drop (k + 1) := by
        rw [List.take_succ_eq_append_getElem hkL, List.map_append, List.set_append_right _ _ (by simp; omega)]
        have e : k - ((L.take k).map lowB).length = 0 := by simp; omega
        rw [e, List.drop_eq_getElem_cons hkL, List.set_cons_zero]
        simp only [List.map_cons, List.map_nil, List.append_assoc, List.singleton_append]
      have hsame : lowB L[k] = L[k] → (L.take k).map lowB ++ L.drop k = (L.take (k + 1)).map lowB ++ L.drop (k + 1) := fun h => by
        rw [← hset, h, ← hget]
        exact (List.set_getElem_self _).symm
      have hc := hr.cell k hlen
      have hf := hr.frozen k hlen
      have hp := hr.put k hlen (lowB L[k])
      have hlt2 : decide ((k : Int) < n) = true := by simp; omega
      rw [hget] at hc
      rw [hset] at hp
      have hlo := lowB_toNat L[k]
      have hno : ¬ (65 ≤ L[k] ∧ L[k] ≤ 90) → lowB L[k] = L[k] := fun h => by unfold lowB; rw [if_neg h]
      generalize L[k] = b at hc hp hlo hsame hno
      have HH := Lib.hid (And.intro hsame (And.intro hno (And.intro hp (And.intro hr (And.intro hb hlo)))))
      clear hsame hno hp hr hb hlo hset hget hlen hkL
      by_cases h1 : 65 ≤ b.toNat
      · have d1 : decide ((65 : Int) ≤ b.toNat) = true := by simp; omega
        by_cases h2 : b.toNat ≤ 90
        · have d2 : decide ((b.toNat : Int) ≤ 90) = true := by simp; omega
          have hv : ((lowB b).toNat : Int) = (b.toNat : Int) + 32 := by rw [HH.out.2.2.2.2.2 ⟨h1, h2⟩]; simp
          have HV := Lib.hid hv
          clear hv
          go_wp2_with fail
          go_roundw
          case rel =>
            refine ⟨k + 1, by omega, by go_num, ?_, HH.out.2.2.2.2.1.setCell (p := ⟨w.heap.size, k, none⟩) (Nat.le_refl _) _⟩
            have := HH.out.2.2.1
            rw [HV.out] at this
            exact this
          case measure => simp [intOf]; omega
        · have d2 : decide ((b.toNat : Int) ≤ 90) = false := by simp; omega
          go_wp2_with fail
          go_roundw
          case rel =>
            refine ⟨k + 1, by omega, by go_num, ?_, HH.out.2.2.2.2.1⟩
            rw [← HH.out.1 (HH.out.2.1 (fun h => h2 h.2))]
            exact HH.out.2.2.2.1
          case measure => simp [intOf]; omega
      · have d1 : decide ((65 : Int) ≤ b.toNat) = false := by simp; omega
        go_wp2_with fail
        go_roundw
        case rel =>
          refine ⟨k + 1, by omega, by go_num, ?_, HH.out.2.2.2.2.1⟩
          rw [← HH.out.1 (HH.out.2.1 (fun h => h1 h.1))]
          exact HH.out.2.2.2.1
        case measure => simp [intOf]; omega
    · obtain rfl : k = n := by omega
      have hlt2 : decide ((k : Int) < k) = false := by simp
      have hz : (L.take k).map lowB ++ L.drop k = L.map lowB := by
        rw [List.take_of_length_le (by rw [HL.out]; exact Nat.le_refl _), List.drop_of_length_le (by rw [HL.out]; exact Nat.le_refl _), List.append_nil]
      rw [hz] at hr
      have hcv2 := run_convert_bytes_back (P := Tryz.prog) wr 37 9 5 ⟨w.heap.size, 0, none⟩ cp (L.map lowB) Tryz.underlying37 Tryz.underlying5 Tryz.underlying9 (fun j hj => by
        have := hr.cell j hj
        rw [← this]
        congr 1
        unfold Addr.add; split <;> simp_all)
      rw [List.length_map, HL.out] at hcv2
      clear hz hr
      go_wp2_with fail
      go_ret
      exact ⟨rfl, hb⟩

/-- Which dots a segment is, by the text in small letters. -/
def dotsR (l : List UInt8) : Nat :=
  if l = [46] ∨ l = [37, 50, 101] then 1 else if l = [46, 46] ∨ l = [46, 37, 50, 101] ∨ l = [37, 50, 101, 46] ∨ l = [37, 50, 101, 37, 50, 101] then 2 else 0

set_option maxRecDepth 100000 in
set_option maxHeartbeats 2000000 in
theorem RDots_any (s : ByteArray) (hs : s.size ≤ 140737488351232) (w : World) :
    Calls Tryz.prog 61 #[.string s] w fun e w' => e = .returned (.int .i64 (dotsR (lowL s))) ∧ Below w.heap.size w w' := by
  have hL := RLower_any s hs w
  generalize lowL s = l at hL
  have hl : (⟨l.toArray⟩ : ByteArray).toList = l := by rw [Lib.toList_data]
  by_cases h1 : l = [46]
  · subst h1
    go_enter Tryz.func61, Tryz.ntmps61
    go_wp2_with fail
    refine Calls.mono hL ?_
    rintro e w1 ⟨rfl, hb⟩
    go_wp2_with fail
    go_ret
    exact ⟨rfl, hb⟩
  by_cases h2 : l = [37, 50, 101]
  · subst h2
    go_enter Tryz.func61, Tryz.ntmps61
    go_wp2_with fail
    refine Calls.mono hL ?_
    rintro e w1 ⟨rfl, hb⟩
    go_wp2_with fail
    go_ret
    exact ⟨rfl, hb⟩
  by_cases h3 : l = [46, 46]
  · subst h3
    go_enter Tryz.func61, Tryz.ntmps61
    go_wp2_with fail
    refine Calls.mono hL ?_
    rintro e w1 ⟨rfl, hb⟩
    go_wp2_with fail
    go_ret
    exact ⟨rfl, hb⟩
  by_cases h4 : l = [46, 37, 50, 101]
  · subst h4
    go_enter Tryz.func61, Tryz.ntmps61
    go_wp2_with fail
    refine Calls.mono hL ?_
    rintro e w1 ⟨rfl, hb⟩
    go_wp2_with fail
    go_ret
    exact ⟨rfl, hb⟩
  by_cases h5 : l = [37, 50, 101, 46]
  · subst h5
    go_enter Tryz.func61, Tryz.ntmps61
    go_wp2_with fail
    refine Calls.mono hL ?_
    rintro e w1 ⟨rfl, hb⟩
    go_wp2_with fail
    go_ret
    exact ⟨rfl, hb⟩
  by_cases h6 : l = [37, 50, 101, 37, 50, 101]
  · subst h6
    go_enter Tryz.func61, Tryz.ntmps61
    go_wp2_with fail
    refine Calls.mono hL ?_
    rintro e w1 ⟨rfl, hb⟩
    go_wp2_with fail
    go_ret
    exact ⟨rfl, hb⟩
  have hz : dotsR l = 0 := by simp [dotsR, h1, h2, h3, h4, h5, h6]
  rw [hz]
  have e1 : (l == [46]) = false := by simpa using h1
  have e2 : (l == [37, 50, 101]) = false := by simpa using h2
  have e3 : (l == [46, 46]) = false := by simpa using h3
  have e4 : (l == [46, 37, 50, 101]) = false := by simpa using h4
  have e5 : (l == [37, 50, 101, 46]) = false := by simpa using h5
  have e6 : (l == [37, 50, 101, 37, 50, 101]) = false := by simpa using h6
  clear hz h1 h2 h3 h4 h5 h6
  go_enter Tryz.func61, Tryz.ntmps61
  go_wp2_with fail
  refine Calls.mono hL ?_
  rintro e w1 ⟨rfl, hb⟩
  go_wp2_with fail
  go_ret
  exact ⟨rfl, hb⟩
end Go.Proofs.YtkmoakfphfakoaaGreat
