/-
  Walks, part L: domains.
-/
import Derived.Test.YtkmoakfphfakoaaGreatK
import Derived.Laws.RangeAny
namespace Go.Proofs.YtkmoakfphfakoaaGreat
open Go.RowKit Go.Shelf
attribute [local go_sem] Oper.semAt_some

/-- A function of runes that holds of all from 128 on holds of some rune of a text just if it holds of some byte. -/
theorem idx_any (p : Nat → Bool) (hp : ∀ r, 128 ≤ r → p r = true) (s : ByteArray) : decide (0 ≤ Lib.idxFunc p true s) = s.data.toList.any fun c => p c.toNat := by
  have key : ∀ (f pos : Nat), s.size ≤ pos + f → (0 ≤ Lib.idxFuncFrom p true s f pos ↔ ∃ c ∈ s.data.toList.drop pos, p c.toNat = true) := by
    intro f
    induction f with
    | zero =>
      intro pos h
      have hd : s.data.toList.drop pos = [] := List.drop_eq_nil_of_le (by rw [← Lib.size_eq]; omega)
      simp [Lib.idxFuncFrom, hd]
    | succ f ih =>
      intro pos h
      by_cases hlt : pos < s.size
      · have hl : pos < s.data.toList.length := by rw [← Lib.size_eq]; exact hlt
        have hdr : s.data.toList.drop pos = s[pos] :: s.data.toList.drop (pos + 1) := List.drop_eq_getElem_cons hl
        rw [hdr]
        unfold Lib.idxFuncFrom
        rw [if_pos hlt]
        by_cases ha : (s[pos]).toNat < 128
        · rw [decode_ascii s pos hlt ha]
          cases hpc : p (s[pos]).toNat with
          | true => rw [if_pos rfl]; simp [hpc]
          | false =>
            rw [if_neg (by simp), ih (pos + 1) (by omega)]
            simp [hpc]
        · have hh := decode_high s pos hlt (by omega)
          rw [if_pos (hp _ hh.1)]
          have h2 := hp (s[pos]).toNat (by omega)
          simp [h2]
      · have hd : s.data.toList.drop pos = [] := List.drop_eq_nil_of_le (by rw [← Lib.size_eq]; omega)
        rw [Lib.idxFuncFrom_end p true s (f + 1) pos hlt, hd]
        simp
  have := key s.size 0 (by omega)
  rw [Bool.eq_iff_iff, decide_eq_true_iff, Lib.idxFunc, this, List.any_eq_true, List.drop_zero]

/-- A rune that no domain has. -/
def domP (x : Nat) : Bool := decide (128 ≤ x) || (decide (x ≠ 46) && decide (x ≠ 45) && decide (x ≠ 95) && !digit (UInt8.ofNat x) && (decide (x < 97) || decide (122 < x)))

set_option maxRecDepth 100000 in
set_option maxHeartbeats 4000000 in
theorem dom1_any (x : Nat) (hx : x ≤ 1114111) (w : World) :
    Calls Tryz.prog 84 #[.int .i32 x] w fun e w' => e = .returned (.bool (domP x)) ∧ w' = w := by
  have hDg := fun W => Digit_any (UInt8.ofNat x) W
  by_cases g1 : 128 ≤ x
  · have h1 : decide ((128 : Int) ≤ x) = true := by simp; omega
    have hr : domP x = true := by simp [domP, g1]
    rw [hr]
    clear hr
    go_enter Tryz.func84, Tryz.ntmps84
    go_wp2_with fail
    go_ret
    exact ⟨rfl, rfl⟩
  have h1 : decide ((128 : Int) ≤ x) = false := by simp; omega
  have hcv : ((UInt8.ofNat x).toNat : Int) = x := by simp; omega
  rw [hcv] at hDg
  have hwx : IntKind.u8.wrap (x : Int) = x := IntWalk.u8_in _ (by omega)
  have hr0 : domP x = (decide (x ≠ 46) && decide (x ≠ 45) && decide (x ≠ 95) && !digit (UInt8.ofNat x) && (decide (x < 97) || decide (122 < x))) := by unfold domP; rw [decide_eq_false g1]; rfl
  by_cases g2 : x = 46
  · have hr : domP x = false := by rw [hr0, g2]; simp
    have h2 : ((x : Int) != 46) = false := by simp; omega
    rw [hr]
    clear hr hr0
    go_enter Tryz.func84, Tryz.ntmps84
    go_wp2_with fail
    go_ret
    exact ⟨rfl, rfl⟩
  have h2 : ((x : Int) != 46) = true := by simp; omega
  by_cases g3 : x = 45
  · have hr : domP x = false := by rw [hr0, g3]; simp
    have h3 : ((x : Int) != 45) = false := by simp; omega
    rw [hr]
    clear hr hr0
    go_enter Tryz.func84, Tryz.ntmps84
    go_wp2_with fail
    go_ret
    exact ⟨rfl, rfl⟩
  have h3 : ((x : Int) != 45) = true := by simp; omega
  by_cases g4 : x = 95
  · have hr : domP x = false := by rw [hr0, g4]; simp
    have h4 : ((x : Int) != 95) = false := by simp; omega
    rw [hr]
    clear hr hr0
    go_enter Tryz.func84, Tryz.ntmps84
    go_wp2_with fail
    go_ret
    exact ⟨rfl, rfl⟩
  have h4 : ((x : Int) != 95) = true := by simp; omega
  have hr0 : domP x = (!digit (UInt8.ofNat x) && (decide (x < 97) || decide (122 < x))) := by rw [hr0]; simp [g2, g3, g4]
  obtain ⟨d, hd⟩ : ∃ d, digit (UInt8.ofNat x) = d := ⟨_, rfl⟩
  rw [hd] at hDg hr0
  clear hd
  cases d with
  | true =>
    have hr : domP x = false := hr0
    rw [hr]
    clear hr hr0
    go_enter Tryz.func84, Tryz.ntmps84
    go_wp2_with (first | (go_at_call 85; refine Calls.mono (hDg _) ?_; rintro e w1 ⟨rfl, rfl⟩))
    go_ret
    exact ⟨rfl, rfl⟩
  | false =>
    by_cases g5 : x < 97
    · have hr : domP x = true := by rw [hr0]; simp [g5]
      have h5 : decide ((x : Int) < 97) = true := by simp; omega
      rw [hr]
      clear hr hr0
      go_enter Tryz.func84, Tryz.ntmps84
      go_wp2_with (first | (go_at_call 85; refine Calls.mono (hDg _) ?_; rintro e w1 ⟨rfl, rfl⟩))
      go_ret
      exact ⟨rfl, rfl⟩
    · have h5 : decide ((x : Int) < 97) = false := by simp; omega
      by_cases g6 : 122 < x
      · have hr : domP x = true := by rw [hr0]; simp [g6]
        have h6 : decide ((122 : Int) < x) = true := by simp; omega
        rw [hr]
        clear hr hr0
        go_enter Tryz.func84, Tryz.ntmps84
        go_wp2_with (first | (go_at_call 85; refine Calls.mono (hDg _) ?_; rintro e w1 ⟨rfl, rfl⟩))
        go_ret
        exact ⟨rfl, rfl⟩
      · have h6 : decide ((122 : Int) < x) = false := by simp; omega
        have hr : domP x = false := by rw [hr0]; simp [g5, g6]
        rw [hr]
        clear hr hr0
        go_enter Tryz.func84, Tryz.ntmps84
        go_wp2_with (first | (go_at_call 85; refine Calls.mono (hDg _) ?_; rintro e w1 ⟨rfl, rfl⟩))
        go_ret
        exact ⟨rfl, rfl⟩

/-- The one package variable that the code reads. -/
def Deep (w : World) : Prop := ∃ m, w.cell? ⟨0, 0, none⟩ = some (.int .i64 m)
theorem Deep.below {w w' : World} (h : Deep w) (hb : Below w.heap.size w w') : Deep w' := by
  obtain ⟨m, hm⟩ := h
  refine ⟨m, (hb.cell (p := ⟨_, 0, none⟩) ?_).trans hm⟩
  rcases Nat.lt_or_ge 0 w.heap.size with h | h
  · exact h
  · simp [World.cell?, Array.getElem?_eq_none h] at hm

def fitsD (l : List UInt8) : Bool := !l.isEmpty && decide (l.length ≤ 100) && !looks l && !Lib.contains (46 :: (l ++ [46])) [46, 46] && !(l.any fun c => domP c.toNat)

set_option maxRecDepth 100000 in
set_option maxHeartbeats 4000000 in
theorem fits_any (s : ByteArray) (hs : s.size ≤ 140737488351232) (w : World) (hD : Deep w) :
    Calls Tryz.prog 62 #[.string s] w fun e w' => e = .returned (.bool (fitsD s.data.toList)) ∧ Below w.heap.size w w' := by
  have hLk := fun W => Looks_any s (by omega) W
  have hls := Lib.hid (Lib.size_eq s)
  cases hE : s.toList.isEmpty with
  | true =>
    have hl : s.data.toList = [] := by rw [← Lib.toList_data]; simpa using hE
    have hf : fitsD s.data.toList = false := by rw [hl]; rfl
    rw [hf]
    clear hf
    go_enter Tryz.func62, Tryz.ntmps62
    go_wp2_with fail
    go_ret
    exact ⟨rfl, Below.refl _ _⟩
  | false =>
    have hl : s.data.toList.isEmpty = false := by rw [← Lib.toList_data]; exact hE
    by_cases h100 : 100 < s.size
    · have h1 : decide ((100 : Int) < s.size) = true := by simp; omega
      have hf : fitsD s.data.toList = false := by
        have : decide (s.data.toList.length ≤ 100) = false := by rw [← hls.out]; simp; omega
        unfold fitsD; rw [this]; simp
      rw [hf]
      clear hf
      go_enter Tryz.func62, Tryz.ntmps62
      go_wp2_with fail
      go_ret
      exact ⟨rfl, Below.refl _ _⟩
    · have h1 : decide ((100 : Int) < s.size) = false := by simp; omega
      have hf : fitsD s.data.toList = (!looks s.data.toList && !Lib.contains (46 :: (s.data.toList ++ [46])) [46, 46] && !(s.data.toList.any fun c => domP c.toNat)) := by
        have : decide (s.data.toList.length ≤ 100) = true := by rw [← hls.out]; simp; omega
        unfold fitsD; rw [this, hl]; rfl
      rw [hf]
      clear hf
      obtain ⟨k, hk⟩ : ∃ k, looks s.data.toList = k := ⟨_, rfl⟩
      rw [hk] at hLk ⊢
      clear hk
      cases k with
      | true =>
        go_enter Tryz.func62, Tryz.ntmps62
        go_wp2_with fail
        refine Calls.mono (hLk _) ?_
        rintro e w1 ⟨rfl, rfl⟩
        go_wp2_with fail
        go_ret
        exact ⟨rfl, Below.refl _ _⟩
      | false =>
        obtain ⟨m, hm⟩ := hD
        obtain ⟨t, ht⟩ : ∃ t : ByteArray, (⟨#[46]⟩ : ByteArray) ++ s ++ ⟨#[46]⟩ = t := ⟨_, rfl⟩
        have htl : t.data.toList = 46 :: (s.data.toList ++ [46]) := by rw [← ht]; simp
        have hts : t.size ≤ 102 := by rw [Lib.size_eq, htl]; simp; omega
        have hC := Tryz.strings_Contains t ⟨#[46, 46]⟩ m w (by omega) hm
        have hC : Calls Tryz.prog 53 #[.string t, .string ⟨#[46, 46]⟩] w fun e w' => e = .returned (.bool (Lib.contains (46 :: (s.data.toList ++ [46])) [46, 46])) ∧ w' = w := by rw [htl] at hC; exact hC
        obtain ⟨k, hk⟩ : ∃ k, Lib.contains (46 :: (s.data.toList ++ [46])) [46, 46] = k := ⟨_, rfl⟩
        rw [hk] at hC ⊢
        clear hk htl hts
        have hF := Tryz.strings_ContainsFunc_grows 84 #[] (by intro args w; rfl) domP s w (fun W x hx hb => (dom1_any x hx W).mono fun e w' ⟨he, hw⟩ => ⟨he, by rw [hw]; exact Below.refl _ _⟩)
        rw [idx_any domP (fun r hr => by simp [domP, hr])] at hF
        obtain ⟨q, hq⟩ : ∃ q, (s.data.toList.any fun c => domP c.toNat) = q := ⟨_, rfl⟩
        rw [hq] at hF ⊢
        clear hq
        cases k with
        | true =>
          go_enter Tryz.func62, Tryz.ntmps62
          go_wp2_with fail
          refine Calls.mono (hLk _) ?_
          rintro e w1 ⟨rfl, rfl⟩
          go_wp2_with fail
          refine Calls.mono hC ?_
          rintro e w2 ⟨rfl, rfl⟩
          go_wp2_with fail
          go_ret
          exact ⟨rfl, Below.refl _ _⟩
        | false =>
          go_enter Tryz.func62, Tryz.ntmps62
          go_wp2_with fail
          refine Calls.mono (hLk _) ?_
          rintro e w1 ⟨rfl, rfl⟩
          go_wp2_with fail
          refine Calls.mono hC ?_
          rintro e w2 ⟨rfl, rfl⟩
          go_wp2_with fail
          refine Calls.mono hF ?_
          rintro e w3 ⟨rfl, h3⟩
          go_wp2_with fail
          go_ret
          exact ⟨by simp, h3⟩
end Go.Proofs.YtkmoakfphfakoaaGreat
