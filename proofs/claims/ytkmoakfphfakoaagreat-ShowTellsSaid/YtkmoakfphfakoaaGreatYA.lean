/-
  Walks, parts RE RF RG RH, in one text.
-/
import Derived.Test.YtkmoakfphfakoaaGreatL
import Derived.IntWalk
import Derived.Test.YtkmoakfphfakoaaGreatT
import Derived.Test.YtkmoakfphfakoaaGreatRA
import Derived.Test.YtkmoakfphfakoaaGreatPShowTellsx3
import Derived.Test.YtkmoakfphfakoaaGreatPShowTellsx4
import Derived.Test.YtkmoakfphfakoaaGreatPShowTellsx5
set_option linter.unusedVariables false
set_option linter.unusedSimpArgs false
namespace Go.Proofs.YtkmoakfphfakoaaGreat
open Go.RowKit Go.Proofs.YtkmoakfphfakoaaGreatW.PrintWords Go.Proofs.YtkmoakfphfakoaaGreat.PShowTells

theorem bt_get (s : ByteArray) (i : Nat) (h : i < s.size) : bt s (i : Int) = (s.data.toList[i]'(by simpa using h)).toNat := by
  unfold bt
  rw [dif_pos (by simpa using h)]
  simp only [Int.toNat_natCast]
  rfl
theorem wrap_succ (i n : Nat) (h : i < n) (hn : n ≤ 9223372036854775807) : wrap64 ((i : Int) + 1) = ((i + 1 : Nat) : Int) := by
  rw [IntWalk.wrap64_in _ (by omega)]; rfl

/-! ## postmarkref03.Ready -/
theorem in_eq1 (c : UInt8) : postmarkref03_In.f 40 1 c.toNat = some (inSet 1 c) := byte_all (p := fun c => postmarkref03_In.f 40 1 c.toNat = some (inSet 1 c)) (by decide +kernel) c
theorem in_eq2 (c : UInt8) : postmarkref03_In.f 40 2 c.toNat = some (inSet 2 c) := byte_all (p := fun c => postmarkref03_In.f 40 2 c.toNat = some (inSet 2 c)) (by decide +kernel) c
theorem in_eq3 (c : UInt8) : postmarkref03_In.f 40 3 c.toNat = some (inSet 3 c) := byte_all (p := fun c => postmarkref03_In.f 40 3 c.toNat = some (inSet 3 c)) (by decide +kernel) c
theorem in_eq4 (c : UInt8) : postmarkref03_In.f 40 4 c.toNat = some (inSet 4 c) := byte_all (p := fun c => postmarkref03_In.f 40 4 c.toNat = some (inSet 4 c)) (by decide +kernel) c
theorem in_ev (n : Int) (hn : n = 1 ∨ n = 2 ∨ n = 3 ∨ n = 4) (c : UInt8) : Ev (fun k => postmarkref03_In.f k n c.toNat) (inSet n c) := by
  rcases hn with rfl | rfl | rfl | rfl
  · exact Ev.of (fun k => postmarkref03_In.mono _ _ k) (in_eq1 c)
  · exact Ev.of (fun k => postmarkref03_In.mono _ _ k) (in_eq2 c)
  · exact Ev.of (fun k => postmarkref03_In.mono _ _ k) (in_eq3 c)
  · exact Ev.of (fun k => postmarkref03_In.mono _ _ k) (in_eq4 c)
theorem ready_ev (s : ByteArray) (hs : s.size ≤ 9223372036854775807) (n : Int) (hn : n = 1 ∨ n = 2 ∨ n = 3 ∨ n = 4) (d : Nat) : ∀ i : Nat, i + d = s.size →
    Ev (fun k => postmarkref03_Ready.l0 k s n (i : Int)) ((s.data.toList.drop i).all fun c => !inSet n c) := by
  induction d with
  | zero =>
    intro i hi
    have hd : s.data.toList.drop i = [] := List.drop_eq_nil_of_le (by simp; omega)
    rw [hd]
    refine Ev.step (f := fun _ => some true) (fun k => ?_) (Ev.now _)
    simp only [postmarkref03_Ready.l0]
    rw [if_neg (by omega)]
  | succ d ih =>
    intro i hi
    have hl : i < s.data.toList.length := by simp; omega
    rw [List.drop_eq_getElem_cons hl]
    refine Ev.step (f := fun k => (postmarkref03_In.f k n (s.data.toList[i]).toNat).bind fun t => if t = true then some false else postmarkref03_Ready.l0 k s n ((i + 1 : Nat) : Int)) (fun k => ?_) ?_
    · simp only [postmarkref03_Ready.l0]
      rw [if_pos (by omega), if_pos (by omega), bt_get s i (by omega), wrap_succ i s.size (by omega) hs]
    · refine Ev.bind (in_ev n hn _) ?_
      rw [List.all_cons]
      cases h : inSet n s.data.toList[i] with
      | true => exact Ev.congr (f := fun _ => some false) (fun k => rfl) (Ev.now false)
      | false => exact Ev.congr (f := fun k => postmarkref03_Ready.l0 k s n ((i + 1 : Nat) : Int)) (fun k => rfl) (ih (i + 1) (by omega))
theorem ready_eq (s : ByteArray) (hs : s.size ≤ 9223372036854775807) (n : Int) (hn : n = 1 ∨ n = 2 ∨ n = 3 ∨ n = 4) : Ev (fun k => postmarkref03_Ready.f k s n) (ready n s.data.toList) := by
  exact Ev.congr (fun k => rfl) (ready_ev s hs n hn s.size 0 (by omega))

/-! ## postmarkref09.find -/
theorem find_ev (s : ByteArray) (hs : s.size ≤ 9223372036854775807) (c : UInt8) (d : Nat) : ∀ i : Nat, i + d = s.size →
    Ev (fun k => postmarkref09_find.l0 k s c.toNat (i : Int)) ((i + (s.data.toList.drop i).findIdx (· == c) : Nat) : Int) := by
  induction d with
  | zero =>
    intro i hi
    have hd : s.data.toList.drop i = [] := List.drop_eq_nil_of_le (by simp; omega)
    rw [hd]
    refine Ev.step (f := fun _ => some (s.size : Int)) (fun k => ?_) ?_
    · simp only [postmarkref09_find.l0]
      rw [if_neg (by omega)]
    · have e : ((i + ([] : List UInt8).findIdx (· == c) : Nat) : Int) = s.size := by simp; omega
      rw [e]; exact Ev.now _
  | succ d ih =>
    intro i hi
    have hl : i < s.data.toList.length := by simp; omega
    rw [List.drop_eq_getElem_cons hl, List.findIdx_cons]
    by_cases h : s.data.toList[i] = c
    · refine Ev.step (f := fun _ => some (i : Int)) (fun k => ?_) ?_
      · simp only [postmarkref09_find.l0]
        rw [if_pos (by omega), if_pos (by omega), bt_get s i (by omega), if_pos (by rw [h])]
      · have e : (s.data.toList[i] == c) = true := by simpa using h
        rw [e]
        exact Ev.now _
    · refine Ev.step (f := fun k => postmarkref09_find.l0 k s c.toNat ((i + 1 : Nat) : Int)) (fun k => ?_) ?_
      · simp only [postmarkref09_find.l0]
        rw [if_pos (by omega), if_pos (by omega), bt_get s i (by omega), if_neg (fun e => h (UInt8.toNat_inj.1 (by omega))), wrap_succ i s.size (by omega) hs]
      · have e : (s.data.toList[i] == c) = false := by simpa using h
        have := ih (i + 1) (by omega)
        rw [e]
        simp only [cond_false]
        rw [show i + ((s.data.toList.drop (i + 1)).findIdx (· == c) + 1) = i + 1 + (s.data.toList.drop (i + 1)).findIdx (· == c) by omega]
        exact this
theorem find_eq (s : ByteArray) (hs : s.size ≤ 9223372036854775807) (c : UInt8) : Ev (fun k => postmarkref09_find.f k s c.toNat 0) ((s.data.toList.findIdx (· == c) : Nat) : Int) := by
  have h := find_ev s hs c s.size 0 (by omega)
  rw [List.drop_zero, Nat.zero_add] at h
  exact Ev.congr (fun k => rfl) h

/-! ## postmarkref02.Plain, postmarkref05.Looks -/
theorem rdigit_eq (c : UInt8) : postmarkref01_Digit.f c.toNat = some (digit c) := by
  unfold postmarkref01_Digit.f digit
  by_cases h1 : 48 ≤ c.toNat
  · rw [if_pos (by omega)]
    have : decide ((c.toNat : Int) ≤ 57) = decide (c.toNat ≤ 57) := by rw [Bool.eq_iff_iff, decide_eq_true_iff, decide_eq_true_iff]; omega
    rw [this, decide_eq_true h1]; rfl
  · rw [if_neg (by omega)]
    simp [h1]
theorem plain_ev (s : ByteArray) (hs : s.size ≤ 9223372036854775807) (d : Nat) : ∀ i : Nat, i + d = s.size →
    Ev (fun k => postmarkref02_Plain.l0 k s (i : Int)) (((s.data.toList.drop i).all digit) && decide (0 < s.size)) := by
  induction d with
  | zero =>
    intro i hi
    have hd : s.data.toList.drop i = [] := List.drop_eq_nil_of_le (by simp; omega)
    rw [hd]
    refine Ev.step (f := fun _ => some (decide (0 < s.size))) (fun k => ?_) (by simpa using Ev.now _)
    simp only [postmarkref02_Plain.l0]
    rw [if_neg (by omega)]
    congr 1
    rw [Bool.eq_iff_iff]
    simp
  | succ d ih =>
    intro i hi
    have hl : i < s.data.toList.length := by simp; omega
    rw [List.drop_eq_getElem_cons hl, List.all_cons]
    cases h : digit s.data.toList[i] with
    | true =>
      refine Ev.step (f := fun k => postmarkref02_Plain.l0 k s ((i + 1 : Nat) : Int)) (fun k => ?_) (by simpa using ih (i + 1) (by omega))
      simp only [postmarkref02_Plain.l0]
      rw [if_pos (by omega), if_pos (by omega), bt_get s i (by omega), rdigit_eq, h, wrap_succ i s.size (by omega) hs]
      rfl
    | false =>
      refine Ev.step (f := fun k => some false) (fun k => ?_) (by simpa using Ev.now false)
      simp only [postmarkref02_Plain.l0]
      rw [if_pos (by omega), if_pos (by omega), bt_get s i (by omega), rdigit_eq, h]
      rfl
theorem plain_eq (s : ByteArray) (hs : s.size ≤ 9223372036854775807) : Ev (fun k => postmarkref02_Plain.f k s) (plainD s.data.toList) := by
  have := plain_ev s hs s.size 0 (by omega)
  have e : plainD s.data.toList = ((s.data.toList.drop 0).all digit && decide (0 < s.size)) := by
    unfold plainD
    rw [List.drop_zero, Bool.and_comm]
    congr 1
    rw [Lib.size_eq]
    cases s.data.toList <;> rfl
  rw [e]
  exact this
theorem looks_ev (s : ByteArray) (hs : s.size ≤ 9223372036854775807) (d : Nat) : ∀ (i m : Nat) (x : ByteArray), i + d = s.size → m ≤ i → x.data.toList = s.data.toList.drop m →
    (m = 0 ∨ ∃ k, m = k + 1 ∧ s.data.toList[k]? = some 46) → (∀ c ∈ (s.data.toList.drop m).take (i - m), c ≠ 46) →
    Ev (fun k => postmarkref05_Looks.l0 k s x (i : Int)) (looks s.data.toList) := by
  induction d with
  | zero =>
    intro i m x hi hm hx h1 h2
    have hxs : x.size ≤ s.size := by rw [Lib.size_eq, hx, Lib.size_eq]; simp
    have hp := plain_eq x (by omega)
    have hl : lastSeg s.data.toList = s.data.toList.drop m := lastSeg_eq _ _ h1 (fun c hc => h2 c (by rw [List.take_of_length_le (by simp; omega)]; exact hc))
    unfold looks
    rw [hl, ← hx]
    refine Ev.step (f := fun k => (postmarkref02_Plain.f k x).bind fun t => some t) (fun k => ?_) (Ev.bind hp (Ev.now _))
    simp only [postmarkref05_Looks.l0]
    rw [if_neg (by omega)]
  | succ d ih =>
    intro i m x hi hm hx h1 h2
    have hl : i < s.data.toList.length := by simp; omega
    by_cases h : s.data.toList[i] = 46
    · refine Ev.step (f := fun k => postmarkref05_Looks.l0 k s (s.extract (i + 1) s.size) ((i + 1 : Nat) : Int)) (fun k => ?_) (ih (i + 1) (i + 1) _ (by omega) (Nat.le_refl _) ?_ (.inr ⟨i, rfl, by rw [List.getElem?_eq_getElem hl, h]⟩) (by simp))
      · simp only [postmarkref05_Looks.l0]
        rw [if_pos (by omega), if_pos (by omega), bt_get s i (by omega), if_pos (by rw [h]; rfl), wrap_succ i s.size (by omega) hs, if_pos (by omega), if_pos (by omega)]
        simp only [Int.toNat_natCast]
      · rw [← Lib.toList_data (s.extract (i + 1) s.size), Lib.extract_toList, Lib.size_eq, List.take_of_length_le (by simp)]
    · refine Ev.step (f := fun k => postmarkref05_Looks.l0 k s x ((i + 1 : Nat) : Int)) (fun k => ?_) (ih (i + 1) m x (by omega) (by omega) hx h1 (fun c hc => ?_))
      · simp only [postmarkref05_Looks.l0]
        rw [if_pos (by omega), if_pos (by omega), bt_get s i (by omega), if_neg (fun e => h (UInt8.toNat_inj.1 (by show _ = 46; omega))), wrap_succ i s.size (by omega) hs]
      · have e : i + 1 - m = (i - m) + 1 := by omega
        rw [e, List.take_succ_eq_append_getElem (by simp; omega)] at hc
        rcases List.mem_append.1 hc with hc | hc
        · exact h2 c hc
        · have : c = s.data.toList[i] := by
            rw [List.mem_singleton.1 hc, List.getElem_drop]
            congr 1; omega
          rw [this]; exact h
theorem looks_eq (s : ByteArray) (hs : s.size ≤ 9223372036854775807) : Ev (fun k => postmarkref05_Looks.f k s) (looks s.data.toList) :=
  looks_ev s hs s.size 0 0 s (by omega) (Nat.le_refl _) rfl (.inl rfl) (by simp)
end Go.Proofs.YtkmoakfphfakoaaGreat

set_option linter.unusedVariables false
set_option linter.unusedSimpArgs false
namespace Go.Proofs.YtkmoakfphfakoaaGreat
open Go.RowKit Go.Proofs.YtkmoakfphfakoaaGreatW.PrintWords Go.Proofs.YtkmoakfphfakoaaGreat.PShowTells

/-! ## postmarkref07.name -/
def ddot (l : List UInt8) : Bool := Lib.contains l [46, 46]
theorem ddot_nil : ddot [] = false := by decide
theorem ddot_cons (a : UInt8) (l : List UInt8) : ddot (a :: l) = (([46, 46] : List UInt8).isPrefixOf (a :: l) || ddot l) := by
  unfold ddot Lib.contains
  rw [Lib.index]
  by_cases h : ([46, 46] : List UInt8).isPrefixOf (a :: l) = true
  · rw [if_pos h, h]; simp
  · rw [if_neg h, Bool.eq_false_iff.2 h, Bool.false_or]
    have hg := Lib.index_ge l [46, 46]
    by_cases h1 : Lib.index l [46, 46] = -1
    · simp [h1]
    · rw [if_neg (by simpa using h1), Bool.eq_iff_iff, decide_eq_true_iff, decide_eq_true_iff]
      omega
theorem ddot_one (a : UInt8) : ddot [a] = false := by rw [ddot_cons, ddot_nil]; simp [List.isPrefixOf]
theorem ddot_two (a b : UInt8) (l : List UInt8) : ddot (a :: b :: l) = ((a == 46 && b == 46) || ddot (b :: l)) := by
  rw [ddot_cons]
  congr 1
  have e : ∀ x : UInt8, ((46 : UInt8) == x) = (x == 46) := fun x => by
    rw [Bool.eq_iff_iff, beq_iff_eq, beq_iff_eq]
    exact eq_comm
  simp only [List.isPrefixOf, Bool.and_true]
  rw [e a, e b]
theorem ddot_snoc (l : List UInt8) (hl : l ≠ []) : ddot (l ++ [46]) = (ddot l || l.getLast? == some 46) := by
  induction l with
  | nil => exact absurd rfl hl
  | cons a t ih =>
    cases t with
    | nil => rw [List.singleton_append, ddot_two, ddot_one, ddot_one]; simp
    | cons b r =>
      rw [List.cons_append, List.cons_append, ddot_two, ddot_two, ← List.cons_append, ih (by simp)]
      rw [Bool.or_assoc]
      congr 2
/-- Are a text's bytes those of a domain, and no two dots side by side, the byte ahead of it counted? -/
def chk : UInt8 → List UInt8 → Bool
  | _, [] => true
  | p, c :: r => !domP c.toNat && !(c == 46 && p == 46) && chk c r
theorem chk_eq (l : List UInt8) : ∀ p, chk p l = (!(l.any fun c => domP c.toNat) && !ddot (p :: l)) := by
  induction l with
  | nil => intro p; rw [ddot_one]; rfl
  | cons c r ih =>
    intro p
    rw [chk, ih, ddot_two, List.any_cons]
    cases domP c.toNat <;> cases (c == 46) <;> cases (p == 46) <;> simp
theorem fitsD_eq (a : UInt8) (t : List UInt8) : fitsD (a :: t) = (decide ((a :: t).length ≤ 100) && !looks (a :: t) && !(a == 46) && !((a :: t).getLast? == some 46) && chk 0 (a :: t)) := by
  have h1 : Lib.contains (46 :: ((a :: t) ++ [46])) [46, 46] = (a == 46 || ddot (a :: t) || (a :: t).getLast? == some 46) := by
    have h2 := ddot_two 46 a (t ++ [46])
    have h3 := ddot_snoc (a :: t) (by simp)
    unfold ddot at h2 h3 ⊢
    rw [List.cons_append] at h3 ⊢
    rw [h2, h3]
    simp [Bool.or_assoc]
  unfold fitsD
  have h00 : ((0 : UInt8) == 46) = false := by decide
  have he : (a :: t).isEmpty = false := rfl
  rw [h1, chk_eq, ddot_two, h00, he]
  generalize ((a :: t).any fun c => domP c.toNat) = q
  generalize ((a :: t).getLast? == some 46) = z
  generalize ddot (a :: t) = y
  generalize looks (a :: t) = x
  generalize (a == 46) = v
  generalize decide ((a :: t).length ≤ 100) = u
  cases x <;> cases y <;> cases z <;> cases q <;> cases v <;> cases u <;> rfl

theorem domP_eq (c : UInt8) : domP c.toNat = (!digit c && (decide (c.toNat < 97) || decide (122 < c.toNat)) && !(c.toNat == 45) && !(c.toNat == 95) && !(c.toNat == 46)) :=
  byte_all (p := fun c => domP c.toNat = (!digit c && (decide (c.toNat < 97) || decide (122 < c.toNat)) && !(c.toNat == 45) && !(c.toNat == 95) && !(c.toNat == 46))) (by decide +kernel) c
theorem name_bind (k : Nat) (s : ByteArray) (i : Int) (c : UInt8) :
    ((postmarkref01_Digit.f c.toNat).bind fun t => (if t = true then (postmarkref07_name.j2 k s i c.toNat false) else (if (c.toNat : Int) < 97 then (if (c.toNat : Int) = 45 then (postmarkref07_name.j2 k s i c.toNat false) else (if (c.toNat : Int) = 95 then (postmarkref07_name.j2 k s i c.toNat false) else (postmarkref07_name.j2 k s i c.toNat ((c.toNat : Int) != 46)))) else (if (c.toNat : Int) > 122 then (if (c.toNat : Int) = 45 then (postmarkref07_name.j2 k s i c.toNat false) else (if (c.toNat : Int) = 95 then (postmarkref07_name.j2 k s i c.toNat false) else (postmarkref07_name.j2 k s i c.toNat ((c.toNat : Int) != 46)))) else (postmarkref07_name.j2 k s i c.toNat false))))) =
      postmarkref07_name.j2 k s i c.toNat (domP c.toNat) := by
  rw [rdigit_eq, domP_eq]
  simp only [Option.bind_some]
  have e46 : (((c.toNat : Int) != 46) : Bool) = !(c.toNat == 46) := by
    rw [Bool.eq_iff_iff]
    simp
    omega
  rw [e46]
  cases hd : digit c with
  | true => simp
  | false =>
    simp only [Bool.false_eq_true, if_false, Bool.not_false, Bool.true_and]
    by_cases h1 : c.toNat < 97
    · rw [if_pos (by omega), decide_eq_true h1]
      by_cases h2 : c.toNat = 45
      · rw [if_pos (by omega)]; simp [h2]
      · rw [if_neg (by omega)]
        by_cases h3 : c.toNat = 95
        · rw [if_pos (by omega)]; simp [h3]
        · have b2 : (c.toNat == 45) = false := by simpa using h2
          have b3 : (c.toNat == 95) = false := by simpa using h3
          rw [if_neg (by omega), b2, b3]; rfl
    · rw [if_neg (by omega), decide_eq_false h1]
      by_cases h4 : 122 < c.toNat
      · rw [if_pos (by omega), decide_eq_true h4, if_neg (by omega), if_neg (by omega)]
        have h2 : ¬ c.toNat = 45 := by omega
        have h3 : ¬ c.toNat = 95 := by omega
        have b2 : (c.toNat == 45) = false := by simpa using h2
        have b3 : (c.toNat == 95) = false := by simpa using h3
        rw [b2, b3]; rfl
      · rw [if_neg (by omega), decide_eq_false h4]; simp
theorem name_ev (s : ByteArray) (hs : s.size ≤ 9223372036854775807) (h0 : s.data.toList[0]? ≠ some 46) (d : Nat) : ∀ i : Nat, i + d = s.size →
    Ev (fun k => postmarkref07_name.l0 k s (i : Int)) (chk (if i = 0 then 0 else s.data.toList.getD (i - 1) 0) (s.data.toList.drop i)) := by
  induction d with
  | zero =>
    intro i hi
    have hd : s.data.toList.drop i = [] := List.drop_eq_nil_of_le (by simp; omega)
    rw [hd]
    refine Ev.step (f := fun _ => some true) (fun k => ?_) (Ev.now _)
    simp only [postmarkref07_name.l0]
    rw [if_neg (by omega)]
  | succ d ih =>
    intro i hi
    have hl : i < s.data.toList.length := by simp; omega
    rw [List.drop_eq_getElem_cons hl]
    have hi1 := ih (i + 1) (by omega)
    have hg : s.data.toList.getD (i + 1 - 1) 0 = s.data.toList[i] := by rw [Nat.add_sub_cancel, List.getD_eq_getElem?_getD, List.getElem?_eq_getElem hl]; rfl
    rw [if_neg (by omega), hg] at hi1
    refine Ev.step (f := fun k => postmarkref07_name.j2 k s (i : Int) (s.data.toList[i]).toNat (domP (s.data.toList[i]).toNat)) (fun k => ?_) ?_
    · simp only [postmarkref07_name.l0]
      rw [if_pos (by omega), if_pos (by omega), bt_get s i (by omega)]
      exact name_bind k s i _
    · rw [chk]
      cases hdom : domP (s.data.toList[i]).toNat with
      | true =>
        refine Ev.step (f := fun _ => some false) (fun k => ?_) (Ev.now _)
        simp only [postmarkref07_name.j2]
        rw [if_pos trivial]
      | false =>
        simp only [Bool.not_false, Bool.true_and]
        by_cases h46 : s.data.toList[i] = 46
        · have hi0 : i ≠ 0 := fun e => h0 (by subst e; rw [List.getElem?_eq_getElem hl, h46])
          have hl1 : i - 1 < s.data.toList.length := by omega
          have hw : wrap64 ((i : Int) - 1) = ((i - 1 : Nat) : Int) := by rw [IntWalk.wrap64_in _ (by omega)]; omega
          have hp : s.data.toList.getD (i - 1) 0 = s.data.toList[i - 1] := by rw [List.getD_eq_getElem?_getD, List.getElem?_eq_getElem hl1]; rfl
          rw [if_neg hi0, hp]
          by_cases hp46 : s.data.toList[i - 1] = 46
          · have e : (s.data.toList[i] == 46 && s.data.toList[i - 1] == 46) = true := by simp [h46, hp46]
            rw [e]
            refine Ev.step (f := fun _ => some false) (fun k => ?_) (Ev.now _)
            simp only [postmarkref07_name.j2]
            rw [if_neg (by simp), if_pos (by rw [h46]; rfl), hw, if_pos (by omega), if_pos (by omega), bt_get s (i - 1) (by omega), if_pos (by rw [hp46]; rfl)]
          · have e : (s.data.toList[i] == 46 && s.data.toList[i - 1] == 46) = false := by rw [beq_false_of_ne hp46]; simp
            rw [e]
            refine Ev.step (f := fun k => postmarkref07_name.l0 k s ((i + 1 : Nat) : Int)) (fun k => ?_) hi1
            simp only [postmarkref07_name.j2]
            rw [if_neg (by simp), if_pos (by rw [h46]; rfl), hw, if_pos (by omega), if_pos (by omega), bt_get s (i - 1) (by omega), if_neg (fun e => hp46 (UInt8.toNat_inj.1 (by show _ = 46; omega))), wrap_succ i s.size (by omega) hs]
        · have e : ∀ p : UInt8, (s.data.toList[i] == 46 && p == 46) = false := fun p => by rw [beq_false_of_ne h46]; rfl
          rw [e]
          refine Ev.step (f := fun k => postmarkref07_name.l0 k s ((i + 1 : Nat) : Int)) (fun k => ?_) hi1
          simp only [postmarkref07_name.j2]
          rw [if_neg (by simp), if_neg (fun e => h46 (UInt8.toNat_inj.1 (by show _ = 46; omega))), wrap_succ i s.size (by omega) hs]
theorem name_no (s : ByteArray) : Ev (fun k => postmarkref07_name.j0 k s true) false := by
  refine Ev.step (f := fun _ => some false) (fun k => ?_) (Ev.now _)
  simp only [postmarkref07_name.j0]
  rw [if_pos trivial]
theorem name_eq (s : ByteArray) (hs : s.size ≤ 9223372036854775807) : Ev (fun k => postmarkref07_name.f k s) (fitsD s.data.toList) := by
  have hsz := Lib.size_eq s
  refine Ev.congr (fun k => rfl) (Ev.bind (looks_eq s hs) ?_)
  cases hL : s.data.toList with
  | nil =>
    have h0 : s.size = 0 := by rw [hsz, hL]; rfl
    have hf : fitsD [] = false := rfl
    rw [hf]
    refine Ev.congr (fun k => ?_) (name_no s)
    rw [if_pos (by omega)]
  | cons a t =>
    have hn : s.size = t.length + 1 := by rw [hsz, hL]; rfl
    rw [fitsD_eq]
    by_cases h1 : s.size > 100
    · have e : decide ((a :: t).length ≤ 100) = false := by simp; omega
      rw [e]
      refine Ev.congr (fun k => ?_) (name_no s)
      rw [if_neg (by omega), if_pos (by omega)]
    · have e : decide ((a :: t).length ≤ 100) = true := by simp; omega
      rw [e]
      simp only [Bool.true_and]
      cases hlk : looks (a :: t) with
      | true =>
        refine Ev.congr (fun k => ?_) (name_no s)
        rw [if_neg (by omega), if_neg (by omega), if_pos rfl]
      | false =>
        have hb0 : bt s 0 = a.toNat := by
          have := bt_get s 0 (by omega)
          simp only [hL] at this
          exact this
        simp only [Bool.not_false, Bool.true_and]
        by_cases ha : a = 46
        · subst ha
          refine Ev.congr (fun k => ?_) (name_no s)
          rw [if_neg (by omega), if_neg (by omega), if_neg (by simp), if_pos (by omega), if_pos (by rw [hb0]; rfl)]
        · have e1 : (a == 46) = false := by simpa using ha
          rw [e1]
          simp only [Bool.not_false, Bool.true_and]
          have hw : wrap64 ((s.size : Int) - 1) = ((t.length : Nat) : Int) := by rw [IntWalk.wrap64_in _ (by omega)]; omega
          have hbl : bt s (t.length : Int) = ((a :: t).getLast (by simp)).toNat := by
            rw [bt_get s t.length (by omega)]
            simp only [hL]
            rw [List.getLast_eq_getElem]
            rfl
          have hgl : (a :: t).getLast? = some ((a :: t).getLast (by simp)) := List.getLast?_eq_some_getLast (by simp)
          rw [hgl]
          generalize (a :: t).getLast (by simp) = z at hbl
          have hz : (bt s (t.length : Int) == 46) = (some z == some (46 : UInt8)) := by
            rw [hbl, Bool.eq_iff_iff]
            simp only [beq_iff_eq, Option.some.injEq]
            constructor
            · intro h; exact UInt8.toNat_inj.1 (by show _ = 46; omega)
            · intro h; rw [h]; rfl
          have key : ∀ k, (if (s.size : Int) < 1 then postmarkref07_name.j0 k s true else if (s.size : Int) > 100 then postmarkref07_name.j0 k s true else if false = true then postmarkref07_name.j0 k s true else if 0 < (s.size : Int) then (if bt s 0 = 46 then postmarkref07_name.j0 k s true else if 0 ≤ wrap64 ((s.size : Int) - 1) then (if wrap64 ((s.size : Int) - 1) < (s.size : Int) then postmarkref07_name.j0 k s (bt s (wrap64 ((s.size : Int) - 1)) == 46) else none) else none) else none) = postmarkref07_name.j0 k s (some z == some (46 : UInt8)) := fun k => by
            rw [if_neg (by omega), if_neg (by omega), if_neg (by simp), if_pos (by omega), if_neg (fun h => ha (UInt8.toNat_inj.1 (by show _ = 46; omega))), hw, if_pos (by omega), if_pos (by omega), hz]
          refine Ev.congr key ?_
          cases some z == some (46 : UInt8) with
          | true => exact name_no s
          | false =>
            simp only [Bool.not_false, Bool.true_and]
            have h := name_ev s hs (by rw [hL]; simpa using ha) s.size 0 (by omega)
            rw [if_pos rfl, List.drop_zero, hL] at h
            refine Ev.step (f := fun k => postmarkref07_name.l0 k s 0) (fun k => ?_) h
            simp only [postmarkref07_name.j0]
            rw [if_neg (by simp)]
end Go.Proofs.YtkmoakfphfakoaaGreat

set_option linter.unusedVariables false
set_option linter.unusedSimpArgs false
namespace Go.Proofs.YtkmoakfphfakoaaGreat
open Go.RowKit Go.Proofs.YtkmoakfphfakoaaGreatW.PrintWords Go.Proofs.YtkmoakfphfakoaaGreat.PShowTells

/-! ## postmarkref02.Show -/
theorem dec_step (m : Nat) (h : m / 10 ≠ 0) : dec m = dec (m / 10) ++ [dig m] := by
  unfold dec
  rw [rdec_ne m h]
  simp
theorem dec_one (m : Nat) (h : m / 10 = 0) : dec m = [dig m] := by
  unfold dec
  rw [rdec_eq m h]
  rfl
theorem show_go (n0 : Int) (hn0 : 0 ≤ n0) (m : Nat) : ∀ s : List UInt8, s.length + m ≤ 9223372036854775000 →
    Ev (fun k => postmarkref02_Show.l0 k n0 ⟨s.toArray⟩ (m : Int)) (if m = 0 ∧ s ≠ [] then ⟨s.toArray⟩ else ⟨(dec m ++ s).toArray⟩ : ByteArray) := by
  induction m using Nat.strongRecOn with
  | ind m ih =>
    intro s hs
    have hsz : ∀ l : List UInt8, (⟨l.toArray⟩ : ByteArray).size = l.length := fun l => by show l.toArray.size = _; simp
    by_cases h0 : m = 0 ∧ s ≠ []
    · obtain ⟨rfl, hne⟩ := h0
      rw [if_pos ⟨rfl, hne⟩]
      refine Ev.step (f := fun k => postmarkref02_Show.j1 k n0 ⟨s.toArray⟩ 0 false) (fun k => ?_) (Ev.step (f := fun _ => some (⟨s.toArray⟩ : ByteArray)) (fun k => ?_) (Ev.now _))
      · simp only [postmarkref02_Show.l0]
        rw [if_pos (by omega), Lib.toList_data]
        have : (s == []) = false := by simpa using hne
        rw [this]
        rfl
      · simp only [postmarkref02_Show.j1]
        rw [if_neg (by simp), if_neg (by omega)]
    · rw [if_neg h0]
      have hd := dig_toNat m
      have ht1 : Int.tmod (m : Int) 10 = ((m % 10 : Nat) : Int) := by rw [Int.tmod_eq_emod_of_nonneg (by omega)]; rfl
      have ht2 : wrap64 (Int.tdiv (m : Int) 10) = ((m / 10 : Nat) : Int) := by
        rw [Int.tdiv_eq_ediv_of_nonneg (by omega), IntWalk.wrap64_in _ (by omega)]; rfl
      have hw : (wrap64 (48 + ((m % 10 : Nat) : Int))) % 256 = ((dig m).toNat : Int) := by
        rw [IntWalk.wrap64_in _ (by omega), hd]; omega
      have hst : strOfNums [((dig m).toNat : Int)] = ⟨[dig m].toArray⟩ := by
        unfold strOfNums
        simp
      have hcat : (⟨[dig m].toArray⟩ : ByteArray) ++ ⟨s.toArray⟩ = ⟨(dig m :: s).toArray⟩ := mk_append [dig m] s
      have hz : Ev (fun k => postmarkref02_Show.l0 k n0 ⟨(dig m :: s).toArray⟩ ((m / 10 : Nat) : Int)) (⟨(dec m ++ s).toArray⟩ : ByteArray) := by
        by_cases hm0 : m = 0
        · subst hm0
          have hse : s = [] := Classical.byContradiction fun h => h0 ⟨rfl, h⟩
          subst hse
          rw [dec_one 0 (by omega)]
          refine Ev.step (f := fun k => postmarkref02_Show.j1 k n0 ⟨[dig 0].toArray⟩ 0 false) (fun k => ?_) (Ev.step (f := fun _ => some (⟨[dig 0].toArray⟩ : ByteArray)) (fun k => ?_) (Ev.now _))
          · simp only [postmarkref02_Show.l0]
            rw [if_pos (by omega), Lib.toList_data]
            rfl
          · simp only [postmarkref02_Show.j1]
            rw [if_neg (by simp), if_neg (by omega)]
        · have h1 := ih (m / 10) (by omega) (dig m :: s) (by simp; omega)
          by_cases hq : m / 10 = 0
          · rw [if_pos ⟨hq, by simp⟩] at h1
            rw [dec_one m hq]
            exact h1
          · rw [if_neg (fun h => hq h.1)] at h1
            rw [dec_step m hq, List.append_assoc, List.singleton_append]
            exact h1
      have hj : Ev (fun k => postmarkref02_Show.j1 k n0 ⟨s.toArray⟩ (m : Int) true) (⟨(dec m ++ s).toArray⟩ : ByteArray) := by
        refine Ev.step (f := fun k => postmarkref02_Show.l0 k n0 ⟨(dig m :: s).toArray⟩ ((m / 10 : Nat) : Int)) (fun k => ?_) hz
        simp only [postmarkref02_Show.j1]
        rw [if_pos trivial, ht1, if_neg (by omega), hw]
        simp only [Option.bind_some]
        rw [hst, hcat, ht2, if_pos (by rw [hsz, hsz]; simp; omega)]
      by_cases hm0 : m = 0
      · subst hm0
        have hse : s = [] := Classical.byContradiction fun h => h0 ⟨rfl, h⟩
        subst hse
        refine Ev.step (f := fun k => postmarkref02_Show.j1 k n0 ⟨([] : List UInt8).toArray⟩ ((0 : Nat) : Int) true) (fun k => ?_) hj
        simp only [postmarkref02_Show.l0]
        rw [if_pos (by omega), Lib.toList_data]
        rfl
      · refine Ev.step (fun k => ?_) hj
        simp only [postmarkref02_Show.l0]
        rw [if_neg (by omega)]
theorem rshow_eq (n : Nat) (hn : n ≤ 9223372036854775000) : Ev (fun k => postmarkref02_Show.f k (n : Int)) (⟨(dec n).toArray⟩ : ByteArray) := by
  have h := show_go (n : Int) (by omega) n [] (by simpa using hn)
  rw [if_neg (by simp), List.append_nil] at h
  exact Ev.congr (fun k => rfl) h

/-! ## postmarklaw08.Few -/
def fewP (l : List ByteArray) : Bool := decide (l.length ≤ 60) && l.all fun s => decide (s.size ≤ 300)
theorem rdOf_get (l : List ByteArray) (i : Nat) (h : i < l.length) : rdOf ByteArray.empty l (i : Int) = l[i] := by
  unfold rdOf
  rw [Int.toNat_natCast, List.getD_eq_getElem?_getD, List.getElem?_eq_getElem h]
  rfl
theorem few_ev (l : List ByteArray) (hl : l.length ≤ 9223372036854775807) (d : Nat) : ∀ i : Nat, i + d = 61 → i ≤ l.length → (l.take i).all (fun s => decide (s.size ≤ 300)) = true → Ev (fun k => postmarklaw08_Few.l0 k l (i : Int)) (fewP l) := by
  induction d with
  | zero =>
    intro i hi hil hall
    have hf : fewP l = false := by unfold fewP; rw [decide_eq_false (by omega)]; rfl
    rw [hf]
    have key : ∀ b : Bool, b = false → Ev (fun k => postmarklaw08_Few.j1 k l (i : Int) b) false := fun b hb => by
      subst hb
      refine Ev.step (f := fun _ => some false) (fun k => ?_) (Ev.now _)
      simp only [postmarklaw08_Few.j1]
      rw [if_neg (by simp), decide_eq_false (by omega)]
    by_cases hlt : i < l.length
    · refine Ev.step (f := fun k => postmarklaw08_Few.j1 k l (i : Int) (decide ((i : Int) ≤ 60))) (fun k => ?_) (key _ (by simp; omega))
      simp only [postmarklaw08_Few.l0]
      rw [if_pos (by omega)]
    · refine Ev.step (f := fun k => postmarklaw08_Few.j1 k l (i : Int) false) (fun k => ?_) (key _ rfl)
      simp only [postmarklaw08_Few.l0]
      rw [if_neg (by omega)]
  | succ d ih =>
    intro i hi hil hall
    by_cases hlt : i < l.length
    · refine Ev.step (f := fun k => postmarklaw08_Few.j1 k l (i : Int) true) (fun k => ?_) ?_
      · simp only [postmarklaw08_Few.l0]
        rw [if_pos (by omega), decide_eq_true (by omega)]
      · by_cases hs : l[i].size ≤ 300
        · refine Ev.step (f := fun k => postmarklaw08_Few.l0 k l ((i + 1 : Nat) : Int)) (fun k => ?_) (ih (i + 1) (by omega) (by omega) ?_)
          · simp only [postmarklaw08_Few.j1]
            rw [if_pos trivial, if_pos (by omega), if_pos (by omega), rdOf_get l i hlt, if_neg (by omega), wrap_succ i l.length hlt hl]
          · rw [List.take_succ_eq_append_getElem hlt, List.all_append, hall]
            simpa using hs
        · have hf : fewP l = false := by
            unfold fewP
            have : (l.all fun s => decide (s.size ≤ 300)) = false := by
              rw [← Bool.not_eq_true, List.all_eq_true]
              intro h
              have := h _ (List.getElem_mem hlt)
              exact hs (by simpa using this)
            rw [this, Bool.and_false]
          rw [hf]
          refine Ev.step (f := fun _ => some false) (fun k => ?_) (Ev.now _)
          simp only [postmarklaw08_Few.j1]
          rw [if_pos trivial, if_pos (by omega), if_pos (by omega), rdOf_get l i hlt, if_pos (by omega)]
    · have hie : i = l.length := by omega
      have hf : fewP l = true := by
        unfold fewP
        rw [List.take_of_length_le (by omega)] at hall
        rw [hall, decide_eq_true (by omega)]; rfl
      rw [hf]
      refine Ev.step (f := fun k => postmarklaw08_Few.j1 k l (i : Int) false) (fun k => ?_) (Ev.step (f := fun _ => some true) (fun k => ?_) (Ev.now _))
      · simp only [postmarklaw08_Few.l0]
        rw [if_neg (by omega)]
      · simp only [postmarklaw08_Few.j1]
        rw [if_neg (by simp), decide_eq_true (by omega)]
theorem few_eq (l : List ByteArray) (hl : l.length ≤ 9223372036854775807) : Ev (fun k => postmarklaw08_Few.f k l) (fewP l) :=
  Ev.congr (fun k => rfl) (few_ev l hl 61 0 (by omega) (by omega) (by simp))

/-! ## postmarkref08.Same -/
def sameL : List ByteArray → List ByteArray → Bool
  | [], [] => true
  | a :: r, b :: t => (a.data.toList == b.data.toList) && sameL r t
  | _, _ => false
theorem sameL_len (l m : List ByteArray) (h : l.length ≠ m.length) : sameL l m = false := by
  induction l generalizing m with
  | nil => cases m with
    | nil => exact absurd rfl h
    | cons _ _ => rfl
  | cons a r ih => cases m with
    | nil => rfl
    | cons b t => rw [sameL, ih t (by simpa using h), Bool.and_false]
theorem sameL_self (l : List ByteArray) : sameL l l = true := by
  induction l with
  | nil => rfl
  | cons a r ih => rw [sameL, ih]; simp
theorem same_ev (l m : List ByteArray) (hl : l.length ≤ 9223372036854775807) (hlm : l.length = m.length) (d : Nat) : ∀ i : Nat, i + d = l.length → Ev (fun k => postmarkref08_Same.l0 k l m (i : Int)) (sameL (l.drop i) (m.drop i)) := by
  induction d with
  | zero =>
    intro i hi
    rw [List.drop_eq_nil_of_le (show l.length ≤ i by omega), List.drop_eq_nil_of_le (show m.length ≤ i by omega)]
    refine Ev.step (f := fun _ => some true) (fun k => ?_) (Ev.now _)
    simp only [postmarkref08_Same.l0]
    rw [if_neg (by omega)]
  | succ d ih =>
    intro i hi
    have h1 : i < l.length := by omega
    have h2 : i < m.length := by omega
    rw [List.drop_eq_getElem_cons h1, List.drop_eq_getElem_cons h2, sameL]
    by_cases he : l[i].data.toList = m[i].data.toList
    · have e : (l[i].data.toList == m[i].data.toList) = true := by simpa using he
      rw [e, Bool.true_and]
      refine Ev.step (f := fun k => postmarkref08_Same.l0 k l m ((i + 1 : Nat) : Int)) (fun k => ?_) (ih (i + 1) (by omega))
      simp only [postmarkref08_Same.l0]
      rw [if_pos (by omega), if_pos (by omega), if_pos (by omega), rdOf_get l i h1, rdOf_get m i h2, if_pos (by rw [Lib.toList_data, Lib.toList_data]; exact he), wrap_succ i l.length h1 hl]
    · have e : (l[i].data.toList == m[i].data.toList) = false := by simpa using he
      rw [e, Bool.false_and]
      refine Ev.step (f := fun _ => some false) (fun k => ?_) (Ev.now _)
      simp only [postmarkref08_Same.l0]
      rw [if_pos (by omega), if_pos (by omega), if_pos (by omega), rdOf_get l i h1, rdOf_get m i h2, if_neg (by rw [Lib.toList_data, Lib.toList_data]; exact he)]
theorem same_eq (l m : List ByteArray) (hl : l.length ≤ 9223372036854775807) : Ev (fun k => postmarkref08_Same.f k l m) (sameL l m) := by
  by_cases h : l.length = m.length
  · refine Ev.congr (f := fun k => postmarkref08_Same.l0 k l m 0) (fun k => ?_) (same_ev l m hl h l.length 0 (by omega))
    simp only [postmarkref08_Same.f]
    rw [if_pos (by omega)]
  · rw [sameL_len l m h]
    refine Ev.congr (f := fun _ => some false) (fun k => ?_) (Ev.now _)
    simp only [postmarkref08_Same.f]
    rw [if_neg (by omega)]

/-! ## postmarkref09.Web, postmarkref09.opaque -/
theorem rweb_eq (s : ByteArray) : postmarkref09_Web.f s = some ((webP s.data.toList : Nat) : Int) := by
  unfold postmarkref09_Web.f webP sHttp sHttps
  rw [Lib.toList_data]
  by_cases h1 : s.data.toList = [104, 116, 116, 112]
  · rw [if_pos h1, h1]; rfl
  · rw [if_neg h1]
    have e1 : (s.data.toList == [104, 116, 116, 112]) = false := by simpa using h1
    rw [e1]
    by_cases h2 : s.data.toList = [104, 116, 116, 112, 115]
    · rw [if_pos h2, h2]; rfl
    · rw [if_neg h2]
      have e2 : (s.data.toList == [104, 116, 116, 112, 115]) = false := by simpa using h2
      rw [e2]; rfl
theorem ropq_eq (s : ByteArray) : postmarkref09_opaque.f s = some (isOpq s.data.toList) := by
  unfold postmarkref09_opaque.f isOpq
  rw [Lib.toList_data]
  by_cases h1 : s.data.toList = [97, 98, 111, 117, 116]
  · rw [if_pos h1, h1]; rfl
  · have e1 : (s.data.toList == [97, 98, 111, 117, 116]) = false := by simpa using h1
    rw [if_neg h1, e1]
    by_cases h2 : s.data.toList = [100, 97, 116, 97]
    · rw [if_pos h2, h2]; rfl
    · have e2 : (s.data.toList == [100, 97, 116, 97]) = false := by simpa using h2
      rw [if_neg h2, e2]; rfl
end Go.Proofs.YtkmoakfphfakoaaGreat

set_option linter.unusedVariables false
set_option linter.unusedSimpArgs false
namespace Go.Proofs.YtkmoakfphfakoaaGreat
open Go.RowKit Go.Shelf
open Go.Proofs.YtkmoakfphfakoaaGreatW.PrintWords Go.Proofs.YtkmoakfphfakoaaGreat.PShowTells
attribute [local go_sem] Oper.semAt_some

theorem RReady_any (s : ByteArray) (n : Int) (hn : n = 1 ∨ n = 2 ∨ n = 3 ∨ n = 4) (hs : s.size ≤ 9223372036854775807) (w : World) :
    Calls Tryz.prog 41 #[.string s, .int .i64 n] w fun e w' => e = .returned (.bool (ready n s.data.toList)) ∧ Below w.heap.size w w' := by
  obtain ⟨k, hk⟩ := (ready_eq s hs n hn).rounds
  exact (postmarkref03_Ready.calls k s n _ w hk).mono fun e w' ⟨he, hw⟩ => ⟨he, hw.below⟩
theorem RFind_any (s : ByteArray) (c : UInt8) (hs : s.size ≤ 9223372036854775807) (w : World) :
    Calls Tryz.prog 42 #[.string s, .int .u8 c.toNat, .int .i64 0] w fun e w' => e = .returned (.int .i64 ((s.data.toList.findIdx (· == c) : Nat) : Int)) ∧ Below w.heap.size w w' := by
  obtain ⟨k, hk⟩ := (find_eq s hs c).rounds
  exact (postmarkref09_find.calls k s c.toNat 0 _ w hk).mono fun e w' ⟨he, hw⟩ => ⟨he, hw.below⟩
theorem RName_any (s : ByteArray) (hs : s.size ≤ 9223372036854775807) (w : World) :
    Calls Tryz.prog 59 #[.string s] w fun e w' => e = .returned (.bool (fitsD s.data.toList)) ∧ Below w.heap.size w w' := by
  obtain ⟨k, hk⟩ := (name_eq s hs).rounds
  exact (postmarkref07_name.calls k s _ w hk).mono fun e w' ⟨he, hw⟩ => ⟨he, hw.below⟩
theorem RNum_any (n : Nat) (hn : n ≤ 9223372036854775000) (w : World) :
    Calls Tryz.prog 31 #[.int .i64 n] w fun e w' => e = .returned (.string ⟨(dec n).toArray⟩) ∧ Below w.heap.size w w' := by
  obtain ⟨k, hk⟩ := (rshow_eq n hn).rounds
  exact (postmarkref02_Show.calls k n _ w hk).mono fun e w' ⟨he, hw⟩ => ⟨he, hw⟩
theorem RWeb_any (s : ByteArray) (w : World) :
    Calls Tryz.prog 25 #[.string s] w fun e w' => e = .returned (.int .i64 ((webP s.data.toList : Nat) : Int)) ∧ Below w.heap.size w w' :=
  (postmarkref09_Web.calls s _ w (rweb_eq s)).mono fun e w' ⟨he, hw⟩ => ⟨he, hw.below⟩
theorem ROpq_any (s : ByteArray) (w : World) :
    Calls Tryz.prog 40 #[.string s] w fun e w' => e = .returned (.bool (isOpq s.data.toList)) ∧ Below w.heap.size w w' :=
  (postmarkref09_opaque.calls s _ w (ropq_eq s)).mono fun e w' ⟨he, hw⟩ => ⟨he, hw.below⟩
/-- Texts as the print has them. -/
theorem strs_kd {w : World} {A : Option Addr} {ss : List ByteArray} (h : Strs w A ss) (hl : ss.length ≤ 9223372036854775807) : Kd.C Kd.string w A ss.length ss := by
  refine ⟨rfl, hl, fun h0 => ?_⟩
  rcases h with rfl | ⟨b, off, rfl, _, hc⟩
  · exact absurd h0 (by simp)
  · refine ⟨_, rfl, fun j p hj => ⟨[.string p], rfl, rfl, fun i u hu => ?_⟩⟩
    obtain ⟨hlt, rfl⟩ := List.getElem?_eq_some_iff.1 hj
    match i, hu with
    | 0, hu =>
      simp only [List.getElem?_cons_zero, Option.some.injEq] at hu
      rw [← hu, ← hc j hlt]
      congr 1
      show (⟨b, off, none⟩ : Addr).add (j * 1 + 0) = _
      rw [Nat.mul_one, Nat.add_zero]
      unfold Addr.add
      split <;> simp_all
    | i + 1, hu => simp at hu
theorem RFewL_any (A : Option Addr) (c : Nat) (ss : List ByteArray) (w : World) (h : Kd.C Kd.string w A ss.length ss) (hl : ss.length ≤ 9223372036854775807) (hc : ss.length ≤ c) :
    Calls Tryz.prog 15 #[.slice A ss.length c] w fun e w' => e = .returned (.bool (fewP ss)) ∧ Below w.heap.size w w' := by
  obtain ⟨k, hk⟩ := (few_eq ss hl).rounds
  exact (postmarklaw08_Few.calls k A c ss _ w h hc hk).mono fun e w' ⟨he, hw⟩ => ⟨he, hw.below⟩
theorem RSameL_any (A : Option Addr) (c : Nat) (ss : List ByteArray) (A' : Option Addr) (c' : Nat) (ts : List ByteArray) (w : World) (h : Strs w A ss) (hl : ss.length ≤ 1000000) (hc : ss.length ≤ c) (h' : Strs w A' ts) (hl' : ts.length ≤ 1000000) (hc' : ts.length ≤ c') :
    Calls Tryz.prog 16 #[.slice A ss.length c, .slice A' ts.length c'] w fun e w' => e = .returned (.bool (sameL ss ts)) ∧ Below w.heap.size w w' := by
  obtain ⟨k, hk⟩ := (same_eq ss ts (by omega)).rounds
  exact (postmarkref08_Same.calls k A c ss A' c' ts _ w (strs_kd h (by omega)) hc (strs_kd h' (by omega)) hc' hk).mono fun e w' ⟨he, hw⟩ => ⟨he, hw.below⟩

set_option maxHeartbeats 2000000 in
set_option maxRecDepth 100000 in
theorem RShow5_any (z : Int) (w : World) (_hz : (Lit.int .i64 z).wf = true) :
    Calls Tryz.prog 47 #[.int .i64 z] w fun e w' => e = .returned (.string ⟨(fourS z).toArray⟩) ∧ Below w.heap.size w w' := by
  by_cases hr : 0 ≤ z ∧ z ≤ 4294967295
  rotate_left
  · have e : fourS z = [] := by simp [fourS, hr]
    rw [e]
    cases h1 : decide (z < 0)
    · have h2 : decide (4294967295 < z) = true := by simp at h1 ⊢; omega
      go_enter Tryz.func47, Tryz.ntmps47
      go_wp2_with fail
      go_ret
      exact ⟨rfl, Below.refl _ _⟩
    · go_enter Tryz.func47, Tryz.ntmps47
      go_wp2_with fail
      go_ret
      exact ⟨rfl, Below.refl _ _⟩
  obtain ⟨n, rfl⟩ := Int.eq_ofNat_of_zero_le hr.1
  have hn : n ≤ 4294967295 := by omega
  obtain ⟨q1, e1⟩ : ∃ q, n / 16777216 = q := ⟨_, rfl⟩
  obtain ⟨q2, e2⟩ : ∃ q, n / 65536 % 256 = q := ⟨_, rfl⟩
  obtain ⟨q3, e3⟩ : ∃ q, n / 256 % 256 = q := ⟨_, rfl⟩
  obtain ⟨q4, e4⟩ : ∃ q, n % 256 = q := ⟨_, rfl⟩
  have e : fourS (n : Int) = dec q1 ++ 46 :: (dec q2 ++ 46 :: (dec q3 ++ 46 :: dec q4)) := by
    have h1 : n / 16777216 % 256 = q1 := by omega
    unfold fourS
    rw [if_pos hr, Int.toNat_natCast]
    unfold fourL
    rw [h1, e2, e3, e4]
    simp [Lib.join_cons, Lib.joinTail]
  have HE := Lib.hid e; clear e hr
  have h1 : decide ((n : Int) < 0) = false := by simp
  have h2 : decide (4294967295 < (n : Int)) = false := by simp; omega
  have i1 : (n : Int) / 16777216 = (q1 : Int) := by omega
  have i2 : (n : Int) / 65536 % 256 = (q2 : Int) := by omega
  have i3 : (n : Int) / 256 % 256 = (q3 : Int) := by omega
  have i4 : (n : Int) % 256 = (q4 : Int) := by omega
  have d1 := dec_len3 q1 (by omega)
  have d2 := dec_len3 q2 (by omega)
  have d3 := dec_len3 q3 (by omega)
  have d4 := dec_len3 q4 (by omega)
  have k1 := RNum_any q1 (by omega)
  have k2 := RNum_any q2 (by omega)
  have k3 := RNum_any q3 (by omega)
  have k4 := RNum_any q4 (by omega)
  generalize dec q1 = t1 at d1 k1 HE
  generalize dec q2 = t2 at d2 k2 HE
  generalize dec q3 = t3 at d3 k3 HE
  generalize dec q4 = t4 at d4 k4 HE
  have c1 := concat_run Tryz.prog t1 [46] (by simp; omega)
  have c2 := concat_run Tryz.prog (t1 ++ [46]) t2 (by simp; omega)
  have c3 := concat_run Tryz.prog ((t1 ++ [46]) ++ t2) [46] (by simp; omega)
  have c4 := concat_run Tryz.prog (((t1 ++ [46]) ++ t2) ++ [46]) t3 (by simp; omega)
  have c5 := concat_run Tryz.prog ((((t1 ++ [46]) ++ t2) ++ [46]) ++ t3) [46] (by simp; omega)
  have c6 := concat_run Tryz.prog (((((t1 ++ [46]) ++ t2) ++ [46]) ++ t3) ++ [46]) t4 (by simp; omega)
  clear e1 e2 e3 e4
  go_enter Tryz.func47, Tryz.ntmps47
  go_wp2_with fail
  with_reducible refine Calls.mono (k1 _) ?_
  rintro e w1 ⟨rfl, b1⟩
  go_wp2_with fail
  with_reducible refine Calls.mono (k2 _) ?_
  rintro e w2 ⟨rfl, b2⟩
  go_wp2_with fail
  with_reducible refine Calls.mono (k3 _) ?_
  rintro e w3 ⟨rfl, b3⟩
  go_wp2_with fail
  with_reducible refine Calls.mono (k4 _) ?_
  rintro e w4 ⟨rfl, b4⟩
  go_wp2_with fail
  go_ret
  have b13 := b1.trans (b2.mono b1.size)
  have b14 := b13.trans (b3.mono b13.size)
  exact ⟨by rw [HE.out]; simp, b14.trans (b4.mono b14.size)⟩

set_option maxHeartbeats 2000000 in
set_option maxRecDepth 100000 in
theorem RPShow_any (A : Option Addr) (ss : List ByteArray) (c : Nat) (w : World) (hS : Strs w A ss) (hm : ∀ s ∈ ss, s.size ≤ 1000000) (hl : ss.length ≤ 1000000) :
    Calls Tryz.prog 27 #[.slice A ss.length c] w fun e w' => e = .returned (.string ⟨(pshow ss).toArray⟩) ∧ Below w.heap.size w w' := by
  have HM := Lib.hid hm
  have HS := Lib.hid hS
  clear hm hS
  go_enter Tryz.func27, Tryz.ntmps27
  go_wp2_with fail
  go_loop [3, 4] (fun s3 i => ∃ k : Nat, k ≤ ss.length ∧ i = .int .i64 k ∧ s3 = .string ⟨(pshow (ss.take k)).toArray⟩) (fun _ i => ss.length - (intOf i).toNat)
  case atStart => exact ⟨0, by omega, rfl, rfl⟩
  case round =>
    obtain ⟨k, hk, rfl, rfl⟩ := hrel
    by_cases hlt : k < ss.length
    · rcases HS.out with h | ⟨b, off, rfl, hb, hc⟩
      · subst h; simp at hlt
      · have hcx := hc k hlt
        have hpl := pshow_len (ss.take k) 1000000 (fun s hs => HM.out s (List.mem_of_mem_take hs))
        have hmx := HM.out _ (List.getElem_mem hlt)
        have htk : pshow (ss.take (k + 1)) = pshow (ss.take k) ++ 47 :: (ss[k]).data.toList := by rw [List.take_succ_eq_append_getElem hlt, pshow_snoc]
        have hkl : (ss.take k).length * (1000000 + 1) ≤ 1000000 * 1000001 := Nat.mul_le_mul (by simp; omega) (by omega)
        generalize ss[k] = x at hcx hmx htk
        have HT := Lib.hid htk
        generalize pshow (ss.take k) = t at hpl HT ⊢
        have hxl : x.data.toList.length = x.size := (Lib.size_eq x).symm
        have c1 := concat_run Tryz.prog t [47] (by simp; omega)
        have c2 := concat_run Tryz.prog (t ++ [47]) x.data.toList (by rw [hxl]; simp; omega)
        have hxe : (⟨x.data.toList.toArray⟩ : ByteArray) = x := rfl
        rw [hxe] at c2
        have hlt2 : decide ((k : Int) < ss.length) = true := by simp; omega
        clear hc HS htk hxl hxe
        go_wp2_with fail
        go_round
        case rel => exact ⟨k + 1, by omega, by go_num, by rw [HT.out]⟩
        case measure => simp [intOf]; omega
    · obtain rfl : k = ss.length := by omega
      go_wp2_with fail
      go_ret
      exact ⟨rfl, Below.refl _ _⟩

/-! ## postmarkref08.May -/
def rseg (s : ByteArray) : Bool := ready 3 s.data.toList && (dotsR (lowL s) == 0) && s.data.toList.all fun c => c != 47
def rpmay (ss : List ByteArray) : Bool := ss.all rseg && !ss.isEmpty

set_option maxHeartbeats 4000000 in
set_option maxRecDepth 100000 in
theorem RPMay_any (A : Option Addr) (ss : List ByteArray) (c : Nat) (w : World) (hS : Strs w A ss) (hm : ∀ s ∈ ss, s.size ≤ 1000000) (hl : ss.length ≤ 1000000) :
    Calls Tryz.prog 44 #[.slice A ss.length c] w fun e w' => e = .returned (.bool (rpmay ss)) ∧ Below w.heap.size w w' := by
  have HM := Lib.hid hm
  have HS := Lib.hid hS
  clear hm hS
  go_enter Tryz.func44, Tryz.ntmps44
  go_wp2_with fail
  go_loopw [3] (fun i wr => ∃ k : Nat, k ≤ ss.length ∧ i = .int .i64 k ∧ Hid ((ss.take k).all rseg = true) ∧ Below w.heap.size w wr) (fun i _ => ss.length - (intOf i).toNat)
  case atStart => exact ⟨0, by omega, rfl, rfl, Below.refl _ _⟩
  case round =>
    obtain ⟨k, hk, rfl, hall, hb⟩ := hrel
    by_cases hlt : k < ss.length
    · rcases HS.out with h | ⟨b, off, rfl, hbw, hc⟩
      · subst h; simp at hlt
      · have hlt2 : decide ((k : Int) < ss.length) = true := by simp; omega
        have hcx : ∀ Wx, Below w.heap.size w Wx → Wx.cell? ⟨b, off + k, none⟩ = some (.string ss[k]) := fun Wx hx => (hx.cell (p := ⟨b, off + k, none⟩) hbw).trans (hc k hlt)
        have hmx := HM.out _ (List.getElem_mem hlt)
        have htk : (ss.take (k + 1)).all rseg = rseg ss[k] := by rw [List.take_succ_eq_append_getElem hlt, List.all_append, hall.out]; simp
        have hno : rseg ss[k] = false → rpmay ss = false := fun h => by
          have : ss.all rseg = false := by
            rw [← Bool.not_eq_true, List.all_eq_true]
            intro h2
            rw [h2 _ (List.getElem_mem hlt)] at h
            cases h
          unfold rpmay
          rw [this]; rfl
        generalize ss[k] = x at hcx hmx htk hno
        have HT := Lib.hid (And.intro htk hno)
        clear htk hno hc HS hall
        have kR := fun Wx => RReady_any x 3 (by omega) (by omega) Wx
        have kD := fun Wx => RDots_any x (by omega) Wx
        have hcw := hcx _ hb
        have HCX := Lib.hid hcx
        clear hcx
        have hrs : rseg x = (ready 3 x.data.toList && (dotsR (lowL x) == 0) && x.data.toList.all fun c => c != 47) := rfl
        generalize ready 3 x.data.toList = r at kR hrs
        generalize dotsR (lowL x) = d at kD hrs
        have HRS := Lib.hid hrs
        clear hrs
        cases r with
        | false =>
          go_wp2_with fail
          with_reducible refine Calls.mono (kR _) ?_
          rintro e w1 ⟨rfl, b1⟩
          go_wp2_with fail
          go_ret
          exact ⟨by rw [HT.out.2 HRS.out]; rfl, hb.trans (b1.mono hb.size)⟩
        | true =>
          have hb1' : ∀ w1, Below wr.heap.size wr w1 → Below w.heap.size w w1 := fun w1 h => hb.trans (h.mono hb.size)
          by_cases hd : d = 0
          · subst hd
            have e0 : decide ((0 : Int) < ((0 : Nat) : Int)) = false := by decide
            go_wp2_with fail
            with_reducible refine Calls.mono (kR _) ?_
            rintro e w1 ⟨rfl, b1⟩
            have hcw1 := HCX.out _ (hb1' _ b1)
            go_wp2_with fail
            with_reducible refine Calls.mono (kD _) ?_
            rintro e w2 ⟨rfl, b2⟩
            have hbw2 : Below w.heap.size w w2 := (hb1' _ b1).trans (b2.mono (hb1' _ b1).size)
            have hcw2 := HCX.out _ hbw2
            clear hcw hcw1 b1 b2 hb1' kR kD hb
            go_wp2_with fail
            have hsz := Lib.hid (Lib.size_eq x)
            go_loop [5] (fun j => ∃ q : Nat, q ≤ x.size ∧ j = .int .i64 q ∧ Hid ((x.data.toList.take q).all (fun c => c != 47) = true)) (fun j => x.size - (intOf j).toNat)
            case atStart => exact ⟨0, by omega, rfl, rfl⟩
            case round =>
              obtain ⟨q, hq, rfl, hqa⟩ := hrel
              by_cases hqlt : q < x.size
              · have hq2 : decide ((q : Int) < x.size) = true := by simp; omega
                have hql : q < x.data.toList.length := by rw [← hsz.out]; exact hqlt
                have hnx : (x.data.toList.take (q + 1)).all (fun c => c != 47) = (x.data.toList[q] != 47) := by rw [List.take_succ_eq_append_getElem hql, List.all_append, hqa.out]; simp
                have hbad : x.data.toList[q] = 47 → x.data.toList.all (fun c => c != 47) = false := fun h => by
                  rw [← Bool.not_eq_true, List.all_eq_true]
                  intro h2
                  have := h2 _ (List.getElem_mem hql)
                  rw [h] at this
                  cases this
                have hix : x[q] = x.data.toList[q] := rfl
                have HN := Lib.hid (And.intro hnx (And.intro hbad hix))
                clear hnx hbad hqa hix
                cases h47 : ((x[q].toNat : Int) == 47)
                · have h47' : x.data.toList[q] ≠ 47 := fun e => by rw [HN.out.2.2, e] at h47; cases h47
                  have HR := Lib.hid (show (x.data.toList.take (q + 1)).all (fun c => c != 47) = true by rw [HN.out.1]; simpa using h47')
                  go_wp2_with fail
                  go_round
                  case rel => exact ⟨q + 1, by omega, by go_num, HR⟩
                  case measure => simp [intOf]; omega
                · have h47' : x.data.toList[q] = 47 := UInt8.toNat_inj.1 (by rw [← HN.out.2.2]; show _ = 47; simp at h47; omega)
                  have HR := Lib.hid (HT.out.2 (by rw [HRS.out, HN.out.2.1 h47']; rfl))
                  clear h47'
                  go_wp2_with fail
                  go_ret
                  exact ⟨by rw [HR.out]; rfl, hbw2⟩
              · have hqe : q = x.size := by omega
                have hq2 : decide ((q : Int) < x.size) = false := by simp; omega
                have HR := Lib.hid (show (ss.take (k + 1)).all rseg = true by
                  have h := hqa.out
                  rw [List.take_of_length_le (by rw [← hsz.out]; omega)] at h
                  rw [HT.out.1, HRS.out, h]; rfl)
                clear hqa hqe
                go_wp2_with fail
                go_roundw
                case rel => exact ⟨k + 1, by omega, by go_num, HR, hbw2⟩
                case measure => simp [intOf]; omega
          · have e0 : decide (0 < d) = true := by simp; omega
            have hz : (d == 0) = false := by simpa using hd
            have HZ := Lib.hid hz
            clear hz hd
            go_wp2_with fail
            with_reducible refine Calls.mono (kR _) ?_
            rintro e w1 ⟨rfl, b1⟩
            have hcw1 := HCX.out _ (hb1' _ b1)
            go_wp2_with fail
            with_reducible refine Calls.mono (kD _) ?_
            rintro e w2 ⟨rfl, b2⟩
            go_wp2_with fail
            go_ret
            exact ⟨by rw [HT.out.2 (by rw [HRS.out, HZ.out]; rfl)]; rfl, (hb1' _ b1).trans (b2.mono (hb1' _ b1).size)⟩
    · obtain rfl : k = ss.length := by omega
      have HR := Lib.hid hall.out
      rw [List.take_length] at HR
      by_cases h0 : ss = []
      · subst h0
        go_wp2_with fail
        go_ret
        exact ⟨rfl, hb⟩
      · have hpos : decide (0 < ss.length) = true := by simpa using List.length_pos_iff.2 h0
        have hr : rpmay ss = true := by
          unfold rpmay
          rw [HR.out]
          cases ss with
          | nil => exact absurd rfl h0
          | cons _ _ => rfl
        have HRR := Lib.hid hr
        clear hr h0 HR hall
        go_wp2_with fail
        go_ret
        exact ⟨by rw [HRR.out]; rfl, hb⟩
end Go.Proofs.YtkmoakfphfakoaaGreat
