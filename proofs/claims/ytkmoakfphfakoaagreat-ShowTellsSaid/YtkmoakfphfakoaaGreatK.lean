/-
  Walks, part K: path.Dots, path.May, four.Looks.
-/
import Derived.Test.YtkmoakfphfakoaaGreatJ
import Derived.Test.YtkmoakfphfakoaaGreatD
namespace Go.Proofs.YtkmoakfphfakoaaGreat
open Go.RowKit Go.Shelf
attribute [local go_sem] Oper.semAt_some

/-- The dots of a text, counted from k on. -/
def dotsFrom : Nat → List UInt8 → Nat
  | k, [] => k
  | k, a :: t =>
    if a = 46 then (if 2 < k + 1 then 0 else dotsFrom (k + 1) t)
    else match t with
      | b :: c :: t' => if [a, b, c].map lowB = [37, 50, 101] then (if 2 < k + 1 then 0 else dotsFrom (k + 1) t') else 0
      | _ => 0

theorem dots_dot (k : Nat) (t : List UInt8) : dotsFrom k (46 :: t) = if 2 < k + 1 then 0 else dotsFrom (k + 1) t := by rw [dotsFrom.eq_def]; simp
theorem dots_e (k : Nat) (a b c : UInt8) (t : List UInt8) (ha : a ≠ 46) : dotsFrom k (a :: b :: c :: t) = if [a, b, c].map lowB = [37, 50, 101] then (if 2 < k + 1 then 0 else dotsFrom (k + 1) t) else 0 := by
  rw [dotsFrom.eq_def]; simp [ha]
theorem dots_no (k : Nat) (a : UInt8) (t : List UInt8) (ha : a ≠ 46) (ht : t.length < 2) : dotsFrom k (a :: t) = 0 := by
  rw [dotsFrom.eq_def]
  rcases t with _ | ⟨b, _ | ⟨c, t⟩⟩
  · simp [ha]
  · simp [ha]
  · simp only [List.length_cons] at ht; omega

def strLen : Value → Nat
  | .string s => s.size
  | _ => 0

set_option maxRecDepth 100000 in
set_option maxHeartbeats 2000000 in
theorem Dots_any (s : ByteArray) (hs : s.size ≤ 140737488351232) (w : World) :
    Calls Tryz.prog 54 #[.string s] w fun e w' => e = .returned (.int .i64 (dotsFrom 0 s.data.toList)) ∧ Below w.heap.size w w' := by
  go_enter Tryz.func54, Tryz.ntmps54
  go_wp2
  go_loopw [0, 3] (fun x n wr => ∃ (y : ByteArray) (k : Nat), x = .string y ∧ n = .int .i64 k ∧ k ≤ 2 ∧ y.size ≤ s.size ∧ dotsFrom k y.data.toList = dotsFrom 0 s.data.toList ∧ Below w.heap.size w wr) (fun x _ _ => strLen x)
  case atStart => exact ⟨s, 0, rfl, rfl, by omega, Nat.le_refl _, rfl, Below.refl _ _⟩
  case round =>
    obtain ⟨y, k, rfl, rfl, hk, hys, hd, hb⟩ := hrel
    cases hE : y.toList.isEmpty with
    | true =>
      have hE2 : (!y.toList.isEmpty) = false := by rw [hE]; rfl
      have hl : y.data.toList = [] := by rw [← Lib.toList_data]; simpa using hE
      go_wp2_with fail
      go_ret
      exact ⟨by rw [← hd, hl]; rfl, hb⟩
    | false =>
      have hE2 : (!y.toList.isEmpty) = true := by rw [hE]; rfl
      obtain ⟨a, t, hl⟩ : ∃ a t, y.data.toList = a :: t := by
        rw [← Lib.toList_data]
        cases h : y.toList with
        | nil => rw [h] at hE; cases hE
        | cons a t => exact ⟨a, t, rfl⟩
      have hyl : y.size = t.length + 1 := by rw [Lib.size_eq, hl]; rfl
      clear hE
      by_cases ha : a = 46
      · subst ha
        have hP : Lib.hasPrefix y.data.toList (⟨#[46]⟩ : ByteArray).data.toList = true := by rw [hl]; rfl
        have hT : Lib.trimPrefix y.data.toList (⟨#[46]⟩ : ByteArray).data.toList = t := by unfold Lib.trimPrefix; rw [hP, hl]; rfl
        have hC := Tryz.strings_CutPrefix y ⟨#[46]⟩ wr
        rw [hP, hT] at hC
        clear hP hT
        by_cases hk2 : k = 2
        · subst hk2
          have hz : dotsFrom 0 s.data.toList = 0 := by rw [← hd, hl, dots_dot]; rfl
          go_wp2_with fail
          refine Calls.mono hC ?_
          rintro e w1 ⟨rfl, rfl⟩
          go_wp2_with fail
          go_ret
          exact ⟨by first | rfl | (rw [hz]; rfl), hb⟩
        · have hz : dotsFrom (k + 1) t = dotsFrom 0 s.data.toList := by
            rw [← hd, hl, dots_dot, if_neg (by omega)]
          have hkk : decide ((2 : Int) < (k : Int) + 1) = false := by simp; omega
          go_wp2_with fail
          refine Calls.mono hC ?_
          rintro e w1 ⟨rfl, rfl⟩
          go_wp2_with fail
          refine ⟨⟨⟨t.toArray⟩, k + 1, rfl, by simp, by omega, ?_, hz, hb⟩, ?_⟩
          · show t.toArray.size ≤ _
            simp; omega
          · show t.toArray.size < y.size
            simp; omega
      · have hP : Lib.hasPrefix y.data.toList (⟨#[46]⟩ : ByteArray).data.toList = false := by
          rw [hl]; show ((46 : UInt8) == a && _) = false
          rw [beq_false_of_ne (fun e => ha e.symm)]; rfl
        have hT : Lib.trimPrefix y.data.toList (⟨#[46]⟩ : ByteArray).data.toList = a :: t := by unfold Lib.trimPrefix; rw [hP, hl]; rfl
        have hC := Tryz.strings_CutPrefix y ⟨#[46]⟩ wr
        rw [hP, hT] at hC
        clear hP hT
        by_cases h3 : y.size < 3
        · have h3d : decide ((3 : Int) ≤ y.size) = false := by simp; omega
          have hz : dotsFrom 0 s.data.toList = 0 := by rw [← hd, hl]; exact dots_no k a t ha (by omega)
          go_wp2_with fail
          refine Calls.mono hC ?_
          rintro e w1 ⟨rfl, rfl⟩
          go_wp2_with fail
          go_ret
          exact ⟨by first | rfl | (rw [hz]; rfl), hb⟩
        · have h3d : decide ((3 : Int) ≤ y.size) = true := by simp; omega
          obtain ⟨b, c, t', ht⟩ : ∃ b c t', t = b :: c :: t' := by
            rcases t with _ | ⟨b, _ | ⟨c, t⟩⟩
            · simp at hyl; omega
            · simp at hyl; omega
            · exact ⟨_, _, _, rfl⟩
          subst ht
          have hS := ASame_any (y.extract 0 3) ⟨#[37, 50, 101]⟩ (by simp; omega) (by show 3 ≤ _; omega)
          have hlo : lowL (y.extract 0 3) = [a, b, c].map lowB := by
            unfold lowL; rw [← Lib.toList_data, Lib.extract_toList, hl]; rfl
          have hlc : lowL ⟨#[37, 50, 101]⟩ = [37, 50, 101] := by decide
          rw [hlo, hlc] at hS
          clear hlo hlc
          cases hq : ([a, b, c].map lowB == [37, 50, 101]) with
          | false =>
            have hz : dotsFrom 0 s.data.toList = 0 := by rw [← hd, hl, dots_e _ _ _ _ _ ha, if_neg (by simpa using hq)]
            rw [hq] at hS
            go_wp2_with fail
            refine Calls.mono hC ?_
            rintro e w1 ⟨rfl, rfl⟩
            go_wp2_with fail
            refine Calls.mono (hS _) ?_
            rintro e w2 ⟨rfl, h2⟩
            go_wp2_with fail
            go_ret
            exact ⟨by first | rfl | (rw [hz]; rfl), hb.trans (h2.mono hb.size)⟩
          | true =>
            rw [hq] at hS
            have hz1 : dotsFrom 0 s.data.toList = if 2 < k + 1 then 0 else dotsFrom (k + 1) t' := by rw [← hd, hl, dots_e _ _ _ _ _ ha, if_pos (by simpa using hq)]
            by_cases hk2 : k = 2
            · subst hk2
              have hz : dotsFrom 0 s.data.toList = 0 := hz1
              go_wp2_with fail
              refine Calls.mono hC ?_
              rintro e w1 ⟨rfl, rfl⟩
              go_wp2_with fail
              refine Calls.mono (hS _) ?_
              rintro e w2 ⟨rfl, h2⟩
              go_wp2_with fail
              go_ret
              exact ⟨by first | rfl | (rw [hz]; rfl), hb.trans (h2.mono hb.size)⟩
            · have hkk : decide ((2 : Int) < (k : Int) + 1) = false := by simp; omega
              rw [if_neg (by omega)] at hz1
              go_wp2_with fail
              refine Calls.mono hC ?_
              rintro e w1 ⟨rfl, rfl⟩
              go_wp2_with fail
              refine Calls.mono (hS _) ?_
              rintro e w2 ⟨rfl, h2⟩
              go_wp2_with fail
              have hyl2 : y.size = t'.length + 1 + 1 + 1 := hyl
              have hsz : (y.extract 3 (t'.length + 1 + 1 + 1)).size = t'.length := by simp; omega
              have hdd : (y.extract 3 (t'.length + 1 + 1 + 1)).data.toList = t' := by
                rw [← Lib.toList_data, Lib.extract_toList, hl]
                show (t'.take (t'.length + 1 + 1 + 1 - 3)) = t'
                exact List.take_of_length_le (by omega)
              refine ⟨⟨_, k + 1, rfl, by simp, by omega, by rw [hsz]; omega, by rw [hdd]; exact hz1.symm, hb.trans (h2.mono hb.size)⟩, ?_⟩
              show (y.extract 3 (t'.length + 1 + 1 + 1)).size < y.size
              omega

/-- What stands behind the last dot. -/
def lastSeg (l : List UInt8) : List UInt8 := (l.reverse.takeWhile (· != 46)).reverse
theorem lastSeg_eq (l : List UInt8) (m : Nat) (h1 : m = 0 ∨ ∃ k, m = k + 1 ∧ l[k]? = some 46) (h2 : ∀ c ∈ l.drop m, c ≠ 46) : lastSeg l = l.drop m := by
  have hr : l.reverse = (l.drop m).reverse ++ (l.take m).reverse := by rw [← List.reverse_append, List.take_append_drop]
  unfold lastSeg
  rw [hr, List.takeWhile_append_of_pos (by intro a ha; simpa using h2 a (List.mem_reverse.1 ha))]
  have h3 : ((l.take m).reverse).takeWhile (· != 46) = [] := by
    rcases h1 with rfl | ⟨k, rfl, hk⟩
    · simp
    · have hlt : k < l.length := (List.getElem?_eq_some_iff.1 hk).1
      rw [List.take_succ_eq_append_getElem hlt, List.reverse_append]
      have := (List.getElem?_eq_some_iff.1 hk).2
      simp [this]
  rw [h3]; simp
def looks (l : List UInt8) : Bool := plainD (lastSeg l)

set_option maxHeartbeats 1000000 in
theorem Looks_any (s : ByteArray) (hs : s.size ≤ 140737488355328) (w : World) :
    Calls Tryz.prog 83 #[.string s] w fun e w' => e = .returned (.bool (looks s.data.toList)) ∧ w' = w := by
  have hbytes : ∀ (i : Nat) (h : i < s.data.toList.length), s.data[i]! = s.data.toList[i] := fun i h => by
    have h2 : i < s.data.size := by simpa using h
    rw [getElem!_pos s.data i h2]; simp
  obtain ⟨m, hi, hm, hl⟩ : ∃ m : Nat, Lib.lastIndexByte s 46 + 1 = m ∧ m ≤ s.size ∧ lastSeg s.data.toList = s.data.toList.drop m := by
    rcases Lib.lastIdx_spec s 46 s.size with ⟨h, hn⟩ | ⟨i, hi, h, hc, hn⟩
    · refine ⟨0, by show Lib.lastIdx s 46 s.size + 1 = _; rw [h]; rfl, Nat.zero_le _, lastSeg_eq _ _ (.inl rfl) fun c hc e => ?_⟩
      obtain ⟨j, hj, hje⟩ := List.getElem_of_mem hc
      simp only [List.drop_zero] at hj hje
      have := hn j (by rw [Lib.size_eq]; exact hj)
      rw [hbytes j hj, hje, e] at this
      exact this rfl
    · have hil : i < s.data.toList.length := by rw [← Lib.size_eq]; exact hi
      refine ⟨i + 1, by show Lib.lastIdx s 46 s.size + 1 = _; rw [h]; rfl, hi, lastSeg_eq _ _ (.inr ⟨i, rfl, ?_⟩) fun c hc e => ?_⟩
      · rw [List.getElem?_eq_getElem hil]
        rw [hbytes i hil] at hc
        congr 1
        exact UInt8.toNat_inj.1 (by show _ = (46 : Nat); omega)
      · obtain ⟨j, hj, hje⟩ := List.getElem_of_mem hc
        simp only [List.length_drop] at hj
        rw [List.getElem_drop] at hje
        have := hn (i + 1 + j) (by omega) (by rw [Lib.size_eq]; omega)
        rw [hbytes _ (by omega), hje, e] at this
        exact this rfl
  have hL := Tryz.strings_LastIndexByte s 46 (by omega) w
  obtain ⟨z, hz⟩ : ∃ z, Lib.lastIndexByte s 46 = z := ⟨_, rfl⟩
  rw [hz] at hi hL
  have hi2 : z = (m : Int) - 1 := by omega
  subst hi2
  have hwr : (m : Int) - 1 + 1 = m := by omega
  unfold looks
  rw [hl]
  have hx : (s.extract m s.size).data.toList = s.data.toList.drop m := by
    rw [← Lib.toList_data (s.extract m s.size), Lib.extract_toList, Lib.size_eq, List.take_of_length_le (by simp)]
  have hP := fun w => Plain_any (s.extract m s.size) w (by simp; omega)
  rw [hx] at hP
  clear hx hl hbytes hi hz
  go_enter Tryz.func83, Tryz.ntmps83
  go_wp2_with fail
  refine Calls.mono hL ?_
  rintro e w1 ⟨rfl, rfl⟩
  go_wp2_with fail
  refine Calls.mono (hP _) ?_
  rintro e w1 ⟨rfl, rfl⟩
  go_wp2_with fail
  go_ret
  exact ⟨rfl, rfl⟩

/-- A segment that may not be. -/
def segOdd (l : List UInt8) : Bool := !ready 3 l || has l 47 || decide (0 < dotsFrom 0 l)

set_option maxRecDepth 100000 in
set_option maxHeartbeats 2000000 in
theorem odd_any (s : ByteArray) (hs : s.size ≤ 1000000) (w : World) :
    Calls Tryz.prog 52 #[.string s] w fun e w' => e = .returned (.bool (segOdd s.data.toList)) ∧ Below w.heap.size w w' := by
  have hC := Tryz.strings_Contains_one s 47
  have hD := Dots_any s (by omega)
  obtain ⟨d, hd⟩ : ∃ d, dotsFrom 0 s.data.toList = d := ⟨_, rfl⟩
  unfold segOdd has
  rw [hd] at hD ⊢
  have hgt : decide ((0 : Int) < d) = decide (0 < d) := by rw [Bool.eq_iff_iff]; simp
  obtain ⟨c, hc⟩ : ∃ c, decide (0 ≤ Lib.indexByte s.data.toList 47) = c := ⟨_, rfl⟩
  have hC : ∀ w, Calls Tryz.prog 53 #[.string s, .string ⟨#[47]⟩] w fun e w' => e = .returned (.bool c) ∧ w' = w := fun w => by rw [← hc]; exact hC w
  rw [hc]
  have hR : ∀ w, Calls Tryz.prog 32 #[.string s, .int .i64 3] w fun e w' => e = .returned (.bool (ready 3 s.data.toList)) ∧ Below w.heap.size w w' := fun w => Ready_any s 3 w (by omega)
  obtain ⟨r, hr⟩ : ∃ r, ready 3 s.data.toList = r := ⟨_, rfl⟩
  rw [hr] at hR ⊢
  clear hd hc hr
  cases r with
  | false =>
    go_enter Tryz.func52, Tryz.ntmps52
    go_wp2_with fail
    refine Calls.mono (hR _) ?_
    rintro e w1 ⟨rfl, h1⟩
    go_wp2_with fail
    go_ret
    exact ⟨rfl, h1⟩
  | true =>
    cases c with
    | true =>
      go_enter Tryz.func52, Tryz.ntmps52
      go_wp2_with fail
      refine Calls.mono (hR _) ?_
      rintro e w1 ⟨rfl, h1⟩
      go_wp2_with fail
      refine Calls.mono (hC _) ?_
      rintro e w2 ⟨rfl, rfl⟩
      go_wp2_with fail
      go_ret
      exact ⟨rfl, h1⟩
    | false =>
      go_enter Tryz.func52, Tryz.ntmps52
      go_wp2_with fail
      refine Calls.mono (hR _) ?_
      rintro e w1 ⟨rfl, h1⟩
      go_wp2_with fail
      refine Calls.mono (hC _) ?_
      rintro e w2 ⟨rfl, rfl⟩
      go_wp2_with fail
      refine Calls.mono (hD _) ?_
      rintro e w3 ⟨rfl, h3⟩
      go_wp2_with fail
      go_ret
      exact ⟨by simp, h1.trans (h3.mono h1.size)⟩

/-- The first odd one's place; -1, if there is none. -/
def oddAt (ss : List ByteArray) : Int := match ss.findIdx? (fun s => segOdd s.data.toList) with | some k => k | none => -1

set_option maxRecDepth 100000 in
set_option maxHeartbeats 2000000 in
theorem IFunc_any (A : Option Addr) (ss : List ByteArray) (c : Nat) (w : World) (hS : Strs w A ss) (hm : ∀ s ∈ ss, s.size ≤ 1000000) (hl : ss.length ≤ 140737488351232) :
    Calls Tryz.prog 78 #[.slice A ss.length c, .func (.func 52) #[] #[]] w fun e w' => (∃ z : Int, e = .returned (.int .i64 z) ∧ (0 ≤ z ↔ ∃ s ∈ ss, segOdd s.data.toList = true)) ∧ Below w.heap.size w w' := by
  go_enter Tryz.func78, Tryz.ntmps78
  go_wp2
  go_loopw [8] (fun i wr => ∃ k : Nat, i = .int .i64 k ∧ k ≤ ss.length ∧ (∀ s ∈ ss.take k, segOdd s.data.toList = false) ∧ Below w.heap.size w wr) (fun i _ => ss.length - (intOf i).toNat)
  case atStart => exact ⟨0, rfl, by omega, by simp, Below.refl _ _⟩
  case round =>
    obtain ⟨k, rfl, hk, hno, hb⟩ := hrel
    by_cases hlt : k < ss.length
    · have hlt2 : decide ((k : Int) < ss.length) = true := by simp; omega
      rcases hS with rfl | ⟨b, off, rfl, hbl, hc⟩
      · simp at hlt
      · have hcx := (hb.cell (p := ⟨b, off + k, none⟩) hbl).trans (hc k hlt)
        have hO := odd_any ss[k] (hm _ (List.getElem_mem hlt))
        have htk : ss.take (k + 1) = ss.take k ++ [ss[k]] := List.take_succ_eq_append_getElem hlt
        have hmem : ss[k] ∈ ss := List.getElem_mem hlt
        obtain ⟨x, hx⟩ : ∃ x, ss[k] = x := ⟨_, rfl⟩
        rw [hx] at hcx hO htk hmem
        clear hx hc hm
        cases ho : segOdd x.data.toList with
        | true =>
          rw [ho] at hO
          go_wp2_with fail
          refine Calls.mono (hO _) ?_
          rintro e w1 ⟨rfl, h1⟩
          go_wp2_with fail
          go_ret
          exact ⟨⟨k, rfl, by simp; exact ⟨x, hmem, ho⟩⟩, hb.trans (h1.mono hb.size)⟩
        | false =>
          rw [ho] at hO
          go_wp2_with fail
          refine Calls.mono (hO _) ?_
          rintro e w1 ⟨rfl, h1⟩
          go_wp2_with fail
          go_roundw
          case rel => exact ⟨k + 1, by simp, hlt, fun s hs => by
            rw [htk] at hs
            rcases List.mem_append.1 hs with h | h
            · exact hno s h
            · rw [List.mem_singleton.1 h]; exact ho, hb.trans (h1.mono hb.size)⟩
          case measure => simp [intOf]; omega
    · obtain rfl : k = ss.length := by omega
      go_wp2
      go_ret
      rw [List.take_length] at hno
      exact ⟨⟨-1, rfl, by simp; exact hno⟩, hb⟩

/-- May a path's segments be? -/
def pmay (ss : List ByteArray) : Bool := !ss.isEmpty && ss.all fun s => !segOdd s.data.toList

set_option maxRecDepth 100000 in
set_option maxHeartbeats 2000000 in
theorem PMay_any (A : Option Addr) (ss : List ByteArray) (c : Nat) (w : World) (hS : Strs w A ss) (hm : ∀ s ∈ ss, s.size ≤ 1000000) (hl : ss.length ≤ 140737488351232) :
    Calls Tryz.prog 36 #[.slice A ss.length c] w fun e w' => e = .returned (.bool (pmay ss)) ∧ Below w.heap.size w w' := by
  have hCF : ∀ (W : World), Strs W A ss → Calls Tryz.prog 55 #[.slice A ss.length c, .func (.func 52) #[] #[]] W fun e w' => e = .returned (.bool (!(ss.all fun s => !segOdd s.data.toList))) ∧ Below W.heap.size W w' := fun W hS => by
    go_enter Tryz.func55, Tryz.ntmps55
    go_wp2_with fail
    refine Calls.mono (IFunc_any A ss c W hS hm hl) ?_
    rintro e w1 ⟨⟨z, rfl, hz⟩, h1⟩
    have hd : decide ((0 : Int) ≤ z) = !(ss.all fun s => !segOdd s.data.toList) := by
      rw [Bool.eq_iff_iff, decide_eq_true_iff, hz]
      simp
    clear hz
    go_wp2_with fail
    go_ret
    exact ⟨rfl, h1⟩
  by_cases h0 : ss = []
  · subst h0
    have hS' : Strs w A [] := .inl rfl
    go_enter Tryz.func36, Tryz.ntmps36
    go_wp2_with fail
    go_ret
    exact ⟨rfl, Below.refl _ _⟩
  · obtain ⟨n, hn⟩ : ∃ n, ss.length = n + 1 := ⟨ss.length - 1, by have : 0 < ss.length := List.length_pos_iff.2 h0; omega⟩
    have hpos : decide ((0 : Int) < (n + 1 : Nat)) = true := by simp
    have hpm : pmay ss = ss.all fun s => !segOdd s.data.toList := by
      unfold pmay; cases ss with | nil => exact absurd rfl h0 | cons _ _ => rfl
    rw [hn] at hCF ⊢
    clear h0 hn
    have hCF' := hCF w hS
    clear hCF
    generalize hN : ((n + 1 : Nat) : Int) = N at hpos
    go_enter Tryz.func36, Tryz.ntmps36
    go_wp2_with fail
    refine Calls.mono hCF' ?_
    rintro e w1 ⟨rfl, h1⟩
    go_wp2_with fail
    go_ret
    exact ⟨by rw [hpm]; simp, h1⟩
end Go.Proofs.YtkmoakfphfakoaaGreat
