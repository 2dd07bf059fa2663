/-
  Walks, parts RB RC, in one text.
-/
import Derived.Test.YtkmoakfphfakoaaGreatE
import Derived.Laws.Rows
namespace Go.Proofs.YtkmoakfphfakoaaGreat
open Go.RowKit Go.Shelf
attribute [local go_sem] Oper.semAt_some

theorem mayS_no (p : List Int) (k : Nat) (hk : k < p.length) (h : ¬ (0 ≤ p[k] ∧ p[k] ≤ 65535)) : mayS p = false := by
  rw [← Bool.not_eq_true]
  exact fun hm => h (mayS_iff p hm k hk)
theorem mayS_yes (p : List Int) (h : ∀ (k : Nat) (hk : k < p.length), 0 ≤ p[k] ∧ p[k] ≤ 65535) : mayS p = true := by
  unfold mayS
  rw [List.all_eq_true]
  intro x hx
  obtain ⟨k, hk, rfl⟩ := List.getElem_of_mem hx
  have := h k hk
  simp [this.1, this.2]

abbrev cells8 (p0 p1 p2 p3 p4 p5 p6 p7 : Int) : Array Value := #[.int .i64 p0, .int .i64 p1, .int .i64 p2, .int .i64 p3, .int .i64 p4, .int .i64 p5, .int .i64 p6, .int .i64 p7]
theorem cells8_at (w : World) (p0 p1 p2 p3 p4 p5 p6 p7 : Int) (j : Nat) (h : j < [p0, p1, p2, p3, p4, p5, p6, p7].length) : (w.alloc (.cells (cells8 p0 p1 p2 p3 p4 p5 p6 p7) 22)).cell? ⟨w.heap.size, j, none⟩ = some (.int .i64 ([p0, p1, p2, p3, p4, p5, p6, p7][j])) := by
  rw [Lib.cell_of_heap (b := w.heap.size) (fr := (0, 0)) (heap_alloc_new w _)]
  match j, h with
  | 0, _ | 1, _ | 2, _ | 3, _ | 4, _ | 5, _ | 6, _ | 7, _ => rfl

set_option maxHeartbeats 2000000 in
set_option maxRecDepth 100000 in
theorem RMay6_any (p0 p1 p2 p3 p4 p5 p6 p7 : Int) (w : World) :
    Calls Tryz.prog 60 #[.agg (cells8 p0 p1 p2 p3 p4 p5 p6 p7)] w fun e w' =>
      e = .returned (.bool (mayS [p0, p1, p2, p3, p4, p5, p6, p7])) ∧ Below w.heap.size w w' := by
  have hcell := cells8_at w p0 p1 p2 p3 p4 p5 p6 p7
  obtain ⟨W, hW⟩ : ∃ W, w.alloc (.cells (cells8 p0 p1 p2 p3 p4 p5 p6 p7) 22) = W := ⟨_, rfl⟩
  rw [hW] at hcell
  have hbl : Below w.heap.size w W := by rw [← hW]; exact (Below.refl _ _).alloc (Nat.le_refl _) _
  have hlen : [p0, p1, p2, p3, p4, p5, p6, p7].length = 8 := rfl
  generalize [p0, p1, p2, p3, p4, p5, p6, p7] = p at hcell hlen ⊢
  have HC := Lib.hid hcell; clear hcell
  have HL := Lib.hid hlen; clear hlen
  go_enter Tryz.func60, Tryz.ntmps60
  go_wp2_with fail
  go_loop [3] (fun i => ∃ k : Nat, k ≤ 8 ∧ i = .int .i64 k ∧ Hid (∀ (q : Nat) (hq : q < p.length), q < k → 0 ≤ p[q] ∧ p[q] ≤ 65535)) (fun i => 8 - (intOf i).toNat)
  case atStart => exact ⟨0, by omega, rfl, fun q _ h => by omega⟩
  case round =>
    obtain ⟨k, hk, rfl, hq⟩ := hrel
    by_cases hlt : k < 8
    · have hkp : k < p.length := by rw [HL.out]; exact hlt
      have hc := HC.out k hkp
      have hno := mayS_no p k hkp
      have hyes : 0 ≤ p[k] ∧ p[k] ≤ 65535 → Hid (∀ (q : Nat) (hq : q < p.length), q < k + 1 → 0 ≤ p[q] ∧ p[q] ≤ 65535) := fun h q hqp hqk => by
        by_cases e : q = k
        · subst e; exact h
        · exact hq.out q hqp (by omega)
      generalize p[k] = x at hc hno hyes
      have HN := Lib.hid (And.intro hno hyes)
      clear hno hyes hkp hq
      have hlt2 : decide ((k : Int) < 8) = true := by simp; omega
      by_cases h1 : x < 0
      · have d1 : decide (x < 0) = true := by simpa using h1
        go_wp2_with fail
        go_ret
        exact ⟨by rw [HN.out.1 (by omega)]; rfl, hbl⟩
      · have d1 : decide (x < 0) = false := by simpa using h1
        by_cases h2 : 65535 < x
        · have d2 : decide (65535 < x) = true := by simpa using h2
          go_wp2_with fail
          go_ret
          exact ⟨by rw [HN.out.1 (by omega)]; rfl, hbl⟩
        · have d2 : decide (65535 < x) = false := by simpa using h2
          go_wp2_with fail
          go_round
          case rel => exact ⟨k + 1, by omega, by go_num, HN.out.2 (by omega)⟩
          case measure => simp [intOf]; omega
    · obtain rfl : k = 8 := by omega
      have HY := Lib.hid (mayS_yes p fun q hqp => hq.out q hqp (by rw [HL.out] at hqp; exact hqp))
      clear hq
      go_wp2_with fail
      go_ret
      exact ⟨by rw [HY.out]; rfl, hbl⟩

/-- The rounds of the document's own: a row of one nought counts as none. -/
def rr (p : List Int) (i : Nat) : Nat × Nat := if (runs p i).2 < 2 then (0, 0) else runs p i
theorem rr_zero (p : List Int) : rr p 0 = (0, 0) := rfl
theorem rr_succ (p : List Int) (hp : p.length = 8) (i : Nat) (hi : i < 8) : rr p (i + 1) = if (rr p i).2 < lz (p.drop i) ∧ 1 < lz (p.drop i) then (i, lz (p.drop i)) else rr p i := by
  have hbd := runs_bd p hp i (by omega)
  have e : runs p (i + 1) = if (runs p i).2 < lz (p.drop i) then (i, lz (p.drop i)) else runs p i := rfl
  unfold rr
  generalize runs p (i + 1) = q at e
  subst e
  generalize runs p i = r at hbd
  generalize lz (p.drop i) = z
  obtain ⟨a, l⟩ := r
  simp only at hbd
  by_cases h1 : l < z
  · simp only [if_pos h1]
    rw [if_neg (by omega)]
    have c : (if l < 2 then ((0, 0) : Nat × Nat) else (a, l)).2 < z := by split <;> simp <;> omega
    rw [if_pos ⟨c, by omega⟩]
  · simp only [if_neg h1]
    by_cases h2 : l < 2
    · simp only [if_pos h2]
      rw [if_neg (by omega)]
    · simp only [if_neg h2]
      rw [if_neg (by omega)]
theorem rr_eight (p : List Int) : rr p 8 = runOf p := rfl
theorem rr_bd (p : List Int) (hp : p.length = 8) (i : Nat) (hi : i ≤ 8) : (rr p i).1 ≤ 8 ∧ (rr p i).2 ≤ 8 := by
  have := runs_bd p hp i hi
  unfold rr
  split
  · exact ⟨by simp, by simp⟩
  · exact ⟨by omega, by omega⟩

set_option maxHeartbeats 4000000 in
set_option maxRecDepth 100000 in
theorem RRun_any (p0 p1 p2 p3 p4 p5 p6 p7 : Int) (w : World) :
    Calls Tryz.prog 66 #[.agg (cells8 p0 p1 p2 p3 p4 p5 p6 p7)] w fun e w' =>
      e = .returned (.tuple #[.int .i64 (runOf [p0, p1, p2, p3, p4, p5, p6, p7]).1, .int .i64 (runOf [p0, p1, p2, p3, p4, p5, p6, p7]).2]) ∧ Below w.heap.size w w' := by
  have hcell := cells8_at w p0 p1 p2 p3 p4 p5 p6 p7
  obtain ⟨W, hW⟩ : ∃ W, w.alloc (.cells (cells8 p0 p1 p2 p3 p4 p5 p6 p7) 22) = W := ⟨_, rfl⟩
  rw [hW] at hcell
  have hbl : Below w.heap.size w W := by rw [← hW]; exact (Below.refl _ _).alloc (Nat.le_refl _) _
  have hlen : [p0, p1, p2, p3, p4, p5, p6, p7].length = 8 := rfl
  generalize [p0, p1, p2, p3, p4, p5, p6, p7] = p at hcell hlen ⊢
  have HC := Lib.hid hcell; clear hcell
  have HL := Lib.hid hlen; clear hlen
  go_enter Tryz.func66, Tryz.ntmps66
  go_wp2_with fail
  clear hW
  go_loop [4, 5, 6] (fun s4 s5 s6 => ∃ i : Nat, i ≤ 8 ∧ s6 = .int .i64 i ∧ s4 = .int .i64 (rr p i).1 ∧ s5 = .int .i64 (rr p i).2) (fun _ _ i => 8 - (intOf i).toNat)
  case atStart => exact ⟨0, by omega, rfl, rfl, rfl⟩
  case round =>
    obtain ⟨i, hi8, rfl, rfl, rfl⟩ := hrel
    by_cases hi : i < 8
    · have HR := Lib.hid (rr_succ p HL.out i hi)
      have hbd := rr_bd p HL.out i hi8
      generalize rr p i = r at HR hbd ⊢
      obtain ⟨a, l⟩ := r
      simp only at hbd HR ⊢
      go_wp2_with fail
      go_loop [7] (fun s7 => ∃ j : Nat, i + j ≤ 8 ∧ s7 = .int .i64 j ∧ Hid (∀ (q : Nat) (h : q < p.length), i ≤ q → q < i + j → p[q] = 0)) (fun j => 8 - (intOf j).toNat)
      case atStart => exact ⟨0, by omega, rfl, fun q h h1 h2 => by omega⟩
      case round =>
        obtain ⟨j, hj8, rfl, hz⟩ := hrel
        have hwj : IntKind.i64.wrap ((i : Int) + j) = (i : Int) + j := IntWalk.i64_in _ (by omega)
        by_cases hj : i + j < 8
        · have hjd : decide ((i : Int) + j < 8) = true := by simp; omega
          have hij : i + j < p.length := by rw [HL.out]; omega
          have hcell := HC.out (i + j) hij
          have hzn : p[i + j] ≠ 0 → lz (p.drop i) = j := fun hne => lz_of _ _ (by simp; omega) (fun q hq => by simpa using hz.out (i + q) (by omega) (by omega) (by omega)) (by simpa using hne)
          have hz2 : p[i + j] = 0 → Hid (∀ (q : Nat) (h : q < p.length), i ≤ q → q < i + (j + 1) → p[q] = 0) := fun h q hqp h1 h2 => by
            by_cases e : q = i + j
            · subst e; exact h
            · exact hz.out q hqp h1 (by omega)
          generalize p[i + j] = x at hcell hzn hz2
          have HZ := Lib.hid (And.intro hzn hz2)
          clear hzn hz2 hz hij
          cases hx0 : ((x : Int) == 0)
          · have HLZ := Lib.hid (HZ.out.1 (by simpa using hx0))
            by_cases c1 : l < j
            · have d1 : decide ((l : Int) < j) = true := by simp; omega
              by_cases c2 : 1 < j
              · have d2 : decide ((1 : Int) < j) = true := by simp; omega
                go_wp2_with fail
                go_round
                case rel => exact ⟨i + 1, by omega, by go_num, by rw [HR.out, HLZ.out, if_pos ⟨c1, c2⟩], by rw [HR.out, HLZ.out, if_pos ⟨c1, c2⟩]⟩
                case measure => simp [intOf]; omega
              · have d2 : decide ((1 : Int) < j) = false := by simp; omega
                go_wp2_with fail
                go_round
                case rel => exact ⟨i + 1, by omega, by go_num, by rw [HR.out, HLZ.out, if_neg (by omega)], by rw [HR.out, HLZ.out, if_neg (by omega)]⟩
                case measure => simp [intOf]; omega
            · have d1 : decide ((l : Int) < j) = false := by simp; omega
              go_wp2_with fail
              go_round
              case rel => exact ⟨i + 1, by omega, by go_num, by rw [HR.out, HLZ.out, if_neg (by omega)], by rw [HR.out, HLZ.out, if_neg (by omega)]⟩
              case measure => simp [intOf]; omega
          · go_wp2_with fail
            go_round
            case rel => exact ⟨j + 1, by omega, by go_num, HZ.out.2 (by simpa using hx0)⟩
            case measure => simp [intOf]; omega
        · have hjd : decide ((i : Int) + j < 8) = false := by simp; omega
          have hje : i + j = 8 := by omega
          have HLZ : RowKit.Hid (lz (p.drop i) = j) := by
            have h1 := lz_all (p.drop i) (fun q hq => by
              have hq2 : i + q < p.length := by simp at hq; omega
              have := hz.out (i + q) hq2 (by omega) (by rw [HL.out] at hq2; omega)
              simpa using this)
            show lz (p.drop i) = j
            rw [h1, List.length_drop, HL.out]
            omega
          clear hz
          by_cases c1 : l < j
          · have d1 : decide ((l : Int) < j) = true := by simp; omega
            by_cases c2 : 1 < j
            · have d2 : decide ((1 : Int) < j) = true := by simp; omega
              go_wp2_with fail
              go_round
              case rel => exact ⟨i + 1, by omega, by go_num, by rw [HR.out, HLZ.out, if_pos ⟨c1, c2⟩], by rw [HR.out, HLZ.out, if_pos ⟨c1, c2⟩]⟩
              case measure => simp [intOf]; omega
            · have d2 : decide ((1 : Int) < j) = false := by simp; omega
              go_wp2_with fail
              go_round
              case rel => exact ⟨i + 1, by omega, by go_num, by rw [HR.out, HLZ.out, if_neg (by omega)], by rw [HR.out, HLZ.out, if_neg (by omega)]⟩
              case measure => simp [intOf]; omega
          · have d1 : decide ((l : Int) < j) = false := by simp; omega
            go_wp2_with fail
            go_round
            case rel => exact ⟨i + 1, by omega, by go_num, by rw [HR.out, HLZ.out, if_neg (by omega)], by rw [HR.out, HLZ.out, if_neg (by omega)]⟩
            case measure => simp [intOf]; omega
    · obtain rfl : i = 8 := by omega
      go_wp2_with fail
      go_ret2
      exact ⟨by rw [rr_eight]; rfl, hbl⟩

/-- One for an empty text. -/
def empOf : Value → Nat
  | .string b => if b.data.toList.isEmpty then 1 else 0
  | _ => 0
/-- The text of a piece, digit by digit from behind. -/
theorem hexT_step (n m : Nat) (s : List UInt8) (h : (s = [] ∧ m = n) ∨ (s ≠ [] ∧ hexT n = (if 0 < m then hexT m else []) ++ s)) (hc : 0 < m ∨ s = []) :
    hexT n = (if 0 < m / 16 then hexT (m / 16) else []) ++ (hexd (m % 16) :: s) := by
  have key : hexT m = (if 0 < m / 16 then hexT (m / 16) else []) ++ [hexd (m % 16)] := by
    rw [hexT]
    by_cases h1 : 15 < m
    · rw [dif_pos h1, if_pos (by omega)]
    · rw [dif_neg h1, if_neg (by omega), Nat.mod_eq_of_lt (by omega)]; rfl
  rcases h with ⟨rfl, rfl⟩ | ⟨hs, h⟩
  · exact key
  · have hm : 0 < m := by
      rcases hc with h | h
      · exact h
      · exact absurd h hs
    rw [h, if_pos hm, key]
    simp

set_option maxHeartbeats 2000000 in
set_option maxRecDepth 100000 in
theorem Rtext_any (n : Nat) (hn : n ≤ 65535) (w : World) :
    Calls Tryz.prog 67 #[.int .i64 n] w fun e w' => e = .returned (.string ⟨(hexT n).toArray⟩) ∧ Below w.heap.size w w' := by
  go_enter Tryz.func67, Tryz.ntmps67
  go_wp2_with fail
  go_loop [0, 4] (fun s0 s4 => ∃ (m : Nat) (s : List UInt8), m ≤ n ∧ s.length ≤ 65536 - m ∧ s0 = .int .i64 m ∧ s4 = .string ⟨s.toArray⟩ ∧ Hid ((s = [] ∧ m = n) ∨ (s ≠ [] ∧ hexT n = (if 0 < m then hexT m else []) ++ s))) (fun s0 s4 => (intOf s0).toNat + empOf s4)
  case atStart => exact ⟨n, [], by omega, by simp, rfl, rfl, .inl ⟨rfl, rfl⟩⟩
  case round =>
    obtain ⟨m, s, hm, hsl, rfl, rfl, hr⟩ := hrel
    by_cases hm0 : m = 0
    · subst hm0
      by_cases hs0 : s = []
      · subst hs0
        have hst := Lib.hid (hexT_step n 0 [] hr.out (.inr rfl))
        clear hr
        go_wp2_with fail
        go_round
        case rel => exact ⟨0, [48], by omega, by simp, rfl, by rfl, .inr ⟨by simp, hst.out⟩⟩
        case measure => show 0 + empOf (.string _) < 0 + empOf _; decide
      · have hse : s.isEmpty = false := by simpa using hs0
        have hx : hexT n = s := by
          rcases hr.out with ⟨h, _⟩ | ⟨_, h⟩
          · exact absurd h hs0
          · simpa using h
        have HX := Lib.hid hx
        clear hr hx hs0
        go_wp2_with fail
        go_ret
        exact ⟨by rw [HX.out]; rfl, Below.refl _ _⟩
    · have hst := Lib.hid (hexT_step n m s hr.out (.inl (by omega)))
      clear hr
      have hs16 := hex_slice (m % 16) (by omega)
      have e16 : ((m % 16 : Nat) : Int) = (m : Int) % 16 := by omega
      rw [e16] at hs16
      clear e16
      have hmg : decide ((0 : Int) < m) = true := by simp; omega
      go_wp2_with fail
      go_round
      case rel => exact ⟨m / 16, hexd (m % 16) :: s, by omega, by simp; omega, by go_num, rfl, .inr ⟨by simp, hst.out⟩⟩
      case measure =>
        show (((m : Int) / 16).toNat + empOf (.string ⟨(hexd (m % 16) :: s).toArray⟩)) < (m : Int).toNat + empOf _
        have h1 : empOf (.string ⟨(hexd (m % 16) :: s).toArray⟩) = 0 := by simp [empOf]
        rw [h1]
        omega

/-- One round of the document's text of pieces. -/
def stepS (at' long i : Nat) (s : List UInt8) (x : Int) : List UInt8 :=
  if 0 < long ∧ i = at' then s ++ [58, 58]
  else if 0 < long ∧ at' ≤ i ∧ i < at' + long then s
  else (if s ≠ [] ∧ s.getLast? ≠ some 58 then s ++ [58] else s) ++ hexT x.toNat
def rshow (p : List Int) (at' long : Nat) : Nat → List UInt8
  | 0 => []
  | i + 1 => stepS at' long i (rshow p at' long i) (p.getD i 0)
theorem rshow_len (p : List Int) (hp : mayS p = true) (at' long : Nat) (i : Nat) (hi : i ≤ p.length) : (rshow p at' long i).length ≤ 7 * i := by
  induction i with
  | zero => simp [rshow]
  | succ i ih =>
    have h1 := ih (by omega)
    have h2 := mayS_iff p hp i (by omega)
    have h3 : p.getD i 0 = p[i]'(by omega) := by simp [List.getD_eq_getElem?_getD, List.getElem?_eq_getElem (show i < p.length by omega)]
    have h4 := hexT_len4 (p[i]'(by omega)).toNat (by omega)
    simp only [rshow, stepS, h3]
    split
    · simp; omega
    · split
      · omega
      · split
        · simp; omega
        · simp; omega
theorem hexd_ne (n : Nat) : hexd n ≠ 58 := by
  by_cases h : n < 16
  · obtain rfl | rfl | rfl | rfl | rfl | rfl | rfl | rfl | rfl | rfl | rfl | rfl | rfl | rfl | rfl | rfl : n = 0 ∨ n = 1 ∨ n = 2 ∨ n = 3 ∨ n = 4 ∨ n = 5 ∨ n = 6 ∨ n = 7 ∨ n = 8 ∨ n = 9 ∨ n = 10 ∨ n = 11 ∨ n = 12 ∨ n = 13 ∨ n = 14 ∨ n = 15 := by omega
    all_goals decide
  · have e : hexd n = 0 := by
      unfold hexd
      rw [List.getD_eq_getElem?_getD, List.getElem?_eq_none (by show 16 ≤ n; omega)]; rfl
    rw [e]; decide
theorem hexT_last (n : Nat) : ∃ l d, hexT n = l ++ [d] ∧ d ≠ 58 := by
  rw [hexT]
  split
  · exact ⟨_, _, rfl, hexd_ne _⟩
  · exact ⟨[], _, rfl, hexd_ne _⟩
theorem join_snoc (xs : List (List UInt8)) (x : List UInt8) (h : xs ≠ []) : Lib.join (xs ++ [x]) [58] = Lib.join xs [58] ++ ([58] ++ x) := by
  cases xs with
  | nil => exact absurd rfl h
  | cons y r => simp [Lib.join_cons, Lib.joinTail]
theorem joinS_one (x : Int) : joinS [x] = hexT x.toNat := by simp [joinS, Lib.join_cons, Lib.joinTail]
theorem joinS_snoc (l : List Int) (x : Int) (h : l ≠ []) : joinS (l ++ [x]) = joinS l ++ ([58] ++ hexT x.toNat) := by
  unfold joinS
  rw [List.map_append, List.map_append]
  exact join_snoc _ _ (by simpa using h)
theorem joinS_last (l : List Int) (h : l ≠ []) : ∃ t d, joinS l = t ++ [d] ∧ d ≠ 58 := by
  obtain ⟨t, d, ht, hd⟩ := hexT_last (l.getLast h).toNat
  have e : l = l.dropLast ++ [l.getLast h] := (List.dropLast_concat_getLast h).symm
  by_cases h0 : l.dropLast = []
  · rw [e, h0, List.nil_append, joinS_one, ht]
    exact ⟨t, d, rfl, hd⟩
  · rw [e, joinS_snoc _ _ h0, ht]
    exact ⟨joinS l.dropLast ++ ([58] ++ t), d, by simp, hd⟩
/-- A piece behind others: with a colon ahead, if there are some. -/
theorem colon_join (pre : List UInt8) (hpre : pre = [] ∨ ∃ t, pre = t ++ [58]) (l : List Int) (x : Int) :
    (if pre ++ joinS l ≠ [] ∧ (pre ++ joinS l).getLast? ≠ some 58 then (pre ++ joinS l) ++ [58] else pre ++ joinS l) ++ hexT x.toNat = pre ++ joinS (l ++ [x]) := by
  by_cases hl : l = []
  · subst hl
    have e : joinS [] = [] := rfl
    rw [e, List.append_nil, List.nil_append, joinS_one]
    rcases hpre with rfl | ⟨t, rfl⟩
    · simp
    · rw [if_neg (by simp)]
  · obtain ⟨t, d, ht, hd⟩ := joinS_last l hl
    rw [joinS_snoc l x hl, if_pos]
    · simp
    · rw [ht]
      refine ⟨by simp, ?_⟩
      rw [← List.append_assoc, List.getLast?_concat]
      simpa using hd
theorem take_getD (p : List Int) (i : Nat) (hi : i < p.length) : p.take (i + 1) = p.take i ++ [p.getD i 0] := by
  rw [List.take_succ_eq_append_getElem hi]
  simp [List.getD_eq_getElem?_getD, List.getElem?_eq_getElem hi]
theorem rshow_a (p : List Int) (at' long i : Nat) (hi : i ≤ p.length) (h : long = 0 ∨ i ≤ at') : rshow p at' long i = joinS (p.take i) := by
  induction i with
  | zero => rfl
  | succ i ih =>
    have h1 := ih (by omega) (by omega)
    have h2 := colon_join [] (.inl rfl) (p.take i) (p.getD i 0)
    simp only [List.nil_append] at h2
    rw [rshow, h1, stepS, if_neg (by omega), if_neg (by omega), h2, ← take_getD p i (by omega)]
theorem rshow_b (p : List Int) (at' long i : Nat) (hi : at' + long ≤ p.length) (hl : 0 < long) (h0 : at' < i) (h : i ≤ at' + long) : rshow p at' long i = joinS (p.take at') ++ [58, 58] := by
  induction i with
  | zero => omega
  | succ i ih =>
    rw [rshow, stepS]
    by_cases e : i = at'
    · subst e
      rw [if_pos ⟨hl, rfl⟩, rshow_a p i long i (by omega) (.inr (Nat.le_refl _))]
    · rw [if_neg (by omega), if_pos ⟨hl, by omega, by omega⟩, ih (by omega) (by omega)]
theorem rshow_c (p : List Int) (at' long i : Nat) (hi : i ≤ p.length) (hl : 0 < long) (h : at' + long ≤ i) : rshow p at' long i = joinS (p.take at') ++ [58, 58] ++ joinS ((p.take i).drop (at' + long)) := by
  induction i with
  | zero => omega
  | succ i ih =>
    by_cases e : at' + long = i + 1
    · rw [rshow_b p at' long (i + 1) (by omega) hl (by omega) (by omega)]
      have : (p.take (i + 1)).drop (at' + long) = [] := List.drop_eq_nil_of_le (by simp; omega)
      rw [this]
      simp [joinS, Lib.join_nil]
    · have h1 := ih (by omega) (by omega)
      have h2 := colon_join (joinS (p.take at') ++ [58, 58]) (.inr ⟨joinS (p.take at') ++ [58], by simp⟩) ((p.take i).drop (at' + long)) (p.getD i 0)
      have h3 : (p.take (i + 1)).drop (at' + long) = (p.take i).drop (at' + long) ++ [p.getD i 0] := by
        rw [take_getD p i (by omega), List.drop_append_of_le_length (by simp; omega)]
      rw [rshow, h1, stepS, if_neg (by omega), if_neg (by omega), h2, h3]
theorem rshow_all (p : List Int) (hp : p.length = 8) (hm : mayS p = true) : rshow p (runOf p).1 (runOf p).2 8 = showS p := by
  have hb := runOf_bd p hp
  unfold showS
  rw [if_pos hm]
  by_cases h0 : (runOf p).2 = 0
  · rw [if_pos h0, rshow_a p _ _ 8 (by omega) (.inl h0), List.take_of_length_le (by omega)]
  · rw [if_neg h0, rshow_c p _ _ 8 (by omega) (by omega) hb, List.take_of_length_le (by omega : p.length ≤ 8)]
end Go.Proofs.YtkmoakfphfakoaaGreat

namespace Go.Proofs.YtkmoakfphfakoaaGreat
open Go.RowKit Go.Shelf
attribute [local go_sem] Oper.semAt_some

/-- A text is empty, or has a last byte. -/
theorem str_cases (s : List UInt8) : s = [] ∨ ∃ c, s.isEmpty = false ∧ 1 ≤ s.length ∧ s.getLast? = some c ∧ ∀ w, (Instr.index 9 (.string ⟨s.toArray⟩) (.int .i64 ((s.length : Int) - 1))).run Tryz.prog w = .ok (.int .u8 c.toNat) w := by
  rcases List.eq_nil_or_concat s with h | ⟨t, c, h⟩
  · exact .inl h
  · rw [List.concat_eq_append] at h
    refine .inr ⟨c, by rw [h]; simp, by rw [h]; simp, by rw [h]; simp, fun w => ?_⟩
    have hsz : (⟨s.toArray⟩ : ByteArray).size = s.length := by show s.toArray.size = _; simp
    have hl : s.length = t.length + 1 := by rw [h]; simp
    rw [run_index_string (P := Tryz.prog) w _ _ _ _ Tryz.underlying9, dif_pos ⟨by omega, by rw [hsz]; omega⟩]
    have e : ((s.length : Int) - 1).toNat = t.length := by omega
    congr 3
    show ((s.toArray[((s.length : Int) - 1).toNat]'_).toNat : Nat) = c.toNat
    congr 1
    simp only [e, List.getElem_toArray]
    subst h
    simp

set_option maxHeartbeats 4000000 in
set_option maxRecDepth 100000 in
theorem RShow6_any (p0 p1 p2 p3 p4 p5 p6 p7 : Int) (w : World) :
    Calls Tryz.prog 48 #[.agg (cells8 p0 p1 p2 p3 p4 p5 p6 p7)] w fun e w' =>
      e = .returned (.string ⟨(showS [p0, p1, p2, p3, p4, p5, p6, p7]).toArray⟩) ∧ Below w.heap.size w w' := by
  have hcell := cells8_at w p0 p1 p2 p3 p4 p5 p6 p7
  have kM := fun W => RMay6_any p0 p1 p2 p3 p4 p5 p6 p7 W
  have kR := fun W => RRun_any p0 p1 p2 p3 p4 p5 p6 p7 W
  obtain ⟨W, hW⟩ : ∃ W, w.alloc (.cells (cells8 p0 p1 p2 p3 p4 p5 p6 p7) 22) = W := ⟨_, rfl⟩
  rw [hW] at hcell
  have hbl : Below w.heap.size w W := by rw [← hW]; exact (Below.refl _ _).alloc (Nat.le_refl _) _
  have hsz : w.heap.size < W.heap.size := by rw [← hW]; simp
  have h8 : W.heap[w.heap.size]? = some (.cells (cells8 p0 p1 p2 p3 p4 p5 p6 p7) 22 (0, 0)) := by rw [← hW]; exact heap_alloc_new w _
  have H8 := Lib.hid h8
  clear h8
  have hlen : [p0, p1, p2, p3, p4, p5, p6, p7].length = 8 := rfl
  generalize [p0, p1, p2, p3, p4, p5, p6, p7] = p at hcell hlen kM kR ⊢
  cases hm : mayS p with
  | false =>
    rw [hm] at kM
    have e : showS p = [] := by unfold showS; rw [hm]; rfl
    rw [e]
    have HM := Lib.hid (kM W)
    clear hm e kM kR
    go_enter Tryz.func48, Tryz.ntmps48
    go_wp2_with (refine wpList_load_row rfl 22 (.tmp 1) rfl w.heap.size rfl 22 (cells8 p0 p1 p2 p3 p4 p5 p6 p7) (0, 0) _ H8.out Tryz.underlying22 rfl (by kernel_rfl) ?_)
    with_reducible refine Calls.mono HM.out ?_
    rintro e w1 ⟨rfl, h1⟩
    go_wp2_with fail
    go_ret
    exact ⟨rfl, hbl.trans (h1.mono hbl.size)⟩
  | true =>
    rw [hm] at kM
    have hall := rshow_all p hlen hm
    have hbd := runOf_bd p hlen
    have hrl := fun at' long i hi => rshow_len p hm at' long i hi
    have hmi := mayS_iff p hm
    generalize runOf p = r at kR hall hbd
    obtain ⟨a, l⟩ := r
    simp only at kR hall hbd
    have HM := Lib.hid (kM W)
    have HR := Lib.hid kR
    have HA := Lib.hid (And.intro hall (And.intro hrl (And.intro hmi hlen)))
    have HC := Lib.hid hcell
    clear kM kR hall hrl hmi hlen hcell hm
    go_enter Tryz.func48, Tryz.ntmps48
    go_wp2_with (refine wpList_load_row rfl 22 (.tmp 1) rfl w.heap.size rfl 22 (cells8 p0 p1 p2 p3 p4 p5 p6 p7) (0, 0) _ H8.out Tryz.underlying22 rfl (by kernel_rfl) ?_)
    with_reducible refine Calls.mono HM.out ?_
    rintro e w1 ⟨rfl, h1⟩
    have H81 := Lib.hid ((h1.block _ hsz).trans H8.out)
    go_wp2_with (refine wpList_load_row rfl 22 (.tmp 1) rfl w.heap.size rfl 22 (cells8 p0 p1 p2 p3 p4 p5 p6 p7) (0, 0) _ H81.out Tryz.underlying22 rfl (by kernel_rfl) ?_)
    with_reducible refine Calls.mono (HR.out _) ?_
    rintro e w2 ⟨rfl, h2⟩
    have hb2 := h1.trans (h2.mono h1.size)
    clear hW h1 h2 HM HR
    go_wp2_with fail
    go_loopw [6, 7] (fun s6 s7 wr => ∃ i : Nat, i ≤ 8 ∧ s7 = .int .i64 i ∧ s6 = .string ⟨(rshow p a l i).toArray⟩ ∧ Below W.heap.size W wr) (fun _ i _ => 8 - (intOf i).toNat)
    case atStart => exact ⟨0, by omega, rfl, rfl, hb2⟩
    case round =>
      obtain ⟨i, hi8, rfl, rfl, hb⟩ := hrel
      by_cases hi : i < 8
      · have hip : i < p.length := by rw [HA.out.2.2.2]; exact hi
        have hlt : decide ((i : Int) < 8) = true := by simp; omega
        have hstep : rshow p a l (i + 1) = stepS a l i (rshow p a l i) (p.getD i 0) := rfl
        have hsl := HA.out.2.1 a l i (by omega)
        have hc := (hb.cell (p := ⟨w.heap.size, i, none⟩) hsz).trans (HC.out i hip)
        have hx := HA.out.2.2.1 i hip
        have hxd : p.getD i 0 = p[i] := by simp [List.getD_eq_getElem?_getD, List.getElem?_eq_getElem hip]
        rw [hxd] at hstep
        generalize p[i] = x at hc hx hstep
        obtain ⟨n, rfl⟩ := Int.eq_ofNat_of_zero_le hx.1
        have hn : n ≤ 65535 := by omega
        have hT := fun Wx => Rtext_any n hn Wx
        have hTl := hexT_len4 n hn
        have HS := Lib.hid hstep
        generalize rshow p a l i = s at hsl HS ⊢
        clear hstep hxd hx hip
        have hwa : IntKind.i64.wrap ((a : Int) + l) = (a : Int) + l := IntWalk.i64_in _ (by omega)
        by_cases hl : 0 < l
        · have d0 : decide ((0 : Int) < l) = true := by simp; omega
          by_cases hia : i = a
          · subst hia
            have HS2 := Lib.hid (HS.out.trans (by unfold stepS; rw [if_pos ⟨hl, rfl⟩] : _ = s ++ [58, 58]))
            have e1 : ((i : Int) == i) = true := by simp
            have e2 : decide ((i : Int) ≤ i) = true := by simp
            have e3 : decide ((i : Int) < (i : Int) + l) = true := by simp; omega
            have k1 := concat_run Tryz.prog s [58, 58] (by simp; omega)
            go_wp2_with fail
            go_roundw
            case rel => exact ⟨i + 1, by omega, by go_num, by rw [HS2.out], hb⟩
            case measure => simp [intOf]; omega
          · have e1 : ((i : Int) == a) = false := by simp; omega
            by_cases hai : a ≤ i
            · have e2 : decide ((a : Int) ≤ i) = true := by simp; omega
              by_cases hil : i < a + l
              · have HS2 := Lib.hid (HS.out.trans (by unfold stepS; rw [if_neg (by omega), if_pos ⟨hl, hai, hil⟩] : _ = s))
                have e3 : decide ((i : Int) < (a : Int) + l) = true := by simp; omega
                go_wp2_with fail
                go_roundw
                case rel => exact ⟨i + 1, by omega, by go_num, by rw [HS2.out], hb⟩
                case measure => simp [intOf]; omega
              · have HS2 := Lib.hid (HS.out.trans (by unfold stepS; rw [if_neg (by omega), if_neg (by omega), Int.toNat_natCast] : _ = (if s ≠ [] ∧ s.getLast? ≠ some 58 then s ++ [58] else s) ++ hexT n))
                have e3 : decide ((i : Int) < (a : Int) + l) = false := by simp; omega
                clear HS
                generalize hexT n = tx at hT hTl HS2
                rcases str_cases s with rfl | ⟨c, hse, hpos, hla, hix⟩
                · have HS3 := Lib.hid (HS2.out.trans (by rw [if_neg (show ¬ (([] : List UInt8) ≠ [] ∧ ([] : List UInt8).getLast? ≠ some 58) by simp), List.nil_append] : (if ([] : List UInt8) ≠ [] ∧ ([] : List UInt8).getLast? ≠ some 58 then [] ++ [58] else []) ++ tx = tx))
                  have k2 := concat_run Tryz.prog [] tx (by simp; omega)
                  go_wp2_with fail
                  with_reducible refine Calls.mono (hT _) ?_
                  rintro e w3 ⟨rfl, h3⟩
                  go_wp2_with fail
                  go_roundw
                  case rel => exact ⟨i + 1, by omega, by go_num, by rw [HS3.out], hb.trans (h3.mono hb.size)⟩
                  case measure => simp [intOf]; omega
                · by_cases hc58 : c = 58
                  · have HS3 := Lib.hid (HS2.out.trans (by rw [if_neg (show ¬ (s ≠ [] ∧ s.getLast? ≠ some 58) by rw [hla, hc58]; exact fun h => h.2 rfl)] : (if s ≠ [] ∧ s.getLast? ≠ some 58 then s ++ [58] else s) ++ tx = s ++ tx))
                    have hcb : ((c.toNat : Int) != 58) = false := by rw [hc58]; decide
                    have k2 := concat_run Tryz.prog s tx (by omega)
                    go_wp2_with fail
                    with_reducible refine Calls.mono (hT _) ?_
                    rintro e w3 ⟨rfl, h3⟩
                    go_wp2_with fail
                    go_roundw
                    case rel => exact ⟨i + 1, by omega, by go_num, by rw [HS3.out], hb.trans (h3.mono hb.size)⟩
                    case measure => simp [intOf]; omega
                  · have HS3 := Lib.hid (HS2.out.trans (by rw [if_pos (show s ≠ [] ∧ s.getLast? ≠ some 58 from ⟨(by intro e; rw [e] at hse; cases hse), (by rw [hla]; simpa using hc58)⟩)]; simp : (if s ≠ [] ∧ s.getLast? ≠ some 58 then s ++ [58] else s) ++ tx = s ++ 58 :: tx))
                    have hcb : ((c.toNat : Int) != 58) = true := by
                      have : c.toNat ≠ 58 := fun e => hc58 (UInt8.toNat_inj.1 (by rw [e]; rfl))
                      simp; omega
                    have k1 := concat_run Tryz.prog s [58] (by simp; omega)
                    have k2 := concat_run Tryz.prog (s ++ [58]) tx (by simp; omega)
                    go_wp2_with fail
                    with_reducible refine Calls.mono (hT _) ?_
                    rintro e w3 ⟨rfl, h3⟩
                    go_wp2_with fail
                    go_roundw
                    case rel => exact ⟨i + 1, by omega, by go_num, by rw [HS3.out], hb.trans (h3.mono hb.size)⟩
                    case measure => simp [intOf]; omega
            · have HS2 := Lib.hid (HS.out.trans (by unfold stepS; rw [if_neg (by omega), if_neg (by omega), Int.toNat_natCast] : _ = (if s ≠ [] ∧ s.getLast? ≠ some 58 then s ++ [58] else s) ++ hexT n))
              have e2 : decide ((a : Int) ≤ i) = false := by simp; omega
              clear HS
              generalize hexT n = tx at hT hTl HS2
              rcases str_cases s with rfl | ⟨c, hse, hpos, hla, hix⟩
              · have HS3 := Lib.hid (HS2.out.trans (by rw [if_neg (show ¬ (([] : List UInt8) ≠ [] ∧ ([] : List UInt8).getLast? ≠ some 58) by simp), List.nil_append] : (if ([] : List UInt8) ≠ [] ∧ ([] : List UInt8).getLast? ≠ some 58 then [] ++ [58] else []) ++ tx = tx))
                have k2 := concat_run Tryz.prog [] tx (by simp; omega)
                go_wp2_with fail
                with_reducible refine Calls.mono (hT _) ?_
                rintro e w3 ⟨rfl, h3⟩
                go_wp2_with fail
                go_roundw
                case rel => exact ⟨i + 1, by omega, by go_num, by rw [HS3.out], hb.trans (h3.mono hb.size)⟩
                case measure => simp [intOf]; omega
              · by_cases hc58 : c = 58
                · have HS3 := Lib.hid (HS2.out.trans (by rw [if_neg (show ¬ (s ≠ [] ∧ s.getLast? ≠ some 58) by rw [hla, hc58]; exact fun h => h.2 rfl)] : (if s ≠ [] ∧ s.getLast? ≠ some 58 then s ++ [58] else s) ++ tx = s ++ tx))
                  have hcb : ((c.toNat : Int) != 58) = false := by rw [hc58]; decide
                  have k2 := concat_run Tryz.prog s tx (by omega)
                  go_wp2_with fail
                  with_reducible refine Calls.mono (hT _) ?_
                  rintro e w3 ⟨rfl, h3⟩
                  go_wp2_with fail
                  go_roundw
                  case rel => exact ⟨i + 1, by omega, by go_num, by rw [HS3.out], hb.trans (h3.mono hb.size)⟩
                  case measure => simp [intOf]; omega
                · have HS3 := Lib.hid (HS2.out.trans (by rw [if_pos (show s ≠ [] ∧ s.getLast? ≠ some 58 from ⟨(by intro e; rw [e] at hse; cases hse), (by rw [hla]; simpa using hc58)⟩)]; simp : (if s ≠ [] ∧ s.getLast? ≠ some 58 then s ++ [58] else s) ++ tx = s ++ 58 :: tx))
                  have hcb : ((c.toNat : Int) != 58) = true := by
                    have : c.toNat ≠ 58 := fun e => hc58 (UInt8.toNat_inj.1 (by rw [e]; rfl))
                    simp; omega
                  have k1 := concat_run Tryz.prog s [58] (by simp; omega)
                  have k2 := concat_run Tryz.prog (s ++ [58]) tx (by simp; omega)
                  go_wp2_with fail
                  with_reducible refine Calls.mono (hT _) ?_
                  rintro e w3 ⟨rfl, h3⟩
                  go_wp2_with fail
                  go_roundw
                  case rel => exact ⟨i + 1, by omega, by go_num, by rw [HS3.out], hb.trans (h3.mono hb.size)⟩
                  case measure => simp [intOf]; omega
        · have d0 : decide ((0 : Int) < l) = false := by simp; omega
          have HS2 := Lib.hid (HS.out.trans (by unfold stepS; rw [if_neg (by omega), if_neg (by omega), Int.toNat_natCast] : _ = (if s ≠ [] ∧ s.getLast? ≠ some 58 then s ++ [58] else s) ++ hexT n))
          clear HS
          generalize hexT n = tx at hT hTl HS2
          rcases str_cases s with rfl | ⟨c, hse, hpos, hla, hix⟩
          · have HS3 := Lib.hid (HS2.out.trans (by rw [if_neg (show ¬ (([] : List UInt8) ≠ [] ∧ ([] : List UInt8).getLast? ≠ some 58) by simp), List.nil_append] : (if ([] : List UInt8) ≠ [] ∧ ([] : List UInt8).getLast? ≠ some 58 then [] ++ [58] else []) ++ tx = tx))
            have k2 := concat_run Tryz.prog [] tx (by simp; omega)
            go_wp2_with fail
            with_reducible refine Calls.mono (hT _) ?_
            rintro e w3 ⟨rfl, h3⟩
            go_wp2_with fail
            go_roundw
            case rel => exact ⟨i + 1, by omega, by go_num, by rw [HS3.out], hb.trans (h3.mono hb.size)⟩
            case measure => simp [intOf]; omega
          · by_cases hc58 : c = 58
            · have HS3 := Lib.hid (HS2.out.trans (by rw [if_neg (show ¬ (s ≠ [] ∧ s.getLast? ≠ some 58) by rw [hla, hc58]; exact fun h => h.2 rfl)] : (if s ≠ [] ∧ s.getLast? ≠ some 58 then s ++ [58] else s) ++ tx = s ++ tx))
              have hcb : ((c.toNat : Int) != 58) = false := by rw [hc58]; decide
              have k2 := concat_run Tryz.prog s tx (by omega)
              go_wp2_with fail
              with_reducible refine Calls.mono (hT _) ?_
              rintro e w3 ⟨rfl, h3⟩
              go_wp2_with fail
              go_roundw
              case rel => exact ⟨i + 1, by omega, by go_num, by rw [HS3.out], hb.trans (h3.mono hb.size)⟩
              case measure => simp [intOf]; omega
            · have HS3 := Lib.hid (HS2.out.trans (by rw [if_pos (show s ≠ [] ∧ s.getLast? ≠ some 58 from ⟨(by intro e; rw [e] at hse; cases hse), (by rw [hla]; simpa using hc58)⟩)]; simp : (if s ≠ [] ∧ s.getLast? ≠ some 58 then s ++ [58] else s) ++ tx = s ++ 58 :: tx))
              have hcb : ((c.toNat : Int) != 58) = true := by
                have : c.toNat ≠ 58 := fun e => hc58 (UInt8.toNat_inj.1 (by rw [e]; rfl))
                simp; omega
              have k1 := concat_run Tryz.prog s [58] (by simp; omega)
              have k2 := concat_run Tryz.prog (s ++ [58]) tx (by simp; omega)
              go_wp2_with fail
              with_reducible refine Calls.mono (hT _) ?_
              rintro e w3 ⟨rfl, h3⟩
              go_wp2_with fail
              go_roundw
              case rel => exact ⟨i + 1, by omega, by go_num, by rw [HS3.out], hb.trans (h3.mono hb.size)⟩
              case measure => simp [intOf]; omega
      · obtain rfl : i = 8 := by omega
        go_wp2_with fail
        go_ret
        exact ⟨by rw [HA.out.1]; rfl, hbl.trans (hb.mono hbl.size)⟩
end Go.Proofs.YtkmoakfphfakoaaGreat
