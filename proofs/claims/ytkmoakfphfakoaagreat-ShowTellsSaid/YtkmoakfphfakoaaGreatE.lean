/-
  Walks, part E: six.
-/
import Derived.Test.YtkmoakfphfakoaaGreatD
import Derived.Test.YtkmoakfphfakoaaGreatQ
import Derived.Deep.LoopGhost
namespace Go.Proofs.YtkmoakfphfakoaaGreat
open Go.RowKit

theorem and_15 (n : Int) : bits .and .i64 n 15 = n % 16 := by
  show IntKind.wrap .i64 ((BitVec.ofInt 64 n &&& BitVec.ofInt 64 15).toNat : Int) = n % 16
  have h1 : (BitVec.ofInt 64 n &&& BitVec.ofInt 64 15).toNat = (n % 18446744073709551616).toNat % 16 := by
    rw [BitVec.toNat_and, BitVec.toNat_ofInt, BitVec.toNat_ofInt]
    exact Nat.and_two_pow_sub_one_eq_mod _ 4
  rw [h1]
  simp only [IntKind.wrap, IntKind.bits, IntKind.signed]
  simp
  omega
theorem and_255 (n : Int) : bits .and .i64 n 255 = n % 256 := by
  show IntKind.wrap .i64 ((BitVec.ofInt 64 n &&& BitVec.ofInt 64 255).toNat : Int) = n % 256
  have h1 : (BitVec.ofInt 64 n &&& BitVec.ofInt 64 255).toNat = (n % 18446744073709551616).toNat % 256 := by
    rw [BitVec.toNat_and, BitVec.toNat_ofInt, BitVec.toNat_ofInt]
    exact Nat.and_two_pow_sub_one_eq_mod _ 8
  rw [h1]
  simp only [IntKind.wrap, IntKind.bits, IntKind.signed]
  simp
  omega
theorem and_65535 (n : Int) : bits .and .i64 n 65535 = n % 65536 := by
  show IntKind.wrap .i64 ((BitVec.ofInt 64 n &&& BitVec.ofInt 64 65535).toNat : Int) = n % 65536
  have h1 : (BitVec.ofInt 64 n &&& BitVec.ofInt 64 65535).toNat = (n % 18446744073709551616).toNat % 65536 := by
    rw [BitVec.toNat_and, BitVec.toNat_ofInt, BitVec.toNat_ofInt]
    exact Nat.and_two_pow_sub_one_eq_mod _ 16
  rw [h1]
  simp only [IntKind.wrap, IntKind.bits, IntKind.signed]
  simp
  omega

theorem hex_slice (d : Nat) (h : d < 16) (w : World) : (Instr.slice 9 (.string ⟨#[48, 49, 50, 51, 52, 53, 54, 55, 56, 57, 97, 98, 99, 100, 101, 102]⟩) (some (.int .i64 d)) (some (.int .i64 ((d : Int) + 1))) none).run Tryz.prog w = .ok (.string ⟨#[hexd d]⟩) w := by
  obtain rfl | rfl | rfl | rfl | rfl | rfl | rfl | rfl | rfl | rfl | rfl | rfl | rfl | rfl | rfl | rfl : d = 0 ∨ d = 1 ∨ d = 2 ∨ d = 3 ∨ d = 4 ∨ d = 5 ∨ d = 6 ∨ d = 7 ∨ d = 8 ∨ d = 9 ∨ d = 10 ∨ d = 11 ∨ d = 12 ∨ d = 13 ∨ d = 14 ∨ d = 15 := by omega
  all_goals kernel_rfl

theorem text_any (n : Nat) : ∀ (w : World), n ≤ 65535 →
    Calls Tryz.prog 142 #[.int .i64 n] w fun e w' => e = .returned (.string ⟨(hexT n).toArray⟩) ∧ w = w' := by
  induction n using Nat.strongRecOn with
  | ind n ih =>
    intro w hn
    by_cases h1 : 15 < n
    · have hb : bits .and .i64 (n : Int) 15 = ((n % 16 : Nat) : Int) := (and_15 n).trans (by omega)
      have hs := hex_slice (n % 16) (by omega)
      have hr := ih (n / 16) (by omega) w (by omega)
      have ht : hexT n = hexT (n / 16) ++ [hexd (n % 16)] := by rw [hexT]; simp [h1]
      have HT := Lib.hid ht; clear ht
      obtain ⟨d, hd⟩ : ∃ d, n % 16 = d := ⟨_, rfl⟩
      have hd16 : d < 16 := by omega
      obtain ⟨q, hq⟩ : ∃ q, n / 16 = q := ⟨_, rfl⟩
      have hsh : (n : Int) / 16 = (q : Int) := by omega
      rw [hd] at hb hs HT
      rw [hq] at hr HT
      have hlen := hexT_len q
      have HR := Lib.hid hr; clear hr ih hd hq
      go_enter Tryz.func142, Tryz.ntmps142
      go_wp2_with fail
      refine Calls.mono HR.out ?_
      rintro e w' ⟨rfl, rfl⟩
      go_wp2_with fail
      go_ret
      exact ⟨by rw [HT.out]; rfl, rfl⟩
    · have hb : bits .and .i64 (n : Int) 15 = (n : Int) := (and_15 n).trans (by omega)
      have hs := hex_slice n (by omega)
      have ht : hexT n = [hexd n] := by rw [hexT]; simp [h1]
      have HT := Lib.hid ht; clear ht
      go_enter Tryz.func142, Tryz.ntmps142
      go_wp2_with fail
      go_ret
      exact ⟨by rw [HT.out]; rfl, rfl⟩

theorem infoStr : (Tryz.prog.info? 9).map (fun i => (i.zero, i.size, i.bytes)) = some (some (.string ⟨#[]⟩), 1, 16) := by kernel_rfl

/-- strings.Join on a row of one's own. -/
theorem join_own (B : Nat) (v : Value) (ss : List (List UInt8)) (sep : List UInt8) (w : World) (hown : w.ownsRow B 9 1 v ss.length (ss.map fun l => Value.string ⟨l.toArray⟩))
    (hlen : (Lib.join ss sep).length ≤ 140737488355328) (hN : ss.length ≤ 140737488355328) :
    Calls Tryz.prog 87 #[v, .string ⟨sep.toArray⟩] w fun e w' => e = .returned (.string ⟨(Lib.join ss sep).toArray⟩) ∧ Below w.heap.size w w' := by
  rcases hown.2 with ⟨rfl, h0⟩ | ⟨g, cap, cur, rfl, hbg, hg, hnc, _⟩
  · obtain rfl : ss = [] := List.eq_nil_of_length_eq_zero h0
    exact (Tryz.strings_Join_none none 0 _ w).mono fun e w' ⟨he, hw⟩ => ⟨he, hw ▸ Below.refl _ _⟩
  · have hlt := (hown.lt g rfl).2
    have hc := hown.cells (g := g) rfl
    have key := Tryz.strings_Join g 0 cap (ss.map fun l => ⟨l.toArray⟩) ⟨sep.toArray⟩ w (fun j x hj => by
      have := hc j (.string x) (by rw [List.getElem?_map] at hj ⊢; revert hj; cases ss[j]? <;> simp)
      simpa [Addr.add_lit] using this) hlt (by simpa using hN) (by simpa using hnc) (by simpa [List.map_map, Function.comp_def] using hlen)
    simpa [List.map_map, Function.comp_def] using key

set_option maxHeartbeats 1000000 in
theorem join_any (xs : List Nat) (b o c : Nat) (w : World) (hb : b < w.heap.size) (hc : ∀ (j : Nat) (h : j < xs.length), w.cell? ⟨b, o + j, none⟩ = some (.int .i64 (xs[j] : Nat)))
    (hx : ∀ (j : Nat) (h : j < xs.length), xs[j] ≤ 65535) (hn : xs.length ≤ 8) :
    Calls Tryz.prog 141 #[.slice (some ⟨b, o, none⟩) xs.length c] w fun e w' => e = .returned (.string ⟨(Lib.join (xs.map hexT) [58]).toArray⟩) ∧ Below w.heap.size w w' := by
  have HC := Lib.hid hc; clear hc
  have HX := Lib.hid hx; clear hx
  obtain ⟨i0, hi, hz0, hz1, hz2⟩ := info_parts infoStr
  go_enter Tryz.func141, Tryz.ntmps141
  go_wp2_with fail
  go_loopw [3, 8] (fun v i wr => ∃ k : Nat, k ≤ xs.length ∧ i = .int .i64 k ∧ wr.ownsRow w.heap.size 9 1 v k (((xs.take k).map hexT).map fun l => Value.string ⟨l.toArray⟩) ∧ Below w.heap.size w wr) (fun _ i _ => xs.length - (intOf i).toNat)
  case atStart => exact ⟨0, Nat.zero_le _, rfl, World.ownsRow_nil _ _ _ _, Below.refl _ _⟩
  case round =>
    obtain ⟨k, hk, rfl, hown, hbl⟩ := hrel
    by_cases hlt : k < xs.length
    · have hcell : wr.cell? ⟨b, o + k, none⟩ = some (.int .i64 (xs[k] : Nat)) := (hbl.cell (p := ⟨b, o + k, none⟩) hb).trans (HC.out k hlt)
      have hsz := hbl.size
      have key := text_any xs[k] wr (HX.out k hlt)
      have HT := Lib.hid (List.take_succ_eq_append_getElem hlt)
      obtain ⟨x, hxx⟩ : ∃ x, xs[k] = x := ⟨_, rfl⟩
      rw [hxx] at hcell key HT
      clear hxx
      go_wp2_with fail
      refine Calls.mono key ?_
      rintro e w1 ⟨rfl, rfl⟩
      go_wp2_with (at_builtin; refine wpList_append_own _ rfl _ _ 25 rfl w.heap.size 9 i0 (.string ⟨#[]⟩) 1 16 Tryz.underlying25 hi hz0 hz1 hz2 rfl (by decide) _ _ _ rfl (hown.alloc _) ⟨wr.heap.size, 0, none⟩ 1 1 [.string ⟨(hexT x).toArray⟩] rfl rfl ?c1 ?c2 ?c3 ?c4 ?c5 ?_)
      case c1 =>
        intro j u hj
        match j, hj with
        | 0, hj => simp at hj; subst hj; simp [Addr.add]
      case c2 => intro u hu; simp at hu; subst hu; rfl
      case c3 => unfold maxLen; omega
      case c4 => omega
      case c5 => simp; omega
      intro v' w2 hown' hgrow _
      have hl := hown.lt
      go_wp2_with fail
      go_roundw
      case rel =>
        refine ⟨k + 1, by omega, by go_num, ?_, (hbl.alloc hsz _).grown hgrow (by simp; omega) (fun q hq => (hl q hq).1)⟩
        rw [HT.out]
        simpa using hown'
      case measure => simp [intOf]; omega
    · obtain rfl : k = xs.length := by omega
      have hl8 : (Lib.join (xs.map hexT) [58]).length ≤ 140737488355328 := by
        have := join_len (xs.map hexT) [58] 4 (fun y hy => by
          obtain ⟨x, hm, rfl⟩ := List.mem_map.1 hy
          obtain ⟨j, hj, rfl⟩ := List.getElem_of_mem hm
          exact hexT_len4 _ (HX.out j hj))
        simp at this
        omega
      go_wp2_with fail
      refine Calls.mono (join_own w.heap.size _ (xs.map hexT) [58] _ (by simpa using hown) hl8 (by simp; omega)) ?_
      rintro e w1 ⟨rfl, hb1⟩
      have hsz := hbl.size
      go_wp2_with fail
      go_ret
      exact ⟨rfl, hbl.trans (hb1.mono hsz)⟩

theorem arr8 : Tryz.prog.arrayLen 22 = 8 := by kernel_rfl
theorem arr8e : Tryz.prog.elem 22 = 3 := by kernel_rfl
theorem arr8u : Tryz.prog.underlying 22 = some (.array (Tryz.prog.arrayLen 22) (Tryz.prog.elem 22)) := by kernel_rfl
theorem size3 (w : World) : (sizeOf (Tryz.prog.elem 22)).run Tryz.prog w = .ok 1 w := by kernel_rfl
theorem slice_from (b i : Nat) (hi : i < 8) (W : World) : (Instr.sliceAt 22 (.pointer (some ⟨b, 0, none⟩)) (some (.int .i64 i)) none none).run Tryz.prog W = .ok (.slice (some ⟨b, i, none⟩) (8 - i) (8 - i)) W := by
  rw [run_sliceAt_array_l W 22 ⟨b, 0, none⟩ arr8u .i64 i (by omega) (by rw [arr8]; omega), size3]
  have : ¬ 8 = i := by omega
  simp [Result.andThen, slicedAt, arr8, this, Addr.add]
  intro h; exact h.symm

set_option maxHeartbeats 2000000 in
set_option maxRecDepth 100000 in
theorem Run_any (p0 p1 p2 p3 p4 p5 p6 p7 : Int) (w : World) :
    Calls Tryz.prog 140 #[.agg #[.int .i64 p0, .int .i64 p1, .int .i64 p2, .int .i64 p3, .int .i64 p4, .int .i64 p5, .int .i64 p6, .int .i64 p7]] w fun e w' =>
      e = .returned (.tuple #[.int .i64 (runOf [p0, p1, p2, p3, p4, p5, p6, p7]).1, .int .i64 (runOf [p0, p1, p2, p3, p4, p5, p6, p7]).2]) ∧ Below w.heap.size w w' := by
  obtain ⟨p, hp⟩ : ∃ p, [p0, p1, p2, p3, p4, p5, p6, p7] = p := ⟨_, rfl⟩
  have hlen : p.length = 8 := by rw [← hp]; rfl
  have hcell : ∀ (j : Nat) (h : j < p.length), (w.alloc (.cells #[.int .i64 p0, .int .i64 p1, .int .i64 p2, .int .i64 p3, .int .i64 p4, .int .i64 p5, .int .i64 p6, .int .i64 p7] 22)).cell? ⟨w.heap.size, j, none⟩ = some (.int .i64 p[j]) := by
    intro j h
    subst hp
    rw [Lib.cell_of_heap (b := w.heap.size) (fr := (0, 0)) (by show (w.heap.push _)[w.heap.size]? = _; exact Array.getElem?_push_size)]
    match j, h with
    | 0, _ | 1, _ | 2, _ | 3, _ | 4, _ | 5, _ | 6, _ | 7, _ => rfl
  rw [hp]
  have HL := Lib.hid hlen; clear hlen hp
  go_enter Tryz.func140, Tryz.ntmps140
  go_wp2_with fail
  go_step3
  go_wp2_with fail
  go_step3
  go_wp2_with fail
  obtain ⟨W, hW⟩ : ∃ W, w.alloc (.cells #[.int .i64 p0, .int .i64 p1, .int .i64 p2, .int .i64 p3, .int .i64 p4, .int .i64 p5, .int .i64 p6, .int .i64 p7] 22) = W := ⟨_, rfl⟩
  rw [hW] at hcell ⊢
  have hbl : Below w.heap.size w W := by rw [← hW]; exact (Below.refl _ _).alloc (Nat.le_refl _) _
  have HC := Lib.hid hcell; clear hcell
  have HW := Lib.hid hW; clear hW
  go_loopg [4, 5, 10] 8 (fun g s4 s5 s10 wx => ∃ i : Nat, i + g = 8 ∧ s10 = .int .i64 i ∧ s4 = .int .i64 (runs p i).1 ∧ s5 = .int .i64 (runs p i).2 ∧ W = wx)
  case atStart => exact ⟨0, by omega, rfl, rfl, rfl, rfl⟩
  case round =>
    obtain ⟨i, hig, rfl, rfl, rfl, rfl⟩ := hrel
    have hbd := runs_bd p HL.out i (by omega)
    have HR := Lib.hid (show runs p (i + 1) = if (runs p i).2 < lz (p.drop i) then (i, lz (p.drop i)) else runs p i from rfl)
    obtain ⟨r, hr⟩ : ∃ r, runs p i = r := ⟨_, rfl⟩
    rw [hr] at hbd HR ⊢
    have HV := Lib.hid hr; clear hr
    obtain ⟨a, l⟩ := r
    obtain ⟨hb1, hb2, hb3, hb4⟩ := hbd
    simp only at hb1 hb2 hb3 hb4 ⊢
    by_cases hi : i < 8
    · have hsl := slice_from w.heap.size i hi
      go_wp2_with fail
      clear hsl
      go_loopg [7, 16] (8 - i) (fun g2 s7 s16 wy => ∃ j : Nat, j + g2 = 8 - i ∧ s16 = .int .i64 j ∧ s7 = .int .i64 j ∧ Hid (∀ (q : Nat) (h : q < p.length), i ≤ q → q < i + j → p[q] = 0) ∧ W = wy)
      case atStart => exact ⟨0, by omega, rfl, rfl, fun q h h1 h2 => by omega, rfl⟩
      case round =>
        obtain ⟨j, hjg, rfl, rfl, hz, rfl⟩ := hrel
        by_cases hj : j < 8 - i
        · have hij : i + j < p.length := by rw [HL.out]; omega
          have hcell := HC.out (i + j) hij
          have HP : Hid (∃ h : i + j < p.length, p[i + j] = p[i + j]) := ⟨hij, rfl⟩
          obtain ⟨x, hx⟩ : ∃ x, p[i + j] = x := ⟨_, rfl⟩
          rw [hx] at hcell
          have HX := Lib.hid hx; clear hx
          cases hx0 : ((x : Int) == 0)
          · have hx1 : (x != 0) = true := by simpa using hx0
            have hlz : lz (p.drop i) = j := lz_of _ _ (by simp; omega) (fun q hq => by simpa using hz.out (i + q) (by omega) (by omega) (by omega)) (by simp [HX.out]; simpa using hx0)
            have HR2 := HR.out
            rw [hlz] at HR2
            have HR2 := Lib.hid HR2
            by_cases hjl : j ≤ l
            · go_wp2_with fail
              go_roundg (7 - i)
              case measure => omega
              case rel =>
                have e : runs p (i + 1) = (a, l) := by rw [HR2.out]; simp; omega
                exact ⟨i + 1, by omega, by go_num, by rw [e], by rw [e], rfl⟩
            · go_wp2_with fail
              go_roundg (7 - i)
              case measure => omega
              case rel =>
                have e : runs p (i + 1) = (i, j) := by rw [HR2.out]; simp; omega
                exact ⟨i + 1, by omega, by go_num, by rw [e], by rw [e], rfl⟩
          · have hx1 : (x != 0) = false := by simpa using hx0
            have hx2 : x = 0 := by simpa using hx0
            have HX2 := Lib.hid hx2; clear hx2
            go_wp2_with fail
            go_roundg (8 - i - (j + 1))
            case measure => omega
            case rel =>
              refine ⟨j + 1, by omega, by go_num, by go_num, fun q h h1 h2 => ?_, rfl⟩
              by_cases hq : q = i + j
              · subst hq; rw [HX.out, HX2.out]
              · exact hz.out q h h1 (by omega)
        · obtain rfl : j = 8 - i := by omega
          have hlz : lz (p.drop i) = 8 - i := by
            have h0 := HL.out
            have h1 := lz_all (p.drop i) (fun q hq => by simpa using hz.out (i + q) (by simp at hq; omega) (by omega) (by simp at hq; omega))
            rw [h1]; simp; omega
          have HR2 := HR.out
          rw [hlz] at HR2
          have HR2 := Lib.hid HR2
          clear hlz
          by_cases hjl : 8 - i ≤ l
          · go_wp2_with fail
            go_roundg (7 - i)
            case measure => omega
            case rel =>
              have e : runs p (i + 1) = (a, l) := by rw [HR2.out]; simp; omega
              exact ⟨i + 1, by omega, by go_num, by rw [e], by rw [e], rfl⟩
          · go_wp2_with fail
            go_roundg (7 - i)
            case measure => omega
            case rel =>
              have e : runs p (i + 1) = (i, 8 - i) := by rw [HR2.out]; simp; omega
              exact ⟨i + 1, by omega, by go_num, by rw [e], by rw [e], rfl⟩
    · obtain rfl : i = 8 := by omega
      by_cases hl : l < 2
      · go_wp2_with fail
        try rw [Exit.noGoto_ret]
        go_ret2
        have e : runOf p = (0, 0) := by simp [runOf, HV.out, hl]
        exact ⟨by rw [e]; rfl, hbl⟩
      · go_wp2_with fail
        try rw [Exit.noGoto_ret]
        go_ret2
        have e : runOf p = (a, l) := by simp [runOf, HV.out, hl]
        exact ⟨by rw [e]; rfl, hbl⟩

set_option maxHeartbeats 2000000 in
set_option maxRecDepth 100000 in
theorem May6_any (p0 p1 p2 p3 p4 p5 p6 p7 : Int) (w : World) :
    Calls Tryz.prog 64 #[.agg #[.int .i64 p0, .int .i64 p1, .int .i64 p2, .int .i64 p3, .int .i64 p4, .int .i64 p5, .int .i64 p6, .int .i64 p7]] w fun e w' =>
      e = .returned (.bool (mayS [p0, p1, p2, p3, p4, p5, p6, p7])) ∧ Below w.heap.size w w' := by
  have x0 : ∀ w, (Instr.index 22 (.agg #[.int .i64 p0, .int .i64 p1, .int .i64 p2, .int .i64 p3, .int .i64 p4, .int .i64 p5, .int .i64 p6, .int .i64 p7]) (.int .i64 0)).run Tryz.prog w = .ok (.int .i64 p0) w := fun _ => by kernel_rfl
  have x1 : ∀ w, (Instr.index 22 (.agg #[.int .i64 p0, .int .i64 p1, .int .i64 p2, .int .i64 p3, .int .i64 p4, .int .i64 p5, .int .i64 p6, .int .i64 p7]) (.int .i64 1)).run Tryz.prog w = .ok (.int .i64 p1) w := fun _ => by kernel_rfl
  have x2 : ∀ w, (Instr.index 22 (.agg #[.int .i64 p0, .int .i64 p1, .int .i64 p2, .int .i64 p3, .int .i64 p4, .int .i64 p5, .int .i64 p6, .int .i64 p7]) (.int .i64 2)).run Tryz.prog w = .ok (.int .i64 p2) w := fun _ => by kernel_rfl
  have x3 : ∀ w, (Instr.index 22 (.agg #[.int .i64 p0, .int .i64 p1, .int .i64 p2, .int .i64 p3, .int .i64 p4, .int .i64 p5, .int .i64 p6, .int .i64 p7]) (.int .i64 3)).run Tryz.prog w = .ok (.int .i64 p3) w := fun _ => by kernel_rfl
  have x4 : ∀ w, (Instr.index 22 (.agg #[.int .i64 p0, .int .i64 p1, .int .i64 p2, .int .i64 p3, .int .i64 p4, .int .i64 p5, .int .i64 p6, .int .i64 p7]) (.int .i64 4)).run Tryz.prog w = .ok (.int .i64 p4) w := fun _ => by kernel_rfl
  have x5 : ∀ w, (Instr.index 22 (.agg #[.int .i64 p0, .int .i64 p1, .int .i64 p2, .int .i64 p3, .int .i64 p4, .int .i64 p5, .int .i64 p6, .int .i64 p7]) (.int .i64 5)).run Tryz.prog w = .ok (.int .i64 p5) w := fun _ => by kernel_rfl
  have x6 : ∀ w, (Instr.index 22 (.agg #[.int .i64 p0, .int .i64 p1, .int .i64 p2, .int .i64 p3, .int .i64 p4, .int .i64 p5, .int .i64 p6, .int .i64 p7]) (.int .i64 6)).run Tryz.prog w = .ok (.int .i64 p6) w := fun _ => by kernel_rfl
  have x7 : ∀ w, (Instr.index 22 (.agg #[.int .i64 p0, .int .i64 p1, .int .i64 p2, .int .i64 p3, .int .i64 p4, .int .i64 p5, .int .i64 p6, .int .i64 p7]) (.int .i64 7)).run Tryz.prog w = .ok (.int .i64 p7) w := fun _ => by kernel_rfl
  have m0 := and_65535 p0
  have m1 := and_65535 p1
  have m2 := and_65535 p2
  have m3 := and_65535 p3
  have m4 := and_65535 p4
  have m5 := and_65535 p5
  have m6 := and_65535 p6
  have m7 := and_65535 p7
  go_enter Tryz.func64, Tryz.ntmps64
  go_wp2_with fail
  refine wp_loop_rounds 9 ?_
  rw [rounds_succ]
  go_wp2_with fail
  rw [rounds_succ]
  go_wp2_with fail
  rw [rounds_succ]
  go_wp2_with fail
  rw [rounds_succ]
  go_wp2_with fail
  rw [rounds_succ]
  go_wp2_with fail
  rw [rounds_succ]
  go_wp2_with fail
  rw [rounds_succ]
  go_wp2_with fail
  rw [rounds_succ]
  go_wp2_with fail
  rw [rounds_succ]
  go_wp2_with fail
  go_ret
  refine ⟨?_, ((Below.refl _ w).alloc (Nat.le_refl _) _).alloc (by simp) _⟩
  have e : mayS [p0, p1, p2, p3, p4, p5, p6, p7] = eq8 (p0 % 65536) (p1 % 65536) (p2 % 65536) (p3 % 65536) (p4 % 65536) (p5 % 65536) (p6 % 65536) (p7 % 65536) p0 p1 p2 p3 p4 p5 p6 p7 := by
    have h : ∀ x : Int, (x % 65536 == x) = (decide (0 ≤ x) && decide (x ≤ 65535)) := fun x => by
      rw [Bool.eq_iff_iff]; simp; omega
    simp [mayS, eq8, h, Bool.and_assoc]
  rw [e]; rfl
end Go.Proofs.YtkmoakfphfakoaaGreat
