/-
  Walks, part G: deci.Show of a number that is not below 0.
-/
import Derived.Test.YtkmoakfphfakoaaGreatE
import Derived.ScopeJumps
import Derived.WalkMore
import Derived.RegionTactic
namespace Go.Proofs.YtkmoakfphfakoaaGreat
open Go.RowKit

theorem last_any (m b : Nat) (w : World) (hm : m ≤ 9223372036854775807) (hc : w.cell? ⟨b, 0, none⟩ = some (.int .i64 m)) (hf : w.frozen? ⟨b, 0, none⟩ = false) :
    Calls Tryz.prog 46 #[.pointer (some ⟨b, 0, none⟩)] w fun e w' => e = .returned (.int .u8 (dig m).toNat) ∧ w' = w.setCell ⟨b, 0, none⟩ (.int .i64 (m / 10 : Nat)) := by
  have hd := dig_toNat m
  have h0 : ¬ ((m : Int) % 10 < 0) := by omega
  have HD := Lib.hid hd; clear hd
  go_enter Tryz.func46, Tryz.ntmps46
  go_wp2
  go_ret
  exact ⟨by rw [HD.out]; simp, by simp⟩

/-- The number in a box. -/
def boxOf (b : Nat) (w : World) : Nat := match w.cell? ⟨b, 0, none⟩ with | some (.int _ q) => q.toNat | _ => 0
theorem boxOf_eq {b : Nat} {w : World} {k : IntKind} {q : Int} (h : w.cell? ⟨b, 0, none⟩ = some (.int k q)) : boxOf b w = q.toNat := by simp [boxOf, h]

/-- What the goto's rounds keep: the box holds m, the digits so far are xs. -/
def ShowJ (n : Nat) (w : World) (m : Nat) (xs : List UInt8) (v : Value) (w' : World) : Prop :=
  m ≤ n ∧ xs ++ rdec m = rdec n ∧ w'.heap[w.heap.size]? = some (.cells #[.int .i64 m] 3 (0, 0)) ∧ w'.ownsRow (w.heap.size + 1) 5 1 v xs.length (Lib.byteCells xs) ∧ Below w.heap.size w w'

set_option maxHeartbeats 2000000 in
set_option maxRecDepth 100000 in
theorem DShow_any (n : Nat) (w : World) (hn : n ≤ 4294967295) :
    Calls Tryz.prog 29 #[.int .i64 n] w fun e w' => e = .returned (.string ⟨(dec n).toArray⟩) ∧ Below w.heap.size w w' := by
  have hmf := hmf
  obtain ⟨i0, hi, hz0, hz1, hz2⟩ := info_parts infoByte
  have h0 : decide ((n : Int) < 0) = false := by simp
  go_enter Tryz.func29, Tryz.ntmps29
  go_wp2_with fail
  refine wp_scope_jumps 0 (fun a' w' => ∃ (m : Nat) (xs : List UInt8) (v : Value), ShowJ n w m xs v w' ∧ m ≠ 0 ∧ ∃ (u6 u7 u8 u9 u10 u11 u12 u13 u14 u15 u16 u17 u18 u19 u20 u21 u22 u23 u24 u25 u26 u27 u28 u29 u30 u31 u32 u33 u34 u35 u36 u37 u38 u39 u40 u41 u42 u43 u44 u45 u46 u47 : Value), a' = { tmps := #[.int .i64 n, .pointer (some ⟨w.heap.size, 0, none⟩), .string ⟨#[]⟩, v, .func (.func 46) #[] #[.pointer (some ⟨w.heap.size, 0, none⟩)], .bool false, u6, u7, u8, u9, u10, u11, u12, u13, u14, u15, u16, u17, u18, u19, u20, u21, u22, u23, u24, u25, u26, u27, u28, u29, u30, u31, u32, u33, u34, u35, u36, u37, u38, u39, u40, u41, u42, u43, u44, u45, u46, u47], defers := [] }) (fun _ w' => boxOf w.heap.size w') rfl ?_ ?_
  · obtain ⟨xs, hx0⟩ : ∃ xs : List UInt8, [] = xs := ⟨_, rfl⟩
    obtain ⟨m, hm0⟩ : ∃ m, n = m := ⟨_, rfl⟩
    have hJ : ShowJ n w m xs (.slice none 0 0) (w.alloc (.cells #[.int .i64 n] 3)) :=
      ⟨by omega, by rw [← hx0, ← hm0]; rfl, by rw [← hm0]; show (w.heap.push _)[w.heap.size]? = _; simp, by rw [← hx0]; exact World.ownsRow_nil _ _ _ _, (Below.refl _ _).alloc (Nat.le_refl _) _⟩
    clear hm0 hx0
    go_wp2_with fail
    go_step3
    obtain ⟨wr, hWR⟩ : ∃ WR, w.alloc (.cells #[.int .i64 n] 3) = WR := ⟨_, rfl⟩
    rw [hWR] at hJ ⊢
    clear hWR
    obtain ⟨hmn, hxs, hbox, hown, hbl⟩ := hJ
    have hsz : w.heap.size < wr.heap.size := by
      rcases Nat.lt_or_ge w.heap.size wr.heap.size with h' | h'
      · exact h'
      · rw [Array.getElem?_eq_none h'] at hbox; cases hbox
    have hc0 : wr.cell? ⟨w.heap.size, 0, none⟩ = some (.int .i64 m) := by rw [Lib.cell_of_heap hbox]; rfl
    have hf0 : wr.frozen? ⟨w.heap.size, 0, none⟩ = false := Lib.frozen_of_heap hbox 0
    have key := last_any m w.heap.size wr (by omega) hc0 hf0
    clear hc0 hf0
    go_wp2_with fail
    refine Calls.mono key ?_
    rintro e w1 ⟨rfl, hw1⟩
    have hbox1 : w1.heap[w.heap.size]? = some (.cells #[.int .i64 (m / 10 : Nat)] 3 (0, 0)) := by
      rw [hw1]; simp [World.setCell, Array.getElem?_modify, hbox]
    have hown1 : w1.ownsRow (w.heap.size + 1) 5 1 (.slice none 0 0) xs.length (Lib.byteCells xs) := by rw [hw1]; exact ownsRow_setCell_below hown (by simp) _
    have hb1 : Below w.heap.size w w1 := by rw [hw1]; exact hbl.setCell (p := ⟨w.heap.size, 0, none⟩) (Nat.le_refl _) _
    have hsz1 : w.heap.size < w1.heap.size := by rw [hw1]; simpa [World.setCell] using hsz
    clear hw1 key hbox hown hbl hsz
    have hlen : xs.length ≤ n + 1 := by
      have h1 := congrArg List.length hxs
      have h2 := rdec_len n
      simp at h1; omega
    have HX := Lib.hid hxs; clear hxs
    obtain ⟨q, hq⟩ : ∃ q, m / 10 = q := ⟨_, rfl⟩
    rw [hq] at hbox1
    have HQ := Lib.hid hq; clear hq
    go_wp2_with (at_builtin; refine wpList_append_own _ rfl _ _ 37 rfl (w.heap.size + 1) 5 i0 (.int .u8 0) 1 1 Tryz.underlying37 hi hz0 hz1 hz2 rfl (by decide) _ _ _ rfl (hown1.alloc _) ⟨w1.heap.size, 0, none⟩ 1 1 [.int .u8 (dig m).toNat] rfl rfl ?c1 ?c2 ?c3 ?c4 ?c5 ?_)
    case c1 =>
      intro j u hj
      match j, hj with
      | 0, hj => simp at hj; subst hj; simp [Addr.add]
    case c2 => intro u hu; simp at hu; subst hu; rfl
    case c3 => unfold maxLen; omega
    case c4 => omega
    case c5 => simp; omega
    intro v' w2 hown' hgrow _
    have hl := hown1.lt
    have hbox2 : w2.heap[w.heap.size]? = some (.cells #[.int .i64 (q : Nat)] 3 (0, 0)) := by
      rw [hgrow.block _ (by simp; omega) (fun e => by have := (hl _ e.symm).1; omega), Below.heap_alloc _ _ _ hsz1]
      exact hbox1
    have hb2 : Below w.heap.size w w2 := (hb1.alloc (by omega) _).grown hgrow (by simp; omega) (fun k hk => by have := (hl k hk).1; omega)
    have hown2 : w2.ownsRow (w.heap.size + 1) 5 1 v' (xs ++ [dig m]).length (Lib.byteCells (xs ++ [dig m])) := by simpa [Lib.byteCells] using hown'
    have hc2 : w2.cell? ⟨w.heap.size, 0, none⟩ = some (.int .i64 (q : Nat)) := by rw [Lib.cell_of_heap hbox2]; rfl
    obtain ⟨g, cap, rfl⟩ : ∃ g cap, v' = .slice (some ⟨g, 0, none⟩) (xs.length + 1) cap := by
      rcases hown'.2 with ⟨_, h0⟩ | ⟨g, cap, cur, hv, _⟩
      · omega
      · exact ⟨g, cap, hv⟩
    clear hown' hgrow hl hown1 hbox1 hb1
    by_cases hq0 : q = 0
    · have hq1 : ((q : Int) != 0) = false := by simp [hq0]
      have HXS : RowKit.Hid (xs ++ [dig m] = rdec n) := by
        rw [← HX.out, rdec_eq m (by rw [HQ.out]; exact hq0)]; rfl
      obtain ⟨ys, hys⟩ : ∃ ys, xs ++ [dig m] = ys := ⟨_, rfl⟩
      have hyl : xs.length + 1 = ys.length := by rw [← hys]; simp
      rw [hys] at hown2 HXS
      clear hys HX HQ hbox2
      have hl8 : ys.length ≤ n + 2 := by omega
      rw [hyl] at hown2 ⊢
      have hpos : 1 ≤ ys.length := by omega
      go_wp2_with fail
      go_loopw [6, 7] (fun s6 s7 wq => ∃ (i : Nat) (zs : List UInt8), 2 * i ≤ ys.length ∧ s6 = .int .i64 i ∧ s7 = .int .i64 (ys.length - 1 - i : Nat) ∧ RowKit.Hid (Turned ys i zs) ∧ wq.ownsRow (w.heap.size + 1) 5 1 (.slice (some ⟨g, 0, none⟩) ys.length cap) ys.length (Lib.byteCells zs) ∧ Below w.heap.size w wq) (fun s6 _ _ => ys.length - (intOf s6).toNat)
      case atStart => exact ⟨0, ys, by omega, rfl, by congr 1; omega, Turned.zero ys, hown2, hb2⟩
      case round =>
        obtain ⟨i, zs, hi2, rfl, rfl, HT, hrow, hbq⟩ := hrel
        have hgw := (hrow.lt g rfl).1
        obtain ⟨k, hk⟩ : ∃ k, ys.length - 1 - i = k := ⟨_, rfl⟩
        have hik : i + k + 1 = ys.length := by omega
        have HK := Lib.hid hk
        rw [hk]
        clear hk
        by_cases hlt : i < k
        · have hzl := HT.out.1
          have ea : ∃ a, zs[i]? = some a := ⟨_, List.getElem?_eq_getElem (by omega)⟩
          have eb : ∃ b, zs[k]? = some b := ⟨_, List.getElem?_eq_getElem (by omega)⟩
          obtain ⟨a, ha⟩ := ea
          obtain ⟨b, hb⟩ := eb
          have c1 : wr.cell? ⟨g, i, none⟩ = some (.int .u8 a.toNat) := by rw [hrow.cellAt i (by omega)]; simp [Lib.byteCells, ha]
          have c2 : wr.cell? ⟨g, k, none⟩ = some (.int .u8 b.toNat) := by rw [hrow.cellAt k (by omega)]; simp [Lib.byteCells, hb]
          have f1 := hrow.frozenAt i
          have f2 := hrow.frozenAt k
          obtain ⟨v2, hv2⟩ : ∃ v2, (wr.drew.setCell ⟨g, i, none⟩ (.int .u8 b.toNat)).cell? ⟨g, k, none⟩ = some v2 := ⟨_, (World.cell?_setCell_other wr.drew _ _ _ (fun e => by injection e; omega)).trans c2⟩
          go_wp2_with fail
          go_region
          go_wp2_with fail
          go_roundw
          case rel =>
            have r1 := hrow.stored i (.int .u8 b.toNat)
            have r2 := r1.1.stored k (.int .u8 a.toNat)
            have hst := HT.out.step (by omega) a b ha (by rw [HK.out]; exact hb)
            rw [HK.out] at hst
            refine ⟨i + 1, (zs.set i b).set k a, by omega, by go_num, by congr 1; omega, hst, ?_, ((hbq.setCell (p := ⟨g, i, none⟩) (by show _ ≤ g; omega) _).setCell (p := ⟨g, k, none⟩) (by show _ ≤ g; omega) _).drew⟩
            have e : Lib.byteCells ((zs.set i b).set k a) = ((Lib.byteCells zs).set i (.int .u8 b.toNat)).set k (.int .u8 a.toNat) := by simp [Lib.byteCells]
            rw [e]
            exact r2.1
          case measure => simp [intOf]; omega
        · have hz : zs = ys.reverse := HT.out.done (by omega)
          rw [HXS.out] at hz
          subst hz
          have hrl : (rdec n).reverse.length = ys.length := by rw [← HXS.out]; simp
          have hcv := run_convert_bytes_back (P := Tryz.prog) wr 37 9 5 ⟨g, 0, none⟩ cap (rdec n).reverse Tryz.underlying37 Tryz.underlying5 Tryz.underlying9
          have hcv := hcv (fun j hj => by
            exact hrow.cells (g := g) rfl j _ (by rw [Lib.byteCells, List.getElem?_map, List.getElem?_eq_getElem hj]; rfl))
          rw [hrl] at hcv
          go_wp2_with fail
          simp only [Exit.jump]
          go_ret
          exact ⟨rfl, hbq⟩
    · have hq1 : ((q : Int) != 0) = true := by simpa using hq0
      go_wp2_with fail
      go_step3
      have hJ2 : ShowJ n w q (xs ++ [dig m]) (.slice (some ⟨g, 0, none⟩) (xs.length + 1) cap) w2 := by
        refine ⟨by have := HQ.out; omega, ?_, hbox2, hown2, hb2⟩
        rw [← HX.out, rdec_ne m (by rw [HQ.out]; exact hq0), HQ.out]; simp
      exact ⟨rfl, q, xs ++ [dig m], _, hJ2, hq0, _, _, _, _, _, _, _, _, _, _, _, _, _, _, _, _, _, _, _, _, _, _, _, _, _, _, _, _, _, _, _, _, _, _, _, _, _, _, _, _, _, _, rfl⟩
  · rintro a' wr ⟨m, xs, v, ⟨hmn, hxs, hbox, hown, hbl⟩, hm0, u6, u7, u8, u9, u10, u11, u12, u13, u14, u15, u16, u17, u18, u19, u20, u21, u22, u23, u24, u25, u26, u27, u28, u29, u30, u31, u32, u33, u34, u35, u36, u37, u38, u39, u40, u41, u42, u43, u44, u45, u46, u47, rfl⟩
    have hsz : w.heap.size < wr.heap.size := by
      rcases Nat.lt_or_ge w.heap.size wr.heap.size with h' | h'
      · exact h'
      · rw [Array.getElem?_eq_none h'] at hbox; cases hbox
    have hc0 : wr.cell? ⟨w.heap.size, 0, none⟩ = some (.int .i64 m) := by rw [Lib.cell_of_heap hbox]; rfl
    have hf0 : wr.frozen? ⟨w.heap.size, 0, none⟩ = false := Lib.frozen_of_heap hbox 0
    have key := last_any m w.heap.size wr (by omega) hc0 hf0
    have HCM := Lib.hid hc0
    clear hc0 hf0
    go_wp2_with fail
    refine Calls.mono key ?_
    rintro e w1 ⟨rfl, hw1⟩
    have hbox1 : w1.heap[w.heap.size]? = some (.cells #[.int .i64 (m / 10 : Nat)] 3 (0, 0)) := by
      rw [hw1]; simp [World.setCell, Array.getElem?_modify, hbox]
    have hown1 : w1.ownsRow (w.heap.size + 1) 5 1 v xs.length (Lib.byteCells xs) := by rw [hw1]; exact ownsRow_setCell_below hown (by simp) _
    have hb1 : Below w.heap.size w w1 := by rw [hw1]; exact hbl.setCell (p := ⟨w.heap.size, 0, none⟩) (Nat.le_refl _) _
    have hsz1 : w.heap.size < w1.heap.size := by rw [hw1]; simpa [World.setCell] using hsz
    clear hw1 key hbox hown hbl hsz
    have hlen : xs.length ≤ n + 1 := by
      have h1 := congrArg List.length hxs
      have h2 := rdec_len n
      simp at h1; omega
    have HX := Lib.hid hxs; clear hxs
    obtain ⟨q, hq⟩ : ∃ q, m / 10 = q := ⟨_, rfl⟩
    rw [hq] at hbox1
    have HQ := Lib.hid hq; clear hq
    go_wp2_with (at_builtin; refine wpList_append_own _ rfl _ _ 37 rfl (w.heap.size + 1) 5 i0 (.int .u8 0) 1 1 Tryz.underlying37 hi hz0 hz1 hz2 rfl (by decide) _ _ _ rfl (hown1.alloc _) ⟨w1.heap.size, 0, none⟩ 1 1 [.int .u8 (dig m).toNat] rfl rfl ?c1 ?c2 ?c3 ?c4 ?c5 ?_)
    case c1 =>
      intro j u hj
      match j, hj with
      | 0, hj => simp at hj; subst hj; simp [Addr.add]
    case c2 => intro u hu; simp at hu; subst hu; rfl
    case c3 => unfold maxLen; omega
    case c4 => omega
    case c5 => simp; omega
    intro v' w2 hown' hgrow _
    have hl := hown1.lt
    have hbox2 : w2.heap[w.heap.size]? = some (.cells #[.int .i64 (q : Nat)] 3 (0, 0)) := by
      rw [hgrow.block _ (by simp; omega) (fun e => by have := (hl _ e.symm).1; omega), Below.heap_alloc _ _ _ hsz1]
      exact hbox1
    have hb2 : Below w.heap.size w w2 := (hb1.alloc (by omega) _).grown hgrow (by simp; omega) (fun k hk => by have := (hl k hk).1; omega)
    have hown2 : w2.ownsRow (w.heap.size + 1) 5 1 v' (xs ++ [dig m]).length (Lib.byteCells (xs ++ [dig m])) := by simpa [Lib.byteCells] using hown'
    have hc2 : w2.cell? ⟨w.heap.size, 0, none⟩ = some (.int .i64 (q : Nat)) := by rw [Lib.cell_of_heap hbox2]; rfl
    obtain ⟨g, cap, rfl⟩ : ∃ g cap, v' = .slice (some ⟨g, 0, none⟩) (xs.length + 1) cap := by
      rcases hown'.2 with ⟨_, h0⟩ | ⟨g, cap, cur, hv, _⟩
      · omega
      · exact ⟨g, cap, hv⟩
    clear hown' hgrow hl hown1 hbox1 hb1
    by_cases hq0 : q = 0
    · have hq1 : ((q : Int) != 0) = false := by simp [hq0]
      have HXS : RowKit.Hid (xs ++ [dig m] = rdec n) := by
        rw [← HX.out, rdec_eq m (by rw [HQ.out]; exact hq0)]; rfl
      obtain ⟨ys, hys⟩ : ∃ ys, xs ++ [dig m] = ys := ⟨_, rfl⟩
      have hyl : xs.length + 1 = ys.length := by rw [← hys]; simp
      rw [hys] at hown2 HXS
      clear hys HX HQ hbox2
      have hl8 : ys.length ≤ n + 2 := by omega
      rw [hyl] at hown2 ⊢
      have hpos : 1 ≤ ys.length := by omega
      go_wp2_with fail
      go_loopw [6, 7] (fun s6 s7 wq => ∃ (i : Nat) (zs : List UInt8), 2 * i ≤ ys.length ∧ s6 = .int .i64 i ∧ s7 = .int .i64 (ys.length - 1 - i : Nat) ∧ RowKit.Hid (Turned ys i zs) ∧ wq.ownsRow (w.heap.size + 1) 5 1 (.slice (some ⟨g, 0, none⟩) ys.length cap) ys.length (Lib.byteCells zs) ∧ Below w.heap.size w wq) (fun s6 _ _ => ys.length - (intOf s6).toNat)
      case atStart => exact ⟨0, ys, by omega, rfl, by congr 1; omega, Turned.zero ys, hown2, hb2⟩
      case round =>
        obtain ⟨i, zs, hi2, rfl, rfl, HT, hrow, hbq⟩ := hrel
        have hgw := (hrow.lt g rfl).1
        obtain ⟨k, hk⟩ : ∃ k, ys.length - 1 - i = k := ⟨_, rfl⟩
        have hik : i + k + 1 = ys.length := by omega
        have HK := Lib.hid hk
        rw [hk]
        clear hk
        by_cases hlt : i < k
        · have hzl := HT.out.1
          have ea : ∃ a, zs[i]? = some a := ⟨_, List.getElem?_eq_getElem (by omega)⟩
          have eb : ∃ b, zs[k]? = some b := ⟨_, List.getElem?_eq_getElem (by omega)⟩
          obtain ⟨a, ha⟩ := ea
          obtain ⟨b, hb⟩ := eb
          have c1 : wr.cell? ⟨g, i, none⟩ = some (.int .u8 a.toNat) := by rw [hrow.cellAt i (by omega)]; simp [Lib.byteCells, ha]
          have c2 : wr.cell? ⟨g, k, none⟩ = some (.int .u8 b.toNat) := by rw [hrow.cellAt k (by omega)]; simp [Lib.byteCells, hb]
          have f1 := hrow.frozenAt i
          have f2 := hrow.frozenAt k
          obtain ⟨v2, hv2⟩ : ∃ v2, (wr.drew.setCell ⟨g, i, none⟩ (.int .u8 b.toNat)).cell? ⟨g, k, none⟩ = some v2 := ⟨_, (World.cell?_setCell_other wr.drew _ _ _ (fun e => by injection e; omega)).trans c2⟩
          go_wp2_with fail
          go_region
          go_wp2_with fail
          go_roundw
          case rel =>
            have r1 := hrow.stored i (.int .u8 b.toNat)
            have r2 := r1.1.stored k (.int .u8 a.toNat)
            have hst := HT.out.step (by omega) a b ha (by rw [HK.out]; exact hb)
            rw [HK.out] at hst
            refine ⟨i + 1, (zs.set i b).set k a, by omega, by go_num, by congr 1; omega, hst, ?_, ((hbq.setCell (p := ⟨g, i, none⟩) (by show _ ≤ g; omega) _).setCell (p := ⟨g, k, none⟩) (by show _ ≤ g; omega) _).drew⟩
            have e : Lib.byteCells ((zs.set i b).set k a) = ((Lib.byteCells zs).set i (.int .u8 b.toNat)).set k (.int .u8 a.toNat) := by simp [Lib.byteCells]
            rw [e]
            exact r2.1
          case measure => simp [intOf]; omega
        · have hz : zs = ys.reverse := HT.out.done (by omega)
          rw [HXS.out] at hz
          subst hz
          have hrl : (rdec n).reverse.length = ys.length := by rw [← HXS.out]; simp
          have hcv := run_convert_bytes_back (P := Tryz.prog) wr 37 9 5 ⟨g, 0, none⟩ cap (rdec n).reverse Tryz.underlying37 Tryz.underlying5 Tryz.underlying9
          have hcv := hcv (fun j hj => by
            exact hrow.cells (g := g) rfl j _ (by rw [Lib.byteCells, List.getElem?_map, List.getElem?_eq_getElem hj]; rfl))
          rw [hrl] at hcv
          go_wp2_with fail
          simp only [Exit.jump]
          go_ret
          exact ⟨rfl, hbq⟩
    · have hq1 : ((q : Int) != 0) = true := by simpa using hq0
      go_wp2_with fail
      go_step3
      have hJ2 : ShowJ n w q (xs ++ [dig m]) (.slice (some ⟨g, 0, none⟩) (xs.length + 1) cap) w2 := by
        refine ⟨by have := HQ.out; omega, ?_, hbox2, hown2, hb2⟩
        rw [← HX.out, rdec_ne m (by rw [HQ.out]; exact hq0), HQ.out]; simp
      refine ⟨rfl, ⟨q, xs ++ [dig m], _, hJ2, hq0, _, _, _, _, _, _, _, _, _, _, _, _, _, _, _, _, _, _, _, _, _, _, _, _, _, _, _, _, _, _, _, _, _, _, _, _, _, _, _, _, _, _, rfl⟩, ?_⟩
      have h1 := HQ.out
      rw [boxOf_eq hc2, boxOf_eq HCM.out]
      simp
      omega
end Go.Proofs.YtkmoakfphfakoaaGreat
