/-
  Walks, part J: ascii.Lower, ascii.Same.
-/
import Derived.Test.YtkmoakfphfakoaaGreatI
import Derived.Laws.OwnMore
import Derived.Shelf.RegionOpen
namespace Go.Proofs.YtkmoakfphfakoaaGreat
open Go.RowKit Go.Shelf
attribute [local go_sem] Oper.semAt_some

def lowB (c : UInt8) : UInt8 := if 65 ≤ c ∧ c ≤ 90 then c + 32 else c
theorem lowB_toNat (c : UInt8) (h : 65 ≤ c ∧ c ≤ 90) : (lowB c).toNat = c.toNat + 32 := by
  unfold lowB
  rw [if_pos h]
  obtain ⟨h1, h2⟩ := h
  have h3 : c.toNat ≤ 90 := h2
  rw [UInt8.toNat_add]
  show (c.toNat + 32) % 256 = _
  omega

set_option maxHeartbeats 1000000 in
theorem low1_any (c : UInt8) (w : World) : Calls Tryz.prog 111 #[.int .u8 c.toNat] w fun e w' => e = .returned (.int .u8 (lowB c).toNat) ∧ w' = w := by
  by_cases h : 65 ≤ c ∧ c ≤ 90
  · have h1 : (65 : Int) ≤ c.toNat ∧ (c.toNat : Int) ≤ 90 := ⟨by have : (65 : Nat) ≤ c.toNat := h.1; omega, by have : c.toNat ≤ 90 := h.2; omega⟩
    have hd : (decide ((65 : Int) ≤ c.toNat) && decide ((c.toNat : Int) ≤ 90)) = true := by simp [h1.1, h1.2]
    have hl := lowB_toNat c h
    have hwr : IntKind.u8.wrap ((c.toNat : Int) + 32) = ((lowB c).toNat : Nat) := by rw [hl]; exact IntWalk.u8_in _ (by have := h1.1; have := h1.2; omega)
    clear hl h
    go_enter Tryz.func111, Tryz.ntmps111
    go_wp2_with fail
    refine Calls.mono (in_any _ _ _ _) ?_
    rintro e w1 ⟨rfl, rfl⟩
    go_wp2_with fail
    go_ret
    exact ⟨rfl, rfl⟩
  · have hd : (decide ((65 : Int) ≤ c.toNat) && decide ((c.toNat : Int) ≤ 90)) = false := by
      rw [Bool.eq_false_iff]; intro h2; simp at h2
      exact h ⟨by show (65 : Nat) ≤ c.toNat; omega, by show c.toNat ≤ 90; omega⟩
    have hl : lowB c = c := if_neg h
    clear h
    go_enter Tryz.func111, Tryz.ntmps111
    go_wp2_with fail
    refine Calls.mono (in_any _ _ _ _) ?_
    rintro e w1 ⟨rfl, rfl⟩
    go_wp2_with fail
    go_ret
    exact ⟨by rw [hl]; rfl, rfl⟩

theorem each_any (s : ByteArray) (w : World) :
    Calls Tryz.prog 112 #[.string s, .func (.func 111) #[] #[]] w fun e w' => e = .returned (.func (.func 118) #[] #[.pointer (some ⟨w.heap.size, 0, none⟩), .pointer (some ⟨w.heap.size + 1, 0, none⟩)]) ∧ w' = (w.alloc (.cells #[.string s] 9)).alloc (.cells #[.func (.func 111) #[] #[]] 105) := by
  have hmf := hmf
  go_enter Tryz.func112, Tryz.ntmps112
  go_wp2
  go_ret
  exact ⟨rfl, rfl⟩

/-- What each hands to its loop's body. -/
def eachEnc (s : ByteArray) (k : {k : Nat // k < s.size}) : Array Value := #[.int .i64 k.1, .int .u8 (lowB s[k.1]).toNat]
/-- What a round must keep: what lay below n₀, and two blocks. -/
def KpTwo (n₀ B1 B2 : Nat) (W W' : World) : Prop := Below n₀ W W' ∧ W'.heap[B1]? = W.heap[B1]? ∧ W'.heap[B2]? = W.heap[B2]?
theorem KpTwo.t {n₀ B1 B2 : Nat} {A B C : World} (h : KpTwo n₀ B1 B2 A B) (k : KpTwo n₀ B1 B2 B C) : KpTwo n₀ B1 B2 A C := ⟨h.1.trans k.1, k.2.1.trans h.2.1, k.2.2.trans h.2.2⟩
theorem KpTwo.b {n₀ B1 B2 : Nat} {w : World} (hn : n₀ ≤ w.heap.size) (h1 : B1 < w.heap.size) (h2 : B2 < w.heap.size) (W : World) (l : Nat) (o o' : Obj) (hl : w.heap.size ≤ l) (h : W.heap[l]? = some o) (hc : o.isCells = false) (hw : o.isWalk = false) : KpTwo n₀ B1 B2 W (W.putObj l o') :=
  ⟨belowK_b hn W l o o' hl h hc hw, (grownBy_putObj' W l o').block B1 (by have := (Array.getElem?_eq_some_iff.1 h).1; omega) (fun e => by cases e; omega), (grownBy_putObj' W l o').block B2 (by have := (Array.getElem?_eq_some_iff.1 h).1; omega) (fun e => by cases e; omega)⟩
def upTo (n : Nat) (k : Nat) (h : k ≤ n) : List {k : Nat // k < n} := (List.range k).attach.map fun i => ⟨i.1, by have := List.mem_range.1 i.2; omega⟩
theorem upTo_val (n k : Nat) (h : k ≤ n) : (upTo n k h).map Subtype.val = List.range k := by
  simp [upTo]
theorem upTo_succ (n k : Nat) (h : k < n) : upTo n (k + 1) h = upTo n k (by omega) ++ [⟨k, h⟩] := by
  have h1 : (upTo n (k + 1) h).map Subtype.val = (upTo n k (by omega) ++ [(⟨k, h⟩ : {k : Nat // k < n})]).map Subtype.val := by
    rw [upTo_val, List.map_append, upTo_val, List.range_succ]; rfl
  exact List.map_inj_right (fun _ _ e => Subtype.ext e) |>.1 h1

set_option maxRecDepth 100000 in
set_option maxHeartbeats 2000000 in
theorem each1_in (n : Nat) (hn : 1 ≤ n) (l B1 B2 n₀ : Nat) (s : ByteArray) (hreach : s.size ≤ 140737488351232) (J Jx : List {k : Nat // k < s.size} → World → Prop)
    (hJd : ∀ pre W, J pre W → J pre W.drew)
    (hY : ∀ pre x W, J pre W → pre.length < s.size → YieldAt Fence.wide (n - 1) Tryz.prog l (eachEnc s x) W fun e W' =>
      (e = .returned (.bool true) ∧ J (pre ++ [x]) W' ∧ KpTwo n₀ B1 B2 W W') ∨ (e = .returned (.bool false) ∧ Jx (pre ++ [x]) W'))
    (W : World) (hB1 : W.cell? ⟨B1, 0, none⟩ = some (.string s)) (hB2 : W.cell? ⟨B2, 0, none⟩ = some (.func (.func 111) #[] #[])) (h0 : J [] W) :
    CallsIn Fence.wide n Tryz.prog 118 #[.func (.yield l) #[] #[], .pointer (some ⟨B1, 0, none⟩), .pointer (some ⟨B2, 0, none⟩)] W fun e W' => (∃ v, e = .returned v) ∧
      ((∃ ys, (ys = upTo s.size s.size (Nat.le_refl _)) ∧ J ys W') ∨ (∃ pre, (∃ k h, pre = upTo s.size k h) ∧ Jx pre W')) := by
  have HY := Lib.hid hY; clear hY
  have hmx : Tryz.prog.follows .mixedOrders = true := by kernel_rfl
  refine callsIn_of_wp Tryz.func118 rfl trivial ?_ rfl
  simp only [Tryz.ntmps118, List.size_toArray, List.length_cons, List.length_nil, Nat.reduceAdd, Nat.reduceSub, Array.replicate_succ, Array.replicate_zero, List.push_toArray, List.append_toArray, List.nil_append, List.cons_append]
  gi_wp2
  gi_loopw [7] (fun i wr => ∃ (k : Nat) (hk : k ≤ s.size), i = .int .i64 k ∧ J (upTo s.size k hk) wr ∧ KpTwo n₀ B1 B2 W wr) (fun i _ => s.size - (intOf i).toNat)
  case atStart => exact ⟨0, Nat.zero_le _, rfl, h0, Below.refl _ _, rfl, rfl⟩
  case round =>
    obtain ⟨k, hk, rfl, hJs, hnx⟩ := hrel
    by_cases hlt : k < s.size
    · have hc1 := (World.cell?_of_block (a := ⟨B1, 0, none⟩) hnx.2.1).trans hB1
      have hc2 := (World.cell?_of_block (a := ⟨B2, 0, none⟩) hnx.2.2).trans hB2
      obtain ⟨fn, tmps, assign, body, hy, hR⟩ := HY.out _ ⟨k, hlt⟩ wr.drew (hJd _ _ hJs) (by have := congrArg List.length (upTo_val s.size k hk); simp at this; omega)
      rw [eachEnc] at hy
      have hkd : decide ((k : Int) < (s.size : Int)) = true := by simp; omega
      clear hB1 hB2
      have hcl := fun (d : Nat) (Wx : World) => (callsIn_wide (n := d)).2 (low1_any s[k] Wx)
      have hR2 := hR.mono (R' := fun e W' => ∃ bb, e = .returned (.bool bb) ∧ ((bb = true ∧ J (upTo s.size k hk ++ [⟨k, hlt⟩]) W' ∧ KpTwo n₀ B1 B2 wr.drew W') ∨ (bb = false ∧ Jx (upTo s.size k hk ++ [⟨k, hlt⟩]) W'))) (fun e W' h => by
        rcases h with ⟨he, h⟩ | ⟨he, h⟩
        · exact ⟨true, he, .inl ⟨rfl, h⟩⟩
        · exact ⟨false, he, .inr ⟨rfl, h⟩⟩)
      clear hR
      gi_wp2
      gi_region_with_o (first
        | (refine ⟨trivial, (hcl _ _).mono ?_⟩; rintro e w' ⟨rfl, rfl⟩)
        | (refine hR2.mono ?_; rintro e W3 ⟨bb, rfl, hW3⟩))
      all_goals rcases hW3 with ⟨rfl, hJ3, hk3⟩ | ⟨rfl, hJx3⟩
      all_goals gi_wp2
      all_goals first
        | (refine bodyPost_ret (results_none rfl _ _ _) rfl ?_
           exact ⟨⟨_, rfl⟩, .inr ⟨_, ⟨k + 1, hlt, (upTo_succ _ _ hlt).symm⟩, hJx3⟩⟩)
        | (go_roundw
           case rel => exact ⟨k + 1, hlt, by simp, by rw [upTo_succ _ _ hlt]; exact hJ3, KpTwo.t (B := wr.drew) ⟨hnx.1.drew, hnx.2.1, hnx.2.2⟩ hk3⟩
           case measure => simp [intOf]; omega)
    · obtain rfl : k = s.size := by omega
      have hkd : decide ((s.size : Int) < (s.size : Int)) = false := by simp
      gi_wp2
      go_end0
      exact ⟨⟨_, rfl⟩, .inl ⟨_, rfl, hJs⟩⟩

theorem each_stops (n : Nat) (hn : 1 ≤ n) (B1 B2 n₀ : Nat) (s : ByteArray) (hreach : s.size ≤ 140737488351232) (w : World) (h1 : B1 < w.heap.size) (h2 : B2 < w.heap.size)
    (hB1 : w.cell? ⟨B1, 0, none⟩ = some (.string s)) (hB2 : w.cell? ⟨B2, 0, none⟩ = some (.func (.func 111) #[] #[])) :
    SeqStopsK Fence.wide n Tryz.prog 118 #[.pointer (some ⟨B1, 0, none⟩), .pointer (some ⟨B2, 0, none⟩)] (eachEnc s) (KpTwo n₀ B1 B2) (fun ys => ys = upTo s.size s.size (Nat.le_refl _)) (fun pre => ∃ k h, pre = upTo s.size k h) s.size w := fun l J Jx W hW hJ _ hY h0 =>
  each1_in n hn l B1 B2 n₀ s hreach J Jx (fun pre W h => hJ pre W W.drew none h ⟨rfl, rfl, rfl, Nat.le_refl _, fun _ _ _ => rfl⟩ (fun _ e => by cases e)) hY W ((hW.cell (p := ⟨B1, 0, none⟩) h1).trans hB1) ((hW.cell (p := ⟨B2, 0, none⟩) h2).trans hB2) h0

/-- A text in small letters. -/
def lowL (s : ByteArray) : List UInt8 := s.data.toList.map lowB
/-- The row, where the places of ks are written. -/
def lowR (s : ByteArray) (ks : List Nat) : List UInt8 := (List.range s.size).map fun j => if j ∈ ks then (s.data.toList.map lowB).getD j 0 else 0
theorem lowR_len (s : ByteArray) (ks : List Nat) : (lowR s ks).length = s.size := by simp [lowR]
theorem lowR_nil (s : ByteArray) : lowR s [] = List.replicate s.size 0 := by
  apply List.ext_getElem (by simp [lowR])
  intro i h1 h2
  simp [lowR]
theorem lowR_snoc (s : ByteArray) (ks : List Nat) (k : Nat) (hk : k < s.size) : lowR s (ks ++ [k]) = (lowR s ks).set k (lowB s[k]) := by
  apply List.ext_getElem (by simp [lowR])
  intro i h1 h2
  have h3 : i < s.size := by simpa [lowR] using h1
  simp only [lowR, List.getElem_map, List.getElem_range, List.mem_append, List.mem_singleton, List.getElem_set]
  by_cases he : k = i
  · subst he
    have h4 : k < s.data.toList.length := by simpa using h3
    simp only [or_true, if_true]
    rw [List.getD_eq_getElem?_getD, List.getElem?_map, List.getElem?_eq_getElem h4]
    rfl
  · have he' : ¬ i = k := fun e => he e.symm
    simp [he, he']
theorem lowR_all (s : ByteArray) : lowR s (List.range s.size) = lowL s := by
  apply List.ext_getElem (by simp [lowR, lowL])
  intro i h1 h2
  have h3 : i < s.size := by simpa [lowR] using h1
  have h4 : i < s.data.toList.length := by simpa using h3
  simp [lowR, lowL, h3, List.getD_eq_getElem?_getD]

set_option maxRecDepth 100000 in
set_option maxHeartbeats 2000000 in
theorem Lower_any (s : ByteArray) (hs : s.size ≤ 140737488351232) (w : World) :
    Calls Tryz.prog 101 #[.string s] w fun e w' => e = .returned (.string ⟨(lowL s).toArray⟩) ∧ Below w.heap.size w w' := by
  obtain ⟨i0, hi, hz0, hz1, hz2⟩ := info_parts infoByte
  have hmk := run_make (P := Tryz.prog) w 37 5 i0 (.int .u8 0) Tryz.underlying37 hi hz0 .i64 .i64 s.size s.size (by omega) (by omega) (by rw [hz2]; omega) (by omega)
  have hmc : madeCells (Value.int .u8 0).cells (s.size * 1) = (Lib.byteCells (lowR s [])).toArray := by
    rw [← Array.toList_inj, Nat.mul_one]
    show (madeCells #[_] _).toList = _
    rw [toList_madeCells_one, lowR_nil]; simp [Lib.byteCells]
  rw [hz1, Int.toNat_natCast, hmc] at hmk
  clear hmc
  refine (callsIn_wide (n := 4)).1 ?_
  refine callsIn_of_wp_marks Tryz.func101 rfl trivial ?_ rfl
  simp only [Tryz.ntmps101, List.size_toArray, List.length_cons, List.length_nil, Nat.reduceAdd, Nat.reduceSub, Array.replicate_succ, Array.replicate_zero, List.push_toArray, List.append_toArray, List.nil_append, List.cons_append]
  gi_wp2_with fail
  refine ⟨trivial, ?_⟩
  refine (callsIn_wide.2 (each_any _ _)).mono ?_
  rintro e w1 ⟨rfl, rfl⟩
  gi_wp2_with fail
  clear hmk hi hz0 hz1 hz2
  have hrow0 : (w.alloc (.cells (Lib.byteCells (lowR s [])).toArray 5)).ownsRow w.heap.size 5 1 (.slice (some ⟨w.heap.size, 0, none⟩) s.size s.size) s.size (Lib.byteCells (lowR s [])) :=
    World.ownsRow_lit w (Lib.byteCells (lowR s [])).toArray s.size (Nat.le_refl _) (by unfold maxLen; omega) (by simp [Lib.byteCells, lowR_len])
  have bx1 := Boxed.new (w.alloc (.cells (Lib.byteCells (lowR s [])).toArray 5)) 37 (.slice (some ⟨w.heap.size, 0, none⟩) s.size s.size)
  have bx2 := Boxed.new ((w.alloc (.cells (Lib.byteCells (lowR s [])).toArray 5)).alloc (.cells #[.slice (some ⟨w.heap.size, 0, none⟩) s.size s.size] 37)) 9 (.string s)
  have bx3 := Boxed.new (((w.alloc (.cells (Lib.byteCells (lowR s [])).toArray 5)).alloc (.cells #[.slice (some ⟨w.heap.size, 0, none⟩) s.size s.size] 37)).alloc (.cells #[.string s] 9)) 105 (.func (.func 111) #[] #[])
  have hB0 : Below w.heap.size w ((((w.alloc (.cells (Lib.byteCells (lowR s [])).toArray 5)).alloc (.cells #[.slice (some ⟨w.heap.size, 0, none⟩) s.size s.size] 37)).alloc (.cells #[.string s] 9)).alloc (.cells #[.func (.func 111) #[] #[]] 105)) :=
    ((((Below.refl _ w).alloc (Nat.le_refl _) _).alloc (by simp) _).alloc (by simp; omega) _).alloc (by simp; omega) _
  have hrow0 := ((hrow0.alloc (.cells #[.slice (some ⟨w.heap.size, 0, none⟩) s.size s.size] 37)).alloc (.cells #[.string s] 9)).alloc (.cells #[.func (.func 111) #[] #[]] 105)
  have bx1 := (bx1.alloc (.cells #[.string s] 9)).alloc (.cells #[.func (.func 111) #[] #[]] 105)
  have bx2 := bx2.alloc (.cells #[.func (.func 111) #[] #[]] 105)
  simp only [World.size_alloc] at bx1 bx2 bx3
  have hsz : ((((w.alloc (.cells (Lib.byteCells (lowR s [])).toArray 5)).alloc (.cells #[.slice (some ⟨w.heap.size, 0, none⟩) s.size s.size] 37)).alloc (.cells #[.string s] 9)).alloc (.cells #[.func (.func 111) #[] #[]] 105)).heap.size = w.heap.size + 4 := by simp
  generalize ((((w.alloc (.cells (Lib.byteCells (lowR s [])).toArray 5)).alloc (.cells #[.slice (some ⟨w.heap.size, 0, none⟩) s.size s.size] 37)).alloc (.cells #[.string s] 9)).alloc (.cells #[.func (.func 111) #[] #[]] 105)) = W0 at hrow0 bx1 bx2 bx3 hB0 hsz ⊢
  refine wpIn_rangeFunc_ownG (n := 4) (F := Fence.wide) rfl (by decide) (gf := 118) (lb := #[.pointer (some ⟨w.heap.size + 1 + 1, 0, none⟩), .pointer (some ⟨w.heap.size + 1 + 1 + 1, 0, none⟩)]) rfl trivial (enters_of Tryz.func118 (by kernel_rfl) rfl)
    (each_stops (4 - 1) (by decide) (w.heap.size + 1 + 1) (w.heap.size + 1 + 1 + 1) w.heap.size s hs W0 (by omega) (by omega) bx2.cell bx3.cell) KpTwo.t (KpTwo.b (by omega) (by omega) (by omega)) (Below.refl _ _) (fun _ => rfl)
    (fun pre W => ((W.ownsRow w.heap.size 5 1 (.slice (some ⟨w.heap.size, 0, none⟩) s.size s.size) s.size (Lib.byteCells (lowR s (pre.map Subtype.val))) ∧ Boxed W (w.heap.size + 1) 37 (.slice (some ⟨w.heap.size, 0, none⟩) s.size s.size)) ∧ Below w.heap.size w W))
    (fun _ _ _ => False)
    (OwnFrom.and (Own.from (fun pre W W' row hs hg hr => ⟨hs.1.kept hg (.inr (fun e => by
        obtain ⟨o, ho, hc⟩ := hr w.heap.size e.symm
        rcases hs.1.2 with ⟨h', _⟩ | ⟨g, cap, cur, h', _, hg2, _⟩
        · simp at h'
        · injection h' with h1; injection h1 with h1; injection h1 with h1; subst h1; rw [hg2] at ho; cases ho; simp [Obj.isCells] at hc)), hs.2.kept hg (fun e => by
        obtain ⟨o, ho, hc⟩ := hr _ e.symm
        rw [show W.heap[w.heap.size + 1]? = _ from hs.2] at ho; cases ho; simp [Obj.isCells] at hc)⟩) _) (ownFrom_below (Nat.le_refl _) (by omega)))
    (fun _ _ _ _ _ hs _ _ => hs)
    ⟨⟨hrow0, bx1⟩, hB0⟩
    (fun x => { tmps := #[.string s, undef, .string ⟨#[]⟩, .pointer (some ⟨w.heap.size + 1, 0, none⟩), .func (.func 111) #[] #[], .int .i64 x.1, .int .u8 (lowB s[x.1]).toNat, .string s, .int .i64 s.size, .slice (some ⟨w.heap.size, 0, none⟩) s.size s.size, .string s, .func (.func 111) #[] #[], .func (.func 118) #[] #[.pointer (some ⟨w.heap.size + 1 + 1, 0, none⟩), .pointer (some ⟨w.heap.size + 1 + 1 + 1, 0, none⟩)], .int .i64 x.1, .int .u8 (lowB s[x.1]).toNat, undef, undef, undef, undef, undef, undef], defers := [] }) ?assign ?body ?done ?stop
  case assign =>
    intro l x W K hK
    unfold eachEnc
    gi_wp2
    exact hK
  case body =>
    rintro l pre x W ⟨⟨hrow, hbx⟩, hB⟩ hlt
    obtain ⟨x, hx⟩ := x
    have c1 := hbx.cell
    have c2 := hrow.cellAt x (by omega)
    rw [List.getElem?_eq_getElem (by simp [Lib.byteCells, lowR_len]; exact hx)] at c2
    have f2 := hrow.frozenAt x
    have hr := hrow.stored x (.int .u8 (lowB s[x]).toNat)
    gi_wp2_with fail
    refine ⟨(KeepsOthers.setCell _ _ _).from _, ⟨(Below.refl _ _).setCell (p := ⟨w.heap.size, x, none⟩) (Nat.le_refl _) _, Below.heap_setCell _ _ _ _ (by show _ ≠ w.heap.size; omega), Below.heap_setCell _ _ _ _ (by show _ ≠ w.heap.size; omega)⟩, ⟨⟨?_, ?_⟩, hB.setCell (p := ⟨w.heap.size, x, none⟩) (Nat.le_refl _) _⟩⟩
    · have h := hr.1
      rw [List.map_append, List.map_singleton, lowR_snoc s _ x hx]
      have e : Lib.byteCells ((lowR s (pre.map Subtype.val)).set x (lowB s[x])) = (Lib.byteCells (lowR s (pre.map Subtype.val))).set x (.int .u8 (lowB s[x]).toNat) := by simp [Lib.byteCells]
      rw [e]
      exact h
    · exact hbx.kept hr.2 (by simp)
  case done =>
    rintro D ys W hD rfl ⟨⟨hrow, hbx⟩, hB⟩ hK
    rw [upTo_val, lowR_all] at hrow
    have c1 := hbx.cell
    have hll : (lowL s).length = s.size := by simp [lowL]
    have hcv := run_convert_bytes_back (P := Tryz.prog) W 37 9 5 ⟨w.heap.size, 0, none⟩ s.size (lowL s) Tryz.underlying37 Tryz.underlying5 Tryz.underlying9
    have hcv := hcv (fun j hj => by
      exact hrow.cells (g := w.heap.size) rfl j _ (by rw [Lib.byteCells, List.getElem?_map, List.getElem?_eq_getElem hj]; rfl))
    rw [hll] at hcv
    gi_wp2_with fail
    refine ⟨by simp, .inl ⟨_, _, rfl, run_takeDeferred hK, ?_⟩⟩
    exact ⟨_, results_tmp rfl _ _ _, rfl, hB.trans (belowK_b (w := w) (Nat.le_refl _) W D _ _ (by omega) hK rfl rfl)⟩
  case stop =>
    rintro D c pre W _ _ h _
    exact h.elim

set_option maxHeartbeats 1000000 in
theorem ASame_any (a b : ByteArray) (ha : a.size ≤ 140737488351232) (hb : b.size ≤ 140737488351232) (w : World) :
    Calls Tryz.prog 77 #[.string a, .string b] w fun e w' => e = .returned (.bool (lowL a == lowL b)) ∧ Below w.heap.size w w' := by
  go_enter Tryz.func77, Tryz.ntmps77
  go_wp2_with fail
  refine Calls.mono (Lower_any _ ha _) ?_
  rintro e w1 ⟨rfl, h1⟩
  go_wp2_with fail
  refine Calls.mono (Lower_any _ hb _) ?_
  rintro e w2 ⟨rfl, h2⟩
  go_wp2_with fail
  go_ret
  exact ⟨rfl, h1.trans (h2.mono h1.size)⟩
end Go.Proofs.YtkmoakfphfakoaaGreat
