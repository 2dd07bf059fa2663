/-
  Walks, part I: path.segments, path.Show: ranges over functions.
-/
import Derived.Test.YtkmoakfphfakoaaGreatE
import Derived.RangeFuncNested
import Derived.RangeFuncBound
import Derived.RangeFuncCalls
import Derived.RangeFuncLeaves
import Derived.RangeFuncBox
import Derived.RangeFuncWrites
import Derived.Shelf.Abstract
import Derived.OwnWalkIn
import Derived.TacticsInMore
import Derived.LoopNIn
import Derived.LoopIn
namespace Go.Proofs.YtkmoakfphfakoaaGreat
open Go.RowKit Go.Shelf
attribute [local go_sem] Oper.semAt_some

/-- The slice value A n c reads as the texts ss. -/
def Strs (w : World) (A : Option Addr) (ss : List ByteArray) : Prop :=
  ss = [] ∨ ∃ b off, A = some ⟨b, off, none⟩ ∧ b < w.heap.size ∧ ∀ (j : Nat) (h : j < ss.length), w.cell? ⟨b, off + j, none⟩ = some (.string ss[j])
theorem Strs.below {w w' : World} {A : Option Addr} {ss : List ByteArray} (h : Strs w A ss) (hb : Below w.heap.size w w') : Strs w' A ss := by
  rcases h with h | ⟨b, off, rfl, hlt, hc⟩
  · exact .inl h
  · exact .inr ⟨b, off, rfl, Nat.lt_of_lt_of_le hlt hb.size, fun j h => (hb.cell (p := ⟨b, off + j, none⟩) hlt).trans (hc j h)⟩

theorem segs_any (A : Option Addr) (n c : Nat) (w : World) :
    Calls Tryz.prog 38 #[.slice A n c] w fun e w' => e = .returned (.func (.func 57) #[] #[.pointer (some ⟨w.heap.size, 0, none⟩)]) ∧ w' = w.alloc (.cells #[.slice A n c] 25) := by
  have hmf := hmf
  go_enter Tryz.func38, Tryz.ntmps38
  go_wp2
  go_ret
  exact ⟨rfl, rfl⟩

/-- What segments hands to its loop's body, place by place. -/
def segEnc (ss : List ByteArray) (k : Nat) : Array Value := #[.string (ss.getD k ByteArray.empty), .bool (decide (k + 1 = ss.length))]

/-- What a round must keep: what lay below n₀, and the block Bs. -/
def KpAt (n₀ Bs : Nat) (W W' : World) : Prop := Below n₀ W W' ∧ W'.heap[Bs]? = W.heap[Bs]?
theorem KpAt.t {n₀ Bs : Nat} {A B C : World} (h : KpAt n₀ Bs A B) (k : KpAt n₀ Bs B C) : KpAt n₀ Bs A C := ⟨h.1.trans k.1, k.2.trans h.2⟩
theorem KpAt.b {n₀ Bs : Nat} {w : World} (hn : n₀ ≤ w.heap.size) (hBs : Bs < w.heap.size) (W : World) (l : Nat) (o o' : Obj) (hl : w.heap.size ≤ l) (h : W.heap[l]? = some o) (h1 : o.isCells = false) (h2 : o.isWalk = false) : KpAt n₀ Bs W (W.putObj l o') :=
  ⟨belowK_b hn W l o o' hl h h1 h2, (grownBy_putObj' W l o').block Bs (by have := (Array.getElem?_eq_some_iff.1 h).1; omega) (fun e => by cases e; omega)⟩
theorem KpAt.cell {n₀ Bs : Nat} {W W' : World} (h : KpAt n₀ Bs W W') (o : Nat) : W'.cell? ⟨Bs, o, none⟩ = W.cell? ⟨Bs, o, none⟩ := World.cell?_of_block (a := ⟨Bs, o, none⟩) h.2

set_option maxRecDepth 100000 in
set_option maxHeartbeats 2000000 in
theorem segs1_in (F : Fence) (n : Nat) (h7 : F.fn 57) (hro : F.round = none) (hn : 1 ≤ n) (l Bs n₀ b off cap : Nat) (ss : List ByteArray) (hreach : ss.length ≤ 140737488351232) (hb : b < n₀) (J Jx : List Nat → World → Prop)
    (hY : ∀ pre x W, J pre W → pre.length < ss.length → YieldAt F (n - 1) Tryz.prog l (segEnc ss x) W fun e W' =>
      (e = .returned (.bool true) ∧ J (pre ++ [x]) W' ∧ KpAt n₀ Bs W W') ∨ (e = .returned (.bool false) ∧ Jx (pre ++ [x]) W'))
    (W : World) (hBs : W.cell? ⟨Bs, 0, none⟩ = some (.slice (some ⟨b, off, none⟩) ss.length cap)) (hc : ∀ (j : Nat) (h : j < ss.length), W.cell? ⟨b, off + j, none⟩ = some (.string ss[j])) (h0 : J [] W) :
    CallsIn F n Tryz.prog 57 #[.func (.yield l) #[] #[], .pointer (some ⟨Bs, 0, none⟩)] W fun e W' => (∃ v, e = .returned v) ∧
      ((∃ ys, ys = List.range ss.length ∧ J ys W') ∨ (∃ pre, (∃ k, k ≤ ss.length ∧ pre = List.range k) ∧ Jx pre W')) := by
  have HC := Lib.hid hc; clear hc
  have HY := Lib.hid hY; clear hY
  refine callsIn_of_wp Tryz.func57 rfl h7 ?_ hro
  simp only [Tryz.ntmps57, List.size_toArray, List.length_cons, List.length_nil, Nat.reduceAdd, Nat.reduceSub, Array.replicate_succ, Array.replicate_zero, List.push_toArray, List.append_toArray, List.nil_append, List.cons_append]
  gi_wp2
  gi_loopw [7] (fun i wr => ∃ k : Nat, k ≤ ss.length ∧ i = .int .i64 k ∧ J (List.range k) wr ∧ KpAt n₀ Bs W wr) (fun i _ => ss.length - (intOf i).toNat)
  case atStart => exact ⟨0, Nat.zero_le _, rfl, h0, Below.refl _ _, rfl⟩
  case round =>
    obtain ⟨k, hk, rfl, hJs, hnx⟩ := hrel
    by_cases hlt : k < ss.length
    · have hcx := (hnx.1.cell (p := ⟨b, off + k, none⟩) hb).trans (HC.out k hlt)
      have hBx := (hnx.cell 0).trans hBs
      obtain ⟨fn, tmps, assign, body, hy, hR⟩ := HY.out _ k wr hJs (by simpa using hlt)
      have hx : ss.getD k ByteArray.empty = ss[k] := by simp [hlt]
      rw [segEnc, hx] at hy
      obtain ⟨x, hx2⟩ : ∃ x, ss[k] = x := ⟨_, rfl⟩
      rw [hx2] at hy hcx
      clear hx hx2
      obtain ⟨lb, hlb⟩ : ∃ lb, decide (k + 1 = ss.length) = lb := ⟨_, rfl⟩
      have hq : ((k : Int) == (ss.length : Int) - 1) = lb := by rw [← hlb, Bool.eq_iff_iff]; simp; omega
      rw [hlb] at hy
      clear hlb hBs
      gi_wp2
      refine hR.mono ?_
      rintro e W3 (⟨rfl, hJ3, hk3⟩ | ⟨rfl, hJx3⟩)
      · gi_wp2
        go_roundw
        case rel => exact ⟨k + 1, by omega, by simp, by rw [List.range_succ]; exact hJ3, hnx.t hk3⟩
        case measure => simp [intOf]; omega
      · gi_wp2
        refine bodyPost_ret (results_none rfl _ _ _) rfl ?_
        exact ⟨⟨_, rfl⟩, .inr ⟨_, ⟨k + 1, by omega, (List.range_succ).symm⟩, hJx3⟩⟩
    · obtain rfl : k = ss.length := by omega
      gi_wp2
      go_end0
      exact ⟨⟨_, rfl⟩, .inl ⟨_, rfl, hJs⟩⟩

set_option maxRecDepth 100000 in
set_option maxHeartbeats 1000000 in
theorem segs1_nil_in (F : Fence) (n : Nat) (h7 : F.fn 57) (hro : F.round = none) (l Bs cap : Nat) (A : Option Addr) (J : List Nat → World → Prop) (W : World) (hBs : W.cell? ⟨Bs, 0, none⟩ = some (.slice A 0 cap)) (h0 : J [] W) :
    CallsIn F n Tryz.prog 57 #[.func (.yield l) #[] #[], .pointer (some ⟨Bs, 0, none⟩)] W fun e W' => (∃ v, e = .returned v) ∧ J [] W' := by
  refine callsIn_of_wp Tryz.func57 rfl h7 ?_ hro
  simp only [Tryz.ntmps57, List.size_toArray, List.length_cons, List.length_nil, Nat.reduceAdd, Nat.reduceSub, Array.replicate_succ, Array.replicate_zero, List.push_toArray, List.append_toArray, List.nil_append, List.cons_append]
  gi_wp2
  gi_loopw [7] (fun i wr => i = .int .i64 0 ∧ J [] wr) (fun _ _ => 0)
  case atStart => exact ⟨rfl, h0⟩
  case round =>
    obtain ⟨rfl, hJs⟩ := hrel
    gi_wp2
    go_end0
    exact ⟨⟨_, rfl⟩, hJs⟩

theorem segs_stops (F : Fence) (n : Nat) (h7 : F.fn 57) (hro : F.round = none) (hn : 1 ≤ n) (Bs n₀ cap : Nat) (A : Option Addr) (ss : List ByteArray) (hreach : ss.length ≤ 140737488351232) (w : World) (hBs : Bs < w.heap.size) (hn₀ : n₀ ≤ w.heap.size)
    (hc : w.cell? ⟨Bs, 0, none⟩ = some (.slice A ss.length cap)) (hI : ss = [] ∨ ∃ b off, A = some ⟨b, off, none⟩ ∧ b < n₀ ∧ ∀ (j : Nat) (h : j < ss.length), w.cell? ⟨b, off + j, none⟩ = some (.string ss[j])) :
    SeqStopsK F n Tryz.prog 57 #[.pointer (some ⟨Bs, 0, none⟩)] (segEnc ss) (KpAt n₀ Bs) (fun ys => ys = List.range ss.length) (fun pre => ∃ k, k ≤ ss.length ∧ pre = List.range k) ss.length w := fun l J Jx W hW _ _ hY h0 => by
  have hc' := (hW.cell (p := ⟨Bs, 0, none⟩) hBs).trans hc
  rcases hI with rfl | ⟨b, off, rfl, hb, hcs⟩
  · exact (segs1_nil_in F n h7 hro l Bs cap A J W hc' h0).mono fun e W' ⟨he, hj⟩ => ⟨he, .inl ⟨_, rfl, hj⟩⟩
  · exact segs1_in F n h7 hro hn l Bs n₀ b off cap ss hreach hb J Jx hY W hc' (fun j h => (hW.cell (p := ⟨b, off + j, none⟩) (by show b < _; omega)).trans (hcs j h)) h0

theorem Keeps.others {B b : Nat} {l : List UInt8} {W W' : World} (h : Keeps b W W') (hb : Bld B b l W) : KeepsOthers W W' :=
  ⟨h.1, fun k o hk ho => by
    have hlt := (Array.getElem?_eq_some_iff.1 hk).1
    have ha : Apart b k W := by
      refine ⟨fun e => ?_, fun v hv e => ?_⟩
      · subst e
        rcases hb with ⟨_, u, hbk, _⟩ | ⟨_, u, hbk, _⟩ <;> (rw [hbk] at hk; cases hk; simp [Obj.isCells] at ho)
      · rcases hb with ⟨_, u, hbk, hown, _⟩ | ⟨_, u, hbk, hown, _⟩
        all_goals
          have hc : W.cell? ⟨b, 1, none⟩ = some u := by rw [Lib.cell_of_heap hbk]; rfl
          rw [hc] at hv
          cases hv
          rcases hown.2 with ⟨rfl, _⟩ | ⟨g, cap, cur, rfl, _, hg, _⟩
          · cases e
          · cases e; rw [hg] at hk; cases hk; simp [Obj.isCells] at ho
    exact (h.2 k hlt ha).1.trans hk⟩

/-- A builder is not turned by what turns no cells. -/
theorem Bld.own (B b : Nat) (f : List Nat → List UInt8) : Own (fun (pre : List Nat) W => Bld B b (f pre) W) := fun s W W' row hs hg hr => by
  have key : ∀ p, BAt B b p (Lib.byteCells (f s)) W → BAt B b p (Lib.byteCells (f s)) W' := by
    rintro p ⟨hB, v, hbk, hown, hne⟩
    have hlt : b < W.heap.size := (Array.getElem?_eq_some_iff.1 hbk).1
    refine ⟨hB, v, ?_, hown.kept hg ?_, hne⟩
    · rw [hg.block b hlt (fun e => by obtain ⟨o, ho, hc⟩ := hr b e.symm; rw [hbk] at ho; cases ho; simp [Obj.isCells] at hc)]
      exact hbk
    · rcases hown.2 with ⟨rfl, _⟩ | ⟨g, cap, cur, rfl, _, hg2, _⟩
      · exact .inl rfl
      · exact .inr fun e => by obtain ⟨o, ho, hc⟩ := hr g e.symm; rw [hg2] at ho; cases ho; simp [Obj.isCells] at hc
  rcases hs with h | h
  · exact .inl (key _ h)
  · exact .inr (key _ h)

/-- A row of another type is no builder's. -/
theorem Bld.apart_ty {B b : Nat} {l : List UInt8} {w : World} (h : Bld B b l w) {k : Nat} {c : Array Value} {T : TypeId} {fz : Nat × Nat} (hk : w.heap[k]? = some (.cells c T fz)) (hT : T ≠ 5) (hkb : k ≠ b) : Apart b k w := by
  refine ⟨hkb, fun v hv e => ?_⟩
  rcases h with ⟨_, u, hbk, hown, _⟩ | ⟨_, u, hbk, hown, _⟩
  all_goals
    have hc : w.cell? ⟨b, 1, none⟩ = some u := by rw [Lib.cell_of_heap hbk]; rfl
    rw [hc] at hv
    cases hv
    rcases hown.2 with ⟨rfl, _⟩ | ⟨g, cap, cur, rfl, _, hg, _⟩
    · cases e
    · cases e; rw [hg] at hk; cases hk; exact hT rfl
theorem cells_own (k : Nat) (o : Obj) (ho : o.isCells = true) : Own (fun (_ : List Nat) W => W.heap[k]? = some o) := fun s W W' row hs hg hr => by
  have hlt := (Array.getElem?_eq_some_iff.1 hs).1
  refine (hg.block k hlt (fun e => ?_)).trans hs
  obtain ⟨o', ho', hc⟩ := hr k e.symm
  rw [hs] at ho'; cases ho'; rw [ho] at hc; cases hc
theorem getB_k (B b : Nat) (l : List UInt8) (w : World) (h : Bld B b l w) (hBw : B ≤ w.heap.size) :
    Calls Tryz.prog 23 #[.pointer (some ⟨b, 0, none⟩)] w fun e w' => e = .returned (.string ⟨l.toArray⟩) ∧ Below B w w' ∧ Lib.OthersKept 5 (some b) w w' :=
  (Tryz.Builder_String_any_k B b l w (Lib.IsBuilderF.of h) hBw).mono fun _ _ ⟨he, h⟩ => ⟨he, h.2⟩

set_option maxRecDepth 100000 in
set_option maxHeartbeats 2000000 in
theorem PShow_any (A : Option Addr) (ss : List ByteArray) (c : Nat) (w : World) (hS : Strs w A ss) (hm : ∀ s ∈ ss, s.size ≤ 1000000) (hl : ss.length ≤ 1000000) :
    Calls Tryz.prog 22 #[.slice A ss.length c] w fun e w' => e = .returned (.string ⟨(pshow ss).toArray⟩) ∧ Below w.heap.size w w' := by
  have hmx : ∀ x : Nat, (ss.getD x ByteArray.empty).size ≤ 1000000 := fun x => by
    by_cases h : x < ss.length
    · have := hm _ (List.getElem_mem h); simpa [h] using this
    · simp [h]
  have HMX := Lib.hid hmx; clear hmx hm
  refine (callsIn_wide (n := 4)).1 ?_
  refine callsIn_of_wp_marks Tryz.func22 rfl trivial ?_ rfl
  simp only [Tryz.ntmps22, List.size_toArray, List.length_cons, List.length_nil, Nat.reduceAdd, Nat.reduceSub, Array.replicate_succ, Array.replicate_zero, List.push_toArray, List.append_toArray, List.nil_append, List.cons_append]
  gi_wp2_with fail
  refine ⟨trivial, ?_⟩
  refine (callsIn_wide.2 (segs_any _ _ _ _)).mono ?_
  rintro e w' ⟨rfl, rfl⟩
  gi_wp2_with fail
  have hb0 := newB w
  have bN := Boxed.new (w.alloc (.cells #[.pointer none, .slice none 0 0] 39)) 25 (.slice A ss.length c)
  rw [World.size_alloc] at bN
  have hB0 : Below w.heap.size w ((w.alloc (.cells #[.pointer none, .slice none 0 0] 39)).alloc (.cells #[.slice A ss.length c] 25)) := ((Below.refl _ w).alloc (Nat.le_refl _) _).alloc (by simp) _
  refine wpIn_rangeFunc_ownG (n := 4) (F := Fence.wide) rfl (by decide) (gf := 57) (lb := #[.pointer (some ⟨w.heap.size + 1, 0, none⟩)]) rfl trivial (enters_of Tryz.func57 (by kernel_rfl) rfl)
    (segs_stops Fence.wide (4 - 1) trivial rfl (by decide) (w.heap.size + 1) w.heap.size c A ss (by omega) _ (by simp) (by simp; omega) bN.cell ?hI) KpAt.t (KpAt.b (by simp; omega) (by simp)) (Below.refl _ _) (fun _ => rfl)
    (fun pre W => (Bld w.heap.size w.heap.size (pshow (pre.map fun k => ss.getD k ByteArray.empty)) W ∧ W.heap[w.heap.size + 1]? = some (.cells #[.slice A ss.length c] 25 (0, 0))) ∧ Below w.heap.size w W)
    (fun _ _ _ => False)
    (OwnFrom.and (OwnFrom.and (Own.from (Bld.own w.heap.size w.heap.size fun pre => pshow (pre.map fun k => ss.getD k ByteArray.empty)) _) (Own.from (cells_own _ _ rfl) _)) (ownFrom_below (Nat.le_refl _) (by simp; omega)))
    (fun _ _ _ _ _ hs _ _ => hs)
    ⟨⟨hb0.alloc _, bN⟩, hB0⟩
    (fun x => { tmps := #[.slice A ss.length c, undef, .string ⟨#[]⟩, .pointer (some ⟨w.heap.size, 0, none⟩), .string (ss.getD x ByteArray.empty), .slice A ss.length c, .func (.func 57) #[] #[.pointer (some ⟨w.heap.size + 1, 0, none⟩)], .string (ss.getD x ByteArray.empty), .bool (decide (x + 1 = ss.length)), undef, undef, undef, undef], defers := [] }) ?assign ?body ?done ?stop
  case hI =>
    rcases hS with h | ⟨b, off, rfl, hlt, hc⟩
    · exact .inl h
    · exact .inr ⟨b, off, rfl, hlt, fun j h => (hB0.cell (p := ⟨b, off + j, none⟩) hlt).trans (hc j h)⟩
  case assign =>
    intro l x W K hK
    unfold segEnc
    gi_wp2
    exact hK
  case body =>
    rintro l pre x W ⟨⟨hb, hbs⟩, hB⟩ hlt
    have hx := HMX.out x
    obtain ⟨s, hs⟩ : ∃ s, ss.getD x ByteArray.empty = s := ⟨_, rfl⟩
    have hpl : (pshow (pre.map fun k => ss.getD k ByteArray.empty)).length ≤ pre.length * 1000001 := by
      have := pshow_len (pre.map fun k => ss.getD k ByteArray.empty) 1000000 (fun s hs => by obtain ⟨k, _, rfl⟩ := List.mem_map.1 hs; exact HMX.out k)
      simpa using this
    have hpt : pshow ((pre ++ [x]).map fun k => ss.getD k ByteArray.empty) = pshow (pre.map fun k => ss.getD k ByteArray.empty) ++ 47 :: s.data.toList := by
      rw [List.map_append, List.map_singleton, pshow_snoc, hs]
    have hlen : pre.length * 1000001 ≤ 1000000 * 1000001 := Nat.mul_le_mul_right _ (by omega)
    rw [hs] at hx ⊢
    have HT := Lib.hid hpt
    clear hpt hs
    gi_wp2_with fail
    refine ⟨trivial, ?_⟩
    refine (CallsIn.inRound l (callsIn_wide.2 (putS w.heap.size w.heap.size _ _ W hb ?_ hB.size))).mono ?_
    · rw [ByteArray.size_append]
      show _ + (1 + s.size) ≤ _
      omega
    rintro e W2 ⟨rfl, hb2, hB2, hk2⟩
    rw [data_append, List.singleton_append, ← HT.out] at hb2
    have hap := hb.apart_ty hbs (by decide) (by omega)
    have hk3 := (hk2.2 _ (Array.getElem?_eq_some_iff.1 hbs).1 hap).1
    gi_wp2_with fail
    exact ⟨(hk2.others hb).from _, ⟨hB2, hk3⟩, ⟨⟨hb2, hk3.trans hbs⟩, hB.trans hB2⟩⟩
  case done =>
    rintro D ys W hD rfl ⟨⟨hb, hbs⟩, hB⟩ hK
    rw [range_get] at hb
    gi_wp2_with fail
    refine ⟨trivial, ?_⟩
    refine (callsIn_wide.2 (getB_k _ _ _ _ hb hB.size)).mono ?_
    rintro e W2 ⟨rfl, hB2, hO2⟩
    have hK2 := hO2 _ _ hK (by simp at hD; simp; omega) (fun _ _ h => by cases h)
    gi_wp2_with fail
    refine ⟨by simp, .inl ⟨_, _, rfl, run_takeDeferred hK2, ?_⟩⟩
    exact ⟨_, results_tmp rfl _ _ _, rfl, (hB.trans hB2).trans (belowK_b (w := w) (Nat.le_refl _) W2 D _ _ (by simp at hD; omega) hK2 rfl rfl)⟩
  case stop =>
    rintro D c pre W _ _ h _
    exact h.elim
end Go.Proofs.YtkmoakfphfakoaaGreat
