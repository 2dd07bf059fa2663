/-
  Walks, parts RI RJ RK RL, in one text.
-/
import Derived.Test.YtkmoakfphfakoaaGreatYA
import Derived.Lib.IndexAny
import Derived.Test.YtkmoakfphfakoaaGreatYD
import Derived.Test.YtkmoakfphfakoaaGreatS
import Derived.Laws.Rows
import Derived.Test.YtkmoakfphfakoaaGreatZ
import Derived.Test.YtkmoakfphfakoaaGreatYE
import Derived.Lib.QuietBelow
set_option linter.unusedVariables false
set_option linter.unusedSimpArgs false
namespace Go.Proofs.YtkmoakfphfakoaaGreat
open Go.RowKit

theorem lowB_dot (a : UInt8) : lowB a = 46 ↔ a = 46 := by
  have h : ∀ a : UInt8, (lowB a == 46) = (a == 46) := fun a => byte_all (p := fun a => (lowB a == 46) = (a == 46)) (by decide +kernel) a
  have := h a
  rw [Bool.eq_iff_iff, beq_iff_eq, beq_iff_eq] at this
  exact this
theorem dots2 (t : List UInt8) : dotsFrom 2 t = if t = [] then 2 else 0 := by
  rcases t with _ | ⟨a, t⟩
  · rfl
  · rw [if_neg (by simp)]
    by_cases ha : a = 46
    · subst ha; rw [dots_dot]; rfl
    · rcases t with _ | ⟨b, _ | ⟨c, t⟩⟩
      · exact dots_no _ _ _ ha (by simp)
      · exact dots_no _ _ _ ha (by simp)
      · rw [dots_e _ _ _ _ _ ha]; split <;> rfl
theorem dots1 (t : List UInt8) : dotsFrom 1 t = if t = [] then 1 else if t.map lowB = [46] ∨ t.map lowB = [37, 50, 101] then 2 else 0 := by
  rcases t with _ | ⟨a, t⟩
  · rfl
  · rw [if_neg (by simp)]
    by_cases ha : a = 46
    · subst ha
      rw [dots_dot, if_neg (by omega), dots2]
      have e : lowB 46 = 46 := by decide
      simp only [List.map_cons, e]
      by_cases h : t = []
      · subst h; simp
      · rw [if_neg h, if_neg]
        rintro (h1 | h1)
        · simp at h1; exact h h1
        · simp at h1
    · have ha' : lowB a ≠ 46 := fun e => ha ((lowB_dot a).1 e)
      rcases t with _ | ⟨b, _ | ⟨c, t⟩⟩
      · rw [dots_no _ _ _ ha (by simp), if_neg]
        simp [ha']
      · rw [dots_no _ _ _ ha (by simp), if_neg]
        simp
      · rw [dots_e _ _ _ _ _ ha]
        by_cases h1 : [a, b, c].map lowB = [37, 50, 101]
        · rw [if_pos h1, if_neg (by omega), dots2]
          have h2 : (a :: b :: c :: t).map lowB = [37, 50, 101] ++ t.map lowB := by rw [← h1]; simp
          rw [h2]
          by_cases h : t = []
          · subst h; simp
          · have hm : t.map lowB ≠ [] := by simpa using h
            rw [if_neg h, if_neg]
            rintro (h3 | h3)
            · simp at h3
            · exact hm (by simpa using h3)
        · rw [if_neg h1, if_neg]
          rintro (h3 | h3)
          · simp at h3
          · have : t = [] := by
              have := congrArg List.length h3
              simp at this
              exact this
            subst this
            exact h1 h3
theorem dots0 (l : List UInt8) : dotsFrom 0 l = dotsR (l.map lowB) := by
  unfold dotsR
  rcases l with _ | ⟨a, t⟩
  · rfl
  · by_cases ha : a = 46
    · subst ha
      rw [dots_dot, if_neg (by omega), dots1]
      have e : lowB 46 = 46 := by decide
      simp only [List.map_cons, e]
      by_cases h : t = []
      · subst h; rfl
      · have hm : t.map lowB ≠ [] := by simpa using h
        rw [if_neg h]
        generalize t.map lowB = m at hm
        have h0 : ¬ (46 :: m = [46] ∨ 46 :: m = [37, 50, 101]) := by simp [hm]
        by_cases h1 : m = [46] ∨ m = [37, 50, 101]
        · rw [if_pos h1, if_neg h0, if_pos]
          rcases h1 with h1 | h1 <;> simp [h1]
        · rw [if_neg h1, if_neg h0, if_neg]
          simpa using h1
    · have ha' : lowB a ≠ 46 := fun e => ha ((lowB_dot a).1 e)
      rcases t with _ | ⟨b, _ | ⟨c, t⟩⟩
      · rw [dots_no _ _ _ ha (by simp), if_neg (by simp [ha']), if_neg (by simp)]
      · rw [dots_no _ _ _ ha (by simp), if_neg (by simp), if_neg (by simp [ha'])]
      · rw [dots_e _ _ _ _ _ ha]
        by_cases h1 : [a, b, c].map lowB = [37, 50, 101]
        · rw [if_pos h1, if_neg (by omega), dots1]
          have h2 : (a :: b :: c :: t).map lowB = [37, 50, 101] ++ t.map lowB := by rw [← h1]; simp
          rw [h2]
          by_cases h : t = []
          · subst h; rfl
          · have hm : t.map lowB ≠ [] := by simpa using h
            rw [if_neg h]
            generalize t.map lowB = m at hm
            have h0 : ¬ ([37, 50, 101] ++ m = [46] ∨ [37, 50, 101] ++ m = [37, 50, 101]) := by simp [hm]
            by_cases h3 : m = [46] ∨ m = [37, 50, 101]
            · rw [if_pos h3, if_neg h0, if_pos]
              rcases h3 with h3 | h3 <;> simp [h3]
            · rw [if_neg h3, if_neg h0, if_neg]
              simpa using h3
        · rw [if_neg h1, if_neg, if_neg]
          · rintro (h3 | h3 | h3 | h3)
            · simp at h3
            · exact ha' (by simpa using congrArg List.head? h3)
            · refine h1 ?_
              have := congrArg (List.take 3) h3
              simpa using this
            · refine h1 ?_
              have := congrArg (List.take 3) h3
              simpa using this
          · rintro (h3 | h3)
            · simp at h3
            · have : t = [] := by
                have := congrArg List.length h3
                simp at this
                exact this
              subst this
              exact h1 h3
theorem has_all (l : List UInt8) (b : UInt8) : has l b = !(l.all fun c => c != b) := by
  unfold has
  rw [← Lib.contains_iff_indexByte]
  rw [Bool.eq_iff_iff]
  simp
theorem segOdd_eq (s : ByteArray) : segOdd s.data.toList = !rseg s := by
  unfold segOdd rseg
  rw [dots0, has_all]
  show _ = !(ready 3 s.data.toList && (dotsR (s.data.toList.map lowB) == 0) && _)
  generalize ready 3 s.data.toList = r
  generalize (s.data.toList.all fun c => c != 47) = a
  generalize dotsR (s.data.toList.map lowB) = d
  have e : decide (0 < d) = !(d == 0) := by
    rw [Bool.eq_iff_iff]
    simp
    omega
  rw [e]
  cases r <;> cases a <;> cases (d == 0) <;> rfl
theorem rpmay_eq (ss : List ByteArray) : rpmay ss = pmay ss := by
  unfold rpmay pmay
  rw [Bool.and_comm]
  congr 1
  apply congrArg (fun f => ss.all f)
  funext s
  rw [segOdd_eq, Bool.not_not]
end Go.Proofs.YtkmoakfphfakoaaGreat

set_option linter.unusedVariables false
set_option linter.unusedSimpArgs false
namespace Go.Proofs.YtkmoakfphfakoaaGreat
open Go.RowKit Go.Shelf
attribute [local go_sem] Oper.semAt_some

theorem eq8_comm (p0 p1 p2 p3 p4 p5 p6 p7 q0 q1 q2 q3 q4 q5 q6 q7 : Int) : eq8 p0 p1 p2 p3 p4 p5 p6 p7 q0 q1 q2 q3 q4 q5 q6 q7 = eq8 q0 q1 q2 q3 q4 q5 q6 q7 p0 p1 p2 p3 p4 p5 p6 p7 := by
  have h : ∀ a b : Int, (a == b) = (b == a) := fun a b => by rw [Bool.eq_iff_iff, beq_iff_eq, beq_iff_eq]; exact eq_comm
  unfold eq8
  rw [h p0 q0, h p1 q1, h p2 q2, h p3 q3, h p4 q4, h p5 q5, h p6 q6, h p7 q7]

abbrev hcells (k : Int) (s : ByteArray) (n p0 p1 p2 p3 p4 p5 p6 p7 : Int) : Array Value := #[.int .i64 k, .string s, .int .i64 n, .int .i64 p0, .int .i64 p1, .int .i64 p2, .int .i64 p3, .int .i64 p4, .int .i64 p5, .int .i64 p6, .int .i64 p7]
/-- A host lies whole at block b. -/
def HAt (k : Int) (s : ByteArray) (n p0 p1 p2 p3 p4 p5 p6 p7 : Int) (b : Nat) (w : World) : Prop := w.heap[b]? = some (.cells (hcells k s n p0 p1 p2 p3 p4 p5 p6 p7) 24 (0, 0))
theorem HAt.keep {k : Int} {s : ByteArray} {n p0 p1 p2 p3 p4 p5 p6 p7 : Int} {b : Nat} {w w' : World} (h : HAt k s n p0 p1 p2 p3 p4 p5 p6 p7 b w) (hb : Below w.heap.size w w') : HAt k s n p0 p1 p2 p3 p4 p5 p6 p7 b w' :=
  (hb.block b (Array.getElem?_eq_some_iff.1 h).1).trans h
theorem HAt.cells {k : Int} {s : ByteArray} {n p0 p1 p2 p3 p4 p5 p6 p7 : Int} {b : Nat} {W : World} (h : HAt k s n p0 p1 p2 p3 p4 p5 p6 p7 b W) :
    W.cell? ⟨b, 0, none⟩ = some (.int .i64 k) ∧ W.cell? ⟨b, 1, none⟩ = some (.string s) ∧ W.cell? ⟨b, 2, none⟩ = some (.int .i64 n) ∧ W.cell? ⟨b, 3, none⟩ = some (.int .i64 p0) ∧ W.cell? ⟨b, 4, none⟩ = some (.int .i64 p1) ∧ W.cell? ⟨b, 5, none⟩ = some (.int .i64 p2) ∧ W.cell? ⟨b, 6, none⟩ = some (.int .i64 p3) ∧ W.cell? ⟨b, 7, none⟩ = some (.int .i64 p4) ∧ W.cell? ⟨b, 8, none⟩ = some (.int .i64 p5) ∧ W.cell? ⟨b, 9, none⟩ = some (.int .i64 p6) ∧ W.cell? ⟨b, 10, none⟩ = some (.int .i64 p7) := by
  have hc : ∀ j, W.cell? ⟨b, j, none⟩ = (hcells k s n p0 p1 p2 p3 p4 p5 p6 p7)[j]? := fun j => Lib.cell_of_heap h j
  exact ⟨hc 0, hc 1, hc 2, hc 3, hc 4, hc 5, hc 6, hc 7, hc 8, hc 9, hc 10⟩

set_option maxRecDepth 100000 in
set_option maxHeartbeats 4000000 in
theorem RHMay_any (k : Int) (s : ByteArray) (hs : s.size ≤ 140737488351232) (n p0 p1 p2 p3 p4 p5 p6 p7 : Int) (w : World) :
    Calls Tryz.prog 43 #[hostV k s n p0 p1 p2 p3 p4 p5 p6 p7] w fun e w' => e = .returned (.bool (hmay k s n p0 p1 p2 p3 p4 p5 p6 p7)) ∧ Below w.heap.size w w' := by
  obtain ⟨W, hW⟩ : ∃ W, w.alloc (.cells (hcells k s n p0 p1 p2 p3 p4 p5 p6 p7) 24) = W := ⟨_, rfl⟩
  have hH : HAt k s n p0 p1 p2 p3 p4 p5 p6 p7 w.heap.size W := by rw [← hW]; exact heap_alloc_new w _
  have hbl : Below w.heap.size w W := by rw [← hW]; exact (Below.refl _ _).alloc (Nat.le_refl _) _
  have kN := fun Wx => RName_any s (by omega) Wx
  have kS := fun Wx => RMay6_any p0 p1 p2 p3 p4 p5 p6 p7 Wx
  unfold hmay
  rw [eq8_comm 0 0 0 0 0 0 0 0 p0 p1 p2 p3 p4 p5 p6 p7]
  have HE := Lib.hid (rfl : eq8 p0 p1 p2 p3 p4 p5 p6 p7 0 0 0 0 0 0 0 0 = eq8 p0 p1 p2 p3 p4 p5 p6 p7 0 0 0 0 0 0 0 0)
  generalize fitsD s.data.toList = f at kN ⊢
  generalize mayS [p0, p1, p2, p3, p4, p5, p6, p7] = m at kS ⊢
  have HH := Lib.hid hH
  obtain ⟨_, c1, _⟩ := hH.cells
  clear hH
  have walk : ∀ (R : Ending → World → Prop), (∀ w2, Below W.heap.size W w2 → HAt k s n p0 p1 p2 p3 p4 p5 p6 p7 w.heap.size w2 → True) → True := fun _ _ => trivial
  clear walk
  by_cases h1 : k = 1
  · subst h1
    rw [if_pos rfl]
    cases f with
    | false =>
      go_enter Tryz.func43, Tryz.ntmps43
      go_wp2_with fail
      with_reducible refine Calls.mono (kN _) ?_
      rintro e w1 ⟨rfl, b1⟩
      clear hW c1
      obtain ⟨c0, c1, c2, c3, c4, c5, c6, c7, c8, c9, c10⟩ := (HH.out.keep b1).cells
      go_wp2_with fail
      with_reducible refine Calls.mono (kS _) ?_
      rintro e w2 ⟨rfl, b2⟩
      clear c0 c1 c2 c3 c4 c5 c6 c7 c8 c9 c10
      obtain ⟨c0, c1, c2, c3, c4, c5, c6, c7, c8, c9, c10⟩ := ((HH.out.keep b1).keep b2).cells
      go_wp2_with fail
      go_ret
      exact ⟨rfl, hbl.trans ((b1.trans (b2.mono b1.size)).mono hbl.size)⟩
    | true =>
      cases hn : (n == 0)
      all_goals
        go_enter Tryz.func43, Tryz.ntmps43
        go_wp2_with fail
        with_reducible refine Calls.mono (kN _) ?_
        rintro e w1 ⟨rfl, b1⟩
        clear hW c1
        obtain ⟨c0, c1, c2, c3, c4, c5, c6, c7, c8, c9, c10⟩ := (HH.out.keep b1).cells
        go_wp2_with fail
        with_reducible refine Calls.mono (kS _) ?_
        rintro e w2 ⟨rfl, b2⟩
        clear c0 c1 c2 c3 c4 c5 c6 c7 c8 c9 c10
        obtain ⟨c0, c1, c2, c3, c4, c5, c6, c7, c8, c9, c10⟩ := ((HH.out.keep b1).keep b2).cells
        go_wp2_with fail
        go_ret
        exact ⟨rfl, hbl.trans ((b1.trans (b2.mono b1.size)).mono hbl.size)⟩
  rw [if_neg h1]
  have e1 : (k == 1) = false := by simpa using h1
  by_cases h2 : k = 2
  · subst h2
    rw [if_pos rfl]
    have hd : decide (0 ≤ n ∧ n ≤ 4294967295) = (decide (0 ≤ n) && decide (n ≤ 4294967295)) := by rw [Bool.eq_iff_iff]; simp
    rw [hd]
    clear hd h1
    cases hse : s.toList.isEmpty
    · cases decide (0 ≤ n) <;> cases decide (n ≤ 4294967295)
      all_goals
        go_enter Tryz.func43, Tryz.ntmps43
        go_wp2_with fail
        with_reducible refine Calls.mono (kN _) ?_
        rintro e w1 ⟨rfl, b1⟩
        clear hW c1
        obtain ⟨c0, c1, c2, c3, c4, c5, c6, c7, c8, c9, c10⟩ := (HH.out.keep b1).cells
        go_wp2_with fail
        with_reducible refine Calls.mono (kS _) ?_
        rintro e w2 ⟨rfl, b2⟩
        clear c0 c1 c2 c3 c4 c5 c6 c7 c8 c9 c10
        obtain ⟨c0, c1, c2, c3, c4, c5, c6, c7, c8, c9, c10⟩ := ((HH.out.keep b1).keep b2).cells
        go_wp2_with fail
        go_ret
        exact ⟨rfl, hbl.trans ((b1.trans (b2.mono b1.size)).mono hbl.size)⟩
    · cases hg1 : decide (0 ≤ n)
      · simp only [Bool.false_and]
        go_enter Tryz.func43, Tryz.ntmps43
        go_wp2_with fail
        with_reducible refine Calls.mono (kN _) ?_
        rintro e w1 ⟨rfl, b1⟩
        clear hW c1
        obtain ⟨c0, c1, c2, c3, c4, c5, c6, c7, c8, c9, c10⟩ := (HH.out.keep b1).cells
        go_wp2_with fail
        with_reducible refine Calls.mono (kS _) ?_
        rintro e w2 ⟨rfl, b2⟩
        clear c0 c1 c2 c3 c4 c5 c6 c7 c8 c9 c10
        obtain ⟨c0, c1, c2, c3, c4, c5, c6, c7, c8, c9, c10⟩ := ((HH.out.keep b1).keep b2).cells
        go_wp2_with fail
        go_ret
        exact ⟨rfl, hbl.trans ((b1.trans (b2.mono b1.size)).mono hbl.size)⟩
      · cases hg2 : decide (n ≤ 4294967295)
        · simp only [Bool.and_false, Bool.false_and]
          go_enter Tryz.func43, Tryz.ntmps43
          go_wp2_with fail
          with_reducible refine Calls.mono (kN _) ?_
          rintro e w1 ⟨rfl, b1⟩
          clear hW c1
          obtain ⟨c0, c1, c2, c3, c4, c5, c6, c7, c8, c9, c10⟩ := (HH.out.keep b1).cells
          go_wp2_with fail
          with_reducible refine Calls.mono (kS _) ?_
          rintro e w2 ⟨rfl, b2⟩
          clear c0 c1 c2 c3 c4 c5 c6 c7 c8 c9 c10
          obtain ⟨c0, c1, c2, c3, c4, c5, c6, c7, c8, c9, c10⟩ := ((HH.out.keep b1).keep b2).cells
          go_wp2_with fail
          go_ret
          exact ⟨rfl, hbl.trans ((b1.trans (b2.mono b1.size)).mono hbl.size)⟩
        · simp only [Bool.true_and]
          go_enter Tryz.func43, Tryz.ntmps43
          go_wp2_with fail
          with_reducible refine Calls.mono (kN _) ?_
          rintro e w1 ⟨rfl, b1⟩
          clear hW c1
          obtain ⟨c0, c1, c2, c3, c4, c5, c6, c7, c8, c9, c10⟩ := (HH.out.keep b1).cells
          go_wp2_with fail
          with_reducible refine Calls.mono (kS _) ?_
          rintro e w2 ⟨rfl, b2⟩
          clear c0 c1 c2 c3 c4 c5 c6 c7 c8 c9 c10
          obtain ⟨c0, c1, c2, c3, c4, c5, c6, c7, c8, c9, c10⟩ := ((HH.out.keep b1).keep b2).cells
          go_wp2_with fail
          go_ret
          exact ⟨rfl, hbl.trans ((b1.trans (b2.mono b1.size)).mono hbl.size)⟩
  rw [if_neg h2]
  have e2 : (k == 2) = false := by simpa using h2
  by_cases h3 : k = 3
  · subst h3
    rw [if_pos rfl]
    clear h1 h2
    cases hse : s.toList.isEmpty
    · simp only [Bool.false_and, Bool.and_false]
      go_enter Tryz.func43, Tryz.ntmps43
      go_wp2_with fail
      with_reducible refine Calls.mono (kN _) ?_
      rintro e w1 ⟨rfl, b1⟩
      clear hW c1
      obtain ⟨c0, c1, c2, c3, c4, c5, c6, c7, c8, c9, c10⟩ := (HH.out.keep b1).cells
      go_wp2_with fail
      with_reducible refine Calls.mono (kS _) ?_
      rintro e w2 ⟨rfl, b2⟩
      clear c0 c1 c2 c3 c4 c5 c6 c7 c8 c9 c10
      obtain ⟨c0, c1, c2, c3, c4, c5, c6, c7, c8, c9, c10⟩ := ((HH.out.keep b1).keep b2).cells
      go_wp2_with fail
      go_ret
      exact ⟨rfl, hbl.trans ((b1.trans (b2.mono b1.size)).mono hbl.size)⟩
    · cases hn : (n == 0)
      · simp only [Bool.and_false]
        go_enter Tryz.func43, Tryz.ntmps43
        go_wp2_with fail
        with_reducible refine Calls.mono (kN _) ?_
        rintro e w1 ⟨rfl, b1⟩
        clear hW c1
        obtain ⟨c0, c1, c2, c3, c4, c5, c6, c7, c8, c9, c10⟩ := (HH.out.keep b1).cells
        go_wp2_with fail
        with_reducible refine Calls.mono (kS _) ?_
        rintro e w2 ⟨rfl, b2⟩
        clear c0 c1 c2 c3 c4 c5 c6 c7 c8 c9 c10
        obtain ⟨c0, c1, c2, c3, c4, c5, c6, c7, c8, c9, c10⟩ := ((HH.out.keep b1).keep b2).cells
        go_wp2_with fail
        go_ret
        exact ⟨rfl, hbl.trans ((b1.trans (b2.mono b1.size)).mono hbl.size)⟩
      · simp only [Bool.and_true]
        go_enter Tryz.func43, Tryz.ntmps43
        go_wp2_with fail
        with_reducible refine Calls.mono (kN _) ?_
        rintro e w1 ⟨rfl, b1⟩
        clear hW c1
        obtain ⟨c0, c1, c2, c3, c4, c5, c6, c7, c8, c9, c10⟩ := (HH.out.keep b1).cells
        go_wp2_with fail
        with_reducible refine Calls.mono (kS _) ?_
        rintro e w2 ⟨rfl, b2⟩
        clear c0 c1 c2 c3 c4 c5 c6 c7 c8 c9 c10
        obtain ⟨c0, c1, c2, c3, c4, c5, c6, c7, c8, c9, c10⟩ := ((HH.out.keep b1).keep b2).cells
        go_wp2_with fail
        go_ret
        exact ⟨rfl, hbl.trans ((b1.trans (b2.mono b1.size)).mono hbl.size)⟩
  rw [if_neg h3]
  have e3 : (k == 3) = false := by simpa using h3
  clear h1 h2 h3
  go_enter Tryz.func43, Tryz.ntmps43
  go_wp2_with fail
  with_reducible refine Calls.mono (kN _) ?_
  rintro e w1 ⟨rfl, b1⟩
  clear hW c1
  obtain ⟨c0, c1, c2, c3, c4, c5, c6, c7, c8, c9, c10⟩ := (HH.out.keep b1).cells
  go_wp2_with fail
  with_reducible refine Calls.mono (kS _) ?_
  rintro e w2 ⟨rfl, b2⟩
  clear c0 c1 c2 c3 c4 c5 c6 c7 c8 c9 c10
  obtain ⟨c0, c1, c2, c3, c4, c5, c6, c7, c8, c9, c10⟩ := ((HH.out.keep b1).keep b2).cells
  go_wp2_with fail
  go_ret
  exact ⟨rfl, hbl.trans ((b1.trans (b2.mono b1.size)).mono hbl.size)⟩

set_option maxRecDepth 100000 in
set_option maxHeartbeats 4000000 in
theorem RHShow_any (k : Int) (s : ByteArray) (hs : s.size ≤ 140737488351232) (n p0 p1 p2 p3 p4 p5 p6 p7 : Int) (hn : (Lit.int .i64 n).wf = true) (w : World) :
    Calls Tryz.prog 30 #[hostV k s n p0 p1 p2 p3 p4 p5 p6 p7] w fun e w' => e = .returned (.string ⟨(hshow k s n p0 p1 p2 p3 p4 p5 p6 p7).toArray⟩) ∧ Below w.heap.size w w' := by
  obtain ⟨W, hW⟩ : ∃ W, w.alloc (.cells (hcells k s n p0 p1 p2 p3 p4 p5 p6 p7) 24) = W := ⟨_, rfl⟩
  have hH : HAt k s n p0 p1 p2 p3 p4 p5 p6 p7 w.heap.size W := by rw [← hW]; exact heap_alloc_new w _
  have hbl : Below w.heap.size w W := by rw [← hW]; exact (Below.refl _ _).alloc (Nat.le_refl _) _
  have kM := fun Wx => RHMay_any k s hs n p0 p1 p2 p3 p4 p5 p6 p7 Wx
  have k4 := fun Wx => RShow5_any n Wx hn
  have k6 := fun Wx => RShow6_any p0 p1 p2 p3 p4 p5 p6 p7 Wx
  have hl6 := showS_len [p0, p1, p2, p3, p4, p5, p6, p7] rfl
  have hkk : hmay k s n p0 p1 p2 p3 p4 p5 p6 p7 = true → k = 1 ∨ k = 2 ∨ k = 3 := fun h => by
    unfold hmay at h
    by_cases h1 : k = 1
    · exact .inl h1
    by_cases h2 : k = 2
    · exact .inr (.inl h2)
    by_cases h3 : k = 3
    · exact .inr (.inr h3)
    rw [if_neg h1, if_neg h2, if_neg h3] at h
    cases h
  unfold hshow
  generalize hmay k s n p0 p1 p2 p3 p4 p5 p6 p7 = m at kM hkk ⊢
  generalize fourS n = tf at k4 ⊢
  generalize showS [p0, p1, p2, p3, p4, p5, p6, p7] = ts at k6 hl6 ⊢
  have HH := Lib.hid hH
  obtain ⟨c0, c1, c2, c3, c4, c5, c6, c7, c8, c9, c10⟩ := hH.cells
  clear hH
  cases m with
  | false =>
    go_enter Tryz.func30, Tryz.ntmps30
    go_wp2_with fail
    with_reducible refine Calls.mono (kM _) ?_
    rintro e w1 ⟨rfl, b1⟩
    go_wp2_with fail
    go_ret
    exact ⟨rfl, hbl.trans (b1.mono hbl.size)⟩
  | true =>
    rw [if_pos rfl]
    rcases hkk rfl with rfl | rfl | rfl
    · rw [if_pos rfl]
      go_enter Tryz.func30, Tryz.ntmps30
      go_wp2_with fail
      with_reducible refine Calls.mono (kM _) ?_
      rintro e w1 ⟨rfl, b1⟩
      clear hW c0 c1 c2 c3 c4 c5 c6 c7 c8 c9 c10
      obtain ⟨c0, c1, c2, c3, c4, c5, c6, c7, c8, c9, c10⟩ := (HH.out.keep b1).cells
      go_wp2_with fail
      go_ret
      exact ⟨rfl, hbl.trans (b1.mono hbl.size)⟩
    · rw [if_neg (by decide), if_pos rfl]
      go_enter Tryz.func30, Tryz.ntmps30
      go_wp2_with fail
      with_reducible refine Calls.mono (kM _) ?_
      rintro e w1 ⟨rfl, b1⟩
      clear hW c0 c1 c2 c3 c4 c5 c6 c7 c8 c9 c10
      obtain ⟨c0, c1, c2, c3, c4, c5, c6, c7, c8, c9, c10⟩ := (HH.out.keep b1).cells
      go_wp2_with fail
      with_reducible refine Calls.mono (k4 _) ?_
      rintro e w2 ⟨rfl, b2⟩
      go_wp2_with fail
      go_ret
      exact ⟨rfl, hbl.trans ((b1.trans (b2.mono b1.size)).mono hbl.size)⟩
    · rw [if_neg (by decide), if_neg (by decide)]
      have q1 := concat_run Tryz.prog [91] ts (by simp; omega)
      have q2 := concat_run Tryz.prog ([91] ++ ts) [93] (by simp; omega)
      go_enter Tryz.func30, Tryz.ntmps30
      go_wp2_with fail
      with_reducible refine Calls.mono (kM _) ?_
      rintro e w1 ⟨rfl, b1⟩
      clear hW c0 c1 c2 c3 c4 c5 c6 c7 c8 c9 c10
      obtain ⟨c0, c1, c2, c3, c4, c5, c6, c7, c8, c9, c10⟩ := (HH.out.keep b1).cells
      go_wp2_with fail
      with_reducible refine Calls.mono (k6 _) ?_
      rintro e w2 ⟨rfl, b2⟩
      go_wp2_with fail
      go_ret
      exact ⟨rfl, hbl.trans ((b1.trans (b2.mono b1.size)).mono hbl.size)⟩
end Go.Proofs.YtkmoakfphfakoaaGreat

set_option linter.unusedVariables false
set_option linter.unusedSimpArgs false
namespace Go.Proofs.YtkmoakfphfakoaaGreat
open Go.RowKit Go.Shelf Go.Sort
attribute [local go_sem] Oper.semAt_some

theorem UAt.hqC {u : Url} {n : Nat} {W : World} {b : Bool} (h : UAt u n W) (e : u.hq = b) : W.cell? ⟨n, 19, none⟩ = some (.bool b) := by subst e; exact h.cell 19
theorem UAt.hfC {u : Url} {n : Nat} {W : World} {b : Bool} (h : UAt u n W) (e : u.hf = b) : W.cell? ⟨n, 20, none⟩ = some (.bool b) := by subst e; exact h.cell 20

set_option maxRecDepth 100000 in
set_option maxHeartbeats 4000000 in
theorem RTails_any (u : Url) (w : World) (hu : u.Ok w) :
    Calls Tryz.prog 39 #[u.val] w fun e w' => e = .returned (.bool u.tails) ∧ Below w.heap.size w w' := by
  obtain ⟨w0, hw0⟩ : ∃ w0, w.alloc (.cells u.cells 27) = w0 := ⟨_, rfl⟩
  have hU : UAt u w.heap.size w0 := by rw [← hw0]; exact UAt.new u w
  have hb0 : Below w.heap.size w w0 := by rw [← hw0]; exact (Below.refl _ w).alloc (Nat.le_refl _) _
  have k2 := fun Wx => RReady_any u.qry 2 (by omega) (by have := hu.qry; omega) Wx
  have k1 := fun Wx => RReady_any u.frg 1 (by omega) (by have := hu.frg; omega) Wx
  unfold Url.tails
  generalize ready 2 u.qry.data.toList = r2 at k2 ⊢
  generalize ready 1 u.frg.data.toList = r1 at k1 ⊢
  have HU := Lib.hid hU
  have c17 : w0.cell? ⟨w.heap.size, 17, none⟩ = some (.string u.qry) := hU.cell 17
  clear hU hu
  obtain ⟨bq, hbq⟩ : ∃ x, u.hq = x := ⟨_, rfl⟩
  obtain ⟨bf, hbf⟩ : ∃ x, u.hf = x := ⟨_, rfl⟩
  rw [hbq, hbf]
  have HQ := Lib.hid hbq
  have HF := Lib.hid hbf
  clear hbq hbf
  cases r2 with
  | false =>
    simp only [Bool.false_and]
    go_enter Tryz.func39, Tryz.ntmps39
    go_wp2_with fail
    with_reducible refine Calls.mono (k2 _) ?_
    rintro e w1 ⟨rfl, b1⟩
    clear c17 hw0
    have hU1 := HU.out.below b1
    have c18 : w1.cell? ⟨w.heap.size, 18, none⟩ = some (.string u.frg) := hU1.cell 18
    go_wp2_with fail
    with_reducible refine Calls.mono (k1 _) ?_
    rintro e w2 ⟨rfl, b2⟩
    clear c18
    have hU2 := hU1.below b2
    have c17 : w2.cell? ⟨w.heap.size, 17, none⟩ = some (.string u.qry) := hU2.cell 17
    have c18 : w2.cell? ⟨w.heap.size, 18, none⟩ = some (.string u.frg) := hU2.cell 18
    have c19 := hU2.hqC HQ.out
    have c20 := hU2.hfC HF.out
    go_wp2_with fail
    go_ret
    exact ⟨rfl, hb0.trans ((b1.trans (b2.mono b1.size)).mono hb0.size)⟩
  | true =>
    cases r1 with
    | false =>
      simp only [Bool.true_and, Bool.false_and]
      go_enter Tryz.func39, Tryz.ntmps39
      go_wp2_with fail
      with_reducible refine Calls.mono (k2 _) ?_
      rintro e w1 ⟨rfl, b1⟩
      clear c17 hw0
      have hU1 := HU.out.below b1
      have c18 : w1.cell? ⟨w.heap.size, 18, none⟩ = some (.string u.frg) := hU1.cell 18
      go_wp2_with fail
      with_reducible refine Calls.mono (k1 _) ?_
      rintro e w2 ⟨rfl, b2⟩
      clear c18
      have hU2 := hU1.below b2
      have c17 : w2.cell? ⟨w.heap.size, 17, none⟩ = some (.string u.qry) := hU2.cell 17
      have c18 : w2.cell? ⟨w.heap.size, 18, none⟩ = some (.string u.frg) := hU2.cell 18
      have c19 := hU2.hqC HQ.out
      have c20 := hU2.hfC HF.out
      go_wp2_with fail
      go_ret
      exact ⟨rfl, hb0.trans ((b1.trans (b2.mono b1.size)).mono hb0.size)⟩
    | true =>
      simp only [Bool.true_and]
      cases bq <;> cases hqe : u.qry.toList.isEmpty
      case false.false =>
        simp only [Bool.or_false, Bool.false_and]
        go_enter Tryz.func39, Tryz.ntmps39
        go_wp2_with fail
        with_reducible refine Calls.mono (k2 _) ?_
        rintro e w1 ⟨rfl, b1⟩
        clear c17 hw0
        have hU1 := HU.out.below b1
        have c18 : w1.cell? ⟨w.heap.size, 18, none⟩ = some (.string u.frg) := hU1.cell 18
        go_wp2_with fail
        with_reducible refine Calls.mono (k1 _) ?_
        rintro e w2 ⟨rfl, b2⟩
        clear c18
        have hU2 := hU1.below b2
        have c17 : w2.cell? ⟨w.heap.size, 17, none⟩ = some (.string u.qry) := hU2.cell 17
        have c18 : w2.cell? ⟨w.heap.size, 18, none⟩ = some (.string u.frg) := hU2.cell 18
        have c19 := hU2.hqC HQ.out
        have c20 := hU2.hfC HF.out
        go_wp2_with fail
        go_ret
        exact ⟨rfl, hb0.trans ((b1.trans (b2.mono b1.size)).mono hb0.size)⟩
      all_goals
        simp only [Bool.true_or, Bool.false_or, Bool.true_and]
        cases bf <;> cases hfe : u.frg.toList.isEmpty
      all_goals
        go_enter Tryz.func39, Tryz.ntmps39
        go_wp2_with fail
        with_reducible refine Calls.mono (k2 _) ?_
        rintro e w1 ⟨rfl, b1⟩
        clear c17 hw0
        have hU1 := HU.out.below b1
        have c18 : w1.cell? ⟨w.heap.size, 18, none⟩ = some (.string u.frg) := hU1.cell 18
        go_wp2_with fail
        with_reducible refine Calls.mono (k1 _) ?_
        rintro e w2 ⟨rfl, b2⟩
        clear c18
        have hU2 := hU1.below b2
        have c17 : w2.cell? ⟨w.heap.size, 17, none⟩ = some (.string u.qry) := hU2.cell 17
        have c18 : w2.cell? ⟨w.heap.size, 18, none⟩ = some (.string u.frg) := hU2.cell 18
        have c19 := hU2.hqC HQ.out
        have c20 := hU2.hfC HF.out
        go_wp2_with fail
        go_ret
        exact ⟨rfl, hb0.trans ((b1.trans (b2.mono b1.size)).mono hb0.size)⟩

theorem segs_emp (l : List ByteArray) : (((l.length : Nat) : Int) == 0) = l.isEmpty := by cases l <;> rfl
theorem indexAny_two (l : List UInt8) : (0 ≤ Lib.indexAny l [63, 35]) ↔ (63 ∈ l ∨ 35 ∈ l) := by
  induction l with
  | nil => simp [Lib.indexAny]
  | cons b l ih =>
    have hg := Lib.indexAny_ge [63, 35] l
    rw [Lib.indexAny]
    by_cases h : ([63, 35] : List UInt8).contains b = true
    · rw [if_pos h]
      have hb : b = 63 ∨ b = 35 := by simpa using h
      constructor
      · intro _
        rcases hb with rfl | rfl <;> simp
      · intro _; exact Int.le_refl 0
    · rw [if_neg h]
      have hb : ¬ (b = 63 ∨ b = 35) := by simpa using h
      have key : (0 ≤ (if (Lib.indexAny l [63, 35] == -1) = true then (-1 : Int) else Lib.indexAny l [63, 35] + 1)) ↔ 0 ≤ Lib.indexAny l [63, 35] := by
        by_cases h1 : Lib.indexAny l [63, 35] = -1
        · rw [if_pos (by simpa using h1), h1]
        · rw [if_neg (by simpa using h1)]; omega
      rw [key, ih, List.mem_cons, List.mem_cons]
      constructor
      · rintro (h | h)
        · exact .inl (.inr h)
        · exact .inr (.inr h)
      · rintro ((h | h) | (h | h))
        · exact absurd (.inl h.symm) hb
        · exact .inl h
        · exact absurd (.inr h.symm) hb
        · exact .inr h
theorem findIdx_all (l : List UInt8) (c : UInt8) : l.findIdx (· == c) = l.length ↔ c ∉ l := by
  rw [List.findIdx_eq_length]
  constructor
  · intro h hm
    have := h _ hm
    simp at this
  · intro h x hx
    rw [beq_eq_false_iff_ne]
    intro e
    subst e
    exact h hx
theorem containsAny_idx (l : List UInt8) (n : Nat) (hn : n = l.length) : (!Lib.containsAny l [63, 35]) = ((((l.findIdx (· == 63) : Nat) : Int) == (n : Int)) && (((l.findIdx (· == 35) : Nat) : Int) == (n : Int))) := by
  subst hn
  have h1 := findIdx_all l 63
  have h2 := findIdx_all l 35
  have h3 := indexAny_two l
  unfold Lib.containsAny
  rw [Bool.eq_iff_iff, Bool.and_eq_true, beq_iff_eq, beq_iff_eq, Bool.not_eq_true', decide_eq_false_iff_not, h3, Int.natCast_inj, Int.natCast_inj, h1, h2]
  constructor
  · intro h; exact ⟨fun e => h (.inl e), fun e => h (.inr e)⟩
  · rintro ⟨h1, h2⟩ (h | h)
    · exact h1 h
    · exact h2 h

set_option maxRecDepth 1000000 in
set_option maxHeartbeats 16000000 in
theorem RUMay_any (u : Url) (w : World) (hu : u.Ok w) :
    Calls Tryz.prog 24 #[u.val] w fun e w' => e = .returned (.bool u.may) ∧ Below w.heap.size w w' := by
  obtain ⟨w0, hw0⟩ : ∃ w0, w.alloc (.cells u.cells 27) = w0 := ⟨_, rfl⟩
  have hU : UAt u w.heap.size w0 := by rw [← hw0]; exact UAt.new u w
  have hb0 : Below w.heap.size w w0 := by rw [← hw0]; exact (Below.refl _ w).alloc (Nat.le_refl _) _
  have hu0 := hu.below hb0
  have kT := RTails_any u w0 hu0
  have kW := fun Wx => RWeb_any u.sch Wx
  have kO := fun Wx => ROpq_any u.sch Wx
  have kR1 := fun Wx => RReady_any u.opq 1 (by omega) (by have := hu.opq; omega) Wx
  have k63 := fun Wx => RFind_any u.opq 63 (by have := hu.opq; omega) Wx
  have k35 := fun Wx => RFind_any u.opq 35 (by have := hu.opq; omega) Wx
  have kH := fun Wx => RHMay_any u.k u.nm (by have := hu.nm; omega) u.num u.p0 u.p1 u.p2 u.p3 u.p4 u.p5 u.p6 u.p7 Wx
  have kU := fun Wx => RReady_any u.usr 4 (by omega) (by have := hu.usr; omega) Wx
  have kP := fun Wx => RReady_any u.pwd 4 (by omega) (by have := hu.pwd; omega) Wx
  have kM := fun Wx (hS : Strs Wx u.A u.segs) => RPMay_any u.A u.segs u.cap Wx hS hu.segs hu.len
  rw [rpmay_eq] at kM
  have hca := containsAny_idx u.opq.data.toList u.opq.size (Lib.size_eq u.opq)
  have how := opq_web u.sch.data.toList
  have hwd : decide (0 < webP u.sch.data.toList) = !(((webP u.sch.data.toList : Nat) : Int) == 0) := by
    rw [Bool.eq_iff_iff, decide_eq_true_iff, Bool.not_eq_true', beq_eq_false_iff_ne]; omega
  unfold Url.may Url.mayO Url.mayW Url.hostmay
  rw [hca, hwd]
  have how : isOpq u.sch.data.toList = true → ((webP u.sch.data.toList : Nat) : Int) = 0 := fun h => by rw [how h]; rfl
  generalize u.tails = tl at kT ⊢
  generalize ((webP u.sch.data.toList : Nat) : Int) = wb at kW how ⊢
  generalize isOpq u.sch.data.toList = oq at kO how ⊢
  generalize ready 1 u.opq.data.toList = ro at kR1 ⊢
  generalize ((u.opq.data.toList.findIdx (· == 63) : Nat) : Int) = z63 at k63 ⊢
  generalize ((u.opq.data.toList.findIdx (· == 35) : Nat) : Int) = z35 at k35 ⊢
  generalize hmay u.k u.nm u.num u.p0 u.p1 u.p2 u.p3 u.p4 u.p5 u.p6 u.p7 = hm at kH ⊢
  generalize ready 4 u.usr.data.toList = ru at kU ⊢
  generalize ready 4 u.pwd.data.toList = rp at kP ⊢
  generalize pmay u.segs = pm at kM ⊢
  clear hca hwd
  have HU := Lib.hid (And.intro hU (And.intro hu0 hb0))
  have HOW := Lib.hid how
  clear hU hu0 hu how
  go_enter Tryz.func24, Tryz.ntmps24
  go_wp2_with (refine UAt.load HU.out.1 (.tmp 1) rfl rfl rfl ?_)
  with_reducible refine Calls.mono kT ?_
  rintro e w1 ⟨rfl, b1⟩
  clear hw0 kT hb0
  have hU1 := HU.out.1.below b1
  have c0 : w1.cell? ⟨w.heap.size, 0, none⟩ = some (.string u.sch) := hU1.cell 0
  have HB1 := Lib.hid b1
  clear b1
  go_wp2_with fail
  with_reducible refine Calls.mono (kW _) ?_
  rintro e w2 ⟨rfl, b2⟩
  clear c0
  have HB2 := Lib.hid (HB1.out.trans (b2.mono HB1.out.size))
  have hU2 := HU.out.1.below HB2.out
  have c0 : w2.cell? ⟨w.heap.size, 0, none⟩ = some (.string u.sch) := hU2.cell 0
  clear b2 hU1 kW HB1
  go_wp2_with fail
  with_reducible refine Calls.mono (kO _) ?_
  rintro e w3 ⟨rfl, b3⟩
  clear c0
  have HB3 := Lib.hid (HB2.out.trans (b3.mono HB2.out.size))
  have hU3 := HU.out.1.below HB3.out
  clear b3 hU2 kO HB2
  have hfin : ∀ wz, Below w0.heap.size w0 wz → Below w.heap.size w wz := fun wz h => HU.out.2.2.trans (h.mono HU.out.2.2.size)
  have HFIN := Lib.hid hfin
  clear hfin
  cases tl with
  | false =>
    go_wp2_with fail
    all_goals
      go_ret
      exact ⟨rfl, HFIN.out _ HB3.out⟩
  | true =>
    cases oq with
    | true =>
      have hw0 := HOW.out rfl
      subst hw0
      have c16 : w3.cell? ⟨w.heap.size, 16, none⟩ = some (.string u.opq) := hU3.cell 16
      clear kH kU kP kM hU3
      go_wp2_with fail
      with_reducible refine Calls.mono (kR1 _) ?_
      rintro e w4 ⟨rfl, b4⟩
      clear c16
      have HB4 := Lib.hid (HB3.out.trans (b4.mono HB3.out.size))
      have hU4 := HU.out.1.below HB4.out
      go_wp2_with fail
      have c1 := cell_regrown (show w4.cell? ⟨w.heap.size, 1, none⟩ = some (.string u.usr) from hU4.cell 1)
      have c2 := cell_regrown (show w4.cell? ⟨w.heap.size, 2, none⟩ = some (.string u.pwd) from hU4.cell 2)
      have c3 := cell_regrown (show w4.cell? ⟨w.heap.size, 3, none⟩ = some (.int .i64 u.k) from hU4.cell 3)
      have c4 := cell_regrown (show w4.cell? ⟨w.heap.size, 4, none⟩ = some (.string u.nm) from hU4.cell 4)
      have c5 := cell_regrown (show w4.cell? ⟨w.heap.size, 5, none⟩ = some (.int .i64 u.num) from hU4.cell 5)
      have c6 := cell_regrown (show w4.cell? ⟨w.heap.size, 6, none⟩ = some (.int .i64 u.p0) from hU4.cell 6)
      have c7 := cell_regrown (show w4.cell? ⟨w.heap.size, 7, none⟩ = some (.int .i64 u.p1) from hU4.cell 7)
      have c8 := cell_regrown (show w4.cell? ⟨w.heap.size, 8, none⟩ = some (.int .i64 u.p2) from hU4.cell 8)
      have c9 := cell_regrown (show w4.cell? ⟨w.heap.size, 9, none⟩ = some (.int .i64 u.p3) from hU4.cell 9)
      have c10 := cell_regrown (show w4.cell? ⟨w.heap.size, 10, none⟩ = some (.int .i64 u.p4) from hU4.cell 10)
      have c11 := cell_regrown (show w4.cell? ⟨w.heap.size, 11, none⟩ = some (.int .i64 u.p5) from hU4.cell 11)
      have c12 := cell_regrown (show w4.cell? ⟨w.heap.size, 12, none⟩ = some (.int .i64 u.p6) from hU4.cell 12)
      have c13 := cell_regrown (show w4.cell? ⟨w.heap.size, 13, none⟩ = some (.int .i64 u.p7) from hU4.cell 13)
      have c14 := cell_regrown (show w4.cell? ⟨w.heap.size, 14, none⟩ = some (.int .i64 u.port) from hU4.cell 14)
      have c15 := cell_regrown (show w4.cell? ⟨w.heap.size, 15, none⟩ = some (.slice u.A u.segs.length u.cap) from hU4.cell 15)
      have c16 := cell_regrown (show w4.cell? ⟨w.heap.size, 16, none⟩ = some (.string u.opq) from hU4.cell 16)
      have q63 : ∀ d os, Calls Tryz.prog 42 #[.string u.opq, .int .u8 63, .int .i64 0] (grow (redrawn w4 d) os) fun e w'' => e = .returned (.int .i64 z63) ∧ ∃ p : Regrown, w'' = grow (redrawn w4 p.d) p.os := fun d os => Calls.regrown_of (k63 _)
      have q35 : ∀ d os, Calls Tryz.prog 42 #[.string u.opq, .int .u8 35, .int .i64 0] (grow (redrawn w4 d) os) fun e w'' => e = .returned (.int .i64 z35) ∧ ∃ p : Regrown, w'' = grow (redrawn w4 p.d) p.os := fun d os => Calls.regrown_of (k35 _)
      have hEH := run_eqH
      clear b4 HB3 hU4 kR1 k63 k35
      cases ro with
      | false =>
        refine wp_region_quiet_below (by kernel_rfl) (by kernel_rfl) ?_
        repeat (go_big_quiet_step (first | (with_reducible exact q63 _ _) | (with_reducible exact q35 _ _)))
        refine wpQuiet_nil ?_
        intro _ hw'
        obtain ⟨⟨dq, osq⟩, hw''⟩ := hw'
        subst hw''
        go_wp2_with fail
        go_ret
        exact ⟨by first | rfl | exact congrArg (fun b => Ending.returned (Value.bool b)) (segs_emp u.segs) | (simp), HFIN.out _ (HB4.out.trans ((below_regrown w4 dq osq).mono HB4.out.size))⟩
      | true =>
        cases hb_z1 : (z63 == (u.opq.size : Int)) with
        | false =>
          refine wp_region_quiet_below (by kernel_rfl) (by kernel_rfl) ?_
          repeat (go_big_quiet_step (first | (with_reducible exact q63 _ _) | (with_reducible exact q35 _ _)))
          refine wpQuiet_nil ?_
          intro _ hw'
          obtain ⟨⟨dq, osq⟩, hw''⟩ := hw'
          subst hw''
          go_wp2_with fail
          go_ret
          exact ⟨by first | rfl | exact congrArg (fun b => Ending.returned (Value.bool b)) (segs_emp u.segs) | (rw [hb_z1]; simp), HFIN.out _ (HB4.out.trans ((below_regrown w4 dq osq).mono HB4.out.size))⟩
        | true =>
          cases hb_z2 : (z35 == (u.opq.size : Int)) with
          | false =>
            refine wp_region_quiet_below (by kernel_rfl) (by kernel_rfl) ?_
            repeat (go_big_quiet_step (first | (with_reducible exact q63 _ _) | (with_reducible exact q35 _ _)))
            refine wpQuiet_nil ?_
            intro _ hw'
            obtain ⟨⟨dq, osq⟩, hw''⟩ := hw'
            subst hw''
            go_wp2_with fail
            go_ret
            exact ⟨by first | rfl | exact congrArg (fun b => Ending.returned (Value.bool b)) (segs_emp u.segs) | (rw [hb_z1, hb_z2]; simp), HFIN.out _ (HB4.out.trans ((below_regrown w4 dq osq).mono HB4.out.size))⟩
          | true =>
            cases hb_pt : (u.port == -1) with
            | false =>
              refine wp_region_quiet_below (by kernel_rfl) (by kernel_rfl) ?_
              repeat (go_big_quiet_step (first | (with_reducible exact q63 _ _) | (with_reducible exact q35 _ _)))
              refine wpQuiet_nil ?_
              intro _ hw'
              obtain ⟨⟨dq, osq⟩, hw''⟩ := hw'
              subst hw''
              go_wp2_with fail
              go_ret
              exact ⟨by first | rfl | exact congrArg (fun b => Ending.returned (Value.bool b)) (segs_emp u.segs) | (rw [hb_z1, hb_z2, hb_pt]; simp), HFIN.out _ (HB4.out.trans ((below_regrown w4 dq osq).mono HB4.out.size))⟩
            | true =>
              cases hb_he : eqH u.k u.nm u.num u.p0 u.p1 u.p2 u.p3 u.p4 u.p5 u.p6 u.p7 0 ⟨#[]⟩ 0 0 0 0 0 0 0 0 0 with
              | false =>
                refine wp_region_quiet_below (by kernel_rfl) (by kernel_rfl) ?_
                repeat (go_big_quiet_step (first | (with_reducible exact q63 _ _) | (with_reducible exact q35 _ _)))
                refine wpQuiet_nil ?_
                intro _ hw'
                obtain ⟨⟨dq, osq⟩, hw''⟩ := hw'
                subst hw''
                go_wp2_with fail
                go_ret
                exact ⟨by first | rfl | exact congrArg (fun b => Ending.returned (Value.bool b)) (segs_emp u.segs) | (rw [hb_z1, hb_z2, hb_pt, hb_he]; simp), HFIN.out _ (HB4.out.trans ((below_regrown w4 dq osq).mono HB4.out.size))⟩
              | true =>
                cases hb_ue : u.usr.toList.isEmpty with
                | false =>
                  refine wp_region_quiet_below (by kernel_rfl) (by kernel_rfl) ?_
                  repeat (go_big_quiet_step (first | (with_reducible exact q63 _ _) | (with_reducible exact q35 _ _)))
                  refine wpQuiet_nil ?_
                  intro _ hw'
                  obtain ⟨⟨dq, osq⟩, hw''⟩ := hw'
                  subst hw''
                  go_wp2_with fail
                  go_ret
                  exact ⟨by first | rfl | exact congrArg (fun b => Ending.returned (Value.bool b)) (segs_emp u.segs) | (rw [hb_z1, hb_z2, hb_pt, hb_he, hb_ue]; simp), HFIN.out _ (HB4.out.trans ((below_regrown w4 dq osq).mono HB4.out.size))⟩
                | true =>
                  cases hb_pe : u.pwd.toList.isEmpty with
                  | false =>
                    refine wp_region_quiet_below (by kernel_rfl) (by kernel_rfl) ?_
                    repeat (go_big_quiet_step (first | (with_reducible exact q63 _ _) | (with_reducible exact q35 _ _)))
                    refine wpQuiet_nil ?_
                    intro _ hw'
                    obtain ⟨⟨dq, osq⟩, hw''⟩ := hw'
                    subst hw''
                    go_wp2_with fail
                    go_ret
                    exact ⟨by first | rfl | exact congrArg (fun b => Ending.returned (Value.bool b)) (segs_emp u.segs) | (rw [hb_z1, hb_z2, hb_pt, hb_he, hb_ue, hb_pe]; simp), HFIN.out _ (HB4.out.trans ((below_regrown w4 dq osq).mono HB4.out.size))⟩
                  | true =>
                    refine wp_region_quiet_below (by kernel_rfl) (by kernel_rfl) ?_
                    repeat (go_big_quiet_step (first | (with_reducible exact q63 _ _) | (with_reducible exact q35 _ _)))
                    refine wpQuiet_nil ?_
                    intro _ hw'
                    obtain ⟨⟨dq, osq⟩, hw''⟩ := hw'
                    subst hw''
                    go_wp2_with fail
                    go_ret
                    exact ⟨by first | rfl | exact congrArg (fun b => Ending.returned (Value.bool b)) (segs_emp u.segs) | (rw [hb_z1, hb_z2, hb_pt, hb_he, hb_ue, hb_pe]; simp), HFIN.out _ (HB4.out.trans ((below_regrown w4 dq osq).mono HB4.out.size))⟩
    | false =>
      cases hwz : (wb == 0) with
      | true =>
        go_wp2_with fail
        go_ret
        exact ⟨rfl, HFIN.out _ HB3.out⟩
      | false =>
        have c3 : w3.cell? ⟨w.heap.size, 3, none⟩ = some (.int .i64 u.k) := hU3.cell 3
        have c4 : w3.cell? ⟨w.heap.size, 4, none⟩ = some (.string u.nm) := hU3.cell 4
        have c5 : w3.cell? ⟨w.heap.size, 5, none⟩ = some (.int .i64 u.num) := hU3.cell 5
        have c6 : w3.cell? ⟨w.heap.size, 6, none⟩ = some (.int .i64 u.p0) := hU3.cell 6
        have c7 : w3.cell? ⟨w.heap.size, 7, none⟩ = some (.int .i64 u.p1) := hU3.cell 7
        have c8 : w3.cell? ⟨w.heap.size, 8, none⟩ = some (.int .i64 u.p2) := hU3.cell 8
        have c9 : w3.cell? ⟨w.heap.size, 9, none⟩ = some (.int .i64 u.p3) := hU3.cell 9
        have c10 : w3.cell? ⟨w.heap.size, 10, none⟩ = some (.int .i64 u.p4) := hU3.cell 10
        have c11 : w3.cell? ⟨w.heap.size, 11, none⟩ = some (.int .i64 u.p5) := hU3.cell 11
        have c12 : w3.cell? ⟨w.heap.size, 12, none⟩ = some (.int .i64 u.p6) := hU3.cell 12
        have c13 : w3.cell? ⟨w.heap.size, 13, none⟩ = some (.int .i64 u.p7) := hU3.cell 13
        clear kR1 k63 k35 hU3
        go_wp2_with fail
        with_reducible refine Calls.mono (kH _) ?_
        rintro e w4 ⟨rfl, b4⟩
        clear c3 c4 c5 c6 c7 c8 c9 c10 c11 c12 c13
        have HB4 := Lib.hid (HB3.out.trans (b4.mono HB3.out.size))
        have hU4 := HU.out.1.below HB4.out
        have c1 : w4.cell? ⟨w.heap.size, 1, none⟩ = some (.string u.usr) := hU4.cell 1
        clear b4 HB3 hU4 kH
        go_wp2_with fail
        with_reducible refine Calls.mono (kU _) ?_
        rintro e w5 ⟨rfl, b5⟩
        clear c1
        have HB5 := Lib.hid (HB4.out.trans (b5.mono HB4.out.size))
        have hU5 := HU.out.1.below HB5.out
        have c2 : w5.cell? ⟨w.heap.size, 2, none⟩ = some (.string u.pwd) := hU5.cell 2
        clear b5 HB4 hU5 kU
        go_wp2_with fail
        with_reducible refine Calls.mono (kP _) ?_
        rintro e w6 ⟨rfl, b6⟩
        clear c2
        have HB6 := Lib.hid (HB5.out.trans (b6.mono HB5.out.size))
        have hU6 := HU.out.1.below HB6.out
        have c15 : w6.cell? ⟨w.heap.size, 15, none⟩ = some (.slice u.A u.segs.length u.cap) := hU6.cell 15
        clear b6 HB5 hU6 kP
        go_wp2_with fail
        with_reducible refine Calls.mono (kM _ (HU.out.2.1.below HB6.out).strs) ?_
        rintro e w7 ⟨rfl, b7⟩
        clear c15
        have HB7 := Lib.hid (HB6.out.trans (b7.mono HB6.out.size))
        have hU7 := HU.out.1.below HB7.out
        have c16 : w7.cell? ⟨w.heap.size, 16, none⟩ = some (.string u.opq) := hU7.cell 16
        have c14 : w7.cell? ⟨w.heap.size, 14, none⟩ = some (.int .i64 u.port) := hU7.cell 14
        clear b7 HB6 hU7 kM
        cases hm with
        | false =>
          go_wp2_with fail
          all_goals
            go_ret
            exact ⟨by first | rfl | (rw [hwz]; simp), HFIN.out _ HB7.out⟩
        | true =>
          cases ru with
          | false =>
            go_wp2_with fail
            all_goals
              go_ret
              exact ⟨by first | rfl | (rw [hwz]; simp), HFIN.out _ HB7.out⟩
          | true =>
            cases rp with
            | false =>
              go_wp2_with fail
              all_goals
                go_ret
                exact ⟨by first | rfl | (rw [hwz]; simp), HFIN.out _ HB7.out⟩
            | true =>
              cases pm with
              | false =>
                go_wp2_with fail
                all_goals
                  go_ret
                  exact ⟨by first | rfl | (rw [hwz]; simp), HFIN.out _ HB7.out⟩
              | true =>
                cases hb_oe : u.opq.toList.isEmpty with
                | false =>
                  go_wp2_with fail
                  all_goals
                    go_ret
                    exact ⟨by first | rfl | (rw [hwz, hb_oe]; simp), HFIN.out _ HB7.out⟩
                | true =>
                  cases hb_g1 : decide (-1 ≤ u.port) with
                  | false =>
                    go_wp2_with fail
                    all_goals
                      go_ret
                      exact ⟨by first | rfl | (rw [hwz, hb_oe, hb_g1]; simp), HFIN.out _ HB7.out⟩
                  | true =>
                    cases hb_g2 : decide (u.port ≤ 65535) with
                    | false =>
                      go_wp2_with fail
                      all_goals
                        go_ret
                        exact ⟨by first | rfl | (rw [hwz, hb_oe, hb_g1, hb_g2]; simp), HFIN.out _ HB7.out⟩
                    | true =>
                      go_wp2_with fail
                      all_goals
                        go_ret
                        exact ⟨by first | rfl | (rw [hwz, hb_oe, hb_g1, hb_g2]; simp), HFIN.out _ HB7.out⟩
end Go.Proofs.YtkmoakfphfakoaaGreat

set_option linter.unusedVariables false
set_option linter.unusedSimpArgs false
namespace Go.Proofs.YtkmoakfphfakoaaGreat
open Go.RowKit Go.Shelf Go.Sort
attribute [local go_sem] Oper.semAt_some

set_option maxRecDepth 100000 in
set_option maxHeartbeats 4000000 in
theorem RBare_any (u : Url) (w : World) :
    Calls Tryz.prog 8 #[u.val] w fun e w' => e = .returned u.bare.val ∧ Below w.heap.size w w' := by
  obtain ⟨w0, hw0⟩ : ∃ w0, w.alloc (.cells u.cells 27) = w0 := ⟨_, rfl⟩
  have hU0 : UAt u w.heap.size w0 := by rw [← hw0]; exact UAt.new u w
  have hb0 : Below w.heap.size w w0 := by rw [← hw0]; exact (Below.refl _ w).alloc (Nat.le_refl _) _
  have hs0 : w0.heap.size = w.heap.size + 1 := by rw [← hw0]; simp
  obtain ⟨w1, hw1⟩ : ∃ w1, w0.alloc (.cells zeroCells 27) = w1 := ⟨_, rfl⟩
  have hb1 : Below w0.heap.size w0 w1 := by rw [← hw1]; exact (Below.refl _ w0).alloc (Nat.le_refl _) _
  have hU1 := hU0.below hb1
  have hz1 : w1.heap[w.heap.size + 1]? = some (.cells zeroCells 27 (0, 0)) := by rw [← hw1, ← hs0]; exact World.alloc_heap_new w0 _
  have hbw1 : Below w.heap.size w w1 := hb0.trans (hb1.mono (by omega))
  have d18 : w1.cell? ⟨w.heap.size, 18, none⟩ = some (.string u.frg) := hU1.cell 18
  have f18 : w1.frozen? ⟨w.heap.size, 18, none⟩ = false := Lib.frozen_of_heap hU1 18
  have d20 : w1.cell? ⟨w.heap.size, 20, none⟩ = some (.bool u.hf) := hU1.cell 20
  have f20 : w1.frozen? ⟨w.heap.size, 20, none⟩ = false := Lib.frozen_of_heap hU1 20
  have hP0 := hU1.put (u' := { u with frg := ⟨#[]⟩ }) 18 (.string ⟨#[]⟩) rfl
  have hP1 := hP0.put (u' := u.bare) 20 (.bool false) rfl
  have hz : ((w1.setCell ⟨w.heap.size, 18, none⟩ (.string ⟨#[]⟩)).setCell ⟨w.heap.size, 20, none⟩ (.bool false)).heap[w.heap.size + 1]? = some (.cells zeroCells 27 (0, 0)) := by
    rw [heap_setCell_other _ _ _ _ (by show _ ≠ w.heap.size; omega), heap_setCell_other _ _ _ _ (by show _ ≠ w.heap.size; omega)]
    exact hz1
  have HB := Lib.hid (below_setRow (g := w.heap.size + 1) ((hbw1.setCell (p := ⟨w.heap.size, 18, none⟩) (Nat.le_refl _) (.string ⟨#[]⟩)).setCell (p := ⟨w.heap.size, 20, none⟩) (Nat.le_refl _) (.bool false)) (by omega) u.bare.cells)
  have HU := Lib.hid hP1
  have HZ := Lib.hid hz
  clear hz hz1 hU1 hU0 hb0 hb1 hbw1 hP0 hP1
  go_enter Tryz.func8, Tryz.ntmps8
  go_wp2_with (first
    | (with_reducible change wpList _ _ _ (⟨_, .load 27 (.tmp 1), _, _, _, _⟩ :: _) _ _; refine UAt.load HU.out (.tmp 1) rfl rfl rfl ?_)
    | (with_reducible change wpList _ _ _ (⟨_, .store 27 (.tmp 2) (.tmp 5), _, _, _, _⟩ :: _) _ _; refine UAt.store HZ.out rfl u.bare (.tmp 2) (.tmp 5) rfl rfl rfl rfl rfl ?_))
  exact bodyPost_ret (UAt.result (UAt.stored HZ.out _) (fn := Tryz.f8) rfl _ rfl) rfl ⟨rfl, HB.out⟩

set_option maxRecDepth 100000 in
set_option maxHeartbeats 4000000 in
theorem ROpen_any (u : Url) (w : World) :
    Calls Tryz.prog 10 #[u.val] w fun e w' => e = .returned u.open'.val ∧ Below w.heap.size w w' := by
  obtain ⟨w0, hw0⟩ : ∃ w0, w.alloc (.cells u.cells 27) = w0 := ⟨_, rfl⟩
  have hU0 : UAt u w.heap.size w0 := by rw [← hw0]; exact UAt.new u w
  have hb0 : Below w.heap.size w w0 := by rw [← hw0]; exact (Below.refl _ w).alloc (Nat.le_refl _) _
  have hs0 : w0.heap.size = w.heap.size + 1 := by rw [← hw0]; simp
  obtain ⟨w1, hw1⟩ : ∃ w1, w0.alloc (.cells zeroCells 27) = w1 := ⟨_, rfl⟩
  have hb1 : Below w0.heap.size w0 w1 := by rw [← hw1]; exact (Below.refl _ w0).alloc (Nat.le_refl _) _
  have hU1 := hU0.below hb1
  have hz1 : w1.heap[w.heap.size + 1]? = some (.cells zeroCells 27 (0, 0)) := by rw [← hw1, ← hs0]; exact World.alloc_heap_new w0 _
  have hbw1 : Below w.heap.size w w1 := hb0.trans (hb1.mono (by omega))
  have d18 : w1.cell? ⟨w.heap.size, 18, none⟩ = some (.string u.frg) := hU1.cell 18
  have f18 : w1.frozen? ⟨w.heap.size, 18, none⟩ = false := Lib.frozen_of_heap hU1 18
  have d20 : w1.cell? ⟨w.heap.size, 20, none⟩ = some (.bool u.hf) := hU1.cell 20
  have f20 : w1.frozen? ⟨w.heap.size, 20, none⟩ = false := Lib.frozen_of_heap hU1 20
  have d1 : w1.cell? ⟨w.heap.size, 1, none⟩ = some (.string u.usr) := hU1.cell 1
  have f1 : w1.frozen? ⟨w.heap.size, 1, none⟩ = false := Lib.frozen_of_heap hU1 1
  have d2 : w1.cell? ⟨w.heap.size, 2, none⟩ = some (.string u.pwd) := hU1.cell 2
  have f2 : w1.frozen? ⟨w.heap.size, 2, none⟩ = false := Lib.frozen_of_heap hU1 2
  have hP0 := hU1.put (u' := { u with frg := ⟨#[]⟩ }) 18 (.string ⟨#[]⟩) rfl
  have hP1 := hP0.put (u' := u.bare) 20 (.bool false) rfl
  have hP2 := hP1.put (u' := { u.bare with usr := ⟨#[]⟩ }) 1 (.string ⟨#[]⟩) rfl
  have hP3 := hP2.put (u' := u.open') 2 (.string ⟨#[]⟩) rfl
  have hz : ((((w1.setCell ⟨w.heap.size, 18, none⟩ (.string ⟨#[]⟩)).setCell ⟨w.heap.size, 20, none⟩ (.bool false)).setCell ⟨w.heap.size, 1, none⟩ (.string ⟨#[]⟩)).setCell ⟨w.heap.size, 2, none⟩ (.string ⟨#[]⟩)).heap[w.heap.size + 1]? = some (.cells zeroCells 27 (0, 0)) := by
    rw [heap_setCell_other _ _ _ _ (by show _ ≠ w.heap.size; omega), heap_setCell_other _ _ _ _ (by show _ ≠ w.heap.size; omega), heap_setCell_other _ _ _ _ (by show _ ≠ w.heap.size; omega), heap_setCell_other _ _ _ _ (by show _ ≠ w.heap.size; omega)]
    exact hz1
  have HB := Lib.hid (below_setRow (g := w.heap.size + 1) ((((hbw1.setCell (p := ⟨w.heap.size, 18, none⟩) (Nat.le_refl _) (.string ⟨#[]⟩)).setCell (p := ⟨w.heap.size, 20, none⟩) (Nat.le_refl _) (.bool false)).setCell (p := ⟨w.heap.size, 1, none⟩) (Nat.le_refl _) (.string ⟨#[]⟩)).setCell (p := ⟨w.heap.size, 2, none⟩) (Nat.le_refl _) (.string ⟨#[]⟩)) (by omega) u.open'.cells)
  have HU := Lib.hid hP3
  have HZ := Lib.hid hz
  clear hz hz1 hU1 hU0 hb0 hb1 hbw1 hP0 hP1 hP2 hP3
  go_enter Tryz.func10, Tryz.ntmps10
  go_wp2_with (first
    | (with_reducible change wpList _ _ _ (⟨_, .load 27 (.tmp 1), _, _, _, _⟩ :: _) _ _; refine UAt.load HU.out (.tmp 1) rfl rfl rfl ?_)
    | (with_reducible change wpList _ _ _ (⟨_, .store 27 (.tmp 2) (.tmp 7), _, _, _, _⟩ :: _) _ _; refine UAt.store HZ.out rfl u.open' (.tmp 2) (.tmp 7) rfl rfl rfl rfl rfl ?_))
  exact bodyPost_ret (UAt.result (UAt.stored HZ.out _) (fn := Tryz.f10) rfl _ rfl) rfl ⟨rfl, HB.out⟩

/-- The user's part of a text. -/
def Url.userT (u : Url) : List UInt8 :=
  if u.usr.toList.isEmpty && u.pwd.toList.isEmpty then [] else if u.pwd.toList.isEmpty then u.usr.data.toList ++ [64] else u.usr.data.toList ++ 58 :: (u.pwd.data.toList ++ [64])
theorem bytes_mk (s : ByteArray) : (⟨s.data.toList.toArray⟩ : ByteArray) = s := rfl
theorem concat_s (P : Program) (a : ByteArray) (b : List UInt8) (h : a.size + b.length ≤ 281474976710656) (w : World) : (Op.stringOp .add a ⟨b.toArray⟩).run P w = .ok (.string ⟨(a.data.toList ++ b).toArray⟩) w :=
  concat_run P a.data.toList b (by rw [← Lib.size_eq]; exact h) w
theorem concat_t (P : Program) (a : List UInt8) (b : ByteArray) (h : a.length + b.size ≤ 281474976710656) (w : World) : (Op.stringOp .add ⟨a.toArray⟩ b).run P w = .ok (.string ⟨(a ++ b.data.toList).toArray⟩) w :=
  concat_run P a b.data.toList (by rw [← Lib.size_eq]; exact h) w

set_option maxRecDepth 100000 in
set_option maxHeartbeats 4000000 in
theorem RUser_any (u : Url) (w : World) (h1 : u.usr.size ≤ 1000000) (h2 : u.pwd.size ≤ 1000000) :
    Calls Tryz.prog 26 #[u.val] w fun e w' => e = .returned (.string ⟨u.userT.toArray⟩) ∧ Below w.heap.size w w' := by
  obtain ⟨w0, hw0⟩ : ∃ w0, w.alloc (.cells u.cells 27) = w0 := ⟨_, rfl⟩
  have hU0 : UAt u w.heap.size w0 := by rw [← hw0]; exact UAt.new u w
  have hb0 : Below w.heap.size w w0 := by rw [← hw0]; exact (Below.refl _ w).alloc (Nat.le_refl _) _
  have c1 : w0.cell? ⟨w.heap.size, 1, none⟩ = some (.string u.usr) := hU0.cell 1
  have c2 : w0.cell? ⟨w.heap.size, 2, none⟩ = some (.string u.pwd) := hU0.cell 2
  have hl1 := Lib.size_eq u.usr
  have hl2 := Lib.size_eq u.pwd
  have q1 := concat_s Tryz.prog u.usr [64] (by simp; omega)
  have q2 := concat_s Tryz.prog u.usr [58] (by simp; omega)
  have q3 := concat_t Tryz.prog (u.usr.data.toList ++ [58]) u.pwd (by simp; omega)
  have q4 := concat_run Tryz.prog ((u.usr.data.toList ++ [58]) ++ u.pwd.data.toList) [64] (by simp; omega)
  unfold Url.userT
  clear hU0 hl1 hl2
  cases hue : u.usr.toList.isEmpty <;> cases hpe : u.pwd.toList.isEmpty
  all_goals
    go_enter Tryz.func26, Tryz.ntmps26
    go_wp2_with fail
    go_ret
    exact ⟨by first | rfl | simp, hb0⟩

set_option maxRecDepth 100000 in
set_option maxHeartbeats 4000000 in
theorem RDoor_any (u : Url) (w : World) (hu : u.Ok w) :
    Calls Tryz.prog 14 #[u.val] w fun e w' => e = .returned (.string ⟨u.door.toArray⟩) ∧ Below w.heap.size w w' := by
  obtain ⟨w0, hw0⟩ : ∃ w0, w.alloc (.cells u.cells 27) = w0 := ⟨_, rfl⟩
  have hU : UAt u w.heap.size w0 := by rw [← hw0]; exact UAt.new u w
  have hb0 : Below w.heap.size w w0 := by rw [← hw0]; exact (Below.refl _ w).alloc (Nat.le_refl _) _
  have hu0 := hu.below hb0
  have kM := RUMay_any u w0 hu0
  have kW := fun Wx => RWeb_any u.sch Wx
  have kH := fun Wx => RHShow_any u.k u.nm (by have := hu.nm; omega) u.num u.p0 u.p1 u.p2 u.p3 u.p4 u.p5 u.p6 u.p7 hu.num Wx
  have hport := @Url.may_port u
  have hlen := hshow_len u.k u.nm hu.nm u.num u.p0 u.p1 u.p2 u.p3 u.p4 u.p5 u.p6 u.p7
  have hwd : decide (0 < webP u.sch.data.toList) = !(((webP u.sch.data.toList : Nat) : Int) == 0) := by
    rw [Bool.eq_iff_iff, decide_eq_true_iff, Bool.not_eq_true', beq_eq_false_iff_ne]; omega
  have hport : u.may = true → (((webP u.sch.data.toList : Nat) : Int) == 0) = false → -1 ≤ u.port ∧ u.port ≤ 65535 := fun h1 h2 => hport h1 (by
    rw [beq_eq_false_iff_ne] at h2; omega)
  unfold Url.door Url.hostshow
  rw [hwd]
  generalize u.may = m at kM hport ⊢
  generalize ((webP u.sch.data.toList : Nat) : Int) = wb at kW hport ⊢
  generalize hshow u.k u.nm u.num u.p0 u.p1 u.p2 u.p3 u.p4 u.p5 u.p6 u.p7 = hs at kH hlen ⊢
  have HU := Lib.hid (And.intro hU (And.intro hu0 hb0))
  have hfin : ∀ wz, Below w0.heap.size w0 wz → Below w.heap.size w wz := fun wz h => hb0.trans (h.mono hb0.size)
  have HFIN := Lib.hid hfin
  clear hfin hU hu0 hu hb0 hwd
  cases m with
  | false =>
    simp only [Bool.false_and, Bool.false_eq_true, if_false]
    clear hport
    go_enter Tryz.func14, Tryz.ntmps14
    go_wp2_with (with_reducible change wpList _ _ _ (⟨_, .load 27 (.tmp 1), _, _, _, _⟩ :: _) _ _; refine UAt.load HU.out.1 (.tmp 1) rfl rfl rfl ?_)
    with_reducible refine Calls.mono kM ?_
    rintro e w1 ⟨rfl, b1⟩
    clear hw0
    have hU1 := HU.out.1.below b1
    have c0 : w1.cell? ⟨w.heap.size, 0, none⟩ = some (.string u.sch) := hU1.cell 0
    have HB1 := Lib.hid b1
    clear b1
    go_wp2_with fail
    with_reducible refine Calls.mono (kW _) ?_
    rintro e w2 ⟨rfl, b2⟩
    clear c0
    have HB2 := Lib.hid (HB1.out.trans (b2.mono HB1.out.size))
    have hU2 := HU.out.1.below HB2.out
    clear b2 hU1 HB1
    go_wp2_with fail
    all_goals
      go_ret
      exact ⟨rfl, HFIN.out _ HB2.out⟩
  | true =>
    cases hwz : (wb == 0) with
    | true =>
      simp only [Bool.true_and, Bool.not_true, Bool.false_eq_true, if_false]
      clear hport
      go_enter Tryz.func14, Tryz.ntmps14
      go_wp2_with (with_reducible change wpList _ _ _ (⟨_, .load 27 (.tmp 1), _, _, _, _⟩ :: _) _ _; refine UAt.load HU.out.1 (.tmp 1) rfl rfl rfl ?_)
      with_reducible refine Calls.mono kM ?_
      rintro e w1 ⟨rfl, b1⟩
      clear hw0
      have hU1 := HU.out.1.below b1
      have c0 : w1.cell? ⟨w.heap.size, 0, none⟩ = some (.string u.sch) := hU1.cell 0
      have HB1 := Lib.hid b1
      clear b1
      go_wp2_with fail
      with_reducible refine Calls.mono (kW _) ?_
      rintro e w2 ⟨rfl, b2⟩
      clear c0
      have HB2 := Lib.hid (HB1.out.trans (b2.mono HB1.out.size))
      have hU2 := HU.out.1.below HB2.out
      clear b2 hU1 HB1
      go_wp2_with fail
      go_ret
      exact ⟨rfl, HFIN.out _ HB2.out⟩
    | false =>
      simp only [Bool.true_and, Bool.not_false, if_true]
      have hp := hport rfl hwz
      clear hport
      by_cases hpt : u.port = -1
      · rw [if_pos hpt]
        have HPT := Lib.hid hpt
        clear hpt hp
        go_enter Tryz.func14, Tryz.ntmps14
        go_wp2_with (with_reducible change wpList _ _ _ (⟨_, .load 27 (.tmp 1), _, _, _, _⟩ :: _) _ _; refine UAt.load HU.out.1 (.tmp 1) rfl rfl rfl ?_)
        with_reducible refine Calls.mono kM ?_
        rintro e w1 ⟨rfl, b1⟩
        clear hw0
        have hU1 := HU.out.1.below b1
        have c0 : w1.cell? ⟨w.heap.size, 0, none⟩ = some (.string u.sch) := hU1.cell 0
        have HB1 := Lib.hid b1
        clear b1
        go_wp2_with fail
        with_reducible refine Calls.mono (kW _) ?_
        rintro e w2 ⟨rfl, b2⟩
        clear c0
        have HB2 := Lib.hid (HB1.out.trans (b2.mono HB1.out.size))
        have hU2 := HU.out.1.below HB2.out
        clear b2 hU1 HB1
        have c3 : w2.cell? ⟨w.heap.size, 3, none⟩ = some (.int .i64 u.k) := hU2.cell 3
        have c4 : w2.cell? ⟨w.heap.size, 4, none⟩ = some (.string u.nm) := hU2.cell 4
        have c5 : w2.cell? ⟨w.heap.size, 5, none⟩ = some (.int .i64 u.num) := hU2.cell 5
        have c6 : w2.cell? ⟨w.heap.size, 6, none⟩ = some (.int .i64 u.p0) := hU2.cell 6
        have c7 : w2.cell? ⟨w.heap.size, 7, none⟩ = some (.int .i64 u.p1) := hU2.cell 7
        have c8 : w2.cell? ⟨w.heap.size, 8, none⟩ = some (.int .i64 u.p2) := hU2.cell 8
        have c9 : w2.cell? ⟨w.heap.size, 9, none⟩ = some (.int .i64 u.p3) := hU2.cell 9
        have c10 : w2.cell? ⟨w.heap.size, 10, none⟩ = some (.int .i64 u.p4) := hU2.cell 10
        have c11 : w2.cell? ⟨w.heap.size, 11, none⟩ = some (.int .i64 u.p5) := hU2.cell 11
        have c12 : w2.cell? ⟨w.heap.size, 12, none⟩ = some (.int .i64 u.p6) := hU2.cell 12
        have c13 : w2.cell? ⟨w.heap.size, 13, none⟩ = some (.int .i64 u.p7) := hU2.cell 13
        have c14 : w2.cell? ⟨w.heap.size, 14, none⟩ = some (.int .i64 (-1)) := (hU2.cell 14).trans (by rw [← HPT.out]; rfl)
        clear hU2
        go_wp2_with fail
        with_reducible refine Calls.mono (kH _) ?_
        rintro e w3 ⟨rfl, b3⟩
        clear c3 c4 c5 c6 c7 c8 c9 c10 c11 c12 c13 c14
        have HB3 := Lib.hid (HB2.out.trans (b3.mono HB2.out.size))
        have hU3 := HU.out.1.below HB3.out
        have c14 : w3.cell? ⟨w.heap.size, 14, none⟩ = some (.int .i64 (-1)) := (hU3.cell 14).trans (by rw [← HPT.out]; rfl)
        clear b3 hU3
        go_wp2_with fail
        go_ret
        exact ⟨rfl, HFIN.out _ HB3.out⟩
      · rw [if_neg hpt]
        obtain ⟨n, hn⟩ : ∃ n : Nat, u.port = n := ⟨u.port.toNat, by omega⟩
        have hn2 : n ≤ 65535 := by omega
        rw [hn, Int.toNat_natCast]
        have kN := fun Wx => RNum_any n (by omega) Wx
        have hdl : (dec n).length ≤ 65536 := by have := (rdec_len n).2; simp [dec]; omega
        generalize dec n = dn at kN hdl ⊢
        have q1 := concat_run Tryz.prog hs [58] (by simp; omega)
        have q2 := concat_run Tryz.prog (hs ++ [58]) dn (by simp; omega)
        have HPT := Lib.hid hn
        have hne : ((n : Int) != -1) = true := by simp
        clear hpt hp hn hdl
        go_enter Tryz.func14, Tryz.ntmps14
        go_wp2_with (with_reducible change wpList _ _ _ (⟨_, .load 27 (.tmp 1), _, _, _, _⟩ :: _) _ _; refine UAt.load HU.out.1 (.tmp 1) rfl rfl rfl ?_)
        with_reducible refine Calls.mono kM ?_
        rintro e w1 ⟨rfl, b1⟩
        clear hw0
        have hU1 := HU.out.1.below b1
        have c0 : w1.cell? ⟨w.heap.size, 0, none⟩ = some (.string u.sch) := hU1.cell 0
        have HB1 := Lib.hid b1
        clear b1
        go_wp2_with fail
        with_reducible refine Calls.mono (kW _) ?_
        rintro e w2 ⟨rfl, b2⟩
        clear c0
        have HB2 := Lib.hid (HB1.out.trans (b2.mono HB1.out.size))
        have hU2 := HU.out.1.below HB2.out
        clear b2 hU1 HB1
        have c3 : w2.cell? ⟨w.heap.size, 3, none⟩ = some (.int .i64 u.k) := hU2.cell 3
        have c4 : w2.cell? ⟨w.heap.size, 4, none⟩ = some (.string u.nm) := hU2.cell 4
        have c5 : w2.cell? ⟨w.heap.size, 5, none⟩ = some (.int .i64 u.num) := hU2.cell 5
        have c6 : w2.cell? ⟨w.heap.size, 6, none⟩ = some (.int .i64 u.p0) := hU2.cell 6
        have c7 : w2.cell? ⟨w.heap.size, 7, none⟩ = some (.int .i64 u.p1) := hU2.cell 7
        have c8 : w2.cell? ⟨w.heap.size, 8, none⟩ = some (.int .i64 u.p2) := hU2.cell 8
        have c9 : w2.cell? ⟨w.heap.size, 9, none⟩ = some (.int .i64 u.p3) := hU2.cell 9
        have c10 : w2.cell? ⟨w.heap.size, 10, none⟩ = some (.int .i64 u.p4) := hU2.cell 10
        have c11 : w2.cell? ⟨w.heap.size, 11, none⟩ = some (.int .i64 u.p5) := hU2.cell 11
        have c12 : w2.cell? ⟨w.heap.size, 12, none⟩ = some (.int .i64 u.p6) := hU2.cell 12
        have c13 : w2.cell? ⟨w.heap.size, 13, none⟩ = some (.int .i64 u.p7) := hU2.cell 13
        clear hU2
        go_wp2_with fail
        with_reducible refine Calls.mono (kH _) ?_
        rintro e w3 ⟨rfl, b3⟩
        clear c3 c4 c5 c6 c7 c8 c9 c10 c11 c12 c13
        have HB3 := Lib.hid (HB2.out.trans (b3.mono HB2.out.size))
        have hU3 := HU.out.1.below HB3.out
        have c14 : w3.cell? ⟨w.heap.size, 14, none⟩ = some (.int .i64 n) := (hU3.cell 14).trans (by rw [← HPT.out]; rfl)
        clear b3 hU3
        go_wp2_with fail
        with_reducible refine Calls.mono (kN _) ?_
        rintro e w4 ⟨rfl, b4⟩
        go_wp2_with fail
        go_ret
        exact ⟨by first | rfl | simp, HFIN.out _ (HB3.out.trans (b4.mono HB3.out.size))⟩
end Go.Proofs.YtkmoakfphfakoaaGreat
