/-
  Walks, part X: url.May of an opaque address.
-/
import Derived.Test.YtkmoakfphfakoaaGreatV
set_option linter.unusedVariables false
set_option linter.unusedSimpArgs false
namespace Go.Proofs.YtkmoakfphfakoaaGreat
open Go.RowKit Go.Shelf
attribute [local go_sem] Oper.semAt_some

set_option maxRecDepth 100000 in
set_option maxHeartbeats 8000000 in
theorem UMay_opq (u : Url) (w w0 : World) (hw0 : w.alloc (.cells u.cells 27) = w0) {r2 r1 oq ro ca hm ru rp pm : Bool} {wb : Int} (hM : RowKit.Hid (UM u w.heap.size w0 r2 r1 oq ro ca hm ru rp pm wb))
    (hyes : (r2 && r1 && (u.hq || u.qry.toList.isEmpty) && (u.hf || u.frg.toList.isEmpty)) = true) (hoq : oq = true) :
    Calls Tryz.prog 18 #[u.val] w fun e w' => e = .returned (.bool (ro && !ca && u.port == -1 && eqH u.k u.nm u.num u.p0 u.p1 u.p2 u.p3 u.p4 u.p5 u.p6 u.p7 0 ⟨#[]⟩ 0 0 0 0 0 0 0 0 0 && u.usr.toList.isEmpty && u.pwd.toList.isEmpty && u.segs.isEmpty)) ∧ Below w.heap.size w w' := by
  have hB := Below.refl w0.heap.size w0
  have hb0 : Below w.heap.size w w0 := by rw [← hw0]; exact (Below.refl _ w).alloc (Nat.le_refl _) _
  subst hoq
  have c0 := hM.out.c0
  have c1 := hM.out.c1
  have c2 := hM.out.c2
  have c3 := hM.out.c3
  have c4 := hM.out.c4
  have c5 := hM.out.c5
  have c6 := hM.out.c6
  have c7 := hM.out.c7
  have c8 := hM.out.c8
  have c9 := hM.out.c9
  have c10 := hM.out.c10
  have c11 := hM.out.c11
  have c12 := hM.out.c12
  have c13 := hM.out.c13
  have c14 := hM.out.c14
  have c15 := hM.out.c15
  have c16 := hM.out.c16
  have c17 := hM.out.c17
  have c18 := hM.out.c18
  have c19 := hM.out.c19
  have c20 := hM.out.c20
  obtain ⟨qe, hqe⟩ : ∃ x, u.qry.toList.isEmpty = x := ⟨_, rfl⟩
  obtain ⟨fe, hfe⟩ : ∃ x, u.frg.toList.isEmpty = x := ⟨_, rfl⟩
  obtain ⟨bq, hbq⟩ : ∃ x, u.hq = x := ⟨_, rfl⟩
  obtain ⟨bf, hbf⟩ : ∃ x, u.hf = x := ⟨_, rfl⟩
  rw [hqe, hfe, hbq, hbf] at hyes
  rw [hbq] at c19
  rw [hbf] at c20
  have hr2 : r2 = true := by cases r2 <;> first | rfl | exact absurd hyes (by simp)
  have hr1 : r1 = true := by cases r1 <;> first | rfl | exact absurd hyes (by simp)
  subst hr2 hr1
  obtain ⟨pt, hpt⟩ : ∃ x, (u.port == -1) = x := ⟨_, rfl⟩
  obtain ⟨he, hhe⟩ : ∃ x, eqH u.k u.nm u.num u.p0 u.p1 u.p2 u.p3 u.p4 u.p5 u.p6 u.p7 0 ⟨#[]⟩ 0 0 0 0 0 0 0 0 0 = x := ⟨_, rfl⟩
  obtain ⟨ue, hue⟩ : ∃ x, u.usr.toList.isEmpty = x := ⟨_, rfl⟩
  obtain ⟨we, hwe⟩ : ∃ x, u.pwd.toList.isEmpty = x := ⟨_, rfl⟩
  obtain ⟨N, hN⟩ : ∃ N, u.segs.length = N := ⟨_, rfl⟩
  obtain ⟨se, hse⟩ : ∃ x, ((N : Int) == 0) = x := ⟨_, rfl⟩
  have hs1 : u.segs.isEmpty = se := by rw [← hse, ← hN]; cases u.segs <;> rfl
  rw [hpt, hhe, hue, hwe, hs1]
  rw [hN] at c15
  clear hs1 hN
  have hEH := run_eqH
  cases bq <;> cases qe <;> cases bf <;> cases fe <;> first | (cases hyes; done) | skip
  all_goals
    clear hyes
    go_enter Tryz.func18, Tryz.ntmps18
    go_wp2_with fail
    with_reducible refine Calls.mono (hM.out.kr2 _ hB) ?_
    rintro e w2 ⟨rfl, hS2⟩
    go_wp2_with fail
    with_reducible refine Calls.mono (hM.out.kr1 _ hS2) ?_
    rintro e w1 ⟨rfl, hS1⟩
    go_wp2_with fail
    with_reducible refine Calls.mono (hM.out.koq _ hS1) ?_
    rintro e w3 ⟨rfl, hS3⟩
    cases ro with
    | false =>
      go_wp2_with fail
      with_reducible refine Calls.mono (hM.out.kro _ hS3) ?_
      rintro e w4 ⟨rfl, hS4⟩
      go_wp2_with fail
      go_ret
      exact ⟨rfl, hb0.trans (hS4.mono hb0.size)⟩
    | true =>
      cases ca with
      | true =>
        go_wp2_with fail
        with_reducible refine Calls.mono (hM.out.kro _ hS3) ?_
        rintro e w4 ⟨rfl, hS4⟩
        go_wp2_with fail
        with_reducible refine Calls.mono (hM.out.kca rfl _ hS4) ?_
        rintro e w5 ⟨rfl, hS5⟩
        go_wp2_with fail
        go_ret
        exact ⟨rfl, hb0.trans (hS5.mono hb0.size)⟩
      | false =>
        cases pt with
        | false =>
          go_wp2_with fail
          with_reducible refine Calls.mono (hM.out.kro _ hS3) ?_
          rintro e w4 ⟨rfl, hS4⟩
          go_wp2_with fail
          with_reducible refine Calls.mono (hM.out.kca rfl _ hS4) ?_
          rintro e w5 ⟨rfl, hS5⟩
          go_wp2_with fail
          go_ret
          exact ⟨rfl, hb0.trans (hS5.mono hb0.size)⟩
        | true =>
          cases he with
          | false =>
            go_wp2_with fail
            with_reducible refine Calls.mono (hM.out.kro _ hS3) ?_
            rintro e w4 ⟨rfl, hS4⟩
            go_wp2_with fail
            with_reducible refine Calls.mono (hM.out.kca rfl _ hS4) ?_
            rintro e w5 ⟨rfl, hS5⟩
            go_wp2_with fail
            go_ret
            exact ⟨rfl, hb0.trans (hS5.mono hb0.size)⟩
          | true =>
            cases ue with
            | false =>
              go_wp2_with fail
              with_reducible refine Calls.mono (hM.out.kro _ hS3) ?_
              rintro e w4 ⟨rfl, hS4⟩
              go_wp2_with fail
              with_reducible refine Calls.mono (hM.out.kca rfl _ hS4) ?_
              rintro e w5 ⟨rfl, hS5⟩
              go_wp2_with fail
              go_ret
              exact ⟨rfl, hb0.trans (hS5.mono hb0.size)⟩
            | true =>
              cases we with
              | false =>
                go_wp2_with fail
                with_reducible refine Calls.mono (hM.out.kro _ hS3) ?_
                rintro e w4 ⟨rfl, hS4⟩
                go_wp2_with fail
                with_reducible refine Calls.mono (hM.out.kca rfl _ hS4) ?_
                rintro e w5 ⟨rfl, hS5⟩
                go_wp2_with fail
                go_ret
                exact ⟨rfl, hb0.trans (hS5.mono hb0.size)⟩
              | true =>
                cases se with
                | false =>
                  go_wp2_with fail
                  with_reducible refine Calls.mono (hM.out.kro _ hS3) ?_
                  rintro e w4 ⟨rfl, hS4⟩
                  go_wp2_with fail
                  with_reducible refine Calls.mono (hM.out.kca rfl _ hS4) ?_
                  rintro e w5 ⟨rfl, hS5⟩
                  go_wp2_with fail
                  go_ret
                  exact ⟨rfl, hb0.trans (hS5.mono hb0.size)⟩
                | true =>
                  go_wp2_with fail
                  with_reducible refine Calls.mono (hM.out.kro _ hS3) ?_
                  rintro e w4 ⟨rfl, hS4⟩
                  go_wp2_with fail
                  with_reducible refine Calls.mono (hM.out.kca rfl _ hS4) ?_
                  rintro e w5 ⟨rfl, hS5⟩
                  go_wp2_with fail
                  go_ret
                  exact ⟨rfl, hb0.trans (hS5.mono hb0.size)⟩
end Go.Proofs.YtkmoakfphfakoaaGreat
