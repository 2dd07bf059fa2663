/-
  Walks, parts W Y, in one text.
-/
import Derived.Test.YtkmoakfphfakoaaGreatX
import Derived.Lib.QuietBelow
import Derived.Test.YtkmoakfphfakoaaGreatG
set_option linter.unusedVariables false
set_option linter.unusedSimpArgs false
namespace Go.Proofs.YtkmoakfphfakoaaGreat
open Go.RowKit Go.Shelf Go.Sort
attribute [local go_sem] Oper.semAt_some

set_option maxRecDepth 1000000 in
set_option maxHeartbeats 8000000 in
theorem UMay_web (u : Url) (w w0 : World) (hw0 : w.alloc (.cells u.cells 27) = w0) {ro ca hm ru rp pm : Bool} {wb : Int} (hM : RowKit.Hid (UM u w.heap.size w0 true true false ro ca hm ru rp pm wb))
    (hU0 : UAt u w.heap.size w0) (hu0 : u.Ok w0) (hyes : ((u.hq || u.qry.toList.isEmpty) && (u.hf || u.frg.toList.isEmpty)) = true) :
    Calls Tryz.prog 18 #[u.val] w fun e w' => e = .returned (.bool u.mayW) ∧ Below w.heap.size w w' := by
  have hB := Below.refl w0.heap.size w0
  have hb0 : Below w.heap.size w w0 := by rw [← hw0]; exact (Below.refl _ w).alloc (Nat.le_refl _) _
  have HU := Lib.hid (And.intro hU0 hu0)
  clear hU0 hu0
  have c0 := hM.out.c0
  have c17 := hM.out.c17
  have c18 := hM.out.c18
  have c19 := hM.out.c19
  have c20 := hM.out.c20
  obtain ⟨qe, hqe⟩ : ∃ x, u.qry.toList.isEmpty = x := ⟨_, rfl⟩
  obtain ⟨fe, hfe⟩ : ∃ x, u.frg.toList.isEmpty = x := ⟨_, rfl⟩
  obtain ⟨bq, hbq⟩ : ∃ x, u.hq = x := ⟨_, rfl⟩
  obtain ⟨bf, hbf⟩ : ∃ x, u.hf = x := ⟨_, rfl⟩
  rw [hqe, hfe, hbq, hbf] at hyes
  rw [hbq] at c19
  rw [hbf] at c20
  cases bq <;> cases qe <;> cases bf <;> cases fe <;> first | (cases hyes; done) | skip
  all_goals
    clear hyes
    go_enter Tryz.func18, Tryz.ntmps18
    go_wp2_with fail
    with_reducible refine Calls.mono (hM.out.kr2 _ hB) ?_
    rintro e w2 ⟨rfl, hS2⟩
    go_wp2_with fail
    with_reducible refine Calls.mono (hM.out.kr1 _ hS2) ?_
    rintro e w1 ⟨rfl, hS1⟩
    go_wp2_with fail
    with_reducible refine Calls.mono (hM.out.koq _ hS1) ?_
    rintro e w3 ⟨rfl, hS3⟩
    go_wp2_with fail
    refine web5 u w.heap.size w3 (HU.out.1.below hS3) (HU.out.2.below hS3) _ _ (fun a W' hd h2 hS4 => ?_) _ _ _ _ _ _ _ _ _ _ _ _ _ _ _ _ _ _ _ _ _ _ _ _ _ _ _ _ _ _ _ _ _ _ _ _ _ _ _ _ _ _ _ _ _ _ _ _ _ _ _ _ _ _ _ _ _ _ _ _ _ _ _ _ _ _ _ _ _ _ _ _ _ _ _ _ _ _ _ _ _ _ _ _ _ _ _ _ _ _ _ _ _ _ _ _ _ _ _ _ _ _ _ _ _ _ _ _ _ _ _ _ _ _ _ _ _ _
    rename_i hK0
    refine hK0 _ _ (wp_ret ?_)
    refine bodyPost_ret ((results_tmp (fn := Tryz.f18) (t := 2) rfl _ _ _).trans (by rw [h2])) hd ?_
    exact ⟨rfl, hb0.trans ((hS3.trans (hS4.mono hS3.size)).mono hb0.size)⟩

/-- url.May says whether an address may be. -/
theorem UMay_any (u : Url) (w : World) (hu : u.Ok w) :
    Calls Tryz.prog 18 #[u.val] w fun e w' => e = .returned (.bool u.may) ∧ Below w.heap.size w w' := by
  obtain ⟨w0, hw0⟩ : ∃ w0, w.alloc (.cells u.cells 27) = w0 := ⟨_, rfl⟩
  have hU0 : UAt u w.heap.size w0 := by rw [← hw0]; exact UAt.new u w
  have hb0 : Below w.heap.size w w0 := by rw [← hw0]; exact (Below.refl _ w).alloc (Nat.le_refl _) _
  have hu0 := hu.below hb0
  have hM := UM.of hU0 hu0
  cases htl : u.tails with
  | false =>
    have := UMay_tails u w w0 hw0 (Lib.hid hM) htl
    unfold Url.may
    rw [htl]
    exact this
  | true =>
    cases ho : isOpq u.sch.data.toList with
    | true =>
      have := UMay_opq u w w0 hw0 (Lib.hid hM) htl ho
      unfold Url.may
      rw [htl, ho, if_pos rfl, Bool.true_and]
      exact this
    | false =>
      have ht := htl
      unfold Url.tails at ht
      simp only [Bool.and_eq_true] at ht
      obtain ⟨⟨⟨h2, h1⟩, h3⟩, h4⟩ := ht
      rw [h2, h1, ho] at hM
      have := UMay_web u w w0 hw0 (Lib.hid hM) hU0 hu0 (by rw [h3, h4]; rfl)
      unfold Url.may
      rw [htl, ho, Bool.true_and]
      exact this
end Go.Proofs.YtkmoakfphfakoaaGreat

set_option linter.unusedVariables false
set_option linter.unusedSimpArgs false
namespace Go.Proofs.YtkmoakfphfakoaaGreat
open Go.RowKit Go.Shelf Go.Sort
attribute [local go_sem] Oper.semAt_some

abbrev Url.hostshow (u : Url) : List UInt8 := hshow u.k u.nm u.num u.p0 u.p1 u.p2 u.p3 u.p4 u.p5 u.p6 u.p7
def Url.door (u : Url) : List UInt8 := if u.may && decide (0 < webP u.sch.data.toList) then (if u.port = -1 then u.hostshow else u.hostshow ++ (58 :: dec u.port.toNat)) else []

theorem opq_web (l : List UInt8) (h : isOpq l = true) : webP l = 0 := by
  unfold isOpq at h
  simp only [Bool.or_eq_true, beq_iff_eq] at h
  rcases h with (rfl | rfl) | rfl <;> decide
theorem Url.may_web {u : Url} (h : u.may = true) (hw : 0 < webP u.sch.data.toList) : u.mayW = true := by
  unfold Url.may at h
  rw [Bool.and_eq_true] at h
  have h2 := h.2
  split at h2
  · rename_i ho; rw [opq_web _ ho] at hw; omega
  · exact h2
theorem Url.may_port {u : Url} (h : u.may = true) (hw : 0 < webP u.sch.data.toList) : -1 ≤ u.port ∧ u.port ≤ 65535 := by
  have := Url.may_web h hw
  unfold Url.mayW at this
  simp only [Bool.and_eq_true, decide_eq_true_eq] at this
  exact ⟨this.1.1.2, this.1.2⟩
theorem hshow_len (k : Int) (s : ByteArray) (hs : s.size ≤ 1000000) (n p0 p1 p2 p3 p4 p5 p6 p7 : Int) : (hshow k s n p0 p1 p2 p3 p4 p5 p6 p7).length ≤ 1000000 := by
  unfold hshow
  have h4 : (fourS n).length ≤ 100 := by
    unfold fourS
    split
    · have := join_len (fourL n.toNat) [46] 3 (fourL_len _)
      simp [fourL] at this ⊢
      omega
    · simp
  have h6 := showS_len [p0, p1, p2, p3, p4, p5, p6, p7] rfl
  have h1 : s.data.toList.length ≤ 1000000 := by rw [← Lib.size_eq]; exact hs
  split
  · split
    · exact h1
    · split
      · omega
      · simp; omega
  · simp

/-- The cells of an address. -/
theorem UAt.all {u : Url} {b : Nat} {W : World} (h : UAt u b W) :
    W.cell? ⟨b, 0, none⟩ = some (.string u.sch) ∧ W.cell? ⟨b, 1, none⟩ = some (.string u.usr) ∧ W.cell? ⟨b, 2, none⟩ = some (.string u.pwd) ∧ W.cell? ⟨b, 3, none⟩ = some (.int .i64 u.k) ∧ W.cell? ⟨b, 4, none⟩ = some (.string u.nm) ∧ W.cell? ⟨b, 5, none⟩ = some (.int .i64 u.num) ∧ W.cell? ⟨b, 6, none⟩ = some (.int .i64 u.p0) ∧ W.cell? ⟨b, 7, none⟩ = some (.int .i64 u.p1) ∧ W.cell? ⟨b, 8, none⟩ = some (.int .i64 u.p2) ∧ W.cell? ⟨b, 9, none⟩ = some (.int .i64 u.p3) ∧ W.cell? ⟨b, 10, none⟩ = some (.int .i64 u.p4) ∧ W.cell? ⟨b, 11, none⟩ = some (.int .i64 u.p5) ∧ W.cell? ⟨b, 12, none⟩ = some (.int .i64 u.p6) ∧ W.cell? ⟨b, 13, none⟩ = some (.int .i64 u.p7) ∧ W.cell? ⟨b, 14, none⟩ = some (.int .i64 u.port) ∧ W.cell? ⟨b, 15, none⟩ = some (.slice u.A u.segs.length u.cap) ∧ W.cell? ⟨b, 16, none⟩ = some (.string u.opq) ∧ W.cell? ⟨b, 17, none⟩ = some (.string u.qry) ∧ W.cell? ⟨b, 18, none⟩ = some (.string u.frg) ∧ W.cell? ⟨b, 19, none⟩ = some (.bool u.hq) ∧ W.cell? ⟨b, 20, none⟩ = some (.bool u.hf) :=
  ⟨(h.cell 0).trans rfl, (h.cell 1).trans rfl, (h.cell 2).trans rfl, (h.cell 3).trans rfl, (h.cell 4).trans rfl, (h.cell 5).trans rfl, (h.cell 6).trans rfl, (h.cell 7).trans rfl, (h.cell 8).trans rfl, (h.cell 9).trans rfl, (h.cell 10).trans rfl, (h.cell 11).trans rfl, (h.cell 12).trans rfl, (h.cell 13).trans rfl, (h.cell 14).trans rfl, (h.cell 15).trans rfl, (h.cell 16).trans rfl, (h.cell 17).trans rfl, (h.cell 18).trans rfl, (h.cell 19).trans rfl, (h.cell 20).trans rfl⟩

set_option maxRecDepth 100000 in
set_option maxHeartbeats 4000000 in
theorem Door_any (u : Url) (w : World) (hu : u.Ok w) :
    Calls Tryz.prog 13 #[u.val] w fun e w' => e = .returned (.string ⟨u.door.toArray⟩) ∧ Below w.heap.size w w' := by
  obtain ⟨w0, hw0⟩ : ∃ w0, w.alloc (.cells u.cells 27) = w0 := ⟨_, rfl⟩
  have hU0 : UAt u w.heap.size w0 := by rw [← hw0]; exact UAt.new u w
  have hb0 : Below w.heap.size w w0 := by rw [← hw0]; exact (Below.refl _ w).alloc (Nat.le_refl _) _
  have hu0 := hu.below hb0
  have hM := UMay_any u w0 hu0
  have hport := @Url.may_port u
  have hlen := hshow_len u.k u.nm hu.nm u.num u.p0 u.p1 u.p2 u.p3 u.p4 u.p5 u.p6 u.p7
  unfold Url.door
  obtain ⟨m, hm⟩ : ∃ m, u.may = m := ⟨_, rfl⟩
  rw [hm] at hM hport ⊢
  clear hm
  have HU := Lib.hid (And.intro hU0 hu0)
  have HL := Lib.hid hlen
  have hld : ∀ (W : World) (_ : UAt u w.heap.size W) {ops : Array Oper} {rest : List Oper} {o : Oper} {a : Act} {Q : Exit → Act → World → Prop} (_ : o.guard = none) (_ : o.op = .load 27 (.tmp 1)) (_ : a.eval (.tmp 1) = .pointer (some ⟨w.heap.size, 0, none⟩))
    (_ : wpList Tryz.prog ops Q rest (a.put o.dst u.val) W), wpList Tryz.prog ops Q (o :: rest) a W := fun W hW {_ _ _ _ _} hg ho hx h =>
    wpList_load_row hg 27 (.tmp 1) ho w.heap.size hx 27 u.cells (0, 0) _ hW Tryz.underlying27 rfl (by kernel_rfl) h
  have HLD := Lib.hid hld
  clear hld
  cases m with
  | false =>
    simp only [Bool.false_and, Bool.false_eq_true, if_false]
    go_enter Tryz.func13, Tryz.ntmps13
    go_wp2_with (refine HLD.out w0 HU.out.1 rfl rfl rfl ?_)
    refine Calls.mono hM ?_
    rintro e w1 ⟨rfl, h1⟩
    go_wp2_with fail
    go_ret
    exact ⟨rfl, hb0.trans (h1.mono hb0.size)⟩
  | true =>
    simp only [Bool.true_and]
    have hW := fun W => Web_any u.sch W
    have hp := hport rfl
    obtain ⟨wb, hwb⟩ : ∃ x, webP u.sch.data.toList = x := ⟨_, rfl⟩
    rw [hwb] at hW hp ⊢
    clear hwb hport hlen hu0 hU0
    by_cases h0 : wb = 0
    · subst h0
      simp only [Nat.lt_irrefl, decide_false, Bool.false_eq_true, if_false]
      clear hu hp
      go_enter Tryz.func13, Tryz.ntmps13
      go_wp2_with (refine HLD.out w0 HU.out.1 rfl rfl rfl ?_)
      refine Calls.mono hM ?_
      rintro e w1 ⟨rfl, h1⟩
      have c0 := (HU.out.1.below h1).cell 0
      change w1.cell? _ = some (.string u.sch) at c0
      go_wp2_with fail
      refine Calls.mono (hW _) ?_
      rintro e w2 ⟨rfl, rfl⟩
      go_wp2_with fail
      go_ret
      exact ⟨rfl, hb0.trans (h1.mono hb0.size)⟩
    · have hp := hp (by omega)
      have hn0 : ((wb : Int) == 0) = false := by simp; omega
      have h0w : decide (0 < wb) = true := by simp; omega
      rw [h0w]
      simp only [if_true]
      clear h0w h0
      by_cases hpt : u.port = -1
      · rw [if_pos hpt]
        go_enter Tryz.func13, Tryz.ntmps13
        go_wp2_with (refine HLD.out w0 HU.out.1 rfl rfl rfl ?_)
        refine Calls.mono hM ?_
        rintro e w1 ⟨rfl, h1⟩
        have hU1 := HU.out.1.below h1
        have c0 : w1.cell? ⟨w.heap.size, 0, none⟩ = some (.string u.sch) := hU1.cell 0
        have c14 : w1.cell? ⟨w.heap.size, 14, none⟩ = some (.int .i64 (-1)) := (hU1.cell 14).trans (by rw [← hpt]; rfl)
        have c3 : w1.cell? ⟨w.heap.size, 3, none⟩ = some (.int .i64 u.k) := hU1.cell 3
        have c4 : w1.cell? ⟨w.heap.size, 4, none⟩ = some (.string u.nm) := hU1.cell 4
        have c5 : w1.cell? ⟨w.heap.size, 5, none⟩ = some (.int .i64 u.num) := hU1.cell 5
        have c6 : w1.cell? ⟨w.heap.size, 6, none⟩ = some (.int .i64 u.p0) := hU1.cell 6
        have c7 : w1.cell? ⟨w.heap.size, 7, none⟩ = some (.int .i64 u.p1) := hU1.cell 7
        have c8 : w1.cell? ⟨w.heap.size, 8, none⟩ = some (.int .i64 u.p2) := hU1.cell 8
        have c9 : w1.cell? ⟨w.heap.size, 9, none⟩ = some (.int .i64 u.p3) := hU1.cell 9
        have c10 : w1.cell? ⟨w.heap.size, 10, none⟩ = some (.int .i64 u.p4) := hU1.cell 10
        have c11 : w1.cell? ⟨w.heap.size, 11, none⟩ = some (.int .i64 u.p5) := hU1.cell 11
        have c12 : w1.cell? ⟨w.heap.size, 12, none⟩ = some (.int .i64 u.p6) := hU1.cell 12
        have c13 : w1.cell? ⟨w.heap.size, 13, none⟩ = some (.int .i64 u.p7) := hU1.cell 13
        go_wp2_with fail
        refine Calls.mono (hW _) ?_
        rintro e w2 ⟨rfl, rfl⟩
        go_wp2_with fail
        refine Calls.mono (HShow_any u.k u.nm (by have := hu.nm; omega) u.num u.p0 u.p1 u.p2 u.p3 u.p4 u.p5 u.p6 u.p7 hu.num _ ((HU.out.2.below h1).deep)) ?_
        rintro e w3 ⟨rfl, h3⟩
        go_wp2_with fail
        go_ret
        exact ⟨rfl, hb0.trans ((h1.trans (h3.mono h1.size)).mono hb0.size)⟩
      · rw [if_neg hpt]
        obtain ⟨n, hn⟩ : ∃ n : Nat, u.port = n := ⟨u.port.toNat, by omega⟩
        have hn2 : n ≤ 65535 := by omega
        rw [hn, Int.toNat_natCast]
        have hne : ((n : Int) == -1) = false := by simp
        obtain ⟨hs, hhs⟩ : ∃ x, u.hostshow = x := ⟨_, rfl⟩
        obtain ⟨dn, hdn⟩ : ∃ x, dec n = x := ⟨_, rfl⟩
        rw [hhs, hdn]
        have HHS := Lib.hid hhs
        have HDN := Lib.hid hdn
        clear hhs hdn
        go_enter Tryz.func13, Tryz.ntmps13
        go_wp2_with (refine HLD.out w0 HU.out.1 rfl rfl rfl ?_)
        refine Calls.mono hM ?_
        rintro e w1 ⟨rfl, h1⟩
        have hU1 := HU.out.1.below h1
        have c0 : w1.cell? ⟨w.heap.size, 0, none⟩ = some (.string u.sch) := hU1.cell 0
        have c14 : w1.cell? ⟨w.heap.size, 14, none⟩ = some (.int .i64 n) := (hU1.cell 14).trans (by rw [← hn]; rfl)
        go_wp2_with fail
        refine Calls.mono (hW _) ?_
        rintro e w2 ⟨rfl, rfl⟩
        go_wp2_with fail
        have q3 := cell_regrown (show w2.cell? ⟨w.heap.size, 3, none⟩ = some (.int .i64 u.k) from hU1.cell 3)
        have q4 := cell_regrown (show w2.cell? ⟨w.heap.size, 4, none⟩ = some (.string u.nm) from hU1.cell 4)
        have q5 := cell_regrown (show w2.cell? ⟨w.heap.size, 5, none⟩ = some (.int .i64 u.num) from hU1.cell 5)
        have q6 := cell_regrown (show w2.cell? ⟨w.heap.size, 6, none⟩ = some (.int .i64 u.p0) from hU1.cell 6)
        have q7 := cell_regrown (show w2.cell? ⟨w.heap.size, 7, none⟩ = some (.int .i64 u.p1) from hU1.cell 7)
        have q8 := cell_regrown (show w2.cell? ⟨w.heap.size, 8, none⟩ = some (.int .i64 u.p2) from hU1.cell 8)
        have q9 := cell_regrown (show w2.cell? ⟨w.heap.size, 9, none⟩ = some (.int .i64 u.p3) from hU1.cell 9)
        have q10 := cell_regrown (show w2.cell? ⟨w.heap.size, 10, none⟩ = some (.int .i64 u.p4) from hU1.cell 10)
        have q11 := cell_regrown (show w2.cell? ⟨w.heap.size, 11, none⟩ = some (.int .i64 u.p5) from hU1.cell 11)
        have q12 := cell_regrown (show w2.cell? ⟨w.heap.size, 12, none⟩ = some (.int .i64 u.p6) from hU1.cell 12)
        have q13 := cell_regrown (show w2.cell? ⟨w.heap.size, 13, none⟩ = some (.int .i64 u.p7) from hU1.cell 13)
        have q14 := cell_regrown c14
        have hu2 := HU.out.2.below h1
        have hl := HL.out
        have hhs := HHS.out
        have hdn := HDN.out
        have cH : ∀ d os, Calls Tryz.prog 28 #[hostV u.k u.nm u.num u.p0 u.p1 u.p2 u.p3 u.p4 u.p5 u.p6 u.p7] (grow (redrawn w2 d) os) fun e w'' => e = .returned (.string ⟨hs.toArray⟩) ∧ ∃ p : Regrown, w'' = grow (redrawn w2 p.d) p.os := fun d os => Calls.regrown_of (by rw [← hhs]; exact HShow_any u.k u.nm (by have := hu.nm; omega) u.num u.p0 u.p1 u.p2 u.p3 u.p4 u.p5 u.p6 u.p7 hu.num _ ((hu2.below (below_regrown w2 d os)).deep))
        have cD : ∀ d os, Calls Tryz.prog 29 #[.int .i64 n] (grow (redrawn w2 d) os) fun e w'' => e = .returned (.string ⟨(dec n).toArray⟩) ∧ ∃ p : Regrown, w'' = grow (redrawn w2 p.d) p.os := fun d os => Calls.regrown_of (DShow_any n _ (by omega))
        have hl : hs.length ≤ 1000000 := by rw [← hhs]; exact hl
        have hdl : (dec n).length ≤ 65536 := by have := (rdec_len n).2; simp [dec]; omega
        rw [hdn] at cD hdl
        have k1 := concat_run Tryz.prog hs [58] (by simp; omega)
        have k2 := concat_run Tryz.prog (hs ++ [58]) dn (by simp; omega)
        clear hhs hdn hl hdl hu2
        refine wp_region_quiet_below (by kernel_rfl) (by kernel_rfl) ?_
        repeat (go_big_quiet_step (first | exact cH _ _ | exact cD _ _))
        refine wpQuiet_nil ?_
        intro _ hw'
        obtain ⟨⟨dq, osq⟩, hw''⟩ := hw'
        subst hw''
        go_wp2_with fail
        go_ret
        exact ⟨by simp, hb0.trans ((h1.trans ((below_regrown w2 dq osq).mono h1.size)).mono hb0.size)⟩
end Go.Proofs.YtkmoakfphfakoaaGreat
