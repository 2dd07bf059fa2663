/-
  Walks, part V: url.May of an address of the web.
-/
import Derived.Test.YtkmoakfphfakoaaGreatT
import Derived.Lib.QuietBelow
set_option linter.unusedVariables false
set_option linter.unusedSimpArgs false
namespace Go.Proofs.YtkmoakfphfakoaaGreat
open Go.RowKit Go.Shelf Go.Sort
attribute [local go_sem] Oper.semAt_some

/-- A region of a code, by its number. -/
def regAt (i : Nat) : Code → Option Code
  | .region id ops d => if id = i then some (.region id ops d) else none
  | .seq a b => match regAt i a with
    | some c => some c
    | none => regAt i b
  | .block _ c => regAt i c
  | .cond _ a b => match regAt i a with
    | some c => some c
    | none => regAt i b
  | _ => none

noncomputable def web5_code : Code := (Tryz.f18.body.bind (regAt 5)).getD .skip
set_option maxRecDepth 1000000 in
set_option maxHeartbeats 8000000 in
theorem web5 (u : Url) (b : Nat) (W : World) (hU : UAt u b W) (hu : u.Ok W)
    (R : Ending → World → Prop) (K : Act → World → Prop)
    (hK : ∀ a W', a.defers = [] → a.tmps.getD 2 undef = .bool (decide (0 < webP u.sch.data.toList) && u.hostmay && ready 4 u.usr.data.toList && ready 4 u.pwd.data.toList && pmay u.segs && u.opq.toList.isEmpty && decide (-1 ≤ u.port) && decide (u.port ≤ 65535) && u.port != webP u.sch.data.toList) → Below W.heap.size W W' → K a W')
    (x0 x2 x3 x4 x5 x6 x7 x8 x9 x10 x11 x12 x13 x14 x15 x16 x17 x18 x19 x20 x21 x22 x23 x24 x25 x26 x27 x28 x29 x30 x31 x32 x33 x34 x35 x36 x37 x38 x39 x40 x41 x42 x43 x44 x45 x46 x47 x48 x49 x50 x51 x52 x53 x54 x55 x56 x57 x58 x59 x60 x61 x62 x63 x64 x65 x66 x67 x68 x69 x70 x71 x72 x73 x74 x75 x76 x77 x78 x79 x80 x81 x82 x83 x84 x85 x86 x87 x88 x89 x90 x91 x92 x93 x94 x95 x96 x97 x98 x99 x100 x101 x102 x103 x104 x105 x106 x107 x108 x109 x110 x111 x112 x113 x114 x115 x116 x117 x118 : Value) : web5_code.wp Tryz.prog (Exit.then K (bodyPost Tryz.prog Tryz.f18 R)) { tmps := #[x0, .pointer (some ⟨b, 0, none⟩), x2, x3, x4, x5, x6, x7, x8, x9, x10, x11, x12, x13, x14, x15, x16, x17, x18, x19, x20, x21, x22, x23, x24, x25, x26, x27, x28, x29, x30, x31, x32, x33, x34, x35, x36, x37, x38, x39, x40, x41, x42, x43, x44, x45, x46, x47, x48, x49, x50, x51, x52, x53, x54, x55, x56, x57, x58, x59, x60, x61, x62, x63, x64, x65, x66, x67, x68, x69, x70, x71, x72, x73, x74, x75, x76, x77, x78, x79, x80, x81, x82, x83, x84, x85, x86, x87, x88, x89, x90, x91, x92, x93, x94, x95, x96, x97, x98, x99, x100, x101, x102, x103, x104, x105, x106, x107, x108, x109, x110, x111, x112, x113, x114, x115, x116, x117, x118], defers := [] } W := by
  have c0 := cell_regrown (show W.cell? ⟨b, 0, none⟩ = some (.string u.sch) from (hU.cell 0).trans rfl)
  have c1 := cell_regrown (show W.cell? ⟨b, 1, none⟩ = some (.string u.usr) from (hU.cell 1).trans rfl)
  have c2 := cell_regrown (show W.cell? ⟨b, 2, none⟩ = some (.string u.pwd) from (hU.cell 2).trans rfl)
  have c3 := cell_regrown (show W.cell? ⟨b, 3, none⟩ = some (.int .i64 u.k) from (hU.cell 3).trans rfl)
  have c4 := cell_regrown (show W.cell? ⟨b, 4, none⟩ = some (.string u.nm) from (hU.cell 4).trans rfl)
  have c5 := cell_regrown (show W.cell? ⟨b, 5, none⟩ = some (.int .i64 u.num) from (hU.cell 5).trans rfl)
  have c6 := cell_regrown (show W.cell? ⟨b, 6, none⟩ = some (.int .i64 u.p0) from (hU.cell 6).trans rfl)
  have c7 := cell_regrown (show W.cell? ⟨b, 7, none⟩ = some (.int .i64 u.p1) from (hU.cell 7).trans rfl)
  have c8 := cell_regrown (show W.cell? ⟨b, 8, none⟩ = some (.int .i64 u.p2) from (hU.cell 8).trans rfl)
  have c9 := cell_regrown (show W.cell? ⟨b, 9, none⟩ = some (.int .i64 u.p3) from (hU.cell 9).trans rfl)
  have c10 := cell_regrown (show W.cell? ⟨b, 10, none⟩ = some (.int .i64 u.p4) from (hU.cell 10).trans rfl)
  have c11 := cell_regrown (show W.cell? ⟨b, 11, none⟩ = some (.int .i64 u.p5) from (hU.cell 11).trans rfl)
  have c12 := cell_regrown (show W.cell? ⟨b, 12, none⟩ = some (.int .i64 u.p6) from (hU.cell 12).trans rfl)
  have c13 := cell_regrown (show W.cell? ⟨b, 13, none⟩ = some (.int .i64 u.p7) from (hU.cell 13).trans rfl)
  have c14 := cell_regrown (show W.cell? ⟨b, 14, none⟩ = some (.int .i64 u.port) from (hU.cell 14).trans rfl)
  have c15 := cell_regrown (show W.cell? ⟨b, 15, none⟩ = some (.slice u.A u.segs.length u.cap) from (hU.cell 15).trans rfl)
  have c16 := cell_regrown (show W.cell? ⟨b, 16, none⟩ = some (.string u.opq) from (hU.cell 16).trans rfl)
  have hK := Lib.hid hK
  have cW : ∀ d os, Calls Tryz.prog 21 #[.string u.sch] (grow (redrawn W d) os) fun e w'' => e = .returned (.int .i64 ((webP u.sch.data.toList : Nat) : Int)) ∧ ∃ p : Regrown, w'' = grow (redrawn W p.d) p.os := fun d os => Calls.regrown_of ((Web_any u.sch _).mono fun _ _ ⟨he, hw⟩ => ⟨he, hw ▸ Below.refl _ _⟩)
  have cH : ∀ d os, Calls Tryz.prog 35 #[hostV u.k u.nm u.num u.p0 u.p1 u.p2 u.p3 u.p4 u.p5 u.p6 u.p7] (grow (redrawn W d) os) fun e w'' => e = .returned (.bool u.hostmay) ∧ ∃ p : Regrown, w'' = grow (redrawn W p.d) p.os := fun d os => Calls.regrown_of (HMay_any u.k u.nm (by have := hu.nm; omega) u.num u.p0 u.p1 u.p2 u.p3 u.p4 u.p5 u.p6 u.p7 hu.num _ ((hu.below (below_regrown W d os)).deep))
  have cU : ∀ d os, Calls Tryz.prog 32 #[.string u.usr, .int .i64 4] (grow (redrawn W d) os) fun e w'' => e = .returned (.bool (ready 4 u.usr.data.toList)) ∧ ∃ p : Regrown, w'' = grow (redrawn W p.d) p.os := fun d os => Calls.regrown_of (Ready_any u.usr 4 _ (by have := hu.usr; omega))
  have cP : ∀ d os, Calls Tryz.prog 32 #[.string u.pwd, .int .i64 4] (grow (redrawn W d) os) fun e w'' => e = .returned (.bool (ready 4 u.pwd.data.toList)) ∧ ∃ p : Regrown, w'' = grow (redrawn W p.d) p.os := fun d os => Calls.regrown_of (Ready_any u.pwd 4 _ (by have := hu.pwd; omega))
  have cM : ∀ d os, Calls Tryz.prog 36 #[.slice u.A u.segs.length u.cap] (grow (redrawn W d) os) fun e w'' => e = .returned (.bool (pmay u.segs)) ∧ ∃ p : Regrown, w'' = grow (redrawn W p.d) p.os := fun d os => Calls.regrown_of (PMay_any u.A u.segs u.cap _ ((hu.below (below_regrown W d os)).strs) hu.segs (by have := hu.len; omega))
  have hwc : (decide (0 < webP u.sch.data.toList)) = decide ((0 : Int) < ((webP u.sch.data.toList : Nat) : Int)) := by rw [Bool.eq_iff_iff]; simp
  rw [hwc] at hK
  clear hwc hu hU
  generalize ((webP u.sch.data.toList : Nat) : Int) = wb at hK cW
  obtain ⟨hm, hhm⟩ : ∃ x, u.hostmay = x := ⟨_, rfl⟩
  obtain ⟨ru, hru⟩ : ∃ x, ready 4 u.usr.data.toList = x := ⟨_, rfl⟩
  obtain ⟨rp, hrp⟩ : ∃ x, ready 4 u.pwd.data.toList = x := ⟨_, rfl⟩
  obtain ⟨pm, hpm⟩ : ∃ x, pmay u.segs = x := ⟨_, rfl⟩
  obtain ⟨oe, hoe⟩ : ∃ x, u.opq.toList.isEmpty = x := ⟨_, rfl⟩
  obtain ⟨g1, hg1⟩ : ∃ x, decide (-1 ≤ u.port) = x := ⟨_, rfl⟩
  obtain ⟨g2, hg2⟩ : ∃ x, decide (u.port ≤ 65535) = x := ⟨_, rfl⟩
  obtain ⟨wp, hwp⟩ : ∃ x, decide (0 < wb) = x := ⟨_, rfl⟩
  obtain ⟨g3, hg3⟩ : ∃ x, (u.port != wb) = x := ⟨_, rfl⟩
  rw [hwp, hhm, hru, hrp, hpm, hoe, hg1, hg2, hg3] at hK
  rw [hhm] at cH
  rw [hru] at cU
  rw [hrp] at cP
  rw [hpm] at cM
  clear hhm hru hrp hpm
  dsimp only
  conv => arg 2; whnf
  cases wp with
  | false =>
    refine wp_region_quiet_below (by kernel_rfl) (by kernel_rfl) ?_
    repeat (go_big_quiet_step (first | (with_reducible exact cW _ _) | (with_reducible exact cH _ _) | (with_reducible exact cU _ _) | (with_reducible exact cP _ _) | (with_reducible exact cM _ _)))
    refine wpQuiet_nil ?_
    intro _ hw'
    obtain ⟨⟨dq, osq⟩, hw''⟩ := hw'
    subst hw''
    exact hK.out _ _ rfl rfl (below_regrown W dq osq)
  | true =>
    cases hm with
    | false =>
      refine wp_region_quiet_below (by kernel_rfl) (by kernel_rfl) ?_
      repeat (go_big_quiet_step (first | (with_reducible exact cW _ _) | (with_reducible exact cH _ _) | (with_reducible exact cU _ _) | (with_reducible exact cP _ _) | (with_reducible exact cM _ _)))
      refine wpQuiet_nil ?_
      intro _ hw'
      obtain ⟨⟨dq, osq⟩, hw''⟩ := hw'
      subst hw''
      exact hK.out _ _ rfl rfl (below_regrown W dq osq)
    | true =>
      cases ru with
      | false =>
        refine wp_region_quiet_below (by kernel_rfl) (by kernel_rfl) ?_
        repeat (go_big_quiet_step (first | (with_reducible exact cW _ _) | (with_reducible exact cH _ _) | (with_reducible exact cU _ _) | (with_reducible exact cP _ _) | (with_reducible exact cM _ _)))
        refine wpQuiet_nil ?_
        intro _ hw'
        obtain ⟨⟨dq, osq⟩, hw''⟩ := hw'
        subst hw''
        exact hK.out _ _ rfl rfl (below_regrown W dq osq)
      | true =>
        cases rp with
        | false =>
          refine wp_region_quiet_below (by kernel_rfl) (by kernel_rfl) ?_
          repeat (go_big_quiet_step (first | (with_reducible exact cW _ _) | (with_reducible exact cH _ _) | (with_reducible exact cU _ _) | (with_reducible exact cP _ _) | (with_reducible exact cM _ _)))
          refine wpQuiet_nil ?_
          intro _ hw'
          obtain ⟨⟨dq, osq⟩, hw''⟩ := hw'
          subst hw''
          exact hK.out _ _ rfl rfl (below_regrown W dq osq)
        | true =>
          cases pm with
          | false =>
            refine wp_region_quiet_below (by kernel_rfl) (by kernel_rfl) ?_
            repeat (go_big_quiet_step (first | (with_reducible exact cW _ _) | (with_reducible exact cH _ _) | (with_reducible exact cU _ _) | (with_reducible exact cP _ _) | (with_reducible exact cM _ _)))
            refine wpQuiet_nil ?_
            intro _ hw'
            obtain ⟨⟨dq, osq⟩, hw''⟩ := hw'
            subst hw''
            exact hK.out _ _ rfl rfl (below_regrown W dq osq)
          | true =>
            cases oe with
            | false =>
              refine wp_region_quiet_below (by kernel_rfl) (by kernel_rfl) ?_
              repeat (go_big_quiet_step (first | (with_reducible exact cW _ _) | (with_reducible exact cH _ _) | (with_reducible exact cU _ _) | (with_reducible exact cP _ _) | (with_reducible exact cM _ _)))
              refine wpQuiet_nil ?_
              intro _ hw'
              obtain ⟨⟨dq, osq⟩, hw''⟩ := hw'
              subst hw''
              exact hK.out _ _ rfl rfl (below_regrown W dq osq)
            | true =>
              cases g1 with
              | false =>
                refine wp_region_quiet_below (by kernel_rfl) (by kernel_rfl) ?_
                repeat (go_big_quiet_step (first | (with_reducible exact cW _ _) | (with_reducible exact cH _ _) | (with_reducible exact cU _ _) | (with_reducible exact cP _ _) | (with_reducible exact cM _ _)))
                refine wpQuiet_nil ?_
                intro _ hw'
                obtain ⟨⟨dq, osq⟩, hw''⟩ := hw'
                subst hw''
                exact hK.out _ _ rfl rfl (below_regrown W dq osq)
              | true =>
                cases g2 with
                | false =>
                  refine wp_region_quiet_below (by kernel_rfl) (by kernel_rfl) ?_
                  repeat (go_big_quiet_step (first | (with_reducible exact cW _ _) | (with_reducible exact cH _ _) | (with_reducible exact cU _ _) | (with_reducible exact cP _ _) | (with_reducible exact cM _ _)))
                  refine wpQuiet_nil ?_
                  intro _ hw'
                  obtain ⟨⟨dq, osq⟩, hw''⟩ := hw'
                  subst hw''
                  exact hK.out _ _ rfl rfl (below_regrown W dq osq)
                | true =>
                  refine wp_region_quiet_below (by kernel_rfl) (by kernel_rfl) ?_
                  repeat (go_big_quiet_step (first | (with_reducible exact cW _ _) | (with_reducible exact cH _ _) | (with_reducible exact cU _ _) | (with_reducible exact cP _ _) | (with_reducible exact cM _ _)))
                  refine wpQuiet_nil ?_
                  intro _ hw'
                  obtain ⟨⟨dq, osq⟩, hw''⟩ := hw'
                  subst hw''
                  exact hK.out _ _ rfl rfl (below_regrown W dq osq)
end Go.Proofs.YtkmoakfphfakoaaGreat
