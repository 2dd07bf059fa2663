/-
  Walks, parts RM RN RP RQ RR, in one text.
-/
import Derived.Test.YtkmoakfphfakoaaGreatYB
import Derived.Test.YtkmoakfphfakoaaGreatO
import Derived.Test.YtkmoakfphfakoaaGreatRows
import Derived.HandedShaped
import Derived.SliceStrings
import Derived.ProofKit
import Derived.OpenShut
set_option linter.unusedVariables false
set_option linter.unusedSimpArgs false
namespace Go.Proofs.YtkmoakfphfakoaaGreat
open Go.RowKit Go.Shelf Go.Sort
attribute [local go_sem] Oper.semAt_some

/-- The load of an address in a quiet region. -/
theorem wpQuiet_url {ops : Array Oper} {C : World → Prop} {Q : Act → Prop} {a : Act} {o : Oper} {rest : List Oper} (x : Operand) (ho : o.op = .load 27 x) (b : Nat) (hx : a.eval x = .pointer (some ⟨b, 0, none⟩)) (u : Url) (hC : ∀ w, C w → UAt u b w)
    (hw : Region.wanted o (yielded ops a.tmps) = true) (h : wpQuiet Tryz.prog ops C Q rest (a.put o.dst u.val)) : wpQuiet Tryz.prog ops C Q (o :: rest) a :=
  BigFrame.wpQuiet_want hw fun K hK => ⟨u.val, fun w hw => by
    unfold Oper.quietAt
    have e : (execOp a.eval o).run Tryz.prog w = .ok (.value u.val) w := by
      unfold execOp
      simp only [ho, hx, Sem.run_bind, (hC w hw).run, Result.andThen_ok]
      rfl
    rw [e]
    exact ⟨rfl, rfl⟩, hK _ h⟩

theorem Url.door_len {u : Url} (hn : u.nm.size ≤ 1000000) : u.door.length ≤ 1000010 := by
  have h1 : u.hostshow.length ≤ 1000000 := hshow_len u.k u.nm hn u.num u.p0 u.p1 u.p2 u.p3 u.p4 u.p5 u.p6 u.p7
  unfold Url.door
  split
  · rename_i hd
    simp only [Bool.and_eq_true, decide_eq_true_eq] at hd
    have h3 := Url.may_port hd.1 hd.2
    split
    · omega
    · have h4 : (dec u.port.toNat).length ≤ 5 := by
        have key : ∀ n : Nat, n ≤ 65535 → (rdec n).length ≤ 5 := fun n h => by
          rw [rdec]; split
          · rw [rdec]; split
            · rw [rdec]; split
              · rw [rdec]; split
                · rw [rdec]; split
                  · omega
                  · simp
                · simp
              · simp
            · simp
          · simp
        have := key u.port.toNat (by omega)
        simpa [dec] using this
      simp; omega
  · simp

/-- An address as text, as the document has it. -/
def Url.shownR (u : Url) : List UInt8 :=
  if u.may then (((if webP u.sch.data.toList = 0 then (u.sch.data.toList ++ [58]) ++ u.opq.data.toList else ((((u.sch.data.toList ++ [58]) ++ [47, 47]) ++ u.userT) ++ u.door) ++ pshow u.segs) ++ (if u.hq then 63 :: u.qry.data.toList else [])) ++ (if u.hf then 35 :: u.frg.data.toList else [])) else []

set_option maxRecDepth 1000000 in
set_option maxHeartbeats 8000000 in
theorem RShow_any (u : Url) (w : World) (hu : u.Ok w) :
    Calls Tryz.prog 12 #[u.val] w fun e w' => e = .returned (.string ⟨u.shownR.toArray⟩) ∧ Below w.heap.size w w' := by
  obtain ⟨w0, hw0⟩ : ∃ w0, w.alloc (.cells u.cells 27) = w0 := ⟨_, rfl⟩
  have hU : UAt u w.heap.size w0 := by rw [← hw0]; exact UAt.new u w
  have hb0 : Below w.heap.size w w0 := by rw [← hw0]; exact (Below.refl _ w).alloc (Nat.le_refl _) _
  have hu0 := hu.below hb0
  have kM := RUMay_any u w0 hu0
  have kW := fun Wx => RWeb_any u.sch Wx
  have kU := fun Wx => RUser_any u Wx hu.usr hu.pwd
  have kD := fun Wx (h : u.Ok Wx) => RDoor_any u Wx h
  have kP := fun Wx (h : Strs Wx u.A u.segs) => RPShow_any u.A u.segs u.cap Wx h hu.segs hu.len
  have hdl := Url.door_len hu.nm
  have hpl : (pshow u.segs).length ≤ 1000000 * 1000001 := Nat.le_trans (pshow_len u.segs 1000000 hu.segs) (Nat.mul_le_mul_right _ hu.len)
  have hul : u.userT.length ≤ 2000002 := by
    have h1 := hu.usr
    have h2 := hu.pwd
    have h3 := Lib.size_eq u.usr
    have h4 := Lib.size_eq u.pwd
    unfold Url.userT
    split
    · simp
    · split
      · rw [List.length_append, ← h3]; simp; omega
      · rw [List.length_append, List.length_cons, List.length_append, ← h3, ← h4]; simp; omega
  unfold Url.shownR
  have hwi : ∀ a b : List UInt8, (if webP u.sch.data.toList = 0 then a else b) = (if ((webP u.sch.data.toList : Nat) : Int) == 0 then a else b) := fun a b => by
    by_cases h : webP u.sch.data.toList = 0
    · rw [if_pos h, h]; rfl
    · rw [if_neg h, if_neg (by simp; omega)]
  rw [hwi]
  generalize ((webP u.sch.data.toList : Nat) : Int) = wb at kW ⊢
  generalize u.userT = tu at kU hul ⊢
  generalize u.door = td at kD hdl ⊢
  generalize pshow u.segs = tp at kP hpl ⊢
  generalize u.may = m at kM ⊢
  have s1 := hu.sch
  have s2 := hu.opq
  have s3 := hu.qry
  have s4 := hu.frg
  have l1 := Lib.size_eq u.sch
  have l2 := Lib.size_eq u.opq
  have l3 := Lib.size_eq u.qry
  have l4 := Lib.size_eq u.frg
  have HU := Lib.hid (And.intro hU (And.intro hu0 hb0))
  have hfin : ∀ wz, Below w0.heap.size w0 wz → Below w.heap.size w wz := fun wz h => hb0.trans (h.mono hb0.size)
  have HFIN := Lib.hid hfin
  clear hfin hU hu0 hu hb0 hwi
  cases m with
  | false =>
    clear l1 l2 l3 l4
    go_enter Tryz.func12, Tryz.ntmps12
    go_wp2_with (with_reducible change wpList _ _ _ (⟨_, .load 27 (.tmp 1), _, _, _, _⟩ :: _) _ _; refine UAt.load HU.out.1 (.tmp 1) rfl rfl rfl ?_)
    with_reducible refine Calls.mono kM ?_
    rintro e w1 ⟨rfl, b1⟩
    go_wp2_with fail
    go_ret
    exact ⟨rfl, HFIN.out _ b1⟩
  | true =>
    obtain ⟨tb, htb⟩ : ∃ x, (if wb == 0 then (u.sch.data.toList ++ [58]) ++ u.opq.data.toList else ((((u.sch.data.toList ++ [58]) ++ [47, 47]) ++ tu) ++ td) ++ tp) = x := ⟨_, rfl⟩
    have htl : tb.length ≤ 2000000000000 := by
      rw [← htb]
      split
      · rw [List.length_append, List.length_append, ← l1, ← l2]; simp; omega
      · simp only [List.length_append, ← l1]; simp; omega
    have q1 := concat_s Tryz.prog u.sch [58] (by simp; omega)
    have q2 := concat_t Tryz.prog (u.sch.data.toList ++ [58]) u.opq (by simp; omega)
    have q3 := concat_run Tryz.prog (u.sch.data.toList ++ [58]) [47, 47] (by simp; omega)
    have q4 := concat_run Tryz.prog (u.sch.data.toList ++ [58, 47, 47]) tu (by simp; omega)
    have q5 := concat_run Tryz.prog (u.sch.data.toList ++ 58 :: 47 :: 47 :: tu) td (by simp; omega)
    have q6 := concat_run Tryz.prog (u.sch.data.toList ++ 58 :: 47 :: 47 :: (tu ++ td)) tp (by simp; omega)
    have q7 := concat_run Tryz.prog tb [63] (by simp; omega)
    have q8 := concat_t Tryz.prog (tb ++ [63]) u.qry (by simp; omega)
    have q9 := concat_run Tryz.prog tb [35] (by simp; omega)
    have qa := concat_t Tryz.prog (tb ++ [35]) u.frg (by simp; omega)
    have qb := concat_run Tryz.prog (tb ++ 63 :: u.qry.data.toList) [35] (by simp; omega)
    have qc := concat_t Tryz.prog (tb ++ 63 :: (u.qry.data.toList ++ [35])) u.frg (by simp; omega)
    obtain ⟨bq, hbq⟩ : ∃ x, u.hq = x := ⟨_, rfl⟩
    obtain ⟨bf, hbf⟩ : ∃ x, u.hf = x := ⟨_, rfl⟩
    rw [if_pos rfl, htb, hbq, hbf]
    have HQ := Lib.hid hbq
    have HF := Lib.hid hbf
    clear hbq hbf
    have HTB := Lib.hid htb
    clear htb l1 l2 l3 l4 s1 s2 s3 s4 htl hul hdl hpl
    go_enter Tryz.func12, Tryz.ntmps12
    go_wp2_with (with_reducible change wpList _ _ _ (⟨_, .load 27 (.tmp 1), _, _, _, _⟩ :: _) _ _; refine UAt.load HU.out.1 (.tmp 1) rfl rfl rfl ?_)
    with_reducible refine Calls.mono kM ?_
    rintro e w1 ⟨rfl, b1⟩
    clear hw0 kM
    have hU1 := HU.out.1.below b1
    have c0 : w1.cell? ⟨w.heap.size, 0, none⟩ = some (.string u.sch) := hU1.cell 0
    have HB1 := Lib.hid b1
    clear b1
    go_wp2_with fail
    with_reducible refine Calls.mono (kW _) ?_
    rintro e w2 ⟨rfl, b2⟩
    clear c0
    have HB2 := Lib.hid (HB1.out.trans (b2.mono HB1.out.size))
    have hU2 := HU.out.1.below HB2.out
    clear b2 hU1 HB1 kW
    cases hwz : (wb == 0) with
    | true =>
      have HX : u.sch.data.toList ++ 58 :: u.opq.data.toList = tb := by rw [← HTB.out, hwz, if_pos rfl]; simp
      have c16 : w2.cell? ⟨w.heap.size, 16, none⟩ = some (.string u.opq) := hU2.cell 16
      have c17 : w2.cell? ⟨w.heap.size, 17, none⟩ = some (.string u.qry) := hU2.cell 17
      have c18 : w2.cell? ⟨w.heap.size, 18, none⟩ = some (.string u.frg) := hU2.cell 18
      have c19 := hU2.hqC HQ.out
      have c20 := hU2.hfC HF.out
      clear hU2 kU kD kP q3 q4 q5 q6
      cases bq <;> cases bf
      all_goals
        go_wp2_with fail
        go_ret
        exact ⟨by first | rfl | simp, HFIN.out _ HB2.out⟩
    | false =>
      have HX : u.sch.data.toList ++ 58 :: 47 :: 47 :: (tu ++ (td ++ tp)) = tb := by rw [← HTB.out, hwz, if_neg (by simp)]; simp
      have cC : ∀ Wx, (∃ p : Regrown, Wx = grow (redrawn w2 p.d) p.os) → UAt u w.heap.size Wx := fun Wx ⟨p, hp⟩ => by rw [hp]; exact hU2.below (below_regrown w2 p.d p.os)
      have c15 := cell_regrown (show w2.cell? ⟨w.heap.size, 15, none⟩ = some (.slice u.A u.segs.length u.cap) from hU2.cell 15)
      have hOk : ∀ d os, u.Ok (grow (redrawn w2 d) os) := fun d os => (HU.out.2.1.below HB2.out).below (below_regrown w2 d os)
      have gU : ∀ d os, Calls Tryz.prog 26 #[u.val] (grow (redrawn w2 d) os) fun e w'' => e = .returned (.string ⟨tu.toArray⟩) ∧ ∃ p : Regrown, w'' = grow (redrawn w2 p.d) p.os := fun d os => Calls.regrown_of (kU _)
      have gD : ∀ d os, Calls Tryz.prog 14 #[u.val] (grow (redrawn w2 d) os) fun e w'' => e = .returned (.string ⟨td.toArray⟩) ∧ ∃ p : Regrown, w'' = grow (redrawn w2 p.d) p.os := fun d os => Calls.regrown_of (kD _ (hOk d os))
      have gP : ∀ d os, Calls Tryz.prog 27 #[.slice u.A u.segs.length u.cap] (grow (redrawn w2 d) os) fun e w'' => e = .returned (.string ⟨tp.toArray⟩) ∧ ∃ p : Regrown, w'' = grow (redrawn w2 p.d) p.os := fun d os => Calls.regrown_of (kP _ (hOk d os).strs)
      have HCC := Lib.hid cC
      have HU2 := Lib.hid hU2
      clear hU2 kU kD kP q2 cC hOk
      go_wp2_with fail
      refine wp_region_quiet_below (by kernel_rfl) (by kernel_rfl) ?_
      repeat (first
        | (with_reducible change wpQuiet _ _ _ _ (⟨_, .load 27 (.tmp 1), _, _, _, _⟩ :: _) _; refine wpQuiet_url (.tmp 1) rfl w.heap.size rfl u HCC.out rfl ?_; simp only [Act.put, List.setIfInBounds_toArray, List.set_cons_zero, List.set_cons_succ])
        | go_big_quiet_step (first | (with_reducible exact gU _ _) | (with_reducible exact gD _ _) | (with_reducible exact gP _ _)))
      refine wpQuiet_nil ?_
      intro w3 hw3
      have hb3 : Below w2.heap.size w2 w3 := by obtain ⟨p, hp⟩ := hw3; rw [hp]; exact below_regrown w2 p.d p.os
      have hU3 := HCC.out w3 hw3
      have HB3 := Lib.hid (HB2.out.trans (hb3.mono HB2.out.size))
      have c17 : w3.cell? ⟨w.heap.size, 17, none⟩ = some (.string u.qry) := hU3.cell 17
      have c18 : w3.cell? ⟨w.heap.size, 18, none⟩ = some (.string u.frg) := hU3.cell 18
      have c19 := hU3.hqC HQ.out
      have c20 := hU3.hfC HF.out
      clear hw3 hb3 hU3 gU gD gP c15 q1 q3 q4 q5 q6 HX
      cases bq <;> cases bf
      all_goals
        go_wp2_with fail
        go_ret
        exact ⟨by first | rfl | simp, HFIN.out _ HB3.out⟩

theorem Url.shown_eq (u : Url) : u.shownR = u.shown := by
  unfold Url.shownR Url.shown
  cases hm : u.may with
  | false => rfl
  | true =>
    rw [if_pos rfl, if_pos rfl]
    unfold Url.pieces Url.userT
    have hb : ∀ l : List UInt8, (⟨l.toArray⟩ : ByteArray).data.toList = l := fun l => by simp
    by_cases hw : webP u.sch.data.toList = 0
    · have hd : decide (0 < webP u.sch.data.toList) = false := by rw [hw]; rfl
      have h0 : u.usr.toList.isEmpty = true ∧ u.pwd.toList.isEmpty = true := by
        unfold Url.may at hm
        rw [Bool.and_eq_true] at hm
        have h := hm.2
        split at h
        · unfold Url.mayO at h
          simp only [Bool.and_eq_true] at h
          exact ⟨h.1.1.2, h.1.2⟩
        · unfold Url.mayW at h
          rw [hd] at h
          simp at h
      rw [if_pos hw, hd, h0.1, h0.2]
      simp [flatB]
    · have hd : decide (0 < webP u.sch.data.toList) = true := by simp; omega
      have h0 : u.opq.data.toList = [] := by
        have := Url.may_web hm (by omega)
        unfold Url.mayW at this
        simp only [Bool.and_eq_true] at this
        have h := this.1.1.1.2
        rw [Lib.toList_data] at h
        simpa using h
      rw [if_neg hw, hd]
      have hu : u.usr.toList = u.usr.data.toList := Lib.toList_data _
      have hp : u.pwd.toList = u.pwd.data.toList := Lib.toList_data _
      rw [hu, hp]
      cases h1 : u.usr.data.toList.isEmpty <;> cases h2 : u.pwd.data.toList.isEmpty
      all_goals
        simp only [List.isEmpty_iff, List.isEmpty_eq_false_iff] at h1 h2
        simp [flatB, h0, h1, h2]
end Go.Proofs.YtkmoakfphfakoaaGreat

set_option linter.unusedVariables false
set_option linter.unusedSimpArgs false
namespace Go.Proofs.YtkmoakfphfakoaaGreat
open Go.RowKit Go.Shelf Go.Sort
attribute [local go_sem] Oper.semAt_some

/-- Are two addresses the same? -/
def sameU (u v : Url) : Bool :=
  sameL u.segs v.segs && (u.sch.toList == v.sch.toList) && (u.usr.toList == v.usr.toList) && (u.pwd.toList == v.pwd.toList) && eqH u.k u.nm u.num u.p0 u.p1 u.p2 u.p3 u.p4 u.p5 u.p6 u.p7 v.k v.nm v.num v.p0 v.p1 v.p2 v.p3 v.p4 v.p5 v.p6 v.p7
    && (u.port == v.port) && (u.opq.toList == v.opq.toList) && (u.qry.toList == v.qry.toList) && (u.frg.toList == v.frg.toList) && (u.hq == v.hq) && (u.hf == v.hf)

set_option maxRecDepth 1000000 in
set_option maxHeartbeats 8000000 in
theorem RSame_eq (u v : Url) (w : World) (hu : u.Ok w) (hv : v.Ok w) (hcu : u.segs.length ≤ u.cap) (hcv : v.segs.length ≤ v.cap) (hse : sameL u.segs v.segs = true)
    (hb_sch : ((u.sch.toList == v.sch.toList)) = true) (hb_usr : ((u.usr.toList == v.usr.toList)) = true) (hb_pwd : ((u.pwd.toList == v.pwd.toList)) = true) (hb_he : (eqH u.k u.nm u.num u.p0 u.p1 u.p2 u.p3 u.p4 u.p5 u.p6 u.p7 v.k v.nm v.num v.p0 v.p1 v.p2 v.p3 v.p4 v.p5 v.p6 v.p7) = true) (hb_port : ((u.port == v.port)) = true) (hb_opq : ((u.opq.toList == v.opq.toList)) = true) (hb_qry : ((u.qry.toList == v.qry.toList)) = true) (hb_frg : ((u.frg.toList == v.frg.toList)) = true) (hb_hq : ((u.hq == v.hq)) = true) (hb_hf : (u.hf == v.hf) = true) :
    Calls Tryz.prog 6 #[u.val, v.val] w fun e w' => e = .returned (.bool true) ∧ Below w.heap.size w w' := by
  obtain ⟨w0, hw0⟩ : ∃ w0, w.alloc (.cells u.cells 27) = w0 := ⟨_, rfl⟩
  have hU0 : UAt u w.heap.size w0 := by rw [← hw0]; exact UAt.new u w
  have hb0 : Below w.heap.size w w0 := by rw [← hw0]; exact (Below.refl _ w).alloc (Nat.le_refl _) _
  have hs0 : w0.heap.size = w.heap.size + 1 := by rw [← hw0]; simp
  obtain ⟨w1, hw1⟩ : ∃ w1, w0.alloc (.cells v.cells 27) = w1 := ⟨_, rfl⟩
  have hV1 : UAt v (w.heap.size + 1) w1 := by rw [← hw1, ← hs0]; exact UAt.new v w0
  have hb1 : Below w0.heap.size w0 w1 := by rw [← hw1]; exact (Below.refl _ w0).alloc (Nat.le_refl _) _
  have hU1 := hU0.below hb1
  have kS := RSameL_any u.A u.cap u.segs v.A v.cap v.segs w1 ((hu.below hb0).below hb1).strs (by have := hu.len; omega) hcu ((hv.below hb0).below hb1).strs (by have := hv.len; omega) hcv
  have hbw : Below w.heap.size w w1 := hb0.trans (hb1.mono hb0.size)
  have c15 : w1.cell? ⟨w.heap.size, 15, none⟩ = some (.slice u.A u.segs.length u.cap) := hU1.cell 15
  have d15 : w1.cell? ⟨w.heap.size + 1, 15, none⟩ = some (.slice v.A v.segs.length v.cap) := hV1.cell 15
  have HU := Lib.hid (And.intro hU1 (And.intro hV1 hbw))
  rw [hse] at kS
  clear hse
  have HH := Lib.hid (And.intro hb_sch (And.intro hb_usr (And.intro hb_pwd (And.intro hb_he (And.intro hb_port (And.intro hb_opq (And.intro hb_qry (And.intro hb_frg (And.intro hb_hq hb_hf)))))))))
  clear hb_sch hb_usr hb_pwd hb_he hb_port hb_opq hb_qry hb_frg hb_hq hb_hf
  clear hU0 hU1 hV1 hb0 hb1 hbw hu hv hcu hcv
  go_enter Tryz.func6, Tryz.ntmps6
  go_wp2_with fail
  with_reducible refine Calls.mono kS ?_
  rintro e w2 ⟨rfl, b2⟩
  clear hw0 hw1 hs0 c15 d15 kS
  have hU2 := HU.out.1.below b2
  have hV2 := HU.out.2.1.below b2
  have HB2 := Lib.hid (HU.out.2.2.trans (b2.mono HU.out.2.2.size))
  have c0 : w2.cell? ⟨w.heap.size, 0, none⟩ = some (.string u.sch) := hU2.cell 0
  have c1 : w2.cell? ⟨w.heap.size, 1, none⟩ = some (.string u.usr) := hU2.cell 1
  have c2 : w2.cell? ⟨w.heap.size, 2, none⟩ = some (.string u.pwd) := hU2.cell 2
  have c3 : w2.cell? ⟨w.heap.size, 3, none⟩ = some (.int .i64 u.k) := hU2.cell 3
  have c4 : w2.cell? ⟨w.heap.size, 4, none⟩ = some (.string u.nm) := hU2.cell 4
  have c5 : w2.cell? ⟨w.heap.size, 5, none⟩ = some (.int .i64 u.num) := hU2.cell 5
  have c6 : w2.cell? ⟨w.heap.size, 6, none⟩ = some (.int .i64 u.p0) := hU2.cell 6
  have c7 : w2.cell? ⟨w.heap.size, 7, none⟩ = some (.int .i64 u.p1) := hU2.cell 7
  have c8 : w2.cell? ⟨w.heap.size, 8, none⟩ = some (.int .i64 u.p2) := hU2.cell 8
  have c9 : w2.cell? ⟨w.heap.size, 9, none⟩ = some (.int .i64 u.p3) := hU2.cell 9
  have c10 : w2.cell? ⟨w.heap.size, 10, none⟩ = some (.int .i64 u.p4) := hU2.cell 10
  have c11 : w2.cell? ⟨w.heap.size, 11, none⟩ = some (.int .i64 u.p5) := hU2.cell 11
  have c12 : w2.cell? ⟨w.heap.size, 12, none⟩ = some (.int .i64 u.p6) := hU2.cell 12
  have c13 : w2.cell? ⟨w.heap.size, 13, none⟩ = some (.int .i64 u.p7) := hU2.cell 13
  have c14 : w2.cell? ⟨w.heap.size, 14, none⟩ = some (.int .i64 u.port) := hU2.cell 14
  have c16 : w2.cell? ⟨w.heap.size, 16, none⟩ = some (.string u.opq) := hU2.cell 16
  have c17 : w2.cell? ⟨w.heap.size, 17, none⟩ = some (.string u.qry) := hU2.cell 17
  have c18 : w2.cell? ⟨w.heap.size, 18, none⟩ = some (.string u.frg) := hU2.cell 18
  have c19 : w2.cell? ⟨w.heap.size, 19, none⟩ = some (.bool u.hq) := hU2.cell 19
  have c20 : w2.cell? ⟨w.heap.size, 20, none⟩ = some (.bool u.hf) := hU2.cell 20
  have d0 : w2.cell? ⟨w.heap.size + 1, 0, none⟩ = some (.string v.sch) := hV2.cell 0
  have d1 : w2.cell? ⟨w.heap.size + 1, 1, none⟩ = some (.string v.usr) := hV2.cell 1
  have d2 : w2.cell? ⟨w.heap.size + 1, 2, none⟩ = some (.string v.pwd) := hV2.cell 2
  have d3 : w2.cell? ⟨w.heap.size + 1, 3, none⟩ = some (.int .i64 v.k) := hV2.cell 3
  have d4 : w2.cell? ⟨w.heap.size + 1, 4, none⟩ = some (.string v.nm) := hV2.cell 4
  have d5 : w2.cell? ⟨w.heap.size + 1, 5, none⟩ = some (.int .i64 v.num) := hV2.cell 5
  have d6 : w2.cell? ⟨w.heap.size + 1, 6, none⟩ = some (.int .i64 v.p0) := hV2.cell 6
  have d7 : w2.cell? ⟨w.heap.size + 1, 7, none⟩ = some (.int .i64 v.p1) := hV2.cell 7
  have d8 : w2.cell? ⟨w.heap.size + 1, 8, none⟩ = some (.int .i64 v.p2) := hV2.cell 8
  have d9 : w2.cell? ⟨w.heap.size + 1, 9, none⟩ = some (.int .i64 v.p3) := hV2.cell 9
  have d10 : w2.cell? ⟨w.heap.size + 1, 10, none⟩ = some (.int .i64 v.p4) := hV2.cell 10
  have d11 : w2.cell? ⟨w.heap.size + 1, 11, none⟩ = some (.int .i64 v.p5) := hV2.cell 11
  have d12 : w2.cell? ⟨w.heap.size + 1, 12, none⟩ = some (.int .i64 v.p6) := hV2.cell 12
  have d13 : w2.cell? ⟨w.heap.size + 1, 13, none⟩ = some (.int .i64 v.p7) := hV2.cell 13
  have d14 : w2.cell? ⟨w.heap.size + 1, 14, none⟩ = some (.int .i64 v.port) := hV2.cell 14
  have d16 : w2.cell? ⟨w.heap.size + 1, 16, none⟩ = some (.string v.opq) := hV2.cell 16
  have d17 : w2.cell? ⟨w.heap.size + 1, 17, none⟩ = some (.string v.qry) := hV2.cell 17
  have d18 : w2.cell? ⟨w.heap.size + 1, 18, none⟩ = some (.string v.frg) := hV2.cell 18
  have d19 : w2.cell? ⟨w.heap.size + 1, 19, none⟩ = some (.bool v.hq) := hV2.cell 19
  have d20 : w2.cell? ⟨w.heap.size + 1, 20, none⟩ = some (.bool v.hf) := hV2.cell 20
  have hEH := run_eqH
  clear hU2 hV2 b2
  obtain ⟨hb_sch, hb_usr, hb_pwd, hb_he, hb_port, hb_opq, hb_qry, hb_frg, hb_hq, hb_hf⟩ := HH.out
  go_wp2_with fail
  go_ret
  exact ⟨rfl, HB2.out⟩

/-- Few segments, and short texts. -/
def Url.few (u : Url) : Bool := fewP u.segs && decide (u.sch.size ≤ 300) && decide (u.usr.size ≤ 300) && decide (u.pwd.size ≤ 300) && decide (u.nm.size ≤ 300) && decide (u.opq.size ≤ 300) && decide (u.qry.size ≤ 300) && decide (u.frg.size ≤ 300)

open Go.Proofs.YtkmoakfphfakoaaGreatW.PrintWords in
set_option maxRecDepth 1000000 in
set_option maxHeartbeats 8000000 in
theorem RFew_any (u : Url) (w : World) (hS : Kd.C Kd.string w u.A u.segs.length u.segs) (hl : u.segs.length ≤ 9223372036854775807) (hc : u.segs.length ≤ u.cap) :
    Calls Tryz.prog 5 #[u.val] w fun e w' => e = .returned (.bool u.few) ∧ Below w.heap.size w w' := by
  obtain ⟨w0, hw0⟩ : ∃ w0, w.alloc (.cells u.cells 27) = w0 := ⟨_, rfl⟩
  have hU0 : UAt u w.heap.size w0 := by rw [← hw0]; exact UAt.new u w
  have hb0 : Below w.heap.size w w0 := by rw [← hw0]; exact (Below.refl _ w).alloc (Nat.le_refl _) _
  have hb0' : Below w.heap.size w w0 := hb0
  have kF := RFewL_any u.A u.cap u.segs w0 (Kd.C_below hS hb0) hl hc
  have c15 : w0.cell? ⟨w.heap.size, 15, none⟩ = some (.slice u.A u.segs.length u.cap) := hU0.cell 15
  have HU := Lib.hid (And.intro hU0 hb0)
  unfold Url.few
  generalize fewP u.segs = fl at kF ⊢
  clear hU0 hb0 hb0' hS hl hc
  go_enter Tryz.func5, Tryz.ntmps5
  go_wp2_with fail
  with_reducible refine Calls.mono kF ?_
  rintro e w2 ⟨rfl, b2⟩
  clear hw0 c15 kF
  have hU2 := HU.out.1.below b2
  have HB2 := Lib.hid (HU.out.2.trans (b2.mono HU.out.2.size))
  have c0 : w2.cell? ⟨w.heap.size, 0, none⟩ = some (.string u.sch) := hU2.cell 0
  have c1 : w2.cell? ⟨w.heap.size, 1, none⟩ = some (.string u.usr) := hU2.cell 1
  have c2 : w2.cell? ⟨w.heap.size, 2, none⟩ = some (.string u.pwd) := hU2.cell 2
  have c4 : w2.cell? ⟨w.heap.size, 4, none⟩ = some (.string u.nm) := hU2.cell 4
  have c16 : w2.cell? ⟨w.heap.size, 16, none⟩ = some (.string u.opq) := hU2.cell 16
  have c17 : w2.cell? ⟨w.heap.size, 17, none⟩ = some (.string u.qry) := hU2.cell 17
  have c18 : w2.cell? ⟨w.heap.size, 18, none⟩ = some (.string u.frg) := hU2.cell 18
  clear hU2 b2
  cases fl with
  | false =>
    go_wp2_with fail
    all_goals
      go_ret
      exact ⟨rfl, HB2.out⟩
  | true =>
    by_cases hsch : u.sch.size ≤ 300
    · have esch : decide (u.sch.size ≤ 300) = true := by simpa using hsch
      by_cases husr : u.usr.size ≤ 300
      · have eusr : decide (u.usr.size ≤ 300) = true := by simpa using husr
        by_cases hpwd : u.pwd.size ≤ 300
        · have epwd : decide (u.pwd.size ≤ 300) = true := by simpa using hpwd
          by_cases hnm : u.nm.size ≤ 300
          · have enm : decide (u.nm.size ≤ 300) = true := by simpa using hnm
            by_cases hopq : u.opq.size ≤ 300
            · have eopq : decide (u.opq.size ≤ 300) = true := by simpa using hopq
              by_cases hqry : u.qry.size ≤ 300
              · have eqry : decide (u.qry.size ≤ 300) = true := by simpa using hqry
                go_wp2_with fail
                go_ret
                exact ⟨by first | rfl | (simp [esch, eusr, epwd, enm, eopq, eqry]; done) | (simp [esch, eusr, epwd, enm, eopq, eqry]; omega), HB2.out⟩
              · have eqry : decide (u.qry.size ≤ 300) = false := by simpa using hqry
                go_wp2_with fail
                go_ret
                exact ⟨by first | rfl | (simp [esch, eusr, epwd, enm, eopq, eqry]; done) | (simp [esch, eusr, epwd, enm, eopq, eqry]; omega), HB2.out⟩
            · have eopq : decide (u.opq.size ≤ 300) = false := by simpa using hopq
              go_wp2_with fail
              go_ret
              exact ⟨by first | rfl | (simp [esch, eusr, epwd, enm, eopq]; done) | (simp [esch, eusr, epwd, enm, eopq]; omega), HB2.out⟩
          · have enm : decide (u.nm.size ≤ 300) = false := by simpa using hnm
            go_wp2_with fail
            go_ret
            exact ⟨by first | rfl | (simp [esch, eusr, epwd, enm]; done) | (simp [esch, eusr, epwd, enm]; omega), HB2.out⟩
        · have epwd : decide (u.pwd.size ≤ 300) = false := by simpa using hpwd
          go_wp2_with fail
          go_ret
          exact ⟨by first | rfl | (simp [esch, eusr, epwd]; done) | (simp [esch, eusr, epwd]; omega), HB2.out⟩
      · have eusr : decide (u.usr.size ≤ 300) = false := by simpa using husr
        go_wp2_with fail
        go_ret
        exact ⟨by first | rfl | (simp [esch, eusr]; done) | (simp [esch, eusr]; omega), HB2.out⟩
    · have esch : decide (u.sch.size ≤ 300) = false := by simpa using hsch
      go_wp2_with fail
      go_ret
      exact ⟨by first | rfl | (simp [esch]; done) | (simp [esch]; omega), HB2.out⟩
end Go.Proofs.YtkmoakfphfakoaaGreat

set_option linter.unusedVariables false
set_option linter.unusedSimpArgs false
namespace Go.Proofs.YtkmoakfphfakoaaGreat
open Go.RowKit Go.Shelf Go.Sort
attribute [local go_sem] Oper.semAt_some

/-- The chapter's address. -/
abbrev uEx : Url := { sch := ⟨#[104, 116, 116, 112]⟩, usr := ⟨#[117]⟩, pwd := ⟨#[]⟩, k := 1, nm := ⟨#[97, 46, 111, 114, 103]⟩, num := 0, p0 := 0, p1 := 0, p2 := 0, p3 := 0, p4 := 0, p5 := 0, p6 := 0, p7 := 0, port := 8080, A := none, segs := [⟨#[97]⟩, ⟨#[]⟩], cap := 2, opq := ⟨#[]⟩, qry := ⟨#[120]⟩, frg := ⟨#[]⟩, hq := true, hf := false }
/-- An address with a fragment, and nothing else. -/
abbrev uHash : Url := { sch := ⟨#[]⟩, usr := ⟨#[]⟩, pwd := ⟨#[]⟩, k := 0, nm := ⟨#[]⟩, num := 0, p0 := 0, p1 := 0, p2 := 0, p3 := 0, p4 := 0, p5 := 0, p6 := 0, p7 := 0, port := 0, A := none, segs := [], cap := 0, opq := ⟨#[]⟩, qry := ⟨#[]⟩, frg := ⟨#[]⟩, hq := false, hf := true }

theorem dec8080 : dec 8080 = [56, 48, 56, 48] := by simp [dec, rdec, dig]
theorem tl_nil : (⟨#[]⟩ : ByteArray).toList = [] := by simp [Lib.toList_data]
theorem tl_u : (⟨#[117]⟩ : ByteArray).toList = [117] := by simp [Lib.toList_data]
theorem ex_host : uEx.hostmay = true := by
  unfold Url.hostmay hmay
  simp only [if_pos]
  decide +kernel
theorem ex_may : uEx.may = true := by
  unfold Url.may Url.tails Url.mayO Url.mayW
  simp only [ex_host, tl_nil, tl_u]
  decide +kernel
theorem exo_may : uEx.open'.may = true := by
  unfold Url.may Url.tails Url.mayO Url.mayW
  simp only [show uEx.open'.hostmay = true from ex_host, tl_nil]
  decide +kernel
theorem ex_hs : uEx.hostshow = [97, 46, 111, 114, 103] := by
  unfold Url.hostshow hshow
  rw [if_pos ex_host]
  rfl
theorem ex_door : uEx.door = [97, 46, 111, 114, 103, 58, 56, 48, 56, 48] := by
  unfold Url.door
  rw [ex_may, if_pos (by decide), if_neg (by decide), ex_hs, show uEx.port.toNat = 8080 from rfl, dec8080]
  rfl
theorem exo_door : uEx.open'.door = [97, 46, 111, 114, 103, 58, 56, 48, 56, 48] := by
  unfold Url.door
  rw [exo_may, if_pos (by decide), if_neg (by decide), show uEx.open'.hostshow = uEx.hostshow from rfl, ex_hs, show uEx.open'.port.toNat = 8080 from rfl, dec8080]
  rfl
theorem ex_shown : uEx.shown = [104, 116, 116, 112, 58, 47, 47, 117, 64, 97, 46, 111, 114, 103, 58, 56, 48, 56, 48, 47, 97, 47, 63, 120] := by
  unfold Url.shown Url.pieces
  rw [if_pos ex_may, ex_door]
  simp only [tl_nil, tl_u]
  decide +kernel
theorem exo_shown : uEx.open'.shown = [104, 116, 116, 112, 58, 47, 47, 97, 46, 111, 114, 103, 58, 56, 48, 56, 48, 47, 97, 47, 63, 120] := by
  unfold Url.shown Url.pieces
  rw [if_pos exo_may, exo_door]
  simp only [tl_nil, tl_u]
  decide +kernel

/-- The load of an address that lies whole, behind a guard. -/
theorem UAt.loadW {u : Url} {b : Nat} {W : World} (hW : UAt u b W) (x : Operand) {ops : Array Oper} {rest : List Oper} {o : Oper} {a : Act} {Q : Exit → Act → World → Prop} (hw : Region.wanted o (yielded ops a.tmps) = true) (ho : o.op = .load 27 x) (hx : a.eval x = .pointer (some ⟨b, 0, none⟩))
    (h : wpList Tryz.prog ops Q rest (a.put o.dst u.val) W) : wpList Tryz.prog ops Q (o :: rest) a W :=
  BigFrame.wpList_want hw fun _ hK => wp_load_row 27 x ho b hx 27 u.cells (0, 0) _ hW Tryz.underlying27 rfl (by kernel_rfl) (hK _ _ h)

theorem Url.Ok.at' {u : Url} {w : World} {A : Option Addr} {c : Nat} (h : u.Ok w) {w' : World} (hb : Below w.heap.size w w') (hs : Strs w' A u.segs) : (u.at A c).Ok w' := { h with strs := hs, deep := h.deep.below hb }
theorem Url.Ok.opened {u : Url} {w : World} (h : u.Ok w) : u.open'.Ok w := { h with frg := Nat.zero_le _, usr := Nat.zero_le _, pwd := Nat.zero_le _ }
theorem Url.Ok.bare {u : Url} {w : World} (h : u.Ok w) : u.bare.Ok w := { h with frg := Nat.zero_le _ }

set_option maxRecDepth 1000000 in
set_option maxHeartbeats 8000000 in
theorem awake_any (w : World) (hD : Deep w) :
    Calls Tryz.prog 4 #[] w fun e w' => e = .returned (.bool true) ∧ Below w.heap.size w w' := by
  obtain ⟨u, hu⟩ : ∃ u : Url, u = uEx.at (some ⟨w.heap.size, 0, none⟩) 2 := ⟨_, rfl⟩
  obtain ⟨w1, hw1⟩ : ∃ w1, w.alloc (.cells #[.string ⟨#[97]⟩, .string ⟨#[]⟩] 9) = w1 := ⟨_, rfl⟩
  obtain ⟨w2, hw2⟩ : ∃ w2, w1.alloc (.cells zeroCells 27) = w2 := ⟨_, rfl⟩
  have hb1 : Below w.heap.size w w1 := by rw [← hw1]; exact (Below.refl _ w).alloc (Nat.le_refl _) _
  have hs1 : w1.heap.size = w.heap.size + 1 := by rw [← hw1]; simp
  have hn1 : w1.heap[w.heap.size]? = some (.cells #[.string ⟨#[97]⟩, .string ⟨#[]⟩] 9 (0, 0)) := by rw [← hw1]; exact World.alloc_heap_new w _
  have hb2 : Below w1.heap.size w1 w2 := by rw [← hw2]; exact (Below.refl _ w1).alloc (Nat.le_refl _) _
  have hz2 : w2.heap[w.heap.size + 1]? = some (.cells zeroCells 27 (0, 0)) := by rw [← hw2, ← hs1]; exact World.alloc_heap_new w1 _
  have hn2 : w2.heap[w.heap.size]? = some (.cells #[.string ⟨#[97]⟩, .string ⟨#[]⟩] 9 (0, 0)) := (hb2.block _ (by omega)).trans hn1
  obtain ⟨w3, hw3⟩ : ∃ w3, w2.setRow (w.heap.size + 1) u.cells = w3 := ⟨_, rfl⟩
  have hU3 : UAt u (w.heap.size + 1) w3 := by rw [← hw3]; exact UAt.stored hz2 u
  have hn3 : w3.heap[w.heap.size]? = some (.cells #[.string ⟨#[97]⟩, .string ⟨#[]⟩] 9 (0, 0)) := by rw [← hw3, setRow_other _ _ _ _ (by omega)]; exact hn2
  have hb3 : Below w.heap.size w w3 := by rw [← hw3]; exact below_setRow (hb1.trans (hb2.mono (by omega))) (by omega) _
  have hOk : u.Ok w3 := by
    subst hu
    refine ⟨of_decide_eq_true rfl, of_decide_eq_true rfl, of_decide_eq_true rfl, of_decide_eq_true rfl, rfl, rfl, ?_, of_decide_eq_true rfl, of_decide_eq_true rfl, of_decide_eq_true rfl, of_decide_eq_true rfl, ?_, hD.below hb3⟩
    · intro s hs
      simp only [List.mem_cons, List.not_mem_nil, or_false] at hs
      rcases hs with rfl | rfl <;> exact of_decide_eq_true rfl
    · refine .inr ⟨w.heap.size, 0, rfl, (Array.getElem?_eq_some_iff.1 hn3).1, fun j hj => ?_⟩
      rw [Lib.cell_of_heap hn3, Nat.zero_add]
      match j, hj with
      | 0, _ => rfl
      | 1, _ => rfl
  have hv : Value.agg #[.string ⟨#[104, 116, 116, 112]⟩, .string ⟨#[117]⟩, .string ⟨#[]⟩, .int .i64 1, .string ⟨#[97, 46, 111, 114, 103]⟩, .int .i64 0, .int .i64 0, .int .i64 0, .int .i64 0, .int .i64 0, .int .i64 0, .int .i64 0, .int .i64 0, .int .i64 0, .int .i64 8080, .slice (some ⟨w.heap.size, 0, none⟩) 2 2, .string ⟨#[]⟩, .string ⟨#[120]⟩, .string ⟨#[]⟩, .bool true, .bool false] = u.val := by subst hu; rfl
  have HV := Lib.hid hv
  clear hv
  have kO := Open_any u w3 hOk
  have HU := Lib.hid (And.intro hU3 (And.intro hOk hb3))
  have HZ := Lib.hid hz2
  have hxo : ∀ A c, (u.open'.at A c).shown = [104, 116, 116, 112, 58, 47, 47, 97, 46, 111, 114, 103, 58, 56, 48, 56, 48, 47, 97, 47, 63, 120] := fun A c => by rw [hu]; exact exo_shown
  have hx : u.shown = [104, 116, 116, 112, 58, 47, 47, 117, 64, 97, 46, 111, 114, 103, 58, 56, 48, 56, 48, 47, 97, 47, 63, 120] := by rw [hu]; exact ex_shown
  have hd : u.door = [97, 46, 111, 114, 103, 58, 56, 48, 56, 48] := by rw [hu]; exact ex_door
  have HX := Lib.hid (And.intro hxo (And.intro hx hd))
  clear hu hxo hx hd hU3 hOk hb3 hz2 hn1 hn2 hn3 hb1 hb2
  go_enter Tryz.func4, Tryz.ntmps4
  go_wp2_with (first
    | (with_reducible change wpList _ _ _ (⟨_, .store 27 (.tmp 1) (.tmp 4), _, _, _, _⟩ :: _) _ _; refine UAt.store HZ.out rfl u (.tmp 1) (.tmp 4) rfl rfl rfl rfl (by rw [← HV.out]; simp [Act.eval]) ?_; rw [hw3])
    | (with_reducible change wpList _ _ _ (⟨_, .load 27 (.tmp 1), _, _, _, _⟩ :: _) _ _; refine UAt.load HU.out.1 (.tmp 1) rfl rfl rfl ?_))
  with_reducible refine Calls.mono kO ?_
  rintro e w4 ⟨⟨A', c', rfl, hSt, hcap⟩, b4⟩
  have hO4 : (u.open'.at A' c').Ok w4 := HU.out.2.1.opened.at' b4 hSt.strs
  have kS := Show_any (u.open'.at A' c') w4 hO4
  rw [HX.out.1] at kS
  have HB4 := Lib.hid b4
  clear hw1 hw2 hw3 kO hSt hcap hO4 b4
  go_wp2_with fail
  with_reducible refine Calls.mono kS ?_
  rintro e w5 ⟨rfl, b5⟩
  clear kS
  have HB5 := Lib.hid (HB4.out.trans (b5.mono HB4.out.size))
  clear b5
  have hU5 := HU.out.1.below HB5.out
  have HU5 := Lib.hid (And.intro hU5 (HU.out.2.1.below HB5.out))
  have kS := Show_any u w5 HU5.out.2
  rw [HX.out.2.1] at kS
  clear hU5
  go_wp2_with (with_reducible change wpList _ _ _ (⟨_, .load 27 (.tmp 1), _, _, _, _⟩ :: _) _ _; refine UAt.loadW HU5.out.1 (.tmp 1) rfl rfl rfl ?_)
  with_reducible refine Calls.mono kS ?_
  rintro e w6 ⟨rfl, b6⟩
  clear kS
  have HB6 := Lib.hid (HB5.out.trans (b6.mono HB5.out.size))
  clear b6
  have HU6 := Lib.hid (And.intro (HU.out.1.below HB6.out) (HU.out.2.1.below HB6.out))
  have kS := Door_any u w6 HU6.out.2
  rw [HX.out.2.2] at kS
  go_wp2_with (with_reducible change wpList _ _ _ (⟨_, .load 27 (.tmp 1), _, _, _, _⟩ :: _) _ _; refine UAt.loadW HU6.out.1 (.tmp 1) rfl rfl rfl ?_)
  with_reducible refine Calls.mono kS ?_
  rintro e w7 ⟨rfl, b7⟩
  clear kS
  have HB7 := Lib.hid (HB6.out.trans (b7.mono HB6.out.size))
  clear b7
  have kB0 := Bare_any uHash w7 { HU6.out.2 with sch := Nat.zero_le _, usr := Nat.zero_le _, pwd := Nat.zero_le _, nm := Nat.zero_le _, num := rfl, port := rfl, segs := fun s h => absurd h (by simp), len := Nat.zero_le _, opq := Nat.zero_le _, qry := Nat.zero_le _, frg := Nat.zero_le _, strs := .inl rfl, deep := (HU.out.2.1.below HB7.out).deep }
  have kB : Calls Tryz.prog 7 #[uHash.val] w7 fun e w' => (∃ A c, e = .returned (.agg #[.string ⟨#[]⟩, .string ⟨#[]⟩, .string ⟨#[]⟩, .int .i64 0, .string ⟨#[]⟩, .int .i64 0, .int .i64 0, .int .i64 0, .int .i64 0, .int .i64 0, .int .i64 0, .int .i64 0, .int .i64 0, .int .i64 0, .int .i64 0, .slice A 0 c, .string ⟨#[]⟩, .string ⟨#[]⟩, .string ⟨#[]⟩, .bool false, .bool false])) ∧ Below w7.heap.size w7 w' := kB0.mono fun e w' ⟨⟨A, c, h, _⟩, hb⟩ => ⟨⟨A, c, h⟩, hb⟩
  clear kB0
  have hfd : ∀ A c w, (Instr.field 27 (.agg #[.string ⟨#[]⟩, .string ⟨#[]⟩, .string ⟨#[]⟩, .int .i64 0, .string ⟨#[]⟩, .int .i64 0, .int .i64 0, .int .i64 0, .int .i64 0, .int .i64 0, .int .i64 0, .int .i64 0, .int .i64 0, .int .i64 0, .int .i64 0, .slice A 0 c, .string ⟨#[]⟩, .string ⟨#[]⟩, .string ⟨#[]⟩, .bool false, .bool false]) 10).run Tryz.prog w = .ok (.bool false) w := fun _ _ _ => by kernel_rfl
  go_wp2_with fail
  with_reducible refine Calls.mono kB ?_
  rintro e w8 ⟨⟨A8, c8, rfl⟩, b8⟩
  clear kB
  go_wp2_with fail
  go_ret
  exact ⟨rfl, HU.out.2.2.trans ((HB7.out.trans (b8.mono HB7.out.size)).mono HU.out.2.2.size)⟩
end Go.Proofs.YtkmoakfphfakoaaGreat

set_option linter.unusedVariables false
set_option linter.unusedSimpArgs false
namespace Go.Proofs.YtkmoakfphfakoaaGreat
open Go.RowKit Go.Shelf Go.Sort
attribute [local go_sem] Oper.semAt_some

theorem sameL_refl (l : List ByteArray) : sameL l l = true := by
  induction l with
  | nil => rfl
  | cons x r ih => simp [sameL, ih]
theorem eq8_refl (p0 p1 p2 p3 p4 p5 p6 p7 : Int) : eq8 p0 p1 p2 p3 p4 p5 p6 p7 p0 p1 p2 p3 p4 p5 p6 p7 = true := by simp [eq8]
theorem eqH_refl (k : Int) (s : ByteArray) (n p0 p1 p2 p3 p4 p5 p6 p7 : Int) : eqH k s n p0 p1 p2 p3 p4 p5 p6 p7 k s n p0 p1 p2 p3 p4 p5 p6 p7 = true := by simp [eqH, eq8]
theorem beq_refl_l (l : List UInt8) : (l == l) = true := by simp
theorem RSame_refl (u : Url) (A : Option Addr) (c : Nat) (w : World) (h1 : (u.at A c).Ok w) (h2 : u.Ok w) (hc1 : u.segs.length ≤ c) (hc2 : u.segs.length ≤ u.cap) :
    Calls Tryz.prog 6 #[(u.at A c).val, u.val] w fun e w' => e = .returned (.bool true) ∧ Below w.heap.size w w' :=
  RSame_eq (u.at A c) u w h1 h2 hc1 hc2 (sameL_refl _) (beq_refl_l _) (beq_refl_l _) (beq_refl_l _) (eqH_refl ..) (by simp) (beq_refl_l _) (beq_refl_l _) (beq_refl_l _) (by simp) (by simp)

theorem Url.few_ok {u : Url} {w : World} (h : u.few = true) (hn : (Lit.int .i64 u.num).wf = true) (hp : (Lit.int .i64 u.port).wf = true) (hS : Strs w u.A u.segs) (hD : Deep w) : u.Ok w := by
  unfold Url.few fewP at h
  simp only [Bool.and_eq_true, decide_eq_true_eq, List.all_eq_true] at h
  obtain ⟨⟨⟨⟨⟨⟨⟨⟨h0, h1⟩, h2⟩, h3⟩, h4⟩, h5⟩, h6⟩, h7⟩, h8⟩ := h
  exact ⟨by omega, by omega, by omega, by omega, hn, hp, fun s hs => by have := h1 s hs; omega, by omega, by omega, by omega, by omega, hS, hD⟩

set_option maxRecDepth 1000000 in
set_option maxHeartbeats 8000000 in
theorem ShowTells_any (u : Url) (w : World) (hD : Deep w) (hn : (Lit.int .i64 u.num).wf = true) (hp : (Lit.int .i64 u.port).wf = true) (hS : Strs w u.A u.segs) (hl : u.segs.length ≤ 9223372036854775807) (hc : u.segs.length ≤ u.cap) :
    Calls Tryz.prog 3 #[u.val] w fun e w' => e = .returned (.bool true) ∧ Below w.heap.size w w' := by
  obtain ⟨w0, hw0⟩ : ∃ w0, w.alloc (.cells u.cells 27) = w0 := ⟨_, rfl⟩
  have hU0 : UAt u w.heap.size w0 := by rw [← hw0]; exact UAt.new u w
  have hb0 : Below w.heap.size w w0 := by rw [← hw0]; exact (Below.refl _ w).alloc (Nat.le_refl _) _
  have kA := awake_any w0 (hD.below hb0)
  have HU := Lib.hid (And.intro hU0 hb0)
  have HS := Lib.hid (And.intro hS hD)
  have HC := Lib.hid hc
  have HP := Lib.hid (And.intro hn hp)
  have HL := Lib.hid hl
  clear hU0 hb0 hS hD hc hn hp hl
  go_enter Tryz.func3, Tryz.ntmps3
  go_wp2_with fail
  with_reducible refine Calls.mono kA ?_
  rintro e w1 ⟨rfl, b1⟩
  clear kA hw0
  have HB1 := Lib.hid (HU.out.2.trans (b1.mono HU.out.2.size))
  have HU1 := Lib.hid (HU.out.1.below b1)
  clear b1 HU
  have kF := RFew_any u w1 (strs_kd (HS.out.1.below HB1.out) HL.out) HL.out HC.out
  go_wp2_with (with_reducible change wpList _ _ _ (⟨_, .load 27 (.tmp 1), _, _, _, _⟩ :: _) _ _; refine UAt.load HU1.out (.tmp 1) rfl rfl rfl ?_)
  with_reducible refine Calls.mono kF ?_
  rintro e w2 ⟨rfl, b2⟩
  clear kF
  have HB2 := Lib.hid (HB1.out.trans (b2.mono HB1.out.size))
  have HU2 := Lib.hid (HU1.out.below b2)
  clear b2 HB1 HU1
  cases hfew : u.few with
  | false =>
    go_wp2_with fail
    go_ret
    exact ⟨rfl, HB2.out⟩
  | true =>
    have HOK := Lib.hid (Url.few_ok hfew HP.out.1 HP.out.2 (HS.out.1.below HB2.out) (HS.out.2.below HB2.out))
    clear hfew HS HP HL
    go_wp2_with fail
    have HUX := Lib.hid (show ∀ Wx, Below w2.heap.size w2 Wx → UAt u w.heap.size Wx from fun Wx hx => HU2.out.below hx)
    refine wp_region_held_drew (S := fun Wx => Below w2.heap.size w2 Wx) (by kernel_rfl) (Below.refl _ _).drew (fun hHeld => ?_)
    refine wpAnyH_take (i := 0) (v := u.val) rfl (by kernel_rfl) (by kernel_rfl) (by kernel_rfl) (fun _ _ _ h => h) (yieldsIf_url rfl (.tmp 1) rfl w.heap.size rfl u (fun Wx hx => HUX.out Wx hx)) hHeld ?_
    conv => arg 8; whnf
    simp only [List.setIfInBounds_toArray, List.set_cons_zero, List.set_cons_succ]
    refine wpAnyH_take (i := 2) (v := u.val) rfl (by kernel_rfl) (by kernel_rfl) (by kernel_rfl) (fun _ _ _ h => h) (yieldsIf_url rfl (.tmp 1) rfl w.heap.size rfl u (fun Wx hx => HUX.out Wx hx)) hHeld ?_
    conv => arg 8; whnf
    simp only [List.setIfInBounds_toArray, List.set_cons_zero, List.set_cons_succ]
    refine wpAnyH_ready (rs := [1]) (by kernel_rfl) (by simp) (AllReadyH.cons rfl (fun K hK => ?_) AllReadyH.nil)
    go_simp
    with_reducible refine Calls.mono (Bare_any u _ (HOK.out.below (Below.refl _ _).drew)) ?_
    rintro e wb ⟨⟨A1, c1, rfl, hSt, hc1⟩, bb⟩
    have sb : Below w2.heap.size w2 wb := (Below.refl _ _).drew.trans bb
    have HSt := Lib.hid hSt.strs
    have HC1 := Lib.hid hc1
    clear bb hSt hc1
    refine hK.out _ _ sb (fun hHeld => ?_)
    clear hK K
    refine wpAnyH_ready (rs := [3]) (by kernel_rfl) (by simp) (AllReadyH.cons rfl (fun K hK => ?_) AllReadyH.nil)
    go_simp
    with_reducible refine Calls.mono (RBare_any u _) ?_
    rintro e wc ⟨rfl, bc⟩
    have sc : Below w2.heap.size w2 wc := sb.trans (bc.mono sb.size)
    have HSc := Lib.hid (HSt.out.below bc)
    clear bc sb HSt
    refine hK.out _ _ sc (fun hHeld => ?_)
    clear hK K
    refine wpAnyH_ready (rs := [4]) (by kernel_rfl) (by simp) (AllReadyH.cons rfl (fun K hK => ?_) AllReadyH.nil)
    go_simp
    with_reducible refine Calls.mono (RSame_refl u.bare A1 c1 _ ((HOK.out.bare).at' sc HSc.out) ((HOK.out.below sc).bare) HC1.out HC.out) ?_
    rintro e w3 ⟨rfl, bd⟩
    have sd : Below w2.heap.size w2 w3 := sc.trans (bd.mono sc.size)
    clear bd sc HSc
    refine hK.out _ _ sd (fun hHeld => ?_)
    clear hK K
    refine wpAnyH_ready (rs := [5]) (by kernel_rfl) (by simp) (AllReadyH.cons rfl (fun K hK => ?_) AllReadyH.nil)
    go_simp
    refine hK.out _ _ sd (fun hHeld => ?_)
    clear hK K hHeld
    refine wpAnyH_done (by kernel_rfl) ?_ _
    have HB3 := Lib.hid (HB2.out.trans (sd.mono HB2.out.size))
    have HO3 := Lib.hid (HOK.out.below sd)
    have HU3 := Lib.hid (HUX.out _ sd)
    clear HOK HUX HB2 HU2 sd HC1
    have HOK := HO3
    clear HO3
    go_wp2_with fail
    have HUX := Lib.hid (show ∀ Wx, Below w3.heap.size w3 Wx → UAt u w.heap.size Wx from fun Wx hx => HU3.out.below hx)
    refine wp_region_held_drew (S := fun Wx => Below w3.heap.size w3 Wx) (by kernel_rfl) (Below.refl _ _).drew (fun hHeld => ?_)
    refine wpAnyH_take (i := 0) (v := u.val) rfl (by kernel_rfl) (by kernel_rfl) (by kernel_rfl) (fun _ _ _ h => h) (yieldsIf_url rfl (.tmp 1) rfl w.heap.size rfl u (fun Wx hx => HUX.out Wx hx)) hHeld ?_
    conv => arg 8; whnf
    simp only [List.setIfInBounds_toArray, List.set_cons_zero, List.set_cons_succ]
    refine wpAnyH_take (i := 2) (v := u.val) rfl (by kernel_rfl) (by kernel_rfl) (by kernel_rfl) (fun _ _ _ h => h) (yieldsIf_url rfl (.tmp 1) rfl w.heap.size rfl u (fun Wx hx => HUX.out Wx hx)) hHeld ?_
    conv => arg 8; whnf
    simp only [List.setIfInBounds_toArray, List.set_cons_zero, List.set_cons_succ]
    refine wpAnyH_ready (rs := [1]) (by kernel_rfl) (by simp) (AllReadyH.cons rfl (fun K hK => ?_) AllReadyH.nil)
    go_simp
    with_reducible refine Calls.mono (Open_any u _ (HOK.out.below (Below.refl _ _).drew)) ?_
    rintro e wb ⟨⟨A1, c1, rfl, hSt, hc1⟩, bb⟩
    have sb : Below w3.heap.size w3 wb := (Below.refl _ _).drew.trans bb
    have HSt := Lib.hid hSt.strs
    have HC1 := Lib.hid hc1
    clear bb hSt hc1
    refine hK.out _ _ sb (fun hHeld => ?_)
    clear hK K
    refine wpAnyH_ready (rs := [3]) (by kernel_rfl) (by simp) (AllReadyH.cons rfl (fun K hK => ?_) AllReadyH.nil)
    go_simp
    with_reducible refine Calls.mono (ROpen_any u _) ?_
    rintro e wc ⟨rfl, bc⟩
    have sc : Below w3.heap.size w3 wc := sb.trans (bc.mono sb.size)
    have HSc := Lib.hid (HSt.out.below bc)
    clear bc sb HSt
    refine hK.out _ _ sc (fun hHeld => ?_)
    clear hK K
    refine wpAnyH_ready (rs := [4]) (by kernel_rfl) (by simp) (AllReadyH.cons rfl (fun K hK => ?_) AllReadyH.nil)
    go_simp
    with_reducible refine Calls.mono (RSame_refl u.open' A1 c1 _ ((HOK.out.opened).at' sc HSc.out) ((HOK.out.below sc).opened) HC1.out HC.out) ?_
    rintro e w4 ⟨rfl, bd⟩
    have sd : Below w3.heap.size w3 w4 := sc.trans (bd.mono sc.size)
    clear bd sc HSc
    refine hK.out _ _ sd (fun hHeld => ?_)
    clear hK K
    refine wpAnyH_ready (rs := [5]) (by kernel_rfl) (by simp) (AllReadyH.cons rfl (fun K hK => ?_) AllReadyH.nil)
    go_simp
    refine hK.out _ _ sd (fun hHeld => ?_)
    clear hK K hHeld
    refine wpAnyH_done (by kernel_rfl) ?_ _
    have HB4 := Lib.hid (HB3.out.trans (sd.mono HB3.out.size))
    have HO4 := Lib.hid (HOK.out.below sd)
    have HU4 := Lib.hid (HUX.out _ sd)
    clear HOK HUX HB3 HU3 sd HC1
    have HOK := HO4
    clear HO4
    have kS := fun Wx (h : u.Ok Wx) => Show_any u Wx h
    have kR := fun Wx (h : u.Ok Wx) => RShow_any u Wx h
    rw [Url.shown_eq] at kR
    have kD := fun Wx (h : u.Ok Wx) => Door_any u Wx h
    have kE := fun Wx (h : u.Ok Wx) => RDoor_any u Wx h
    generalize (⟨u.shown.toArray⟩ : ByteArray) = ts at kS kR
    generalize (⟨u.door.toArray⟩ : ByteArray) = td at kD kE
    have cC : ∀ Wx, (∃ p : Regrown, Wx = grow (redrawn w4 p.d) p.os) → UAt u w.heap.size Wx := fun Wx ⟨p, hp⟩ => by rw [hp]; exact HU4.out.below (below_regrown w4 p.d p.os)
    have hOk : ∀ d os, u.Ok (grow (redrawn w4 d) os) := fun d os => HOK.out.below (below_regrown w4 d os)
    have gS : ∀ d os, Calls Tryz.prog 11 #[u.val] (grow (redrawn w4 d) os) fun e w'' => e = .returned (.string ts) ∧ ∃ p : Regrown, w'' = grow (redrawn w4 p.d) p.os := fun d os => Calls.regrown_of (kS _ (hOk d os))
    have gR : ∀ d os, Calls Tryz.prog 12 #[u.val] (grow (redrawn w4 d) os) fun e w'' => e = .returned (.string ts) ∧ ∃ p : Regrown, w'' = grow (redrawn w4 p.d) p.os := fun d os => Calls.regrown_of (kR _ (hOk d os))
    have gD : ∀ d os, Calls Tryz.prog 13 #[u.val] (grow (redrawn w4 d) os) fun e w'' => e = .returned (.string td) ∧ ∃ p : Regrown, w'' = grow (redrawn w4 p.d) p.os := fun d os => Calls.regrown_of (kD _ (hOk d os))
    have gE : ∀ d os, Calls Tryz.prog 14 #[u.val] (grow (redrawn w4 d) os) fun e w'' => e = .returned (.string td) ∧ ∃ p : Regrown, w'' = grow (redrawn w4 p.d) p.os := fun d os => Calls.regrown_of (kE _ (hOk d os))
    have HCC := Lib.hid cC
    clear cC hOk kS kR kD kE HOK HC HU4
    go_wp2_with fail
    refine wp_region_quiet_below (by kernel_rfl) (by kernel_rfl) ?_
    repeat (first
      | (with_reducible change wpQuiet _ _ _ _ (⟨_, .load 27 (.tmp 1), _, _, _, _⟩ :: _) _; refine wpQuiet_url (.tmp 1) rfl w.heap.size rfl u HCC.out rfl ?_; simp only [Act.put, List.setIfInBounds_toArray, List.set_cons_zero, List.set_cons_succ])
      | go_big_quiet_step (first | (with_reducible exact gS _ _) | (with_reducible exact gR _ _) | (with_reducible exact gD _ _) | (with_reducible exact gE _ _)))
    refine wpQuiet_nil ?_
    intro w5 hw5
    have hb5 : Below w4.heap.size w4 w5 := by obtain ⟨p, hp⟩ := hw5; rw [hp]; exact below_regrown w4 p.d p.os
    have HB5 := Lib.hid (HB4.out.trans (hb5.mono HB4.out.size))
    clear hw5 hb5 gS gR gD gE
    go_wp2_with fail
    go_ret
    exact ⟨rfl, HB5.out⟩
end Go.Proofs.YtkmoakfphfakoaaGreat

set_option linter.unusedVariables false
set_option linter.unusedSimpArgs false
namespace Go.Proofs.YtkmoakfphfakoaaGreat
open Go.ChangeShapes Go.WideShapes Go.ChangeAt Go.RowKit Go.Shelf

section
variable {H : Type} {enc : TypeId × Value → H} {P : Program}
theorem post_below {f : Func} {s : ChangeSpec} {apart fresh handsOn again : Bool} {W W' : World} {args : Array Value} {v : Value} {ds gs : List (DataW H)} {before pa pv : List MemPlace}
    (hW : DataW.Whole enc P f.params.toList s.vars apart W args.toList ds gs before)
    (hres : ∀ (b : Nat) (sp : Nat → Bool) (hd : Bool), DataW.TrodAll enc P W' b sp hd f.resultTypes.toList (v.resultList f.resultTypes.size) (s.fn H (ds ++ gs)).results [])
    (hargs : DataW.TrodAll enc P W' 0 (fun b => decide (b < W.heap.size)) true f.params.toList args.toList (s.fn H (ds ++ gs)).args pa)
    (hvars : DataW.TrodVars enc P W' (fun b => decide (b < W.heap.size)) s.vars (s.fn H (ds ++ gs)).vars pv)
    (hps : before = pa ++ pv) (hb : Below W.heap.size W W')
    (hag : again = false) :
    s.post enc P f apart fresh handsOn again W args v W' := by
  subst hag
  have hlt : ∀ p ∈ before, p.block < W.heap.size := fun p hp => hW.lt p hp
  refine ⟨ds, gs, before, [], pa, pv, hW, hres _ _ _, hargs, hvars, World.keptBut_mono (fun p hp => ⟨hp, ?_⟩) (hb.frame (· ∈ before)), fun h => by cases h⟩
  rw [hps, List.mem_append] at hp
  exact Or.inr hp
end

set_option maxRecDepth 100000 in
set_option maxHeartbeats 2000000 in
/-- An address among the arguments, opened. -/
theorem open_url {H : Type} {enc : TypeId × Value → H} {W : World} {b0 : Nat} {v : Value} {d : DataW H} {p : List MemPlace} (hv : Value.okWide Tryz.prog W .any b0 27 v) (h : DataW.Trod enc Tryz.prog W 0 (fun _ => true) true 27 v d p) :
    ∃ u : Url, v = u.val ∧ (Lit.int .i64 u.num).wf = true ∧ (Lit.int .i64 u.port).wf = true ∧ Strs W u.A u.segs ∧ u.segs.length ≤ 9223372036854775807 ∧ u.segs.length ≤ u.cap := by
  obtain ⟨⟨l⟩, rfl, hsz⟩ := okWide_struct Tryz.underlying27 hv
  have k27 : Tryz.prog.cellsOf 27 = 21 := by kernel_rfl
  have hsz' : l.length = 21 := by rw [k27] at hsz; exact hsz
  obtain ⟨fuel, hf⟩ := h
  obtain ⟨xs, n, _, _, _, hlen, hg⟩ := DataW.trod_struct Tryz.underlying27 hf
  have k3 : Tryz.prog.cellsOf 3 = 1 := by kernel_rfl
  have k4 : Tryz.prog.cellsOf 4 = 1 := by kernel_rfl
  have k9 : Tryz.prog.cellsOf 9 = 1 := by kernel_rfl
  have k24 : Tryz.prog.cellsOf 24 = 11 := by kernel_rfl
  have k25 : Tryz.prog.cellsOf 25 = 1 := by kernel_rfl
  have k22 : Tryz.prog.cellsOf 22 = 8 := by kernel_rfl
  match l, hsz', xs, hlen with
  | [c0, c1, c2, c3, c4, c5, c6, c7, c8, c9, c10, c11, c12, c13, c14, c15, c16, c17, c18, c19, c20], _, [y0, y1, y2, y3, y4, y5, y6, y7, y8, y9, y10], _ =>
    have g0 : DataW.trod enc Tryz.prog W 0 (fun _ => true) true n 9 (([c0, c1, c2, c3, c4, c5, c6, c7, c8, c9, c10, c11, c12, c13, c14, c15, c16, c17, c18, c19, c20].drop 0).take (Tryz.prog.cellsOf 9)) = some y0 := hg 0 _ rfl
    have g1 : DataW.trod enc Tryz.prog W 0 (fun _ => true) true n 9 (([c0, c1, c2, c3, c4, c5, c6, c7, c8, c9, c10, c11, c12, c13, c14, c15, c16, c17, c18, c19, c20].drop 1).take (Tryz.prog.cellsOf 9)) = some y1 := hg 1 _ rfl
    have g2 : DataW.trod enc Tryz.prog W 0 (fun _ => true) true n 9 (([c0, c1, c2, c3, c4, c5, c6, c7, c8, c9, c10, c11, c12, c13, c14, c15, c16, c17, c18, c19, c20].drop 2).take (Tryz.prog.cellsOf 9)) = some y2 := hg 2 _ rfl
    have g3 : DataW.trod enc Tryz.prog W 0 (fun _ => true) true n 24 (([c0, c1, c2, c3, c4, c5, c6, c7, c8, c9, c10, c11, c12, c13, c14, c15, c16, c17, c18, c19, c20].drop 3).take (Tryz.prog.cellsOf 24)) = some y3 := hg 3 _ rfl
    have g4 : DataW.trod enc Tryz.prog W 0 (fun _ => true) true n 3 (([c0, c1, c2, c3, c4, c5, c6, c7, c8, c9, c10, c11, c12, c13, c14, c15, c16, c17, c18, c19, c20].drop 14).take (Tryz.prog.cellsOf 3)) = some y4 := hg 4 _ rfl
    have g5 : DataW.trod enc Tryz.prog W 0 (fun _ => true) true n 25 (([c0, c1, c2, c3, c4, c5, c6, c7, c8, c9, c10, c11, c12, c13, c14, c15, c16, c17, c18, c19, c20].drop 15).take (Tryz.prog.cellsOf 25)) = some y5 := hg 5 _ rfl
    have g6 : DataW.trod enc Tryz.prog W 0 (fun _ => true) true n 9 (([c0, c1, c2, c3, c4, c5, c6, c7, c8, c9, c10, c11, c12, c13, c14, c15, c16, c17, c18, c19, c20].drop 16).take (Tryz.prog.cellsOf 9)) = some y6 := hg 6 _ rfl
    have g7 : DataW.trod enc Tryz.prog W 0 (fun _ => true) true n 9 (([c0, c1, c2, c3, c4, c5, c6, c7, c8, c9, c10, c11, c12, c13, c14, c15, c16, c17, c18, c19, c20].drop 17).take (Tryz.prog.cellsOf 9)) = some y7 := hg 7 _ rfl
    have g8 : DataW.trod enc Tryz.prog W 0 (fun _ => true) true n 9 (([c0, c1, c2, c3, c4, c5, c6, c7, c8, c9, c10, c11, c12, c13, c14, c15, c16, c17, c18, c19, c20].drop 18).take (Tryz.prog.cellsOf 9)) = some y8 := hg 8 _ rfl
    have g9 : DataW.trod enc Tryz.prog W 0 (fun _ => true) true n 4 (([c0, c1, c2, c3, c4, c5, c6, c7, c8, c9, c10, c11, c12, c13, c14, c15, c16, c17, c18, c19, c20].drop 19).take (Tryz.prog.cellsOf 4)) = some y9 := hg 9 _ rfl
    have g10 : DataW.trod enc Tryz.prog W 0 (fun _ => true) true n 4 (([c0, c1, c2, c3, c4, c5, c6, c7, c8, c9, c10, c11, c12, c13, c14, c15, c16, c17, c18, c19, c20].drop 20).take (Tryz.prog.cellsOf 4)) = some y10 := hg 10 _ rfl
    simp only [k3, k4, k9, k24, k25, List.drop_zero, List.drop_succ_cons, List.take_succ_cons, List.take_zero] at g0 g1 g2 g3 g4 g5 g6 g7 g8 g9 g10
    obtain ⟨s0, e0, -, -⟩ := DataW.trod_string Tryz.underlying9 g0
    obtain ⟨s1, e1, -, -⟩ := DataW.trod_string Tryz.underlying9 g1
    obtain ⟨s2, e2, -, -⟩ := DataW.trod_string Tryz.underlying9 g2
    obtain ⟨i4, e4, -, w4⟩ := DataW.trod_int Tryz.underlying3 g4
    obtain ⟨s6, e6, -, -⟩ := DataW.trod_string Tryz.underlying9 g6
    obtain ⟨s7, e7, -, -⟩ := DataW.trod_string Tryz.underlying9 g7
    obtain ⟨s8, e8, -, -⟩ := DataW.trod_string Tryz.underlying9 g8
    obtain ⟨b9, e9, -⟩ := DataW.trod_bool Tryz.underlying4 g9
    obtain ⟨b10, e10, -⟩ := DataW.trod_bool Tryz.underlying4 g10
    obtain ⟨zs, m, _, _, _, hzl, hz⟩ := DataW.trod_struct Tryz.underlying24 g3
    match zs, hzl with
    | [z0, z1, z2, z3], _ =>
      have f0 : DataW.trod enc Tryz.prog W 0 (fun _ => true) true m 3 (([c3, c4, c5, c6, c7, c8, c9, c10, c11, c12, c13].drop 0).take (Tryz.prog.cellsOf 3)) = some z0 := hz 0 _ rfl
      have f1 : DataW.trod enc Tryz.prog W 0 (fun _ => true) true m 9 (([c3, c4, c5, c6, c7, c8, c9, c10, c11, c12, c13].drop 1).take (Tryz.prog.cellsOf 9)) = some z1 := hz 1 _ rfl
      have f2 : DataW.trod enc Tryz.prog W 0 (fun _ => true) true m 3 (([c3, c4, c5, c6, c7, c8, c9, c10, c11, c12, c13].drop 2).take (Tryz.prog.cellsOf 3)) = some z2 := hz 2 _ rfl
      have f3 : DataW.trod enc Tryz.prog W 0 (fun _ => true) true m 22 (([c3, c4, c5, c6, c7, c8, c9, c10, c11, c12, c13].drop 3).take (Tryz.prog.cellsOf 22)) = some z3 := hz 3 _ rfl
      simp only [k3, k9, k22, List.drop_zero, List.drop_succ_cons, List.take_succ_cons, List.take_zero] at f0 f1 f2 f3
      obtain ⟨ik, ek, -, wk⟩ := DataW.trod_int Tryz.underlying3 f0
      obtain ⟨sn, en, -, -⟩ := DataW.trod_string Tryz.underlying9 f1
      obtain ⟨inn, ei, -, wn⟩ := DataW.trod_int Tryz.underlying3 f2
      obtain ⟨qs, m', _, _, _, hql, hq⟩ := DataW.trod_array Tryz.underlying22 f3
      match qs, hql with
      | [q0, q1, q2, q3, q4, q5, q6, q7], _ =>
        have r0 := hq 0 (by decide)
        have r1 := hq 1 (by decide)
        have r2 := hq 2 (by decide)
        have r3 := hq 3 (by decide)
        have r4 := hq 4 (by decide)
        have r5 := hq 5 (by decide)
        have r6 := hq 6 (by decide)
        have r7 := hq 7 (by decide)
        simp only [k3, Nat.zero_mul, Nat.one_mul, Nat.mul_one, List.drop_zero, List.drop_succ_cons, List.take_succ_cons, List.take_zero] at r0 r1 r2 r3 r4 r5 r6 r7
        obtain ⟨p0, t0, -, -⟩ := DataW.trod_int Tryz.underlying3 r0
        obtain ⟨p1, t1, -, -⟩ := DataW.trod_int Tryz.underlying3 r1
        obtain ⟨p2, t2, -, -⟩ := DataW.trod_int Tryz.underlying3 r2
        obtain ⟨p3, t3, -, -⟩ := DataW.trod_int Tryz.underlying3 r3
        obtain ⟨p4, t4, -, -⟩ := DataW.trod_int Tryz.underlying3 r4
        obtain ⟨p5, t5, -, -⟩ := DataW.trod_int Tryz.underlying3 r5
        obtain ⟨p6, t6, -, -⟩ := DataW.trod_int Tryz.underlying3 r6
        obtain ⟨p7, t7, -, -⟩ := DataW.trod_int Tryz.underlying3 r7
        simp at e0 e1 e2 e4 e6 e7 e8 e9 e10 ek en ei t0 t1 t2 t3 t4 t5 t6 t7
        subst e0 e1 e2 e4 e6 e7 e8 e9 e10 ek en ei t0 t1 t2 t3 t4 t5 t6 t7
        rcases open_strings Tryz.underlying25 Tryz.underlying9 k9 g5 with ⟨hcs, -⟩ | ⟨a, len, cap, ss, hcs, _, hl, hm, hss, _, hcell, -⟩
        · simp at hcs
          subst hcs
          exact ⟨⟨s0, s1, s2, ik, sn, inn, p0, p1, p2, p3, p4, p5, p6, p7, i4, none, [], 0, s6, s7, s8, b9, b10⟩, rfl, wn, w4, .inl rfl, by simp, by simp⟩
        · simp at hcs hss
          subst hcs
          have hlen' : (ss.take len).length = len := by rw [List.length_take]; omega
          refine ⟨⟨s0, s1, s2, ik, sn, inn, p0, p1, p2, p3, p4, p5, p6, p7, i4, some a, ss.take len, cap, s6, s7, s8, b9, b10⟩, by simp [Url.val, Url.cells, hlen'], wn, w4, ?_, ?_, ?_⟩
          · by_cases h0 : len = 0
            · left; simp [h0]
            · right
              obtain ⟨b, off, spot⟩ := a
              have hc0 := hcell 0 (by omega)
              have hbs : b < W.heap.size := by
                unfold World.cell? at hc0
                split at hc0
                · rename_i hh
                  exact (Array.getElem?_eq_some_iff.1 hh).1
                · cases hc0
              have hsp : spot = none := by
                unfold World.cell? at hc0
                split at hc0
                · cases spot with
                  | none => rfl
                  | some x => simp [Addr.add] at hc0
                · cases hc0
              subst hsp
              refine ⟨b, off, rfl, hbs, fun j hj => ?_⟩
              have hj' : j < len := by rw [← hlen']; exact hj
              have hcj := hcell j (by omega)
              have ha : (⟨b, off, none⟩ : Addr).add j = ⟨b, off + j, none⟩ := by unfold Addr.add; split <;> simp_all
              rw [ha] at hcj
              rw [hcj, List.getElem_take, List.getD_eq_getElem?_getD, List.getElem?_eq_getElem (by omega)]
              rfl
          · show (ss.take len).length ≤ _
            rw [hlen']
            have : maxLen ≤ 9223372036854775807 := by decide
            omega
          · show (ss.take len).length ≤ cap
            omega

theorem row_own : ownKnob Tryz.prog.godebug = none := by kernel_rfl
theorem row_laid : laidOutB Tryz.prog = true := by kernel_rfl

set_option maxRecDepth 100000 in
theorem showTells_lifted (os : Os) (started : os.Started) (H : Type) (enc : TypeId × Value → H) :
    ReturnsInHanded {} Tryz.checked os 3 .any (Rows.showTellsSpec.pre6 enc Tryz.prog Tryz.f3 Rows.showTellsRow.domain false) (Rows.showTellsSpec.post enc Tryz.prog Tryz.f3 false true false false) := by
  refine returnsInHanded_of_change_shaped (C := Tryz.checked) row_own started (by kernel_rfl) Tryz.func3
    (ChangeSpec.witness6 (enc := enc) (C := Tryz.checked) false ⟨#[], #[.agg #[.string ⟨#[]⟩, .string ⟨#[]⟩, .string ⟨#[]⟩, .int .i64 0, .string ⟨#[]⟩, .int .i64 0, .int .i64 0, .int .i64 0, .int .i64 0, .int .i64 0, .int .i64 0, .int .i64 0, .int .i64 0, .int .i64 0, .int .i64 0, .slice none 0 0, .string ⟨#[]⟩, .string ⟨#[]⟩, .string ⟨#[]⟩, .bool false, .bool false]], []⟩ 8 (by kernel_rfl) (by kernel_rfl) (by kernel_rfl) (by kernel_rfl)) ?_
  intro W base args ds gs before hval0 hW _ _ hsh _
  have hval : ∀ (j : Nat) t v, Tryz.f3.params[j]? = some t → args[j]? = some v → Value.okWide Tryz.prog W .any base t v := hval0
  have hW' := hW
  obtain ⟨p, q, hA0, hV, rfl, hfz, hnd⟩ := hW
  have hA : DataW.TrodAll enc Tryz.prog W 0 (fun _ => true) true Tryz.f3.params.toList args.toList ds p := hA0
  rw [Tryz.params3] at hA hval
  obtain ⟨v0, d0, rfl, rfl, h0⟩ := trodAll_one hA
  obtain ⟨rfl, rfl⟩ := trodVars_none hV
  obtain ⟨u, rfl, hn, hp, hS, hl, hc⟩ := open_url (hval 0 27 v0 rfl rfl) h0
  clear hA0 hval0
  have hlt : ∀ x ∈ p, x.block < W.heap.size := fun x hx => hW'.lt x (by simpa using hx)
  refine (ShowTells_any u W (Tryz.laysM144.s1_3 W hsh) hn hp hS hl hc).mono fun e W' ⟨he, hb⟩ => ?_
  subst he
  exact ⟨_, rfl, post_below (pa := p) (pv := []) hW' (fun _ _ _ => trodAll_mk1 (shut_bool Tryz.underlying4 _))
    (trodAll_mk1 (Below.trod row_laid (by kernel_rfl) (of_decide_eq_true (by kernel_rfl)) h0 hb hlt)) rfl rfl hb rfl⟩

theorem showTells_holds : Rows.ShowTellsSaid :=
  OpenClaim.holds_of_wide 3 Tryz.f3 rfl rfl rfl rfl rfl rfl rfl ⟨rfl, rfl, rfl, rfl, rfl⟩ rfl rfl rfl rfl rfl (by kernel_rfl) Tryz.func3 (by kernel_rfl)
    (of_decide_eq_true (by kernel_rfl)) (by unfold Func.isWrapper; first | (rw [if_pos (by decide +kernel)]; kernel_rfl) | (rw [if_neg (by decide +kernel)]; exact ⟨rfl, rfl⟩))
    (fun os started H enc _ => showTells_lifted os started H enc)

#print axioms showTells_holds
end Go.Proofs.YtkmoakfphfakoaaGreat
