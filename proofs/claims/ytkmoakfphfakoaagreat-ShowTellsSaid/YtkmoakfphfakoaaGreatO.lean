/-
  Walks, part O: show.Show.
-/
import Derived.Test.YtkmoakfphfakoaaGreatYE
import Derived.Test.YtkmoakfphfakoaaGreatI
import Derived.Test.YtkmoakfphfakoaaGreatZ
import Derived.Deep.RegionHeld3
set_option linter.unusedVariables false
set_option linter.unusedSimpArgs false
namespace Go.Proofs.YtkmoakfphfakoaaGreat
open Go.RowKit Go.Shelf Go.Sort
attribute [local go_sem] Oper.semAt_some

def flatB (ps : List ByteArray) : List UInt8 := ps.flatMap fun s => s.data.toList
theorem flatB_snoc (ps : List ByteArray) (s : ByteArray) : flatB (ps ++ [s]) = flatB ps ++ s.data.toList := by simp [flatB, List.flatMap_append]
theorem flatB_take (ps : List ByteArray) (k : Nat) : (flatB (ps.take k)).length ≤ (flatB ps).length := by
  have : flatB ps = flatB (ps.take k) ++ flatB (ps.drop k) := by unfold flatB; rw [← List.flatMap_append, List.take_append_drop]
  rw [this, List.length_append]; omega

/-- The builder at block b holds l, and the method that writes to it lies behind it. -/
structure PutAt (b : Nat) (l : List UInt8) (W : World) : Prop where
  bld : Bld b b l W
  fn : W.heap[b + 1]? = some (.cells #[.func (.func 19) #[.pointer (some ⟨b, 0, none⟩)] #[]] 40 (0, 0))
theorem PutAt.lt {b : Nat} {l : List UInt8} {W : World} (h : PutAt b l W) : b + 1 < W.heap.size := (Array.getElem?_eq_some_iff.1 h.fn).1
theorem PutAt.below {b : Nat} {l : List UInt8} {W W' : World} (h : PutAt b l W) (hb : Below W.heap.size W W') : PutAt b l W' := ⟨h.bld.below hb, (hb.block _ h.lt).trans h.fn⟩
theorem PutAt.drew {b : Nat} {l : List UInt8} {W : World} (h : PutAt b l W) : PutAt b l W.drew := h.below (Below.refl _ _).drew
theorem PutAt.alloc {b : Nat} {l : List UInt8} {W : World} (h : PutAt b l W) (o : Obj) : PutAt b l (W.alloc o) := h.below ((Below.refl _ _).alloc (Nat.le_refl _) _)

set_option maxRecDepth 100000 in
set_option maxHeartbeats 2000000 in
theorem when_any (b g : Nat) (l : List UInt8) (is : Bool) (ps : List ByteArray) (w : World) (h : PutAt b l w) (hg : w.heap[g]? = some (.cells (ps.map Value.string).toArray 9 (0, 0))) (hgb : g ≠ b)
    (hlen : l.length + (flatB ps).length ≤ 140737488355328) (hps : ps.length ≤ 1000) :
    Calls Tryz.prog 20 #[.bool is, .slice (some ⟨g, 0, none⟩) ps.length ps.length, .pointer (some ⟨b + 1, 0, none⟩)] w fun e w' =>
      e = .returned (.tuple #[]) ∧ PutAt b (l ++ if is then flatB ps else []) w' ∧ Below b w w' := by
  have HG := Lib.hid hg; clear hg
  have HP := Lib.hid h; clear h
  cases is with
  | false =>
    have hcl : ∀ k (hk : k < ps.length), w.cell? ⟨g, k, none⟩ = some (.string ps[k]) := fun k hk => by
      rw [Lib.cell_of_heap HG.out]; simp [hk]
    have HC := Lib.hid hcl; clear hcl
    go_enter Tryz.func20, Tryz.ntmps20
    go_wp2_with fail
    go_loop [9] (fun i => ∃ k : Nat, k ≤ ps.length ∧ i = .int .i64 k) (fun i => ps.length - (intOf i).toNat)
    case atStart => exact ⟨0, Nat.zero_le _, rfl⟩
    case round =>
      obtain ⟨k, hk, rfl⟩ := hrel
      by_cases hlt : k < ps.length
      · have hc := HC.out k hlt
        go_wp2_with fail
        go_round
        case rel => exact ⟨k + 1, by omega, by go_num⟩
        case measure => simp [intOf]; omega
      · go_wp2_with fail
        go_end0
        exact ⟨rfl, by simpa using HP.out, Below.refl _ _⟩
  | true =>
    go_enter Tryz.func20, Tryz.ntmps20
    go_wp2_with fail
    go_loopw [9] (fun i wr => ∃ k : Nat, k ≤ ps.length ∧ i = .int .i64 k ∧ PutAt b (l ++ flatB (ps.take k)) wr ∧ Below b w wr ∧ wr.heap[g]? = w.heap[g]?) (fun i _ => ps.length - (intOf i).toNat)
    case atStart => exact ⟨0, Nat.zero_le _, rfl, by simpa [flatB] using HP.out, Below.refl _ _, rfl⟩
    case round =>
      obtain ⟨k, hk, rfl, hpa, hbl, hgr⟩ := hrel
      have HR := Lib.hid hgr; clear hgr
      by_cases hlt : k < ps.length
      · have hgw := HR.out.trans HG.out
        have hc : wr.cell? ⟨g, k, none⟩ = some (.string ps[k]) := by rw [Lib.cell_of_heap hgw]; simp [hlt]
        have hcf : wr.cell? ⟨b + 1, 0, none⟩ = some (.func (.func 19) #[.pointer (some ⟨b, 0, none⟩)] #[]) := by rw [Lib.cell_of_heap hpa.fn]; rfl
        have HGW := Lib.hid hgw; clear hgw
        have hsz := hpa.lt
        have hpl : (flatB (ps.take (k + 1))).length ≤ (flatB ps).length := flatB_take _ _
        have htk : flatB (ps.take (k + 1)) = flatB (ps.take k) ++ ps[k].data.toList := by rw [List.take_succ_eq_append_getElem hlt, flatB_snoc]
        have hle : (l ++ flatB (ps.take k)).length + ps[k].size ≤ 140737488355328 := by
          rw [htk] at hpl
          simp only [List.length_append, Lib.size_eq] at hpl ⊢
          omega
        have HT := Lib.hid htk; clear htk
        go_wp2_with fail
        refine Calls.mono (putS b b _ ps[k] _ hpa.bld hle (by omega)) ?_
        rintro e w1 ⟨rfl, hb1, hbl1, hk1⟩
        rw [List.append_assoc, ← HT.out] at hb1
        have hfn1 := (hk1.2 _ hsz (hpa.bld.apart_ty hpa.fn (by decide) (by omega))).1.trans hpa.fn
        have hgr1 := (hk1.2 g (Array.getElem?_eq_some_iff.1 HGW.out).1 (hpa.bld.apart_ty HGW.out (by decide) hgb)).1.trans HR.out
        go_wp2_with fail
        go_roundw
        case rel => exact ⟨k + 1, by omega, by go_num, ⟨hb1, hfn1⟩, hbl.trans hbl1, hgr1⟩
        case measure => simp [intOf]; omega
      · obtain rfl : k = ps.length := by omega
        rw [List.take_length] at hpa
        go_wp2_with fail
        go_end0
        exact ⟨rfl, by simpa using hpa, hbl⟩

theorem UAt.run {u : Url} {b : Nat} {W : World} (hW : UAt u b W) : (Instr.loadAt 27 (.pointer (some ⟨b, 0, none⟩))).run Tryz.prog W = .ok u.val W := by
  simp only [Instr.loadAt, Instr.sureAddr, Sem.run_bind, Sem.run_pure, Result.andThen_ok, run_loadVar_row W b 27 27 u.cells (0, 0) _ hW Tryz.underlying27 rfl (by kernel_rfl)]
theorem UAt.keep {u : Url} {n B : Nat} {W W' : World} (h : UAt u n W) (hn : n < B) (hb : Below B W W') : UAt u n W' := (hb.block n hn).trans h

/-- The load of an address in a region that draws its order, where S keeps it. -/
theorem yieldsIf_url {ops : Array Oper} {S : World → Prop} {op : Oper} {a : Act} (hw : Region.wanted op (yielded ops a.tmps) = true) (x : Operand) (ho : op.op = .load 27 x) (b : Nat) (hx : a.eval x = .pointer (some ⟨b, 0, none⟩)) (u : Url) (hS : ∀ w, S w → UAt u b w) :
    YieldsIf Tryz.prog ops S op u.val a :=
  .inl ⟨hw, fun w h => by
    unfold execOp
    simp only [ho, hx, Sem.run_bind, (hS w h).run, Result.andThen_ok]
    rfl⟩

/-- One call of show.Show's put, the slice laid ahead of it: three texts, two, one. -/
theorem when3 (l l' : List UInt8) (is : Bool) (x y z : ByteArray) (hl : l' = l ++ if is then flatB [x, y, z] else []) (hlen : l.length + (flatB [x, y, z]).length ≤ 140737488355328) (b : Nat) (W : World) (h : PutAt b l W) (hB : b ≤ W.heap.size) :
    Calls Tryz.prog 20 #[.bool is, .slice (some ⟨W.heap.size, 0, none⟩) 3 3, .pointer (some ⟨b + 1, 0, none⟩)] (W.alloc (.cells #[.string x, .string y, .string z] 9)) fun e w' => e = .returned (.tuple #[]) ∧ PutAt b l' w' ∧ Below b W w' := by
  subst hl
  exact (when_any b W.heap.size l is [x, y, z] _ (h.alloc _) (World.alloc_heap_new _ _) (by have := h.lt; omega) hlen (by simp)).mono fun e w' ⟨he, h1, h2⟩ => ⟨he, h1, ((Below.refl _ _).alloc hB _).trans h2⟩
theorem when2 (l l' : List UInt8) (is : Bool) (x y : ByteArray) (hl : l' = l ++ if is then flatB [x, y] else []) (hlen : l.length + (flatB [x, y]).length ≤ 140737488355328) (b : Nat) (W : World) (h : PutAt b l W) (hB : b ≤ W.heap.size) :
    Calls Tryz.prog 20 #[.bool is, .slice (some ⟨W.heap.size, 0, none⟩) 2 2, .pointer (some ⟨b + 1, 0, none⟩)] (W.alloc (.cells #[.string x, .string y] 9)) fun e w' => e = .returned (.tuple #[]) ∧ PutAt b l' w' ∧ Below b W w' := by
  subst hl
  exact (when_any b W.heap.size l is [x, y] _ (h.alloc _) (World.alloc_heap_new _ _) (by have := h.lt; omega) hlen (by simp)).mono fun e w' ⟨he, h1, h2⟩ => ⟨he, h1, ((Below.refl _ _).alloc hB _).trans h2⟩
theorem when1 (l l' : List UInt8) (is : Bool) (x : ByteArray) (hl : l' = l ++ if is then flatB [x] else []) (hlen : l.length + (flatB [x]).length ≤ 140737488355328) (b : Nat) (W : World) (h : PutAt b l W) (hB : b ≤ W.heap.size) :
    Calls Tryz.prog 20 #[.bool is, .slice (some ⟨W.heap.size, 0, none⟩) 1 1, .pointer (some ⟨b + 1, 0, none⟩)] (W.alloc (.cells #[.string x] 9)) fun e w' => e = .returned (.tuple #[]) ∧ PutAt b l' w' ∧ Below b W w' := by
  subst hl
  exact (when_any b W.heap.size l is [x] _ (h.alloc _) (World.alloc_heap_new _ _) (by have := h.lt; omega) hlen (by simp)).mono fun e w' ⟨he, h1, h2⟩ => ⟨he, h1, ((Below.refl _ _).alloc hB _).trans h2⟩

/-- An address as text. -/
def Url.pieces (u : Url) (wb : Bool) : List UInt8 :=
  (((((([] ++ (if true then flatB [u.sch, ⟨#[58]⟩, u.opq] else [])) ++ (if wb then flatB [⟨#[47, 47]⟩, u.usr] else [])) ++ (if !u.pwd.toList.isEmpty then flatB [⟨#[58]⟩, u.pwd] else []))
    ++ (if !u.usr.toList.isEmpty || !u.pwd.toList.isEmpty then flatB [⟨#[64]⟩] else [])) ++ (if wb then flatB [⟨u.door.toArray⟩, ⟨(pshow u.segs).toArray⟩] else [])) ++ (if u.hq then flatB [⟨#[63]⟩, u.qry] else [])) ++ (if u.hf then flatB [⟨#[35]⟩, u.frg] else [])
def Url.shown (u : Url) : List UInt8 := if u.may then u.pieces (decide (0 < webP u.sch.data.toList)) else []

theorem step_len {l l' : List UInt8} {is : Bool} {ps : List ByteArray} {n m : Nat} (h : l' = l ++ if is then flatB ps else []) (hl : l.length ≤ n) (hp : (flatB ps).length ≤ m) : l'.length ≤ n + m := by
  subst h
  rw [List.length_append]
  split
  · omega
  · simp; omega
theorem flat1 (x : ByteArray) : (flatB [x]).length = x.size := by simp [flatB]
theorem flat2 (x y : ByteArray) : (flatB [x, y]).length = x.size + y.size := by simp [flatB]
theorem flat3 (x y z : ByteArray) : (flatB [x, y, z]).length = x.size + y.size + z.size := by simp [flatB]; omega

set_option maxRecDepth 100000 in
set_option maxHeartbeats 8000000 in
theorem Show_any (u : Url) (w : World) (hu : u.Ok w) :
    Calls Tryz.prog 11 #[u.val] w fun e w' => e = .returned (.string ⟨u.shown.toArray⟩) ∧ Below w.heap.size w w' := by
  obtain ⟨w0, hw0⟩ : ∃ w0, w.alloc (.cells u.cells 27) = w0 := ⟨_, rfl⟩
  have hU0 : UAt u w.heap.size w0 := by rw [← hw0]; exact UAt.new u w
  have hb0 : Below w.heap.size w w0 := by rw [← hw0]; exact (Below.refl _ w).alloc (Nat.le_refl _) _
  have hs0 : w0.heap.size = w.heap.size + 1 := by rw [← hw0]; simp
  have hu0 := hu.below hb0
  have hM := UMay_any u w0 hu0
  unfold Url.shown
  cases hm : u.may with
  | false =>
    rw [hm] at hM
    have HU := Lib.hid hU0
    clear hU0 hu0 hu hm hs0
    go_enter Tryz.func11, Tryz.ntmps11
    go_wp2_with (with_reducible change wpList _ _ _ (⟨_, .load 27 (.tmp 1), _, _, _, _⟩ :: _) _ _; refine UAt.load HU.out (.tmp 1) rfl rfl rfl ?_)
    refine Calls.mono hM ?_
    rintro e w1 ⟨rfl, h1⟩
    go_wp2_with fail
    go_ret
    exact ⟨rfl, hb0.trans (h1.mono hb0.size)⟩
  | true =>
    rw [hm] at hM
    rw [if_pos rfl]
    have hW := fun W => Web_any u.sch W
    have hdl : u.door.length ≤ 1000010 := by
      have h1 : u.hostshow.length ≤ 1000000 := hshow_len u.k u.nm hu.nm u.num u.p0 u.p1 u.p2 u.p3 u.p4 u.p5 u.p6 u.p7
      have h2 := @Url.may_port u hm
      unfold Url.door
      split
      · rename_i hd
        simp only [Bool.and_eq_true, decide_eq_true_eq] at hd
        have h3 := h2 hd.2
        split
        · omega
        · have h4 : (dec u.port.toNat).length ≤ 5 := by
            have key : ∀ n : Nat, n ≤ 65535 → (rdec n).length ≤ 5 := fun n h => by
              rw [rdec]; split
              · rw [rdec]; split
                · rw [rdec]; split
                  · rw [rdec]; split
                    · rw [rdec]; split
                      · omega
                      · simp
                    · simp
                  · simp
                · simp
              · simp
            have := key u.port.toNat (by omega)
            simpa [dec] using this
          simp; omega
      · simp
    have hpl : (pshow u.segs).length ≤ 1000000 * 1000001 := by
      have := pshow_len u.segs 1000000 hu.segs
      exact Nat.le_trans this (Nat.mul_le_mul_right _ hu.len)
    have hcw : decide (0 < webP u.sch.data.toList) = decide ((0 : Int) < ((webP u.sch.data.toList : Nat) : Int)) := by rw [Bool.eq_iff_iff]; simp
    have hP := fun W (hS : Strs W u.A u.segs) => PShow_any u.A u.segs u.cap W hS hu.segs hu.len
    have hD := fun W (h : u.Ok W) => Door_any u W h
    rw [hcw]
    unfold Url.pieces
    generalize ((webP u.sch.data.toList : Nat) : Int) = wb at hW ⊢
    generalize u.door = dr at hdl hD ⊢
    generalize pshow u.segs = sg at hpl hP ⊢
    have hz1 : (⟨dr.toArray⟩ : ByteArray).size ≤ 1000010 := by show dr.toArray.size ≤ _; simpa using hdl
    have hz2 : (⟨sg.toArray⟩ : ByteArray).size ≤ 1000000 * 1000001 := by show sg.toArray.size ≤ _; simpa using hpl
    obtain ⟨l1, h1⟩ : ∃ l, l = [] ++ (if true then flatB [u.sch, ⟨#[58]⟩, u.opq] else []) := ⟨_, rfl⟩
    obtain ⟨l2, h2⟩ : ∃ l, l = l1 ++ (if decide (0 < wb) then flatB [⟨#[47, 47]⟩, u.usr] else []) := ⟨_, rfl⟩
    obtain ⟨l3, h3⟩ : ∃ l, l = l2 ++ (if !u.pwd.toList.isEmpty then flatB [⟨#[58]⟩, u.pwd] else []) := ⟨_, rfl⟩
    obtain ⟨l4, h4⟩ : ∃ l, l = l3 ++ (if !u.usr.toList.isEmpty || !u.pwd.toList.isEmpty then flatB [⟨#[64]⟩] else []) := ⟨_, rfl⟩
    obtain ⟨l5, h5⟩ : ∃ l, l = l4 ++ (if decide (0 < wb) then flatB [⟨dr.toArray⟩, ⟨sg.toArray⟩] else []) := ⟨_, rfl⟩
    obtain ⟨l6, h6⟩ : ∃ l, l = l5 ++ (if u.hq then flatB [⟨#[63]⟩, u.qry] else []) := ⟨_, rfl⟩
    obtain ⟨l7, h7⟩ : ∃ l, l = l6 ++ (if u.hf then flatB [⟨#[35]⟩, u.frg] else []) := ⟨_, rfl⟩
    have n1 := step_len h1 (Nat.le_refl 0) (Nat.le_refl _)
    have n2 := step_len h2 n1 (Nat.le_refl _)
    have n3 := step_len h3 n2 (Nat.le_refl _)
    have n4 := step_len h4 n3 (Nat.le_refl _)
    have n5 := step_len h5 n4 (Nat.le_refl _)
    have n6 := step_len h6 n5 (Nat.le_refl _)
    have s0 := hu.sch
    have s1 := hu.usr
    have s2 := hu.pwd
    have s3 := hu.opq
    have s4 := hu.qry
    have s5 := hu.frg
    have z1 : (⟨#[58]⟩ : ByteArray).size = 1 := rfl
    have z2 : (⟨#[47, 47]⟩ : ByteArray).size = 2 := rfl
    have z3 : (⟨#[64]⟩ : ByteArray).size = 1 := rfl
    have z4 : (⟨#[63]⟩ : ByteArray).size = 1 := rfl
    have z5 : (⟨#[35]⟩ : ByteArray).size = 1 := rfl
    rw [flat3, z1] at n1 n2 n3 n4 n5 n6
    rw [flat2, z2] at n2 n3 n4 n5 n6
    rw [flat2, z1] at n3 n4 n5 n6
    rw [flat1, z3] at n4 n5 n6
    rw [flat2] at n5 n6
    rw [flat2, z4] at n6
    have k1 := when3 [] l1 true u.sch ⟨#[58]⟩ u.opq h1 (by rw [flat3, z1]; simp; omega)
    have k2 := when2 l1 l2 (decide (0 < wb)) ⟨#[47, 47]⟩ u.usr h2 (by rw [flat2, z2]; omega)
    have k3 := when2 l2 l3 (!u.pwd.toList.isEmpty) ⟨#[58]⟩ u.pwd h3 (by rw [flat2, z1]; omega)
    have k4 := when1 l3 l4 (!u.usr.toList.isEmpty || !u.pwd.toList.isEmpty) ⟨#[64]⟩ h4 (by rw [flat1, z3]; omega)
    have k5 := when2 l4 l5 (decide (0 < wb)) ⟨dr.toArray⟩ ⟨sg.toArray⟩ h5 (by rw [flat2]; omega)
    have k6 := when2 l5 l6 u.hq ⟨#[63]⟩ u.qry h6 (by rw [flat2, z4]; omega)
    have k7 := when2 l6 l7 u.hf ⟨#[35]⟩ u.frg h7 (by rw [flat2, z5]; omega)
    rw [← h1, ← h2, ← h3, ← h4, ← h5, ← h6, ← h7]
    have K1 := Lib.hid k1
    have K2 := Lib.hid k2
    have K3 := Lib.hid k3
    have K4 := Lib.hid k4
    have K5 := Lib.hid k5
    have K6 := Lib.hid k6
    have K7 := Lib.hid k7
    have HD := Lib.hid hD
    have HP := Lib.hid hP
    have HU := Lib.hid (And.intro hU0 (And.intro hu0 (And.intro hb0 hs0)))
    clear n1 n2 n3 n4 n5 n6 s0 s1 s2 s3 s4 s5 z1 z2 z3 z4 z5 hz1 hz2 hdl hpl k1 k2 k3 k4 k5 k6 k7 h1 h2 h3 h4 h5 h6 h7 hcw hD hP hU0 hu0 hb0 hs0 hm hu
    go_enter Tryz.func11, Tryz.ntmps11
    go_wp2_with (with_reducible change wpList _ _ _ (⟨_, .load 27 (.tmp 1), _, _, _, _⟩ :: _) _ _; refine UAt.load HU.out.1 (.tmp 1) rfl rfl rfl ?_)
    refine Calls.mono hM ?_
    rintro e w1 ⟨rfl, hb1⟩
    clear hw0 hM
    have hU1 := HU.out.1.below hb1
    have hn1 : w.heap.size < w1.heap.size := by have := hb1.size; have := HU.out.2.2.2; omega
    have c0 : w1.cell? ⟨w.heap.size, 0, none⟩ = some (.string u.sch) := hU1.cell 0
    have c6 : w1.cell? ⟨w.heap.size, 16, none⟩ = some (.string u.opq) := hU1.cell 16
    have HB1 := Lib.hid (And.intro hU1 hb1)
    clear hU1 hb1
    have hmf := hmf
    go_wp2_with fail
    refine Calls.mono (hW _) ?_
    rintro e w2 ⟨rfl, rfl⟩
    go_wp2_with fail
    have k := K1.out w1.heap.size ((w1.alloc (.cells #[.pointer none, .slice none 0 0] 39)).alloc (.cells #[.func (.func 19) #[.pointer (some ⟨w1.heap.size, 0, none⟩)] #[]] 40)) ⟨(newB w1).alloc _, by rw [← World.size_alloc w1 (.cells #[.pointer none, .slice none 0 0] 39)]; exact World.alloc_heap_new _ _⟩ (by simp; omega)
    simp only [World.size_alloc] at k
    refine Calls.mono k ?_
    rintro e w3 ⟨rfl, hp3, hb3⟩
    have HB3 := Lib.hid ((((Below.refl w1.heap.size w1).alloc (Nat.le_refl _) _).alloc (by simp) _).trans hb3)
    clear k hb3 c0 c6
    have hU3 := HB1.out.1.keep hn1 HB3.out
    have c1 : w3.cell? ⟨w.heap.size, 1, none⟩ = some (.string u.usr) := hU3.cell 1
    clear hU3
    go_wp2_with fail
    refine Calls.mono (K2.out w1.heap.size _ hp3 HB3.out.size) ?_
    rintro e w4 ⟨rfl, hp4, hb4⟩
    have HB4 := Lib.hid (HB3.out.trans hb4)
    clear hb4 c1 HB3 hp3
    have hU4 := HB1.out.1.keep hn1 HB4.out
    have c2 : w4.cell? ⟨w.heap.size, 2, none⟩ = some (.string u.pwd) := hU4.cell 2
    clear hU4
    go_wp2_with fail
    refine Calls.mono (K3.out w1.heap.size _ hp4 HB4.out.size) ?_
    rintro e w5 ⟨rfl, hp5, hb5⟩
    have HB5 := Lib.hid (HB4.out.trans hb5)
    clear hb5 c2 HB4 hp4
    have hU5 := HB1.out.1.keep hn1 HB5.out
    have c1 : w5.cell? ⟨w.heap.size, 1, none⟩ = some (.string u.usr) := hU5.cell 1
    have c2 : w5.cell? ⟨w.heap.size, 2, none⟩ = some (.string u.pwd) := hU5.cell 2
    clear hU5
    have k4 := K4.out w1.heap.size w5 hp5 HB5.out.size
    cases hue : u.usr.toList.isEmpty
    all_goals
      rw [hue] at k4
      simp only [Bool.not_false, Bool.not_true, Bool.true_or, Bool.false_or] at k4
      go_wp2_with fail
      refine Calls.mono k4 ?_
      rintro e w6 ⟨rfl, hp6, hb6⟩
      have HB6 := Lib.hid (HB5.out.trans hb6)
      clear k4 hb6 c1 c2 HB5 hp5 hue K1 K2 K3 K4
      have hload : ∀ Wx, Below w1.heap.size w1 Wx → (Instr.loadAt 27 (.pointer (some ⟨w.heap.size, 0, none⟩))).run Tryz.prog Wx = .ok u.val Wx := fun Wx hx => (HB1.out.1.keep hn1 hx).run
      have hpath : ∀ Wx, Below w1.heap.size w1 Wx → Wx.cell? ⟨w.heap.size, 15, none⟩ = some (.slice u.A u.segs.length u.cap) := fun Wx hx => (HB1.out.1.keep hn1 hx).cell 15
      have hb6 := HB6.out
      have hp6 := hp6.drew
      go_wp2_with fail
      refine wp_region_held_drew (S := fun Wx => Below w1.heap.size w1 Wx) (by kernel_rfl) hb6.drew (fun hHeld => ?_)
      refine wpAnyH_take (i := 0) (v := .func (.func 20) #[] #[.pointer (some ⟨w1.heap.size + 1, 0, none⟩)]) rfl (by kernel_rfl) (by kernel_rfl) (by kernel_rfl) (fun _ _ _ h => h) (Or.inl ⟨rfl, fun _ _ => rfl⟩) hHeld ?_
      conv => arg 8; whnf
      simp only [List.setIfInBounds_toArray, List.set_cons_zero, List.set_cons_succ]
      refine wpAnyH_take (i := 1) (v := .bool (decide (0 < wb))) rfl (by kernel_rfl) (by kernel_rfl) (by kernel_rfl) (fun _ _ _ h => h) (Or.inl ⟨rfl, fun _ _ => rfl⟩) hHeld ?_
      conv => arg 8; whnf
      simp only [List.setIfInBounds_toArray, List.set_cons_zero, List.set_cons_succ]
      refine wpAnyH_take (i := 2) (v := u.val) rfl (by kernel_rfl) (by kernel_rfl) (by kernel_rfl) (fun _ _ _ h => h) (yieldsIf_url rfl (.tmp 1) rfl w.heap.size rfl u (fun Wx hx => HB1.out.1.keep hn1 hx)) hHeld ?_
      conv => arg 8; whnf
      simp only [List.setIfInBounds_toArray, List.set_cons_zero, List.set_cons_succ]
      refine wpAnyH_take (i := 4) (v := .pointer (some ⟨w.heap.size, 15, none⟩)) rfl (by kernel_rfl) (by kernel_rfl) (by kernel_rfl) (fun _ _ _ h => h) (Or.inl ⟨rfl, fun _ _ => by go_simp⟩) hHeld ?_
      conv => arg 8; whnf
      simp only [List.setIfInBounds_toArray, List.set_cons_zero, List.set_cons_succ]
      refine wpAnyH_take (i := 5) (v := .slice u.A u.segs.length u.cap) rfl (by kernel_rfl) (by kernel_rfl) (by kernel_rfl) (fun _ _ _ h => h) (Or.inl ⟨rfl, fun Wx hx => by have := hpath Wx hx; go_simp⟩) hHeld ?_
      conv => arg 8; whnf
      simp only [List.setIfInBounds_toArray, List.set_cons_zero, List.set_cons_succ]
      refine wpAnyH_ready (rs := [3]) (by kernel_rfl) (by simp) (AllReadyH.cons rfl (fun K hK => ?_) AllReadyH.nil)
      go_simp
      refine Calls.mono (HD.out _ ((HU.out.2.1.below HB1.out.2).below hb6.drew)) ?_
      rintro e wd ⟨rfl, hbd⟩
      have hpd := hp6.below hbd
      have hSd : Below w1.heap.size w1 wd := hb6.drew.trans (hbd.mono hb6.size)
      refine hK.out _ _ hSd (fun hHeld => ?_)
      clear hK K
      refine wpAnyH_ready (rs := [6]) (by kernel_rfl) (by simp) (AllReadyH.cons rfl (fun K hK => ?_) AllReadyH.nil)
      go_simp
      refine Calls.mono (HP.out _ ((HU.out.2.1.below HB1.out.2).below hSd).strs) ?_
      rintro e wp ⟨rfl, hbp⟩
      have hpp := hpd.below hbp
      have hSp : Below w1.heap.size w1 wp := hSd.trans (hbp.mono hSd.size)
      refine hK.out _ _ hSp (fun hHeld => ?_)
      clear hK K
      refine wpAnyH_ready (rs := [7]) (by kernel_rfl) (by simp) (AllReadyH.cons rfl (fun K hK => ?_) AllReadyH.nil)
      go_simp
      refine hK.out _ _ (hSp.alloc hSp.size _) (fun hHeld => ?_)
      clear hK K
      refine wpAnyH_ready (rs := [8]) (by kernel_rfl) (by simp) (AllReadyH.cons rfl (fun K hK => ?_) AllReadyH.nil)
      go_simp
      refine Calls.mono (K5.out w1.heap.size wp hpp hSp.size) ?_
      rintro e w7 ⟨rfl, hp7, hb7⟩
      have hS7 : Below w1.heap.size w1 w7 := hSp.trans hb7
      refine hK.out _ _ hS7 (fun hHeld => ?_)
      clear hK K
      refine wpAnyH_done (by kernel_rfl) ?_ _
      have HB7 := Lib.hid hS7
      clear hbp hpp hSp hbd hpd hSd hb6 hp6 hb7 hS7 hHeld hload hpath HB6 K5 HD HP
      have hU7 := HB1.out.1.keep hn1 HB7.out
      have c19 : w7.cell? ⟨w.heap.size, 19, none⟩ = some (.bool u.hq) := hU7.cell 19
      have c17 : w7.cell? ⟨w.heap.size, 17, none⟩ = some (.string u.qry) := hU7.cell 17
      clear hU7
      go_wp2_with fail
      refine Calls.mono (K6.out w1.heap.size _ hp7 HB7.out.size) ?_
      rintro e w8 ⟨rfl, hp8, hb8⟩
      have HB8 := Lib.hid (HB7.out.trans hb8)
      clear hb8 c19 c17 HB7 hp7
      have hU8 := HB1.out.1.keep hn1 HB8.out
      have c20 : w8.cell? ⟨w.heap.size, 20, none⟩ = some (.bool u.hf) := hU8.cell 20
      have c18 : w8.cell? ⟨w.heap.size, 18, none⟩ = some (.string u.frg) := hU8.cell 18
      clear hU8
      go_wp2_with fail
      refine Calls.mono (K7.out w1.heap.size _ hp8 HB8.out.size) ?_
      rintro e w9 ⟨rfl, hp9, hb9⟩
      have HB9 := Lib.hid (HB8.out.trans hb9)
      clear hb9 c20 c18 HB8 hp8
      go_wp2_with fail
      refine Calls.mono (getB w1.heap.size w1.heap.size l7 _ hp9.bld HB9.out.size) ?_
      rintro e w10 ⟨rfl, hb10⟩
      go_wp2_with fail
      go_ret
      refine ⟨rfl, ?_⟩
      have h1 := HB1.out.2
      have h2 := HU.out.2.2.1
      have h3 : w0.heap.size ≤ w1.heap.size := h1.size
      exact h2.trans ((h1.trans ((HB9.out.trans hb10).mono h3)).mono h2.size)
end Go.Proofs.YtkmoakfphfakoaaGreat
