/-
  Walks, part T: url.opaque, url.Web, url.May.
-/
import Derived.Test.YtkmoakfphfakoaaGreatS
set_option linter.unusedVariables false
set_option linter.unusedSimpArgs false
namespace Go.Proofs.YtkmoakfphfakoaaGreat
open Go.RowKit Go.Shelf
attribute [local go_sem] Oper.semAt_some

def sHttp : List UInt8 := [104, 116, 116, 112]
def sHttps : List UInt8 := [104, 116, 116, 112, 115]
def webP (l : List UInt8) : Nat := if l == sHttp then 80 else if l == sHttps then 443 else 0
def isOpq (l : List UInt8) : Bool := l == [97, 98, 111, 117, 116] || l == [100, 97, 116, 97] || l == [98, 108, 111, 98]

set_option maxRecDepth 100000 in
set_option maxHeartbeats 1000000 in
theorem Web_any (s : ByteArray) (w : World) :
    Calls Tryz.prog 21 #[.string s] w fun e w' => e = .returned (.int .i64 (webP s.data.toList)) ∧ w' = w := by
  unfold webP
  rw [← Lib.toList_data]
  obtain ⟨a, ha⟩ : ∃ a, (s.toList == sHttp) = a := ⟨_, rfl⟩
  obtain ⟨b, hb⟩ : ∃ b, (s.toList == sHttps) = b := ⟨_, rfl⟩
  rw [ha, hb]
  cases a <;> cases b
  all_goals
    unfold sHttp at ha
    unfold sHttps at hb
    go_enter Tryz.func21, Tryz.ntmps21
    go_wp2_with fail
    go_ret
    exact ⟨rfl, rfl⟩

set_option maxRecDepth 100000 in
set_option maxHeartbeats 1000000 in
theorem opq_any (s : ByteArray) (w : World) :
    Calls Tryz.prog 33 #[.string s] w fun e w' => e = .returned (.bool (isOpq s.data.toList)) ∧ Below w.heap.size w w' := by
  go_enter Tryz.func33, Tryz.ntmps33
  go_wp2_with fail
  refine Calls.mono (Tryz.slices_Contains_string w.heap.size 0 3 3 [⟨#[97, 98, 111, 117, 116]⟩, ⟨#[100, 97, 116, 97]⟩, ⟨#[98, 108, 111, 98]⟩] s _ (by decide) (by omega) (fun j hj => ?_)) ?_
  · match j, hj with
    | 0, _ => simp
    | 1, _ => simp
    | 2, _ => simp
  rintro e w1 ⟨rfl, rfl⟩
  go_wp2_with fail
  go_ret
  refine ⟨?_, (Below.refl _ w).alloc (Nat.le_refl _) _⟩
  have hz : Lib.containsS ([(⟨#[97, 98, 111, 117, 116]⟩ : ByteArray), ⟨#[100, 97, 116, 97]⟩, ⟨#[98, 108, 111, 98]⟩].take 3) s = isOpq s.data.toList := by
    have hb : ∀ l : List UInt8, (s = ⟨l.toArray⟩) ↔ s.data.toList = l := fun l => by
      constructor
      · rintro rfl; simp
      · intro h; rw [← h]
    rw [Bool.eq_iff_iff, Lib.containsS_iff]
    have h1 := hb [97, 98, 111, 117, 116]
    have h2 := hb [100, 97, 116, 97]
    have h3 := hb [98, 108, 111, 98]
    simp only [isOpq, Bool.or_eq_true, beq_iff_eq, ← h1, ← h2, ← h3]
    simp [or_assoc]
  rw [← hz]; rfl

/-- An address. -/
structure Url where
  sch : ByteArray
  usr : ByteArray
  pwd : ByteArray
  k : Int
  nm : ByteArray
  num : Int
  p0 : Int
  p1 : Int
  p2 : Int
  p3 : Int
  p4 : Int
  p5 : Int
  p6 : Int
  p7 : Int
  port : Int
  A : Option Addr
  segs : List ByteArray
  cap : Nat
  opq : ByteArray
  qry : ByteArray
  frg : ByteArray
  hq : Bool
  hf : Bool
abbrev Url.cells (u : Url) : Array Value := #[.string u.sch, .string u.usr, .string u.pwd, .int .i64 u.k, .string u.nm, .int .i64 u.num, .int .i64 u.p0, .int .i64 u.p1, .int .i64 u.p2, .int .i64 u.p3, .int .i64 u.p4, .int .i64 u.p5, .int .i64 u.p6, .int .i64 u.p7, .int .i64 u.port, .slice u.A u.segs.length u.cap, .string u.opq, .string u.qry, .string u.frg, .bool u.hq, .bool u.hf]
abbrev Url.val (u : Url) : Value := .agg u.cells
structure Url.Ok (u : Url) (w : World) : Prop where
  sch : u.sch.size ≤ 1000000
  usr : u.usr.size ≤ 1000000
  pwd : u.pwd.size ≤ 1000000
  nm : u.nm.size ≤ 1000000
  num : (Lit.int .i64 u.num).wf = true
  port : (Lit.int .i64 u.port).wf = true
  segs : ∀ s ∈ u.segs, s.size ≤ 1000000
  len : u.segs.length ≤ 1000000
  opq : u.opq.size ≤ 1000000
  qry : u.qry.size ≤ 1000000
  frg : u.frg.size ≤ 1000000
  strs : Strs w u.A u.segs
  deep : Deep w
theorem Url.Ok.below {u : Url} {w w' : World} (h : u.Ok w) (hb : Below w.heap.size w w') : u.Ok w' := { h with strs := h.strs.below hb, deep := h.deep.below hb }
abbrev Url.hostmay (u : Url) : Bool := hmay u.k u.nm u.num u.p0 u.p1 u.p2 u.p3 u.p4 u.p5 u.p6 u.p7
def Url.tails (u : Url) : Bool := ready 2 u.qry.data.toList && ready 1 u.frg.data.toList && (u.hq || u.qry.toList.isEmpty) && (u.hf || u.frg.toList.isEmpty)
def Url.mayO (u : Url) : Bool := ready 1 u.opq.data.toList && !Lib.containsAny u.opq.data.toList [63, 35] && u.port == -1 && eqH u.k u.nm u.num u.p0 u.p1 u.p2 u.p3 u.p4 u.p5 u.p6 u.p7 0 ⟨#[]⟩ 0 0 0 0 0 0 0 0 0 && u.usr.toList.isEmpty && u.pwd.toList.isEmpty && u.segs.isEmpty
def Url.mayW (u : Url) : Bool := decide (0 < webP u.sch.data.toList) && u.hostmay && ready 4 u.usr.data.toList && ready 4 u.pwd.data.toList && pmay u.segs && u.opq.toList.isEmpty && decide (-1 ≤ u.port) && decide (u.port ≤ 65535) && u.port != webP u.sch.data.toList
def Url.may (u : Url) : Bool := u.tails && (if isOpq u.sch.data.toList then u.mayO else u.mayW)

/-- An address lies whole at block b. -/
def UAt (u : Url) (b : Nat) (w : World) : Prop := w.heap[b]? = some (.cells u.cells 27 (0, 0))
theorem UAt.new (u : Url) (w : World) : UAt u w.heap.size (w.alloc (.cells u.cells 27)) := World.alloc_heap_new w _
theorem UAt.lt {u : Url} {b : Nat} {w : World} (h : UAt u b w) : b < w.heap.size := (Array.getElem?_eq_some_iff.1 h).1
theorem UAt.below {u : Url} {b : Nat} {w w' : World} (h : UAt u b w) (hb : Below w.heap.size w w') : UAt u b w' := (hb.block b h.lt).trans h
theorem UAt.cell {u : Url} {b : Nat} {w : World} (h : UAt u b w) (j : Nat) : w.cell? ⟨b, j, none⟩ = u.cells[j]? := Lib.cell_of_heap h j

/-- What url.May's walk has at hand, in every world that keeps w0's blocks. -/
structure UM (u : Url) (b : Nat) (w0 : World) (r2 r1 oq ro ca hm ru rp pm : Bool) (wb : Int) : Prop where
  c0 : ∀ Wx, Below w0.heap.size w0 Wx → Wx.cell? ⟨b, 0, none⟩ = some (.string u.sch)
  c1 : ∀ Wx, Below w0.heap.size w0 Wx → Wx.cell? ⟨b, 1, none⟩ = some (.string u.usr)
  c2 : ∀ Wx, Below w0.heap.size w0 Wx → Wx.cell? ⟨b, 2, none⟩ = some (.string u.pwd)
  c3 : ∀ Wx, Below w0.heap.size w0 Wx → Wx.cell? ⟨b, 3, none⟩ = some (.int .i64 u.k)
  c4 : ∀ Wx, Below w0.heap.size w0 Wx → Wx.cell? ⟨b, 4, none⟩ = some (.string u.nm)
  c5 : ∀ Wx, Below w0.heap.size w0 Wx → Wx.cell? ⟨b, 5, none⟩ = some (.int .i64 u.num)
  c6 : ∀ Wx, Below w0.heap.size w0 Wx → Wx.cell? ⟨b, 6, none⟩ = some (.int .i64 u.p0)
  c7 : ∀ Wx, Below w0.heap.size w0 Wx → Wx.cell? ⟨b, 7, none⟩ = some (.int .i64 u.p1)
  c8 : ∀ Wx, Below w0.heap.size w0 Wx → Wx.cell? ⟨b, 8, none⟩ = some (.int .i64 u.p2)
  c9 : ∀ Wx, Below w0.heap.size w0 Wx → Wx.cell? ⟨b, 9, none⟩ = some (.int .i64 u.p3)
  c10 : ∀ Wx, Below w0.heap.size w0 Wx → Wx.cell? ⟨b, 10, none⟩ = some (.int .i64 u.p4)
  c11 : ∀ Wx, Below w0.heap.size w0 Wx → Wx.cell? ⟨b, 11, none⟩ = some (.int .i64 u.p5)
  c12 : ∀ Wx, Below w0.heap.size w0 Wx → Wx.cell? ⟨b, 12, none⟩ = some (.int .i64 u.p6)
  c13 : ∀ Wx, Below w0.heap.size w0 Wx → Wx.cell? ⟨b, 13, none⟩ = some (.int .i64 u.p7)
  c14 : ∀ Wx, Below w0.heap.size w0 Wx → Wx.cell? ⟨b, 14, none⟩ = some (.int .i64 u.port)
  c15 : ∀ Wx, Below w0.heap.size w0 Wx → Wx.cell? ⟨b, 15, none⟩ = some (.slice u.A u.segs.length u.cap)
  c16 : ∀ Wx, Below w0.heap.size w0 Wx → Wx.cell? ⟨b, 16, none⟩ = some (.string u.opq)
  c17 : ∀ Wx, Below w0.heap.size w0 Wx → Wx.cell? ⟨b, 17, none⟩ = some (.string u.qry)
  c18 : ∀ Wx, Below w0.heap.size w0 Wx → Wx.cell? ⟨b, 18, none⟩ = some (.string u.frg)
  c19 : ∀ Wx, Below w0.heap.size w0 Wx → Wx.cell? ⟨b, 19, none⟩ = some (.bool u.hq)
  c20 : ∀ Wx, Below w0.heap.size w0 Wx → Wx.cell? ⟨b, 20, none⟩ = some (.bool u.hf)
  kr2 : ∀ Wx, Below w0.heap.size w0 Wx → Calls Tryz.prog 32 #[.string u.qry, .int .i64 2] Wx fun e w' => e = .returned (.bool r2) ∧ Below w0.heap.size w0 w'
  kr1 : ∀ Wx, Below w0.heap.size w0 Wx → Calls Tryz.prog 32 #[.string u.frg, .int .i64 1] Wx fun e w' => e = .returned (.bool r1) ∧ Below w0.heap.size w0 w'
  koq : ∀ Wx, Below w0.heap.size w0 Wx → Calls Tryz.prog 33 #[.string u.sch] Wx fun e w' => e = .returned (.bool oq) ∧ Below w0.heap.size w0 w'
  kro : ∀ Wx, Below w0.heap.size w0 Wx → Calls Tryz.prog 32 #[.string u.opq, .int .i64 1] Wx fun e w' => e = .returned (.bool ro) ∧ Below w0.heap.size w0 w'
  kca : ro = true → ∀ Wx, Below w0.heap.size w0 Wx → Calls Tryz.prog 34 #[.string u.opq, .string ⟨#[63, 35]⟩] Wx fun e w' => e = .returned (.bool ca) ∧ Below w0.heap.size w0 w'
  khm : ∀ Wx, Below w0.heap.size w0 Wx → Calls Tryz.prog 35 #[hostV u.k u.nm u.num u.p0 u.p1 u.p2 u.p3 u.p4 u.p5 u.p6 u.p7] Wx fun e w' => e = .returned (.bool hm) ∧ Below w0.heap.size w0 w'
  kru : ∀ Wx, Below w0.heap.size w0 Wx → Calls Tryz.prog 32 #[.string u.usr, .int .i64 4] Wx fun e w' => e = .returned (.bool ru) ∧ Below w0.heap.size w0 w'
  krp : ∀ Wx, Below w0.heap.size w0 Wx → Calls Tryz.prog 32 #[.string u.pwd, .int .i64 4] Wx fun e w' => e = .returned (.bool rp) ∧ Below w0.heap.size w0 w'
  kpm : ∀ Wx, Below w0.heap.size w0 Wx → Calls Tryz.prog 36 #[.slice u.A u.segs.length u.cap] Wx fun e w' => e = .returned (.bool pm) ∧ Below w0.heap.size w0 w'
  kwb : ∀ Wx, Calls Tryz.prog 21 #[.string u.sch] Wx fun e w' => e = .returned (.int .i64 wb) ∧ w' = Wx

theorem UM.of {u : Url} {w0 : World} {b : Nat} (hU : UAt u b w0) (hu : u.Ok w0) :
    UM u b w0 (ready 2 u.qry.data.toList) (ready 1 u.frg.data.toList) (isOpq u.sch.data.toList) (ready 1 u.opq.data.toList) (Lib.containsAny u.opq.data.toList [63, 35]) u.hostmay (ready 4 u.usr.data.toList) (ready 4 u.pwd.data.toList) (pmay u.segs) ((webP u.sch.data.toList : Nat) : Int) where
  c0 := fun Wx h => ((hU.below h).cell 0).trans rfl
  c1 := fun Wx h => ((hU.below h).cell 1).trans rfl
  c2 := fun Wx h => ((hU.below h).cell 2).trans rfl
  c3 := fun Wx h => ((hU.below h).cell 3).trans rfl
  c4 := fun Wx h => ((hU.below h).cell 4).trans rfl
  c5 := fun Wx h => ((hU.below h).cell 5).trans rfl
  c6 := fun Wx h => ((hU.below h).cell 6).trans rfl
  c7 := fun Wx h => ((hU.below h).cell 7).trans rfl
  c8 := fun Wx h => ((hU.below h).cell 8).trans rfl
  c9 := fun Wx h => ((hU.below h).cell 9).trans rfl
  c10 := fun Wx h => ((hU.below h).cell 10).trans rfl
  c11 := fun Wx h => ((hU.below h).cell 11).trans rfl
  c12 := fun Wx h => ((hU.below h).cell 12).trans rfl
  c13 := fun Wx h => ((hU.below h).cell 13).trans rfl
  c14 := fun Wx h => ((hU.below h).cell 14).trans rfl
  c15 := fun Wx h => ((hU.below h).cell 15).trans rfl
  c16 := fun Wx h => ((hU.below h).cell 16).trans rfl
  c17 := fun Wx h => ((hU.below h).cell 17).trans rfl
  c18 := fun Wx h => ((hU.below h).cell 18).trans rfl
  c19 := fun Wx h => ((hU.below h).cell 19).trans rfl
  c20 := fun Wx h => ((hU.below h).cell 20).trans rfl
  kr2 := fun Wx h => (Ready_any u.qry 2 Wx (by have := hu.qry; omega)).mono fun e w' ⟨he, hb⟩ => ⟨he, h.trans (hb.mono h.size)⟩
  kr1 := fun Wx h => (Ready_any u.frg 1 Wx (by have := hu.frg; omega)).mono fun e w' ⟨he, hb⟩ => ⟨he, h.trans (hb.mono h.size)⟩
  koq := fun Wx h => (opq_any u.sch Wx).mono fun e w' ⟨he, hb⟩ => ⟨he, h.trans (hb.mono h.size)⟩
  kro := fun Wx h => (Ready_any u.opq 1 Wx (by have := hu.opq; omega)).mono fun e w' ⟨he, hb⟩ => ⟨he, h.trans (hb.mono h.size)⟩
  kca := fun hr Wx h => (Tryz.strings_ContainsAny_laid u.opq ⟨#[63, 35]⟩ Wx (by have := hu.opq; omega) (by show 2 < _; omega) (fun j c hc => by
      have hm : c ∈ u.opq.data.toList := List.mem_of_getElem? hc
      have := List.all_eq_true.1 hr c hm
      simp [inSet, inBase] at this
      omega) (fun j c hc => by
      match j, hc with
      | 0, hc => simp at hc; subst hc; decide
      | 1, hc => simp at hc; subst hc; decide)).mono fun e w' ⟨he, hb⟩ => ⟨he, h.trans (hb.mono h.size)⟩
  khm := fun Wx h => (HMay_any u.k u.nm (by have := hu.nm; omega) u.num u.p0 u.p1 u.p2 u.p3 u.p4 u.p5 u.p6 u.p7 hu.num Wx ((hu.below h).deep)).mono fun e w' ⟨he, hb⟩ => ⟨he, h.trans (hb.mono h.size)⟩
  kru := fun Wx h => (Ready_any u.usr 4 Wx (by have := hu.usr; omega)).mono fun e w' ⟨he, hb⟩ => ⟨he, h.trans (hb.mono h.size)⟩
  krp := fun Wx h => (Ready_any u.pwd 4 Wx (by have := hu.pwd; omega)).mono fun e w' ⟨he, hb⟩ => ⟨he, h.trans (hb.mono h.size)⟩
  kpm := fun Wx h => (PMay_any u.A u.segs u.cap Wx ((hu.below h).strs) hu.segs (by have := hu.len; omega)).mono fun e w' ⟨he, hb⟩ => ⟨he, h.trans (hb.mono h.size)⟩
  kwb := fun Wx => Web_any u.sch Wx

set_option maxRecDepth 100000 in
set_option maxHeartbeats 4000000 in
theorem UMay_tails (u : Url) (w w0 : World) (hw0 : w.alloc (.cells u.cells 27) = w0) {r2 r1 oq ro ca hm ru rp pm : Bool} {wb : Int} (hM : RowKit.Hid (UM u w.heap.size w0 r2 r1 oq ro ca hm ru rp pm wb))
    (hno : (r2 && r1 && (u.hq || u.qry.toList.isEmpty) && (u.hf || u.frg.toList.isEmpty)) = false) :
    Calls Tryz.prog 18 #[u.val] w fun e w' => e = .returned (.bool false) ∧ Below w.heap.size w w' := by
  have hB := Below.refl w0.heap.size w0
  have hb0 : Below w.heap.size w w0 := by rw [← hw0]; exact (Below.refl _ w).alloc (Nat.le_refl _) _
  have c17 := hM.out.c17
  have c18 := hM.out.c18
  have c19 := hM.out.c19
  have c20 := hM.out.c20
  obtain ⟨qe, hqe⟩ : ∃ x, u.qry.toList.isEmpty = x := ⟨_, rfl⟩
  obtain ⟨fe, hfe⟩ : ∃ x, u.frg.toList.isEmpty = x := ⟨_, rfl⟩
  obtain ⟨bq, hbq⟩ : ∃ x, u.hq = x := ⟨_, rfl⟩
  obtain ⟨bf, hbf⟩ : ∃ x, u.hf = x := ⟨_, rfl⟩
  rw [hqe, hfe, hbq, hbf] at hno
  rw [hbq] at c19
  rw [hbf] at c20
  cases r2 with
  | false =>
    clear hno
    go_enter Tryz.func18, Tryz.ntmps18
    go_wp2_with fail
    refine Calls.mono (hM.out.kr2 _ hB) ?_
    rintro e w2 ⟨rfl, hS2⟩
    go_wp2_with fail
    go_ret
    exact ⟨rfl, hb0.trans (hS2.mono hb0.size)⟩
  | true =>
    cases r1 with
    | false =>
      clear hno
      go_enter Tryz.func18, Tryz.ntmps18
      go_wp2_with fail
      refine Calls.mono (hM.out.kr2 _ hB) ?_
      rintro e w2 ⟨rfl, hS2⟩
      go_wp2_with fail
      refine Calls.mono (hM.out.kr1 _ hS2) ?_
      rintro e w1 ⟨rfl, hS1⟩
      go_wp2_with fail
      go_ret
      exact ⟨rfl, hb0.trans (hS1.mono hb0.size)⟩
    | true =>
      cases bq <;> cases qe
      case false.false =>
        clear hno
        go_enter Tryz.func18, Tryz.ntmps18
        go_wp2_with fail
        refine Calls.mono (hM.out.kr2 _ hB) ?_
        rintro e w2 ⟨rfl, hS2⟩
        go_wp2_with fail
        refine Calls.mono (hM.out.kr1 _ hS2) ?_
        rintro e w1 ⟨rfl, hS1⟩
        go_wp2_with fail
        go_ret
        exact ⟨rfl, hb0.trans (hS1.mono hb0.size)⟩
      all_goals
        cases bf <;> cases fe <;> first | (cases hno; done) | skip
      all_goals
        clear hno
        go_enter Tryz.func18, Tryz.ntmps18
        go_wp2_with fail
        refine Calls.mono (hM.out.kr2 _ hB) ?_
        rintro e w2 ⟨rfl, hS2⟩
        go_wp2_with fail
        refine Calls.mono (hM.out.kr1 _ hS2) ?_
        rintro e w1 ⟨rfl, hS1⟩
        go_wp2_with fail
        go_ret
        exact ⟨rfl, hb0.trans (hS1.mono hb0.size)⟩

end Go.Proofs.YtkmoakfphfakoaaGreat
