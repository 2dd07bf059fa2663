/-
  Memory: where a slice lies behind an append, and what an append leaves alone. No program.
-/
import Derived.WalkKit
import Derived.WalkSpells
import Derived.WalkLawsBesides
import Derived.Lib.AppendStr
import Derived.Lib.Builder
namespace Go.Proofs.YtkmoakfphfakoaaGreat
open Go.RowKit Go.Lib

/-- Two texts of lists of bytes, one behind the other. -/
theorem mk_append (a b : List UInt8) : (⟨a.toArray⟩ : ByteArray) ++ ⟨b.toArray⟩ = ⟨(a ++ b).toArray⟩ := by
  apply ByteArray.ext
  simp
attribute [go_sem] mk_append
/-- .. as the operation does it, where no bound is near. -/
theorem concat_run (P : Program) (a b : List UInt8) (h : a.length + b.length ≤ 281474976710656) (w : World) :
    (Op.stringOp .add ⟨a.toArray⟩ ⟨b.toArray⟩).run P w = .ok (.string ⟨(a ++ b).toArray⟩) w := by
  have h1 : ¬ (((⟨a.toArray⟩ : ByteArray).size + (⟨b.toArray⟩ : ByteArray).size : Nat) : Int) > IntKind.i64.max := by
    have : IntKind.i64.max = 9223372036854775807 := by decide
    simp [this, ← ByteArray.size_data] at *
    omega
  rw [Op.stringOp]
  simp only [if_neg h1, mk_append]
  rfl
theorem data_append (a b : ByteArray) : (a ++ b).data.toList = a.data.toList ++ b.data.toList := by simp

/-- A slice's own row is the old one's, or a new block. -/
def WhereOf (w : World) (v v' : Value) : Prop := v'.ownBlock = v.ownBlock ∨ ∃ g, v'.ownBlock = some g ∧ w.heap.size ≤ g

section
variable {P : Program} (w : World)

theorem append_where {base : Nat} {t ty e : TypeId} {i : TypeInfo} {z : Value} {size bytes : Nat} (ht : P.underlying t = some (.slice e)) (hi : P.info? e = some i) (hz : i.zero = some z)
    (hsize : i.size = size) (hby : i.bytes = bytes) {v : Value} {n : Nat} {xs : List Value} (hown : w.ownsRow base e size v n xs)
    {a : Addr} {m c : Nat} {news : List Value} (hl : news.length = m * size) (hnews : ∀ j u, news[j]? = some u → w.cell? (a.add j) = some u) (h1 : ∀ u ∈ news, u.oneCell' = true)
    (h63 : n + m ≤ maxLen) (hbytes : (n + m) * bytes ≤ 140737488355328) {v' : Value} {w' : World} (hr : (Builtin.append_ #[t, t] ty #[v, .slice (some a) m c]).run P w = .ok v' w')
    (hn : v' = .slice none 0 0 ↔ v = .slice none 0 0 ∧ m = 0) : WhereOf w v v' := by
  subst hsize
  subst hby
  simp only [maxLen] at h63
  rcases hown.2 with ⟨rfl, rfl⟩ | ⟨g, cap, cur, rfl, hbg, hg, hnc, hcm, hcs, htake⟩
  · by_cases hm : m = 0
    · rw [hn.2 ⟨rfl, hm⟩]; exact .inl rfl
    · rw [run_append_nil (P := P) w t ty e i z ht hi hz a m c news hl hnews (by omega) (by omega) (by have hb := hbytes; simp only [Nat.zero_add] at hb; omega)] at hr
      cases hr
      exact .inr ⟨_, rfl, Nat.le_refl _⟩
  · by_cases hroom : n + m ≤ cap
    · rw [run_append_room (P := P) w t ty e i ht hi g n cap cur hg a m c news hl hnews h1 hroom (by rw [hl, hcs, ← Nat.add_mul]; exact Nat.mul_le_mul_right _ hroom)] at hr
      cases hr
      exact .inl rfl
    · rw [run_append_grow (P := P) w t ty e i z ht hi hz ⟨g, 0, none⟩ n cap xs hown.1 (hown.cells (g := g) rfl) a m c news hl hnews (by omega) (by omega) (growslice_fits (by omega) hbytes)] at hr
      cases hr
      exact .inr ⟨_, rfl, Nat.le_refl _⟩

theorem append_string_where {base : Nat} {t u ty e : TypeId} {i : TypeInfo} (ht : P.underlying t = some (.slice e)) (hu : P.underlying u = some .string) (hi : P.info? e = some i) (hz : i.zero = some (.int .u8 0))
    (hsize : i.size = 1) (hby : i.bytes = 1) {v : Value} {n : Nat} {xs : List Value} (hown : w.ownsRow base e 1 v n xs) {s : ByteArray}
    (h63 : n + s.size ≤ maxLen) (hbytes : n + s.size ≤ 140737488355328) {v' : Value} {w' : World} (hr : (Builtin.append_ #[t, u] ty #[v, .string s]).run P w = .ok v' w')
    (hn : v' = .slice none 0 0 ↔ v = .slice none 0 0 ∧ s.size = 0) : WhereOf w v v' := by
  simp only [maxLen] at h63
  have hxl : xs.length = n := by simpa using hown.1
  rcases hown.2 with ⟨rfl, rfl⟩ | ⟨g, cap, cur, rfl, hbg, hg, hnc, hcm, hcs, htake⟩
  · by_cases hm : s.size = 0
    · rw [hn.2 ⟨rfl, hm⟩]; exact .inl rfl
    · rw [run_append_nil_string (P := P) w t u ty e i (.int .u8 0) ht hu hi hz s (by omega) (by omega) (by rw [hby]; omega)] at hr
      cases hr
      exact .inr ⟨_, rfl, Nat.le_refl _⟩
  · by_cases hroom : n + s.size ≤ cap
    · have hcs' : cur.size = cap := by simpa using hcs
      rw [run_append_room_string (P := P) w t u ty e i ht hu hi hsize g n cap cur hg s hroom (by omega)] at hr
      cases hr
      exact .inl rfl
    · rw [run_append_grow_string (P := P) w t u ty e i (.int .u8 0) ht hu hi hz ⟨g, 0, none⟩ n cap xs (by rw [hsize]; simpa using hxl) (hown.cells (g := g) rfl) s (by omega) (by omega) (by rw [hby]; exact growslice_fits (by omega) (by omega))] at hr
      cases hr
      exact .inr ⟨_, rfl, Nat.le_refl _⟩

/-- append(s, xs...) on a row of one's own, and where it then lies. -/
theorem wpList_append_at {ops : Array Oper} {rest : List Oper} {o : Oper} {a : Act} {Q : Exit → Act → World → Prop} (hgd : o.guard = none) (s x : Operand) (t : TypeId)
    (ho : o.op = .call { callee := .builtin .append, args := #[s, x], argTypes := #[t, t] })
    (base : Nat) (e : TypeId) (i : TypeInfo) (z : Value) (size bytes : Nat) (ht : P.underlying t = some (.slice e)) (hi : P.info? e = some i) (hz : i.zero = some z)
    (hsize : i.size = size) (hby : i.bytes = bytes) (hzs : z.cells.size = size) (hsz : 0 < size)
    (v : Value) (n : Nat) (xs : List Value) (hs : a.eval s = v) (hown : w.ownsRow base e size v n xs)
    (ad : Addr) (m c : Nat) (news : List Value) (hx : a.eval x = .slice (some ad) m c) (hl : news.length = m * size) (hnews : ∀ j u, news[j]? = some u → w.cell? (ad.add j) = some u) (h1 : ∀ u ∈ news, u.oneCell' = true)
    (h63 : n + m ≤ maxLen) (hbytes : (n + m) * bytes ≤ 140737488355328) (hbase : base ≤ w.heap.size)
    (h : ∀ v' w', w'.ownsRow base e size v' (n + m) (xs ++ news) → w.grownBy w' v.ownBlock → (v' = .slice none 0 0 ↔ v = .slice none 0 0 ∧ m = 0) → WhereOf w v v' → wpList P ops Q rest (a.put o.dst v') w') : wpList P ops Q (o :: rest) a w := by
  refine wpList_plain hgd fun K hK => ?_
  obtain ⟨v', w', hr, h2, h3, h4⟩ := run_append_own (P := P) w base t o.type e i z size bytes ht hi hz hsize hby hzs hsz v n xs hown ad m c news hl hnews h1 h63 hbytes hbase
  have h5 := append_where (P := P) w ht hi hz hsize hby hown hl hnews h1 h63 hbytes hr h4
  unfold Oper.wp execOp
  simp only [ho, resolve, invoke, builtin, Sem.run_bind, Sem.run_pure, Result.andThen_ok, List.map_toArray, List.map_cons, List.map_nil, hs, hx, hr]
  exact hK _ _ (h v' w' h2 h3 h4 h5)

/-- append(b, s...) of a string's bytes, and where it then lies. -/
theorem wpList_append_string_at {ops : Array Oper} {rest : List Oper} {o : Oper} {a : Act} {Q : Exit → Act → World → Prop} (hgd : o.guard = none) (sl x : Operand) (t u : TypeId)
    (ho : o.op = .call { callee := .builtin .append, args := #[sl, x], argTypes := #[t, u] })
    (base : Nat) (e : TypeId) (i : TypeInfo) (ht : P.underlying t = some (.slice e)) (hu : P.underlying u = some .string) (hi : P.info? e = some i) (hz : i.zero = some (.int .u8 0))
    (hsize : i.size = 1) (hby : i.bytes = 1)
    (v : Value) (n : Nat) (xs : List Value) (hs : a.eval sl = v) (hown : w.ownsRow base e 1 v n xs) (s : ByteArray) (hx : a.eval x = .string s)
    (h63 : n + s.size ≤ maxLen) (hbytes : n + s.size ≤ 140737488355328) (hbase : base ≤ w.heap.size)
    (h : ∀ v' w', w'.ownsRow base e 1 v' (n + s.size) (xs ++ strCells s) → w.grownBy w' v.ownBlock → (v' = .slice none 0 0 ↔ v = .slice none 0 0 ∧ s.size = 0) → WhereOf w v v' → wpList P ops Q rest (a.put o.dst v') w') : wpList P ops Q (o :: rest) a w := by
  refine wpList_plain hgd fun K hK => ?_
  obtain ⟨v', w', hr, h2, h3, h4⟩ := run_append_own_string (P := P) w base t u o.type e i ht hu hi hz hsize hby v n xs hown s h63 hbytes hbase
  have h5 := append_string_where (P := P) w ht hu hi hz hsize hby hown h63 hbytes hr h4
  unfold Oper.wp execOp
  simp only [ho, resolve, invoke, builtin, Sem.run_bind, Sem.run_pure, Result.andThen_ok, List.map_toArray, List.map_cons, List.map_nil, hs, hx, hr]
  exact hK _ _ (h v' w' h2 h3 h4 h5)
end

/-! ## What a builder at block b may touch -/
/-- Block k is neither the builder's own nor its bytes'. -/
def Apart (b k : Nat) (w : World) : Prop := k ≠ b ∧ ∀ v, w.cell? ⟨b, 1, none⟩ = some v → v.ownBlock ≠ some k
/-- All blocks apart from it lie as they lay, and stay apart. -/
def Keeps (b : Nat) (w w' : World) : Prop := w.heap.size ≤ w'.heap.size ∧ ∀ k, k < w.heap.size → Apart b k w → w'.heap[k]? = w.heap[k]? ∧ Apart b k w'
theorem Keeps.refl (b : Nat) (w : World) : Keeps b w w := ⟨Nat.le_refl _, fun _ _ h => ⟨rfl, h⟩⟩
theorem Keeps.trans {b : Nat} {w w' w'' : World} (h : Keeps b w w') (h' : Keeps b w' w'') : Keeps b w w'' :=
  ⟨Nat.le_trans h.1 h'.1, fun k hk ha => let r := h.2 k hk ha; let r' := h'.2 k (Nat.lt_of_lt_of_le hk h.1) r.2; ⟨r'.1.trans r.1, r'.2⟩⟩
theorem Keeps.cell {b : Nat} {w w' : World} (h : Keeps b w w') {p : Addr} (hk : p.block < w.heap.size) (ha : Apart b p.block w) : w'.cell? p = w.cell? p := World.cell?_of_block (h.2 _ hk ha).1
theorem Apart.of_cell {b k : Nat} {w w' : World} (h : Apart b k w) (hc : w'.cell? ⟨b, 1, none⟩ = w.cell? ⟨b, 1, none⟩) : Apart b k w' := ⟨h.1, fun v hv => h.2 v (hc ▸ hv)⟩
/-- What touches nothing that was there keeps all. -/
theorem Keeps.of_below {b : Nat} {w w' : World} (hb : b < w.heap.size) (h : Below w.heap.size w w') : Keeps b w w' :=
  ⟨h.size, fun k hk ha => ⟨h.block k hk, ha.of_cell (h.cell (p := ⟨b, 1, none⟩) hb)⟩⟩
/-- The store of what an append gave into a builder's second cell. -/
theorem Keeps.put {b T : Nat} {w1 wa w2 : World} {p0 v v' : Value} (hbk : w1.heap[b]? = some (.cells #[p0, v] T (0, 0))) (hsz : w1.heap.size ≤ wa.heap.size) (hold : ∀ k, k < w1.heap.size → wa.heap[k]? = w1.heap[k]?)
    (hg : wa.grownBy w2 v.ownBlock) (hne : v.ownBlock ≠ some b) (hwh : WhereOf wa v v') (hb : b < w1.heap.size) : Keeps b w1 (w2.setCell ⟨b, 1, none⟩ v') := by
  have hc1 : w1.cell? ⟨b, 1, none⟩ = some v := by rw [Lib.cell_of_heap hbk]; rfl
  have hb2 : w2.heap[b]? = some (.cells #[p0, v] T (0, 0)) := by rw [hg.block b (by omega) (fun e => hne e.symm), hold b hb]; exact hbk
  have hc2 : w2.cell? ⟨b, 1, none⟩ = some v := by rw [Lib.cell_of_heap hb2]; rfl
  refine ⟨by have := hg.size; simp [World.setCell]; omega, fun k hk ha => ⟨?_, ha.1, fun u hu => ?_⟩⟩
  · rw [Below.heap_setCell _ _ _ _ ha.1, hg.block k (by omega) (fun e => ha.2 v hc1 e.symm), hold k hk]
  · rw [World.cell?_setCell_same' _ _ _ (by rw [hc2]; rfl)] at hu
    cases hu
    rcases hwh with h | ⟨g, h, hge⟩
    · rw [h]; exact ha.2 v hc1
    · rw [h]; intro e; cases e; omega
end Go.Proofs.YtkmoakfphfakoaaGreat
