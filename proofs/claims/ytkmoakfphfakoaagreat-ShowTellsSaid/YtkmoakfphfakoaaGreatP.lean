/-
  Plain words: what the functions of the layers 1 to 10 compute, on lists of bytes and on numbers. No program, no memory.
-/
import Derived.Lib.Strings
import Derived.Lib.Bytealg
import Derived.Lib.Join
namespace Go.Proofs.YtkmoakfphfakoaaGreat

/-- A fact about all bytes, by looking at each of the 256. -/
theorem byte_all {p : UInt8 → Prop} (h : ∀ n, n < 256 → p (UInt8.ofNat n)) (c : UInt8) : p c := by
  have := h c.toNat c.toNat_lt
  simpa using this

theorem take_all (s : ByteArray) : s.data.toList.take s.size = s.data.toList := List.take_of_length_le (by simp [← ByteArray.size_data])
theorem take_snoc (s : ByteArray) (k : Nat) (h : k < s.size) : s.data.toList.take (k + 1) = s.data.toList.take k ++ [s[k]] := by
  rw [List.take_succ_eq_append_getElem (by simpa [← ByteArray.size_data] using h)]; rfl
theorem get_mem (s : ByteArray) (k : Nat) (h : k < s.size) : s[k] ∈ s.data.toList := by
  show s.data.toList[k]'(by simpa [← ByteArray.size_data] using h) ∈ s.data.toList
  exact List.getElem_mem _
theorem take_len (s : ByteArray) (k : Nat) : (s.data.toList.take k).length ≤ k := List.length_take_le _ _

/-! ## pct: the sets -/
def inBase (c : UInt8) : Bool := decide (c.toNat < 32) || decide (126 < c.toNat)
def set1 : List UInt8 := [32, 34, 60, 62, 96]
def set2 : List UInt8 := [32, 34, 35, 39, 60, 62]
def set3 : List UInt8 := [63, 94, 96, 123, 125]
def set4 : List UInt8 := [47, 58, 59, 61, 64, 91, 92, 93, 124]
def has (l : List UInt8) (c : UInt8) : Bool := decide (0 ≤ Lib.indexByte l c)
def inSet (set : Int) (c : UInt8) : Bool :=
  if set = 0 then inBase c
  else if set = 1 then inBase c || has set1 c
  else if set = 2 then inBase c || has set2 c
  else if set = 3 then (inBase c || has set2 c) || has set3 c
  else if set = 4 then ((inBase c || has set2 c) || has set3 c) || has set4 c
  else false
def hexD : List UInt8 := [48, 49, 50, 51, 52, 53, 54, 55, 56, 57, 65, 66, 67, 68, 69, 70]
def encB (set : Int) (c : UInt8) : List UInt8 := if inSet set c then [37, hexD.getD (c.toNat / 16) 0, hexD.getD (c.toNat % 16) 0] else [c]
def encode (set : Int) (l : List UInt8) : List UInt8 := l.flatMap (encB set)
theorem encB_len (set : Int) (c : UInt8) : (encB set c).length ≤ 3 := by unfold encB; split <;> simp
theorem encode_len (set : Int) (l : List UInt8) : (encode set l).length ≤ 3 * l.length := by
  induction l with
  | nil => simp [encode]
  | cons c r ih => have := encB_len set c; simp only [encode, List.flatMap_cons, List.length_append, List.length_cons] at ih ⊢; omega
theorem encode_snoc (set : Int) (l : List UInt8) (c : UInt8) : encode set (l ++ [c]) = encode set l ++ encB set c := by simp [encode, List.flatMap_append]
def ready (set : Int) (l : List UInt8) : Bool := l.all fun c => !inSet set c
/-- What is encoded to itself is ready: every byte that is encoded takes three. -/
theorem encode_eq (set : Int) (l : List UInt8) : (encode set l == l) = ready set l := by
  have low : ∀ l : List UInt8, l.length ≤ (encode set l).length := by
    intro l
    induction l with
    | nil => simp
    | cons c r ih =>
      simp only [encode, List.flatMap_cons, List.length_append, List.length_cons] at ih ⊢
      have : 1 ≤ (encB set c).length := by unfold encB; split <;> simp
      omega
  induction l with
  | nil => rfl
  | cons c r ih =>
    have e : encode set (c :: r) = encB set c ++ encode set r := by simp [encode]
    rw [e]
    cases h : inSet set c with
    | true =>
      have h1 : ready set (c :: r) = false := by simp [ready, h]
      rw [h1, beq_eq_false_iff_ne]
      intro h2
      have h3 := congrArg List.length h2
      have h4 := low r
      simp [encB, h] at h3
      omega
    | false =>
      have h1 : ready set (c :: r) = ready set r := by simp [ready, h]
      rw [h1, ← ih]
      simp [encB, h]

/-! ## deci -/
def digit (c : UInt8) : Bool := decide (48 ≤ c.toNat) && decide (c.toNat ≤ 57)
def plainD (l : List UInt8) : Bool := !l.isEmpty && l.all digit
theorem join_len (xs : List (List UInt8)) (sep : List UInt8) (m : Nat) (h : ∀ x ∈ xs, x.length ≤ m) : (Lib.join xs sep).length ≤ xs.length * (m + sep.length) := by
  have tail : ∀ r : List (List UInt8), (∀ x ∈ r, x.length ≤ m) → (Lib.joinTail sep r).length ≤ r.length * (m + sep.length) := by
    intro r
    induction r with
    | nil => intro _; simp [Lib.joinTail]
    | cons y r ih =>
      intro hr
      have h1 := ih fun x hx => hr x (List.mem_cons_of_mem _ hx)
      have h2 := hr y (List.mem_cons_self ..)
      simp only [Lib.joinTail, List.map_cons, List.flatten_cons, List.length_append, List.length_cons] at h1 ⊢
      rw [Nat.add_mul]
      omega
  cases xs with
  | nil => simp [Lib.join_nil]
  | cons x r =>
    rw [Lib.join_cons, List.length_append, List.length_cons, Nat.add_mul]
    have h1 := tail r fun y hy => h y (List.mem_cons_of_mem _ hy)
    have h2 := h x (List.mem_cons_self ..)
    omega

/-! ## six -/
def hexLow : List UInt8 := [48, 49, 50, 51, 52, 53, 54, 55, 56, 57, 97, 98, 99, 100, 101, 102]
def hexd (n : Nat) : UInt8 := hexLow.getD n 0
def hexT (n : Nat) : List UInt8 := if _h : 15 < n then hexT (n / 16) ++ [hexd (n % 16)] else [hexd n]
termination_by n
decreasing_by omega
theorem hexT_len (n : Nat) : (hexT n).length ≤ n + 1 := by
  induction n using Nat.strongRecOn with
  | ind n ih =>
    rw [hexT]
    split
    · have := ih (n / 16) (by omega)
      simp; omega
    · simp
theorem hexT_len4 (n : Nat) (h : n ≤ 65535) : (hexT n).length ≤ 4 := by
  rw [hexT]; split
  · rw [hexT]; split
    · rw [hexT]; split
      · rw [hexT]; split
        · omega
        · simp
      · simp
    · simp
  · simp
/-- How many noughts a row begins with. -/
def lz : List Int → Nat
  | [] => 0
  | x :: r => if x = 0 then lz r + 1 else 0
/-- six.Run, round by round: the place and the length of the longest row of noughts so far. -/
def runs (p : List Int) : Nat → Nat × Nat
  | 0 => (0, 1)
  | i + 1 => if (runs p i).2 < lz (p.drop i) then (i, lz (p.drop i)) else runs p i
def runOf (p : List Int) : Nat × Nat := if (runs p 8).2 < 2 then (0, 0) else runs p 8
def mayS (p : List Int) : Bool := p.all fun x => decide (0 ≤ x) && decide (x ≤ 65535)
theorem lz_le (p : List Int) : lz p ≤ p.length := by
  induction p with
  | nil => simp [lz]
  | cons x r ih => simp only [lz]; split <;> simp; omega
theorem lz_of (p : List Int) (k : Nat) (hk : k < p.length) (hz : ∀ (j : Nat) (h : j < k), p[j]'(by omega) = 0) (hn : p[k] ≠ 0) : lz p = k := by
  induction p generalizing k with
  | nil => simp at hk
  | cons x r ih =>
    cases k with
    | zero => simp at hn; simp [lz, hn]
    | succ k =>
      have h0 := hz 0 (by omega)
      simp at h0
      simp only [lz, h0, if_true]
      rw [ih k (by simpa using hk) (fun j h => by simpa using hz (j + 1) (by omega)) (by simpa using hn)]
theorem lz_all (p : List Int) (hz : ∀ (j : Nat) (h : j < p.length), p[j] = 0) : lz p = p.length := by
  induction p with
  | nil => rfl
  | cons x r ih =>
    have h0 := hz 0 (by simp)
    simp at h0
    simp only [lz, h0, if_true, List.length_cons]
    rw [ih fun j h => by have := hz (j + 1) (by simp; omega); simpa using this]
theorem runs_bd (p : List Int) (hp : p.length = 8) (i : Nat) (hi : i ≤ 8) : (runs p i).1 ≤ 8 ∧ (runs p i).2 ≤ 8 ∧ ((runs p i).1 = 0 ∧ (runs p i).2 = 1 ∨ (runs p i).1 + (runs p i).2 ≤ 8) ∧ 1 ≤ (runs p i).2 := by
  induction i with
  | zero => simp [runs]
  | succ i ih =>
    have := ih (by omega)
    simp only [runs]
    split
    · have h := lz_le (p.drop i)
      simp [hp] at h
      simp
      omega
    · exact this
def joinS (p : List Int) : List UInt8 := Lib.join ((p.map Int.toNat).map hexT) [58]
def showS (p : List Int) : List UInt8 :=
  if mayS p then (if (runOf p).2 = 0 then joinS p else joinS (p.take (runOf p).1) ++ [58, 58] ++ joinS (p.drop ((runOf p).1 + (runOf p).2))) else []
theorem runOf_bd (p : List Int) (hp : p.length = 8) : (runOf p).1 + (runOf p).2 ≤ 8 := by
  have := runs_bd p hp 8 (Nat.le_refl _)
  unfold runOf
  split <;> simp <;> omega
theorem mayS_iff (p : List Int) (h : mayS p = true) (j : Nat) (hj : j < p.length) : 0 ≤ p[j] ∧ p[j] ≤ 65535 := by
  have := List.all_eq_true.1 h _ (List.getElem_mem hj)
  simpa using this
/-! ## deci.Show -/
def dig (n : Nat) : UInt8 := UInt8.ofNat (48 + n % 10)
theorem dig_toNat (n : Nat) : (dig n).toNat = 48 + n % 10 := by
  unfold dig
  simp [UInt8.toNat_ofNat']
  omega
/-- The digits, the last one first. -/
def rdec (n : Nat) : List UInt8 := if _h : 10 ≤ n then dig n :: rdec (n / 10) else [dig n]
termination_by n
decreasing_by omega
def dec (n : Nat) : List UInt8 := (rdec n).reverse
theorem rdec_len (n : Nat) : 1 ≤ (rdec n).length ∧ (rdec n).length ≤ n + 1 := by
  induction n using Nat.strongRecOn with
  | ind n ih =>
    rw [rdec]
    split
    · have := ih (n / 10) (by omega)
      simp; omega
    · simp
theorem rdec_ne (n : Nat) (h : n / 10 ≠ 0) : rdec n = dig n :: rdec (n / 10) := by
  rw [rdec]; simp; omega
theorem rdec_eq (n : Nat) (h : n / 10 = 0) : rdec n = [dig n] := by
  rw [rdec]; simp; omega
/-- zs is ys with its first i and its last i turned round. -/
def Turned (ys : List UInt8) (i : Nat) (zs : List UInt8) : Prop :=
  zs.length = ys.length ∧ ∀ j, j < ys.length → zs[j]? = if j < i ∨ ys.length - 1 - i < j then ys[ys.length - 1 - j]? else ys[j]?
theorem Turned.zero (ys : List UInt8) : Turned ys 0 ys := ⟨rfl, fun j hj => by rw [if_neg (by omega)]⟩
theorem Turned.done {ys zs : List UInt8} {i : Nat} (h : Turned ys i zs) (hi : ys.length ≤ 2 * i + 1) : zs = ys.reverse := by
  apply List.ext_getElem?
  intro j
  by_cases hj : j < ys.length
  · rw [h.2 j hj, List.getElem?_reverse hj]
    split
    · rfl
    · have : ys.length - 1 - j = j := by omega
      rw [this]
  · rw [List.getElem?_eq_none (by have := h.1; omega), List.getElem?_eq_none (by simp; omega)]
theorem Turned.step {ys zs : List UInt8} {i : Nat} (h : Turned ys i zs) (hi : 2 * i + 1 < ys.length) (a b : UInt8) (ha : zs[i]? = some a) (hb : zs[ys.length - 1 - i]? = some b) :
    Turned ys (i + 1) ((zs.set i b).set (ys.length - 1 - i) a) := by
  refine ⟨by simpa using h.1, fun j hj => ?_⟩
  have hz := h.1
  have ha' := ha; have hb' := hb
  rw [h.2 i (by omega), if_neg (by omega)] at ha'
  rw [h.2 _ (by omega), if_neg (by omega)] at hb'
  rw [List.getElem?_set]
  split
  · subst_vars
    rw [if_pos (by simp; omega), if_pos (by omega), ← ha']
    congr 1; omega
  · rw [List.getElem?_set]
    split
    · subst_vars
      rw [if_pos (by omega), if_pos (by omega), ← hb']
    · rw [h.2 j hj]
      by_cases hc : j < i ∨ ys.length - 1 - i < j
      · rw [if_pos hc, if_pos (by omega)]
      · rw [if_neg hc, if_neg (by omega)]
/-! ## four -/
def fourL (n : Nat) : List (List UInt8) := [dec (n / 16777216 % 256), dec (n / 65536 % 256), dec (n / 256 % 256), dec (n % 256)]
def fourS (n : Int) : List UInt8 := if 0 ≤ n ∧ n ≤ 4294967295 then Lib.join (fourL n.toNat) [46] else []
theorem rdec_len3 (n : Nat) (h : n < 1000) : (rdec n).length ≤ 3 := by
  rw [rdec]; split
  · rw [rdec]; split
    · rw [rdec]; split
      · omega
      · simp
    · simp
  · simp
theorem dec_len3 (n : Nat) (h : n < 1000) : (dec n).length ≤ 3 := by simpa [dec] using rdec_len3 n h
theorem fourL_len (n : Nat) : ∀ x ∈ fourL n, x.length ≤ 3 := by
  intro x hx
  simp only [fourL, List.mem_cons, List.not_mem_nil, or_false] at hx
  rcases hx with rfl | rfl | rfl | rfl <;> exact dec_len3 _ (by omega)
/-! ## path -/
def pshow (l : List ByteArray) : List UInt8 := l.flatMap fun s => 47 :: s.data.toList
theorem pshow_snoc (l : List ByteArray) (s : ByteArray) : pshow (l ++ [s]) = pshow l ++ 47 :: s.data.toList := by simp [pshow, List.flatMap_append]
theorem pshow_len (l : List ByteArray) (m : Nat) (h : ∀ s ∈ l, s.size ≤ m) : (pshow l).length ≤ l.length * (m + 1) := by
  induction l with
  | nil => simp [pshow]
  | cons x r ih =>
    have h1 := ih fun s hs => h s (List.mem_cons_of_mem _ hs)
    have h2 := h x (List.mem_cons_self ..)
    rw [← ByteArray.size_data] at h2
    simp only [pshow, List.flatMap_cons, List.length_append, List.length_cons, Array.length_toList] at h1 ⊢
    rw [Nat.add_mul]
    omega
theorem range_get (ss : List ByteArray) : (List.range ss.length).map (fun k => ss.getD k ByteArray.empty) = ss := by
  apply List.ext_getElem
  · simp
  · intro i h1 h2
    simp [h2]
end Go.Proofs.YtkmoakfphfakoaaGreat
