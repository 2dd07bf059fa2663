/-
  '==' of arrays of eight ints.
-/
import Derived.Test.YtkmoakfphfakoaaGreatProg
import Derived.WalkKit
import Derived.WalkSpells
import Derived.WalkLawsBesides
import Derived.Laws.StructEq
import Derived.KernelRfl
namespace Go.Proofs.YtkmoakfphfakoaaGreat
open Go.RowKit

def eq8 (p0 p1 p2 p3 p4 p5 p6 p7 q0 q1 q2 q3 q4 q5 q6 q7 : Int) : Bool := p0 == q0 && (p1 == q1 && (p2 == q2 && (p3 == q3 && (p4 == q4 && (p5 == q5 && (p6 == q6 && p7 == q7))))))

theorem size_int (w : World) : (sizeOf 3).run Tryz.prog w = .ok 1 w := by kernel_rfl

theorem run_eq8 (d : Nat) (p0 p1 p2 p3 p4 p5 p6 p7 q0 q1 q2 q3 q4 q5 q6 q7 : Int) (w : World) :
    (Op.equalIn (d + 2) 22 (.agg #[.int .i64 p0, .int .i64 p1, .int .i64 p2, .int .i64 p3, .int .i64 p4, .int .i64 p5, .int .i64 p6, .int .i64 p7]) (.agg #[.int .i64 q0, .int .i64 q1, .int .i64 q2, .int .i64 q3, .int .i64 q4, .int .i64 q5, .int .i64 q6, .int .i64 q7])).run Tryz.prog w
      = .ok (eq8 p0 p1 p2 p3 p4 p5 p6 p7 q0 q1 q2 q3 q4 q5 q6 q7) w := by
  have e : ∀ a b : Int, (Op.equalIn (d + 1) 3 (.int .i64 a) (.int .i64 b)).run Tryz.prog w = .ok (a == b) w := fun a b => run_equalIn_int w d _ _ _ a b Tryz.underlying3
  have pt : ∀ (xs : Array Value) (k : Nat), (part 3 xs k).run Tryz.prog w = match xs[k]? with | some v => .ok v w | none => (part 3 xs k).run Tryz.prog w := fun xs k => by
    cases h : xs[k]? with
    | none => rfl
    | some v => simp [part, sizeOf, h]
  rw [show d + 2 = (d + 1) + 1 from rfl, Op.equalIn]
  simp only [Sem.run_bind, run_underlying Tryz.underlying22, Result.andThen_ok, size_int]
  simp [List.range'_succ, pt, e]
  by_cases h0 : p0 = q0
  rotate_left
  · simp [eq8, h0]
  by_cases h1 : p1 = q1
  rotate_left
  · simp [eq8, h1, h0]
  by_cases h2 : p2 = q2
  rotate_left
  · simp [eq8, h2, h0, h1]
  by_cases h3 : p3 = q3
  rotate_left
  · simp [eq8, h3, h0, h1, h2]
  by_cases h4 : p4 = q4
  rotate_left
  · simp [eq8, h4, h0, h1, h2, h3]
  by_cases h5 : p5 = q5
  rotate_left
  · simp [eq8, h5, h0, h1, h2, h3, h4]
  by_cases h6 : p6 = q6
  rotate_left
  · simp [eq8, h6, h0, h1, h2, h3, h4, h5]
  by_cases h7 : p7 = q7
  rotate_left
  · simp [eq8, h7, h0, h1, h2, h3, h4, h5, h6]
  simp [eq8, h0, h1, h2, h3, h4, h5, h6, h7]
attribute [go_sem] run_eq8

def eqH (k : Int) (s : ByteArray) (n p0 p1 p2 p3 p4 p5 p6 p7 : Int) (k' : Int) (s' : ByteArray) (n' q0 q1 q2 q3 q4 q5 q6 q7 : Int) : Bool := k == k' && (s.toList == s'.toList && (n == n' && eq8 p0 p1 p2 p3 p4 p5 p6 p7 q0 q1 q2 q3 q4 q5 q6 q7))

set_option maxHeartbeats 1000000 in
theorem run_eqH (d : Nat) (k : Int) (s : ByteArray) (n p0 p1 p2 p3 p4 p5 p6 p7 : Int) (k' : Int) (s' : ByteArray) (n' q0 q1 q2 q3 q4 q5 q6 q7 : Int) (w : World) :
    (Op.equalIn (d + 3) 24 (.agg #[.int .i64 k, .string s, .int .i64 n, .int .i64 p0, .int .i64 p1, .int .i64 p2, .int .i64 p3, .int .i64 p4, .int .i64 p5, .int .i64 p6, .int .i64 p7]) (.agg #[.int .i64 k', .string s', .int .i64 n', .int .i64 q0, .int .i64 q1, .int .i64 q2, .int .i64 q3, .int .i64 q4, .int .i64 q5, .int .i64 q6, .int .i64 q7])).run Tryz.prog w
      = .ok (eqH k s n p0 p1 p2 p3 p4 p5 p6 p7 k' s' n' q0 q1 q2 q3 q4 q5 q6 q7) w := by
  rw [run_equalIn_struct w (d + 2) 24 _ _ (by kernel_rfl) (by kernel_rfl)]
  simp [go_sem, Program.fieldsOf, Tryz.underlying24]
  unfold eqH
  by_cases h1 : k = k'
  rotate_left
  · simp [h1]
  by_cases h2 : s.toList = s'.toList
  rotate_left
  · simp [h1, h2]
  by_cases h3 : n = n'
  rotate_left
  · simp [h1, h2, h3]
  cases h8 : eq8 p0 p1 p2 p3 p4 p5 p6 p7 q0 q1 q2 q3 q4 q5 q6 q7 <;> simp [h1, h2, h3]
end Go.Proofs.YtkmoakfphfakoaaGreat
