/- The reference's ways to choose and to vote are the program's, on 32 bits. -/
import Derived.Test.YtjkaenhopkigdaaDoorShaStep
set_option linter.unusedVariables false
set_option linter.unusedSimpArgs false
namespace Go.Proofs.YtjkaenhopkigdaaDoor.ShaPlain
open Go Go.RowKit Go.Proofs.YtjkaenhopkigdaaDoor.K Go.Proofs.YtjkaenhopkigdaaDoor.ShaStep

theorem maj_eq (a b c : Nat) : (a &&& b) ^^^ (a &&& c) ^^^ (b &&& c) = maj a b c := Nat.eq_of_testBit_eq fun i => by
  simp only [maj, Nat.testBit_xor, Nat.testBit_and, Nat.testBit_or]
  cases a.testBit i <;> cases b.testBit i <;> cases c.testBit i <;> rfl
theorem not_bit {e : Nat} (he : e < 4294967296) (i : Nat) : (4294967295 - e).testBit i = (decide (i < 32) && !e.testBit i) := by
  have := Nat.testBit_two_pow_sub_succ (x := e) (n := 32) he i
  rw [← this]
  congr 1
  omega
theorem ch_eq {e f g : Nat} (he : e < 4294967296) (hg : g < 4294967296) : (e &&& f) ^^^ ((4294967295 - e) &&& g) = ch e f g := Nat.eq_of_testBit_eq fun i => by
  simp only [ch, Nat.testBit_xor, Nat.testBit_and, not_bit he]
  by_cases hi : i < 32
  · simp only [hi, decide_true, Bool.true_and]
    cases e.testBit i <;> cases f.testBit i <;> cases g.testBit i <;> rfl
  · have h1 : g.testBit i = false := Nat.testBit_lt_two_pow (Nat.lt_of_lt_of_le hg (Nat.pow_le_pow_right (n := 2) (by decide) (show 32 ≤ i by omega)))
    have h2 : e.testBit i = false := Nat.testBit_lt_two_pow (Nat.lt_of_lt_of_le he (Nat.pow_le_pow_right (n := 2) (by decide) (show 32 ≤ i by omega)))
    simp [hi, h1, h2]

end Go.Proofs.YtjkaenhopkigdaaDoor.ShaPlain
