/- What the row of SpaceNever wants. -/
import Derived.Test.YtpbhnpoldjdfdaaNeverLaw
set_option linter.unusedVariables false
set_option linter.unusedSimpArgs false
namespace Go.Proofs.Ytpbhnpoldjdfdaa.RowSpace
open Go Go.RowKit Go.Proofs.Ytpbhnpoldjdfdaa.K Go.Proofs.Ytpbhnpoldjdfdaa.EqKit Go.Proofs.Ytpbhnpoldjdfdaa.ArrKit Go.Proofs.Ytpbhnpoldjdfdaa.HeldKit Go.Proofs.Ytpbhnpoldjdfdaa.GKit Go.Proofs.Ytpbhnpoldjdfdaa.GRow Go.Proofs.Ytpbhnpoldjdfdaa.SpKit Go.Proofs.Ytpbhnpoldjdfdaa.SpAsk Go.Proofs.Ytpbhnpoldjdfdaa.NeverKit Go.Proofs.Ytpbhnpoldjdfdaa.NeverLaw

theorem rdu_of {w : World} {a : Option Addr} {l : List UInt8} (h : Rd w a l) : RdU w a l := fun i hi => by
  obtain ⟨b, o, e, -, hc⟩ := Rd.form h (Nat.lt_of_le_of_lt (Nat.zero_le _) hi)
  refine ⟨b, o, e, fun j u hj => ?_⟩
  have hj0 : j = 0 := by
    have := (List.getElem?_eq_some_iff.1 hj).1
    simp only [List.length_cons, List.length_nil] at this
    omega
  subst hj0
  rw [Nat.mul_one, Nat.add_zero, hc i hi, ← hj]
  rfl
theorem never_any (l : List UInt8) (a : Option Addr) (n c : Nat) (w : World) (hl : l.length = n) (hr : Rd w a l) (hc : n ≤ c) (hm : c ≤ 9223372036854775807) : Calls Try.prog 3 #[.slice a n c] w fun e w' => e = .returned (.bool true) ∧ Fr0 w w' := by
  subst hl
  by_cases h : 300 < l.length
  · exact never_long l a c w h (by omega)
  · exact never_all l a c w (by omega) (rdu_of hr) hc

end Go.Proofs.Ytpbhnpoldjdfdaa.RowSpace
