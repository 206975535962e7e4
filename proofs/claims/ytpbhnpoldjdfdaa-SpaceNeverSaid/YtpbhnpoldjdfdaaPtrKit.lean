/- Pointers as values, held against each other. -/
import Derived.Test.YtpbhnpoldjdfdaaEqKit
import Derived.Test.YtpbhnpoldjdfdaaKit
import Derived.Test.YtpbhnpoldjdfdaaProg
set_option linter.unusedVariables false
set_option linter.unusedSimpArgs false
namespace Go.Proofs.Ytpbhnpoldjdfdaa.PtrKit
open Go Go.RowKit Go.Proofs.Ytpbhnpoldjdfdaa.K Go.Proofs.Ytpbhnpoldjdfdaa.EqKit

/-- a pointer's cells -/
def PC (a b : Int) (s : List UInt8) : List Value := .int .i64 a :: .int .i64 b :: s.map B
theorem PC_length (a b : Int) (s : List UInt8) : (PC a b s).length = s.length + 2 := by simp [PC]
theorem cells_p : Try.prog.cellsOf 37 = 34 := by kernel_rfl
theorem cells_i : Try.prog.cellsOf 3 = 1 := by kernel_rfl
theorem cells_s : Try.prog.cellsOf 35 = 32 := by kernel_rfl
theorem cells_u : Try.prog.cellsOf 5 = 1 := by kernel_rfl
theorem lits_int {P : Program} {t : TypeId} {k : IntKind} {n : Int} (d : Nat) (ht : P.underlying t = some (.int k)) (hw : (Lit.int k n).wf = true) : P.keyLits (d + 1) t [.int k n] = some [Lit.int k n] := by
  unfold Program.keyLits
  rw [ht]
  simp [hw]
theorem lits_bytes (d : Nat) (s : List UInt8) (hs : s.length = 32) : Try.prog.keyLits (d + 2) 35 (s.map B) = some (s.map fun v => Lit.int .u8 (v.toNat : Int)) := by
  have h := lits_row (k := .u8) d Try.underlying35 Try.underlying5 cells_u cells_s (s.map fun v => (v.toNat : Int)) (by simpa using hs) (fun z hz => by
    obtain ⟨v, -, rfl⟩ := List.mem_map.1 hz
    exact wf_u8 v)
  rw [List.map_map, List.map_map] at h
  exact h
theorem lits_ptr (a b : Int) (s : List UInt8) (hs : s.length = 32) (ha : (Lit.int .i64 a).wf = true) (hb : (Lit.int .i64 b).wf = true) : Try.prog.keyLits 3 37 (PC a b s) = some (Lit.int .i64 a :: Lit.int .i64 b :: s.map fun v => Lit.int .u8 (v.toNat : Int)) := by
  unfold Program.keyLits
  rw [Try.underlying37]
  have h32 : (s.map B).take 32 = s.map B := List.take_of_length_le (by simp; omega)
  simp [PC, cells_p, cells_i, cells_s, hs, h32, lits_int 1 Try.underlying3 ha, lits_int 1 Try.underlying3 hb, lits_bytes 0 s hs]
theorem guard_p : Try.prog.eqGuardType Try.prog.depth 37 = false := by kernel_rfl
/-- two pointers -/
theorem eq_ptr (a b a' b' : Int) (s s' : List UInt8) (hs : s.length = 32) (hs' : s'.length = 32) (ha : (Lit.int .i64 a).wf = true) (hb : (Lit.int .i64 b).wf = true) (ha' : (Lit.int .i64 a').wf = true) (hb' : (Lit.int .i64 b').wf = true) (W : World) :
    (Op.equalIn 10000 37 (.agg (PC a b s).toArray) (.agg (PC a' b' s').toArray)).run Try.prog W = .ok (decide (a = a' ∧ b = b' ∧ s = s')) W := by
  obtain ⟨r, hr, hiff⟩ := run_equalIn_deep 9997 3 37 (by kernel_rfl) W 3 3 (.agg (PC a b s).toArray) (.agg (PC a' b' s').toArray) _ _ (by simp [Value.formed, Try.underlying37, cells_p, PC, hs]) (by simp [Value.formed, Try.underlying37, cells_p, PC, hs']) (lits_ptr a b s hs ha hb) (lits_ptr a' b' s' hs' ha' hb')
  rw [show (10000 : Nat) = 9997 + 3 from rfl, hr]
  congr 1
  rw [Bool.eq_iff_iff, hiff, decide_eq_true_eq]
  constructor
  · intro h
    simp only [List.cons.injEq, Lit.int.injEq, true_and] at h
    exact ⟨h.1, h.2.1, map_inj (fun x y e => UInt8.toNat_inj.1 (by simp only [Lit.int.injEq, true_and] at e; exact Int.ofNat.inj e)) h.2.2⟩
  · rintro ⟨rfl, rfl, rfl⟩; rfl

end Go.Proofs.Ytpbhnpoldjdfdaa.PtrKit
