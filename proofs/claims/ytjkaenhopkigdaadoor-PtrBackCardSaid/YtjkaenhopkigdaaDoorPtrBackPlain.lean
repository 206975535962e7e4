/- What is put, or laid as a node, is taken as it was: the plain law. -/
import Derived.Test.YtjkaenhopkigdaaDoorPtrNodeLaw
import Derived.Test.YtjkaenhopkigdaaDoorPtrOwn
set_option linter.unusedVariables false
set_option linter.unusedSimpArgs false
namespace Go.Proofs.YtjkaenhopkigdaaDoor.PtrBackPlain
open Go Go.RowKit Go.Proofs.YtjkaenhopkigdaaDoor.K Go.Proofs.YtjkaenhopkigdaaDoor.EqKit Go.Proofs.YtjkaenhopkigdaaDoor.PtrKit Go.Proofs.YtjkaenhopkigdaaDoor.ArrKit Go.Proofs.YtjkaenhopkigdaaDoor.HeldKit Go.Proofs.YtjkaenhopkigdaaDoor.PtrAsk Go.Proofs.YtjkaenhopkigdaaDoor.ShaStep Go.Proofs.YtjkaenhopkigdaaDoor.ShaRef Go.Proofs.YtjkaenhopkigdaaDoor.ShaSum Go.Proofs.YtjkaenhopkigdaaDoor.PtrOf Go.Proofs.YtjkaenhopkigdaaDoor.PtrAlive Go.Proofs.YtjkaenhopkigdaaDoor.PtrRFit Go.Proofs.YtjkaenhopkigdaaDoor.PtrNode Go.Proofs.YtjkaenhopkigdaaDoor.PtrParts Go.Proofs.YtjkaenhopkigdaaDoor.PtrNodeLaw Go.Proofs.YtjkaenhopkigdaaDoor.PtrTake Go.Proofs.YtjkaenhopkigdaaDoor.PtrPut Go.Proofs.YtjkaenhopkigdaaDoor.PtrOwn Go.Proofs.YtjkaenhopkigdaaDoor.WordPut Go.Proofs.YtjkaenhopkigdaaDoor.WordTake Go.Proofs.YtjkaenhopkigdaaDoor.RefCopy

theorem num_le (k : Nat) : ∀ x, num (le x k) = x % 256 ^ k := by
  induction k with
  | zero => intro x; simp [le, num, Nat.mod_one]
  | succ k ih =>
    intro x
    simp only [le, num, ih, UInt8.toNat_ofNat']
    rw [show (256 : Nat) ^ (k + 1) = 256 * 256 ^ k by rw [Nat.pow_succ, Nat.mul_comm], Nat.mod_mul]
theorem rangeR {v : V3} (h : v.right = true) : (v.a = -1 ∨ (0 ≤ v.a ∧ v.a < 4096)) ∧ (v.b = -1 ∨ (0 ≤ v.b ∧ v.b < 4096)) := by
  simp only [V3.right, rightB, isH, secB, Bool.or_eq_true, Bool.and_eq_true, decide_eq_true_eq] at h
  omega
theorem dec_enc {n : Int} (h : n = -1 ∨ (0 ≤ n ∧ n < 4096)) : dec (num (le (enc n) 4)) = n := by
  rw [num_le]
  unfold dec enc
  rcases h with rfl | h
  · rfl
  · have p4 : (256 : Nat) ^ 4 = 4294967296 := by decide
    rw [if_neg (show ¬ n = -1 by omega), p4, Nat.mod_eq_of_lt (by omega), if_neg (by omega)]
    omega
theorem tk_by {v : V3} (hr : v.right = true) (hok : v.ok) : tkA v.by = v.a ∧ tkB v.by = v.b ∧ tkS v.by = v.s := by
  obtain ⟨h1, h2⟩ := rangeR hr
  have l1 : (le (enc v.a) 4).length = 4 := by simp
  have l2 : (le (enc v.b) 4).length = 4 := by simp
  refine ⟨?_, ?_, ?_⟩
  · rw [tkA, V3.by, PB, List.take_left' l1, dec_enc h1]
  · rw [tkB, V3.by, PB, List.drop_left' l1, List.take_left' l2, dec_enc h2]
  · have e : (le (enc v.a) 4 ++ (le (enc v.b) 4 ++ v.s)).drop 8 = ((le (enc v.a) 4 ++ (le (enc v.b) 4 ++ v.s)).drop 4).drop 4 := by rw [List.drop_drop]
    rw [tkS, V3.by, PB, e, List.drop_left' l1, List.drop_left' l2]
theorem tkR_by {v : V3} (hr : v.right = true) (hok : v.ok) : tkR v.by = true := by
  obtain ⟨h1, h2, h3⟩ := tk_by hr hok
  rw [tkR, h1, h2, h3]; exact hr
theorem part_node {ls : List V3} (h : ∀ v ∈ ls, v.ok) {i : Nat} (hi : i < 3) : PtrParts.part (nodeL ls) i = (el ls i).by := by
  have l0 := V3.by_length (el_ok h 0)
  have l1 := V3.by_length (el_ok h 1)
  have l2 := V3.by_length (el_ok h 2)
  unfold PtrParts.part nodeL
  rw [nodeB, nodeB, nodeB, nodeB, List.nil_append, List.append_assoc, List.append_assoc]
  rcases (show i = 0 ∨ i = 1 ∨ i = 2 by omega) with rfl | rfl | rfl
  · rw [Nat.mul_zero, List.drop_zero, List.take_left' l0]
  · rw [Nat.mul_one, List.drop_left' l0, List.take_left' l1]
  · rw [show 40 * 2 = 40 + 40 from rfl, ← List.drop_drop, List.drop_left' l0, List.drop_left' l1, List.take_left' l2]
theorem nodeR_all {ls : List V3} (h : nodeR ls 3 = true) {i : Nat} (hi : i < 3) : (el ls i).right = true := by
  simp only [nodeR, Bool.true_and, Bool.and_eq_true] at h
  rcases (show i = 0 ∨ i = 1 ∨ i = 2 by omega) with rfl | rfl | rfl
  · exact h.1.1
  · exact h.1.2
  · exact h.2
theorem pv_node {ls : List V3} (h : ∀ v ∈ ls, v.ok) (hr : nodeR ls 3 = true) {i : Nat} (hi : i < 3) : pv (nodeL ls) i = el ls i := by
  obtain ⟨h1, h2, h3⟩ := tk_by (nodeR_all hr hi) (el_ok h i)
  unfold pv
  rw [part_node h hi, h1, h2, h3]
theorem parts_node {ls : List V3} (h : ∀ v ∈ ls, v.ok) (hr : nodeR ls 3 = true) : partsOK (nodeL ls) = true := by
  have e : ∀ i, i < 3 → tkR (PtrParts.part (nodeL ls) i) = true := fun i hi => by
    rw [part_node h hi]; exact tkR_by (nodeR_all hr hi) (el_ok h i)
  have hd : (nodeL ls).drop 120 = List.replicate 8 0 := by
    rw [nodeL, List.drop_left' (by rw [nodeB_length h])]
  rw [partsOK, hd, partsR, partsR, partsR, partsR, e 0 (by omega), e 1 (by omega), e 2 (by omega)]
  rfl
theorem partsL_node {ls : List V3} (h : ∀ v ∈ ls, v.ok) (hr : nodeR ls 3 = true) : partsL (nodeL ls) 3 = (el ls 0).pc ++ ((el ls 1).pc ++ (el ls 2).pc) := by
  rw [partsL, partsL, partsL, partsL, pv_node h hr (by omega), pv_node h hr (by omega), pv_node h hr (by omega), List.nil_append, List.append_assoc]
theorem splice_part {l m : List UInt8} {p : Nat} (h : p + m.length ≤ l.length) : ((splice l p m).drop p).take m.length = m := by
  unfold splice
  rw [List.append_assoc, List.drop_left' (by rw [List.length_take, Nat.min_eq_left (by omega)]), List.take_left' rfl]

end Go.Proofs.YtjkaenhopkigdaaDoor.PtrBackPlain
