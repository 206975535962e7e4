/- A table that is laid is taken as it was: the plain law. -/
import Derived.Test.YtlleandelcjhjaaDoorRmTake
set_option maxRecDepth 100000
set_option linter.unusedVariables false
set_option linter.unusedSimpArgs false
namespace Go.Proofs.YtlleandelcjhjaaDoor.RmTakePut
open Go Go.RowKit Go.Proofs.YtlleandelcjhjaaDoor.K Go.Proofs.YtlleandelcjhjaaDoor.EqKit Go.Proofs.YtlleandelcjhjaaDoor.ArrKit Go.Proofs.YtlleandelcjhjaaDoor.HeldKit Go.Proofs.YtlleandelcjhjaaDoor.GKit Go.Proofs.YtlleandelcjhjaaDoor.GRow Go.Proofs.YtlleandelcjhjaaDoor.DiskKit Go.Proofs.YtlleandelcjhjaaDoor.RmKit Go.Proofs.YtlleandelcjhjaaDoor.MapKit Go.Proofs.YtlleandelcjhjaaDoor.RmRight Go.Proofs.YtlleandelcjhjaaDoor.RmRRight Go.Proofs.YtlleandelcjhjaaDoor.RmTab Go.Proofs.YtlleandelcjhjaaDoor.RmPut Go.Proofs.YtlleandelcjhjaaDoor.RmTake Go.Proofs.YtlleandelcjhjaaDoor.WordPut Go.Proofs.YtlleandelcjhjaaDoor.WordTake Go.Proofs.YtlleandelcjhjaaDoor.RefWord Go.Proofs.YtlleandelcjhjaaDoor.ShaPlain Go.Proofs.YtlleandelcjhjaaDoor.ShaSum Go.Proofs.YtlleandelcjhjaaDoor.ShaStep Go.Proofs.YtlleandelcjhjaaDoor.ShaRef Go.Proofs.YtlleandelcjhjaaDoor.ShaPad

theorem num_le (k : Nat) : ∀ x, num (le x k) = x % 256 ^ k := by
  induction k with
  | zero => intro x; simp [le, num, Nat.mod_one]
  | succ k ih =>
    intro x
    simp only [le, num, ih, UInt8.toNat_ofNat']
    rw [show (256 : Nat) ^ (k + 1) = 256 * 256 ^ k by rw [Nat.pow_succ, Nat.mul_comm], Nat.mod_mul]
theorem mid_take {α : Type} {l A M R : List α} {p k : Nat} (h : l = A ++ (M ++ R)) (hp : A.length = p) (hk : M.length = k) : (l.drop p).take k = M := by
  subst h
  rw [List.drop_left' hp, List.take_left' hk]
theorem tab_pre (m : Rm) (h2 : m.ps.length ≤ 20) : ∃ R, tabL m = pre m m.ps.length ++ R := by
  have e : headB m = pre m m.ps.length ++ (List.replicate (118 - 4 * m.ps.length) 0).take (96 - (pre m m.ps.length).length) := by
    rw [headB, bodyB, List.take_append, List.take_of_length_le (by rw [pre_len m (Nat.le_refl _)]; omega)]
  refine ⟨(List.replicate (118 - 4 * m.ps.length) 0).take (96 - (pre m m.ps.length).length) ++ sumOf (headB m), ?_⟩
  rw [← List.append_assoc, ← e]
  rfl
theorem pre_all (m : Rm) : pre m m.ps.length = hd0 m ++ m.ps.flatMap pb := by rw [pre, List.take_length]
theorem take_put {m : Rm} {s : Int} (h : tabB m s = true) : takX (tabL m) s = m ∧ takE (tabL m) s = 0 := by
  have hp := tab_parts h
  have h2 := hp.2.2.2.1
  obtain ⟨R, hR⟩ := tab_pre m h2
  have hG : takG (tabL m) = m.gen.toNat := by
    unfold takG
    rw [mid_take (A := [109]) (M := le m.gen.toNat 8) (R := [UInt8.ofNat m.ps.length] ++ m.ps.flatMap pb ++ R) (p := 1) (k := 8) (by rw [hR, pre_all, hd0]; simp) rfl (by simp), num_le]
    exact Nat.mod_eq_of_lt (by omega)
  have hK : takK (tabL m) = m.ps.length := by
    have h9 : (tabL m)[9]? = some (UInt8.ofNat m.ps.length) := by
      have e : tabL m = ([109] ++ le m.gen.toNat 8) ++ (UInt8.ofNat m.ps.length :: (m.ps.flatMap pb ++ R)) := by rw [hR, pre_all, hd0]; simp
      rw [e, List.getElem?_append_right (by simp)]
      simp
    unfold takK
    rw [List.getD_eq_getElem?_getD, h9, Option.getD_some, UInt8.toNat_ofNat']
    exact Nat.mod_eq_of_lt (by omega)
  have hpair : ∀ i (hi : i < m.ps.length), takF (tabL m) i = m.ps[i].1.toNat ∧ takT (tabL m) i = m.ps[i].2.toNat := fun i hi => by
    have ht := tab_pair h hi
    have e : pre m m.ps.length = pre m i ++ (le m.ps[i].1.toNat 2 ++ (le m.ps[i].2.toNat 2 ++ (m.ps.drop (i + 1)).flatMap pb)) := by
      have e0 : m.ps = m.ps.take i ++ m.ps[i] :: m.ps.drop (i + 1) := by rw [List.getElem_cons_drop, List.take_append_drop]
      rw [pre_all, pre]
      conv => lhs; rw [e0]
      rw [List.flatMap_append, List.flatMap_cons, pb]
      simp only [List.append_assoc]
    constructor
    · unfold takF
      rw [mid_take (A := pre m i) (M := le m.ps[i].1.toNat 2) (R := le m.ps[i].2.toNat 2 ++ (m.ps.drop (i + 1)).flatMap pb ++ R) (by rw [hR, e]; simp only [List.append_assoc]) (pre_len m (Nat.le_of_lt hi)) (by simp), num_le]
      exact Nat.mod_eq_of_lt (by omega)
    · unfold takT
      rw [mid_take (A := pre m i ++ le m.ps[i].1.toNat 2) (M := le m.ps[i].2.toNat 2) (R := (m.ps.drop (i + 1)).flatMap pb ++ R) (by rw [hR, e]; simp only [List.append_assoc]) (by rw [List.length_append, pre_len m (Nat.le_of_lt hi), le_length]; omega) (by simp), num_le]
      exact Nat.mod_eq_of_lt (by omega)
  have hM : takM (tabL m) = m := by
    have hPs : takP (tabL m) = m.ps := by
      apply List.ext_getElem
      · rw [takP_len, hK]
      · intro i hi hi2
        rw [takP_get]
        have ht := tab_pair h hi2
        have hq := hpair i hi2
        rw [hq.1, hq.2]
        exact Prod.ext (by show ((m.ps[i].1.toNat : Nat) : Int) = _; omega) (by show ((m.ps[i].2.toNat : Nat) : Int) = _; omega)
    unfold takM
    rw [hPs, hG]
    have hg : ((m.gen.toNat : Nat) : Int) = m.gen := by omega
    rw [hg]
  have hB : takB (tabL m) s = true := by
    unfold takB
    rw [hM, h, hG, hK, decide_eq_true (by omega : m.gen.toNat < 2 ^ 63), decide_eq_true h2, decide_eq_true rfl]
    rfl
  unfold takX takE
  rw [if_pos hB, if_pos hB, hM]
  exact ⟨rfl, rfl⟩

end Go.Proofs.YtlleandelcjhjaaDoor.RmTakePut
