/- The theorems that the claim uses, text behind text (part 22). -/
import Derived.Test.YtlleandelcjhjaaDoorZaq
import Derived.Test.YtlleandelcjhjaaDoorZat
set_option maxRecDepth 100000
set_option linter.unusedVariables false
set_option linter.unusedSimpArgs false
namespace Go.Proofs.YtlleandelcjhjaaDoor.RmWrX
open Go Go.RowKit Go.Proofs.YtlleandelcjhjaaDoor.K Go.Proofs.YtlleandelcjhjaaDoor.EqKit Go.Proofs.YtlleandelcjhjaaDoor.ArrKit Go.Proofs.YtlleandelcjhjaaDoor.HeldKit Go.Proofs.YtlleandelcjhjaaDoor.GKit Go.Proofs.YtlleandelcjhjaaDoor.GRow Go.Proofs.YtlleandelcjhjaaDoor.DiskKit Go.Proofs.YtlleandelcjhjaaDoor.RmKit Go.Proofs.YtlleandelcjhjaaDoor.MapKit Go.Proofs.YtlleandelcjhjaaDoor.RmRight Go.Proofs.YtlleandelcjhjaaDoor.RmRRight Go.Proofs.YtlleandelcjhjaaDoor.RmTab Go.Proofs.YtlleandelcjhjaaDoor.RmPut Go.Proofs.YtlleandelcjhjaaDoor.RmAsk Go.Proofs.YtlleandelcjhjaaDoor.RmSame Go.Proofs.YtlleandelcjhjaaDoor.DiskRRead Go.Proofs.YtlleandelcjhjaaDoor.RmRead Go.Proofs.YtlleandelcjhjaaDoor.RmReads Go.Proofs.YtlleandelcjhjaaDoor.DiskAct Go.Proofs.YtlleandelcjhjaaDoor.DiskLay Go.Proofs.YtlleandelcjhjaaDoor.RmSpare Go.Proofs.YtlleandelcjhjaaDoor.RmKeep Go.Proofs.YtlleandelcjhjaaDoor.RmAliveP
theorem flushD_S (d : Dk) : (flushD d).S.length = d.S.length := by
  unfold flushD
  split
  · rfl
  · split
    · rw [(actD_S2 d).1]
    · show (laid _ _ _ _).length = _
      rw [laid_len, (actD_S2 d).1]
theorem flushD_C (d : Dk) : (flushD d).C.length ≤ d.C.length := by
  unfold flushD
  split
  · omega
  · split
    · rw [(actD_S2 d).2]; omega
    · show ([] : List Wri).length ≤ _
      simp
theorem flushD_C0 {d : Dk} (h : flushE d = 0) : (flushD d).C = [] := by
  unfold flushE at h
  unfold flushD
  split
  · rename_i h1; rw [if_pos h1] at h; cases h
  · rename_i h1
    rw [if_neg h1] at h
    rw [if_neg (by omega)]
    rfl
theorem wf_small {x : Int} (h0 : 0 ≤ x) (h1 : x ≤ 4611686018427387905) : (Lit.int .i64 x).wf = true := by
  simp [Lit.wf, IntKind.min, IntKind.max, IntKind.signed, IntKind.bits]; omega
theorem spareR_ok {m : Rm} {b : List UInt8} (hb : b.length = 128) : ∀ (k : Nat) (q : Int) (d : Dk), d.ok → 0 ≤ q → q + k ≤ 5000 → (spareR m b k q d).2.2.ok ∧ (spareR m b k q d).2.2.S.length = d.S.length ∧ (spareR m b k q d).2.2.C.length ≤ d.C.length + k ∧ 0 ≤ (spareR m b k q d).1 ∧ (spareR m b k q d).1 ≤ q + k ∧ ((spareR m b k q d).2.1 = 0 → q ≤ (spareR m b k q d).1 ∧ (spareR m b k q d).1 < q + k ∧ m.ps.any (fun p => p.2 == (spareR m b k q d).1) = false)
  | 0, q, d, h, h0, h1 => ⟨h, rfl, by show d.C.length ≤ _; omega, by show (0 : Int) ≤ 0; omega, by show (0 : Int) ≤ _; omega, fun e => by cases e⟩
  | k + 1, q, d, h, h0, h1 => by
    rw [spareR]
    split
    · obtain ⟨a1, a2, a3, a4, a5, a6⟩ := spareR_ok hb k (q + 1) d h (by omega) (by omega)
      exact ⟨a1, a2, by omega, a4, by omega, fun e => by obtain ⟨b1, b2, b3⟩ := a6 e; exact ⟨by omega, by omega, b3⟩⟩
    · rename_i hu
      split
      · obtain ⟨a1, a2, a3, a4, a5, a6⟩ := spareR_ok hb k (q + 1) (writeD d q b) (writeD_ok h hb (wf_small h0 (by omega))) (by omega) (by omega)
        have h3 := writeD_C d q b
        rw [writeD_S] at a2
        exact ⟨a1, a2, by omega, a4, by omega, fun e => by obtain ⟨b1, b2, b3⟩ := a6 e; exact ⟨by omega, by omega, b3⟩⟩
      · have h3 := writeD_C d q b
        exact ⟨writeD_ok h hb (wf_small h0 (by omega)), by rw [writeD_S], by show (writeD d q b).C.length ≤ _; omega, h0, by show q ≤ _; omega, fun _ => ⟨by show q ≤ q; omega, by show q < _; omega, Bool.eq_false_iff.2 hu⟩⟩
theorem keepX_ok {d : Dk} {m : Rm} (h : d.ok) : (keepX d m).2.ok ∧ (keepX d m).2.S.length = d.S.length ∧ (keepX d m).2.C.length ≤ d.C.length + 2 := by
  unfold keepX
  split
  · rename_i ht
    have hp := tab_parts ht
    have hl := half_lo hp.1
    have hL := tabL_len m hp.2.2.2.1
    have o1 := writeD_ok h hL (wf_small (x := m.gen % 2) (by omega) (by omega))
    have o2 := writeD_ok o1 hL (wf_small (x := half (d.S.length : Int) + m.gen % 2) (by omega) (by omega))
    have c1 := writeD_C d (m.gen % 2) (tabL m)
    have c2 := writeD_C (writeD d (m.gen % 2) (tabL m)) (half (d.S.length : Int) + m.gen % 2) (tabL m)
    split
    · exact ⟨o1, by rw [writeD_S], by show (writeD _ _ _).C.length ≤ _; omega⟩
    · split
      · exact ⟨o2, by rw [writeD_S, writeD_S], by show (writeD _ _ _).C.length ≤ _; omega⟩
      · split
        · exact ⟨o2, by rw [writeD_S, writeD_S], by show (writeD _ _ _).C.length ≤ _; omega⟩
        · have c3 := flushD_C (writeD (writeD d (m.gen % 2) (tabL m)) (half (d.S.length : Int) + m.gen % 2) (tabL m))
          exact ⟨flushD_ok o2, by rw [flushD_S, writeD_S, writeD_S], by show (flushD _).C.length ≤ _; omega⟩
  · exact ⟨h, rfl, by show d.C.length ≤ _; omega⟩
/-- a table with another sector for one -/
def nextM (m : Rm) (n to : Int) : Rm := if plc m n < 0 then ⟨m.gen + 1, m.ps ++ [(n, to)]⟩ else ⟨m.gen + 1, m.ps.set (plc m n).toNat (n, to)⟩
theorem plc_cases (m : Rm) (n : Int) : (plc m n = -1 ∧ ∀ x ∈ m.ps, (x.1 == n) = false) ∨ ∃ k : Nat, ∃ hk : k < m.ps.length, plc m n = k ∧ m.ps[k].1 = n ∧ ∀ q (hq : q < k), ((m.ps[q]'(by omega)).1 == n) = false := by
  rcases idxI_cases (fun p => p.1 == n) m.ps with h | ⟨k, hk, h1, h2, h3⟩
  · exact .inl h
  · exact .inr ⟨k, hk, h1, by simpa using h2, h3⟩
theorem nextM_no {m : Rm} {n : Int} (to : Int) (h : plc m n < 0) : nextM m n to = ⟨m.gen + 1, m.ps ++ [(n, to)]⟩ := by unfold nextM; rw [if_pos h]
theorem nextM_at {m : Rm} {n : Int} {k : Nat} (to : Int) (h : plc m n = k) : nextM m n to = ⟨m.gen + 1, m.ps.set k (n, to)⟩ := by unfold nextM; rw [if_neg (by omega), h]; rfl
theorem nextM_ok {m : Rm} {n to : Int} (h : m.ok) (hn : (Lit.int .i64 n).wf = true) (ht : (Lit.int .i64 to).wf = true) (hg : (Lit.int .i64 (m.gen + 1)).wf = true) : (nextM m n to).ok := by
  unfold nextM
  split
  · refine ⟨hg, fun x hx => ?_⟩
    simp only [List.mem_append, List.mem_cons, List.not_mem_nil, or_false] at hx
    rcases hx with hx | rfl
    · exact h.p x hx
    · exact ⟨hn, ht⟩
  · refine ⟨hg, fun x hx => ?_⟩
    rcases List.mem_or_eq_of_mem_set hx with hx | rfl
    · exact h.p x hx
    · exact ⟨hn, ht⟩
theorem nextM_gen (m : Rm) (n to : Int) : (nextM m n to).gen = m.gen + 1 := by unfold nextM; split <;> rfl
theorem nextM_len (m : Rm) (n to : Int) : (nextM m n to).ps.length ≤ m.ps.length + 1 := by
  unfold nextM; split
  · simp
  · simp
theorem asked_parts {d : Dk} {m : Rm} {n : Int} (h : askedB d m n = true) : tabB m (d.S.length : Int) = true ∧ usableB n (half (d.S.length : Int)) = true ∧ hvI d = half (d.S.length : Int) ∧ formedB d = true ∧ half (d.S.length : Int) ≠ 0 := by
  unfold askedB at h
  simp only [Bool.and_eq_true] at h
  have h2 := (tab_parts h.2).1
  have h1 := h.1
  unfold hvI at h1 ⊢
  split at h1
  · rename_i hf
    exact ⟨h.2, h1, by rw [if_pos hf], hf, h2⟩
  · simp [usableB] at h1
def spX (d : Dk) (m : Rm) (n : Int) (b : List UInt8) : Int × Int × Dk := spareR m b 20 (2 * half (d.S.length : Int)) (writeD d (atI m n) b)
/-- what Write does: its error, the disk, the table -/
def wrX (d : Dk) (m : Rm) (n : Int) (b : List UInt8) : Int × Dk × Rm :=
  if askedB d m n = false then (1, d, m) else
  if writeE d (atI m n) ≠ 2 then (writeE d (atI m n), writeD d (atI m n) b, m) else
  if (spX d m n b).2.1 ≠ 0 then ((spX d m n b).2.1, (spX d m n b).2.2, m) else
  if plc m n < 0 ∧ m.ps.length = 20 then (17, (spX d m n b).2.2, m) else
  if flushE (spX d m n b).2.2 ≠ 0 then (flushE (spX d m n b).2.2, flushD (spX d m n b).2.2, m) else
  if (keepX (flushD (spX d m n b).2.2) (nextM m n (spX d m n b).1)).1 ≠ 0 then ((keepX (flushD (spX d m n b).2.2) (nextM m n (spX d m n b).1)).1, (keepX (flushD (spX d m n b).2.2) (nextM m n (spX d m n b).1)).2, m) else
  (0, (keepX (flushD (spX d m n b).2.2) (nextM m n (spX d m n b).1)).2, nextM m n (spX d m n b).1)
theorem wrX_no {d : Dk} {m : Rm} {n : Int} {b : List UInt8} (h : askedB d m n = false) : wrX d m n b = (1, d, m) := by unfold wrX; rw [if_pos h]
section
variable {d d1 d2 : Dk} {m : Rm} {n q to e : Int} {b : List UInt8} (h : askedB d m n = true) (hq : atI m n = q)
include h hq
theorem wrX_1 (h1 : writeE d q ≠ 2) : wrX d m n b = (writeE d q, writeD d q b, m) := by
  subst hq
  unfold wrX; rw [if_neg (by simp [h]), if_pos h1]
variable (h1 : writeE d q = 2) (hs : spareR m b 20 (2 * half (d.S.length : Int)) (writeD d q b) = (to, e, d2))
include h1 hs
theorem wrX_2 (h2 : e ≠ 0) : wrX d m n b = (e, d2, m) := by
  subst hq
  have hs' : spX d m n b = (to, e, d2) := hs
  unfold wrX; rw [hs', if_neg (by simp [h]), if_neg (by omega), if_pos h2]
theorem wrX_3 (h2 : e = 0) (h3 : plc m n < 0 ∧ m.ps.length = 20) : wrX d m n b = (17, d2, m) := by
  subst hq
  have hs' : spX d m n b = (to, e, d2) := hs
  unfold wrX; rw [hs', if_neg (by simp [h]), if_neg (by omega), if_neg (by show ¬ e ≠ 0; omega), if_pos h3]
theorem wrX_4 (h2 : e = 0) (h3 : ¬ (plc m n < 0 ∧ m.ps.length = 20)) (h4 : flushE d2 ≠ 0) : wrX d m n b = (flushE d2, flushD d2, m) := by
  subst hq
  have hs' : spX d m n b = (to, e, d2) := hs
  unfold wrX; rw [hs', if_neg (by simp [h]), if_neg (by omega), if_neg (by show ¬ e ≠ 0; omega), if_neg h3, if_pos h4]
theorem wrX_5 (h2 : e = 0) (h3 : ¬ (plc m n < 0 ∧ m.ps.length = 20)) (h4 : flushE d2 = 0) (h5 : (keepX (flushD d2) (nextM m n to)).1 ≠ 0) : wrX d m n b = ((keepX (flushD d2) (nextM m n to)).1, (keepX (flushD d2) (nextM m n to)).2, m) := by
  subst hq
  have hs' : spX d m n b = (to, e, d2) := hs
  unfold wrX; rw [hs', if_neg (by simp [h]), if_neg (by omega), if_neg (by show ¬ e ≠ 0; omega), if_neg h3, if_neg (by show ¬ flushE d2 ≠ 0; omega), if_pos h5]
theorem wrX_6 (h2 : e = 0) (h3 : ¬ (plc m n < 0 ∧ m.ps.length = 20)) (h4 : flushE d2 = 0) (h5 : (keepX (flushD d2) (nextM m n to)).1 = 0) : wrX d m n b = (0, (keepX (flushD d2) (nextM m n to)).2, nextM m n to) := by
  subst hq
  have hs' : spX d m n b = (to, e, d2) := hs
  unfold wrX; rw [hs', if_neg (by simp [h]), if_neg (by omega), if_neg (by show ¬ e ≠ 0; omega), if_neg h3, if_neg (by show ¬ flushE d2 ≠ 0; omega), if_neg (by show ¬ (keepX (flushD d2) (nextM m n to)).1 ≠ 0; omega)]
end
end Go.Proofs.YtlleandelcjhjaaDoor.RmWrX
