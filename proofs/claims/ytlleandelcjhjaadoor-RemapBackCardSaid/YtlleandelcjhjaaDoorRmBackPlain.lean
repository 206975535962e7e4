/- What is written by a table is read by it, and all others read as they did: the plain law. -/
import Derived.Test.YtlleandelcjhjaaDoorRmWrite
set_option maxRecDepth 100000
set_option linter.unusedVariables false
set_option linter.unusedSimpArgs false
namespace Go.Proofs.YtlleandelcjhjaaDoor.RmBackPlain
open Go Go.RowKit Go.Proofs.YtlleandelcjhjaaDoor.K Go.Proofs.YtlleandelcjhjaaDoor.EqKit Go.Proofs.YtlleandelcjhjaaDoor.ArrKit Go.Proofs.YtlleandelcjhjaaDoor.HeldKit Go.Proofs.YtlleandelcjhjaaDoor.GKit Go.Proofs.YtlleandelcjhjaaDoor.GRow Go.Proofs.YtlleandelcjhjaaDoor.DiskKit Go.Proofs.YtlleandelcjhjaaDoor.RmKit Go.Proofs.YtlleandelcjhjaaDoor.MapKit Go.Proofs.YtlleandelcjhjaaDoor.RmRight Go.Proofs.YtlleandelcjhjaaDoor.RmRRight Go.Proofs.YtlleandelcjhjaaDoor.RmTab Go.Proofs.YtlleandelcjhjaaDoor.RmPut Go.Proofs.YtlleandelcjhjaaDoor.RmAsk Go.Proofs.YtlleandelcjhjaaDoor.RmSame Go.Proofs.YtlleandelcjhjaaDoor.DiskRRead Go.Proofs.YtlleandelcjhjaaDoor.RmRead Go.Proofs.YtlleandelcjhjaaDoor.RmReads Go.Proofs.YtlleandelcjhjaaDoor.DiskAct Go.Proofs.YtlleandelcjhjaaDoor.DiskLay Go.Proofs.YtlleandelcjhjaaDoor.RmSpare Go.Proofs.YtlleandelcjhjaaDoor.RmKeep Go.Proofs.YtlleandelcjhjaaDoor.RmFirst Go.Proofs.YtlleandelcjhjaaDoor.RmAliveP Go.Proofs.YtlleandelcjhjaaDoor.RmWrX Go.Proofs.YtlleandelcjhjaaDoor.RmWrite

theorem formed_act2 (d : Dk) : formedB (actD d) = formedB d := by
  unfold formedB
  rw [(actD_S2 d).1, (actD_S2 d).2]
theorem formed_wr {d : Dk} {q : Int} {b : List UInt8} (h : formedB d = true) : formedB (writeD d q b) = true := by
  unfold writeD
  split
  · exact h
  · rename_i hr
    split
    · rw [formed_act2]; exact h
    · split
      · rw [formed_act2]; exact h
      · unfold formedB at h ⊢
        show (allThere (actD d).S.length (d.C ++ [⟨q, b⟩]) && decide (1 ≤ (actD d).S.length ∧ (actD d).S.length ≤ 4096)) = true
        rw [(actD_S2 d).1]
        rw [Bool.and_eq_true] at h ⊢
        refine ⟨?_, h.2⟩
        have hr2 : rightB d q = true := by simpa using hr
        unfold rightB at hr2
        rw [Bool.and_eq_true] at hr2
        unfold allThere at h ⊢
        rw [List.all_append, h.1]
        simp [hr2.1]
/-- what a sector reads as, whether the power is there or not -/
def vw (d : Dk) (q : Int) : List UInt8 × Int := match lastAt d.C q with
  | some b => (b, 0)
  | none => if (secAt d q).nr then (Z128, 2) else ((secAt d q).data, 0)
theorem readX_vw (d : Dk) (q : Int) : readX d q = if rightB d q = false then (Z128, 1) else if d.down then (Z128, 3) else vw d q := rfl
theorem vw_same {d d' : Dk} (hS : d'.S = d.S) (hC : d'.C = d.C) (q : Int) : vw d' q = vw d q := by
  unfold vw secAt
  rw [hS, hC]
theorem lastAt_snoc (l : List Wri) (x : Wri) (q : Int) : lastAt (l ++ [x]) q = if x.pos = q then some x.data else lastAt l q := by
  unfold lastAt
  rw [List.foldl_append]
  rfl
theorem writeD_0 {d : Dk} {q : Int} (h : writeE d q = 0) (b : List UInt8) : writeD d q b = { actD d with C := d.C ++ [⟨q, b⟩] } ∧ rightB d q = true ∧ actE d ≠ 3 := by
  unfold writeE at h
  unfold writeD
  split at h
  · cases h
  · rename_i h1
    split at h
    · cases h
    · rename_i h2
      split at h
      · cases h
      · rename_i h3
        rw [if_neg h1, if_neg h2, if_neg h3]
        exact ⟨rfl, by simpa using h1, h2⟩
theorem writeD_2 {d : Dk} {q : Int} (h : writeE d q = 2) (b : List UInt8) : writeD d q b = actD d ∧ rightB d q = true ∧ actE d ≠ 3 := by
  unfold writeE at h
  unfold writeD
  split at h
  · cases h
  · rename_i h1
    split at h
    · cases h
    · rename_i h2
      split at h
      · rename_i h3
        rw [if_neg h1, if_neg h2, if_pos h3]
        exact ⟨rfl, by simpa using h1, h2⟩
      · cases h
theorem act_up {d : Dk} (h : actE d ≠ 3) : d.down = false ∧ (actD d).down = false := by
  unfold actE at h
  split at h
  · exact absurd rfl h
  · rename_i h1
    have h2 : d.down = false := by
      cases hd : d.down with
      | false => rfl
      | true => exact absurd (.inl hd) h1
    have h3 : ¬ d.fuse = 0 := fun e => h1 (.inr e)
    refine ⟨h2, ?_⟩
    unfold actD
    rw [if_neg (by rw [h2]; decide), if_neg h3]
    split <;> exact h2
theorem wr0_C {d : Dk} {q : Int} (h : writeE d q = 0) (b : List UInt8) : (writeD d q b).C = d.C ++ [⟨q, b⟩] := by rw [(writeD_0 h b).1]
theorem vw_write_at {d : Dk} {q : Int} (h : writeE d q = 0) (b : List UInt8) : vw (writeD d q b) q = (b, 0) := by
  unfold vw
  rw [wr0_C h b, lastAt_snoc, if_pos rfl]
theorem vw_write_other {d : Dk} {q z : Int} (h : writeE d q = 0 ∨ writeE d q = 2) (b : List UInt8) (hz : z ≠ q) : vw (writeD d q b) z = vw d z := by
  rcases h with h | h
  · unfold vw secAt
    rw [wr0_C h b, lastAt_snoc, if_neg (fun e => hz e.symm), writeD_S]
  · rw [(writeD_2 h b).1]
    exact vw_same (actD_S2 d).1 (actD_S2 d).2 z
theorem vw_write_bad {d : Dk} {q z : Int} (h : writeE d q = 2) (b : List UInt8) : vw (writeD d q b) z = vw d z := by
  rw [(writeD_2 h b).1]
  exact vw_same (actD_S2 d).1 (actD_S2 d).2 z
theorem write_up {d : Dk} {q : Int} (h : writeE d q = 0 ∨ writeE d q = 2) (b : List UInt8) : d.down = false ∧ (writeD d q b).down = false := by
  rcases h with h | h
  · rw [(writeD_0 h b).1]; exact act_up (writeD_0 h b).2.2
  · rw [(writeD_2 h b).1]; exact act_up (writeD_2 h b).2.2
theorem formed_at {d : Dk} (h : formedB d = true) {i : Nat} (hi : i < d.C.length) : 0 ≤ d.C[i].pos ∧ d.C[i].pos < d.S.length := by
  unfold formedB at h
  rw [Bool.and_eq_true] at h
  have h1 := h.1
  unfold allThere at h1
  exact thereB_true.1 (List.all_eq_true.1 h1 _ (List.getElem_mem hi))
def secL (o : Option (List UInt8)) (s : Sec) : Sec := match o with
  | some b => { s with data := b, nr := false }
  | none => s
theorem secL_idem (o : Option (List UInt8)) (s : Sec) (b : List UInt8) : ({ secL o s with data := b, nr := false } : Sec) = secL (some b) s := by
  cases o <;> rfl
theorem laid_at {S : List Sec} {C : List Wri} (hc : ∀ i (hi : i < C.length), 0 ≤ C[i].pos ∧ C[i].pos < S.length) {q : Int} (hq : 0 ≤ q ∧ q < S.length) (k : Nat) (hk : k ≤ C.length) : (laid S C (fun _ => true) k).getD q.toNat Zs = secL (lastAt (C.take k) q) (S.getD q.toNat Zs) := by
  induction k with
  | zero => rfl
  | succ k ih =>
    have hk' : k < C.length := by omega
    have ih := ih (by omega)
    have h1 := hc k hk'
    have hn := laid_len S C (fun _ => true) k
    rw [laid_succ hk', if_pos rfl, List.take_succ_eq_append_getElem hk', lastAt_snoc]
    have hqn : q.toNat < (laid S C (fun _ => true) k).length := by rw [hn]; omega
    by_cases e : C[k].pos = q
    · rw [if_pos e]
      have ht : C[k].pos.toNat = q.toNat := by rw [e]
      rw [ht, List.getD_eq_getElem?_getD, List.getElem?_set, if_pos rfl, if_pos hqn, Option.getD_some, ih]
      exact secL_idem _ _ _
    · rw [if_neg e]
      have ht : C[k].pos.toNat ≠ q.toNat := by omega
      rw [List.getD_eq_getElem?_getD, List.getElem?_set, if_neg ht, ← List.getD_eq_getElem?_getD]
      exact ih
theorem flush_0 {d : Dk} (h : flushE d = 0) : flushD d = layD (actD d) (fun _ => true) ∧ formedB d = true ∧ actE d ≠ 3 := by
  unfold flushE at h
  unfold flushD
  split at h
  · cases h
  · rename_i h1
    have h2 : actE d ≠ 3 := by omega
    rw [if_neg h1, if_neg h2]
    rw [right0] at h1
    exact ⟨rfl, by simpa using h1, h2⟩
theorem vw_flush {d : Dk} (h : flushE d = 0) {q : Int} (hq : 0 ≤ q ∧ q < d.S.length) : vw (flushD d) q = vw d q := by
  obtain ⟨e, hf, -⟩ := flush_0 h
  rw [e]
  have ha := actD_S2 d
  have hl := laid_at (S := d.S) (C := d.C) (fun i hi => formed_at hf hi) hq d.C.length (Nat.le_refl _)
  rw [List.take_length] at hl
  have hs : secAt (layD (actD d) (fun _ => true)) q = (laid d.S d.C (fun _ => true) d.C.length).getD q.toNat Zs := by
    unfold secAt layD
    rw [ha.1, ha.2]
  have hC : (layD (actD d) (fun _ => true)).C = [] := rfl
  unfold vw
  rw [hs, hl, hC]
  show (if _ then _ else _) = _
  cases hL : lastAt d.C q with
  | some b => rfl
  | none => rfl
theorem flush_up {d : Dk} (h : flushE d = 0) : (flushD d).down = false := by
  obtain ⟨e, -, ha⟩ := flush_0 h
  rw [e]; exact (act_up ha).2
theorem formed_flush {d : Dk} (h : flushE d = 0) : formedB (flushD d) = true := by
  obtain ⟨e, hf, -⟩ := flush_0 h
  have hS := flushD_S d
  have hC := flushD_C0 h
  unfold formedB at hf ⊢
  rw [Bool.and_eq_true] at hf
  rw [hS, hC, hf.2]; rfl
/-- the spares: where no block lay, none lies; the block lies in the one that is told -/
theorem spare_vw {m : Rm} {b : List UInt8} : ∀ (k : Nat) (q : Int) (d d2 : Dk) (to : Int), spareR m b k q d = (to, 0, d2) → formedB d = true → formedB d2 = true ∧ vw d2 to = (b, 0) ∧ d2.down = false ∧ ∀ z, z ≠ to → vw d2 z = vw d z
  | 0, q, d, d2, to, h, hf => by
    rw [spareR] at h
    have := congrArg (fun x => x.2.1) h
    cases this
  | k + 1, q, d, d2, to, h, hf => by
    rw [spareR] at h
    split at h
    · exact spare_vw k (q + 1) d d2 to h hf
    · split at h
      · rename_i h2
        obtain ⟨a1, a2, a3, a4⟩ := spare_vw k (q + 1) (writeD d q b) d2 to h (formed_wr hf)
        exact ⟨a1, a2, a3, fun z hz => (a4 z hz).trans (vw_write_bad h2 b)⟩
      · injection h with h1 h
        injection h with h3 h4
        subst h1 h4
        exact ⟨formed_wr hf, vw_write_at h3 b, (write_up (.inl h3) b).2, fun z hz => vw_write_other (.inl h3) b hz⟩
theorem keep_vw {d d' : Dk} {m : Rm} (h : keepX d m = (0, d')) (hf : formedB d = true) : tabB m (d.S.length : Int) = true ∧ formedB d' = true ∧ d'.down = false ∧ d'.S.length = d.S.length ∧ ∀ z : Int, 0 ≤ z → z < d.S.length → z ≠ m.gen % 2 → z ≠ half (d.S.length : Int) + m.gen % 2 → vw d' z = vw d z := by
  cases ht : tabB m (d.S.length : Int) with
  | false => rw [keepX_no ht] at h; have := congrArg (fun x => x.1) h; cases this
  | true =>
    by_cases k1 : writeE d (m.gen % 2) ≠ 0 ∧ writeE d (m.gen % 2) ≠ 2
    · rw [keepX_1 ht rfl rfl rfl rfl k1.1 k1.2] at h
      exact absurd (congrArg (fun x => x.1) h) k1.1
    · have k1' : writeE d (m.gen % 2) = 0 ∨ writeE d (m.gen % 2) = 2 := by omega
      by_cases k2 : writeE (writeD d (m.gen % 2) (tabL m)) (half (d.S.length : Int) + m.gen % 2) ≠ 0 ∧ writeE (writeD d (m.gen % 2) (tabL m)) (half (d.S.length : Int) + m.gen % 2) ≠ 2
      · rw [keepX_2 ht rfl rfl rfl rfl rfl rfl k1' k2.1 k2.2] at h
        exact absurd (congrArg (fun x => x.1) h) k2.1
      · have k2' : writeE (writeD d (m.gen % 2) (tabL m)) (half (d.S.length : Int) + m.gen % 2) = 0 ∨ writeE (writeD d (m.gen % 2) (tabL m)) (half (d.S.length : Int) + m.gen % 2) = 2 := by omega
        by_cases k3 : writeE d (m.gen % 2) = 2 ∧ writeE (writeD d (m.gen % 2) (tabL m)) (half (d.S.length : Int) + m.gen % 2) = 2
        · rw [keepX_22 ht rfl rfl rfl rfl rfl rfl k1' k3.1 k3.2] at h
          have := congrArg (fun x => x.1) h; cases this
        · rw [keepX_f ht rfl rfl rfl rfl rfl rfl k1' k2' k3] at h
          injection h with h1 h2
          subst h2
          have hS : (flushD (writeD (writeD d (m.gen % 2) (tabL m)) (half (d.S.length : Int) + m.gen % 2) (tabL m))).S.length = d.S.length := by rw [flushD_S, writeD_S, writeD_S]
          refine ⟨rfl, formed_flush h1, flush_up h1, hS, fun z h0 hz n1 n2 => ?_⟩
          rw [vw_flush h1 (by rw [writeD_S, writeD_S]; exact ⟨h0, hz⟩), vw_write_other k2' _ n2, vw_write_other k1' _ n1]
theorem usable_parts {n h : Int} (hu : usableB n h = true) : 0 < h ∧ 0 ≤ n ∧ n < 2 * h ∧ 1 < n % h := by
  unfold usableB at hu
  simp only [Bool.and_eq_true, decide_eq_true_eq] at hu
  exact ⟨hu.1.1.1, hu.1.1.2, hu.1.2, hu.2⟩
/-- where a table leads: the sector itself, or one of the spares that are used -/
theorem at_cases {m : Rm} {s : Int} (ht : tabB m s = true) (n : Int) : (atI m n = n ∧ ∀ x ∈ m.ps, x.1 ≠ n) ∨ ∃ k : Nat, ∃ hk : k < m.ps.length, m.ps[k].1 = n ∧ atI m n = m.ps[k].2 ∧ 2 * half s ≤ m.ps[k].2 ∧ m.ps[k].2 < s := by
  rcases plc_cases m n with ⟨hp, hno⟩ | ⟨k, hk, hp, hkn, hf⟩
  · exact .inl ⟨atI_no hno, fun x hx e => by have := hno x hx; simp [e] at this⟩
  · have h1 := tab_pair ht hk
    exact .inr ⟨k, hk, hkn, atI_at hk (by simpa using hkn) hf, h1.2.2.2.2.1, h1.2.2.2.2.2.1⟩
theorem tab_to {m : Rm} {s : Int} (ht : tabB m s = true) {i j : Nat} (hj : j < m.ps.length) (hij : i < j) : m.ps[i].2 ≠ m.ps[j].2 := by
  have hs := (tab_parts ht).2.2.2.2 j hj
  unfold stepB at hs
  simp only [Bool.and_eq_true, Bool.not_eq_true', List.getD_eq_getElem?_getD, List.getElem?_eq_getElem hj, Option.getD_some] at hs
  have h3 := hs.2
  rw [Bool.eq_false_iff] at h3
  intro e
  apply h3
  rw [List.contains_iff_mem, List.mem_map]
  exact ⟨m.ps[i], by rw [List.mem_iff_getElem]; exact ⟨i, by rw [List.length_take]; omega, List.getElem_take ..⟩, e⟩
theorem at_inj {m : Rm} {s : Int} (ht : tabB m s = true) {n k : Int} (hn : usableB n (half s) = true) (hk : usableB k (half s) = true) (h : atI m n = atI m k) : n = k := by
  have u1 := usable_parts hn
  have u2 := usable_parts hk
  rcases at_cases ht n with ⟨e1, -⟩ | ⟨i, hi, f1, e1, g1, -⟩
  · rcases at_cases ht k with ⟨e2, -⟩ | ⟨j, hj, f2, e2, g2, -⟩
    · omega
    · omega
  · rcases at_cases ht k with ⟨e2, -⟩ | ⟨j, hj, f2, e2, g2, -⟩
    · omega
    · rcases Nat.lt_trichotomy i j with hl | rfl | hl
      · exact absurd (by omega) (tab_to ht hj hl)
      · omega
      · exact absurd (by omega) (tab_to ht hi hl)
/-- where a table leads is none of the sectors that hold tables -/
theorem at_free {m : Rm} {s : Int} (ht : tabB m s = true) {n : Int} (hn : usableB n (half s) = true) {g : Int} (hg : 0 ≤ g ∧ g < 2) : atI m n ≠ g ∧ atI m n ≠ half s + g ∧ 0 ≤ atI m n ∧ atI m n < s := by
  have u := usable_parts hn
  have hl := half_lo (tab_parts ht).1
  have hm1 : g % half s = g := Int.emod_eq_of_lt hg.1 (by omega)
  have hm2 : (half s + g) % half s = g := by rw [Int.add_emod_left, hm1]
  rcases at_cases ht n with ⟨e1, -⟩ | ⟨i, hi, f1, e1, g1, g2⟩
  · rw [e1]
    refine ⟨fun e => ?_, fun e => ?_, by omega, by omega⟩
    · rw [e, hm1] at u; omega
    · rw [e, hm2] at u; omega
  · rw [e1]; exact ⟨by omega, by omega, by omega, g2⟩
theorem at_next {m : Rm} {n to k s : Int} (ht : tabB m s = true) : atI (nextM m n to) k = if k = n then to else atI m k := by
  rcases plc_cases m n with ⟨hp, hno⟩ | ⟨i, hi, hp, hkn, hf⟩
  · rw [nextM_no to (by omega)]
    unfold atI
    rw [List.find?_append]
    by_cases e : k = n
    · subst e
      rw [List.find?_eq_none.2 (fun x hx => by simpa using hno x hx)]
      simp
    · rw [if_neg e]
      cases hfd : m.ps.find? (fun p => p.1 == k) with
      | some x => rfl
      | none =>
        have : (n == k) = false := by simpa using fun h => e h.symm
        simp [List.find?_cons, this]
  · rw [nextM_at to hp]
    by_cases e : k = n
    · subst e
      rw [if_pos rfl]
      have := atI_at (m := ⟨m.gen + 1, m.ps.set i (k, to)⟩) (n := k) (k := i) (by simpa using hi) (by simp) (fun q hq => by
        show (((m.ps.set i (k, to))[q]'(by rw [List.length_set]; omega)).1 == k) = false
        rw [List.getElem_set_ne (by omega)]
        exact hf q hq)
      rw [this]
      simp
    · rw [if_neg e]
      rcases plc_cases m k with ⟨hp2, hno2⟩ | ⟨j, hj, hp2, hkn2, hf2⟩
      · rw [atI_no hno2]
        exact atI_no (fun x hx => by
          rcases List.mem_or_eq_of_mem_set hx with hx | rfl
          · exact hno2 x hx
          · simpa using fun h => e h.symm)
      · have hij : i ≠ j := by rintro rfl; exact e (hkn2.symm.trans hkn)
        rw [atI_at hj (by simpa using hkn2) hf2]
        have := atI_at (m := ⟨m.gen + 1, m.ps.set i (n, to)⟩) (n := k) (k := j) (by simpa using hj) (by
          show (((m.ps.set i (n, to))[j]'(by rw [List.length_set]; omega)).1 == k) = true
          rw [List.getElem_set_ne hij]; simpa using hkn2) (fun q hq => by
          show (((m.ps.set i (n, to))[q]'(by rw [List.length_set]; omega)).1 == k) = false
          rw [List.getElem_set]
          split
          · simpa using fun h => e h.symm
          · exact hf2 q hq)
        rw [this]
        show ((m.ps.set i (n, to))[j]'(by rw [List.length_set]; omega)).2 = _
        rw [List.getElem_set_ne hij]
/-- BEHIND A WRITE THAT WAS TOLD OK: the block is read, and all others read as they did. -/
theorem back_reads {d d' : Dk} {m m' : Rm} {n : Int} {b : List UInt8} (hb : b.length = 128) (hok : d.ok) (hm : m.ok) (hn : (Lit.int .i64 n).wf = true) (h : wrX d m n b = (0, d', m')) : d'.S.length = d.S.length ∧ rdX d' m' n = (b, 0) ∧ ∀ k, k ≠ n → rdX d' m' k = rdX d m k := by
  cases h1 : askedB d m n with
  | false => rw [wrX_no h1] at h; have := congrArg (fun x => x.1) h; cases this
  | true =>
    have hap := asked_parts h1
    have ht := hap.1
    have hu := hap.2.1
    have hl := half_lo hap.2.2.2.2
    -- what both cases want
    have fin : ∀ (d' : Dk) (m' : Rm) (at' : Int → Int), d'.S.length = d.S.length → formedB d' = true → d'.down = false → d.down = false → tabB m' (d.S.length : Int) = true → (∀ k, atI m' k = at' k) → (∀ k, usableB k (half (d.S.length : Int)) = true → 0 ≤ at' k ∧ at' k < d.S.length) → vw d' (at' n) = (b, 0) → (∀ k, usableB k (half (d.S.length : Int)) = true → k ≠ n → at' k = atI m k ∧ vw d' (at' k) = vw d (atI m k)) → d'.S.length = d.S.length ∧ rdX d' m' n = (b, 0) ∧ ∀ k, k ≠ n → rdX d' m' k = rdX d m k := by
      intro d' m' at' c1 c2 c3 c3' c4 c5 c6 c7 c8
      have hv' : hvI d' = half (d.S.length : Int) := by unfold hvI; rw [if_pos c2, c1]
      have ha' : ∀ k, askedB d' m' k = usableB k (half (d.S.length : Int)) := fun k => by unfold askedB; rw [hv', c1, c4, Bool.and_true]
      have ha : ∀ k, askedB d m k = usableB k (half (d.S.length : Int)) := fun k => by unfold askedB; rw [hap.2.2.1, ht, Bool.and_true]
      have hr' : ∀ k, usableB k (half (d.S.length : Int)) = true → rightB d' (at' k) = true := fun k hk => by
        unfold rightB; rw [c1, c2, Bool.and_true]; exact thereB_true.2 (c6 k hk)
      refine ⟨c1, ?_, fun k hk => ?_⟩
      · unfold rdX
        rw [ha', if_pos hu, c5, readX_vw, if_neg (by rw [hr' n hu]; decide), c3, c7]; rfl
      · unfold rdX
        rw [ha', ha]
        cases huk : usableB k (half (d.S.length : Int)) with
        | false => rfl
        | true =>
          have h8 := c8 k huk hk
          have hr : rightB d (atI m k) = true := by unfold rightB; rw [hap.2.2.2.1, Bool.and_true]; exact thereB_true.2 (by rw [← h8.1]; exact c6 k huk)
          have e1 : readX d' (at' k) = vw d' (at' k) := by rw [readX_vw, if_neg (by rw [hr' k huk]; decide), if_neg (by rw [c3]; decide)]
          have e2 : readX d (atI m k) = vw d (atI m k) := by rw [readX_vw, if_neg (by rw [hr]; decide), if_neg (by rw [c3']; decide)]
          rw [if_pos rfl, if_pos rfl, c5, e1, e2, h8.2]
    have hfree : ∀ k, usableB k (half (d.S.length : Int)) = true → 0 ≤ atI m k ∧ atI m k < d.S.length := fun k hk => (at_free ht hk (g := 0) ⟨by omega, by omega⟩).2.2
    by_cases h2 : writeE d (atI m n) = 2
    · have hdn := (write_up (.inr h2) b)
      obtain ⟨⟨to, e3, d2⟩, h3⟩ : ∃ x, spareR m b 20 (2 * half (d.S.length : Int)) (writeD d (atI m n) b) = x := ⟨_, rfl⟩
      by_cases h30 : e3 = 0
      · subst h30
        by_cases h17 : plc m n < 0 ∧ m.ps.length = 20
        · rw [wrX_3 h1 rfl h2 h3 rfl h17] at h; have := congrArg (fun x => x.1) h; cases this
        · by_cases h4 : flushE d2 = 0
          · by_cases h5 : (keepX (flushD d2) (nextM m n to)).1 = 0
            · rw [wrX_6 h1 rfl h2 h3 rfl h17 h4 h5] at h
              have hd := congrArg (fun x => x.2.1) h
              have hmm := congrArg (fun x => x.2.2) h
              simp only at hd hmm
              subst hmm
              have hkk : keepX (flushD d2) (nextM m n to) = (0, d') := by rw [← hd, ← h5]
              have hso := spareR_ok (m := m) hb 20 (2 * half (d.S.length : Int)) (writeD d (atI m n) b) (writeD_ok hok hb (atI_wf hm hn)) (by omega) (by omega)
              rw [h3] at hso
              obtain ⟨s1, s2, s3, s4, s5, s6⟩ := hso
              obtain ⟨t1, t2, t3⟩ := s6 rfl
              have s2' : d2.S.length = d.S.length := by rw [writeD_S] at s2; exact s2
              obtain ⟨v1, v2, v3, v4⟩ := spare_vw _ _ _ _ _ h3 (formed_wr hap.2.2.2.1)
              obtain ⟨w1, w2, w3, w4, w5⟩ := keep_vw hkk (formed_flush h4)
              have hfs : (flushD d2).S.length = d.S.length := (flushD_S d2).trans s2'
              rw [hfs] at w1 w4 w5
              have hgen : (nextM m n to).gen % 2 = 0 ∨ (nextM m n to).gen % 2 = 1 := by omega
              generalize (nextM m n to).gen % 2 = g2 at w5 hgen
              have hto1 : 2 * half (d.S.length : Int) ≤ to := t1
              have hto2 : to < 2 * half (d.S.length : Int) + (20 : Nat) := t2
              refine fin d' (nextM m n to) (fun k => if k = n then to else atI m k) w4 w2 w3 hdn.1 w1 (fun k => at_next ht) (fun k hk => ?_) ?_ (fun k hk hkn => ?_)
              · show 0 ≤ (if k = n then to else atI m k) ∧ _
                split
                · omega
                · exact hfree k hk
              · show vw d' (if n = n then to else atI m n) = _
                rw [if_pos rfl, w5 to (by omega) (by omega) (by omega) (by omega), vw_flush h4 (by rw [s2']; omega), v2]
              · show (if k = n then to else atI m k) = _ ∧ vw d' (if k = n then to else atI m k) = _
                rw [if_neg hkn]
                have hfk := at_free ht hk (g := g2) (by omega)
                have hnt : atI m k ≠ to := by
                  rcases at_cases ht k with ⟨e1, -⟩ | ⟨i, hi, f1, e1, -, -⟩
                  · have := usable_parts hk; omega
                  · intro e
                    have t3' : m.ps.any (fun p => p.2 == to) = false := t3
                    rw [Bool.eq_false_iff] at t3'
                    exact t3' (List.any_eq_true.2 ⟨m.ps[i], List.getElem_mem hi, by rw [e1] at e; simpa using e⟩)
                refine ⟨rfl, ?_⟩
                rw [w5 _ hfk.2.2.1 hfk.2.2.2 hfk.1 hfk.2.1, vw_flush h4 (by rw [s2']; exact ⟨hfk.2.2.1, hfk.2.2.2⟩), v4 _ hnt, vw_write_bad h2]
            · rw [wrX_5 h1 rfl h2 h3 rfl h17 h4 h5] at h
              exact absurd (congrArg (fun x => x.1) h) h5
          · rw [wrX_4 h1 rfl h2 h3 rfl h17 h4] at h
            exact absurd (congrArg (fun x => x.1) h) h4
      · rw [wrX_2 h1 rfl h2 h3 h30] at h
        exact absurd (congrArg (fun x => x.1) h) h30
    · rw [wrX_1 h1 rfl h2] at h
      have he := congrArg (fun x => x.1) h
      have hd := congrArg (fun x => x.2.1) h
      have hmm := congrArg (fun x => x.2.2) h
      simp only at he hd hmm
      subst hd hmm
      have hup := write_up (.inl he) b
      refine fin _ m (fun k => atI m k) (by rw [writeD_S]) (formed_wr hap.2.2.2.1) hup.2 hup.1 ht (fun _ => rfl) hfree (vw_write_at he b) (fun k hk hkn => ⟨rfl, ?_⟩)
      exact vw_write_other (.inl he) b (fun e => hkn (at_inj ht hk hu e))

end Go.Proofs.YtlleandelcjhjaaDoor.RmBackPlain
