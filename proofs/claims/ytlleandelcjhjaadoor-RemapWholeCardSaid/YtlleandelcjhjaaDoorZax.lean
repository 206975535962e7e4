/- The theorems that the claim uses, text behind text (part 24). -/
import Derived.Test.YtlleandelcjhjaaDoorZad
import Derived.Test.YtlleandelcjhjaaDoorZat
import Derived.Test.YtlleandelcjhjaaDoorZau
import Derived.Test.YtlleandelcjhjaaDoorZaw
set_option maxRecDepth 100000
set_option linter.unusedVariables false
set_option linter.unusedSimpArgs false
namespace Go.Proofs.YtlleandelcjhjaaDoor.RmBackPlain
open Go Go.RowKit Go.Proofs.YtlleandelcjhjaaDoor.K Go.Proofs.YtlleandelcjhjaaDoor.EqKit Go.Proofs.YtlleandelcjhjaaDoor.ArrKit Go.Proofs.YtlleandelcjhjaaDoor.HeldKit Go.Proofs.YtlleandelcjhjaaDoor.GKit Go.Proofs.YtlleandelcjhjaaDoor.GRow Go.Proofs.YtlleandelcjhjaaDoor.DiskKit Go.Proofs.YtlleandelcjhjaaDoor.RmKit Go.Proofs.YtlleandelcjhjaaDoor.MapKit Go.Proofs.YtlleandelcjhjaaDoor.RmRight Go.Proofs.YtlleandelcjhjaaDoor.RmRRight Go.Proofs.YtlleandelcjhjaaDoor.RmTab Go.Proofs.YtlleandelcjhjaaDoor.RmPut Go.Proofs.YtlleandelcjhjaaDoor.RmAsk Go.Proofs.YtlleandelcjhjaaDoor.RmSame Go.Proofs.YtlleandelcjhjaaDoor.DiskRRead Go.Proofs.YtlleandelcjhjaaDoor.RmRead Go.Proofs.YtlleandelcjhjaaDoor.RmReads Go.Proofs.YtlleandelcjhjaaDoor.DiskAct Go.Proofs.YtlleandelcjhjaaDoor.DiskLay Go.Proofs.YtlleandelcjhjaaDoor.RmSpare Go.Proofs.YtlleandelcjhjaaDoor.RmKeep Go.Proofs.YtlleandelcjhjaaDoor.RmFirst Go.Proofs.YtlleandelcjhjaaDoor.RmAliveP Go.Proofs.YtlleandelcjhjaaDoor.RmWrX Go.Proofs.YtlleandelcjhjaaDoor.RmWrite
theorem formed_act2 (d : Dk) : formedB (actD d) = formedB d := by
  unfold formedB
  rw [(actD_S2 d).1, (actD_S2 d).2]
theorem formed_wr {d : Dk} {q : Int} {b : List UInt8} (h : formedB d = true) : formedB (writeD d q b) = true := by
  unfold writeD
  split
  · exact h
  · rename_i hr
    split
    · rw [formed_act2]; exact h
    · split
      · rw [formed_act2]; exact h
      · unfold formedB at h ⊢
        show (allThere (actD d).S.length (d.C ++ [⟨q, b⟩]) && decide (1 ≤ (actD d).S.length ∧ (actD d).S.length ≤ 4096)) = true
        rw [(actD_S2 d).1]
        rw [Bool.and_eq_true] at h ⊢
        refine ⟨?_, h.2⟩
        have hr2 : rightB d q = true := by simpa using hr
        unfold rightB at hr2
        rw [Bool.and_eq_true] at hr2
        unfold allThere at h ⊢
        rw [List.all_append, h.1]
        simp [hr2.1]
/-- what a sector reads as, whether the power is there or not -/
def vw (d : Dk) (q : Int) : List UInt8 × Int := match lastAt d.C q with
  | some b => (b, 0)
  | none => if (secAt d q).nr then (Z128, 2) else ((secAt d q).data, 0)
theorem readX_vw (d : Dk) (q : Int) : readX d q = if rightB d q = false then (Z128, 1) else if d.down then (Z128, 3) else vw d q := rfl
theorem vw_same {d d' : Dk} (hS : d'.S = d.S) (hC : d'.C = d.C) (q : Int) : vw d' q = vw d q := by
  unfold vw secAt
  rw [hS, hC]
theorem lastAt_snoc (l : List Wri) (x : Wri) (q : Int) : lastAt (l ++ [x]) q = if x.pos = q then some x.data else lastAt l q := by
  unfold lastAt
  rw [List.foldl_append]
  rfl
theorem writeD_0 {d : Dk} {q : Int} (h : writeE d q = 0) (b : List UInt8) : writeD d q b = { actD d with C := d.C ++ [⟨q, b⟩] } ∧ rightB d q = true ∧ actE d ≠ 3 := by
  unfold writeE at h
  unfold writeD
  split at h
  · cases h
  · rename_i h1
    split at h
    · cases h
    · rename_i h2
      split at h
      · cases h
      · rename_i h3
        rw [if_neg h1, if_neg h2, if_neg h3]
        exact ⟨rfl, by simpa using h1, h2⟩
theorem act_up {d : Dk} (h : actE d ≠ 3) : d.down = false ∧ (actD d).down = false := by
  unfold actE at h
  split at h
  · exact absurd rfl h
  · rename_i h1
    have h2 : d.down = false := by
      cases hd : d.down with
      | false => rfl
      | true => exact absurd (.inl hd) h1
    have h3 : ¬ d.fuse = 0 := fun e => h1 (.inr e)
    refine ⟨h2, ?_⟩
    unfold actD
    rw [if_neg (by rw [h2]; decide), if_neg h3]
    split <;> exact h2
theorem wr0_C {d : Dk} {q : Int} (h : writeE d q = 0) (b : List UInt8) : (writeD d q b).C = d.C ++ [⟨q, b⟩] := by rw [(writeD_0 h b).1]
theorem vw_write_at {d : Dk} {q : Int} (h : writeE d q = 0) (b : List UInt8) : vw (writeD d q b) q = (b, 0) := by
  unfold vw
  rw [wr0_C h b, lastAt_snoc, if_pos rfl]
theorem formed_at {d : Dk} (h : formedB d = true) {i : Nat} (hi : i < d.C.length) : 0 ≤ d.C[i].pos ∧ d.C[i].pos < d.S.length := by
  unfold formedB at h
  rw [Bool.and_eq_true] at h
  have h1 := h.1
  unfold allThere at h1
  exact thereB_true.1 (List.all_eq_true.1 h1 _ (List.getElem_mem hi))
def secL (o : Option (List UInt8)) (s : Sec) : Sec := match o with
  | some b => { s with data := b, nr := false }
  | none => s
theorem secL_idem (o : Option (List UInt8)) (s : Sec) (b : List UInt8) : ({ secL o s with data := b, nr := false } : Sec) = secL (some b) s := by
  cases o <;> rfl
theorem laid_at {S : List Sec} {C : List Wri} (hc : ∀ i (hi : i < C.length), 0 ≤ C[i].pos ∧ C[i].pos < S.length) {q : Int} (hq : 0 ≤ q ∧ q < S.length) (k : Nat) (hk : k ≤ C.length) : (laid S C (fun _ => true) k).getD q.toNat Zs = secL (lastAt (C.take k) q) (S.getD q.toNat Zs) := by
  induction k with
  | zero => rfl
  | succ k ih =>
    have hk' : k < C.length := by omega
    have ih := ih (by omega)
    have h1 := hc k hk'
    have hn := laid_len S C (fun _ => true) k
    rw [laid_succ hk', if_pos rfl, List.take_succ_eq_append_getElem hk', lastAt_snoc]
    have hqn : q.toNat < (laid S C (fun _ => true) k).length := by rw [hn]; omega
    by_cases e : C[k].pos = q
    · rw [if_pos e]
      have ht : C[k].pos.toNat = q.toNat := by rw [e]
      rw [ht, List.getD_eq_getElem?_getD, List.getElem?_set, if_pos rfl, if_pos hqn, Option.getD_some, ih]
      exact secL_idem _ _ _
    · rw [if_neg e]
      have ht : C[k].pos.toNat ≠ q.toNat := by omega
      rw [List.getD_eq_getElem?_getD, List.getElem?_set, if_neg ht, ← List.getD_eq_getElem?_getD]
      exact ih
theorem flush_0 {d : Dk} (h : flushE d = 0) : flushD d = layD (actD d) (fun _ => true) ∧ formedB d = true ∧ actE d ≠ 3 := by
  unfold flushE at h
  unfold flushD
  split at h
  · cases h
  · rename_i h1
    have h2 : actE d ≠ 3 := by omega
    rw [if_neg h1, if_neg h2]
    rw [right0] at h1
    exact ⟨rfl, by simpa using h1, h2⟩
theorem vw_flush {d : Dk} (h : flushE d = 0) {q : Int} (hq : 0 ≤ q ∧ q < d.S.length) : vw (flushD d) q = vw d q := by
  obtain ⟨e, hf, -⟩ := flush_0 h
  rw [e]
  have ha := actD_S2 d
  have hl := laid_at (S := d.S) (C := d.C) (fun i hi => formed_at hf hi) hq d.C.length (Nat.le_refl _)
  rw [List.take_length] at hl
  have hs : secAt (layD (actD d) (fun _ => true)) q = (laid d.S d.C (fun _ => true) d.C.length).getD q.toNat Zs := by
    unfold secAt layD
    rw [ha.1, ha.2]
  have hC : (layD (actD d) (fun _ => true)).C = [] := rfl
  unfold vw
  rw [hs, hl, hC]
  show (if _ then _ else _) = _
  cases hL : lastAt d.C q with
  | some b => rfl
  | none => rfl
theorem formed_flush {d : Dk} (h : flushE d = 0) : formedB (flushD d) = true := by
  obtain ⟨e, hf, -⟩ := flush_0 h
  have hS := flushD_S d
  have hC := flushD_C0 h
  unfold formedB at hf ⊢
  rw [Bool.and_eq_true] at hf
  rw [hS, hC, hf.2]; rfl
theorem usable_parts {n h : Int} (hu : usableB n h = true) : 0 < h ∧ 0 ≤ n ∧ n < 2 * h ∧ 1 < n % h := by
  unfold usableB at hu
  simp only [Bool.and_eq_true, decide_eq_true_eq] at hu
  exact ⟨hu.1.1.1, hu.1.1.2, hu.1.2, hu.2⟩
/-- where a table leads: the sector itself, or one of the spares that are used -/
theorem at_cases {m : Rm} {s : Int} (ht : tabB m s = true) (n : Int) : (atI m n = n ∧ ∀ x ∈ m.ps, x.1 ≠ n) ∨ ∃ k : Nat, ∃ hk : k < m.ps.length, m.ps[k].1 = n ∧ atI m n = m.ps[k].2 ∧ 2 * half s ≤ m.ps[k].2 ∧ m.ps[k].2 < s := by
  rcases plc_cases m n with ⟨hp, hno⟩ | ⟨k, hk, hp, hkn, hf⟩
  · exact .inl ⟨atI_no hno, fun x hx e => by have := hno x hx; simp [e] at this⟩
  · have h1 := tab_pair ht hk
    exact .inr ⟨k, hk, hkn, atI_at hk (by simpa using hkn) hf, h1.2.2.2.2.1, h1.2.2.2.2.2.1⟩
/-- where a table leads is none of the sectors that hold tables -/
theorem at_free {m : Rm} {s : Int} (ht : tabB m s = true) {n : Int} (hn : usableB n (half s) = true) {g : Int} (hg : 0 ≤ g ∧ g < 2) : atI m n ≠ g ∧ atI m n ≠ half s + g ∧ 0 ≤ atI m n ∧ atI m n < s := by
  have u := usable_parts hn
  have hl := half_lo (tab_parts ht).1
  have hm1 : g % half s = g := Int.emod_eq_of_lt hg.1 (by omega)
  have hm2 : (half s + g) % half s = g := by rw [Int.add_emod_left, hm1]
  rcases at_cases ht n with ⟨e1, -⟩ | ⟨i, hi, f1, e1, g1, g2⟩
  · rw [e1]
    refine ⟨fun e => ?_, fun e => ?_, by omega, by omega⟩
    · rw [e, hm1] at u; omega
    · rw [e, hm2] at u; omega
  · rw [e1]; exact ⟨by omega, by omega, by omega, g2⟩
end Go.Proofs.YtlleandelcjhjaaDoor.RmBackPlain
namespace Go.Proofs.YtlleandelcjhjaaDoor.RmCrashPlain
open Go Go.RowKit Go.Proofs.YtlleandelcjhjaaDoor.K Go.Proofs.YtlleandelcjhjaaDoor.EqKit Go.Proofs.YtlleandelcjhjaaDoor.ArrKit Go.Proofs.YtlleandelcjhjaaDoor.HeldKit Go.Proofs.YtlleandelcjhjaaDoor.GKit Go.Proofs.YtlleandelcjhjaaDoor.GRow Go.Proofs.YtlleandelcjhjaaDoor.DiskKit Go.Proofs.YtlleandelcjhjaaDoor.RmKit Go.Proofs.YtlleandelcjhjaaDoor.MapKit Go.Proofs.YtlleandelcjhjaaDoor.RmRight Go.Proofs.YtlleandelcjhjaaDoor.RmRRight Go.Proofs.YtlleandelcjhjaaDoor.RmTab Go.Proofs.YtlleandelcjhjaaDoor.RmPut Go.Proofs.YtlleandelcjhjaaDoor.RmAsk Go.Proofs.YtlleandelcjhjaaDoor.RmSame Go.Proofs.YtlleandelcjhjaaDoor.DiskRRead Go.Proofs.YtlleandelcjhjaaDoor.RmRead Go.Proofs.YtlleandelcjhjaaDoor.RmReads Go.Proofs.YtlleandelcjhjaaDoor.DiskAct Go.Proofs.YtlleandelcjhjaaDoor.DiskLay Go.Proofs.YtlleandelcjhjaaDoor.RmSpare Go.Proofs.YtlleandelcjhjaaDoor.RmKeep Go.Proofs.YtlleandelcjhjaaDoor.RmAliveP Go.Proofs.YtlleandelcjhjaaDoor.RmWrX Go.Proofs.YtlleandelcjhjaaDoor.RmWrite Go.Proofs.YtlleandelcjhjaaDoor.RmBackPlain
/-- the last write at a sector among those that are kept -/
def lastK (C : List Wri) (keep : Nat → Bool) (q : Int) : Nat → Option (List UInt8)
  | 0 => none
  | k + 1 => match C[k]? with
    | some x => if keep k = true ∧ x.pos = q then some x.data else lastK C keep q k
    | none => lastK C keep q k
theorem lastK_succ {C : List Wri} {keep : Nat → Bool} {q : Int} {k : Nat} (h : k < C.length) : lastK C keep q (k + 1) = if keep k = true ∧ C[k].pos = q then some C[k].data else lastK C keep q k := by
  rw [lastK, List.getElem?_eq_getElem h]
theorem laid_keep {S : List Sec} {C : List Wri} {keep : Nat → Bool} (hc : ∀ i (hi : i < C.length), 0 ≤ C[i].pos ∧ C[i].pos < S.length) {q : Int} (hq : 0 ≤ q ∧ q < S.length) (k : Nat) (hk : k ≤ C.length) : (laid S C keep k).getD q.toNat Zs = secL (lastK C keep q k) (S.getD q.toNat Zs) := by
  induction k with
  | zero => rfl
  | succ k ih =>
    have hk' : k < C.length := by omega
    have ih := ih (by omega)
    have h1 := hc k hk'
    have hn := laid_len S C keep k
    rw [laid_succ hk', lastK_succ hk']
    have hqn : q.toNat < (laid S C keep k).length := by rw [hn]; omega
    by_cases hkp : keep k = true
    · rw [if_pos hkp]
      by_cases e : C[k].pos = q
      · rw [if_pos ⟨hkp, e⟩]
        have ht : C[k].pos.toNat = q.toNat := by rw [e]
        rw [ht, List.getD_eq_getElem?_getD, List.getElem?_set, if_pos rfl, if_pos hqn, Option.getD_some, ih]
        exact secL_idem _ _ _
      · rw [if_neg (fun h => e h.2)]
        have ht : C[k].pos.toNat ≠ q.toNat := by omega
        rw [List.getD_eq_getElem?_getD, List.getElem?_set, if_neg ht, ← List.getD_eq_getElem?_getD]
        exact ih
    · rw [if_neg hkp, if_neg (fun h => hkp h.1)]
      exact ih
/-- a crash: what is kept last is read, or what the sector held -/
theorem vw_crash {d : Dk} (hf : formedB d = true) (keep : List Bool) {q : Int} (hq : 0 ≤ q ∧ q < d.S.length) : vw (crashD d keep) q = match lastK d.C (fun i => keep.getD i false) q d.C.length with
  | some b => (b, 0)
  | none => if (secAt d q).nr then (Z128, 2) else ((secAt d q).data, 0) := by
  have hr : rightB d 0 = true := by rw [right0]; exact hf
  have hl := laid_keep (S := d.S) (C := d.C) (keep := fun i => keep.getD i false) (fun i hi => formed_at hf hi) hq d.C.length (Nat.le_refl _)
  have hs : secAt (crashD d keep) q = secL (lastK d.C (fun i => keep.getD i false) q d.C.length) (d.S.getD q.toNat Zs) := by
    rw [← hl]
    unfold secAt crashD
    rw [if_neg (by rw [hr]; decide)]
    rfl
  have hC : (crashD d keep).C = [] := by
    unfold crashD
    rw [if_neg (by rw [hr]; decide)]
    rfl
  unfold vw
  rw [hs, hC]
  show (if _ then _ else _) = _
  cases hL : lastK d.C (fun i => keep.getD i false) q d.C.length with
  | some b => rfl
  | none => rfl

end Go.Proofs.YtlleandelcjhjaaDoor.RmCrashPlain
namespace Go.Proofs.YtlleandelcjhjaaDoor.RmLoadX
open Go Go.RowKit Go.Proofs.YtlleandelcjhjaaDoor.K Go.Proofs.YtlleandelcjhjaaDoor.EqKit Go.Proofs.YtlleandelcjhjaaDoor.ArrKit Go.Proofs.YtlleandelcjhjaaDoor.HeldKit Go.Proofs.YtlleandelcjhjaaDoor.GKit Go.Proofs.YtlleandelcjhjaaDoor.GRow Go.Proofs.YtlleandelcjhjaaDoor.DiskKit Go.Proofs.YtlleandelcjhjaaDoor.RmKit Go.Proofs.YtlleandelcjhjaaDoor.MapKit Go.Proofs.YtlleandelcjhjaaDoor.RmRight Go.Proofs.YtlleandelcjhjaaDoor.RmRRight Go.Proofs.YtlleandelcjhjaaDoor.RmTab Go.Proofs.YtlleandelcjhjaaDoor.RmPut Go.Proofs.YtlleandelcjhjaaDoor.RmRead Go.Proofs.YtlleandelcjhjaaDoor.RmReads Go.Proofs.YtlleandelcjhjaaDoor.DiskRRead Go.Proofs.YtlleandelcjhjaaDoor.RmTake Go.Proofs.YtlleandelcjhjaaDoor.RmTakePut Go.Proofs.YtlleandelcjhjaaDoor.RmBackPlain Go.Proofs.YtlleandelcjhjaaDoor.RmCrashPlain
/-- the table that the i-th of the four sectors tells, if it tells one of its parity -/
def cand (d : Dk) (i : Nat) : Option Rm :=
  if (readX d ((i / 2 : Nat) * hvI d + (i % 2 : Nat))).2 = 0 ∧ takE (readX d ((i / 2 : Nat) * hvI d + (i % 2 : Nat))).1 (d.S.length : Int) = 0 ∧ (takX (readX d ((i / 2 : Nat) * hvI d + (i % 2 : Nat))).1 (d.S.length : Int)).gen % 2 = (i % 2 : Nat)
  then some (takX (readX d ((i / 2 : Nat) * hvI d + (i % 2 : Nat))).1 (d.S.length : Int)) else none
/-- the newer one: the elder one stays where both are alike old -/
def newer (best c : Option Rm) : Option Rm := match c with
  | none => best
  | some m => match best with
    | none => some m
    | some b => if m.gen ≤ b.gen then some b else some m
def bestOf (d : Dk) : Nat → Option Rm
  | 0 => none
  | k + 1 => newer (bestOf d k) (cand d k)
def loadX (d : Dk) : Rm × Int := if hvI d = 0 then (⟨0, []⟩, 1) else if d.down = true then (⟨0, []⟩, 3) else match bestOf d 4 with
  | none => (⟨0, []⟩, 2)
  | some m => (m, 0)
theorem newer_none (b : Option Rm) : newer b none = b := rfl
theorem newer_first (m : Rm) : newer none (some m) = some m := rfl
theorem newer_gt {b m : Rm} (h : b.gen < m.gen) : newer (some b) (some m) = some m := by unfold newer; simp only; rw [if_neg (by omega)]
theorem newer_le {b m : Rm} (h : m.gen ≤ b.gen) : newer (some b) (some m) = some b := by unfold newer; simp only; rw [if_pos h]
/-- what is loaded is told by one of the four, and none of them tells a newer one -/
theorem best_max (d : Dk) : ∀ k m, bestOf d k = some m → (∃ i, i < k ∧ cand d i = some m) ∧ ∀ i, i < k → ∀ c, cand d i = some c → c.gen ≤ m.gen
  | 0, m, h => by cases h
  | k + 1, m, h => by
    rw [bestOf] at h
    cases hc : cand d k with
    | none =>
      rw [hc, newer_none] at h
      obtain ⟨⟨i, hi, e⟩, h2⟩ := best_max d k m h
      refine ⟨⟨i, by omega, e⟩, fun j hj c hcj => ?_⟩
      by_cases ej : j = k
      · subst ej; rw [hc] at hcj; cases hcj
      · exact h2 j (by omega) c hcj
    | some x =>
      rw [hc] at h
      cases hb : bestOf d k with
      | none =>
        rw [hb, newer_first] at h
        cases h
        refine ⟨⟨k, by omega, hc⟩, fun j hj c hcj => ?_⟩
        by_cases ej : j = k
        · subst ej; rw [hc] at hcj; cases hcj; exact Int.le_refl _
        · exact absurd hb (best_some d k j (by omega) c hcj)
      | some b =>
        rw [hb] at h
        obtain ⟨⟨i, hi, e⟩, h2⟩ := best_max d k b hb
        by_cases hl : x.gen ≤ b.gen
        · rw [newer_le hl] at h
          cases h
          refine ⟨⟨i, by omega, e⟩, fun j hj c hcj => ?_⟩
          by_cases ej : j = k
          · subst ej; rw [hc] at hcj; cases hcj; exact hl
          · exact h2 j (by omega) c hcj
        · rw [newer_gt (by omega)] at h
          cases h
          refine ⟨⟨k, by omega, hc⟩, fun j hj c hcj => ?_⟩
          by_cases ej : j = k
          · subst ej; rw [hc] at hcj; cases hcj; exact Int.le_refl _
          · have := h2 j (by omega) c hcj; omega
where
  best_some (d : Dk) : ∀ k i, i < k → ∀ c, cand d i = some c → bestOf d k ≠ none
    | 0, i, hi, c, h => by omega
    | k + 1, i, hi, c, h => by
      rw [bestOf]
      by_cases e : i = k
      · subst e
        rw [h]
        cases hb : bestOf d i with
        | none => rw [newer_first]; simp
        | some b => unfold newer; simp only; split <;> simp
      · have := best_some d k i (by omega) c h
        cases hb : bestOf d k with
        | none => exact absurd hb this
        | some b =>
          cases cand d k with
          | none => rw [newer_none]; simp
          | some x => unfold newer; simp only; split <;> simp

end Go.Proofs.YtlleandelcjhjaaDoor.RmLoadX
namespace Go.Proofs.YtlleandelcjhjaaDoor.RmPair
open Go Go.RowKit Go.Proofs.YtlleandelcjhjaaDoor.K Go.Proofs.YtlleandelcjhjaaDoor.EqKit Go.Proofs.YtlleandelcjhjaaDoor.ArrKit Go.Proofs.YtlleandelcjhjaaDoor.HeldKit Go.Proofs.YtlleandelcjhjaaDoor.GKit Go.Proofs.YtlleandelcjhjaaDoor.GRow Go.Proofs.YtlleandelcjhjaaDoor.DiskKit Go.Proofs.YtlleandelcjhjaaDoor.RmKit Go.Proofs.YtlleandelcjhjaaDoor.MapKit Go.Proofs.YtlleandelcjhjaaDoor.DiskNew Go.Proofs.YtlleandelcjhjaaDoor.RmRight Go.Proofs.YtlleandelcjhjaaDoor.RmRRight Go.Proofs.YtlleandelcjhjaaDoor.RmTab Go.Proofs.YtlleandelcjhjaaDoor.RmPut Go.Proofs.YtlleandelcjhjaaDoor.RmAsk Go.Proofs.YtlleandelcjhjaaDoor.RmSame Go.Proofs.YtlleandelcjhjaaDoor.DiskCopy Go.Proofs.YtlleandelcjhjaaDoor.DiskTwins Go.Proofs.YtlleandelcjhjaaDoor.DiskRRead Go.Proofs.YtlleandelcjhjaaDoor.RmRead Go.Proofs.YtlleandelcjhjaaDoor.RmReads Go.Proofs.YtlleandelcjhjaaDoor.RmAliveP Go.Proofs.YtlleandelcjhjaaDoor.RmAlive Go.Proofs.YtlleandelcjhjaaDoor.RmGreat Go.Proofs.YtlleandelcjhjaaDoor.DiskAct Go.Proofs.YtlleandelcjhjaaDoor.RmSpare Go.Proofs.YtlleandelcjhjaaDoor.RmKeep Go.Proofs.YtlleandelcjhjaaDoor.RmFirst Go.Proofs.YtlleandelcjhjaaDoor.RmWrX Go.Proofs.YtlleandelcjhjaaDoor.RmWrite
/-- what is written where, as a value -/
def LAYV (n : Int) (b : List UInt8) : Array Value := ((.int .i64 n : Value) :: b.map B).toArray
theorem lay_range {w : World} {x : Nat} {n : Int} {b : List UInt8} (h : Bk w x (LAYV n b) 47) : w.rangeAt x 1 (b.map B) := fun j u hj => by
  rw [Bk.cell h, LAYV, List.getElem?_toArray, Nat.add_comm, List.getElem?_cons_succ]
  exact hj
theorem lay_cell {w : World} {x : Nat} {n : Int} {b : List UInt8} (h : Bk w x (LAYV n b) 47) : w.cell? ⟨x, 0, none⟩ = some (.int .i64 n) := by
  rw [Bk.cell h]; rfl
/-- a table is no place of tables' pairs -/
theorem RV.pastR {w w1 : World} {m : Rm} {a : Option Addr} {c r : Nat} (h : RV w m a c) (f : Fr (fun i => i = r) w w1) {g : Int} {a' : Option Addr} {n' c' : Nat} (hb : Bk w r (RC g (.slice a' n' c')) 24) : RV w1 m a c :=
  ⟨RdG.later h.rd f (fun x e hl => by
    subst e
    rintro rfl
    have h0 : 0 < m.ps.length := List.length_pos_iff.2 hl
    obtain ⟨b, o, e0, hat⟩ := RdP.form h.rd h0
    cases e0
    have h1 := (hat _ h.rd).2.1
    have h2 := (hat _ h.rd).2.2
    rw [Bk.cell hb] at h1 h2
    generalize o + 0 * 2 = q at *
    rcases (show q = 0 ∨ q = 1 ∨ 2 ≤ q by omega) with rfl | rfl | h4
    · cases (Option.some.inj h2)
    · cases (Option.some.inj h1)
    · rw [Array.getElem?_eq_none (show (RC g (.slice a' n' c')).size ≤ q from h4)] at h1; cases h1), h.len, h.max⟩
/-- a disk and a table, each in its variable -/
def PS (w : World) (p r : Nat) (d : Dk) (m : Rm) : Prop := DIn w p d ∧ ∃ a c, Bk w r (rval m a c) 24 ∧ RV w m a c
theorem PS.keep0 {w w1 : World} {p r : Nat} {d : Dk} {m : Rm} (h : PS w p r d m) (f : Fr0 w w1) : PS w1 p r d m := by
  obtain ⟨h1, a, c, h2, h3⟩ := h
  exact ⟨h1.keep f, a, c, f.keep h2 (fun h => h), h3.keep f⟩
theorem Fr.split {w w1 : World} {p r : Nat} (f : Fr (fun i => i = p ∨ i = r) w w1) : ∃ w0 : World, Fr (fun i => i = p) w w0 ∧ Fr (fun i => i = r) w0 w1 ∧ (∀ i, i ≠ p → i < w.heap.size → w0.heap[i]? = w.heap[i]?) := by
  by_cases hp : p < w.heap.size
  · by_cases hp1 : p < w1.heap.size
    · refine ⟨{ w with heap := w.heap.set p w1.heap[p] hp }, ⟨rfl, rfl, rfl, by simp, fun i hi hs => ?_⟩, ⟨f.os, f.tape, f.output, by simpa using f.size, fun i hi hs => ?_⟩, fun i hi hl => ?_⟩
      · show (w.heap.set p _ hp)[i]? = _
        rw [Array.getElem?_set_ne _ (fun e => hs e.symm)]
      · show _ = (w.heap.set p _ hp)[i]?
        have hi' : i < w.heap.size := by simpa using hi
        by_cases e : i = p
        · subst e
          rw [Array.getElem?_set_self, Array.getElem?_eq_getElem hp1]
        · rw [Array.getElem?_set_ne _ (fun h => e h.symm)]
          exact f.block i hi' (fun h => h.elim e hs)
      · show (w.heap.set p _ hp)[i]? = _
        rw [Array.getElem?_set_ne _ (fun e => hi e.symm)]
    · exact absurd (Nat.lt_of_lt_of_le hp f.size) hp1
  · exact ⟨w, Fr.refl _ _, ⟨f.os, f.tape, f.output, f.size, fun i hi hs => f.block i hi (fun h => h.elim (fun e => hp (e ▸ hi)) hs)⟩, fun _ _ _ => rfl⟩
theorem PS.past {w w1 : World} {p r q s : Nat} {d d0 : Dk} {m m0 : Rm} (h : PS w q s d m) (hok : d.ok) (h0 : PS w p r d0 m0) (f : Fr (fun i => i = p ∨ i = r) w w1) (hpr : r ≠ p) (hqp : q ≠ p) (hqr : q ≠ r) (hsp : s ≠ p) (hsr : s ≠ r) : PS w1 q s d m := by
  obtain ⟨⟨sa, sc, ca, cc, h1⟩, a, c, h2, h3⟩ := h
  obtain ⟨⟨sa0, sc0, ca0, cc0, h01⟩, a0, c0, h02, h03⟩ := h0
  obtain ⟨w0, f1, f2, hk⟩ := Fr.split f
  have hr0 : Bk w0 r (rval m0 a0 c0) 24 := (hk r hpr (Bk.lt h02)).trans h02
  exact ⟨⟨sa, sc, ca, cc, DAt_past (h1.past hok f1 h01.blk (dval_no _ _ _ _ _) hqp) hok f2 hr0 (rc_no _ _ _ _) hqr⟩, a, c, f2.keep (f1.keep h2 hsp) hsr, RV.pastR (RV.past h3 f1 h01.blk) f2 hr0⟩
theorem wrX_ok {d : Dk} {m : Rm} {n : Int} {b : List UInt8} (hok : d.ok) (hm : m.ok) (hn : (Lit.int .i64 n).wf = true) (hb : b.length = 128) : (wrX d m n b).2.1.ok ∧ (wrX d m n b).2.2.ok ∧ (wrX d m n b).2.2.ps.length ≤ m.ps.length + 1 := by
  cases h1 : askedB d m n with
  | false => rw [wrX_no h1]; exact ⟨hok, hm, Nat.le_succ _⟩
  | true =>
    have hap := asked_parts h1
    have hl := half_lo hap.2.2.2.2
    have haw := atI_wf hm hn
    have hw := writeD_ok hok hb haw
    by_cases h2 : writeE d (atI m n) = 2
    · have hs := spareR_ok (m := m) hb 20 (2 * half (d.S.length : Int)) (writeD d (atI m n) b) hw (by omega) (by omega)
      obtain ⟨⟨to, e3, d2⟩, h3⟩ : ∃ x, spareR m b 20 (2 * half (d.S.length : Int)) (writeD d (atI m n) b) = x := ⟨_, rfl⟩
      rw [h3] at hs
      obtain ⟨s1, s2, s3, s4, s5, -⟩ := hs
      by_cases h30 : e3 = 0
      · have hto : (Lit.int .i64 to).wf = true := wf_small s4 (by show to ≤ _; have h6 : to ≤ 2 * half (d.S.length : Int) + (20 : Nat) := s5; omega)
        by_cases h17 : plc m n < 0 ∧ m.ps.length = 20
        · rw [wrX_3 h1 rfl h2 h3 h30 h17]; exact ⟨s1, hm, Nat.le_succ _⟩
        · by_cases h4 : flushE d2 = 0
          · have hk := keepX_ok (m := nextM m n to) (flushD_ok s1)
            have hg := tab_parts hap.1
            by_cases h5 : (keepX (flushD d2) (nextM m n to)).1 = 0
            · rw [wrX_6 h1 rfl h2 h3 h30 h17 h4 h5]; exact ⟨hk.1, nextM_ok hm hn hto (wf_small (by omega) (by omega)), nextM_len _ _ _⟩
            · rw [wrX_5 h1 rfl h2 h3 h30 h17 h4 h5]; exact ⟨hk.1, hm, Nat.le_succ _⟩
          · rw [wrX_4 h1 rfl h2 h3 h30 h17 h4]; exact ⟨flushD_ok s1, hm, Nat.le_succ _⟩
      · rw [wrX_2 h1 rfl h2 h3 h30]; exact ⟨s1, hm, Nat.le_succ _⟩
    · rw [wrX_1 h1 rfl h2]; exact ⟨hw, hm, Nat.le_succ _⟩
theorem PS.of {w : World} {p r : Nat} {d : Dk} {m : Rm} {sa : Option Addr} {sc : Nat} {ca : Option Addr} {cc : Nat} {a : Option Addr} {c : Nat} (h1 : DAt w p d sa sc ca cc) (h2 : Bk w r (rval m a c) 24) (h3 : RV w m a c) : PS w p r d m := ⟨⟨_, _, _, _, h1⟩, _, _, h2, h3⟩

end Go.Proofs.YtlleandelcjhjaaDoor.RmPair
