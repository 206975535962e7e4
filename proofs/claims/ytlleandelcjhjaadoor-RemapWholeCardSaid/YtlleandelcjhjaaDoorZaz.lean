/- The theorems that the claim uses, text behind text (part 26). -/
import Derived.Test.YtlleandelcjhjaaDoorZax
set_option maxRecDepth 100000
set_option linter.unusedVariables false
set_option linter.unusedSimpArgs false
namespace Go.Proofs.YtlleandelcjhjaaDoor.RmWholePlain
open Go Go.RowKit Go.Proofs.YtlleandelcjhjaaDoor.K Go.Proofs.YtlleandelcjhjaaDoor.EqKit Go.Proofs.YtlleandelcjhjaaDoor.ArrKit Go.Proofs.YtlleandelcjhjaaDoor.HeldKit Go.Proofs.YtlleandelcjhjaaDoor.GKit Go.Proofs.YtlleandelcjhjaaDoor.GRow Go.Proofs.YtlleandelcjhjaaDoor.DiskKit Go.Proofs.YtlleandelcjhjaaDoor.RmKit Go.Proofs.YtlleandelcjhjaaDoor.MapKit Go.Proofs.YtlleandelcjhjaaDoor.RmRight Go.Proofs.YtlleandelcjhjaaDoor.RmRRight Go.Proofs.YtlleandelcjhjaaDoor.RmTab Go.Proofs.YtlleandelcjhjaaDoor.RmPut Go.Proofs.YtlleandelcjhjaaDoor.RmAsk Go.Proofs.YtlleandelcjhjaaDoor.RmSame Go.Proofs.YtlleandelcjhjaaDoor.DiskRRead Go.Proofs.YtlleandelcjhjaaDoor.RmRead Go.Proofs.YtlleandelcjhjaaDoor.RmReads Go.Proofs.YtlleandelcjhjaaDoor.DiskAct Go.Proofs.YtlleandelcjhjaaDoor.DiskLay Go.Proofs.YtlleandelcjhjaaDoor.RmSpare Go.Proofs.YtlleandelcjhjaaDoor.RmKeep Go.Proofs.YtlleandelcjhjaaDoor.RmFirst Go.Proofs.YtlleandelcjhjaaDoor.RmAliveP Go.Proofs.YtlleandelcjhjaaDoor.RmWrX Go.Proofs.YtlleandelcjhjaaDoor.RmWrite Go.Proofs.YtlleandelcjhjaaDoor.RmTake Go.Proofs.YtlleandelcjhjaaDoor.RmTakePut Go.Proofs.YtlleandelcjhjaaDoor.RmBackPlain Go.Proofs.YtlleandelcjhjaaDoor.RmCrashPlain Go.Proofs.YtlleandelcjhjaaDoor.RmLoadX
/-- where the i-th of the four sectors of tables lies -/
def tsec (h : Int) (i : Nat) : Int := ((i / 2 : Nat) : Int) * h + ((i % 2 : Nat) : Int)
theorem tsec_cases (h : Int) {i : Nat} (hi : i < 4) : (i % 2 = 0 ∧ tsec h i = 0) ∨ (i % 2 = 1 ∧ tsec h i = 1) ∨ (i % 2 = 0 ∧ tsec h i = h) ∨ (i % 2 = 1 ∧ tsec h i = h + 1) := by
  have : i = 0 ∨ i = 1 ∨ i = 2 ∨ i = 3 := by omega
  rcases this with rfl | rfl | rfl | rfl <;> simp [tsec]
theorem tsec_lt {d : Dk} (hh : half (d.S.length : Int) ≠ 0) {i : Nat} (hi : i < 4) : 0 ≤ tsec (half (d.S.length : Int)) i ∧ tsec (half (d.S.length : Int)) i < d.S.length := by
  have hl := half_lo hh
  rcases tsec_cases (half (d.S.length : Int)) hi with ⟨-, e⟩ | ⟨-, e⟩ | ⟨-, e⟩ | ⟨-, e⟩ <;> omega
/-- the table that bytes tell -/
def candV (s : Int) (i : Nat) (v : List UInt8 × Int) : Option Rm :=
  if v.2 = 0 ∧ takE v.1 s = 0 ∧ (takX v.1 s).gen % 2 = (i % 2 : Nat) then some (takX v.1 s) else none
theorem cand_v {D : Dk} (hf : formedB D = true) (hu : D.down = false) (hh : half (D.S.length : Int) ≠ 0) {i : Nat} (hi : i < 4) : cand D i = candV (D.S.length : Int) i (vw D (tsec (half (D.S.length : Int)) i)) := by
  have hv : hvI D = half (D.S.length : Int) := by unfold hvI; rw [if_pos hf]
  have hr : rightB D (tsec (half (D.S.length : Int)) i) = true := by
    unfold rightB; rw [hf, Bool.and_true]; exact thereB_true.2 (tsec_lt hh hi)
  have e : readX D (((i / 2 : Nat) : Int) * hvI D + ((i % 2 : Nat) : Int)) = vw D (tsec (half (D.S.length : Int)) i) := by
    rw [hv]
    show readX D (tsec (half (D.S.length : Int)) i) = _
    rw [readX_vw, if_neg (by rw [hr]; decide), if_neg (by rw [hu]; decide)]
  unfold cand candV
  rw [e]
theorem load_parts {d : Dk} {m : Rm} (h : loadX d = (m, 0)) : formedB d = true ∧ d.down = false ∧ half (d.S.length : Int) ≠ 0 ∧ bestOf d 4 = some m := by
  unfold loadX at h
  split at h
  · have := congrArg (fun x => x.2) h; cases this
  · rename_i hv
    split at h
    · have := congrArg (fun x => x.2) h; cases this
    · rename_i hd
      split at h
      · have := congrArg (fun x => x.2) h; cases this
      · rename_i x hx
        have e : x = m := congrArg (fun x => x.1) h
        subst e
        unfold hvI at hv
        split at hv
        · rename_i hf
          exact ⟨hf, by simpa using hd, hv, hx⟩
        · exact absurd rfl hv
theorem load_of {D : Dk} {m : Rm} (hf : formedB D = true) (hu : D.down = false) (hh : half (D.S.length : Int) ≠ 0) (hb : bestOf D 4 = some m) : loadX D = (m, 0) := by
  have hv : hvI D = half (D.S.length : Int) := by unfold hvI; rw [if_pos hf]
  unfold loadX
  rw [hv, if_neg hh, if_neg (by rw [hu]; decide), hb]
theorem best_same {d D : Dk} : ∀ k, (∀ i, i < k → cand D i = cand d i) → bestOf D k = bestOf d k
  | 0, _ => rfl
  | k + 1, h => by rw [bestOf, bestOf, best_same k (fun i hi => h i (by omega)), h k (by omega)]
/-- what one of the four sectors may read as: as it did, or as the next table's bytes -/
def OKV (d : Dk) (nx : Rm) (al : Prop) (i : Nat) (v : List UInt8 × Int) : Prop := v = vw d (tsec (half (d.S.length : Int)) i) ∨ (al ∧ v = (tabL nx, 0) ∧ nx.gen % 2 = (i % 2 : Nat))
section
variable {d D : Dk} {nx m : Rm} {al : Prop} (hd : loadX d = (m, 0)) (hf : formedB D = true) (hu : D.down = false) (hl : D.S.length = d.S.length)
include hd hf hu hl
theorem load_same (hv : ∀ i, i < 4 → vw D (tsec (half (d.S.length : Int)) i) = vw d (tsec (half (d.S.length : Int)) i)) : loadX D = (m, 0) := by
  obtain ⟨a1, a2, a3, a4⟩ := load_parts hd
  have hh : half (D.S.length : Int) ≠ 0 := by rw [hl]; exact a3
  refine load_of hf hu hh ((best_same 4 fun i hi => ?_).trans a4)
  rw [cand_v hf hu hh hi, cand_v a1 a2 a3 hi, hl, hv i hi]
theorem load_next (hv : ∀ i, i < 4 → OKV d nx al i (vw D (tsec (half (d.S.length : Int)) i))) (ht : tabB nx (d.S.length : Int) = true) (hg : nx.gen = m.gen + 1) {j : Nat} (hj : j < 4) (hj1 : vw D (tsec (half (d.S.length : Int)) j) = (tabL nx, 0)) (hj2 : nx.gen % 2 = (j % 2 : Nat)) : loadX D = (nx, 0) := by
  obtain ⟨a1, a2, a3, a4⟩ := load_parts hd
  have hh : half (D.S.length : Int) ≠ 0 := by rw [hl]; exact a3
  have hcn : ∀ i, nx.gen % 2 = (i % 2 : Nat) → candV (d.S.length : Int) i (tabL nx, 0) = some nx := fun i hi => by
    have htp := take_put ht
    unfold candV
    rw [htp.1, htp.2, if_pos ⟨rfl, rfl, hi⟩]
  have hcj : cand D j = some nx := by rw [cand_v hf hu hh hj, hl, hj1]; exact hcn j hj2
  refine load_of hf hu hh ?_
  cases hb : bestOf D 4 with
  | none => exact absurd hb (best_max.best_some D 4 j hj nx hcj)
  | some x =>
    obtain ⟨⟨i, hi, hci⟩, hmax⟩ := best_max D 4 x hb
    have hge := hmax j hj nx hcj
    rcases hv i hi with h | ⟨-, h, h2⟩
    · have e : cand d i = some x := by rw [cand_v a1 a2 a3 hi, ← h, ← hl, ← hci, cand_v hf hu hh hi, hl]
      have := (best_max d 4 m a4).2 i hi x e
      omega
    · have e : cand D i = some nx := by rw [cand_v hf hu hh hi, hl, h]; exact hcn i h2
      rw [e] at hci
      exact hci.symm
theorem load_one (hv : ∀ i, i < 4 → OKV d nx al i (vw D (tsec (half (d.S.length : Int)) i))) (ht : al → tabB nx (d.S.length : Int) = true ∧ nx.gen = m.gen + 1) : loadX D = (m, 0) ∨ (al ∧ loadX D = (nx, 0)) := by
  by_cases hex : ∃ j, j < 4 ∧ al ∧ vw D (tsec (half (d.S.length : Int)) j) = (tabL nx, 0) ∧ nx.gen % 2 = (j % 2 : Nat)
  · obtain ⟨j, hj, ha, h1, h2⟩ := hex
    exact .inr ⟨ha, load_next hd hf hu hl hv (ht ha).1 (ht ha).2 hj h1 h2⟩
  · refine .inl (load_same hd hf hu hl fun i hi => ?_)
    rcases hv i hi with h | ⟨ha, h1, h2⟩
    · exact h
    · exact absurd ⟨i, hi, ha, h1, h2⟩ hex
end
/-- what stays through all acts of a write -/
structure Inv (d : Dk) (nx : Rm) (al : Prop) (D : Dk) : Prop where
  f : formedB D = true
  l : D.S.length = d.S.length
  nw : ∀ i, i < 4 → (secAt D (tsec (half (d.S.length : Int)) i)).nw = false
  s : ∀ i, i < 4 → OKV d nx al i (vw { D with C := [] } (tsec (half (d.S.length : Int)) i))
  c : ∀ i, i < 4 → ∀ x ∈ D.C, x.pos = tsec (half (d.S.length : Int)) i → OKV d nx al i (x.data, 0)
theorem OKV.weaken {d : Dk} {nx nx' : Rm} {al : Prop} {i : Nat} {v : List UInt8 × Int} (h : OKV d nx False i v) : OKV d nx' al i v := by
  rcases h with h | ⟨h, -⟩
  · exact .inl h
  · exact h.elim
theorem lastAt_mem : ∀ (k : Nat) (l : List Wri) (q : Int) (b : List UInt8), l.length = k → lastAt l q = some b → ∃ x ∈ l, x.pos = q ∧ x.data = b
  | 0, l, q, b, hk, h => by
    have : l = [] := List.length_eq_zero_iff.1 hk
    subst this; cases h
  | k + 1, l, q, b, hk, h => by
    have hne : l ≠ [] := by rintro rfl; cases hk
    rw [← List.dropLast_concat_getLast hne, lastAt_snoc] at h
    split at h
    · rename_i e
      exact ⟨_, List.getLast_mem hne, e, by simpa using h⟩
    · obtain ⟨x, hx, h1, h2⟩ := lastAt_mem k l.dropLast q b (by rw [List.length_dropLast]; omega) h
      exact ⟨x, (List.dropLast_sublist l).subset hx, h1, h2⟩
theorem lastK_mem {C : List Wri} {keep : Nat → Bool} {q : Int} {b : List UInt8} : ∀ k, k ≤ C.length → lastK C keep q k = some b → ∃ x ∈ C, x.pos = q ∧ x.data = b
  | 0, _, h => by cases h
  | k + 1, hk, h => by
    rw [lastK_succ (by omega)] at h
    split at h
    · rename_i e
      exact ⟨_, List.getElem_mem (by omega), e.2, by simpa using h⟩
    · exact lastK_mem k (by omega) h
theorem vw_nil (D : Dk) (q : Int) : vw { D with C := [] } q = if (secAt D q).nr then (Z128, 2) else ((secAt D q).data, 0) := rfl
section
variable {d D : Dk} {nx : Rm} {al : Prop}
theorem Inv.weaken {nx' : Rm} (h : Inv d nx False D) : Inv d nx' al D := ⟨h.f, h.l, h.nw, fun i hi => (h.s i hi).weaken, fun i hi x hx e => (h.c i hi x hx e).weaken⟩
theorem Inv.vw (h : Inv d nx al D) {i : Nat} (hi : i < 4) : OKV d nx al i (vw D (tsec (half (d.S.length : Int)) i)) := by
  have h1 := h.s i hi
  rw [vw_nil] at h1
  unfold RmBackPlain.vw
  cases hL : lastAt D.C (tsec (half (d.S.length : Int)) i) with
  | none => exact h1
  | some b =>
    obtain ⟨x, hx, e1, e2⟩ := lastAt_mem _ _ _ _ rfl hL
    have := h.c i hi x hx e1
    rwa [e2] at this
theorem Inv.crash (hh : half (d.S.length : Int) ≠ 0) (h : Inv d nx al D) (keep : List Bool) {i : Nat} (hi : i < 4) : OKV d nx al i (RmBackPlain.vw (crashD D keep) (tsec (half (d.S.length : Int)) i)) := by
  rw [vw_crash h.f keep (by have := tsec_lt hh hi; rw [h.l]; exact this)]
  have h1 := h.s i hi
  rw [vw_nil] at h1
  cases hL : lastK D.C (fun i => keep.getD i false) (tsec (half (d.S.length : Int)) i) D.C.length with
  | none => exact h1
  | some b =>
    obtain ⟨x, hx, e1, e2⟩ := lastK_mem _ (Nat.le_refl _) hL
    have := h.c i hi x hx e1
    rwa [e2] at this
theorem Inv.same {E : Dk} (h : Inv d nx al D) (hS : E.S = D.S) (hC : E.C = D.C) : Inv d nx al E := by
  have hs : ∀ q, secAt E q = secAt D q := fun q => by unfold secAt; rw [hS]
  refine ⟨?_, by rw [hS]; exact h.l, fun i hi => by rw [hs]; exact h.nw i hi, fun i hi => ?_, fun i hi x hx e => h.c i hi x (by rwa [hC] at hx) e⟩
  · have := h.f; unfold formedB at this ⊢; rw [hS, hC]; exact this
  · rw [vw_nil, hs]; have := h.s i hi; rwa [vw_nil] at this
theorem Inv.act (h : Inv d nx al D) : Inv d nx al (actD D) := h.same (actD_S2 D).1 (actD_S2 D).2
theorem Inv.write (h : Inv d nx al D) {q : Int} {b : List UInt8} (hq : ∀ i, i < 4 → q = tsec (half (d.S.length : Int)) i → OKV d nx al i (b, 0)) : Inv d nx al (writeD D q b) := by
  by_cases h0 : writeE D q = 0
  · have hS := writeD_S D q b
    have hC := wr0_C h0 b
    have hs : ∀ z, secAt (writeD D q b) z = secAt D z := fun z => by unfold secAt; rw [hS]
    refine ⟨formed_wr h.f, by rw [hS]; exact h.l, fun i hi => by rw [hs]; exact h.nw i hi, fun i hi => ?_, fun i hi x hx e => ?_⟩
    · rw [vw_nil, hs]; have := h.s i hi; rwa [vw_nil] at this
    · rw [hC, List.mem_append, List.mem_singleton] at hx
      rcases hx with hx | rfl
      · exact h.c i hi x hx e
      · exact hq i hi e
  · unfold writeE at h0
    unfold writeD
    split
    · exact h
    · rename_i h1
      rw [if_neg h1] at h0
      split
      · exact h.act
      · rename_i h2
        rw [if_neg h2] at h0
        split
        · exact h.act
        · rename_i h3
          rw [if_neg h3] at h0
          exact absurd rfl h0
theorem Inv.flush (hh : half (d.S.length : Int) ≠ 0) (h : Inv d nx al D) : Inv d nx al (flushD D) := by
  by_cases h0 : flushE D = 0
  · obtain ⟨e, -, -⟩ := flush_0 h0
    have ha := actD_S2 D
    have hsa : ∀ i, i < 4 → (secAt (flushD D) (tsec (half (d.S.length : Int)) i)).nw = (secAt D (tsec (half (d.S.length : Int)) i)).nw := fun i hi => by
      have hl := laid_at (S := D.S) (C := D.C) (fun i hi => formed_at h.f hi) (q := tsec (half (d.S.length : Int)) i) (by have := tsec_lt hh hi; rw [h.l]; exact this) D.C.length (Nat.le_refl _)
      rw [List.take_length] at hl
      have hs : secAt (layD (actD D) (fun _ => true)) (tsec (half (d.S.length : Int)) i) = (laid D.S D.C (fun _ => true) D.C.length).getD (tsec (half (d.S.length : Int)) i).toNat Zs := by
        unfold secAt layD
        rw [ha.1, ha.2]
      rw [e, hs, hl]
      cases lastAt D.C (tsec (half (d.S.length : Int)) i) <;> rfl
    refine ⟨formed_flush h0, by rw [flushD_S]; exact h.l, fun i hi => by rw [hsa i hi]; exact h.nw i hi, fun i hi => ?_, fun i hi x hx e => ?_⟩
    · have hC := flushD_C0 h0
      have e2 : RmBackPlain.vw { flushD D with C := [] } (tsec (half (d.S.length : Int)) i) = RmBackPlain.vw (flushD D) (tsec (half (d.S.length : Int)) i) := vw_same (d := flushD D) (d' := { flushD D with C := [] }) rfl hC.symm _
      rw [e2, vw_flush h0 (by have := tsec_lt hh hi; rw [h.l]; exact this)]
      exact h.vw hi
    · rw [flushD_C0 h0] at hx; cases hx
  · unfold flushE at h0
    unfold flushD
    split
    · exact h
    · rename_i h1
      rw [if_neg h1] at h0
      split
      · exact h.act
      · rename_i h2
        unfold actE at h0 h2
        split at h0
        · rename_i h3; rw [if_pos h3] at h2; exact absurd rfl h2
        · exact absurd rfl h0
theorem Inv.spare (hh : half (d.S.length : Int) ≠ 0) {m : Rm} {b : List UInt8} : ∀ (k : Nat) (q : Int) (D : Dk), 2 * half (d.S.length : Int) ≤ q → Inv d nx al D → Inv d nx al (spareR m b k q D).2.2
  | 0, q, D, hq, h => h
  | k + 1, q, D, hq, h => by
    have hw : Inv d nx al (writeD D q b) := h.write fun i hi e => by
      have hl := half_lo hh
      rcases tsec_cases (half (d.S.length : Int)) hi with ⟨-, e2⟩ | ⟨-, e2⟩ | ⟨-, e2⟩ | ⟨-, e2⟩ <;> omega
    rw [spareR]
    split
    · exact Inv.spare hh k (q + 1) D (by omega) h
    · split
      · exact Inv.spare hh k (q + 1) _ (by omega) hw
      · exact hw
theorem Inv.keepX (hh : half (d.S.length : Int) ≠ 0) (h : Inv d nx al D) (ha : tabB nx (d.S.length : Int) = true → al) : Inv d nx al (keepX D nx).2 := by
  unfold RmKeep.keepX
  split
  · rename_i ht
    rw [h.l] at ht ⊢
    have hl := half_lo hh
    have w1 : Inv d nx al (writeD D (nx.gen % 2) (tabL nx)) := h.write fun i hi e => .inr ⟨ha ht, rfl, by
      rcases tsec_cases (half (d.S.length : Int)) hi with ⟨e1, e2⟩ | ⟨e1, e2⟩ | ⟨e1, e2⟩ | ⟨e1, e2⟩ <;> omega⟩
    have w2 : Inv d nx al (writeD (writeD D (nx.gen % 2) (tabL nx)) (half (d.S.length : Int) + nx.gen % 2) (tabL nx)) := w1.write fun i hi e => .inr ⟨ha ht, rfl, by
      rcases tsec_cases (half (d.S.length : Int)) hi with ⟨e1, e2⟩ | ⟨e1, e2⟩ | ⟨e1, e2⟩ | ⟨e1, e2⟩ <;> omega⟩
    split
    · exact w1
    · split
      · exact w2
      · split
        · exact w2
        · exact w2.flush hh
  · exact h
end
/-- two disks alike, the one of which never loses its power -/
structure Sim (y z : Dk) : Prop where
  S : z.S = y.S
  C : z.C = y.C
  yu : y.down = false
  yf : y.fuse < 0
  zu : z.down = false
section
variable {y z : Dk} (h : Sim y z)
include h
theorem Sim.formed : formedB z = formedB y := by unfold formedB; rw [h.S, h.C]
theorem Sim.right (q : Int) : rightB z q = rightB y q := by unfold rightB; rw [h.S, h.formed]
theorem Sim.sec (q : Int) : secAt z q = secAt y q := by unfold secAt; rw [h.S]
theorem Sim.yact : actE y = 0 ∧ actD y = y := by
  have h1 := h.yf
  unfold actE actD
  rw [if_neg (by rw [h.yu]; rintro (e | e); cases e; omega), if_neg (by rw [h.yu]; decide), if_neg (by omega), if_neg (by omega)]
  exact ⟨rfl, rfl⟩
theorem Sim.act : actE z = 3 ∨ (actE z = 0 ∧ Sim y (actD z)) := by
  by_cases e : actE z = 3
  · exact .inl e
  · refine .inr ⟨?_, ⟨(actD_S2 z).1.trans h.S, (actD_S2 z).2.trans h.C, h.yu, h.yf, (act_up e).2⟩⟩
    unfold actE at e ⊢
    split
    · rename_i h1; rw [if_pos h1] at e; exact absurd rfl e
    · rfl
theorem Sim.write (q : Int) (b : List UInt8) : writeE y q ≠ 3 ∧ (writeE z q = 3 ∨ (writeE z q = writeE y q ∧ Sim (writeD y q b) (writeD z q b))) := by
  have ya := h.yact
  have n3 : ¬ actE y = 3 := by rw [ya.1]; decide
  by_cases hr : rightB y q = false
  · have hr2 : rightB z q = false := by rw [h.right]; exact hr
    have e1 : writeE y q = 1 := by unfold writeE; rw [if_pos hr]
    have e2 : writeE z q = 1 := by unfold writeE; rw [if_pos hr2]
    have e3 : writeD y q b = y := by unfold writeD; rw [if_pos hr]
    have e4 : writeD z q b = z := by unfold writeD; rw [if_pos hr2]
    rw [e1, e2, e3, e4]
    exact ⟨by decide, .inr ⟨rfl, h⟩⟩
  · have hr2 : ¬ rightB z q = false := by rw [h.right]; exact hr
    by_cases hn : (secAt y q).nw = true
    · have hn2 : (secAt z q).nw = true := by rw [h.sec]; exact hn
      have e1 : writeE y q = 2 := by unfold writeE; rw [if_neg hr, if_neg n3, if_pos hn]
      have e3 : writeD y q b = y := by unfold writeD; rw [if_neg hr, if_neg n3, if_pos hn, ya.2]
      rw [e1, e3]
      refine ⟨by decide, ?_⟩
      rcases h.act with e | ⟨e, hs⟩
      · exact .inl (by unfold writeE; rw [if_neg hr2, if_pos e])
      · have z3 : ¬ actE z = 3 := by rw [e]; decide
        have e2 : writeE z q = 2 := by unfold writeE; rw [if_neg hr2, if_neg z3, if_pos hn2]
        have e4 : writeD z q b = actD z := by unfold writeD; rw [if_neg hr2, if_neg z3, if_pos hn2]
        rw [e2, e4]
        exact .inr ⟨rfl, hs⟩
    · have hn2 : ¬ (secAt z q).nw = true := by rw [h.sec]; exact hn
      have e1 : writeE y q = 0 := by unfold writeE; rw [if_neg hr, if_neg n3, if_neg hn]
      have e3 : writeD y q b = { y with C := y.C ++ [⟨q, b⟩] } := by unfold writeD; rw [if_neg hr, if_neg n3, if_neg hn, ya.2]
      rw [e1, e3]
      refine ⟨by decide, ?_⟩
      rcases h.act with e | ⟨e, hs⟩
      · exact .inl (by unfold writeE; rw [if_neg hr2, if_pos e])
      · have z3 : ¬ actE z = 3 := by rw [e]; decide
        have e2 : writeE z q = 0 := by unfold writeE; rw [if_neg hr2, if_neg z3, if_neg hn2]
        have e4 : writeD z q b = { actD z with C := z.C ++ [⟨q, b⟩] } := by unfold writeD; rw [if_neg hr2, if_neg z3, if_neg hn2]
        rw [e2, e4]
        exact .inr ⟨rfl, ⟨hs.S, by show z.C ++ _ = y.C ++ _; rw [h.C], h.yu, h.yf, hs.zu⟩⟩
theorem Sim.flush : flushE z = 3 ∨ (flushE z = flushE y ∧ Sim (flushD y) (flushD z)) := by
  have ya := h.yact
  have n3 : ¬ actE y = 3 := by rw [ya.1]; decide
  by_cases hr : rightB y 0 = false
  · have hr2 : rightB z 0 = false := by rw [h.right]; exact hr
    have e1 : flushE y = 1 := by unfold flushE; rw [if_pos hr]
    have e2 : flushE z = 1 := by unfold flushE; rw [if_pos hr2]
    have e3 : flushD y = y := by unfold flushD; rw [if_pos hr]
    have e4 : flushD z = z := by unfold flushD; rw [if_pos hr2]
    rw [e1, e2, e3, e4]
    exact .inr ⟨rfl, h⟩
  · have hr2 : ¬ rightB z 0 = false := by rw [h.right]; exact hr
    have e1 : flushE y = 0 := by unfold flushE; rw [if_neg hr, ya.1]
    have e3 : flushD y = layD y (fun _ => true) := by unfold flushD; rw [if_neg hr, if_neg n3, ya.2]
    rcases h.act with e | ⟨e, hs⟩
    · exact .inl (by unfold flushE; rw [if_neg hr2, e])
    · have z3 : ¬ actE z = 3 := by rw [e]; decide
      have e2 : flushE z = 0 := by unfold flushE; rw [if_neg hr2, e]
      have e4 : flushD z = layD (actD z) (fun _ => true) := by unfold flushD; rw [if_neg hr2, if_neg z3]
      rw [e1, e2, e3, e4]
      refine .inr ⟨rfl, ⟨?_, rfl, h.yu, h.yf, hs.zu⟩⟩
      show laid _ _ _ _ = laid _ _ _ _
      rw [hs.S, hs.C]
end
theorem Sim.spare {m : Rm} {b : List UInt8} : ∀ (k : Nat) (q : Int) (y z : Dk), Sim y z → (spareR m b k q z).2.1 = 3 ∨ ((spareR m b k q z).1 = (spareR m b k q y).1 ∧ (spareR m b k q z).2.1 = (spareR m b k q y).2.1 ∧ Sim (spareR m b k q y).2.2 (spareR m b k q z).2.2)
  | 0, q, y, z, h => .inr ⟨rfl, rfl, h⟩
  | k + 1, q, y, z, h => by
    rw [spareR, spareR]
    split
    · exact Sim.spare k (q + 1) y z h
    · obtain ⟨h0, h1 | ⟨h1, h2⟩⟩ := h.write q b
      · rw [if_neg (by rw [h1]; decide)]
        exact .inl h1
      · rw [h1]
        split
        · exact Sim.spare k (q + 1) _ _ h2
        · exact .inr ⟨rfl, rfl, h2⟩
theorem Sim.asked {y z : Dk} (h : Sim y z) (m : Rm) (n : Int) : askedB z m n = askedB y m n := by
  unfold askedB hvI
  rw [h.formed, h.S]
/-- a table that is right is kept, where the power stays and its sectors are well -/
theorem keep_fine {d y : Dk} {nx nx' : Rm} {al : Prop} (hh : half (d.S.length : Int) ≠ 0) (h : Inv d nx' al y) (hy : y.down = false ∧ y.fuse < 0) (ht : tabB nx (d.S.length : Int) = true) : (keepX y nx).1 = 0 := by
  have hs : Sim y y := ⟨rfl, rfl, hy.1, hy.2, hy.1⟩
  have hl := half_lo hh
  have hsec : ∀ g : Int, (g = nx.gen % 2 ∨ g = half (d.S.length : Int) + nx.gen % 2) → ∃ i, i < 4 ∧ g = tsec (half (d.S.length : Int)) i := by
    intro g hg
    have hm : nx.gen % 2 = 0 ∨ nx.gen % 2 = 1 := by omega
    rcases hg with rfl | rfl <;> rcases hm with e | e <;> rw [e]
    · exact ⟨0, by omega, by simp [tsec]⟩
    · exact ⟨1, by omega, by simp [tsec]⟩
    · exact ⟨2, by omega, by simp [tsec]⟩
    · exact ⟨3, by omega, by simp [tsec]⟩
  have hw : ∀ (D : Dk), Sim D D → D.S = y.S → formedB D = true → ∀ g, (g = nx.gen % 2 ∨ g = half (d.S.length : Int) + nx.gen % 2) → writeE D g = 0 := by
    intro D hD hS hF g hg
    obtain ⟨i, hi, e⟩ := hsec g hg
    have hr : rightB D g = true := by
      unfold rightB; rw [hF, Bool.and_true, hS, h.l, e]; exact thereB_true.2 (tsec_lt hh hi)
    have hsx : secAt D g = secAt y g := by unfold secAt; rw [hS]
    unfold writeE
    rw [if_neg (by rw [hr]; decide), hD.yact.1, if_neg (by decide), hsx, e, h.nw i hi]; rfl
  have k1 := hw y hs rfl h.f _ (.inl rfl)
  have s1 : Sim (writeD y (nx.gen % 2) (tabL nx)) (writeD y (nx.gen % 2) (tabL nx)) := by
    rcases (hs.write (nx.gen % 2) (tabL nx)).2 with e | e
    · rw [k1] at e; cases e
    · exact e.2
  have f1 : formedB (writeD y (nx.gen % 2) (tabL nx)) = true := formed_wr h.f
  have k2 := hw _ s1 (writeD_S _ _ _) f1 _ (.inr rfl)
  have s2 : Sim (writeD (writeD y (nx.gen % 2) (tabL nx)) (half (d.S.length : Int) + nx.gen % 2) (tabL nx)) (writeD (writeD y (nx.gen % 2) (tabL nx)) (half (d.S.length : Int) + nx.gen % 2) (tabL nx)) := by
    rcases (s1.write (half (d.S.length : Int) + nx.gen % 2) (tabL nx)).2 with e | e
    · rw [k2] at e; cases e
    · exact e.2
  have f2 : formedB (writeD (writeD y (nx.gen % 2) (tabL nx)) (half (d.S.length : Int) + nx.gen % 2) (tabL nx)) = true := formed_wr f1
  rw [← h.l] at ht k2 s2 f2
  rw [keepX_f ht rfl rfl k1 rfl k2 rfl (.inl rfl) (.inl rfl) (by rintro ⟨e, -⟩; cases e)]
  unfold flushE
  rw [right0, f2, s2.yact.1]; rfl
/-- a table that is right and is not kept: the power went -/
theorem keep_three {d D : Dk} {nx : Rm} (hl : D.S.length = d.S.length) (hh : half (d.S.length : Int) ≠ 0) (hk : (keepX D nx).1 ≠ 0) (ht : tabB nx (d.S.length : Int) = true) (hnw : ∀ g, (g = nx.gen % 2 ∨ g = half (d.S.length : Int) + nx.gen % 2) → (secAt D g).nw = false) (hf : formedB D = true) : (keepX D nx).1 = 3 := by
  have hlo := half_lo hh
  have hw : ∀ (E : Dk) (g : Int), E.S = D.S → formedB E = true → (g = nx.gen % 2 ∨ g = half (d.S.length : Int) + nx.gen % 2) → writeE E g = 0 ∨ writeE E g = 3 := fun E g hS hF hg => by
    have hsx : secAt E g = secAt D g := by unfold secAt; rw [hS]
    have hr : rightB E g = true := by
      unfold rightB; rw [hF, Bool.and_true, hS, hl]; exact thereB_true.2 (by omega)
    unfold writeE
    rw [if_neg (by rw [hr]; decide)]
    split
    · exact .inr rfl
    · rw [hsx, hnw g hg]; exact .inl rfl
  have k1 := hw D _ rfl hf (.inl rfl)
  have k2 := hw (writeD D (nx.gen % 2) (tabL nx)) _ (writeD_S _ _ _) (formed_wr hf) (.inr rfl)
  rw [← hl] at ht k2
  rcases k1 with k1 | k1
  · rcases k2 with k2 | k2
    · rw [keepX_f ht rfl rfl k1 rfl k2 rfl (.inl rfl) (.inl rfl) (by rintro ⟨e, -⟩; cases e)] at hk ⊢
      have hf2 : formedB (writeD (writeD D (nx.gen % 2) (tabL nx)) (half (D.S.length : Int) + nx.gen % 2) (tabL nx)) = true := formed_wr (formed_wr hf)
      have hfe : flushE (writeD (writeD D (nx.gen % 2) (tabL nx)) (half (D.S.length : Int) + nx.gen % 2) (tabL nx)) = actE (writeD (writeD D (nx.gen % 2) (tabL nx)) (half (D.S.length : Int) + nx.gen % 2) (tabL nx)) := by unfold flushE; rw [right0, hf2]; rfl
      show flushE _ = 3
      have hk2 : actE (writeD (writeD D (nx.gen % 2) (tabL nx)) (half (D.S.length : Int) + nx.gen % 2) (tabL nx)) ≠ 0 := by rw [← hfe]; exact hk
      rw [hfe]
      unfold actE at hk2 ⊢
      split
      · rfl
      · rename_i h; rw [if_neg h] at hk2; exact absurd rfl hk2
    · rw [keepX_2 ht rfl rfl k1 rfl k2 rfl (.inl rfl) (by decide) (by decide)]
  · rw [keepX_1 ht rfl rfl k1 rfl (by decide) (by decide)]
/-- a table that was kept is read from its second sector -/
theorem keep_read {d D : Dk} {nx : Rm} (hl : D.S.length = d.S.length) (hh : half (d.S.length : Int) ≠ 0) (hk : (keepX D nx).1 = 0) (hnw : ∀ g, (g = nx.gen % 2 ∨ g = half (d.S.length : Int) + nx.gen % 2) → (secAt D g).nw = false) : vw (keepX D nx).2 (half (d.S.length : Int) + nx.gen % 2) = (tabL nx, 0) ∧ (keepX D nx).2.C = [] := by
  have hlo := half_lo hh
  have ht : tabB nx (D.S.length : Int) = true := by
    cases ht : tabB nx (D.S.length : Int) with
    | true => rfl
    | false => rw [keepX_no ht] at hk; cases hk
  have hw : ∀ (E : Dk) (g : Int), E.S = D.S → (g = nx.gen % 2 ∨ g = half (d.S.length : Int) + nx.gen % 2) → writeE E g ≠ 2 := fun E g hS hg e => by
    unfold writeE at e
    have hsx : secAt E g = secAt D g := by unfold secAt; rw [hS]
    split at e
    · cases e
    · split at e
      · cases e
      · rw [hsx, hnw g hg] at e; cases e
  have k2 := hw (writeD D (nx.gen % 2) (tabL nx)) _ (writeD_S _ _ _) (.inr rfl)
  have k1 := hw D _ rfl (.inl rfl)
  by_cases e1 : writeE D (nx.gen % 2) = 0
  · rw [← hl] at k2
    by_cases e2 : writeE (writeD D (nx.gen % 2) (tabL nx)) (half (D.S.length : Int) + nx.gen % 2) = 0
    · have e3 := keepX_f ht rfl rfl e1 rfl e2 rfl (.inl rfl) (.inl rfl) (by rintro ⟨e, -⟩; cases e)
      rw [e3] at hk ⊢
      rw [← hl] at hlo ⊢
      refine ⟨?_, flushD_C0 hk⟩
      show vw (flushD _) _ = _
      rw [vw_flush hk (by rw [writeD_S, writeD_S]; omega), vw_write_at e2]
    · rw [keepX_2 ht rfl rfl e1 rfl rfl rfl (.inl rfl) e2 k2] at hk
      exact absurd hk e2
  · rw [keepX_1 ht rfl rfl rfl rfl e1 k1] at hk
    exact absurd hk e1
theorem crash_up {D : Dk} (hf : formedB D = true) (keep : List Bool) : formedB (crashD D keep) = true ∧ (crashD D keep).down = false ∧ (crashD D keep).S.length = D.S.length := by
  have hr : rightB D 0 = true := by rw [right0]; exact hf
  have e : crashD D keep = { layD D (fun i => keep.getD i false) with fuse := -1, down := false } := by
    unfold crashD; rw [if_neg (by rw [hr]; decide)]
  have hS : (layD D (fun i => keep.getD i false)).S.length = D.S.length := laid_len _ _ _ _
  rw [e]
  refine ⟨?_, rfl, hS⟩
  unfold formedB at hf ⊢
  rw [Bool.and_eq_true] at hf
  show (allThere (layD D _).S.length [] && decide (1 ≤ (layD D _).S.length ∧ (layD D _).S.length ≤ 4096)) = true
  rw [hS, hf.2]; rfl
theorem crash_none {D : Dk} (hf : formedB D = true) (hC : D.C = []) (keep : List Bool) {q : Int} (hq : 0 ≤ q ∧ q < D.S.length) : vw (crashD D keep) q = vw D q := by
  rw [vw_crash hf keep hq]
  unfold vw
  rw [hC]
  rfl
/-- BEHIND A CRASH AT ANY ACT OF A WRITE, KEEPING ANYTHING, THE TABLE THAT IS LOADED IS THE ONE FROM AHEAD OF IT, OR THE ONE BEHIND IT. -/
theorem whole {d y z : Dk} {m : Rm} {n : Int} {b : List UInt8} {keep : List Bool} (hd : loadX d = (m, 0)) (hC : d.C = []) (hnw : ∀ i, i < 4 → (secAt d (tsec (half (d.S.length : Int)) i)).nw = false) (hs : Sim y z) (hzS : z.S = d.S) (hzC : z.C = d.C) : ((wrX z m n b).1 = (wrX y m n b).1 ∨ (wrX z m n b).1 = 3) ∧ formedB (wrX z m n b).2.1 = true ∧ ∃ g, loadX (crashD (wrX z m n b).2.1 keep) = (g, 0) ∧ (g = m ∨ ((wrX y m n b).1 = 0 ∧ g = (wrX y m n b).2.2)) ∧ ((wrX z m n b).1 = 0 → g = (wrX y m n b).2.2) := by
  obtain ⟨a1, a2, hh, a4⟩ := load_parts hd
  have hl := half_lo hh
  have hIz : ∀ nx, Inv d nx False z := fun nx => by
    have : Inv d nx False d := ⟨a1, rfl, hnw, fun i hi => .inl (vw_same (d := d) (d' := { d with C := [] }) rfl hC.symm _), fun i hi x hx e => by rw [hC] at hx; cases hx⟩
    exact this.same hzS hzC
  have hSl : z.S.length = d.S.length := by rw [hzS]
  have hyl : y.S.length = d.S.length := by rw [← hs.S, hzS]
  -- where nothing of the four sectors changed
  have fin : ∀ D, Inv d ⟨0, []⟩ False D → formedB D = true ∧ loadX (crashD D keep) = (m, 0) := fun D hI => by
    have hc := crash_up hI.f keep
    refine ⟨hI.f, ?_⟩
    rcases load_one hd hc.1 hc.2.1 (hc.2.2.trans hI.l) (fun i hi => hI.crash hh keep hi) (fun e => e.elim) with e | ⟨e, -⟩
    · exact e
    · exact e.elim
  cases h1 : askedB y m n with
  | false =>
    have h1z : askedB z m n = false := by rw [hs.asked]; exact h1
    rw [wrX_no h1, wrX_no h1z]
    obtain ⟨f1, f2⟩ := fin _ (hIz _)
    exact ⟨.inl rfl, f1, m, f2, .inl rfl, fun e => by cases e⟩
  | true =>
    have h1z : askedB z m n = true := by rw [hs.asked]; exact h1
    have hap := asked_parts h1z
    rw [hSl] at hap
    have hI1 : ∀ nx, Inv d nx False (writeD z (atI m n) b) := fun nx => (hIz nx).write fun i hi e => by
      have f0 := at_free hap.1 hap.2.1 (g := 0) (by omega)
      have f1 := at_free hap.1 hap.2.1 (g := 1) (by omega)
      rcases tsec_cases (half (d.S.length : Int)) hi with ⟨-, e2⟩ | ⟨-, e2⟩ | ⟨-, e2⟩ | ⟨-, e2⟩ <;> omega
    obtain ⟨hw0, hw⟩ := hs.write (atI m n) b
    rcases hw with hw | ⟨hw, hs1⟩
    · rw [wrX_1 h1z rfl (by rw [hw]; decide)]
      obtain ⟨f1, f2⟩ := fin _ (hI1 _)
      exact ⟨.inr hw, f1, m, f2, .inl rfl, fun e => by rw [hw] at e; cases e⟩
    · by_cases h2 : writeE y (atI m n) = 2
      · rw [h2] at hw
        obtain ⟨⟨to, e3, z2⟩, h3⟩ : ∃ x, spareR m b 20 (2 * half (z.S.length : Int)) (writeD z (atI m n) b) = x := ⟨_, rfl⟩
        obtain ⟨⟨to', e3', y2⟩, h3'⟩ : ∃ x, spareR m b 20 (2 * half (y.S.length : Int)) (writeD y (atI m n) b) = x := ⟨_, rfl⟩
        have hI2 : ∀ nx, Inv d nx False z2 := fun nx => by
          have := Inv.spare hh (m := m) (b := b) 20 (2 * half (z.S.length : Int)) _ (by rw [hSl]; omega) (hI1 nx)
          rwa [h3] at this
        have hsp := Sim.spare (m := m) (b := b) 20 (2 * half (z.S.length : Int)) _ _ hs1
        rw [h3, hSl, ← hyl, h3'] at hsp
        simp only at hsp
        by_cases h30 : e3 = 0
        · obtain ⟨g1, g2, hs2⟩ : to = to' ∧ e3 = e3' ∧ Sim y2 z2 := by
            rcases hsp with e | e
            · omega
            · exact e
          subst g1 g2
          by_cases h17 : plc m n < 0 ∧ m.ps.length = 20
          · rw [wrX_3 h1z rfl hw h3 h30 h17, wrX_3 h1 rfl h2 h3' h30 h17]
            obtain ⟨f1, f2⟩ := fin _ (hI2 _)
            exact ⟨.inl rfl, f1, m, f2, .inl rfl, fun e => by cases e⟩
          · by_cases h4 : flushE z2 = 0
            · have hs3 : flushE y2 = 0 ∧ Sim (flushD y2) (flushD z2) := by
                rcases hs2.flush with e | e
                · omega
                · exact ⟨by omega, e.2⟩
              have hI3 : ∀ nx, Inv d nx False (flushD z2) := fun nx => (hI2 nx).flush hh
              have hI3y : Inv d ⟨0, []⟩ False (flushD y2) := (hI3 _).same hs3.2.S.symm hs3.2.C.symm
              have hg := nextM_gen m n to
              generalize hnx : nextM m n to = nx at hg
              cases ht : tabB nx (d.S.length : Int) with
              | false =>
                have hkz : keepX (flushD z2) nx = (1, flushD z2) := keepX_no (by rw [(hI3 nx).l]; exact ht)
                have hky : keepX (flushD y2) nx = (1, flushD y2) := keepX_no (by rw [hI3y.l]; exact ht)
                rw [wrX_5 h1z rfl hw h3 h30 h17 h4 (by rw [hnx, hkz]; show (1 : Int) ≠ 0; decide), wrX_5 h1 rfl h2 h3' h30 h17 hs3.1 (by rw [hnx, hky]; show (1 : Int) ≠ 0; decide), hnx, hkz, hky]
                obtain ⟨f1, f2⟩ := fin _ (hI3 _)
                exact ⟨.inl rfl, f1, m, f2, .inl rfl, fun e => by cases e⟩
              | true =>
                have hky : (keepX (flushD y2) nx).1 = 0 := keep_fine hh hI3y ⟨hs3.2.yu, hs3.2.yf⟩ ht
                rw [wrX_6 h1 rfl h2 h3' h30 h17 hs3.1 (by rw [hnx]; exact hky), hnx]
                have hI4 : Inv d nx True (keepX (flushD z2) nx).2 := Inv.keepX hh (hI3 nx).weaken (fun _ => trivial)
                have hc := crash_up hI4.f keep
                have hv : ∀ i, i < 4 → OKV d nx True i (vw (crashD (keepX (flushD z2) nx).2 keep) (tsec (half (d.S.length : Int)) i)) := fun i hi => hI4.crash hh keep hi
                by_cases h5 : (keepX (flushD z2) nx).1 = 0
                · rw [wrX_6 h1z rfl hw h3 h30 h17 h4 (by rw [hnx]; exact h5), hnx]
                  obtain ⟨j, hj, ej, ej2⟩ : ∃ j, j < 4 ∧ half (d.S.length : Int) + nx.gen % 2 = tsec (half (d.S.length : Int)) j ∧ nx.gen % 2 = (j % 2 : Nat) := by
                    have hm : nx.gen % 2 = 0 ∨ nx.gen % 2 = 1 := by omega
                    rcases hm with e | e <;> rw [e]
                    · exact ⟨2, by omega, by simp [tsec], by simp⟩
                    · exact ⟨3, by omega, by simp [tsec], by simp⟩
                  have hnw2 : ∀ g, (g = nx.gen % 2 ∨ g = half (d.S.length : Int) + nx.gen % 2) → (secAt (flushD z2) g).nw = false := by
                    intro g hg
                    have hm : nx.gen % 2 = 0 ∨ nx.gen % 2 = 1 := by omega
                    rcases hg with rfl | rfl <;> rcases hm with e | e <;> rw [e]
                    · have := (hI3 nx).nw 0 (by omega); simpa [tsec] using this
                    · have := (hI3 nx).nw 1 (by omega); simpa [tsec] using this
                    · have := (hI3 nx).nw 2 (by omega); simpa [tsec] using this
                    · have := (hI3 nx).nw 3 (by omega); simpa [tsec] using this
                  obtain ⟨r1, r2⟩ := keep_read (hI3 nx).l hh h5 hnw2
                  have hj1 : vw (crashD (keepX (flushD z2) nx).2 keep) (tsec (half (d.S.length : Int)) j) = (tabL nx, 0) := by
                    rw [crash_none hI4.f r2 keep (by rw [hI4.l]; exact tsec_lt hh hj), ← ej]; exact r1
                  have hld := load_next hd hc.1 hc.2.1 (hc.2.2.trans hI4.l) hv ht hg hj hj1 ej2
                  exact ⟨.inl rfl, hI4.f, nx, hld, .inr ⟨rfl, rfl⟩, fun _ => rfl⟩
                · rw [wrX_5 h1z rfl hw h3 h30 h17 h4 (by rw [hnx]; exact h5), hnx]
                  have h53 : (keepX (flushD z2) nx).1 = 3 := by
                    exact keep_three (hI3 nx).l hh h5 ht (fun g hg => by
                      have hm : nx.gen % 2 = 0 ∨ nx.gen % 2 = 1 := by omega
                      rcases hg with rfl | rfl <;> rcases hm with e | e <;> rw [e]
                      · have := (hI3 nx).nw 0 (by omega); simpa [tsec] using this
                      · have := (hI3 nx).nw 1 (by omega); simpa [tsec] using this
                      · have := (hI3 nx).nw 2 (by omega); simpa [tsec] using this
                      · have := (hI3 nx).nw 3 (by omega); simpa [tsec] using this) (hI3 nx).f
                  refine ⟨.inr h53, hI4.f, ?_⟩
                  rcases load_one hd hc.1 hc.2.1 (hc.2.2.trans hI4.l) hv (fun _ => ⟨ht, hg⟩) with e | ⟨-, e⟩
                  · exact ⟨m, e, .inl rfl, fun e => absurd e h5⟩
                  · exact ⟨nx, e, .inr ⟨rfl, rfl⟩, fun e => absurd e h5⟩
            · rw [wrX_4 h1z rfl hw h3 h30 h17 h4]
              obtain ⟨f1, f2⟩ := fin _ ((hI2 _).flush hh)
              have : flushE z2 = 3 := by
                rcases hs2.flush with e | ⟨e, -⟩
                · exact e
                · have hf := hs2.formed
                  have hr : flushE y2 = 0 := by unfold flushE; rw [right0, ← hs2.formed, (hI2 ⟨0, []⟩).f, hs2.yact.1]; rfl
                  omega
              exact ⟨.inr this, f1, m, f2, .inl rfl, fun e => absurd e h4⟩
        · rw [wrX_2 h1z rfl hw h3 h30]
          obtain ⟨f1, f2⟩ := fin _ (hI2 _)
          refine ⟨?_, f1, m, f2, .inl rfl, fun e => absurd e h30⟩
          rcases hsp with e | ⟨-, e, -⟩
          · exact .inr e
          · rw [wrX_2 h1 rfl h2 h3' (by omega)]
            exact .inl e
      · rw [wrX_1 h1z rfl (by rw [hw]; exact h2), wrX_1 h1 rfl h2]
        obtain ⟨f1, f2⟩ := fin _ (hI1 _)
        exact ⟨.inl hw, f1, m, f2, .inl rfl, fun _ => rfl⟩

end Go.Proofs.YtlleandelcjhjaaDoor.RmWholePlain
