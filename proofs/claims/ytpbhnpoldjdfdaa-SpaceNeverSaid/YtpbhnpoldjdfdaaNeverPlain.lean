/- SpaceNever: the plain law of a play of takes, drops, sweeps and settlings. -/
import Derived.Test.YtpbhnpoldjdfdaaSpDrop
set_option linter.unusedVariables false
set_option linter.unusedSimpArgs false
namespace Go.Proofs.Ytpbhnpoldjdfdaa.NeverPlain
open Go Go.RowKit Go.Proofs.Ytpbhnpoldjdfdaa.K Go.Proofs.Ytpbhnpoldjdfdaa.EqKit Go.Proofs.Ytpbhnpoldjdfdaa.ArrKit Go.Proofs.Ytpbhnpoldjdfdaa.HeldKit Go.Proofs.Ytpbhnpoldjdfdaa.GKit Go.Proofs.Ytpbhnpoldjdfdaa.GRow Go.Proofs.Ytpbhnpoldjdfdaa.SpKit Go.Proofs.Ytpbhnpoldjdfdaa.SpAsk Go.Proofs.Ytpbhnpoldjdfdaa.SpFind Go.Proofs.Ytpbhnpoldjdfdaa.SpNew Go.Proofs.Ytpbhnpoldjdfdaa.SpBecome Go.Proofs.Ytpbhnpoldjdfdaa.SpIdx Go.Proofs.Ytpbhnpoldjdfdaa.SpTake Go.Proofs.Ytpbhnpoldjdfdaa.SpDrop

def pl (p : Nat × Option Nat) : List Nat := p.1 :: p.2.toList
/-- the places that are held -/
def hp (h : List (Nat × Option Nat)) : List Nat := h.flatMap pl
theorem hp_append (a b : List (Nat × Option Nat)) : hp (a ++ b) = hp a ++ hp b := by simp [hp]
theorem hp_cons (p : Nat × Option Nat) (b : List (Nat × Option Nat)) : hp (p :: b) = pl p ++ hp b := rfl
theorem hp_one (p : Nat × Option Nat) : hp [p] = pl p := by simp [hp]
def av (st : List UInt8) (i : Nat) : Nat := (st.getD i 0).toNat
structure Inv (st : List UInt8) (held : List (Nat × Option Nat)) (kept gone going : List Nat) : Prop where
  len : st.length = 12
  low : ∀ x ∈ st, x.toNat ≤ 4
  nd : (hp held).Nodup
  iff : ∀ i, i ∈ hp held ↔ (i < 12 ∧ (av st i = 1 ∨ av st i = 2))
  kept : ∀ i ∈ kept, i < 12 ∧ (av st i = 1 ∨ av st i = 3)
  gone : ∀ i ∈ gone, i < 12 ∧ av st i = 3
  going : ∀ i ∈ going, i < 12 ∧ (av st i = 3 ∨ av st i = 4)
theorem av_set {st : List UInt8} {i : Nat} (hi : i < st.length) (y : UInt8) (k : Nat) : av (st.set i y) k = if i = k then y.toNat else av st k := by
  unfold av
  rw [List.getD_eq_getElem?_getD, List.getD_eq_getElem?_getD, List.getElem?_set]
  by_cases e : i = k
  · rw [if_pos e, if_pos hi, if_pos e]; rfl
  · rw [if_neg e, if_neg e]
theorem av_zero {st : List UInt8} {i : Nat} (h : st[i]? = some 0) : i < st.length ∧ av st i = 0 := by
  refine ⟨(List.getElem?_eq_some_iff.1 h).1, ?_⟩
  unfold av
  rw [List.getD_eq_getElem?_getD, h]; rfl
theorem low_set {st : List UInt8} (h : ∀ x ∈ st, x.toNat ≤ 4) (i : Nat) {y : UInt8} (hy : y.toNat ≤ 4) : ∀ x ∈ st.set i y, x.toNat ≤ 4 := fun x hx => by
  rcases List.mem_or_eq_of_mem_set hx with h1 | h1
  · exact h x h1
  · subst h1; exact hy
theorem start : Inv (List.replicate 12 0) [] [] [] [] := by
  refine ⟨rfl, by decide, by simp [hp], fun i => ?_, by simp, by simp, by simp⟩
  simp only [hp, List.flatMap_nil, List.not_mem_nil, false_iff]
  rintro ⟨h, h1⟩
  have : av (List.replicate 12 0) i = 0 := by
    unfold av
    rw [List.getD_eq_getElem?_getD, List.getElem?_replicate, if_pos h]; rfl
  omega
/-- a free place is nobody's -/
theorem Inv.free {st : List UInt8} {held : List (Nat × Option Nat)} {kept gone going : List Nat} (h : Inv st held kept gone going) {i : Nat} (hi : av st i = 0) : i ∉ hp held ∧ i ∉ gone ∧ i ∉ going ∧ i ∉ kept := by
  refine ⟨fun e => ?_, fun e => ?_, fun e => ?_, fun e => ?_⟩
  · have := (h.iff i).1 e; omega
  · have := h.gone i e; omega
  · have := h.going i e; omega
  · have := h.kept i e; omega
theorem Inv.take1 {st : List UInt8} {held : List (Nat × Option Nat)} {kept gone going : List Nat} (h : Inv st held kept gone going) {i : Nat} (hi : st[i]? = some 0) : Inv (st.set i 2) (held ++ [(i, none)]) kept gone going := by
  obtain ⟨hl, h0⟩ := av_zero hi
  have hf := h.free h0
  have hi12 : i < 12 := by have := h.len; omega
  have e1 : hp (held ++ [(i, none)]) = hp held ++ [i] := by rw [hp_append, hp_one]; rfl
  refine ⟨by rw [List.length_set]; exact h.len, low_set h.low i (by decide), ?_, fun k => ?_, fun k hk => ?_, fun k hk => ?_, fun k hk => ?_⟩
  · rw [e1, List.nodup_append]
    refine ⟨h.nd, by simp, fun a ha b hb => ?_⟩
    simp only [List.mem_cons, List.not_mem_nil, or_false] at hb
    subst hb
    rintro rfl
    exact hf.1 ha
  · rw [e1, List.mem_append, av_set hl, h.iff k]
    simp only [List.mem_cons, List.not_mem_nil, or_false]
    by_cases e : i = k
    · subst e; rw [if_pos rfl]; simp [hi12]
    · rw [if_neg e]; constructor
      · rintro (h1 | h1)
        · exact h1
        · exact absurd h1.symm e
      · exact fun h1 => .inl h1
  · have hne : i ≠ k := by rintro rfl; exact hf.2.2.2 hk
    rw [av_set hl, if_neg hne]; exact h.kept k hk
  · have hne : i ≠ k := by rintro rfl; exact hf.2.1 hk
    rw [av_set hl, if_neg hne]; exact h.gone k hk
  · have hne : i ≠ k := by rintro rfl; exact hf.2.2.1 hk
    rw [av_set hl, if_neg hne]; exact h.going k hk
/-- one pointer of two places is as two of one -/
theorem hp_two (held : List (Nat × Option Nat)) (i j : Nat) : hp (held ++ [(i, some j)]) = hp ((held ++ [(i, none)]) ++ [(j, none)]) := by
  rw [hp_append, hp_append, hp_append, hp_one, hp_one, hp_one, List.append_assoc]; rfl
theorem Inv.same {st : List UInt8} {a b : List (Nat × Option Nat)} {kept gone going : List Nat} (h : Inv st a kept gone going) (e : hp b = hp a) : Inv st b kept gone going :=
  ⟨h.len, h.low, by rw [e]; exact h.nd, fun i => by rw [e]; exact h.iff i, h.kept, h.gone, h.going⟩
theorem Inv.take2 {st : List UInt8} {held : List (Nat × Option Nat)} {kept gone going : List Nat} (h : Inv st held kept gone going) {i j : Nat} (hi : st[i]? = some 0) (hj : st[j]? = some 0) (hij : i ≠ j) : Inv ((st.set i 2).set j 2) (held ++ [(i, some j)]) kept gone going :=
  Inv.same (Inv.take1 (h.take1 hi) (by rw [List.getElem?_set, if_neg hij]; exact hj)) (hp_two held i j)
theorem av_dropK {st : List UInt8} {i : Nat} (hi : i < st.length) (k : Nat) : av (dropK st i) k = if i = k then (if av st i = 1 then 3 else 4) else av st k := by
  unfold dropK
  rw [av_set hi]
  by_cases e : i = k
  · rw [if_pos e, if_pos e]
    show (dropB (st.getD i 0)).toNat = _
    unfold dropB av
    split <;> rfl
  · rw [if_neg e, if_neg e]
theorem Inv.drop1 {st : List UInt8} {A B : List (Nat × Option Nat)} {i : Nat} {kept gone going : List Nat} (h : Inv st (A ++ (i, none) :: B) kept gone going) : Inv (dropK st i) (A ++ B) kept (gone ++ kept.filter (· == i)) (going ++ [i]) := by
  have e1 : hp (A ++ (i, none) :: B) = hp A ++ i :: hp B := by rw [hp_append, hp_cons]; rfl
  have e2 : hp (A ++ B) = hp A ++ hp B := hp_append A B
  have hi := (h.iff i).1 (by rw [e1]; simp)
  have hl : i < st.length := by have := h.len; omega
  have hnd := h.nd
  rw [e1, List.nodup_append, List.nodup_cons] at hnd
  obtain ⟨n1, ⟨n2, n3⟩, n4⟩ := hnd
  have ha : i ∉ hp A := fun e => n4 i e i (by simp) rfl
  refine ⟨by rw [dropK_len]; exact h.len, ?_, ?_, fun k => ?_, fun k hk => ?_, fun k hk => ?_, fun k hk => ?_⟩
  · refine low_set h.low i ?_
    unfold dropB
    split <;> decide
  · rw [e2, List.nodup_append]
    exact ⟨n1, n3, fun a ha b hb => n4 a ha b (List.mem_cons_of_mem _ hb)⟩
  · have := h.iff k
    rw [e1] at this
    rw [e2, av_dropK hl, List.mem_append]
    by_cases e : i = k
    · subst e
      rw [if_pos rfl]
      constructor
      · rintro (h1 | h1)
        · exact absurd h1 ha
        · exact absurd h1 n2
      · rintro ⟨-, h1⟩
        split at h1 <;> omega
    · rw [if_neg e, ← this, List.mem_append, List.mem_cons]
      constructor
      · rintro (h1 | h1)
        · exact .inl h1
        · exact .inr (.inr h1)
      · rintro (h1 | h1 | h1)
        · exact .inl h1
        · exact absurd h1.symm e
        · exact .inr h1
  · have := h.kept k hk
    rw [av_dropK hl]
    by_cases e : i = k
    · subst e
      rw [if_pos rfl, if_pos (by omega)]
      exact ⟨this.1, .inr rfl⟩
    · rw [if_neg e]; exact this
  · rw [av_dropK hl]
    rcases List.mem_append.1 hk with h1 | h1
    · have := h.gone k h1
      have e : i ≠ k := by rintro rfl; omega
      rw [if_neg e]; exact this
    · obtain ⟨h2, h3⟩ := List.mem_filter.1 h1
      have e : k = i := by simpa using h3
      subst e
      have := h.kept k h2
      rw [if_pos rfl, if_pos (by omega)]
      exact ⟨this.1, rfl⟩
  · rw [av_dropK hl]
    rcases List.mem_append.1 hk with h1 | h1
    · have := h.going k h1
      have e : i ≠ k := by rintro rfl; omega
      rw [if_neg e]; exact this
    · simp only [List.mem_cons, List.not_mem_nil, or_false] at h1
      subst h1
      rw [if_pos rfl]
      refine ⟨hi.1, ?_⟩
      split
      · exact .inl rfl
      · exact .inr rfl
theorem Inv.mono {st : List UInt8} {a : List (Nat × Option Nat)} {kept gone going kept' gone' going' : List Nat} (h : Inv st a kept gone going) (h1 : ∀ i ∈ kept', i ∈ kept) (h2 : ∀ i ∈ gone', i ∈ gone) (h3 : ∀ i ∈ going', i ∈ going) : Inv st a kept' gone' going' :=
  ⟨h.len, h.low, h.nd, h.iff, fun i hi => h.kept i (h1 i hi), fun i hi => h.gone i (h2 i hi), fun i hi => h.going i (h3 i hi)⟩
/-- a pointer's places dropped -/
theorem Inv.drop2 {st : List UInt8} {A B : List (Nat × Option Nat)} {i j : Nat} {kept gone going : List Nat} (h : Inv st (A ++ (i, some j) :: B) kept gone going) : Inv (dropK (dropK st i) j) (A ++ B) kept (gone ++ kept.filter (fun x => x == i || x == j)) (going ++ [i, j]) := by
  have e : hp (A ++ (i, none) :: (j, none) :: B) = hp (A ++ (i, some j) :: B) := by rw [hp_append, hp_append, hp_cons, hp_cons, hp_cons]; rfl
  refine ((h.same e).drop1.drop1).mono (fun _ h => h) (fun k hk => ?_) (fun k hk => ?_)
  · rcases List.mem_append.1 hk with h1 | h1
    · exact List.mem_append_left _ (List.mem_append_left _ h1)
    · obtain ⟨h2, h3⟩ := List.mem_filter.1 h1
      simp only [Bool.or_eq_true] at h3
      rcases h3 with h3 | h3
      · exact List.mem_append_left _ (List.mem_append_right _ (List.mem_filter.2 ⟨h2, h3⟩))
      · exact List.mem_append_right _ (List.mem_filter.2 ⟨h2, h3⟩)
  · simp only [List.mem_append, List.mem_cons, List.not_mem_nil, or_false] at hk ⊢
    rcases hk with h1 | h1 | h1
    · exact .inl (.inl h1)
    · exact .inl (.inr h1)
    · exact .inr h1
theorem av_map {st T : List UInt8} {k : Nat} (h : k < st.length) : av (st.map (bec T)) k = (T.getD (av st k) 0).toNat := by
  unfold av
  rw [List.getD_eq_getElem?_getD, List.getElem?_map, List.getElem?_eq_getElem h, List.getD_eq_getElem?_getD (l := st), List.getElem?_eq_getElem h]
  rfl
theorem low_map {st T : List UInt8} (hT : ∀ x ∈ T, x.toNat ≤ 4) : ∀ x ∈ st.map (bec T), x.toNat ≤ 4 := fun x hx => by
  obtain ⟨y, -, rfl⟩ := List.mem_map.1 hx
  unfold bec
  rw [List.getD_eq_getElem?_getD]
  cases e : T[y.toNat]? with
  | none => simp
  | some z => exact hT z (List.mem_of_getElem? e)
theorem av_le {st : List UInt8} (h : ∀ x ∈ st, x.toNat ≤ 4) (k : Nat) : av st k ≤ 4 := by
  unfold av
  rw [List.getD_eq_getElem?_getD]
  cases e : st[k]? with
  | none => simp
  | some z => exact h z (List.mem_of_getElem? e)
theorem sw (v : Nat) (h : v ≤ 4) : (Tsweep.getD v 0).toNat = if v = 4 then 0 else v := by
  rcases (show v = 0 ∨ v = 1 ∨ v = 2 ∨ v = 3 ∨ v = 4 by omega) with rfl | rfl | rfl | rfl | rfl <;> rfl
theorem se (v : Nat) (h : v ≤ 4) : (Tsettle.getD v 0).toNat = if v = 1 ∨ v = 2 then 1 else 0 := by
  rcases (show v = 0 ∨ v = 1 ∨ v = 2 ∨ v = 3 ∨ v = 4 by omega) with rfl | rfl | rfl | rfl | rfl <;> rfl
theorem Inv.sweep {st : List UInt8} {held : List (Nat × Option Nat)} {kept gone going : List Nat} (h : Inv st held kept gone going) : Inv (st.map (bec Tsweep)) held kept gone [] := by
  have hv : ∀ k, k < 12 → av (st.map (bec Tsweep)) k = if av st k = 4 then 0 else av st k := fun k hk => by
    rw [av_map (by have := h.len; omega), sw _ (av_le h.low k)]
  refine ⟨by rw [List.length_map]; exact h.len, low_map (by decide), h.nd, fun i => ?_, fun i hi => ?_, fun i hi => ?_, by simp⟩
  · rw [h.iff i]
    constructor
    · rintro ⟨h1, h2⟩; rw [hv i h1, if_neg (by omega)]; exact ⟨h1, h2⟩
    · rintro ⟨h1, h2⟩; rw [hv i h1] at h2; split at h2 <;> exact ⟨h1, by omega⟩
  · have := h.kept i hi; rw [hv i this.1, if_neg (by omega)]; exact this
  · have := h.gone i hi; rw [hv i this.1, if_neg (by omega)]; exact this
theorem Inv.settle {st : List UInt8} {held : List (Nat × Option Nat)} {kept gone going : List Nat} (h : Inv st held kept gone going) : Inv (st.map (bec Tsettle)) held (hp held) [] [] := by
  have hv : ∀ k, k < 12 → av (st.map (bec Tsettle)) k = if av st k = 1 ∨ av st k = 2 then 1 else 0 := fun k hk => by
    rw [av_map (by have := h.len; omega), se _ (av_le h.low k)]
  refine ⟨by rw [List.length_map]; exact h.len, low_map (by decide), h.nd, fun i => ?_, fun i hi => ?_, by simp, by simp⟩
  · rw [h.iff i]
    constructor
    · rintro ⟨h1, h2⟩; rw [hv i h1, if_pos h2]; exact ⟨h1, .inl rfl⟩
    · rintro ⟨h1, h2⟩; rw [hv i h1] at h2; split at h2
      · rename_i h3; exact ⟨h1, h3⟩
      · omega
  · have := (h.iff i).1 hi; rw [hv i this.1, if_pos this.2]; exact ⟨this.1, .inl rfl⟩
theorem countU_range (l : List UInt8) : ∀ n, n ≤ l.length → countU (l.take n) = ((List.range n).filter (fun i => decide (av l i = 1 ∨ av l i = 2))).length := by
  intro n
  induction n with
  | zero => intro _; rfl
  | succ n ih =>
    intro hn
    rw [List.take_succ_eq_append_getElem (by omega), countU_snoc, ih (by omega), List.range_succ, List.filter_append, List.length_append]
    congr 1
    have e : av l n = l[n].toNat := by
      unfold av
      rw [List.getD_eq_getElem?_getD, List.getElem?_eq_getElem (by omega)]; rfl
    rw [List.filter_cons, List.filter_nil, e]
    unfold usedB
    by_cases h1 : l[n].toNat = 1
    · simp [h1]
    · by_cases h2 : l[n].toNat = 2
      · simp [h2]
      · simp [h1, h2]
/-- as many are in use as are held -/
theorem Inv.count {st : List UInt8} {held : List (Nat × Option Nat)} {kept gone going : List Nat} (h : Inv st held kept gone going) : countU st = (hp held).length := by
  have e := countU_range st st.length (Nat.le_refl _)
  rw [List.take_length, h.len] at e
  rw [e]
  have hp1 : (hp held).Perm ((List.range 12).filter (fun i => decide (av st i = 1 ∨ av st i = 2))) := by
    refine (List.perm_ext_iff_of_nodup h.nd (List.nodup_range.filter _)).2 (fun i => ?_)
    rw [h.iff i, List.mem_filter, List.mem_range, decide_eq_true_iff]
  exact hp1.length_eq.symm

end Go.Proofs.Ytpbhnpoldjdfdaa.NeverPlain
