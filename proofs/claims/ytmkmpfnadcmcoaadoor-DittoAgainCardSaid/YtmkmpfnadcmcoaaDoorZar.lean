/- The theorems that the claim uses, text behind text (part 18). -/
import Derived.Test.YtmkmpfnadcmcoaaDoorZaa
import Derived.Test.YtmkmpfnadcmcoaaDoorZai
import Derived.Test.YtmkmpfnadcmcoaaDoorZao
import Derived.Test.YtmkmpfnadcmcoaaDoorZaq
import Derived.Test.YtmkmpfnadcmcoaaDoorProg
import Derived.Outline
import Derived.Deep.QuietTactic
set_option maxRecDepth 100000
set_option linter.unusedVariables false
set_option linter.unusedSimpArgs false
namespace Go.Proofs.YtmkmpfnadcmcoaaDoor.RmWrX
open Go Go.RowKit Go.Proofs.YtmkmpfnadcmcoaaDoor.K Go.Proofs.YtmkmpfnadcmcoaaDoor.EqKit Go.Proofs.YtmkmpfnadcmcoaaDoor.ArrKit Go.Proofs.YtmkmpfnadcmcoaaDoor.HeldKit Go.Proofs.YtmkmpfnadcmcoaaDoor.GKit Go.Proofs.YtmkmpfnadcmcoaaDoor.GRow Go.Proofs.YtmkmpfnadcmcoaaDoor.DiskKit Go.Proofs.YtmkmpfnadcmcoaaDoor.RmKit Go.Proofs.YtmkmpfnadcmcoaaDoor.MapKit Go.Proofs.YtmkmpfnadcmcoaaDoor.RmRight Go.Proofs.YtmkmpfnadcmcoaaDoor.RmTab Go.Proofs.YtmkmpfnadcmcoaaDoor.RmPut Go.Proofs.YtmkmpfnadcmcoaaDoor.RmAsk Go.Proofs.YtmkmpfnadcmcoaaDoor.RmSame Go.Proofs.YtmkmpfnadcmcoaaDoor.DiskRRead Go.Proofs.YtmkmpfnadcmcoaaDoor.RmRead Go.Proofs.YtmkmpfnadcmcoaaDoor.RmReads Go.Proofs.YtmkmpfnadcmcoaaDoor.DiskAct Go.Proofs.YtmkmpfnadcmcoaaDoor.DiskLay Go.Proofs.YtmkmpfnadcmcoaaDoor.RmSpare Go.Proofs.YtmkmpfnadcmcoaaDoor.RmKeep Go.Proofs.YtmkmpfnadcmcoaaDoor.RmAliveP
theorem flushD_S (d : Dk) : (flushD d).S.length = d.S.length := by
  unfold flushD
  split
  · rfl
  · split
    · rw [(actD_S2 d).1]
    · show (laid _ _ _ _).length = _
      rw [laid_len, (actD_S2 d).1]
theorem flushD_C (d : Dk) : (flushD d).C.length ≤ d.C.length := by
  unfold flushD
  split
  · omega
  · split
    · rw [(actD_S2 d).2]; omega
    · show ([] : List Wri).length ≤ _
      simp
theorem wf_small {x : Int} (h0 : 0 ≤ x) (h1 : x ≤ 4611686018427387905) : (Lit.int .i64 x).wf = true := by
  simp [Lit.wf, IntKind.min, IntKind.max, IntKind.signed, IntKind.bits]; omega
theorem spareR_ok {m : Rm} {b : List UInt8} (hb : b.length = 128) : ∀ (k : Nat) (q : Int) (d : Dk), d.ok → 0 ≤ q → q + k ≤ 5000 → (spareR m b k q d).2.2.ok ∧ (spareR m b k q d).2.2.S.length = d.S.length ∧ (spareR m b k q d).2.2.C.length ≤ d.C.length + k ∧ 0 ≤ (spareR m b k q d).1 ∧ (spareR m b k q d).1 ≤ q + k ∧ ((spareR m b k q d).2.1 = 0 → q ≤ (spareR m b k q d).1 ∧ (spareR m b k q d).1 < q + k ∧ m.ps.any (fun p => p.2 == (spareR m b k q d).1) = false)
  | 0, q, d, h, h0, h1 => ⟨h, rfl, by show d.C.length ≤ _; omega, by show (0 : Int) ≤ 0; omega, by show (0 : Int) ≤ _; omega, fun e => by cases e⟩
  | k + 1, q, d, h, h0, h1 => by
    rw [spareR]
    split
    · obtain ⟨a1, a2, a3, a4, a5, a6⟩ := spareR_ok hb k (q + 1) d h (by omega) (by omega)
      exact ⟨a1, a2, by omega, a4, by omega, fun e => by obtain ⟨b1, b2, b3⟩ := a6 e; exact ⟨by omega, by omega, b3⟩⟩
    · rename_i hu
      split
      · obtain ⟨a1, a2, a3, a4, a5, a6⟩ := spareR_ok hb k (q + 1) (writeD d q b) (writeD_ok h hb (wf_small h0 (by omega))) (by omega) (by omega)
        have h3 := writeD_C d q b
        rw [writeD_S] at a2
        exact ⟨a1, a2, by omega, a4, by omega, fun e => by obtain ⟨b1, b2, b3⟩ := a6 e; exact ⟨by omega, by omega, b3⟩⟩
      · have h3 := writeD_C d q b
        exact ⟨writeD_ok h hb (wf_small h0 (by omega)), by rw [writeD_S], by show (writeD d q b).C.length ≤ _; omega, h0, by show q ≤ _; omega, fun _ => ⟨by show q ≤ q; omega, by show q < _; omega, Bool.eq_false_iff.2 hu⟩⟩
theorem keepX_ok {d : Dk} {m : Rm} (h : d.ok) : (keepX d m).2.ok ∧ (keepX d m).2.S.length = d.S.length ∧ (keepX d m).2.C.length ≤ d.C.length + 2 := by
  unfold keepX
  split
  · rename_i ht
    have hp := tab_parts ht
    have hl := half_lo hp.1
    have hL := tabL_len m hp.2.2.2.1
    have o1 := writeD_ok h hL (wf_small (x := m.gen % 2) (by omega) (by omega))
    have o2 := writeD_ok o1 hL (wf_small (x := half (d.S.length : Int) + m.gen % 2) (by omega) (by omega))
    have c1 := writeD_C d (m.gen % 2) (tabL m)
    have c2 := writeD_C (writeD d (m.gen % 2) (tabL m)) (half (d.S.length : Int) + m.gen % 2) (tabL m)
    split
    · exact ⟨o1, by rw [writeD_S], by show (writeD _ _ _).C.length ≤ _; omega⟩
    · split
      · exact ⟨o2, by rw [writeD_S, writeD_S], by show (writeD _ _ _).C.length ≤ _; omega⟩
      · split
        · exact ⟨o2, by rw [writeD_S, writeD_S], by show (writeD _ _ _).C.length ≤ _; omega⟩
        · have c3 := flushD_C (writeD (writeD d (m.gen % 2) (tabL m)) (half (d.S.length : Int) + m.gen % 2) (tabL m))
          exact ⟨flushD_ok o2, by rw [flushD_S, writeD_S, writeD_S], by show (flushD _).C.length ≤ _; omega⟩
  · exact ⟨h, rfl, by show d.C.length ≤ _; omega⟩
/-- a table with another sector for one -/
def nextM (m : Rm) (n to : Int) : Rm := if plc m n < 0 then ⟨m.gen + 1, m.ps ++ [(n, to)]⟩ else ⟨m.gen + 1, m.ps.set (plc m n).toNat (n, to)⟩
theorem plc_cases (m : Rm) (n : Int) : (plc m n = -1 ∧ ∀ x ∈ m.ps, (x.1 == n) = false) ∨ ∃ k : Nat, ∃ hk : k < m.ps.length, plc m n = k ∧ m.ps[k].1 = n ∧ ∀ q (hq : q < k), ((m.ps[q]'(by omega)).1 == n) = false := by
  rcases idxI_cases (fun p => p.1 == n) m.ps with h | ⟨k, hk, h1, h2, h3⟩
  · exact .inl h
  · exact .inr ⟨k, hk, h1, by simpa using h2, h3⟩
theorem nextM_no {m : Rm} {n : Int} (to : Int) (h : plc m n < 0) : nextM m n to = ⟨m.gen + 1, m.ps ++ [(n, to)]⟩ := by unfold nextM; rw [if_pos h]
theorem nextM_at {m : Rm} {n : Int} {k : Nat} (to : Int) (h : plc m n = k) : nextM m n to = ⟨m.gen + 1, m.ps.set k (n, to)⟩ := by unfold nextM; rw [if_neg (by omega), h]; rfl
theorem nextM_ok {m : Rm} {n to : Int} (h : m.ok) (hn : (Lit.int .i64 n).wf = true) (ht : (Lit.int .i64 to).wf = true) (hg : (Lit.int .i64 (m.gen + 1)).wf = true) : (nextM m n to).ok := by
  unfold nextM
  split
  · refine ⟨hg, fun x hx => ?_⟩
    simp only [List.mem_append, List.mem_cons, List.not_mem_nil, or_false] at hx
    rcases hx with hx | rfl
    · exact h.p x hx
    · exact ⟨hn, ht⟩
  · refine ⟨hg, fun x hx => ?_⟩
    rcases List.mem_or_eq_of_mem_set hx with hx | rfl
    · exact h.p x hx
    · exact ⟨hn, ht⟩
theorem nextM_len (m : Rm) (n to : Int) : (nextM m n to).ps.length ≤ m.ps.length + 1 := by
  unfold nextM; split
  · simp
  · simp
theorem asked_parts {d : Dk} {m : Rm} {n : Int} (h : askedB d m n = true) : tabB m (d.S.length : Int) = true ∧ usableB n (half (d.S.length : Int)) = true ∧ hvI d = half (d.S.length : Int) ∧ formedB d = true ∧ half (d.S.length : Int) ≠ 0 := by
  unfold askedB at h
  simp only [Bool.and_eq_true] at h
  have h2 := (tab_parts h.2).1
  have h1 := h.1
  unfold hvI at h1 ⊢
  split at h1
  · rename_i hf
    exact ⟨h.2, h1, by rw [if_pos hf], hf, h2⟩
  · simp [usableB] at h1
def spX (d : Dk) (m : Rm) (n : Int) (b : List UInt8) : Int × Int × Dk := spareR m b 20 (2 * half (d.S.length : Int)) (writeD d (atI m n) b)
/-- what Write does: its error, the disk, the table -/
def wrX (d : Dk) (m : Rm) (n : Int) (b : List UInt8) : Int × Dk × Rm :=
  if askedB d m n = false then (1, d, m) else
  if writeE d (atI m n) ≠ 2 then (writeE d (atI m n), writeD d (atI m n) b, m) else
  if (spX d m n b).2.1 ≠ 0 then ((spX d m n b).2.1, (spX d m n b).2.2, m) else
  if plc m n < 0 ∧ m.ps.length = 20 then (17, (spX d m n b).2.2, m) else
  if flushE (spX d m n b).2.2 ≠ 0 then (flushE (spX d m n b).2.2, flushD (spX d m n b).2.2, m) else
  if (keepX (flushD (spX d m n b).2.2) (nextM m n (spX d m n b).1)).1 ≠ 0 then ((keepX (flushD (spX d m n b).2.2) (nextM m n (spX d m n b).1)).1, (keepX (flushD (spX d m n b).2.2) (nextM m n (spX d m n b).1)).2, m) else
  (0, (keepX (flushD (spX d m n b).2.2) (nextM m n (spX d m n b).1)).2, nextM m n (spX d m n b).1)
theorem wrX_no {d : Dk} {m : Rm} {n : Int} {b : List UInt8} (h : askedB d m n = false) : wrX d m n b = (1, d, m) := by unfold wrX; rw [if_pos h]
section
variable {d d1 d2 : Dk} {m : Rm} {n q to e : Int} {b : List UInt8} (h : askedB d m n = true) (hq : atI m n = q)
include h hq
theorem wrX_1 (h1 : writeE d q ≠ 2) : wrX d m n b = (writeE d q, writeD d q b, m) := by
  subst hq
  unfold wrX; rw [if_neg (by simp [h]), if_pos h1]
variable (h1 : writeE d q = 2) (hs : spareR m b 20 (2 * half (d.S.length : Int)) (writeD d q b) = (to, e, d2))
include h1 hs
theorem wrX_2 (h2 : e ≠ 0) : wrX d m n b = (e, d2, m) := by
  subst hq
  have hs' : spX d m n b = (to, e, d2) := hs
  unfold wrX; rw [hs', if_neg (by simp [h]), if_neg (by omega), if_pos h2]
theorem wrX_3 (h2 : e = 0) (h3 : plc m n < 0 ∧ m.ps.length = 20) : wrX d m n b = (17, d2, m) := by
  subst hq
  have hs' : spX d m n b = (to, e, d2) := hs
  unfold wrX; rw [hs', if_neg (by simp [h]), if_neg (by omega), if_neg (by show ¬ e ≠ 0; omega), if_pos h3]
theorem wrX_4 (h2 : e = 0) (h3 : ¬ (plc m n < 0 ∧ m.ps.length = 20)) (h4 : flushE d2 ≠ 0) : wrX d m n b = (flushE d2, flushD d2, m) := by
  subst hq
  have hs' : spX d m n b = (to, e, d2) := hs
  unfold wrX; rw [hs', if_neg (by simp [h]), if_neg (by omega), if_neg (by show ¬ e ≠ 0; omega), if_neg h3, if_pos h4]
theorem wrX_5 (h2 : e = 0) (h3 : ¬ (plc m n < 0 ∧ m.ps.length = 20)) (h4 : flushE d2 = 0) (h5 : (keepX (flushD d2) (nextM m n to)).1 ≠ 0) : wrX d m n b = ((keepX (flushD d2) (nextM m n to)).1, (keepX (flushD d2) (nextM m n to)).2, m) := by
  subst hq
  have hs' : spX d m n b = (to, e, d2) := hs
  unfold wrX; rw [hs', if_neg (by simp [h]), if_neg (by omega), if_neg (by show ¬ e ≠ 0; omega), if_neg h3, if_neg (by show ¬ flushE d2 ≠ 0; omega), if_pos h5]
theorem wrX_6 (h2 : e = 0) (h3 : ¬ (plc m n < 0 ∧ m.ps.length = 20)) (h4 : flushE d2 = 0) (h5 : (keepX (flushD d2) (nextM m n to)).1 = 0) : wrX d m n b = (0, (keepX (flushD d2) (nextM m n to)).2, nextM m n to) := by
  subst hq
  have hs' : spX d m n b = (to, e, d2) := hs
  unfold wrX; rw [hs', if_neg (by simp [h]), if_neg (by omega), if_neg (by show ¬ e ≠ 0; omega), if_neg h3, if_neg (by show ¬ flushE d2 ≠ 0; omega), if_neg (by show ¬ (keepX (flushD d2) (nextM m n to)).1 ≠ 0; omega)]
end
end Go.Proofs.YtmkmpfnadcmcoaaDoor.RmWrX
namespace Go.Proofs.YtmkmpfnadcmcoaaDoor.PtrKit
open Go Go.RowKit Go.Proofs.YtmkmpfnadcmcoaaDoor.K Go.Proofs.YtmkmpfnadcmcoaaDoor.EqKit
/-- a pointer's cells -/
def PC (a b : Int) (s : List UInt8) : List Value := .int .i64 a :: .int .i64 b :: s.map B
theorem PC_length (a b : Int) (s : List UInt8) : (PC a b s).length = s.length + 2 := by simp [PC]
theorem cells_p : Tryd.prog.cellsOf 37 = 34 := by kernel_rfl
theorem cells_i : Tryd.prog.cellsOf 3 = 1 := by kernel_rfl
theorem cells_s : Tryd.prog.cellsOf 35 = 32 := by kernel_rfl
theorem cells_u : Tryd.prog.cellsOf 5 = 1 := by kernel_rfl
theorem lits_int {P : Program} {t : TypeId} {k : IntKind} {n : Int} (d : Nat) (ht : P.underlying t = some (.int k)) (hw : (Lit.int k n).wf = true) : P.keyLits (d + 1) t [.int k n] = some [Lit.int k n] := by
  unfold Program.keyLits
  rw [ht]
  simp [hw]
theorem lits_bytes (d : Nat) (s : List UInt8) (hs : s.length = 32) : Tryd.prog.keyLits (d + 2) 35 (s.map B) = some (s.map fun v => Lit.int .u8 (v.toNat : Int)) := by
  have h := lits_row (k := .u8) d Tryd.underlying35 Tryd.underlying5 cells_u cells_s (s.map fun v => (v.toNat : Int)) (by simpa using hs) (fun z hz => by
    obtain ⟨v, -, rfl⟩ := List.mem_map.1 hz
    exact wf_u8 v)
  rw [List.map_map, List.map_map] at h
  exact h
theorem lits_ptr (a b : Int) (s : List UInt8) (hs : s.length = 32) (ha : (Lit.int .i64 a).wf = true) (hb : (Lit.int .i64 b).wf = true) : Tryd.prog.keyLits 3 37 (PC a b s) = some (Lit.int .i64 a :: Lit.int .i64 b :: s.map fun v => Lit.int .u8 (v.toNat : Int)) := by
  unfold Program.keyLits
  rw [Tryd.underlying37]
  have h32 : (s.map B).take 32 = s.map B := List.take_of_length_le (by simp; omega)
  simp [PC, cells_p, cells_i, cells_s, hs, h32, lits_int 1 Tryd.underlying3 ha, lits_int 1 Tryd.underlying3 hb, lits_bytes 0 s hs]
theorem guard_p : Tryd.prog.eqGuardType Tryd.prog.depth 37 = false := by kernel_rfl
/-- two pointers -/
theorem eq_ptr (a b a' b' : Int) (s s' : List UInt8) (hs : s.length = 32) (hs' : s'.length = 32) (ha : (Lit.int .i64 a).wf = true) (hb : (Lit.int .i64 b).wf = true) (ha' : (Lit.int .i64 a').wf = true) (hb' : (Lit.int .i64 b').wf = true) (W : World) :
    (Op.equalIn 10000 37 (.agg (PC a b s).toArray) (.agg (PC a' b' s').toArray)).run Tryd.prog W = .ok (decide (a = a' ∧ b = b' ∧ s = s')) W := by
  obtain ⟨r, hr, hiff⟩ := run_equalIn_deep 9997 3 37 (by kernel_rfl) W 3 3 (.agg (PC a b s).toArray) (.agg (PC a' b' s').toArray) _ _ (by simp [Value.formed, Tryd.underlying37, cells_p, PC, hs]) (by simp [Value.formed, Tryd.underlying37, cells_p, PC, hs']) (lits_ptr a b s hs ha hb) (lits_ptr a' b' s' hs' ha' hb')
  rw [show (10000 : Nat) = 9997 + 3 from rfl, hr]
  congr 1
  rw [Bool.eq_iff_iff, hiff, decide_eq_true_eq]
  constructor
  · intro h
    simp only [List.cons.injEq, Lit.int.injEq, true_and] at h
    exact ⟨h.1, h.2.1, map_inj (fun x y e => UInt8.toNat_inj.1 (by simp only [Lit.int.injEq, true_and] at e; exact Int.ofNat.inj e)) h.2.2⟩
  · rintro ⟨rfl, rfl, rfl⟩; rfl

end Go.Proofs.YtmkmpfnadcmcoaaDoor.PtrKit
namespace Go.Proofs.YtmkmpfnadcmcoaaDoor.PtrAsk
open Go Go.RowKit Go.Proofs.YtmkmpfnadcmcoaaDoor.K Go.Proofs.YtmkmpfnadcmcoaaDoor.EqKit Go.Proofs.YtmkmpfnadcmcoaaDoor.PtrKit Go.Proofs.YtmkmpfnadcmcoaaDoor.ArrKit Go.Proofs.YtmkmpfnadcmcoaaDoor.HeldKit
theorem build_eq {P : Program} {ops : Array Oper} {rest : List Oper} {o : Oper} {a : Act} {w : World} {Q : Exit → Act → World → Prop} (hg : o.guard = none) (t : TypeId) (parts : Array (Nat × Operand)) (ho : o.op = .build t parts) (cs : Array Value)
    (hf : P.built t (parts.map fun (i, x) => (i, a.eval x)).toList = some cs) (h : wpList P ops Q rest (a.put o.dst (.agg cs)) w) : wpList P ops Q (o :: rest) a w :=
  wpList_build hg t parts ho (by rw [hf]; rfl) (by rw [hf]; exact h)
def Z : List UInt8 := List.replicate 32 0
theorem Z_len : Z.length = 32 := by simp [Z]
theorem ret_bb {a b : Bool} (h : a = b) : Ending.returned (.bool a) = .returned (.bool b) := by rw [h]
def HOLE : Array Value := (PC (-1) (-1) Z).toArray
def isH (a b : Int) (s : List UInt8) : Bool := decide (a = -1 ∧ b = -1 ∧ s = Z)
def secB (n : Int) : Bool := decide (0 ≤ n ∧ n < 4096)
def rightB (a b : Int) (s : List UInt8) : Bool := isH a b s || (secB a && (decide (b = -1) || (secB b && !decide (b = a))))
theorem info_p : (Tryd.prog.info? 37).map (·.size) = some 34 := by kernel_rfl
def ZERO : Array Value := #[.int .i64 0, .int .i64 0, .int .u8 0, .int .u8 0, .int .u8 0, .int .u8 0, .int .u8 0, .int .u8 0, .int .u8 0, .int .u8 0, .int .u8 0, .int .u8 0, .int .u8 0, .int .u8 0, .int .u8 0, .int .u8 0, .int .u8 0, .int .u8 0, .int .u8 0, .int .u8 0, .int .u8 0, .int .u8 0, .int .u8 0, .int .u8 0, .int .u8 0, .int .u8 0, .int .u8 0, .int .u8 0, .int .u8 0, .int .u8 0, .int .u8 0, .int .u8 0, .int .u8 0, .int .u8 0]
theorem HOLE_one : HOLE.all (·.oneCell') = true := by kernel_rfl
set_option maxHeartbeats 2000000 in
set_option maxRecDepth 100000 in
theorem hole_calls (w : World) : Calls Tryd.prog 51 #[] w fun e w' => e = .returned (.agg HOLE) ∧ Fr0 w w' := by
  go_enter Tryd.func51, Tryd.ntmps51
  have HN := Lib.hid (Bk.new w (.cells ZERO 37))
  go_wp2_with (first | (refine build_eq rfl 37 _ rfl HOLE (by kernel_rfl) ?_) | (refine wpList_store_row rfl 37 _ _ rfl w.heap.size HOLE rfl rfl 37 ZERO HN.out (by kernel_rfl) (by kernel_rfl) HOLE_one ?_))
  refine fin_c w.heap.size 37 HOLE (by rfl) (by rfl) (by rfl) Tryd.underlying37 (by rfl) (by kernel_rfl) (ArrKit.Bk.row HN.out _) ?_
  exact ⟨rfl, ArrKit.Fr.row (Fr.alloc (Fr.refl _ _) _) _ _ (.inl (Nat.le_refl _))⟩
set_option maxHeartbeats 2000000 in
set_option maxRecDepth 100000 in
theorem sec_calls (n : Int) (w : World) : Calls Tryd.prog 37 #[.int .i64 n] w fun e w' => e = .returned (.bool (secB n)) ∧ w = w' := by
  by_cases h1 : 0 ≤ n
  · have c1 : decide (0 ≤ n) = true := decide_eq_true h1
    go_enter Tryd.func37, Tryd.ntmps37
    go_wp2
    all_goals go_ret
    all_goals exact ⟨ret_bb (by simp only [secB]; first | rfl | (rw [Bool.eq_iff_iff]; simp; omega)), rfl⟩
  · have c1 : decide (0 ≤ n) = false := decide_eq_false h1
    go_enter Tryd.func37, Tryd.ntmps37
    go_wp2
    all_goals go_ret
    all_goals exact ⟨ret_bb (by simp only [secB]; symm; rw [decide_eq_false_iff_not]; omega), rfl⟩
set_option maxHeartbeats 2000000 in
set_option maxRecDepth 100000 in
theorem ish_calls (a b : Int) (s : List UInt8) (w : World) (hs : s.length = 32) (ha : (Lit.int .i64 a).wf = true) (hb : (Lit.int .i64 b).wf = true) :
    Calls Tryd.prog 28 #[.agg (PC a b s).toArray] w fun e w' => e = .returned (.bool (isH a b s)) ∧ Fr0 w w' := by
  have heq := eq_ptr a b (-1) (-1) s Z hs Z_len ha hb (by decide) (by decide)
  change ∀ W, (Op.equalIn 10000 37 (.agg (PC a b s).toArray) (.agg HOLE)).run Tryd.prog W = .ok (isH a b s) W at heq
  have hz : (Tryd.prog.info? 37).map (·.size) = some (PC a b s).toArray.size := by rw [info_p, List.size_toArray, PC_length, hs]
  have HI := Lib.hid hz
  generalize (PC a b s).toArray = X at *
  generalize isH a b s = r at *
  clear hs ha hb hz
  have H0 : Hid (Held w [(w.heap.size, .cells X 37 (0, 0))] (w.alloc (.cells X 37))) := Lib.hid (Held.cons (Bk.new w _) (Held.nil (Fr.alloc (Fr.refl _ _) _)))
  go_enter Tryd.func28, Tryd.ntmps28
  go_wp2_with fail
  refine wp_region_noPanic ?_
  refine wp_region_held_drew (S := (Held w [(w.heap.size, .cells X 37 (0, 0))])) (by kernel_rfl) (Held.drew H0.out) (fun hHeld0 => ?_)
  refine tk (i := 0) (v := .agg X) rfl (yields_row (by kernel_rfl) 37 _ rfl w.heap.size rfl 37 X (0, 0) _ (fun w h => Held.a0 h) Tryd.underlying37 rfl HI.out) hHeld0 ?_
  simp only [Act.put, zA, zB, zC, zD, zE, zF]
  change wpAnyH _ _ _ _ _ 3 #[true, false, false, false] _ _
  refine wpAnyH_ready (rs := [1]) (by kernel_rfl) (by simp) ?_
  refine AllReadyH.cons rfl (fun K hK => ?_) AllReadyH.nil
  simp only [zA, zB, zC]
  refine (if_pos (by kernel_rfl)).mpr ?_
  go_wp2_with fail
  refine (hole_calls _).mono ?_
  rintro e wx0 ⟨rfl, hfx0⟩
  dsimp only
  refine hK.out _ _ (Held.keep hfx0 hHeld0) (fun hHeld1 => ?_)
  clear hK K hHeld0
  refine tk (i := 2) (v := .bool r) rfl (Or.inl ⟨by kernel_rfl, fun w hSw => run_eql_op rfl rfl rfl guard_p heq w⟩) hHeld1 ?_
  simp only [Act.put, zA, zB, zC, zD, zE, zF]
  change wpAnyH _ _ _ _ _ 1 #[true, true, true, false] _ _
  refine wpAnyH_ready (rs := [3]) (by kernel_rfl) (by simp) ?_
  refine AllReadyH.cons rfl (fun K hK => ?_) AllReadyH.nil
  simp only [zA, zB, zC]
  refine (if_pos (by kernel_rfl)).mpr ?_
  go_wp2_with fail
  refine hK.out _ _ hHeld1 (fun _ => ?_)
  clear hK K
  change wpAnyH _ _ _ _ _ 0 #[true, true, true, true] _ _
  refine wpAnyH_done (by kernel_rfl) ?_ _
  refine NoPanic.normal ?_
  have HFIN := Lib.hid (Held.f hHeld1)
  have HEND := Lib.hid hHeld1
  clear hHeld1
  go_wp2_with fail
  all_goals go_ret
  exact ⟨rfl, HFIN.out⟩
set_option maxHeartbeats 2000000 in
set_option maxRecDepth 100000 in
theorem right_1 (a b : Int) (s : List UInt8) (w : World) (hs : s.length = 32) (ha : (Lit.int .i64 a).wf = true) (hb : (Lit.int .i64 b).wf = true) (k0 : isH a b s = true) :
    Calls Tryd.prog 38 #[.agg (PC a b s).toArray] w fun e w' => e = .returned (.bool (true)) ∧ Fr0 w w' := by
  have HS : Hid (∀ w, _) := Lib.hid (fun w => ish_calls a b s w hs ha hb)
  rw [k0] at HS
  have hz : (Tryd.prog.info? 37).map (·.size) = some (PC a b s).toArray.size := by rw [info_p, List.size_toArray, PC_length, hs]
  have HI := Lib.hid hz
  have p0 : (PC a b s).toArray[0]? = some (.int .i64 a) := rfl
  have p1 : (PC a b s).toArray[1]? = some (.int .i64 b) := rfl
  generalize (PC a b s).toArray = X at *
  have H0 : Hid (Bk (w.alloc (.cells X 37)) w.heap.size X 37) := Lib.hid (Bk.new w _)
  have HFA : Hid (Fr0 w (w.alloc (.cells X 37))) := Lib.hid (Fr.alloc (Fr.refl _ _) _)
  have P0 := Lib.hid p0
  have P1 := Lib.hid p1
  clear hs ha hb hz k0 p0 p1
  go_enter Tryd.func38, Tryd.ntmps38
  go_wp2_with (first | (refine wpList_load_row rfl 37 _ rfl w.heap.size rfl 37 X (0, 0) _ H0.out Tryd.underlying37 rfl HI.out ?_) | (go_at_call 28; (refine (HS.out _).mono ?_); rintro e w1 ⟨rfl, hf1⟩; have q0 := (Bk.cell (hf1.keep H0.out (fun h => h)) 0).trans P0.out; have q1 := (Bk.cell (hf1.keep H0.out (fun h => h)) 1).trans P1.out; have HF1 := Lib.hid (HFA.out.then0 hf1); clear hf1) | (go_at_call 37; (with_reducible refine (sec_calls a _).mono ?_); rintro e w2 ⟨rfl, rfl⟩) | (go_at_call 37; (with_reducible refine (sec_calls b _).mono ?_); rintro e w2 ⟨rfl, rfl⟩))
  all_goals go_ret
  all_goals exact ⟨rfl, HF1.out⟩
set_option maxHeartbeats 2000000 in
set_option maxRecDepth 100000 in
theorem right_2 (a b : Int) (s : List UInt8) (w : World) (hs : s.length = 32) (ha : (Lit.int .i64 a).wf = true) (hb : (Lit.int .i64 b).wf = true) (k0 : isH a b s = false) (k1 : secB a = false) :
    Calls Tryd.prog 38 #[.agg (PC a b s).toArray] w fun e w' => e = .returned (.bool (false)) ∧ Fr0 w w' := by
  have HS : Hid (∀ w, _) := Lib.hid (fun w => ish_calls a b s w hs ha hb)
  rw [k0] at HS
  have hz : (Tryd.prog.info? 37).map (·.size) = some (PC a b s).toArray.size := by rw [info_p, List.size_toArray, PC_length, hs]
  have HI := Lib.hid hz
  have p0 : (PC a b s).toArray[0]? = some (.int .i64 a) := rfl
  have p1 : (PC a b s).toArray[1]? = some (.int .i64 b) := rfl
  generalize (PC a b s).toArray = X at *
  have H0 : Hid (Bk (w.alloc (.cells X 37)) w.heap.size X 37) := Lib.hid (Bk.new w _)
  have HFA : Hid (Fr0 w (w.alloc (.cells X 37))) := Lib.hid (Fr.alloc (Fr.refl _ _) _)
  have P0 := Lib.hid p0
  have P1 := Lib.hid p1
  clear hs ha hb hz k0 p0 p1
  go_enter Tryd.func38, Tryd.ntmps38
  go_wp2_with (first | (refine wpList_load_row rfl 37 _ rfl w.heap.size rfl 37 X (0, 0) _ H0.out Tryd.underlying37 rfl HI.out ?_) | (go_at_call 28; (refine (HS.out _).mono ?_); rintro e w1 ⟨rfl, hf1⟩; have q0 := (Bk.cell (hf1.keep H0.out (fun h => h)) 0).trans P0.out; have q1 := (Bk.cell (hf1.keep H0.out (fun h => h)) 1).trans P1.out; have HF1 := Lib.hid (HFA.out.then0 hf1); clear hf1) | (go_at_call 37; (with_reducible refine (sec_calls a _).mono ?_); rintro e w2 ⟨rfl, rfl⟩) | (go_at_call 37; (with_reducible refine (sec_calls b _).mono ?_); rintro e w2 ⟨rfl, rfl⟩))
  all_goals go_ret
  all_goals exact ⟨rfl, HF1.out⟩
set_option maxHeartbeats 2000000 in
set_option maxRecDepth 100000 in
theorem right_3 (a b : Int) (s : List UInt8) (w : World) (hs : s.length = 32) (ha : (Lit.int .i64 a).wf = true) (hb : (Lit.int .i64 b).wf = true) (k0 : isH a b s = false) (k1 : secB a = true) (k2 : (b == -1) = true) :
    Calls Tryd.prog 38 #[.agg (PC a b s).toArray] w fun e w' => e = .returned (.bool (true)) ∧ Fr0 w w' := by
  have HS : Hid (∀ w, _) := Lib.hid (fun w => ish_calls a b s w hs ha hb)
  rw [k0] at HS
  have hz : (Tryd.prog.info? 37).map (·.size) = some (PC a b s).toArray.size := by rw [info_p, List.size_toArray, PC_length, hs]
  have HI := Lib.hid hz
  have p0 : (PC a b s).toArray[0]? = some (.int .i64 a) := rfl
  have p1 : (PC a b s).toArray[1]? = some (.int .i64 b) := rfl
  generalize (PC a b s).toArray = X at *
  have H0 : Hid (Bk (w.alloc (.cells X 37)) w.heap.size X 37) := Lib.hid (Bk.new w _)
  have HFA : Hid (Fr0 w (w.alloc (.cells X 37))) := Lib.hid (Fr.alloc (Fr.refl _ _) _)
  have P0 := Lib.hid p0
  have P1 := Lib.hid p1
  clear hs ha hb hz k0 p0 p1
  go_enter Tryd.func38, Tryd.ntmps38
  go_wp2_with (first | (refine wpList_load_row rfl 37 _ rfl w.heap.size rfl 37 X (0, 0) _ H0.out Tryd.underlying37 rfl HI.out ?_) | (go_at_call 28; (refine (HS.out _).mono ?_); rintro e w1 ⟨rfl, hf1⟩; have q0 := (Bk.cell (hf1.keep H0.out (fun h => h)) 0).trans P0.out; have q1 := (Bk.cell (hf1.keep H0.out (fun h => h)) 1).trans P1.out; have HF1 := Lib.hid (HFA.out.then0 hf1); clear hf1) | (go_at_call 37; (with_reducible refine (sec_calls a _).mono ?_); rintro e w2 ⟨rfl, rfl⟩) | (go_at_call 37; (with_reducible refine (sec_calls b _).mono ?_); rintro e w2 ⟨rfl, rfl⟩))
  all_goals go_ret
  all_goals exact ⟨rfl, HF1.out⟩
set_option maxHeartbeats 2000000 in
set_option maxRecDepth 100000 in
theorem right_4 (a b : Int) (s : List UInt8) (w : World) (hs : s.length = 32) (ha : (Lit.int .i64 a).wf = true) (hb : (Lit.int .i64 b).wf = true) (k0 : isH a b s = false) (k1 : secB a = true) (k2 : (b == -1) = false) (k3 : secB b = false) :
    Calls Tryd.prog 38 #[.agg (PC a b s).toArray] w fun e w' => e = .returned (.bool (false)) ∧ Fr0 w w' := by
  have HS : Hid (∀ w, _) := Lib.hid (fun w => ish_calls a b s w hs ha hb)
  rw [k0] at HS
  have hz : (Tryd.prog.info? 37).map (·.size) = some (PC a b s).toArray.size := by rw [info_p, List.size_toArray, PC_length, hs]
  have HI := Lib.hid hz
  have p0 : (PC a b s).toArray[0]? = some (.int .i64 a) := rfl
  have p1 : (PC a b s).toArray[1]? = some (.int .i64 b) := rfl
  generalize (PC a b s).toArray = X at *
  have H0 : Hid (Bk (w.alloc (.cells X 37)) w.heap.size X 37) := Lib.hid (Bk.new w _)
  have HFA : Hid (Fr0 w (w.alloc (.cells X 37))) := Lib.hid (Fr.alloc (Fr.refl _ _) _)
  have P0 := Lib.hid p0
  have P1 := Lib.hid p1
  clear hs ha hb hz k0 p0 p1
  go_enter Tryd.func38, Tryd.ntmps38
  go_wp2_with (first | (refine wpList_load_row rfl 37 _ rfl w.heap.size rfl 37 X (0, 0) _ H0.out Tryd.underlying37 rfl HI.out ?_) | (go_at_call 28; (refine (HS.out _).mono ?_); rintro e w1 ⟨rfl, hf1⟩; have q0 := (Bk.cell (hf1.keep H0.out (fun h => h)) 0).trans P0.out; have q1 := (Bk.cell (hf1.keep H0.out (fun h => h)) 1).trans P1.out; have HF1 := Lib.hid (HFA.out.then0 hf1); clear hf1) | (go_at_call 37; (with_reducible refine (sec_calls a _).mono ?_); rintro e w2 ⟨rfl, rfl⟩) | (go_at_call 37; (with_reducible refine (sec_calls b _).mono ?_); rintro e w2 ⟨rfl, rfl⟩))
  all_goals go_ret
  all_goals exact ⟨rfl, HF1.out⟩
set_option maxHeartbeats 2000000 in
set_option maxRecDepth 100000 in
theorem right_5 (a b : Int) (s : List UInt8) (w : World) (hs : s.length = 32) (ha : (Lit.int .i64 a).wf = true) (hb : (Lit.int .i64 b).wf = true) (k0 : isH a b s = false) (k1 : secB a = true) (k2 : (b == -1) = false) (k3 : secB b = true) :
    Calls Tryd.prog 38 #[.agg (PC a b s).toArray] w fun e w' => e = .returned (.bool (!(b == a))) ∧ Fr0 w w' := by
  have HS : Hid (∀ w, _) := Lib.hid (fun w => ish_calls a b s w hs ha hb)
  rw [k0] at HS
  have hz : (Tryd.prog.info? 37).map (·.size) = some (PC a b s).toArray.size := by rw [info_p, List.size_toArray, PC_length, hs]
  have HI := Lib.hid hz
  have p0 : (PC a b s).toArray[0]? = some (.int .i64 a) := rfl
  have p1 : (PC a b s).toArray[1]? = some (.int .i64 b) := rfl
  generalize (PC a b s).toArray = X at *
  have H0 : Hid (Bk (w.alloc (.cells X 37)) w.heap.size X 37) := Lib.hid (Bk.new w _)
  have HFA : Hid (Fr0 w (w.alloc (.cells X 37))) := Lib.hid (Fr.alloc (Fr.refl _ _) _)
  have P0 := Lib.hid p0
  have P1 := Lib.hid p1
  clear hs ha hb hz k0 p0 p1
  go_enter Tryd.func38, Tryd.ntmps38
  go_wp2_with (first | (refine wpList_load_row rfl 37 _ rfl w.heap.size rfl 37 X (0, 0) _ H0.out Tryd.underlying37 rfl HI.out ?_) | (go_at_call 28; (refine (HS.out _).mono ?_); rintro e w1 ⟨rfl, hf1⟩; have q0 := (Bk.cell (hf1.keep H0.out (fun h => h)) 0).trans P0.out; have q1 := (Bk.cell (hf1.keep H0.out (fun h => h)) 1).trans P1.out; have HF1 := Lib.hid (HFA.out.then0 hf1); clear hf1) | (go_at_call 37; (with_reducible refine (sec_calls a _).mono ?_); rintro e w2 ⟨rfl, rfl⟩) | (go_at_call 37; (with_reducible refine (sec_calls b _).mono ?_); rintro e w2 ⟨rfl, rfl⟩))
  all_goals go_ret
  all_goals exact ⟨rfl, HF1.out⟩
theorem right_calls (a b : Int) (s : List UInt8) (w : World) (hs : s.length = 32) (ha : (Lit.int .i64 a).wf = true) (hb : (Lit.int .i64 b).wf = true) :
    Calls Tryd.prog 38 #[.agg (PC a b s).toArray] w fun e w' => e = .returned (.bool (rightB a b s)) ∧ Fr0 w w' := by
  unfold rightB
  cases k0 : isH a b s with
  | true => exact right_1 a b s w hs ha hb k0
  | false =>
    cases k1 : secB a with
    | false => simpa using right_2 a b s w hs ha hb k0 k1
    | true =>
      by_cases hb1 : b = -1
      · have := right_3 a b s w hs ha hb k0 k1 (by rw [beq_iff_eq]; exact hb1)
        simpa [hb1] using this
      · have k2 : (b == -1) = false := by rw [beq_eq_false_iff_ne]; exact hb1
        cases k3 : secB b with
        | false => simpa [hb1] using right_4 a b s w hs ha hb k0 k1 k2 k3
        | true =>
          have := right_5 a b s w hs ha hb k0 k1 k2 k3
          have e : (b == a) = decide (b = a) := rfl
          rw [e] at this
          simpa [hb1] using this

end Go.Proofs.YtmkmpfnadcmcoaaDoor.PtrAsk
namespace Go.Proofs.YtmkmpfnadcmcoaaDoor.PtrOf
open Go Go.RowKit Go.Proofs.YtmkmpfnadcmcoaaDoor.K Go.Proofs.YtmkmpfnadcmcoaaDoor.EqKit Go.Proofs.YtmkmpfnadcmcoaaDoor.PtrKit Go.Proofs.YtmkmpfnadcmcoaaDoor.ArrKit Go.Proofs.YtmkmpfnadcmcoaaDoor.HeldKit Go.Proofs.YtmkmpfnadcmcoaaDoor.PtrAsk Go.Proofs.YtmkmpfnadcmcoaaDoor.ShaStep Go.Proofs.YtmkmpfnadcmcoaaDoor.ShaRef Go.Proofs.YtmkmpfnadcmcoaaDoor.ShaSum Go.Proofs.YtmkmpfnadcmcoaaDoor.ShaRSum
theorem wpList_load_row_g {P : Program} {ops : Array Oper} {rest : List Oper} {o : Oper} {a : Act} {w : World} {Q : Exit → Act → World → Prop} (hw : Region.wanted o (yielded ops a.tmps) = true) (ty : TypeId) (x : Operand) (ho : o.op = .load ty x)
    (g : Nat) (hx : a.eval x = .pointer (some ⟨g, 0, none⟩)) (t : TypeId) (cs : Array Value) (fr : Nat × Nat) (d : TypeDesc) (hg : w.heap[g]? = some (.cells cs t fr))
    (hu : P.underlying ty = some d) (hd : (match d with | .struct _ | .array _ _ => true | _ => false) = true) (hi : (P.info? ty).map (·.size) = some cs.size)
    (h : wpList P ops Q rest (a.put o.dst (.agg cs)) w) : wpList P ops Q (o :: rest) a w := by
  unfold wpList
  rw [if_pos hw]
  exact Or.inl (wp_load_row ty x ho g hx t cs fr d hg hu hd hi h)
theorem sets_bk {g : Nat} {t : TypeId} : ∀ (vs : List Value) (o : Nat) (w : World) (cs : Array Value), Bk w g cs t → Bk (w.setCells g o vs) g (lay cs o vs) t
  | [], _, _, _, h => h
  | v :: r, o, w, cs, h => sets_bk r (o + 1) _ _ (h.set o v)
theorem sets_fr {g : Nat} {w0 : World} : ∀ (vs : List Value) (o : Nat) (w : World), Fr (· = g) w0 w → Fr (· = g) w0 (w.setCells g o vs)
  | [], _, _, h => h
  | v :: r, o, w, h => sets_fr r (o + 1) _ (h.set _ _ (.inr rfl))
def okB (a c : Int) : Bool := secB a && (decide (c = -1) || (secB c && !decide (c = a)))
def YL (a c : Int) : Array Value := #[.int .i64 a, .int .i64 c, .int .u8 0, .int .u8 0, .int .u8 0, .int .u8 0, .int .u8 0, .int .u8 0, .int .u8 0, .int .u8 0, .int .u8 0, .int .u8 0, .int .u8 0, .int .u8 0, .int .u8 0, .int .u8 0, .int .u8 0, .int .u8 0, .int .u8 0, .int .u8 0, .int .u8 0, .int .u8 0, .int .u8 0, .int .u8 0, .int .u8 0, .int .u8 0, .int .u8 0, .int .u8 0, .int .u8 0, .int .u8 0, .int .u8 0, .int .u8 0, .int .u8 0, .int .u8 0]
theorem YL_eq (a c : Int) : YL a c = (PC a c Z).toArray := rfl
theorem YL_one (a c : Int) : (YL a c).all (·.oneCell') = true := by simp [YL, Value.oneCell']
theorem ZERO_one : ZERO.all (·.oneCell') = true := by kernel_rfl
theorem lay_YL (a c : Int) (s : List UInt8) (hs : s.length = 32) : lay (YL a c) 2 (s.map B).toArray.toList = (PC a c s).toArray := by
  apply Array.ext_getElem?
  intro i
  rw [lay_get]
  simp only [List.length_map, hs]
  have h34 : (YL a c).size = 34 := rfl
  by_cases h : 2 ≤ i ∧ i < 2 + 32 ∧ i < (YL a c).size
  · rw [if_pos h]
    obtain ⟨j, rfl⟩ : ∃ j, i = j + 2 := ⟨i - 2, by omega⟩
    simp [PC]
  · rw [if_neg h]
    match i, h with
    | 0, _ => rfl
    | 1, _ => rfl
    | j + 2, h => rw [Array.getElem?_eq_none (by omega), Array.getElem?_eq_none (by simp [PC, hs]; omega)]
theorem there_YL {w : World} {g : Nat} {t : TypeId} {a c : Int} {n : Nat} (h : Bk w g (YL a c) t) (hn : n = 32) : w.there g 2 n := fun j hj => ⟨by
  have h34 : (YL a c).size = 34 := rfl
  rw [Bk.cell h, Array.getElem?_eq_getElem (by omega)]
  rfl, Bk.free h _⟩
theorem set_YL {w : World} {g : Nat} {t : TypeId} {a c : Int} {s : List UInt8} (h : Bk w g (YL a c) t) (hs : s.length = 32) : Bk (w.setCells g 2 (s.map B).toArray.toList) g (PC a c s).toArray t := by
  have := sets_bk (s.map B).toArray.toList 2 _ _ h
  rw [lay_YL a c s hs] at this
  exact this
theorem sec_eq (n : Int) (r : Bool) (w : World) (h : secB n = r) : Calls Tryd.prog 37 #[.int .i64 n] w fun e w' => e = .returned (.bool r) ∧ w = w' := h ▸ sec_calls n w
set_option maxHeartbeats 2000000 in
set_option maxRecDepth 100000 in
theorem of_no1 (bl : List UInt8) (a c : Int) (w : World) (k1 : Hid (secB a = false)) :
    Calls Tryd.prog 16 #[.agg (bl.map B).toArray, .int .i64 a, .int .i64 c] w fun e w' => e = .returned (.tuple #[.agg ZERO, .int .i64 1]) ∧ Fr0 w w' := by
  generalize (bl.map B).toArray = X
  have HI : Hid ((Tryd.prog.info? 37).map (·.size) = some (YL a c).size) := Lib.hid info_p
  have hs2 : ((w.alloc (.cells X 22)).alloc (.cells ZERO 37)).heap.size = w.heap.size + 1 + 1 := by simp
  have HNP : Hid (Bk (((w.alloc (.cells X 22)).alloc (.cells ZERO 37)).alloc (.cells ZERO 37)) (w.heap.size + 1 + 1) ZERO 37) := Lib.hid (by have := Bk.new ((w.alloc (.cells X 22)).alloc (.cells ZERO 37)) (.cells ZERO 37); rwa [hs2] at this)
  have hs1 : (w.alloc (.cells X 22)).heap.size = w.heap.size + 1 := by simp
  have HNR : Hid (Bk (((w.alloc (.cells X 22)).alloc (.cells ZERO 37)).alloc (.cells ZERO 37)) (w.heap.size + 1) ZERO 37) := Lib.hid (Bk.alloc (by have := Bk.new (w.alloc (.cells X 22)) (.cells ZERO 37); rwa [hs1] at this) _)
  have HNX : Hid (Bk (((w.alloc (.cells X 22)).alloc (.cells ZERO 37)).alloc (.cells ZERO 37)) w.heap.size X 22) := Lib.hid (Bk.alloc (Bk.alloc (Bk.new w _) _) _)
  have HNF : Hid (Fr0 w (((w.alloc (.cells X 22)).alloc (.cells ZERO 37)).alloc (.cells ZERO 37))) := Lib.hid (Fr.alloc (Fr.alloc (Fr.alloc (Fr.refl _ _) _) _) _)
  have GP : Hid (Bk ((((w.alloc (.cells X 22)).alloc (.cells ZERO 37)).alloc (.cells ZERO 37)).setRow (w.heap.size + 1 + 1) (YL a c)) (w.heap.size + 1 + 1) (YL a c) 37) := Lib.hid (ArrKit.Bk.row HNP.out _)
  have GR : Hid (Bk ((((w.alloc (.cells X 22)).alloc (.cells ZERO 37)).alloc (.cells ZERO 37)).setRow (w.heap.size + 1 + 1) (YL a c)) (w.heap.size + 1) ZERO 37) := Lib.hid (ArrKit.Bk.rowOther HNR.out _ (by omega))
  have GX : Hid (Bk ((((w.alloc (.cells X 22)).alloc (.cells ZERO 37)).alloc (.cells ZERO 37)).setRow (w.heap.size + 1 + 1) (YL a c)) w.heap.size X 22) := Lib.hid (ArrKit.Bk.rowOther HNX.out _ (by omega))
  have GF : Hid (Fr0 w ((((w.alloc (.cells X 22)).alloc (.cells ZERO 37)).alloc (.cells ZERO 37)).setRow (w.heap.size + 1 + 1) (YL a c))) := Lib.hid (ArrKit.Fr.row HNF.out _ _ (.inl (by omega)))
  clear hs1 hs2
  generalize hw3 : (((w.alloc (.cells X 22)).alloc (.cells ZERO 37)).alloc (.cells ZERO 37)).setRow (w.heap.size + 1 + 1) (YL a c) = w3 at *
  go_enter Tryd.func16, Tryd.ntmps16
  go_wp2_with (first | (refine wpList_store_row rfl 37 _ _ rfl (w.heap.size + 1 + 1) (YL a c) rfl rfl 37 ZERO HNP.out HI.out (by rfl) (YL_one a c) ?_; change wpList _ _ _ _ _ ((((w.alloc (.cells X 22)).alloc (.cells ZERO 37)).alloc (.cells ZERO 37)).setRow (w.heap.size + 1 + 1) (YL a c)); rw [hw3]) | (refine wpList_store_row rfl 37 _ _ rfl (w.heap.size + 1) ZERO rfl rfl 37 ZERO GR.out info_p rfl ZERO_one ?_) | (go_at_call 37; (with_reducible refine (sec_eq a false _ k1.out).mono ?_); rintro e w2 ⟨rfl, rfl⟩))
  refine fin_ct (w.heap.size + 1) 37 ZERO (.int .i64 1) (by rfl) (by rfl) (by rfl) (by rfl) Tryd.underlying37 (by rfl) info_p (ArrKit.Bk.row GR.out _) ?_
  exact ⟨rfl, ArrKit.Fr.row GF.out _ _ (.inl (by omega))⟩
set_option maxHeartbeats 2000000 in
set_option maxRecDepth 100000 in
theorem of_no2 (bl : List UInt8) (a c : Int) (w : World) (k1 : Hid (secB a = true)) (ha : (Lit.int .i64 a).wf = true) (hc : (Lit.int .i64 c).wf = true) (k2 : rightB a c Z = false) :
    Calls Tryd.prog 16 #[.agg (bl.map B).toArray, .int .i64 a, .int .i64 c] w fun e w' => e = .returned (.tuple #[.agg ZERO, .int .i64 1]) ∧ Fr0 w w' := by
  have HRT : Hid (∀ w, Calls Tryd.prog 38 #[.agg (YL a c)] w fun e w' => e = .returned (.bool false) ∧ Fr0 w w') := Lib.hid (fun w => by
    have := right_calls a c Z w Z_len ha hc
    rwa [k2, ← YL_eq] at this)
  clear ha hc k2
  generalize (bl.map B).toArray = X
  have HI : Hid ((Tryd.prog.info? 37).map (·.size) = some (YL a c).size) := Lib.hid info_p
  have hs2 : ((w.alloc (.cells X 22)).alloc (.cells ZERO 37)).heap.size = w.heap.size + 1 + 1 := by simp
  have HNP : Hid (Bk (((w.alloc (.cells X 22)).alloc (.cells ZERO 37)).alloc (.cells ZERO 37)) (w.heap.size + 1 + 1) ZERO 37) := Lib.hid (by have := Bk.new ((w.alloc (.cells X 22)).alloc (.cells ZERO 37)) (.cells ZERO 37); rwa [hs2] at this)
  have hs1 : (w.alloc (.cells X 22)).heap.size = w.heap.size + 1 := by simp
  have HNR : Hid (Bk (((w.alloc (.cells X 22)).alloc (.cells ZERO 37)).alloc (.cells ZERO 37)) (w.heap.size + 1) ZERO 37) := Lib.hid (Bk.alloc (by have := Bk.new (w.alloc (.cells X 22)) (.cells ZERO 37); rwa [hs1] at this) _)
  have HNX : Hid (Bk (((w.alloc (.cells X 22)).alloc (.cells ZERO 37)).alloc (.cells ZERO 37)) w.heap.size X 22) := Lib.hid (Bk.alloc (Bk.alloc (Bk.new w _) _) _)
  have HNF : Hid (Fr0 w (((w.alloc (.cells X 22)).alloc (.cells ZERO 37)).alloc (.cells ZERO 37))) := Lib.hid (Fr.alloc (Fr.alloc (Fr.alloc (Fr.refl _ _) _) _) _)
  have GP : Hid (Bk ((((w.alloc (.cells X 22)).alloc (.cells ZERO 37)).alloc (.cells ZERO 37)).setRow (w.heap.size + 1 + 1) (YL a c)) (w.heap.size + 1 + 1) (YL a c) 37) := Lib.hid (ArrKit.Bk.row HNP.out _)
  have GR : Hid (Bk ((((w.alloc (.cells X 22)).alloc (.cells ZERO 37)).alloc (.cells ZERO 37)).setRow (w.heap.size + 1 + 1) (YL a c)) (w.heap.size + 1) ZERO 37) := Lib.hid (ArrKit.Bk.rowOther HNR.out _ (by omega))
  have GX : Hid (Bk ((((w.alloc (.cells X 22)).alloc (.cells ZERO 37)).alloc (.cells ZERO 37)).setRow (w.heap.size + 1 + 1) (YL a c)) w.heap.size X 22) := Lib.hid (ArrKit.Bk.rowOther HNX.out _ (by omega))
  have GF : Hid (Fr0 w ((((w.alloc (.cells X 22)).alloc (.cells ZERO 37)).alloc (.cells ZERO 37)).setRow (w.heap.size + 1 + 1) (YL a c))) := Lib.hid (ArrKit.Fr.row HNF.out _ _ (.inl (by omega)))
  clear hs1 hs2
  generalize hw3 : (((w.alloc (.cells X 22)).alloc (.cells ZERO 37)).alloc (.cells ZERO 37)).setRow (w.heap.size + 1 + 1) (YL a c) = w3 at *
  go_enter Tryd.func16, Tryd.ntmps16
  go_wp2_with (first | (refine wpList_store_row rfl 37 _ _ rfl (w.heap.size + 1 + 1) (YL a c) rfl rfl 37 ZERO HNP.out HI.out (by rfl) (YL_one a c) ?_; change wpList _ _ _ _ _ ((((w.alloc (.cells X 22)).alloc (.cells ZERO 37)).alloc (.cells ZERO 37)).setRow (w.heap.size + 1 + 1) (YL a c)); rw [hw3]) | (refine wpList_store_row rfl 37 _ _ rfl (w.heap.size + 1) ZERO rfl rfl 37 ZERO GR5.out info_p rfl ZERO_one ?_) | (go_at_call 37; (with_reducible refine (sec_eq a true _ k1.out).mono ?_); rintro e w2 ⟨rfl, rfl⟩) | (refine wpList_load_row_g (by rfl) 37 _ rfl (w.heap.size + 1 + 1) rfl 37 (YL a c) (0, 0) _ GP.out Tryd.underlying37 rfl HI.out ?_) | (go_at_call 38; (refine (HRT.out _).mono ?_); rintro e w5 ⟨rfl, hf5⟩; have GR5 : Hid (Bk w5 (w.heap.size + 1) ZERO 37) := Lib.hid (hf5.keep GR.out (fun h => h)); have GF5 := Lib.hid (GF.out.then0 hf5); clear hf5))
  refine fin_ct (w.heap.size + 1) 37 ZERO (.int .i64 1) (by rfl) (by rfl) (by rfl) (by rfl) Tryd.underlying37 (by rfl) info_p (ArrKit.Bk.row GR5.out _) ?_
  exact ⟨rfl, ArrKit.Fr.row GF5.out _ _ (.inl (by omega))⟩
set_option maxHeartbeats 2000000 in
set_option maxRecDepth 100000 in
theorem of_yes (bl : List UInt8) (hbl : bl.length = 128) (a c : Int) (w : World) (k1 : Hid (secB a = true)) (ha : (Lit.int .i64 a).wf = true) (hc : (Lit.int .i64 c).wf = true) (k2 : rightB a c Z = true) {tk tb : TypeId} (hK : Bk w 1 KC tk) (hB : Bk w 0 HB8 tb) :
    Calls Tryd.prog 16 #[.agg (bl.map B).toArray, .int .i64 a, .int .i64 c] w fun e w' => e = .returned (.tuple #[.agg (PC a c (sumOf bl)).toArray, .int .i64 0]) ∧ Fr0 w w' := by
  have HRT : Hid (∀ w, Calls Tryd.prog 38 #[.agg (YL a c)] w fun e w' => e = .returned (.bool true) ∧ Fr0 w w') := Lib.hid (fun w => by
    have := right_calls a c Z w Z_len ha hc
    rwa [k2, ← YL_eq] at this)
  have HK := Lib.hid hK
  have HB := Lib.hid hB
  have HBL := Lib.hid hbl
  have HSM : Hid (∀ (W : World), Rd W (some ⟨w.heap.size, 0, none⟩) bl → Bk W 1 KC tk → Bk W 0 HB8 tb → Calls Tryd.prog 39 #[.slice (some ⟨w.heap.size, 0, none⟩) 128 128] W fun e w' => e = .returned (.agg ((sumOf bl).map B).toArray) ∧ Fr0 W w') := Lib.hid (fun W h1 h2 h3 => sum_calls (some ⟨w.heap.size, 0, none⟩) 128 128 bl W hbl h1 (by omega) h2 h3)
  have hsl := sumOf_length bl
  generalize sumOf bl = sm at *
  have HSL := Lib.hid hsl
  have HIS : Hid ((Tryd.prog.info? 35).map (·.size) = some ((sm).map B).toArray.size) := Lib.hid (by rw [info32a, List.size_toArray, List.length_map, HSL.out])
  have HSO : Hid (((sm).map B).toArray.all (·.oneCell') = true) := Lib.hid (by simp [B, Value.oneCell'])
  have HIP : Hid ((Tryd.prog.info? 37).map (·.size) = some (PC a c (sm)).toArray.size) := Lib.hid (by rw [info_p, List.size_toArray, PC_length, HSL.out])
  have HPZ : Hid (ZERO.size = (PC a c (sm)).toArray.size) := Lib.hid ((show ZERO.size = 34 from rfl).trans (by rw [List.size_toArray, PC_length, HSL.out]))
  have HPO : Hid ((PC a c (sm)).toArray.all (·.oneCell') = true) := Lib.hid (by simp [PC, B, Value.oneCell'])
  clear ha hc k2 hK hB hbl hsl
  generalize hxx : (bl.map B).toArray = X at *
  have HXX := Lib.hid hxx
  clear hxx
  have HI : Hid ((Tryd.prog.info? 37).map (·.size) = some (YL a c).size) := Lib.hid info_p
  have hs2 : ((w.alloc (.cells X 22)).alloc (.cells ZERO 37)).heap.size = w.heap.size + 1 + 1 := by simp
  have HNP : Hid (Bk (((w.alloc (.cells X 22)).alloc (.cells ZERO 37)).alloc (.cells ZERO 37)) (w.heap.size + 1 + 1) ZERO 37) := Lib.hid (by have := Bk.new ((w.alloc (.cells X 22)).alloc (.cells ZERO 37)) (.cells ZERO 37); rwa [hs2] at this)
  have hs1 : (w.alloc (.cells X 22)).heap.size = w.heap.size + 1 := by simp
  have HNR : Hid (Bk (((w.alloc (.cells X 22)).alloc (.cells ZERO 37)).alloc (.cells ZERO 37)) (w.heap.size + 1) ZERO 37) := Lib.hid (Bk.alloc (by have := Bk.new (w.alloc (.cells X 22)) (.cells ZERO 37); rwa [hs1] at this) _)
  have HNX : Hid (Bk (((w.alloc (.cells X 22)).alloc (.cells ZERO 37)).alloc (.cells ZERO 37)) w.heap.size X 22) := Lib.hid (Bk.alloc (Bk.alloc (Bk.new w _) _) _)
  have HNF : Hid (Fr0 w (((w.alloc (.cells X 22)).alloc (.cells ZERO 37)).alloc (.cells ZERO 37))) := Lib.hid (Fr.alloc (Fr.alloc (Fr.alloc (Fr.refl _ _) _) _) _)
  have GP : Hid (Bk ((((w.alloc (.cells X 22)).alloc (.cells ZERO 37)).alloc (.cells ZERO 37)).setRow (w.heap.size + 1 + 1) (YL a c)) (w.heap.size + 1 + 1) (YL a c) 37) := Lib.hid (ArrKit.Bk.row HNP.out _)
  have GR : Hid (Bk ((((w.alloc (.cells X 22)).alloc (.cells ZERO 37)).alloc (.cells ZERO 37)).setRow (w.heap.size + 1 + 1) (YL a c)) (w.heap.size + 1) ZERO 37) := Lib.hid (ArrKit.Bk.rowOther HNR.out _ (by omega))
  have GX : Hid (Bk ((((w.alloc (.cells X 22)).alloc (.cells ZERO 37)).alloc (.cells ZERO 37)).setRow (w.heap.size + 1 + 1) (YL a c)) w.heap.size X 22) := Lib.hid (ArrKit.Bk.rowOther HNX.out _ (by omega))
  have GF : Hid (Fr0 w ((((w.alloc (.cells X 22)).alloc (.cells ZERO 37)).alloc (.cells ZERO 37)).setRow (w.heap.size + 1 + 1) (YL a c))) := Lib.hid (ArrKit.Fr.row HNF.out _ _ (.inl (by omega)))
  clear hs1 hs2
  generalize hw3 : (((w.alloc (.cells X 22)).alloc (.cells ZERO 37)).alloc (.cells ZERO 37)).setRow (w.heap.size + 1 + 1) (YL a c) = w3 at *
  go_enter Tryd.func16, Tryd.ntmps16
  go_wp2_with (first | (refine wpList_store_row rfl 37 _ _ rfl (w.heap.size + 1 + 1) (YL a c) rfl rfl 37 ZERO HNP.out HI.out (by rfl) (YL_one a c) ?_; change wpList _ _ _ _ _ ((((w.alloc (.cells X 22)).alloc (.cells ZERO 37)).alloc (.cells ZERO 37)).setRow (w.heap.size + 1 + 1) (YL a c)); rw [hw3]) | (go_at_call 37; (with_reducible refine (sec_eq a true _ k1.out).mono ?_); rintro e w2 ⟨rfl, rfl⟩) | (refine wpList_load_row_g (by rfl) 37 _ rfl (w.heap.size + 1 + 1) rfl 37 (YL a c) (0, 0) _ GP.out Tryd.underlying37 rfl HI.out ?_) | (go_at_call 38; (refine (HRT.out _).mono ?_); rintro e w5 ⟨rfl, hf5⟩; have GP5 := Lib.hid (hf5.keep GP.out (fun h => h)); have GX5 := Lib.hid (hf5.keep GX.out (fun h => h)); have HR5 : Hid (Rd w5 (some ⟨w.heap.size, 0, none⟩) bl) := Lib.hid (Rd.block GX5.out (fun i hi => by rw [Nat.zero_add, ← HXX.out]; simp [hi])); have HK5 := Lib.hid (hf5.keep (GF.out.keep HK.out (fun h => h)) (fun h => h)); have HB5 := Lib.hid (hf5.keep (GF.out.keep HB.out (fun h => h)) (fun h => h)); have GR5 : Hid (Bk w5 (w.heap.size + 1) ZERO 37) := Lib.hid (hf5.keep GR.out (fun h => h)); have GF5 := Lib.hid (GF.out.then0 hf5); clear hf5) | (go_at_call 39; (with_reducible refine (HSM.out _ HR5.out HK5.out HB5.out).mono ?_); rintro e w6 ⟨rfl, hf6⟩; have GP6 := Lib.hid (hf6.keep GP5.out (fun h => h)); have GR6 := Lib.hid (hf6.keep GR5.out (fun h => h)); have GF6 := Lib.hid (GF5.out.then0 hf6); have HTH : Hid (w6.there (w.heap.size + 1 + 1) 2 ((sm).map B).toArray.size) := Lib.hid (there_YL GP6.out (by rw [List.size_toArray, List.length_map, HSL.out])); have GP7 : Hid (Bk (w6.setCells (w.heap.size + 1 + 1) 2 ((sm).map B).toArray.toList) (w.heap.size + 1 + 1) (PC a c (sm)).toArray 37) := Lib.hid (set_YL GP6.out (HSL.out)); have GR7 : Hid (Bk (w6.setCells (w.heap.size + 1 + 1) 2 ((sm).map B).toArray.toList) (w.heap.size + 1) ZERO 37) := Lib.hid ((sets_fr ((sm).map B).toArray.toList 2 _ (Fr.refl (· = w.heap.size + 1 + 1) w6)).keep GR6.out (by omega)); have GF7 : Hid (Fr0 w (w6.setCells (w.heap.size + 1 + 1) 2 ((sm).map B).toArray.toList)) := Lib.hid (GF6.out.then (sets_fr ((sm).map B).toArray.toList 2 _ (Fr.refl (· = w.heap.size + 1 + 1) w6)) (fun i hi e => by omega)); clear hf6) | (refine wpList_store_mid rfl 35 _ _ rfl (w.heap.size + 1 + 1) 2 ((sm).map B).toArray rfl rfl HTH.out HIS.out HSO.out ?_; change wpList _ _ _ _ _ (w6.setCells (w.heap.size + 1 + 1) 2 ((sm).map B).toArray.toList); generalize (w6.setCells (w.heap.size + 1 + 1) 2 ((sm).map B).toArray.toList) = w7 at *) | (refine wpList_load_row rfl 37 _ rfl (w.heap.size + 1 + 1) rfl 37 (PC a c (sm)).toArray (0, 0) _ GP7.out Tryd.underlying37 rfl HIP.out ?_) | (refine wpList_store_row rfl 37 _ _ rfl (w.heap.size + 1) (PC a c (sm)).toArray rfl rfl 37 ZERO GR7.out HIP.out HPZ.out HPO.out ?_))
  refine fin_ct (w.heap.size + 1) 37 (PC a c (sm)).toArray (.int .i64 0) (by rfl) (by rfl) (by rfl) (by rfl) Tryd.underlying37 (by rfl) HIP.out (ArrKit.Bk.row GR7.out _) ?_
  exact ⟨rfl, ArrKit.Fr.row GF7.out _ _ (.inl (by omega))⟩
theorem isH_no (a b : Int) (s : List UInt8) (h : a ≠ -1) : isH a b s = false := decide_eq_false (fun e => h e.1)
theorem right_ok (a c : Int) (s : List UInt8) (h : a ≠ -1) : rightB a c s = okB a c := by rw [rightB, isH_no a c s h, Bool.false_or, okB]
theorem sec_ne {a : Int} (h : secB a = true) : a ≠ -1 := by
  rintro rfl
  simp [secB] at h
/-- what both make of a block and two sectors -/
def ofP (bl : List UInt8) (a c : Int) : Array Value := if okB a c then (PC a c (sumOf bl)).toArray else ZERO
def ofE (a c : Int) : Int := if okB a c then 0 else 1
theorem of_calls (bl : List UInt8) (hbl : bl.length = 128) (a c : Int) (w : World) (ha : (Lit.int .i64 a).wf = true) (hc : (Lit.int .i64 c).wf = true) {tk tb : TypeId} (hK : Bk w 1 KC tk) (hB : Bk w 0 HB8 tb) :
    Calls Tryd.prog 16 #[.agg (bl.map B).toArray, .int .i64 a, .int .i64 c] w fun e w' => e = .returned (.tuple #[.agg (ofP bl a c), .int .i64 (ofE a c)]) ∧ Fr0 w w' := by
  cases k1 : secB a with
  | false =>
    have e : okB a c = false := by rw [okB, k1, Bool.false_and]
    have := of_no1 bl a c w (Lib.hid k1)
    simpa only [ofP, ofE, e, Bool.false_eq_true, if_false] using this
  | true =>
    have hr := right_ok a c Z (sec_ne k1)
    cases k2 : okB a c with
    | false =>
      have := of_no2 bl a c w (Lib.hid k1) ha hc (hr.trans k2)
      simpa only [ofP, ofE, k2, Bool.false_eq_true, if_false] using this
    | true =>
      have := of_yes bl hbl a c w (Lib.hid k1) ha hc (hr.trans k2) hK hB
      simpa only [ofP, ofE, k2, if_true] using this

end Go.Proofs.YtmkmpfnadcmcoaaDoor.PtrOf
