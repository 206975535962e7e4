/- A table's bytes, in plain words. -/
import Derived.Test.YtlleandelcjhjaaDoorRmRRight
import Derived.Test.YtlleandelcjhjaaDoorDiskRRead
import Derived.Test.YtlleandelcjhjaaDoorRefWord
import Derived.Test.YtlleandelcjhjaaDoorShaRSum
set_option maxRecDepth 100000
set_option linter.unusedVariables false
set_option linter.unusedSimpArgs false
namespace Go.Proofs.YtlleandelcjhjaaDoor.RmTab
open Go Go.RowKit Go.Proofs.YtlleandelcjhjaaDoor.K Go.Proofs.YtlleandelcjhjaaDoor.EqKit Go.Proofs.YtlleandelcjhjaaDoor.ArrKit Go.Proofs.YtlleandelcjhjaaDoor.HeldKit Go.Proofs.YtlleandelcjhjaaDoor.GKit Go.Proofs.YtlleandelcjhjaaDoor.GRow Go.Proofs.YtlleandelcjhjaaDoor.DiskKit Go.Proofs.YtlleandelcjhjaaDoor.RmKit Go.Proofs.YtlleandelcjhjaaDoor.MapKit Go.Proofs.YtlleandelcjhjaaDoor.RmRight Go.Proofs.YtlleandelcjhjaaDoor.DiskRRead Go.Proofs.YtlleandelcjhjaaDoor.ShaRot Go.Proofs.YtlleandelcjhjaaDoor.ShaSpread Go.Proofs.YtlleandelcjhjaaDoor.ShaStep Go.Proofs.YtlleandelcjhjaaDoor.ShaPlain Go.Proofs.YtlleandelcjhjaaDoor.ShaRef Go.Proofs.YtlleandelcjhjaaDoor.WordPut Go.Proofs.YtlleandelcjhjaaDoor.ShaSum

def spl (l : List UInt8) (p : Nat) (m : List UInt8) : List UInt8 := l.take p ++ (m ++ l.drop (p + m.length))
theorem lay_spl (l m : List UInt8) (p : Nat) (h : p + m.length ≤ l.length) : lay (l.map B).toArray p (m.map B) = ((spl l p m).map B).toArray := by
  apply Array.ext_getElem?
  intro i
  rw [lay_get, List.length_map, List.size_toArray, List.length_map, List.getElem?_toArray, List.getElem?_toArray, List.getElem?_map, List.getElem?_map, List.getElem?_map, spl, List.getElem?_append, List.length_take, Nat.min_eq_left (by omega)]
  by_cases h1 : i < p
  · rw [if_neg (by omega), if_pos h1, List.getElem?_take, if_pos h1]
  · rw [if_neg h1, List.getElem?_append]
    by_cases h2 : i - p < m.length
    · rw [if_pos (by omega), if_pos h2]
    · rw [if_neg (by omega), if_neg h2, List.getElem?_drop, show p + m.length + (i - p - m.length) = i by omega]
theorem spl_end (A Z m : List UInt8) {p : Nat} (hp : A.length = p) : spl (A ++ Z) p m = A ++ m ++ Z.drop m.length := by
  subst hp
  simp [spl, List.append_assoc]
theorem spl_length (l m : List UInt8) (p : Nat) (h : p + m.length ≤ l.length) : (spl l p m).length = l.length := by
  simp [spl]; omega
/-- a pair's bytes -/
def pb (p : Int × Int) : List UInt8 := le p.1.toNat 2 ++ le p.2.toNat 2
theorem pb_len (p : Int × Int) : (pb p).length = 4 := by simp [pb]
def hd0 (m : Rm) : List UInt8 := [109] ++ le m.gen.toNat 8 ++ [UInt8.ofNat m.ps.length]
theorem hd0_len (m : Rm) : (hd0 m).length = 10 := by simp [hd0]
def pre (m : Rm) (i : Nat) : List UInt8 := hd0 m ++ (m.ps.take i).flatMap pb
theorem flat_pb : ∀ l : List (Int × Int), (l.flatMap pb).length = 4 * l.length := fun l => by
  induction l with
  | nil => rfl
  | cons a r ih => rw [List.flatMap_cons, List.length_append, ih, pb_len, List.length_cons]; omega
theorem pre_len (m : Rm) {i : Nat} (h : i ≤ m.ps.length) : (pre m i).length = 10 + 4 * i := by
  rw [pre, List.length_append, hd0_len, flat_pb, List.length_take, Nat.min_eq_left h]
theorem pre_succ (m : Rm) {i : Nat} (h : i < m.ps.length) : pre m (i + 1) = pre m i ++ (le m.ps[i].1.toNat 2 ++ le m.ps[i].2.toNat 2) := by
  rw [pre, pre, List.take_succ_eq_append_getElem h, List.flatMap_append, List.append_assoc]
  congr 1
def bodyB (m : Rm) (i : Nat) : List UInt8 := pre m i ++ List.replicate (118 - 4 * i) 0
theorem bodyB_len (m : Rm) {i : Nat} (h : i ≤ m.ps.length) (h2 : m.ps.length ≤ 20) : (bodyB m i).length = 128 := by
  rw [bodyB, List.length_append, pre_len m h, List.length_replicate]; omega
/-- a pair half laid -/
def halfB (m : Rm) (i : Nat) (f : Int) : List UInt8 := pre m i ++ le f.toNat 2 ++ List.replicate (116 - 4 * i) 0
theorem halfB_len (m : Rm) {i : Nat} (f : Int) (h : i ≤ m.ps.length) (h2 : m.ps.length ≤ 20) : (halfB m i f).length = 128 := by
  rw [halfB, List.length_append, List.length_append, pre_len m h, List.length_replicate, le_length]; omega
theorem step1 (m : Rm) {i : Nat} (f : Int) (h : i ≤ m.ps.length) : spl (bodyB m i) (10 + 4 * i) (le f.toNat 2) = halfB m i f := by
  rw [bodyB, spl_end _ _ _ (pre_len m h), halfB, le_length, List.drop_replicate]
  congr 2
  omega
theorem step2 (m : Rm) {i : Nat} (h : i < m.ps.length) : spl (halfB m i m.ps[i].1) (12 + 4 * i) (le m.ps[i].2.toNat 2) = bodyB m (i + 1) := by
  rw [halfB, spl_end _ _ _ (by rw [List.length_append, pre_len m (Nat.le_of_lt h), le_length]; omega), bodyB, pre_succ m h, le_length, List.drop_replicate, List.append_assoc (pre m i)]
  congr 2
  omega
def L0 : List UInt8 := [109] ++ List.replicate 127 0
def L1 (m : Rm) : List UInt8 := [109] ++ le m.gen.toNat 8 ++ List.replicate 119 0
theorem L0_len : L0.length = 128 := by simp [L0]
theorem L1_len (m : Rm) : (L1 m).length = 128 := by simp [L1]
theorem stepGen (m : Rm) : spl L0 1 (le m.gen.toNat 8) = L1 m := by
  rw [L0, spl_end [109] _ _ (p := 1) rfl, L1, le_length, List.drop_replicate]
theorem stepLen (m : Rm) : spl (L1 m) 9 [UInt8.ofNat m.ps.length] = bodyB m 0 := by
  rw [L1, spl_end _ _ _ (by simp), bodyB, pre, hd0]
  simp
def headB (m : Rm) : List UInt8 := (bodyB m m.ps.length).take 96
theorem headB_len (m : Rm) (h2 : m.ps.length ≤ 20) : (headB m).length = 96 := by
  rw [headB, List.length_take, bodyB_len m (Nat.le_refl _) h2]; rfl
/-- a table's bytes -/
def tabL (m : Rm) : List UInt8 := headB m ++ sumOf (headB m)
theorem tabL_len (m : Rm) (h2 : m.ps.length ≤ 20) : (tabL m).length = 128 := by
  rw [tabL, List.length_append, headB_len m h2, sumOf_length]
theorem step_sum (m : Rm) (h2 : m.ps.length ≤ 20) : spl (bodyB m m.ps.length) 96 (sumOf (headB m)) = tabL m := by
  rw [spl, sumOf_length, List.drop_eq_nil_of_le (by rw [bodyB_len m (Nat.le_refl _) h2]; omega), List.append_nil]; rfl
def tabX (m : Rm) (s : Int) : List UInt8 := if tabB m s = true then tabL m else Z128
def tabE (m : Rm) (s : Int) : Int := if tabB m s = true then 0 else 1
theorem tab_parts {m : Rm} {s : Int} (h : tabB m s = true) : half s ≠ 0 ∧ 0 ≤ m.gen ∧ m.gen ≤ 4611686018427387904 ∧ m.ps.length ≤ 20 ∧ ∀ i (hi : i < m.ps.length), stepB (half s) s m.ps i = true := by
  unfold tabB at h
  simp only [Bool.and_eq_true, decide_eq_true_eq, List.all_eq_true, List.mem_range] at h
  exact ⟨h.1.1.1.1, h.1.1.1.2, h.1.1.2, h.1.2, fun i hi => h.2 i hi⟩
theorem tab_pair {m : Rm} {s : Int} (h : tabB m s = true) {i : Nat} (hi : i < m.ps.length) : 0 ≤ m.ps[i].1 ∧ m.ps[i].1 < 4096 ∧ 0 ≤ m.ps[i].2 ∧ m.ps[i].2 < 4096 ∧ 2 * half s ≤ m.ps[i].2 ∧ m.ps[i].2 < s ∧ usableB m.ps[i].1 (half s) = true := by
  obtain ⟨h1, -, -, -, h5⟩ := tab_parts h
  have := h5 i hi
  have hl := half_lo h1
  have hg : m.ps.getD i (0, 0) = m.ps[i] := by rw [List.getD_eq_getElem?_getD, List.getElem?_eq_getElem hi]; rfl
  unfold stepB pok at this
  rw [hg] at this
  simp only [Bool.and_eq_true, decide_eq_true_eq] at this
  have hu := this.1.1.1.1
  have hu2 := hu
  unfold usableB at hu
  simp only [Bool.and_eq_true, decide_eq_true_eq] at hu
  refine ⟨by omega, by omega, by omega, by omega, by omega, by omega, hu2⟩
theorem tabX_len (m : Rm) (s : Int) : (tabX m s).length = 128 := by
  unfold tabX
  split
  · rename_i h; exact tabL_len m (tab_parts h).2.2.2.1
  · simp [Z128]
/-- sha's tables stand -/
structure Sh (w : World) : Prop where
  k : ∃ t, Bk w 1 KC t
  b : ∃ t, Bk w 0 HB8 t
theorem Sh.keep {S : Nat → Prop} {w w' : World} (h : Sh w) (f : Fr S w w') (h1 : ¬ S 1) (h0 : ¬ S 0) : Sh w' := by
  obtain ⟨⟨t, hk⟩, ⟨u, hb⟩⟩ := h
  exact ⟨⟨t, f.keep hk h1⟩, ⟨u, f.keep hb h0⟩⟩
theorem Sh.keep0 {w w' : World} (h : Sh w) (f : Fr0 w w') : Sh w' := h.keep f (fun h => h) (fun h => h)
theorem KC_size : KC.size = 64 := by simp [KC, ShaStep.cubes]
theorem HB8_size : HB8.size = 8 := by rfl
/-- a block of a few cells, or of many, is none of sha's -/
theorem Sh.ne {w : World} (h : Sh w) {p : Nat} {cs : Array Value} {t : TypeId} (hb : Bk w p cs t) (h8 : cs.size ≠ 8) (h64 : cs.size ≠ 64) : p ≠ 1 ∧ p ≠ 0 := by
  obtain ⟨⟨t1, hk⟩, ⟨u, hg⟩⟩ := h
  constructor
  · rintro rfl
    have := Option.some.inj (hb.symm.trans hk)
    injection this with e1
    rw [e1, KC_size] at h64
    exact h64 rfl
  · rintro rfl
    have := Option.some.inj (hb.symm.trans hg)
    injection this with e1
    rw [e1, HB8_size] at h8
    exact h8 rfl
theorem wpList_copy_run {P : Program} (w : World) {ops : Array Oper} {rest : List Oper} {o : Oper} {a : Act} {Q : Exit → Act → World → Prop} (hgd : o.guard = none) (d s : Operand) (t t' : TypeId)
    (ho : o.op = .call { callee := .builtin .copy, args := #[d, s], argTypes := #[t, t'] }) (v u : Value) (hd : a.eval d = v) (hs : a.eval s = u) {v' : Value} {w' : World}
    (hr : (Builtin.copy_ #[t, t'] o.type #[v, u]).run P w = .ok v' w') (h : wpList P ops Q rest (a.put o.dst v') w') : wpList P ops Q (o :: rest) a w :=
  wpList_plain hgd fun _ hK => by
    unfold Oper.wp execOp
    simp only [ho, resolve, invoke, builtin, Sem.run_bind, Sem.run_pure, Result.andThen_ok, List.map_toArray, List.map_cons, List.map_nil, hd, hs, hr]
    exact hK _ _ h

end Go.Proofs.YtlleandelcjhjaaDoor.RmTab
