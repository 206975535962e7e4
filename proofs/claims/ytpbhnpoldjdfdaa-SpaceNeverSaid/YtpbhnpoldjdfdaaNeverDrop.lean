/- SpaceNever: what Drop does in a play, and the row of pointers without one. -/
import Derived.Test.YtpbhnpoldjdfdaaNeverTake
set_option linter.unusedVariables false
set_option linter.unusedSimpArgs false
namespace Go.Proofs.Ytpbhnpoldjdfdaa.NeverDrop
open Go Go.RowKit Go.Proofs.Ytpbhnpoldjdfdaa.K Go.Proofs.Ytpbhnpoldjdfdaa.EqKit Go.Proofs.Ytpbhnpoldjdfdaa.ArrKit Go.Proofs.Ytpbhnpoldjdfdaa.HeldKit Go.Proofs.Ytpbhnpoldjdfdaa.GKit Go.Proofs.Ytpbhnpoldjdfdaa.GRow Go.Proofs.Ytpbhnpoldjdfdaa.SpKit Go.Proofs.Ytpbhnpoldjdfdaa.SpAsk Go.Proofs.Ytpbhnpoldjdfdaa.SpFind Go.Proofs.Ytpbhnpoldjdfdaa.SpNew Go.Proofs.Ytpbhnpoldjdfdaa.SpBecome Go.Proofs.Ytpbhnpoldjdfdaa.SpIdx Go.Proofs.Ytpbhnpoldjdfdaa.SpTake Go.Proofs.Ytpbhnpoldjdfdaa.SpPlaces Go.Proofs.Ytpbhnpoldjdfdaa.SpDrop Go.Proofs.Ytpbhnpoldjdfdaa.SpAlive Go.Proofs.Ytpbhnpoldjdfdaa.SpRow Go.Proofs.Ytpbhnpoldjdfdaa.NeverPlain Go.Proofs.Ytpbhnpoldjdfdaa.NeverKit Go.Proofs.Ytpbhnpoldjdfdaa.NeverApp Go.Proofs.Ytpbhnpoldjdfdaa.NeverTake Go.Proofs.Ytpbhnpoldjdfdaa.PtrKit

/-- the states behind the drop of a pointer -/
def drK (st : List UInt8) (x : Nat × Option Nat) : List UInt8 := match x.2 with
  | none => dropK st x.1
  | some j => dropK (dropK st x.1) j
/-- is a place one of the pointer's -/
def gq (x : Nat × Option Nat) (n : Nat) : Bool := n == x.1 || (match x.2 with | none => false | some j => n == j)
theorem split_at (held : List (Nat × Option Nat)) {m : Nat} (hm : m < held.length) : held = held.take m ++ held[m] :: held.drop (m + 1) := by
  rw [List.getElem_cons_drop, List.take_append_drop]
theorem inv_drop {st : List UInt8} {held : List (Nat × Option Nat)} {kept gone going : List Nat} (I : Inv st held kept gone going) {m : Nat} (hm : m < held.length) : Inv (drK st held[m]) (held.take m ++ held.drop (m + 1)) kept (gone ++ kept.filter (gq held[m])) (going ++ pl held[m]) := by
  have e := split_at held hm
  generalize held[m] = x at *
  generalize held.take m = A at *
  generalize held.drop (m + 1) = C at *
  subst e
  obtain ⟨i, oj⟩ := x
  cases oj with
  | none =>
    have e2 : gq (i, none) = (fun n => n == i) := by funext n; simp [gq]
    rw [e2]
    exact I.drop1
  | some j => exact I.drop2
theorem used_of {st : List UInt8} {i : Nat} (h : av st i = 1 ∨ av st i = 2) : ∀ y, st[i]? = some y → usedB y = true := fun y hy => by
  have e : av st i = y.toNat := by unfold av; rw [List.getD_eq_getElem?_getD, hy]; rfl
  rw [e] at h
  unfold usedB
  rcases h with h | h <;> simp [h]
theorem drop_all {w : World} {p g c : Nat} {st : List UInt8} {held : List (Nat × Option Nat)} {kept gone going : List Nat} (I : Inv st held kept gone going) (hs : SAt w p (spS st) g 0 c) {x : Nat × Option Nat} (hx : x ∈ held) : Calls Try.prog 7 #[.pointer (some ⟨p, 0, none⟩), .agg (ptv x).toArray] w fun e w' => e = .returned (.int .i64 0) ∧ Now w w' p (spS (drK st x)) := by
  have hok := spS_ok I.len I.low
  have hsub : ∀ n ∈ pl x, n < 12 ∧ (av st n = 1 ∨ av st n = 2) := fun n hn => (I.iff n).1 (List.mem_flatMap.2 ⟨x, hx, hn⟩)
  have hnd : (pl x).Nodup := by
    obtain ⟨a, b, rfl⟩ := List.append_of_mem hx
    have := I.nd
    rw [hp_append, hp_cons, List.nodup_append] at this
    exact (List.nodup_append.1 this.2.1).1
  obtain ⟨i, oj⟩ := x
  have h1 := hsub i (by simp [pl])
  cases oj with
  | none => exact drop_1 p (spS st) g 0 c i (by show i < 12; exact h1.1) (used_of h1.2) PtrAsk.Z w PtrAsk.Z_len hok hs
  | some j =>
    have h2 := hsub j (by simp [pl])
    have hij : j ≠ i := by
      simp only [pl, Option.toList, List.nodup_cons, List.mem_cons, List.not_mem_nil, or_false] at hnd
      exact fun e => hnd.1 e.symm
    exact drop_2 p (spS st) g 0 c i j (by show i < 12; exact h1.1) (by show j < 12; exact h2.1) hij (used_of h1.2) (used_of h2.2) PtrAsk.Z w PtrAsk.Z_len hok hs
section
variable {P : Program}
theorem run_slice_op {o : Oper} {a : Act} {w : World} (t : TypeId) (x : Operand) (lo hi mx : Option Operand) (ho : o.op = .slice t x lo hi mx) (X : Value) (hx : a.eval x = X) (LO HI MX : Option Value) (hlo : lo.map a.eval = LO) (hhi : hi.map a.eval = HI) (hmx : mx.map a.eval = MX) (v : Value) (hr : (Instr.sliceAt t X LO HI MX).run P w = .ok v w) : (execOp a.eval o).run P w = .ok (.value v) w := by
  subst hx hlo hhi hmx
  unfold execOp
  simp only [ho, Sem.run_bind, hr, Result.andThen_ok, Sem.run_pure]
end
/-- held[:m] -/
theorem run_lo (w : World) (a : Option Addr) (n c m : Nat) (h : m ≤ c) : (Instr.sliceAt 30 (.slice a n c) none (some (.int .i64 (m : Int))) none).run Try.prog w = .ok (.slice a m c) w := by
  rw [run_sliceAt_slice w 30 _ _ _ _ (by kernel_rfl), run_slice_h (w := w) (t := 30) (a := a) (len := n) (cap := c) (ht := by kernel_rfl) (kh := .i64) (h := (m : Int)) (h0 := by omega) (h2 := by omega)]
  have hs : (sizeOf (Try.prog.elem 30)).run Try.prog w = .ok 34 w := by kernel_rfl
  simp only [hs, Result.andThen_ok, sliced, Int.toNat_natCast, Nat.sub_zero, Nat.zero_mul]
  congr 1
  cases a with
  | none => simp
  | some b => simp [Addr.add]
/-- held[m:] -/
theorem run_hi (w : World) (g n c m : Nat) (h : m ≤ n) : (Instr.sliceAt 30 (.slice (some ⟨g, 0, none⟩) n c) (some (.int .i64 (m : Int))) none none).run Try.prog w = .ok (.slice (some ⟨g, if c = m then 0 else m * 34, none⟩) (n - m) (c - m)) w := by
  rw [run_sliceAt_slice w 30 _ _ _ _ (by kernel_rfl), run_slice_l (w := w) (t := 30) (a := some ⟨g, 0, none⟩) (len := n) (cap := c) (ht := by kernel_rfl) (kl := .i64) (l := (m : Int)) (h0 := by omega) (h1 := by omega)]
  have hs : (sizeOf (Try.prog.elem 30)).run Try.prog w = .ok 34 w := by kernel_rfl
  simp only [hs, Result.andThen_ok, sliced, Int.toNat_natCast]
  congr 2
  by_cases e : c = m
  · rw [if_pos e, if_pos e]
  · rw [if_neg e, if_neg e, Option.map_some]; simp [Addr.add]; exact fun h => h.symm
theorem RowP.own_ {w : World} {base n c : Nat} {ha : Option Addr} {held : List (Nat × Option Nat)} (h : RowP w base (.slice ha n c) held) (h0 : held.length ≠ 0) : ∃ g cur, ha = some ⟨g, 0, none⟩ ∧ OwnG ptv 34 37 w g c cur held ∧ base ≤ g := by
  rcases h with ⟨-, rfl⟩ | ⟨g, cap, cur, e, hb, ho⟩
  · exact absurd rfl h0
  · cases e
    exact ⟨g, cur, rfl, ho, hb⟩
theorem run_hi2 (w : World) (g n c m : Nat) (h : m + 1 ≤ n) : (Instr.sliceAt 30 (.slice (some ⟨g, 0, none⟩) n c) (some (.int .i64 ((m : Int) + 1))) none none).run Try.prog w = .ok (.slice (some ⟨g, if c = m + 1 then 0 else (m + 1) * 34, none⟩) (n - (m + 1)) (c - (m + 1))) w := run_hi w g n c (m + 1) h
theorem rd_drop {w : World} {g n c m : Nat} {held : List (Nat × Option Nat)} (h : RdG ptv 34 w (some ⟨g, 0, none⟩) held) (hn : held.length = n) (hc : n ≤ c) : RdG ptv 34 w (some ⟨g, if c = m then 0 else m * 34, none⟩) (held.drop m) := RdG.of fun i hi => by
  rw [List.length_drop] at hi
  rw [if_neg (by omega)]
  have h1 := RdG.at h (i := m + i) (by omega)
  have e : 0 + (m + i) * 34 = m * 34 + i * 34 := by rw [Nat.add_mul]; omega
  rw [e] at h1
  rw [List.getElem_drop]
  exact h1
theorem rd_take {w : World} {a : Option Addr} {m : Nat} {held : List (Nat × Option Nat)} (h : RdG ptv 34 w a held) (hm : m ≤ held.length) : RdG ptv 34 w a (held.take m) := fun i hi => by
  rw [List.length_take] at hi
  obtain ⟨b, o, e, hr⟩ := h i (by omega)
  refine ⟨b, o, e, ?_⟩
  rw [List.getElem_take]
  exact hr

end Go.Proofs.Ytpbhnpoldjdfdaa.NeverDrop
