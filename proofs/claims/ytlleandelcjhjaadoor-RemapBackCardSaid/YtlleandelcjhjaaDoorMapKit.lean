/- A map of one's own from numbers to bools: made, asked, written. -/
import Derived.Test.YtlleandelcjhjaaDoorKit
import Derived.Maps.OwnSet
import Derived.Maps.OwnOps
set_option linter.unusedVariables false
set_option linter.unusedSimpArgs false
namespace Go.Proofs.YtlleandelcjhjaaDoor.MapKit
open Go Go.RowKit Go.Proofs.YtlleandelcjhjaaDoor.K

open Go.Maps (Keyed IsMap Tidy)
def Dm (l : List Int) : DataW Unit := l.foldl (fun D x => D.put (.int .i64 x) (.lit (.bool true))) (.map [])
theorem Dm_snoc (l : List Int) (x : Int) : Dm (l ++ [x]) = (Dm l).put (.int .i64 x) (.lit (.bool true)) := by simp [Dm]
section
variable {P : Program} {k e t : TypeId}
/-- block b is a map that holds true at the numbers of l -/
def IM (w : World) (P : Program) (k e : TypeId) (b : Nat) (l : List Int) : Prop := w.ownsMap P k (plainElem P e) b l.length (Dm l)
theorem IM.made (w : World) (P : Program) (k e : TypeId) : IM (w.alloc (.map #[] 0)) P k e w.heap.size [] := World.ownsMap_made w P k _
theorem IM.keep {S : Nat → Prop} {w w' : World} {b : Nat} {l : List Int} (h : IM w P k e b l) (f : Fr S w w') (hs : ¬ S b) : IM w' P k e b l := by
  obtain ⟨es, c, hb, h2⟩ := h
  have hlt : b < w.heap.size := by
    rcases Nat.lt_or_ge b w.heap.size with h | h
    · exact h
    · rw [Array.getElem?_eq_none h] at hb; cases hb
  exact ⟨es, c, (f.block b hlt hs).trans hb, h2⟩
theorem IM.lt {w : World} {b : Nat} {l : List Int} (h : IM w P k e b l) : b < w.heap.size := World.ownsMap.lt h
theorem plainElem_bool_inv (he : P.underlying e = some .bool) {v : Value} {z : DataW Unit × List MemPlace} (h : plainElem P e v = some z) : ∃ x, v = .bool x ∧ z = (.lit (.bool x), []) := by
  unfold plainElem at h
  rw [he] at h
  cases v <;> simp at h
  rename_i x
  exact ⟨x, rfl, h.symm⟩
theorem at_Dm (l : List Int) (hl : ∀ x ∈ l, (Lit.int .i64 x).wf = true) (x : Int) (hx : (Lit.int .i64 x).wf = true) : IsMap (Dm l) ∧ (Dm l).atKey (.int .i64 x) (.lit (.bool false)) = .lit (.bool (l.contains x)) := by
  induction h : l.length generalizing l with
  | zero =>
    obtain rfl := List.eq_nil_of_length_eq_zero h
    exact ⟨⟨[], rfl⟩, rfl⟩
  | succ n ih =>
    obtain ⟨l, y, rfl⟩ : ∃ m y, l = m ++ [y] := by
      rcases List.eq_nil_or_concat l with rfl | ⟨m, y, e⟩
      · simp at h
      · exact ⟨m, y, by simpa using e⟩
    obtain ⟨h1, h2⟩ := ih l (fun z hz => hl z (List.mem_append_left _ hz)) (by simpa using h)
    rw [Dm_snoc]
    have hk : WideAt.IsKeyLit (.int .i64 y) := trivial
    refine ⟨h1.put _ _, ?_⟩
    by_cases e1 : x = y
    · subst e1
      rw [Maps.atKey_put_same h1 hk]
      simp
    · rw [Maps.atKey_put_other (by intro h; injection h with _ h; exact e1 h), h2]
      simp [e1]
theorem IM.look {w : World} {b : Nat} {l : List Int} (h : IM w P k e b l) (hk : P.underlying k = some (.int .i64)) (he : P.underlying e = some .bool) (ht : P.underlying t = some (.map k e)) (hz : (zeroValue e).run P w = .ok (.bool false) w) (hl : ∀ x ∈ l, (Lit.int .i64 x).wf = true) (x : Int) (hx : (Lit.int .i64 x).wf = true) : (Instr.lookup t (.map (some b)) (.int .i64 x) false).run P w = .ok (.bool (l.contains x)) w := by
  obtain ⟨v, ps, hrun, hv⟩ := World.ownsMap.lookup h (Maps.int_keyed hk) ht hz (plainElem_bool he false) (Maps.keyOf_int_mk hk hx)
  obtain ⟨y, rfl, h2⟩ := plainElem_bool_inv he hv
  rw [(at_Dm l hl x hx).2] at h2
  simp only [Prod.mk.injEq, DataW.lit.injEq, Lit.bool.injEq] at h2
  rw [hrun, ← h2.1]
theorem IM.put {w : World} {b : Nat} {l : List Int} (h : IM w P k e b l) (hk : P.underlying k = some (.int .i64)) (he : P.underlying e = some .bool) (ht : P.underlying t = some (.map k e)) (x : Int) (hx : (Lit.int .i64 x).wf = true) (hn : l.length < 1000000) : ∃ w', (Instr.mapUpdate t (.map (some b)) (.int .i64 x) (.bool true)).run P w = .ok () w' ∧ IM w' P k e b (l ++ [x]) ∧ Fr (fun i => i = b) w w' := by
  obtain ⟨w', hr, ho, hg⟩ := World.ownsMap.update h (Maps.int_keyed hk) ht (by unfold maxLen; omega) (Maps.keyOf_int_mk hk hx) (plainElem_bool he true)
  refine ⟨w', hr, ?_, ⟨hg.os, hg.tape, hg.output, hg.size, fun i hi hs => hg.block i hi (by intro h; cases h; exact hs rfl)⟩⟩
  unfold IM
  rw [Dm_snoc, List.length_append]
  exact ho
end

end Go.Proofs.YtlleandelcjhjaaDoor.MapKit
