/- The theorems that the claim uses, text behind text (part 8). -/
import Derived.Test.YtlleandelcjhjaaDoorZaa
import Derived.Test.YtlleandelcjhjaaDoorProg
import Derived.Outline
import Derived.Deep.AppendLies
import Derived.OwnWalk
import Derived.Laws.BytesArg
import Derived.Laws.AppendOwnNone
import Derived.Laws.BytesString
set_option linter.unusedVariables false
set_option linter.unusedSimpArgs false
namespace Go.Proofs.YtlleandelcjhjaaDoor.RefCopy
open Go Go.RowKit Go.Proofs.YtlleandelcjhjaaDoor.K Go.Proofs.YtlleandelcjhjaaDoor.K
theorem info8 : (Tryd.prog.info? 5).map (fun i => (i.zero, i.size, i.bytes)) = some (some (.int .u8 0), 1, 1) := by kernel_rfl
/-- a slice of one's own: at the head of the block g of the cells cur, whose first ones are the bytes l -/
structure Own (w : World) (g n cap : Nat) (cur : Array Value) (l : List UInt8) : Prop where
  blk : Bk w g cur 5
  len : l.length = n
  room : n ≤ cap
  size : cur.size = cap
  cap : cap ≤ 9223372036854775807
  here : ∀ i (h : i < l.length), cur[i]? = some (B l[i])
theorem Own.rd {w : World} {g n cap : Nat} {cur : Array Value} {l : List UInt8} (h : Own w g n cap cur l) : Rd w (some ⟨g, 0, none⟩) l := Rd.block h.blk (fun i hi => by rw [Nat.zero_add]; exact h.here i hi)
theorem Own.drew {w : World} {g n cap : Nat} {cur : Array Value} {l : List UInt8} (h : Own w g n cap cur l) : Own w.drew g n cap cur l := ⟨h.blk, h.len, h.room, h.size, h.cap, h.here⟩
theorem Own.keep {S : Nat → Prop} {w w' : World} {g n cap : Nat} {cur : Array Value} {l : List UInt8} (h : Own w g n cap cur l) (f : Fr S w w') (hs : ¬ S g) : Own w' g n cap cur l := ⟨f.keep h.blk hs, h.len, h.room, h.size, h.cap, h.here⟩
/-- what Copy answers -/
def CopyPost (n : Nat) (l : List UInt8) (w : World) (e : Ending) (w' : World) : Prop :=
  ∃ g cap cur, e = .returned (.slice (some ⟨g, 0, none⟩) n cap) ∧ w.heap.size ≤ g ∧ Own w' g n cap cur l ∧ Fr0 w w'

theorem copy_empty (a : Option Addr) (c : Nat) (w : World) : Calls Tryd.prog 90 #[.slice a 0 c] w (CopyPost 0 [] w) := by
  have hst : ∀ (W : World) (g : Nat), (storeCells ⟨g, 0, none⟩ []).run Tryd.prog W = .ok () W := fun W g => by simp [storeCells]
  have hld : ∀ (W : World) (x : Addr), (loadCells x 0).run Tryd.prog W = .ok #[] W := fun W x => by simp [loadCells, loadCellsFrom]
  cases a with
  | none =>
    go_enter Tryd.func90, Tryd.ntmps90
    go_wp2
    go_ret
    exact ⟨w.heap.size, 0, #[], rfl, Nat.le_refl _, ⟨Bk.new _ _, rfl, Nat.le_refl _, rfl, by omega, fun i h => by simp at h⟩, Fr.alloc (Fr.refl _ _) _⟩
  | some x =>
    go_enter Tryd.func90, Tryd.ntmps90
    go_wp2
    go_ret
    exact ⟨w.heap.size, 0, #[], rfl, Nat.le_refl _, ⟨Bk.new _ _, rfl, Nat.le_refl _, rfl, by omega, fun i h => by simp at h⟩, Fr.alloc (Fr.refl _ _) _⟩
set_option maxHeartbeats 2000000 in
set_option maxRecDepth 100000 in
theorem copy_some (b o n c : Nat) (l : List UInt8) (w : World) (hl : l.length = n) (hrd : Rd w (some ⟨b, o, none⟩) l) (h0 : 0 < n) (hn : n ≤ 140737488351232) :
    Calls Tryd.prog 90 #[.slice (some ⟨b, o, none⟩) n c] w (CopyPost n l w) := by
  obtain ⟨i8, hi, hz0, hz1, hz2⟩ := info_parts info8
  obtain ⟨b', o', e, hbw, hcell⟩ := hrd.form (by omega)
  obtain ⟨rfl, rfl⟩ : b = b' ∧ o = o' := by simpa using e
  have H1 : Hid ((w.alloc (.cells #[] 5)).ownsRow w.heap.size 5 1 (.slice (some ⟨w.heap.size, 0, none⟩) 0 0) 0 []) :=
    Lib.hid ⟨rfl, .inr ⟨w.heap.size, 0, #[], rfl, Nat.le_refl _, Bk.new _ _, Nat.le_refl _, by unfold maxLen; omega, rfl, rfl⟩⟩
  have H2 : Hid ((l.map B).length = n * 1) := Lib.hid (by simp; omega)
  have H3 : Hid (∀ (j : Nat) u, (l.map B)[j]? = some u → (w.alloc (.cells #[] 5)).cell? ((⟨b, o, none⟩ : Addr).add j) = some u) := Lib.hid (fun j u hu => by
    rw [List.getElem?_map, Option.map_eq_some_iff] at hu
    obtain ⟨x, hx, rfl⟩ := hu
    obtain ⟨hj, hx⟩ := List.getElem?_eq_some_iff.1 hx
    rw [add_form, (Fr.alloc (Fr.refl (fun _ => False) w) _).cell b (o + j) hbw (fun h => h), hcell j hj, hx])
  have H4 : Hid (∀ u ∈ l.map B, u.oneCell' = true) := Lib.hid (fun u hu => by
    obtain ⟨x, -, rfl⟩ := List.mem_map.1 hu
    rfl)
  have H8 : Hid ((w.alloc (.cells #[] 5)).heap.size = w.heap.size + 1) := Lib.hid (by simp)
  have H9 : Hid (i8.zero = some (.int .u8 0) ∧ i8.size = 1 ∧ i8.bytes = 1 ∧ Tryd.prog.info? 5 = some i8) := Lib.hid ⟨hz0, hz1, hz2, hi⟩
  clear hz0 hz1 hz2 hi hrd e hcell
  go_enter Tryd.func90, Tryd.ntmps90
  go_wp2_with (at_builtin; refine wpList_append_lies _ (by rfl) (.tmp 3) (.tmp 4) 67 (by rfl) w.heap.size 5 i8 (.int .u8 0) 1 1 Tryd.underlying67 H9.out.2.2.2 H9.out.1 H9.out.2.1 H9.out.2.2.1 rfl (by omega) (.slice (some ⟨w.heap.size, 0, none⟩) 0 0) 0 [] (by rfl) H1.out ⟨b, o, none⟩ n c (l.map B) (by rfl) H2.out H3.out H4.out h0 (by unfold maxLen; omega) (by omega) (by rw [H8.out]; omega) (w.heap.size + 1) H8.out ?_; intro g cap w1 hown hgrow hat hlt)
  go_ret
  rw [Nat.zero_add, List.nil_append] at hown
  obtain ⟨hw1, hw2⟩ := hown
  rcases hw2 with ⟨hw2, -⟩ | ⟨g', cap', cur, e, hge, hbk, hcap, hmax, hsz, htake⟩
  · cases hw2
  simp only [Value.slice.injEq, Option.some.injEq, Addr.mk.injEq, and_true, true_and] at e
  obtain ⟨rfl, rfl⟩ := e
  refine ⟨g, cap, cur, rfl, hge, ⟨hbk, hl, hcap, by omega, ?_, ?_⟩, ?_⟩
  · have : maxLen = 9223372036854775807 := rfl
    omega
  · intro i hi
    have h1 : (cur.toList.take n)[i]? = some (B l[i]) := by
      have : cur.toList.take n = l.map B := by simpa using htake
      rw [this]; simp [hi]
    rw [List.getElem?_take] at h1
    split at h1
    · simpa using h1
    · cases h1
  · refine ⟨hgrow.os, hgrow.tape, hgrow.output, ?_, fun i hi _ => ?_⟩
    · have := hgrow.size; rw [H8.out] at this; omega
    · refine (hgrow.block i (by rw [H8.out]; omega) ?_).trans (al_old w _ i hi)
      simp only [Value.ownBlock]
      intro h; cases h; omega
theorem copy_calls (a : Option Addr) (n c : Nat) (l : List UInt8) (w : World) (hl : l.length = n) (hrd : Rd w a l) (hn : n ≤ 140737488351232) :
    Calls Tryd.prog 90 #[.slice a n c] w (CopyPost n l w) := by
  by_cases h0 : n = 0
  · subst h0
    have : l = [] := List.eq_nil_of_length_eq_zero hl
    subst this
    exact copy_empty a c w
  · obtain ⟨b, o, rfl, -, -⟩ := hrd.form (by omega)
    exact copy_some b o n c l w hl hrd (by omega) hn

theorem ret_b {a b : Bool} (h : a = b) : Ending.returned (.bool a) = .returned (.bool b) := by rw [h]
end Go.Proofs.YtlleandelcjhjaaDoor.RefCopy
