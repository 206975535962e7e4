/- SpaceNever: one thing appended to a row of a play. -/
import Derived.Test.YtpbhnpoldjdfdaaNeverKit
set_option linter.unusedVariables false
set_option linter.unusedSimpArgs false
namespace Go.Proofs.Ytpbhnpoldjdfdaa.NeverApp
open Go Go.RowKit Go.Proofs.Ytpbhnpoldjdfdaa.K Go.Proofs.Ytpbhnpoldjdfdaa.EqKit Go.Proofs.Ytpbhnpoldjdfdaa.ArrKit Go.Proofs.Ytpbhnpoldjdfdaa.HeldKit Go.Proofs.Ytpbhnpoldjdfdaa.GKit Go.Proofs.Ytpbhnpoldjdfdaa.GRow Go.Proofs.Ytpbhnpoldjdfdaa.SpKit Go.Proofs.Ytpbhnpoldjdfdaa.SpAsk Go.Proofs.Ytpbhnpoldjdfdaa.SpFind Go.Proofs.Ytpbhnpoldjdfdaa.SpNew Go.Proofs.Ytpbhnpoldjdfdaa.SpBecome Go.Proofs.Ytpbhnpoldjdfdaa.SpIdx Go.Proofs.Ytpbhnpoldjdfdaa.SpTake Go.Proofs.Ytpbhnpoldjdfdaa.SpPlaces Go.Proofs.Ytpbhnpoldjdfdaa.SpDrop Go.Proofs.Ytpbhnpoldjdfdaa.SpAlive Go.Proofs.Ytpbhnpoldjdfdaa.SpRow Go.Proofs.Ytpbhnpoldjdfdaa.NeverPlain Go.Proofs.Ytpbhnpoldjdfdaa.NeverKit Go.Proofs.Ytpbhnpoldjdfdaa.PtrKit

theorem infoP : (Try.prog.info? 37).map (fun i => (i.zero, i.size, i.bytes)) = some (some (.agg (PC 0 0 PtrAsk.Z).toArray), 34, 48) := by kernel_rfl
theorem hp_len : ∀ h : List (Nat × Option Nat), h.length ≤ (hp h).length := fun h => by
  induction h with
  | nil => exact Nat.le_refl _
  | cons a r ih =>
    rw [hp_cons, List.length_append, List.length_cons]
    have : 1 ≤ (pl a).length := by simp [pl]
    omega
theorem Rws.len {w : World} {p : Nat} {held : List (Nat × Option Nat)} {kept gone going : List Nat} {vh vk vg vq : Value} (r : Rws w p held kept gone going vh vk vg vq) : (∀ g, vh.ownBlock = some g → p < g) ∧ (∀ g, vk.ownBlock = some g → p < g) ∧ (∀ g, vg.ownBlock = some g → p < g) ∧ (∀ g, vq.ownBlock = some g → p < g) := ⟨fun g e => (r.h.blk g e).1, fun g e => (r.k.blk g e).1, fun g e => (r.g.blk g e).1, fun g e => (r.q.blk g e).1⟩
/-- a row of pointers: what one of them has in its first two cells, in any world that has the row -/
theorem RowP.at_ {w : World} {base n c : Nat} {ha : Option Addr} {held : List (Nat × Option Nat)} (h : RowP w base (.slice ha n c) held) {j : Nat} (hj : j < held.length) : ∃ b o, ha = some ⟨b, o, none⟩ ∧ ∀ W, RowP W base (.slice ha n c) held → W.cell? ⟨b, o + j * 34, none⟩ = some (.int .i64 (sc held[j].1 : Int)) ∧ W.cell? ⟨b, o + j * 34 + 1, none⟩ = some (.int .i64 (scO held[j].2)) := by
  obtain ⟨a, cap, e, -, -, hr, -⟩ := h.form
  cases e
  obtain ⟨b, o, e2, -⟩ := hr j hj
  refine ⟨b, o, e2, fun W hW => ?_⟩
  obtain ⟨a, cap, e, -, -, hr, -⟩ := hW.form
  cases e
  obtain ⟨b', o', e3, hc⟩ := hr j hj
  rw [e2] at e3
  cases e3
  exact ⟨hc 0 _ rfl, hc 1 _ rfl⟩
/-- a row of numbers: one of them -/
theorem RowN.at_ {w : World} {base n c : Nat} {ha : Option Addr} {l : List Nat} (h : RowN w base (.slice ha n c) l) {j : Nat} (hj : j < l.length) : ∃ b o, ha = some ⟨b, o, none⟩ ∧ ∀ W, RowN W base (.slice ha n c) l → W.cell? ⟨b, o + j, none⟩ = some (.int .i64 (sc l[j] : Int)) := by
  obtain ⟨a, cap, e, -, -, hr, -⟩ := h.form
  cases e
  obtain ⟨b, o, e2, -⟩ := hr j hj
  refine ⟨b, o, e2, fun W hW => ?_⟩
  obtain ⟨a, cap, e, -, -, hr, -⟩ := hW.form
  cases e
  obtain ⟨b', o', e3, hc⟩ := hr j hj
  rw [e2] at e3
  cases e3
  have := hc 0 (.int .i64 (sc l[j] : Int)) rfl
  rwa [Nat.mul_one, Nat.add_zero] at this

/-- one more thing behind held -/
theorem app_h {W : World} {p : Nat} {st : List UInt8} {held : List (Nat × Option Nat)} {kept gone going : List Nat} {vh vk vg vq : Value} (r : Rws W p held kept gone going vh vk vg vq) (s : SpAt W p st vh vk vg vq) (hL : st.length = 12) (hp : p < W.heap.size) (i : Nat × Option Nat) (hl : held.length ≤ 100000) :
    ∃ v' w', (Builtin.append_ #[30, 30] 30 #[vh, .slice (some ⟨W.heap.size, 0, none⟩) 1 1]).run Try.prog (W.alloc (.cells (ptv i).toArray 37)) = .ok v' w' ∧ Rws w' p (held ++ [i]) kept gone going v' vk vg vq ∧ SpAt w' p st v' vk vg vq ∧ p < w'.heap.size ∧ (∀ w, Fr0 w W → w.heap.size ≤ p → Fr0 w w') ∧ (∀ g X T, g ≤ p ∨ (g < W.heap.size ∧ vh.ownBlock ≠ some g) → Bk W g X T → Bk w' g X T) ∧ (∀ g, v'.ownBlock = some g → vh.ownBlock = some g ∨ W.heap.size ≤ g) := by
  obtain ⟨i0, hy0, hz0, hz1, hz2⟩ := info_parts infoP
  have hfa : Fr0 W (W.alloc (.cells (ptv i).toArray 37)) := Fr.alloc (Fr.refl _ _) _
  obtain ⟨v', w', hr, hrow, hfr, hn⟩ := Row.append1 (P := Try.prog) (f := ptv) (k := 34) (e := 37) (W.alloc (.cells (ptv i).toArray 37)) 30 30 i0 _ 48 (p + 1) Try.underlying30 hy0 hz0 hz1 hz2 (by simp [Value.cells, PC_length, PtrAsk.Z_len]) (by decide) vh held (r.h.keep0 hfa) (by simp; omega) (fun x _ => ptv_len x) W.heap.size 1 i (ptv_len i) (ptv_one i) (Bk.new W _) (by omega) (by omega)
  have r1 := r.keep hfa (fun _ _ h => h)
  have hn2 : ∀ g, v'.ownBlock = some g → vh.ownBlock = some g ∨ ((W.alloc (.cells (ptv i).toArray 37))).heap.size ≤ g := hn
  have s1 := s.keep0 hfa
  have hnb : ∀ g, g ≤ p ∨ (g < W.heap.size ∧ vh.ownBlock ≠ some g) → ¬ vh.ownBlock = some g := fun g h e => by
    have := (r.h.blk g e).1
    rcases h with h | h
    · omega
    · exact h.2 e
  refine ⟨v', w', hr, r1.add_h v' _ hrow hfr hn2, SpAt.add_h hL s1 r1 v' hfr hn2, hfr.lt (by simp; omega), fun w f hw => ?_, fun g X T h hb => hfr.keep (hfa.keep hb (fun h => h)) (hnb g h), fun g e => (hn g e).imp id (fun h => Nat.le_trans hfa.size h)⟩
  have f1 := f.then0 hfa
  exact ⟨hfr.os.trans f1.os, hfr.tape.trans f1.tape, hfr.output.trans f1.output, Nat.le_trans f1.size hfr.size, fun i hi hs => (hfr.block i (Nat.lt_of_lt_of_le hi f1.size) (hnb i (.inl (by omega)))).trans (f1.block i hi hs)⟩

/-- one more thing behind kept -/
theorem app_k {W : World} {p : Nat} {st : List UInt8} {held : List (Nat × Option Nat)} {kept gone going : List Nat} {vh vk vg vq : Value} (r : Rws W p held kept gone going vh vk vg vq) (s : SpAt W p st vh vk vg vq) (hL : st.length = 12) (hp : p < W.heap.size) (i : Nat) (hl : kept.length ≤ 100000) :
    ∃ v' w', (Builtin.append_ #[31, 31] 31 #[vk, .slice (some ⟨W.heap.size, 0, none⟩) 1 1]).run Try.prog (W.alloc (.cells #[.int .i64 (sc i : Int)] 3)) = .ok v' w' ∧ Rws w' p held (kept ++ [i]) gone going vh v' vg vq ∧ SpAt w' p st vh v' vg vq ∧ p < w'.heap.size ∧ (∀ w, Fr0 w W → w.heap.size ≤ p → Fr0 w w') ∧ (∀ g X T, g ≤ p ∨ (g < W.heap.size ∧ vk.ownBlock ≠ some g) → Bk W g X T → Bk w' g X T) ∧ (∀ g, v'.ownBlock = some g → vk.ownBlock = some g ∨ W.heap.size ≤ g) := by
  obtain ⟨i0, hy0, hz0, hz1, hz2⟩ := info_parts infoI
  have hfa : Fr0 W (W.alloc (.cells #[.int .i64 (sc i : Int)] 3)) := Fr.alloc (Fr.refl _ _) _
  obtain ⟨v', w', hr, hrow, hfr, hn⟩ := Row.append1 (P := Try.prog) (f := (fun i : Nat => [Value.int .i64 (sc i : Int)])) (k := 1) (e := 3) (W.alloc (.cells #[.int .i64 (sc i : Int)] 3)) 31 31 i0 _ 8 (p + 1) Try.underlying31 hy0 hz0 hz1 hz2 rfl (by decide) vk kept (r.k.keep0 hfa) (by simp; omega) (fun _ _ => rfl) W.heap.size 1 i rfl (fun v hv => by simp only [List.mem_cons, List.not_mem_nil, or_false] at hv; subst hv; rfl) (Bk.new W _) (by omega) (by omega)
  have r1 := r.keep hfa (fun _ _ h => h)
  have hn2 : ∀ g, v'.ownBlock = some g → vk.ownBlock = some g ∨ ((W.alloc (.cells #[.int .i64 (sc i : Int)] 3))).heap.size ≤ g := hn
  have s1 := s.keep0 hfa
  have hnb : ∀ g, g ≤ p ∨ (g < W.heap.size ∧ vk.ownBlock ≠ some g) → ¬ vk.ownBlock = some g := fun g h e => by
    have := (r.k.blk g e).1
    rcases h with h | h
    · omega
    · exact h.2 e
  refine ⟨v', w', hr, r1.add_k v' _ hrow hfr hn2, SpAt.add_k hL s1 r1 v' hfr hn2, hfr.lt (by simp; omega), fun w f hw => ?_, fun g X T h hb => hfr.keep (hfa.keep hb (fun h => h)) (hnb g h), fun g e => (hn g e).imp id (fun h => Nat.le_trans hfa.size h)⟩
  have f1 := f.then0 hfa
  exact ⟨hfr.os.trans f1.os, hfr.tape.trans f1.tape, hfr.output.trans f1.output, Nat.le_trans f1.size hfr.size, fun i hi hs => (hfr.block i (Nat.lt_of_lt_of_le hi f1.size) (hnb i (.inl (by omega)))).trans (f1.block i hi hs)⟩

/-- one more thing behind gone -/
theorem app_g {W : World} {p : Nat} {st : List UInt8} {held : List (Nat × Option Nat)} {kept gone going : List Nat} {vh vk vg vq : Value} (r : Rws W p held kept gone going vh vk vg vq) (s : SpAt W p st vh vk vg vq) (hL : st.length = 12) (hp : p < W.heap.size) (i : Nat) (hl : gone.length ≤ 100000) :
    ∃ v' w', (Builtin.append_ #[31, 31] 31 #[vg, .slice (some ⟨W.heap.size, 0, none⟩) 1 1]).run Try.prog (W.alloc (.cells #[.int .i64 (sc i : Int)] 3)) = .ok v' w' ∧ Rws w' p held kept (gone ++ [i]) going vh vk v' vq ∧ SpAt w' p st vh vk v' vq ∧ p < w'.heap.size ∧ (∀ w, Fr0 w W → w.heap.size ≤ p → Fr0 w w') ∧ (∀ g X T, g ≤ p ∨ (g < W.heap.size ∧ vg.ownBlock ≠ some g) → Bk W g X T → Bk w' g X T) ∧ (∀ g, v'.ownBlock = some g → vg.ownBlock = some g ∨ W.heap.size ≤ g) := by
  obtain ⟨i0, hy0, hz0, hz1, hz2⟩ := info_parts infoI
  have hfa : Fr0 W (W.alloc (.cells #[.int .i64 (sc i : Int)] 3)) := Fr.alloc (Fr.refl _ _) _
  obtain ⟨v', w', hr, hrow, hfr, hn⟩ := Row.append1 (P := Try.prog) (f := (fun i : Nat => [Value.int .i64 (sc i : Int)])) (k := 1) (e := 3) (W.alloc (.cells #[.int .i64 (sc i : Int)] 3)) 31 31 i0 _ 8 (p + 1) Try.underlying31 hy0 hz0 hz1 hz2 rfl (by decide) vg gone (r.g.keep0 hfa) (by simp; omega) (fun _ _ => rfl) W.heap.size 1 i rfl (fun v hv => by simp only [List.mem_cons, List.not_mem_nil, or_false] at hv; subst hv; rfl) (Bk.new W _) (by omega) (by omega)
  have r1 := r.keep hfa (fun _ _ h => h)
  have hn2 : ∀ g, v'.ownBlock = some g → vg.ownBlock = some g ∨ ((W.alloc (.cells #[.int .i64 (sc i : Int)] 3))).heap.size ≤ g := hn
  have s1 := s.keep0 hfa
  have hnb : ∀ g, g ≤ p ∨ (g < W.heap.size ∧ vg.ownBlock ≠ some g) → ¬ vg.ownBlock = some g := fun g h e => by
    have := (r.g.blk g e).1
    rcases h with h | h
    · omega
    · exact h.2 e
  refine ⟨v', w', hr, r1.add_g v' _ hrow hfr hn2, SpAt.add_g hL s1 r1 v' hfr hn2, hfr.lt (by simp; omega), fun w f hw => ?_, fun g X T h hb => hfr.keep (hfa.keep hb (fun h => h)) (hnb g h), fun g e => (hn g e).imp id (fun h => Nat.le_trans hfa.size h)⟩
  have f1 := f.then0 hfa
  exact ⟨hfr.os.trans f1.os, hfr.tape.trans f1.tape, hfr.output.trans f1.output, Nat.le_trans f1.size hfr.size, fun i hi hs => (hfr.block i (Nat.lt_of_lt_of_le hi f1.size) (hnb i (.inl (by omega)))).trans (f1.block i hi hs)⟩

/-- one more thing behind going -/
theorem app_q {W : World} {p : Nat} {st : List UInt8} {held : List (Nat × Option Nat)} {kept gone going : List Nat} {vh vk vg vq : Value} (r : Rws W p held kept gone going vh vk vg vq) (s : SpAt W p st vh vk vg vq) (hL : st.length = 12) (hp : p < W.heap.size) (i : Nat) (hl : going.length ≤ 100000) :
    ∃ v' w', (Builtin.append_ #[31, 31] 31 #[vq, .slice (some ⟨W.heap.size, 0, none⟩) 1 1]).run Try.prog (W.alloc (.cells #[.int .i64 (sc i : Int)] 3)) = .ok v' w' ∧ Rws w' p held kept gone (going ++ [i]) vh vk vg v' ∧ SpAt w' p st vh vk vg v' ∧ p < w'.heap.size ∧ (∀ w, Fr0 w W → w.heap.size ≤ p → Fr0 w w') ∧ (∀ g X T, g ≤ p ∨ (g < W.heap.size ∧ vq.ownBlock ≠ some g) → Bk W g X T → Bk w' g X T) ∧ (∀ g, v'.ownBlock = some g → vq.ownBlock = some g ∨ W.heap.size ≤ g) := by
  obtain ⟨i0, hy0, hz0, hz1, hz2⟩ := info_parts infoI
  have hfa : Fr0 W (W.alloc (.cells #[.int .i64 (sc i : Int)] 3)) := Fr.alloc (Fr.refl _ _) _
  obtain ⟨v', w', hr, hrow, hfr, hn⟩ := Row.append1 (P := Try.prog) (f := (fun i : Nat => [Value.int .i64 (sc i : Int)])) (k := 1) (e := 3) (W.alloc (.cells #[.int .i64 (sc i : Int)] 3)) 31 31 i0 _ 8 (p + 1) Try.underlying31 hy0 hz0 hz1 hz2 rfl (by decide) vq going (r.q.keep0 hfa) (by simp; omega) (fun _ _ => rfl) W.heap.size 1 i rfl (fun v hv => by simp only [List.mem_cons, List.not_mem_nil, or_false] at hv; subst hv; rfl) (Bk.new W _) (by omega) (by omega)
  have r1 := r.keep hfa (fun _ _ h => h)
  have hn2 : ∀ g, v'.ownBlock = some g → vq.ownBlock = some g ∨ ((W.alloc (.cells #[.int .i64 (sc i : Int)] 3))).heap.size ≤ g := hn
  have s1 := s.keep0 hfa
  have hnb : ∀ g, g ≤ p ∨ (g < W.heap.size ∧ vq.ownBlock ≠ some g) → ¬ vq.ownBlock = some g := fun g h e => by
    have := (r.q.blk g e).1
    rcases h with h | h
    · omega
    · exact h.2 e
  refine ⟨v', w', hr, r1.add_q v' _ hrow hfr hn2, SpAt.add_q hL s1 r1 v' hfr hn2, hfr.lt (by simp; omega), fun w f hw => ?_, fun g X T h hb => hfr.keep (hfa.keep hb (fun h => h)) (hnb g h), fun g e => (hn g e).imp id (fun h => Nat.le_trans hfa.size h)⟩
  have f1 := f.then0 hfa
  exact ⟨hfr.os.trans f1.os, hfr.tape.trans f1.tape, hfr.output.trans f1.output, Nat.le_trans f1.size hfr.size, fun i hi hs => (hfr.block i (Nat.lt_of_lt_of_le hi f1.size) (hnb i (.inl (by omega)))).trans (f1.block i hi hs)⟩

end Go.Proofs.Ytpbhnpoldjdfdaa.NeverApp
