/- The first free place of a region; a new slice of the bytes of one. -/
import Derived.Test.YtpbhnpoldjdfdaaSpAsk
set_option linter.unusedVariables false
set_option linter.unusedSimpArgs false
namespace Go.Proofs.Ytpbhnpoldjdfdaa.SpFind
open Go Go.RowKit Go.Proofs.Ytpbhnpoldjdfdaa.K Go.Proofs.Ytpbhnpoldjdfdaa.EqKit Go.Proofs.Ytpbhnpoldjdfdaa.ArrKit Go.Proofs.Ytpbhnpoldjdfdaa.HeldKit Go.Proofs.Ytpbhnpoldjdfdaa.GKit Go.Proofs.Ytpbhnpoldjdfdaa.GRow Go.Proofs.Ytpbhnpoldjdfdaa.SpKit Go.Proofs.Ytpbhnpoldjdfdaa.SpAsk

theorem RdU.piece {w : World} {g o : Nat} {l : List UInt8} (h : RdU w (some ⟨g, o, none⟩) l) (d n : Nat) : RdU w (some ⟨g, o + d, none⟩) ((l.drop d).take n) := RdG.of fun i hi j u hj => by
  rw [List.length_take, List.length_drop] at hi
  have hg : ((l.drop d).take n)[i]'(by rw [List.length_take, List.length_drop]; exact hi) = l[d + i]'(by omega) := by rw [List.getElem_take, List.getElem_drop]
  rw [hg] at hj
  have := (RdG.at h (i := d + i) (by omega)) j u hj
  rw [← this]
  congr 2
  omega
theorem ret_i {k : IntKind} {x y : Int} (h : x = y) : Ending.returned (.int k x) = .returned (.int k y) := by rw [h]
def pieceF (s : Sp) (r : Nat) : List UInt8 := (s.st.drop (r * s.z)).take s.z
theorem piece_len {s : Sp} (h : s.ok) {r : Nat} (hr : r < 2) : (pieceF s r).length = s.z := by
  have := h.len
  rw [pieceF, List.length_take, List.length_drop]
  rcases (show r = 0 ∨ r = 1 by omega) with rfl | rfl <;> omega

set_option maxHeartbeats 2000000 in
set_option maxRecDepth 100000 in
theorem find0_calls (p : Nat) (s : Sp) (g o c : Nat) (w : World) (hok : s.ok) (h : SAt w p s g o c) : Calls Try.prog 12 #[.pointer (some ⟨p, 0, none⟩), .int .i64 0] w fun e w' => e = .returned (.int .i64 (freeOf s 0)) ∧ Fr0 w w' := by
  have hpl := piece_len hok (show 0 < 2 by omega)
  have hfo : freeOf s 0 = if Lib.indexByte (pieceF s 0) 0 < 0 then Lib.indexByte (pieceF s 0) 0 else ((0 * s.z : Nat) : Int) + Lib.indexByte (pieceF s 0) 0 := rfl
  have hge := Lib.indexByte_ge (pieceF s 0) 0
  have hlt : Lib.indexByte (pieceF s 0) 0 < (s.z : Int) := by
    rcases (show Lib.indexByte (pieceF s 0) 0 < 0 ∨ 0 ≤ Lib.indexByte (pieceF s 0) 0 by omega) with h1 | h1
    · have := hok.z1; omega
    · obtain ⟨k, hk⟩ : ∃ k : Nat, Lib.indexByte (pieceF s 0) 0 = k := ⟨(Lib.indexByte (pieceF s 0) 0).toNat, by omega⟩
      have h2 := (Lib.indexByte_some hk).1
      have := (List.getElem?_eq_some_iff.1 h2).1
      omega
  have HIB : Hid (∀ of n c' W, of = o + 0 * s.z → n = s.z → Fr0 w W → Calls Try.prog 22 #[.slice (some ⟨g, of, none⟩) n c', .int .u8 0] W fun e w' => e = .returned (.int .i64 (Lib.indexByte (pieceF s 0) 0)) ∧ w' = W) := Lib.hid (fun of n c' W e1 e2 f => by
    subst e1 e2
    have := ib_calls g (o + 0 * s.z) c' (pieceF s 0) W (RdU.piece (h.rd.keep f) (0 * s.z) s.z)
    rwa [hpl] at this)
  rw [hfo]
  generalize Lib.indexByte (pieceF s 0) 0 = x at *
  obtain ⟨h1, h2, h3, h4, h5, -⟩ := hok
  have hc1 := h.cap
  have hc2 := h.max
  obtain ⟨a, b, z, st⟩ := s
  have hbk := h.blk
  simp only [sval] at *
  rw [h5] at hbk hc1
  have c2 : w.cell? ⟨p, 2, none⟩ = some (.int .i64 (z : Int)) := Bk.cell hbk 2
  have c3 : w.cell? ⟨p, 3, none⟩ = some (.slice (some ⟨g, o, none⟩) (2 * z) c) := Bk.cell hbk 3
  clear hbk h h5 hpl hfo
  simp only [Nat.zero_mul, Nat.one_mul, Nat.add_zero] at HIB ⊢
  have hzw : (2 : Int) * (z : Int) ≤ 4000 := by omega
  have hzc : (2 : Int) * (z : Int) ≤ (c : Int) := by omega
  have hzc1 : (z : Int) ≤ (c : Int) := by omega
  have hzz : (z : Int) ≤ 2 * (z : Int) := by omega
  have hz0 : (0 : Int) ≤ (z : Int) := by omega
  go_enter Try.func12, Try.ntmps12
  go_wp2
  go_quiet (first | (go_at_call 22; refine Calls.quiet_of_same ((HIB.out _ _ _ _ (by omega) (by omega) (Fr.drewN (Fr.refl _ _) _)).mono fun _ _ h => ⟨h.1, h.2⟩)))
  go_wp2
  all_goals (go_ret; refine ⟨ret_i (by first | rfl | omega | (split <;> omega)), Fr.drewN (Fr.refl _ _) nq⟩)

set_option maxHeartbeats 2000000 in
set_option maxRecDepth 100000 in
theorem find1_calls (p : Nat) (s : Sp) (g o c : Nat) (w : World) (hok : s.ok) (h : SAt w p s g o c) : Calls Try.prog 12 #[.pointer (some ⟨p, 0, none⟩), .int .i64 1] w fun e w' => e = .returned (.int .i64 (freeOf s 1)) ∧ Fr0 w w' := by
  have hpl := piece_len hok (show 1 < 2 by omega)
  have hfo : freeOf s 1 = if Lib.indexByte (pieceF s 1) 0 < 0 then Lib.indexByte (pieceF s 1) 0 else ((1 * s.z : Nat) : Int) + Lib.indexByte (pieceF s 1) 0 := rfl
  have hge := Lib.indexByte_ge (pieceF s 1) 0
  have hlt : Lib.indexByte (pieceF s 1) 0 < (s.z : Int) := by
    rcases (show Lib.indexByte (pieceF s 1) 0 < 0 ∨ 0 ≤ Lib.indexByte (pieceF s 1) 0 by omega) with h1 | h1
    · have := hok.z1; omega
    · obtain ⟨k, hk⟩ : ∃ k : Nat, Lib.indexByte (pieceF s 1) 0 = k := ⟨(Lib.indexByte (pieceF s 1) 0).toNat, by omega⟩
      have h2 := (Lib.indexByte_some hk).1
      have := (List.getElem?_eq_some_iff.1 h2).1
      omega
  have HIB : Hid (∀ of n c' W, of = o + 1 * s.z → n = s.z → Fr0 w W → Calls Try.prog 22 #[.slice (some ⟨g, of, none⟩) n c', .int .u8 0] W fun e w' => e = .returned (.int .i64 (Lib.indexByte (pieceF s 1) 0)) ∧ w' = W) := Lib.hid (fun of n c' W e1 e2 f => by
    subst e1 e2
    have := ib_calls g (o + 1 * s.z) c' (pieceF s 1) W (RdU.piece (h.rd.keep f) (1 * s.z) s.z)
    rwa [hpl] at this)
  rw [hfo]
  generalize Lib.indexByte (pieceF s 1) 0 = x at *
  obtain ⟨h1, h2, h3, h4, h5, -⟩ := hok
  have hc1 := h.cap
  have hc2 := h.max
  obtain ⟨a, b, z, st⟩ := s
  have hbk := h.blk
  simp only [sval] at *
  rw [h5] at hbk hc1
  have c2 : w.cell? ⟨p, 2, none⟩ = some (.int .i64 (z : Int)) := Bk.cell hbk 2
  have c3 : w.cell? ⟨p, 3, none⟩ = some (.slice (some ⟨g, o, none⟩) (2 * z) c) := Bk.cell hbk 3
  clear hbk h h5 hpl hfo
  simp only [Nat.zero_mul, Nat.one_mul, Nat.add_zero] at HIB ⊢
  have hzw : (2 : Int) * (z : Int) ≤ 4000 := by omega
  have hzc : (2 : Int) * (z : Int) ≤ (c : Int) := by omega
  have hzc1 : (z : Int) ≤ (c : Int) := by omega
  have hzz : (z : Int) ≤ 2 * (z : Int) := by omega
  have hz0 : (0 : Int) ≤ (z : Int) := by omega
  go_enter Try.func12, Try.ntmps12
  go_wp2
  go_quiet (first | (go_at_call 22; refine Calls.quiet_of_same ((HIB.out _ _ _ _ (by omega) (by omega) (Fr.drewN (Fr.refl _ _) _)).mono fun _ _ h => ⟨h.1, h.2⟩)))
  go_wp2
  all_goals (go_ret; refine ⟨ret_i (by first | rfl | omega | (split <;> omega)), Fr.drewN (Fr.refl _ _) nq⟩)

end Go.Proofs.Ytpbhnpoldjdfdaa.SpFind
