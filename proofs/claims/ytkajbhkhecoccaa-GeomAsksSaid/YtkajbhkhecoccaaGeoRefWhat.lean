/- What the reference tells of a sector: the walk of lazaretref08.What. -/
import Derived.Test.YtkajbhkhecoccaaGeoRef
set_option linter.unusedVariables false
set_option linter.unusedSimpArgs false
namespace Go.Proofs.Ytkajbhkhecoccaa.GeoRefWhat
open Go.RowKit Go.Proofs.Ytkajbhkhecoccaa.PGeomOnce Go.Proofs.YtkajbhkhecoccaaW.PrintWords Go.Proofs.YtkajbhkhecoccaaW.PrintLast Go.Proofs.YtkajbhkhecoccaaW.PrintMore Go.Proofs.Ytkajbhkhecoccaa.GeoWhat Go.Proofs.Ytkajbhkhecoccaa.GeoRef

/-- the answer, as three -/
def T3 (r : Int × Int × Int) : Value := .tuple #[.int .i64 r.1, .int .i64 r.2.1, .int .i64 r.2.2]


set_option maxHeartbeats 2000000 in
set_option maxRecDepth 100000 in
theorem rw_none {g0 g1 g2 g3 g4 g5 : Int} (N : NoLay g0 g1 g2 g3 g4 g5) (x : Int) (w : World) :
    Calls Try.prog 31 #[.agg #[.int .i64 g0, .int .i64 g1, .int .i64 g2, .int .i64 g3, .int .i64 g4, .int .i64 g5], .int .i64 x] w fun e w' => e = .returned (.tuple #[.int .i64 0, .int .i64 0, .int .i64 0]) ∧ Below w.heap.size w w' := by
  have HN := Lib.hid N
  clear N
  go_enter Try.func31, Try.ntmps31
  go_wp2_with (go_at_call 33; (with_reducible refine (qr_none HN.out _).mono ?_); rintro e w7 ⟨rfl, hb⟩; obtain ⟨hc, hf⟩ := bcell hb; have hz : w.heap.size < w7.heap.size := by { have := hb.size; simp at this; omega })
  go_ret3
  exact ⟨rfl, (by (repeat (with_reducible first | refine pw_below_drewN ?_ _ | refine below_drew1 ?_)); exact below_step (below_alloc (Below.refl _ _) _) hb)⟩

set_option maxHeartbeats 2000000 in
set_option maxRecDepth 100000 in
theorem rw_neg {q S Z : Int} (L : Lay q S Z) (a : Int) (w : World) (h1 : a < 0) :
    Calls Try.prog 31 #[.agg #[.int .i64 S, .int .i64 (2 * q + 148), .int .i64 2, .int .i64 4, .int .i64 28, .int .i64 Z], .int .i64 a] w fun e w' =>
      e = .returned (.tuple #[.int .i64 0, .int .i64 0, .int .i64 0]) ∧ Below w.heap.size w w' := by
  have l1 := L.lo
  have l2 := L.hi
  have c3 : (q == 0) = false := by rw [beq_eq_false_iff_ne]; omega
  have c4 : decide (a < 0) = true := decide_eq_true h1
  have HL := Lib.hid L
  clear L
  go_enter Try.func31, Try.ntmps31
  go_wp2_with (go_at_call 33; (with_reducible refine (qr_good HL.out _).mono ?_); rintro e w7 ⟨rfl, hb⟩; obtain ⟨hc, hf⟩ := bcell hb; have hz : w.heap.size < w7.heap.size := by { have := hb.size; simp at this; omega })
  
  
  go_ret3
  exact ⟨ret3 rfl rfl rfl, (by (repeat (with_reducible first | refine pw_below_drewN ?_ _ | refine below_drew1 ?_)); exact below_step (below_alloc (Below.refl _ _) _) hb)⟩

set_option maxHeartbeats 2000000 in
set_option maxRecDepth 100000 in
theorem rw_far {q S Z : Int} (L : Lay q S Z) (a : Int) (w : World) (h0 : 0 ≤ a) (h1 : S ≤ a) :
    Calls Try.prog 31 #[.agg #[.int .i64 S, .int .i64 (2 * q + 148), .int .i64 2, .int .i64 4, .int .i64 28, .int .i64 Z], .int .i64 a] w fun e w' =>
      e = .returned (.tuple #[.int .i64 0, .int .i64 0, .int .i64 0]) ∧ Below w.heap.size w w' := by
  have l1 := L.lo
  have l2 := L.hi
  have c3 : (q == 0) = false := by rw [beq_eq_false_iff_ne]; omega
  have c4 : decide (a < 0) = false := decide_eq_false (by omega)
  have c5 : decide (S ≤ a) = true := decide_eq_true h1
  have HL := Lib.hid L
  clear L
  go_enter Try.func31, Try.ntmps31
  go_wp2_with (go_at_call 33; (with_reducible refine (qr_good HL.out _).mono ?_); rintro e w7 ⟨rfl, hb⟩; obtain ⟨hc, hf⟩ := bcell hb; have hz : w.heap.size < w7.heap.size := by { have := hb.size; simp at this; omega })
  
  
  go_ret3
  exact ⟨ret3 rfl rfl rfl, (by (repeat (with_reducible first | refine pw_below_drewN ?_ _ | refine below_drew1 ?_)); exact below_step (below_alloc (Below.refl _ _) _) hb)⟩

set_option maxHeartbeats 2000000 in
set_option maxRecDepth 100000 in
theorem rw_spare {q S Z : Int} (L : Lay q S Z) (a : Int) (w : World) (h0 : 0 ≤ a) (hs : a < S) (h1 : 2 * (2 * q + 148) ≤ a) :
    Calls Try.prog 31 #[.agg #[.int .i64 S, .int .i64 (2 * q + 148), .int .i64 2, .int .i64 4, .int .i64 28, .int .i64 Z], .int .i64 a] w fun e w' =>
      e = .returned (.tuple #[.int .i64 5, .int .i64 0, .int .i64 (a - 2 * (2 * q + 148))]) ∧ Below w.heap.size w w' := by
  have l1 := L.lo
  have l2 := L.hi
  have c3 : (q == 0) = false := by rw [beq_eq_false_iff_ne]; omega
  have c4 : decide (a < 0) = false := decide_eq_false (by omega)
  have c5 : decide (S ≤ a) = false := decide_eq_false (by omega)
  have c6 : decide (2 * (2 * q + 148) ≤ a) = true := decide_eq_true h1
  have hS : a < 4000 := by have := L.s; omega
  have HL := Lib.hid L
  clear L
  go_enter Try.func31, Try.ntmps31
  go_wp2_with (go_at_call 33; (with_reducible refine (qr_good HL.out _).mono ?_); rintro e w7 ⟨rfl, hb⟩; obtain ⟨hc, hf⟩ := bcell hb; have hz : w.heap.size < w7.heap.size := by { have := hb.size; simp at this; omega })
  go_quiet (fail)
  go_wp2
  go_ret3
  exact ⟨ret3 rfl rfl (by first | rfl | (show wrap64 (a - 2 * (2 * q + 148)) = _; unfold wrap64; omega)), (by (repeat (with_reducible first | refine pw_below_drewN ?_ _ | refine below_drew1 ?_)); exact below_step (below_alloc (Below.refl _ _) _) hb)⟩

set_option maxHeartbeats 2000000 in
set_option maxRecDepth 100000 in
theorem rw_table {q S Z : Int} (L : Lay q S Z) (a : Int) (w : World) (b i : Int) (h0 : 0 ≤ a) (hs : a < S) (hb0 : 0 ≤ b) (hb1 : b ≤ 1) (hi0 : 0 ≤ i) (hi1 : i < 2 * q + 148) (hd : Int.tdiv a (2 * q + 148) = b) (hm : Int.tmod a (2 * q + 148) = i) (h1 : a < 2 * (2 * q + 148)) (h2 : i < 2) :
    Calls Try.prog 31 #[.agg #[.int .i64 S, .int .i64 (2 * q + 148), .int .i64 2, .int .i64 4, .int .i64 28, .int .i64 Z], .int .i64 a] w fun e w' =>
      e = .returned (.tuple #[.int .i64 1, .int .i64 b, .int .i64 (i - 0)]) ∧ Below w.heap.size w w' := by
  have l1 := L.lo
  have l2 := L.hi
  have c3 : (q == 0) = false := by rw [beq_eq_false_iff_ne]; omega
  have c4 : decide (a < 0) = false := decide_eq_false (by omega)
  have c5 : decide (S ≤ a) = false := decide_eq_false (by omega)
  have c6 : decide (2 * (2 * q + 148) ≤ a) = false := decide_eq_false (by omega)
  have c7 : ((2 * q + 148) == 0) = false := by rw [beq_eq_false_iff_ne]; omega
  have c8 : decide (i < 2) = true := decide_eq_true (by omega)
  have ed : a / (2 * q + 148) = b := by rw [← Int.tdiv_eq_ediv_of_nonneg h0]; exact hd
  have em : a % (2 * q + 148) = i := by rw [← Int.tmod_eq_emod_of_nonneg h0]; exact hm
  clear hd hm
  have HL := Lib.hid L
  clear L
  go_enter Try.func31, Try.ntmps31
  go_wp2_with (go_at_call 33; (with_reducible refine (qr_good HL.out _).mono ?_); rintro e w7 ⟨rfl, hb⟩; obtain ⟨hc, hf⟩ := bcell hb; have hz : w.heap.size < w7.heap.size := by { have := hb.size; simp at this; omega })
  go_quiet (fail)
  go_wp2
  go_ret3
  exact ⟨ret3 (by first | rfl | (simp; done) | decide) (by first | rfl | (simp; done) | assumption | (show wrap64 b = b; unfold wrap64; omega)) (by first | rfl | (simp; done) | (show a % (2 * q + 148) = _; rw [em, Int.sub_zero]) | (show wrap64 (i - 0) = _; unfold wrap64; omega)), (by (repeat (with_reducible first | refine pw_below_drewN ?_ _ | refine below_drew1 ?_)); exact below_step (below_alloc (Below.refl _ _) _) hb)⟩

set_option maxHeartbeats 2000000 in
set_option maxRecDepth 100000 in
theorem rw_root {q S Z : Int} (L : Lay q S Z) (a : Int) (w : World) (b i : Int) (h0 : 0 ≤ a) (hs : a < S) (hb0 : 0 ≤ b) (hb1 : b ≤ 1) (hi0 : 0 ≤ i) (hi1 : i < 2 * q + 148) (hd : Int.tdiv a (2 * q + 148) = b) (hm : Int.tmod a (2 * q + 148) = i) (h1 : a < 2 * (2 * q + 148)) (h2 : 2 ≤ i) (h3 : i < 4) :
    Calls Try.prog 31 #[.agg #[.int .i64 S, .int .i64 (2 * q + 148), .int .i64 2, .int .i64 4, .int .i64 28, .int .i64 Z], .int .i64 a] w fun e w' =>
      e = .returned (.tuple #[.int .i64 2, .int .i64 b, .int .i64 (i - 2)]) ∧ Below w.heap.size w w' := by
  have l1 := L.lo
  have l2 := L.hi
  have c3 : (q == 0) = false := by rw [beq_eq_false_iff_ne]; omega
  have c4 : decide (a < 0) = false := decide_eq_false (by omega)
  have c5 : decide (S ≤ a) = false := decide_eq_false (by omega)
  have c6 : decide (2 * (2 * q + 148) ≤ a) = false := decide_eq_false (by omega)
  have c7 : ((2 * q + 148) == 0) = false := by rw [beq_eq_false_iff_ne]; omega
  have c8 : decide (i < 2) = false := decide_eq_false (by omega)
  have c9 : decide (i < 4) = true := decide_eq_true (by omega)
  have ed : a / (2 * q + 148) = b := by rw [← Int.tdiv_eq_ediv_of_nonneg h0]; exact hd
  have em : a % (2 * q + 148) = i := by rw [← Int.tmod_eq_emod_of_nonneg h0]; exact hm
  clear hd hm
  have HL := Lib.hid L
  clear L
  go_enter Try.func31, Try.ntmps31
  go_wp2_with (go_at_call 33; (with_reducible refine (qr_good HL.out _).mono ?_); rintro e w7 ⟨rfl, hb⟩; obtain ⟨hc, hf⟩ := bcell hb; have hz : w.heap.size < w7.heap.size := by { have := hb.size; simp at this; omega })
  go_quiet (fail)
  go_wp2
  go_ret3
  exact ⟨ret3 (by first | rfl | (simp; done) | decide) (by first | rfl | (simp; done) | assumption | (show wrap64 b = b; unfold wrap64; omega)) (by first | rfl | (simp; done) | (show a % (2 * q + 148) = _; rw [em, Int.sub_zero]) | (show wrap64 (i - 2) = _; unfold wrap64; omega)), (by (repeat (with_reducible first | refine pw_below_drewN ?_ _ | refine below_drew1 ?_)); exact below_step (below_alloc (Below.refl _ _) _) hb)⟩

set_option maxHeartbeats 2000000 in
set_option maxRecDepth 100000 in
theorem rw_log {q S Z : Int} (L : Lay q S Z) (a : Int) (w : World) (b i : Int) (h0 : 0 ≤ a) (hs : a < S) (hb0 : 0 ≤ b) (hb1 : b ≤ 1) (hi0 : 0 ≤ i) (hi1 : i < 2 * q + 148) (hd : Int.tdiv a (2 * q + 148) = b) (hm : Int.tmod a (2 * q + 148) = i) (h1 : a < 2 * (2 * q + 148)) (h2 : 4 ≤ i) (h3 : i < 28) :
    Calls Try.prog 31 #[.agg #[.int .i64 S, .int .i64 (2 * q + 148), .int .i64 2, .int .i64 4, .int .i64 28, .int .i64 Z], .int .i64 a] w fun e w' =>
      e = .returned (.tuple #[.int .i64 3, .int .i64 b, .int .i64 (i - 4)]) ∧ Below w.heap.size w w' := by
  have l1 := L.lo
  have l2 := L.hi
  have c3 : (q == 0) = false := by rw [beq_eq_false_iff_ne]; omega
  have c4 : decide (a < 0) = false := decide_eq_false (by omega)
  have c5 : decide (S ≤ a) = false := decide_eq_false (by omega)
  have c6 : decide (2 * (2 * q + 148) ≤ a) = false := decide_eq_false (by omega)
  have c7 : ((2 * q + 148) == 0) = false := by rw [beq_eq_false_iff_ne]; omega
  have c8 : decide (i < 2) = false := decide_eq_false (by omega)
  have c9 : decide (i < 4) = false := decide_eq_false (by omega)
  have c10 : decide (i < 28) = true := decide_eq_true (by omega)
  have ed : a / (2 * q + 148) = b := by rw [← Int.tdiv_eq_ediv_of_nonneg h0]; exact hd
  have em : a % (2 * q + 148) = i := by rw [← Int.tmod_eq_emod_of_nonneg h0]; exact hm
  clear hd hm
  have HL := Lib.hid L
  clear L
  go_enter Try.func31, Try.ntmps31
  go_wp2_with (go_at_call 33; (with_reducible refine (qr_good HL.out _).mono ?_); rintro e w7 ⟨rfl, hb⟩; obtain ⟨hc, hf⟩ := bcell hb; have hz : w.heap.size < w7.heap.size := by { have := hb.size; simp at this; omega })
  go_quiet (fail)
  go_wp2
  go_ret3
  exact ⟨ret3 (by first | rfl | (simp; done) | decide) (by first | rfl | (simp; done) | assumption | (show wrap64 b = b; unfold wrap64; omega)) (by first | rfl | (simp; done) | (show a % (2 * q + 148) = _; rw [em, Int.sub_zero]) | (show wrap64 (i - 4) = _; unfold wrap64; omega)), (by (repeat (with_reducible first | refine pw_below_drewN ?_ _ | refine below_drew1 ?_)); exact below_step (below_alloc (Below.refl _ _) _) hb)⟩

set_option maxHeartbeats 2000000 in
set_option maxRecDepth 100000 in
theorem rw_region {q S Z : Int} (L : Lay q S Z) (a : Int) (w : World) (b i : Int) (h0 : 0 ≤ a) (hs : a < S) (hb0 : 0 ≤ b) (hb1 : b ≤ 1) (hi0 : 0 ≤ i) (hi1 : i < 2 * q + 148) (hd : Int.tdiv a (2 * q + 148) = b) (hm : Int.tmod a (2 * q + 148) = i) (h1 : a < 2 * (2 * q + 148)) (h2 : 28 ≤ i) :
    Calls Try.prog 31 #[.agg #[.int .i64 S, .int .i64 (2 * q + 148), .int .i64 2, .int .i64 4, .int .i64 28, .int .i64 Z], .int .i64 a] w fun e w' =>
      e = .returned (.tuple #[.int .i64 4, .int .i64 b, .int .i64 (i - 28)]) ∧ Below w.heap.size w w' := by
  have l1 := L.lo
  have l2 := L.hi
  have c3 : (q == 0) = false := by rw [beq_eq_false_iff_ne]; omega
  have c4 : decide (a < 0) = false := decide_eq_false (by omega)
  have c5 : decide (S ≤ a) = false := decide_eq_false (by omega)
  have c6 : decide (2 * (2 * q + 148) ≤ a) = false := decide_eq_false (by omega)
  have c7 : ((2 * q + 148) == 0) = false := by rw [beq_eq_false_iff_ne]; omega
  have c8 : decide (i < 2) = false := decide_eq_false (by omega)
  have c9 : decide (i < 4) = false := decide_eq_false (by omega)
  have c10 : decide (i < 28) = false := decide_eq_false (by omega)
  have ed : a / (2 * q + 148) = b := by rw [← Int.tdiv_eq_ediv_of_nonneg h0]; exact hd
  have em : a % (2 * q + 148) = i := by rw [← Int.tmod_eq_emod_of_nonneg h0]; exact hm
  clear hd hm
  have HL := Lib.hid L
  clear L
  go_enter Try.func31, Try.ntmps31
  go_wp2_with (go_at_call 33; (with_reducible refine (qr_good HL.out _).mono ?_); rintro e w7 ⟨rfl, hb⟩; obtain ⟨hc, hf⟩ := bcell hb; have hz : w.heap.size < w7.heap.size := by { have := hb.size; simp at this; omega })
  go_quiet (fail)
  go_wp2
  go_ret3
  exact ⟨ret3 (by first | rfl | (simp; done) | decide) (by first | rfl | (simp; done) | assumption | (show wrap64 b = b; unfold wrap64; omega)) (by first | rfl | (simp; done) | (show a % (2 * q + 148) = _; rw [em, Int.sub_zero]) | (show wrap64 (i - 28) = _; unfold wrap64; omega)), (by (repeat (with_reducible first | refine pw_below_drewN ?_ _ | refine below_drew1 ?_)); exact below_step (below_alloc (Below.refl _ _) _) hb)⟩

theorem rw_calls {q S Z : Int} (L : Lay q S Z) (a : Int) (w : World) :
    Calls Try.prog 31 #[.agg #[.int .i64 S, .int .i64 (2 * q + 148), .int .i64 2, .int .i64 4, .int .i64 28, .int .i64 Z], .int .i64 a] w fun e w' =>
      e = .returned (.tuple #[.int .i64 (goWhat (2 * q + 148) S a).1, .int .i64 (goWhat (2 * q + 148) S a).2.1, .int .i64 (goWhat (2 * q + 148) S a).2.2]) ∧ Below w.heap.size w w' := by
  have hs := L.s
  have hlo := L.lo
  unfold goWhat
  by_cases h1 : a < 0
  · rw [if_pos h1]; exact rw_neg L a w h1
  rw [if_neg h1]
  by_cases h2 : a ≥ S
  · rw [if_pos h2]; exact rw_far L a w (by omega) h2
  rw [if_neg h2]
  by_cases h3 : a ≥ 2 * (2 * q + 148)
  · rw [if_pos h3]; exact rw_spare L a w (by omega) (by omega) h3
  rw [if_neg h3]
  by_cases h5 : a < 2 * q + 148
  · obtain ⟨d1, d2⟩ := go_div a (2 * q + 148) 0 a (by omega) (by omega) (by omega) h5 (by omega)
    rw [if_pos h5]
    by_cases h6 : a ≥ 28
    · rw [if_pos h6]; exact rw_region L a w 0 _ (by omega) (by omega) (by omega) (by omega) (by omega) (by omega) d1 d2 (by omega) h6
    rw [if_neg h6]
    by_cases h7 : a ≥ 4
    · rw [if_pos h7]; exact rw_log L a w 0 _ (by omega) (by omega) (by omega) (by omega) (by omega) (by omega) d1 d2 (by omega) h7 (by omega)
    rw [if_neg h7]
    by_cases h8 : a ≥ 2
    · rw [if_pos h8]; exact rw_root L a w 0 _ (by omega) (by omega) (by omega) (by omega) (by omega) (by omega) d1 d2 (by omega) h8 (by omega)
    rw [if_neg h8]
    have := rw_table L a w 0 _ (by omega) (by omega) (by omega) (by omega) (by omega) (by omega) d1 d2 (by omega) (by omega)
    rw [Int.sub_zero] at this
    exact this
  · obtain ⟨d1, d2⟩ := go_div a (2 * q + 148) 1 (a - (2 * q + 148)) (by omega) (by omega) (by omega) (by omega) (by omega)
    rw [if_neg h5]
    by_cases h6 : a - (2 * q + 148) ≥ 28
    · rw [if_pos h6]; exact rw_region L a w 1 _ (by omega) (by omega) (by omega) (by omega) (by omega) (by omega) d1 d2 (by omega) h6
    rw [if_neg h6]
    by_cases h7 : a - (2 * q + 148) ≥ 4
    · rw [if_pos h7]; exact rw_log L a w 1 _ (by omega) (by omega) (by omega) (by omega) (by omega) (by omega) d1 d2 (by omega) h7 (by omega)
    rw [if_neg h7]
    by_cases h8 : a - (2 * q + 148) ≥ 2
    · rw [if_pos h8]; exact rw_root L a w 1 _ (by omega) (by omega) (by omega) (by omega) (by omega) (by omega) d1 d2 (by omega) h8 (by omega)
    rw [if_neg h8]
    have := rw_table L a w 1 _ (by omega) (by omega) (by omega) (by omega) (by omega) (by omega) d1 d2 (by omega) (by omega)
    rw [Int.sub_zero] at this
    exact this

/-- geom.What, with S and Z -/
theorem what_named {q S Z : Int} (L : Lay q S Z) (a : Int) (w : World) :
    Calls Try.prog 30 #[.agg #[.int .i64 S, .int .i64 (2 * q + 148), .int .i64 2, .int .i64 4, .int .i64 28, .int .i64 Z], .int .i64 a] w fun e w' =>
      e = .returned (.tuple #[.int .i64 (goWhat (2 * q + 148) S a).1, .int .i64 (goWhat (2 * q + 148) S a).2.1, .int .i64 (goWhat (2 * q + 148) S a).2.2]) ∧ Below w.heap.size w w' := by
  obtain ⟨h1, h2, rfl, rfl⟩ := L
  exact what_calls h1 h2 a w
theorem quota_good {q S Z : Int} (L : Lay q S Z) (w : World) :
    Calls Try.prog 32 #[.agg #[.int .i64 S, .int .i64 (2 * q + 148), .int .i64 2, .int .i64 4, .int .i64 28, .int .i64 Z]] w fun e w' => e = .returned (.int .i64 q) ∧ Below w.heap.size w w' := by
  obtain ⟨h1, h2, rfl, rfl⟩ := L
  exact geom_Quota.calls 2 _ _ _ _ _ _ _ w (go_quota h1 h2 1)
theorem what_none_all {g0 g1 g2 g3 g4 g5 : Int} (N : NoLay g0 g1 g2 g3 g4 g5) (hf : -9223372036854775808 ≤ g5 ∧ g5 ≤ 9223372036854775807) (x : Int) (w : World) :
    Calls Try.prog 30 #[.agg #[.int .i64 g0, .int .i64 g1, .int .i64 g2, .int .i64 g3, .int .i64 g4, .int .i64 g5], .int .i64 x] w fun e w' => e = .returned (.tuple #[.int .i64 0, .int .i64 0, .int .i64 0]) ∧ Below w.heap.size w w' := by
  rcases Int.lt_or_le x 0 with h | h
  · exact what_neg _ _ _ _ _ _ _ _ h
  · rcases Int.lt_or_le x g0 with h2 | h2
    · exact what_none 2 _ _ _ _ _ _ _ _ h h2 (gq_none N hf 1)
    · exact what_far _ _ _ _ _ _ _ _ h h2
end Go.Proofs.Ytkajbhkhecoccaa.GeoRefWhat
