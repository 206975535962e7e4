/- The laws GeomMakes and GeomAsks: the layout of any quota, and of any count of sectors, the quota of any layout, and what stands in any sector of it, are the reference's. No condition: for all numbers. -/
import Derived.Test.YtkajbhkhecoccaaGeoRefWhat
import Derived.Deep.RegionWith
import Derived.Outline
import Derived.Deep.QuietTactic
set_option linter.unusedVariables false
set_option linter.unusedSimpArgs false
namespace Go.Proofs.Ytkajbhkhecoccaa.GeoLaws
open Go.RowKit Go.Proofs.Ytkajbhkhecoccaa.PGeomOnce Go.Proofs.YtkajbhkhecoccaaW.PrintWords Go.Proofs.YtkajbhkhecoccaaW.PrintLast Go.Proofs.YtkajbhkhecoccaaW.PrintMore Go.Proofs.Ytkajbhkhecoccaa.GeoWhat Go.Proofs.Ytkajbhkhecoccaa.GeoRef Go.Proofs.Ytkajbhkhecoccaa.GeoRefWhat

/-- seven numbers as a layout and an error -/
def T7 (r : Int × Int × Int × Int × Int × Int × Int) : Value := .tuple #[.agg #[.int .i64 r.1, .int .i64 r.2.1, .int .i64 r.2.2.1, .int .i64 r.2.2.2.1, .int .i64 r.2.2.2.2.1, .int .i64 r.2.2.2.2.2.1], .int .i64 r.2.2.2.2.2.2]

theorem quota_any (q r0 r1 r2 r3 r4 r5 r6 : Int) (w : World) (h : geom_ForQuota.f q = some (r0, r1, r2, r3, r4, r5, r6)) :
    Calls Try.prog 19 #[.int .i64 q] w fun e w' => e = .returned (.tuple #[.agg #[.int .i64 r0, .int .i64 r1, .int .i64 r2, .int .i64 r3, .int .i64 r4, .int .i64 r5], .int .i64 r6]) ∧ Below w.heap.size w w' := by
  by_cases h1 : q < 4
  · rw [go_fq_low h1] at h
    simp only [Option.some.injEq, Prod.mk.injEq] at h
    obtain ⟨rfl, rfl, rfl, rfl, rfl, rfl, rfl⟩ := h
    exact fq_low q w h1
  by_cases h2 : 900 < q
  · rw [go_fq_high h2] at h
    simp only [Option.some.injEq, Prod.mk.injEq] at h
    obtain ⟨rfl, rfl, rfl, rfl, rfl, rfl, rfl⟩ := h
    exact fq_high q w h2
  rw [go_fq_good (by omega) (by omega)] at h
  simp only [Option.some.injEq, Prod.mk.injEq] at h
  obtain ⟨rfl, rfl, rfl, rfl, rfl, rfl, rfl⟩ := h
  exact fq_good ⟨by omega, by omega, rfl, rfl⟩ w

/-- what both make of a count of sectors -/
theorem sectors_any (n : Int) (hw : -9223372036854775808 ≤ n ∧ n ≤ 9223372036854775807) : ∃ s0 s1 s2 s3 s4 s5 s6 : Int,
    (∀ w, Calls Try.prog 20 #[.int .i64 n] w fun e w' => e = .returned (.tuple #[.agg #[.int .i64 s0, .int .i64 s1, .int .i64 s2, .int .i64 s3, .int .i64 s4, .int .i64 s5], .int .i64 s6]) ∧ Below w.heap.size w w') ∧
    (∀ w, Calls Try.prog 21 #[.int .i64 n] w fun e w' => e = .returned (.tuple #[.agg #[.int .i64 s0, .int .i64 s1, .int .i64 s2, .int .i64 s3, .int .i64 s4, .int .i64 s5], .int .i64 s6]) ∧ Below w.heap.size w w') := by
  by_cases hL : ∃ q, 4 ≤ q ∧ q ≤ 900 ∧ 4 * q + 316 = n
  · obtain ⟨q, h1, h2, rfl⟩ := hL
    have L : Lay q (4 * q + 316) (2 * q + 120) := ⟨h1, h2, rfl, rfl⟩
    have hd : Int.tdiv (4 * q + 316 - 20 - 296) 4 = q := by rw [Int.tdiv_eq_ediv_of_nonneg (by omega)]; omega
    exact ⟨_, _, _, _, _, _, _, fun w => fs_good _ (by omega) (by omega) q _ hd L w, fun w => fsr_good L w⟩
  have hn : ∀ k : Int, 4 ≤ k → k ≤ 900 → 4 * k + 316 ≠ n := fun k a b c => hL ⟨k, a, b, c⟩
  refine ⟨0, 0, 0, 0, 0, 0, 1, fun w => ?_, fun w => fsr_none n hn w⟩
  by_cases h : n < 0
  · exact fs_neg n h w
  have hm : ∃ t, Int.tdiv (n - 20 - 296) 4 = t := ⟨_, rfl⟩
  obtain ⟨t, ht⟩ := hm
  have hb : -1000 ≤ t ∧ t ≤ 4611686018427387904 := by
    rw [← ht, Int.tdiv_eq_ediv, show (4 : Int).sign = 1 from rfl]; split <;> constructor <;> omega
  by_cases h1 : t < 4
  · exact fs_bad n (by omega) hw.2 t ht hb.1 hb.2 (go_fq_low h1) w
  by_cases h2 : 900 < t
  · exact fs_bad n (by omega) hw.2 t ht hb.1 hb.2 (go_fq_high h2) w
  exact fs_other n (by omega) hw.2 t _ _ ht ⟨by omega, by omega, rfl, rfl⟩ (hn t (by omega) (by omega)) w

set_option maxHeartbeats 4000000 in
set_option maxRecDepth 100000 in
theorem makes_walk (q n r0 r1 r2 r3 r4 r5 r6 s0 s1 s2 s3 s4 s5 s6 : Int) (w : World) (hq : geom_ForQuota.f q = some (r0, r1, r2, r3, r4, r5, r6))
    (hs : (∀ w, Calls Try.prog 20 #[.int .i64 n] w fun e w' => e = .returned (.tuple #[.agg #[.int .i64 s0, .int .i64 s1, .int .i64 s2, .int .i64 s3, .int .i64 s4, .int .i64 s5], .int .i64 s6]) ∧ Below w.heap.size w w') ∧
      (∀ w, Calls Try.prog 21 #[.int .i64 n] w fun e w' => e = .returned (.tuple #[.agg #[.int .i64 s0, .int .i64 s1, .int .i64 s2, .int .i64 s3, .int .i64 s4, .int .i64 s5], .int .i64 s6]) ∧ Below w.heap.size w w')) :
    Calls Try.prog 4 #[.int .i64 q, .int .i64 n] w fun e w' => e = .returned (.bool true) ∧ Below w.heap.size w w' := by
  have HA := Lib.hid go_alive
  have HQ := Lib.hid hq
  have HS := Lib.hid hs
  clear hq hs
  go_enter Try.func4, Try.ntmps4
  go_wp2_with (first
    | (go_at_call 17; (with_reducible refine (lazaretlaw08_alive.calls 4 true _ HA.out).mono ?_); rintro e w1 ⟨rfl, hb1⟩)
    | (go_at_call 18; (with_reducible refine (geom_ForQuota.calls q r0 r1 r2 r3 r4 r5 r6 _ HQ.out).mono ?_); rintro e w2 ⟨rfl, hb2⟩)
    | (go_at_call 19; (with_reducible refine (quota_any q r0 r1 r2 r3 r4 r5 r6 _ HQ.out).mono ?_); rintro e w3 ⟨rfl, hb3⟩; obtain ⟨hc3, hf3⟩ := bcell hb3; have hz3 : w2.heap.size < w3.heap.size := Nat.lt_of_lt_of_le (by simp) hb3.size)
    | (go_at_call 20; (with_reducible refine (HS.out.1 _).mono ?_); rintro e w4 ⟨rfl, hb4⟩; obtain ⟨hc4, hf4⟩ := bcell hb4; have hz4 : w3.heap.size < w4.heap.size := Nat.lt_of_lt_of_le (by simp) hb4.size; have hz4a : w2.heap.size < w4.heap.size := by omega))
  refine (HS.out.2 _).mono ?_
  rintro e w5 ⟨rfl, hb5⟩
  obtain ⟨hc5, hf5⟩ := bcell hb5
  have hz5 : w4.heap.size < w5.heap.size := Nat.lt_of_lt_of_le (by simp) hb5.size
  have hz5a : w2.heap.size < w5.heap.size := by omega
  have hz5b : w3.heap.size < w5.heap.size := by omega
  go_wp2
  go_ret
  refine ⟨by first | rfl | (simp; done), ?_⟩
  exact below_alloc (below_step (below_alloc (below_step (below_alloc (below_step (below_alloc (below_step hb1 hb2) _) hb3) _) hb4) _) hb5) _

theorem makes_all (q n : Int) (w : World) (hw : -9223372036854775808 ≤ n ∧ n ≤ 9223372036854775807) :
    Calls Try.prog 4 #[.int .i64 q, .int .i64 n] w fun e w' => e = .returned (.bool true) ∧ Below w.heap.size w w' := by
  have hx : ∃ r0 r1 r2 r3 r4 r5 r6, geom_ForQuota.f q = some (r0, r1, r2, r3, r4, r5, r6) := by
    unfold geom_ForQuota.f; split
    · exact ⟨_, _, _, _, _, _, _, rfl⟩
    · split <;> exact ⟨_, _, _, _, _, _, _, rfl⟩
  obtain ⟨r0, r1, r2, r3, r4, r5, r6, hr⟩ := hx
  obtain ⟨s0, s1, s2, s3, s4, s5, s6, hs⟩ := sectors_any n hw
  exact makes_walk q n r0 r1 r2 r3 r4 r5 r6 s0 s1 s2 s3 s4 s5 s6 w hr hs

set_option maxHeartbeats 4000000 in
set_option maxRecDepth 100000 in
theorem asks_walk (g0 g1 g2 g3 g4 g5 x qq a b c : Int) (w : World)
    (h30 : ∀ w, Calls Try.prog 30 #[.agg #[.int .i64 g0, .int .i64 g1, .int .i64 g2, .int .i64 g3, .int .i64 g4, .int .i64 g5], .int .i64 x] w fun e w' => e = .returned (.tuple #[.int .i64 a, .int .i64 b, .int .i64 c]) ∧ Below w.heap.size w w')
    (h31 : ∀ w, Calls Try.prog 31 #[.agg #[.int .i64 g0, .int .i64 g1, .int .i64 g2, .int .i64 g3, .int .i64 g4, .int .i64 g5], .int .i64 x] w fun e w' => e = .returned (.tuple #[.int .i64 a, .int .i64 b, .int .i64 c]) ∧ Below w.heap.size w w')
    (h32 : ∀ w, Calls Try.prog 32 #[.agg #[.int .i64 g0, .int .i64 g1, .int .i64 g2, .int .i64 g3, .int .i64 g4, .int .i64 g5]] w fun e w' => e = .returned (.int .i64 qq) ∧ Below w.heap.size w w')
    (h33 : ∀ w, Calls Try.prog 33 #[.agg #[.int .i64 g0, .int .i64 g1, .int .i64 g2, .int .i64 g3, .int .i64 g4, .int .i64 g5]] w fun e w' => e = .returned (.int .i64 qq) ∧ Below w.heap.size w w') :
    Calls Try.prog 8 #[.agg #[.int .i64 g0, .int .i64 g1, .int .i64 g2, .int .i64 g3, .int .i64 g4, .int .i64 g5], .int .i64 x] w fun e w' => e = .returned (.bool true) ∧ Below w.heap.size w w' := by
  have HA := Lib.hid go_alive
  have H0 := Lib.hid h30
  have H1 := Lib.hid h31
  have H2 := Lib.hid h32
  have H3 := Lib.hid h33
  clear h30 h31 h32 h33
  go_enter Try.func8, Try.ntmps8
  go_wp2_with (first
    | (go_at_call 17; (with_reducible refine (lazaretlaw08_alive.calls 4 true _ HA.out).mono ?_); rintro e w1 ⟨rfl, hb1⟩; obtain ⟨hc1, hf1⟩ := bcell hb1; have hz1 : w.heap.size < w1.heap.size := Nat.lt_of_lt_of_le (by simp) hb1.size)
    | (go_at_call 30; (with_reducible refine (H0.out _).mono ?_); rintro e w2 ⟨rfl, hb2⟩; obtain ⟨hc2, hf2⟩ := bcell hb2; have hz2 : w.heap.size < w2.heap.size := by { have := hb2.size; omega })
    | (go_at_call 31; (with_reducible refine (H1.out _).mono ?_); rintro e w3 ⟨rfl, hb3⟩; obtain ⟨hc3, hf3⟩ := bcell hb3; have hz3 : w.heap.size < w3.heap.size := by { have := hb3.size; omega }))
  have hblk : w3.heap[w.heap.size]? = some (.cells #[.int .i64 g0, .int .i64 g1, .int .i64 g2, .int .i64 g3, .int .i64 g4, .int .i64 g5] 31 (0, 0)) := blk_below (blk_below (blk_below (blk_new _ _) hb1) hb2) hb3
  have hB3 : Below w.heap.size w w3 := below_step (below_step (below_step (below_alloc (Below.refl _ _) _) hb1) hb2) hb3
  go_region_held3 (fun w' => w'.cell? ⟨w.heap.size, 0, none⟩ = some (.int .i64 g0) ∧ w'.cell? ⟨w.heap.size, 1, none⟩ = some (.int .i64 g1) ∧ w'.cell? ⟨w.heap.size, 2, none⟩ = some (.int .i64 g2) ∧ w'.cell? ⟨w.heap.size, 3, none⟩ = some (.int .i64 g3) ∧ w'.cell? ⟨w.heap.size, 4, none⟩ = some (.int .i64 g4) ∧ w'.cell? ⟨w.heap.size, 5, none⟩ = some (.int .i64 g5) ∧ w.heap.size < w'.heap.size ∧ Below w.heap.size w w') ((repeat' apply And.intro) <;> first | go_keep | (exact below_drew1 hB3) | (exact below_step (below_drew1 hB3) hbx) | (exact below_step (below_drew1 hB3) hby) | (exact below_step (below_step (below_drew1 hB3) hbx) hby) | (exact below_step (below_step (below_drew1 hB3) hby) hbx) | (exact (blk_cell (blk_below (blk_drew hblk) hbx) _).trans rfl) | (exact (blk_cell (blk_below (blk_drew hblk) hby) _).trans rfl) | (exact (blk_cell (blk_below (blk_below (blk_drew hblk) hbx) hby) _).trans rfl) | (exact (blk_cell (blk_below (blk_below (blk_drew hblk) hby) hbx) _).trans rfl) | (simp; omega) | omega) (first
    | (go_at_call 32; refine (H2.out _).mono ?_; rintro e wx ⟨rfl, hbx⟩; obtain ⟨hcx, hfx⟩ := bcell hbx; have hzx := hbx.size)
    | (go_at_call 33; refine (H3.out _).mono ?_; rintro e wy ⟨rfl, hby⟩; obtain ⟨hcy, hfy⟩ := bcell hby; have hzy := hby.size))
  all_goals (try go_wp2)
  all_goals go_ret
  all_goals (refine ⟨by first | rfl | (simp; done), ?_⟩)
  all_goals exact below_step (below_step (below_drew1 hB3) hbx) hby

theorem asks_all (g0 g1 g2 g3 g4 g5 x : Int) (w : World) (hf : -9223372036854775808 ≤ g5 ∧ g5 ≤ 9223372036854775807) :
    Calls Try.prog 8 #[.agg #[.int .i64 g0, .int .i64 g1, .int .i64 g2, .int .i64 g3, .int .i64 g4, .int .i64 g5], .int .i64 x] w fun e w' => e = .returned (.bool true) ∧ Below w.heap.size w w' := by
  by_cases hL : ∃ q, 4 ≤ q ∧ q ≤ 900 ∧ 4 * q + 316 = g0 ∧ 2 * q + 148 = g1 ∧ 2 = g2 ∧ 4 = g3 ∧ 28 = g4 ∧ 2 * q + 120 = g5
  · obtain ⟨q, h1, h2, rfl, rfl, rfl, rfl, rfl, rfl⟩ := hL
    have L : Lay q (4 * q + 316) (2 * q + 120) := ⟨h1, h2, rfl, rfl⟩
    exact asks_walk _ _ _ _ _ _ x q _ _ _ w (fun w => what_named L x w) (fun w => rw_calls L x w) (fun w => quota_good L w) (fun w => qr_good L w)
  · have NL : NoLay g0 g1 g2 g3 g4 g5 := fun k a b c => hL ⟨k, a, b, c⟩
    exact asks_walk _ _ _ _ _ _ x 0 0 0 0 w (fun w => what_none_all NL hf x w) (fun w => rw_none NL x w) (fun w => geom_Quota.calls 2 _ _ _ _ _ _ _ w (gq_none NL hf 1)) (fun w => qr_none NL w)

end Go.Proofs.Ytkajbhkhecoccaa.GeoLaws
